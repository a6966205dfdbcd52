/- Which manifests may be: the program's and the document's answer. -/
import Derived.Test.YtdalckmbmcenbaaTw
namespace Go.Proofs.Ytdalckmbmcenbaa.Sn
open Go.RowKit Go.Proofs.YtdalckmbmcenbaaW.PrintWords Go.Proofs.YtdalckmbmcenbaaW.PrintLast Go.Proofs.YtdalckmbmcenbaaW.PrintMore
set_option linter.unusedVariables false
set_option linter.unusedSimpArgs false

/-- A manifest's cells: its root, its time, its label. -/
def man (r : List Int) (t : Int) (s : ByteArray) : Array Value := (nums .u8 r ++ [Value.int .i64 t, Value.string s]).toArray
theorem man_size (r : List Int) (t : Int) (s : ByteArray) (hr : r.length = 32) : (man r t s).size = 34 := by simp [man, nums, hr]
theorem man_time (r : List Int) (t : Int) (s : ByteArray) (hr : r.length = 32) : (man r t s)[32]? = some (.int .i64 t) := by
  unfold man; rw [List.getElem?_toArray, List.getElem?_append_right (by simp [nums, hr])]; simp [nums, hr]
theorem man_label (r : List Int) (t : Int) (s : ByteArray) (hr : r.length = 32) : (man r t s)[33]? = some (.string s) := by
  unfold man; rw [List.getElem?_toArray, List.getElem?_append_right (by simp [nums, hr])]; simp [nums, hr]
/-- a byte of a label -/
def okB (s : ByteArray) (j : Nat) : Bool := decide (32 ≤ bt s j) && decide (bt s j ≤ 126)
def fairB (s : ByteArray) : Bool := (List.range s.size).all (okB s)
def mayB (t : Int) (s : ByteArray) : Bool := decide (0 ≤ t) && decide (s.size ≤ 64) && fairB s
theorem fair_no (s : ByteArray) (j : Nat) (hj : j < s.size) (h : okB s j = false) : fairB s = false := by
  unfold fairB
  rw [List.all_eq_false]
  exact ⟨j, List.mem_range.2 hj, by simp [h]⟩
theorem fair_yes (s : ByteArray) (h : ∀ j, j < s.size → okB s j = true) : fairB s = true := by
  unfold fairB
  rw [List.all_eq_true]
  exact fun j hj => h j (List.mem_range.1 hj)

theorem ok_next {s : ByteArray} {j : Nat} (h : ∀ i, i < j → okB s i = true) (hj : okB s j = true) : ∀ i, i < j + 1 → okB s i = true := by
  intro i hi
  by_cases e : i = j
  · rw [e]; exact hj
  · exact h i (by omega)
set_option maxHeartbeats 800000 in
theorem may_calls (r : List Int) (t : Int) (s : ByteArray) (w : World) (hr : r.length = 32) (hs : s.size ≤ 9223372036854775807) :
    Calls Try.prog 9 #[.agg (man r t s)] w fun e w' => e = .returned (.bool (mayB t s)) ∧ Below w.heap.size w w' := by
  have c1 : (w.alloc (.cells (man r t s) 25)).cell? ⟨w.heap.size, 32, none⟩ = some (.int .i64 t) := by rw [blk_cell (heap_alloc_new w _), man_time r t s hr]
  have c2 : (w.alloc (.cells (man r t s) 25)).cell? ⟨w.heap.size, 33, none⟩ = some (.string s) := by rw [blk_cell (heap_alloc_new w _), man_label r t s hr]
  have HB := Aside0.mk ((Below.refl w.heap.size w).alloc (Nat.le_refl _) (.cells (man r t s) 25))
  clear hr
  by_cases ht : t < 0
  · have hm := Aside0.mk (show mayB t s = false by simp [mayB]; omega)
    have d1 : decide (t < 0) = true := decide_eq_true ht
    clear ht
    go_enter Try.func9, Try.ntmps9
    go_wp2
    go_ret
    exact ⟨by rw [hm.out]; rfl, HB.out⟩
  · have d1 : decide (t < 0) = false := decide_eq_false ht
    by_cases hl : s.size ≤ 64
    · have d2 : decide (64 < (s.size : Int)) = false := by simp; omega
      have hm : Aside0 (mayB t s = fairB s) := ⟨by unfold mayB; rw [decide_eq_true (show 0 ≤ t by omega), decide_eq_true hl]; simp⟩
      clear ht hl
      go_enter Try.func9, Try.ntmps9
      go_wp2
      go_loop [3, 16] (fun _ v => ∃ j : Nat, j ≤ s.size ∧ v = .int .i64 j ∧ Aside0 (∀ i, i < j → okB s i = true)) (fun _ v => s.size - (intOf v).toNat)
      case atStart => exact ⟨0, by omega, rfl, ⟨fun i hi => absurd hi (by omega)⟩⟩
      case round =>
        obtain ⟨j, hj, rfl, HJ⟩ := hrel
        by_cases hlt : j < s.size
        · have hx := bt_at s j (by simpa using hlt)
          simp only [Int.toNat_natCast] at hx
          by_cases h32 : bt s j < 32
          · have hok : Aside0 (okB s j = false) := ⟨by unfold okB; rw [decide_eq_false (show ¬ 32 ≤ bt s j by omega)]; rfl⟩
            have e1 : decide (bt s j < 32) = true := decide_eq_true h32
            clear h32
            go_wp2
            go_ret
            exact ⟨by rw [hm.out, fair_no s j hlt hok.out]; rfl, HB.out⟩
          · have e1 : decide (bt s j < 32) = false := decide_eq_false h32
            by_cases h126 : 126 < bt s j
            · have hok : Aside0 (okB s j = false) := ⟨by unfold okB; rw [decide_eq_false (show ¬ bt s j ≤ 126 by omega)]; simp⟩
              have e2 : decide (126 < bt s j) = true := decide_eq_true h126
              clear h32 h126
              go_wp2
              go_ret
              exact ⟨by rw [hm.out, fair_no s j hlt hok.out]; rfl, HB.out⟩
            · have hok : Aside0 (okB s j = true) := ⟨by unfold okB; rw [decide_eq_true (show 32 ≤ bt s j by omega), decide_eq_true (show bt s j ≤ 126 by omega)]; rfl⟩
              have e2 : decide (126 < bt s j) = false := decide_eq_false h126
              clear h32 h126
              go_wp2
              go_round
              case rel => exact ⟨j + 1, by omega, by go_num, ⟨ok_next HJ.out hok.out⟩⟩
              case measure => simp [intOf]; omega
        · obtain rfl : j = s.size := by omega
          go_wp2
          go_ret
          exact ⟨by rw [hm.out, fair_yes s HJ.out]; rfl, HB.out⟩
    · have d2 : decide (64 < (s.size : Int)) = true := by simp; omega
      have hm : Aside0 (mayB t s = false) := ⟨by unfold mayB; rw [decide_eq_false hl]; simp⟩
      clear ht hl
      go_enter Try.func9, Try.ntmps9
      go_wp2
      go_ret
      exact ⟨by rw [hm.out]; rfl, HB.out⟩

set_option maxHeartbeats 800000 in
theorem ref_may_calls (r : List Int) (t : Int) (s : ByteArray) (w : World) (hr : r.length = 32) (hs : s.size ≤ 9223372036854775807) :
    Calls Try.prog 10 #[.agg (man r t s)] w fun e w' => e = .returned (.bool (mayB t s)) ∧ Below w.heap.size w w' := by
  have c1 : (w.alloc (.cells (man r t s) 25)).cell? ⟨w.heap.size, 32, none⟩ = some (.int .i64 t) := by rw [blk_cell (heap_alloc_new w _), man_time r t s hr]
  have c2 : (w.alloc (.cells (man r t s) 25)).cell? ⟨w.heap.size, 33, none⟩ = some (.string s) := by rw [blk_cell (heap_alloc_new w _), man_label r t s hr]
  have HB := Aside0.mk ((Below.refl w.heap.size w).alloc (Nat.le_refl _) (.cells (man r t s) 25))
  clear hr
  go_enter Try.func10, Try.ntmps10
  go_wp2
  go_loop [3] (fun v => ∃ j : Nat, j ≤ s.size ∧ v = .int .i64 j ∧ Aside0 (∀ i, i < j → okB s i = true)) (fun v => s.size - (intOf v).toNat)
  case atStart => exact ⟨0, by omega, rfl, ⟨fun i hi => absurd hi (by omega)⟩⟩
  case round =>
    obtain ⟨j, hj, rfl, HJ⟩ := hrel
    by_cases hlt : j < s.size
    · have hx := bt_at s j (by simpa using hlt)
      simp only [Int.toNat_natCast] at hx
      by_cases h32 : bt s j < 32
      · have hok : Aside0 (okB s j = false) := ⟨by unfold okB; rw [decide_eq_false (show ¬ 32 ≤ bt s j by omega)]; rfl⟩
        have hm : Aside0 (mayB t s = false) := ⟨by unfold mayB; rw [fair_no s j hlt hok.out]; simp⟩
        have e1 : decide (bt s j < 32) = true := decide_eq_true h32
        clear h32
        go_wp2
        go_ret
        exact ⟨by rw [hm.out]; rfl, HB.out⟩
      · have e1 : decide (bt s j < 32) = false := decide_eq_false h32
        by_cases h126 : 126 < bt s j
        · have hok : Aside0 (okB s j = false) := ⟨by unfold okB; rw [decide_eq_false (show ¬ bt s j ≤ 126 by omega)]; simp⟩
          have hm : Aside0 (mayB t s = false) := ⟨by unfold mayB; rw [fair_no s j hlt hok.out]; simp⟩
          have e2 : decide (126 < bt s j) = true := decide_eq_true h126
          clear h32 h126
          go_wp2
          go_ret
          exact ⟨by rw [hm.out]; rfl, HB.out⟩
        · have hok : Aside0 (okB s j = true) := ⟨by unfold okB; rw [decide_eq_true (show 32 ≤ bt s j by omega), decide_eq_true (show bt s j ≤ 126 by omega)]; rfl⟩
          have e2 : decide (126 < bt s j) = false := decide_eq_false h126
          clear h32 h126
          go_wp2
          go_round
          case rel => exact ⟨j + 1, by omega, by go_num, ⟨ok_next HJ.out hok.out⟩⟩
          case measure => simp [intOf]; omega
    · obtain rfl : j = s.size := by omega
      have hf := Aside0.mk (fair_yes s HJ.out)
      by_cases ht : 0 ≤ t
      · have d1 : decide (0 ≤ t) = true := decide_eq_true ht
        clear ht
        by_cases hl : s.size ≤ 64
        · have d2 : decide ((s.size : Int) ≤ 64) = true := by simp; omega
          have hm : Aside0 (mayB t s = true) := ⟨by unfold mayB; rw [hf.out, d1, decide_eq_true hl]; rfl⟩
          go_wp2
          go_ret
          exact ⟨by rw [hm.out]; rfl, HB.out⟩
        · have d2 : decide ((s.size : Int) ≤ 64) = false := by simp; omega
          have hm : Aside0 (mayB t s = false) := ⟨by unfold mayB; rw [decide_eq_false hl]; simp⟩
          go_wp2
          go_ret
          exact ⟨by rw [hm.out]; rfl, HB.out⟩
      · have d1 : decide (0 ≤ t) = false := decide_eq_false ht
        have hm : Aside0 (mayB t s = false) := ⟨by unfold mayB; rw [d1]; simp⟩
        clear ht
        go_wp2
        go_ret
        exact ⟨by rw [hm.out]; rfl, HB.out⟩
end Go.Proofs.Ytdalckmbmcenbaa.Sn
