/- What the laws' Twin, Kept and Spoil do: a copy with three bytes behind it, whether it stayed, and an answer written over. -/
import Derived.Test.YtgpgblidplmchaaPOctx0
import Derived.Laws.CopyOwn
namespace Go.Proofs.Ytgpgblidplmchaa.Tw
open Go.RowKit Go.Proofs.YtgpgblidplmchaaW.PrintWords Go.Proofs.YtgpgblidplmchaaW.PrintLast Go.Proofs.YtgpgblidplmchaaW.PrintMore
set_option linter.unusedVariables false
set_option linter.unusedSimpArgs false

/-- Block g is the twin of xs: xs, and three bytes behind. -/
def Twin (w : World) (g : Nat) (xs : List Int) : Prop := w.heap[g]? = some (.cells (nums .u8 (xs ++ [229, 229, 229])).toArray 5 (0, 0))
theorem Twin.below {w w' : World} {g B : Nat} {xs : List Int} (h : Twin w g xs) (hb : Below B w w') (hg : g < B) : Twin w' g xs := (hb.block g hg).trans h
theorem Twin.grown {w w' : World} {g : Nat} {row : Option Nat} {xs : List Int} (h : Twin w g xs) (hg : w.grownBy w' row) (hne : some g ≠ row) : Twin w' g xs := blk_grown h hg hne
theorem Twin.lt {w : World} {g : Nat} {xs : List Int} (h : Twin w g xs) : g < w.heap.size := blk_lt h
theorem Twin.drew {w : World} {g : Nat} {xs : List Int} (h : Twin w g xs) : Twin w.drew g xs := h
theorem Twin.C {w : World} {g : Nat} {xs : List Int} (h : Twin w g xs) (hl : xs.length ≤ 9223372036854775807) : Kd.C (Kd.int .u8) w (some ⟨g, 0, none⟩) xs.length xs := by
  refine Kd.C_of_reads (d := (0 : Int)) (h1 := fun _ => rfl) ⟨rfl, hl, fun _ => ⟨_, rfl, fun j hj => ?_⟩⟩
  rw [add_plain, blk_cell h]
  have hj2 : j < (nums .u8 xs).length := by rw [nums_length]; exact hj
  rw [nums_append, List.getElem?_toArray, List.getElem?_append_left hj2]
  simp [nums, List.getElem?_eq_getElem hj, List.getD_eq_getElem?_getD]

/-- the block while Twin writes behind the copy -/
def Part (w : World) (g : Nat) (xs : List Int) (j : Nat) : Prop := w.heap[g]? = some (.cells (nums .u8 (xs ++ List.replicate j 229 ++ List.replicate (3 - j) 0)).toArray 5 (0, 0))
theorem part_cell {w : World} {g : Nat} {xs : List Int} {j : Nat} (h : Part w g xs j) (hj : j < 3) : w.cell? ⟨g, xs.length + j, none⟩ = some (.int .u8 0) ∧ w.frozen? ⟨g, xs.length + j, none⟩ = false := by
  refine ⟨?_, blk_frozen h _⟩
  rw [blk_cell h]
  have h1 : j - j = 0 := by omega
  simp [nums, List.getElem?_append, List.getElem?_replicate, h1]
  omega
theorem part_set {w : World} {g : Nat} {xs : List Int} {j : Nat} (h : Part w g xs j) (hj : j < 3) : Part (w.setCell ⟨g, xs.length + j, none⟩ (.int .u8 229)) g xs (j + 1) := by
  have := blk_set h (xs.length + j) (.int .u8 229)
  unfold Part
  rw [this]
  congr 3
  apply Array.ext'
  have hj' : j = 0 ∨ j = 1 ∨ j = 2 := by omega
  rcases hj' with rfl | rfl | rfl <;> simp [nums, List.set_append]
theorem part_zero {w : World} {g : Nat} {xs : List Int} (h : w.heap[g]? = some (.cells (splice (madeCells #[.int .u8 0] (xs.length + 3)).toList 0 (nums .u8 xs)).toArray 5 (0, 0))) : Part w g xs 0 := by
  unfold Part
  rw [h]
  congr 4
  have : (madeCells #[Value.int .u8 0] (xs.length + 3)).toList = nums .u8 (List.replicate (xs.length + 3) 0) := by
    apply List.ext_getElem
    · simp [nums, madeCells]
    · intro i h1 h2
      simp [nums, madeCells, Nat.mod_one]
  rw [this]
  simp [splice, nums]
theorem part_three {w : World} {g : Nat} {xs : List Int} (h : Part w g xs 3) : Twin w g xs := by
  unfold Part at h
  unfold Twin
  simpa using h

theorem nums_one (k : IntKind) (xs : List Int) : ∀ v ∈ nums k xs, v.oneCell' = true := by
  intro u hu
  simp only [nums, List.mem_map] at hu
  obtain ⟨q, _, rfl⟩ := hu
  rfl
theorem copied {w : World} {A : Option Addr} {xs : List Int} (h : Kd.C (Kd.int .u8) w A xs.length xs) (hp : 0 < (nums .u8 xs).length) : ∃ ad, A = some ad ∧ ∀ j v, (nums .u8 xs)[j]? = some v → w.cell? (ad.add j) = some v := by
  obtain ⟨_, _, hc⟩ := Kd.reads_of_C (enc := Value.int .u8) (d := (0 : Int)) (h1 := fun _ => rfl) h
  rw [nums_length] at hp
  obtain ⟨ad, rfl, hd⟩ := hc hp
  refine ⟨ad, rfl, fun j v hv => ?_⟩
  have hj : j < xs.length := by
    rcases Nat.lt_or_ge j xs.length with h | h
    · exact h
    · rw [List.getElem?_eq_none (by rw [nums_length]; exact h)] at hv; cases hv
  rw [hd j hj]
  simp [nums, List.getElem?_eq_getElem hj] at hv
  simp [List.getD_eq_getElem?_getD, List.getElem?_eq_getElem hj, hv]
set_option maxHeartbeats 800000 in
theorem twin_calls (A : Option Addr) (c : Nat) (xs : List Int) (w : World) (hr : Kd.C (Kd.int .u8) w A xs.length xs) (hc : xs.length ≤ c) (hl : xs.length ≤ 1000000000000) :
    Calls Try.prog 23 #[.slice A xs.length c] w fun e w' => e = .returned (.slice (some ⟨w.heap.size, 0, none⟩) xs.length (xs.length + 3)) ∧ Twin w' w.heap.size xs ∧ Below w.heap.size w w' := by
  have HR := Aside0.mk hr
  have HC := Aside0.mk hc
  clear hr hc
  have hmk := print_make (P := Try.prog) 37 5 .u8 1 Try.underlying37 POct.info5 (by decide) (xs.length + 3) (by omega)
  rw [show ((xs.length + 3 : Nat) : Int) = (xs.length : Int) + 3 from by omega] at hmk
  go_enter Try.func23, Try.ntmps23
  go_wp2_with (with_reducible refine wpList_copy_splice rfl (.tmp 9) (.tmp 10) 37 37 rfl 5 Try.underlying37 (by kernel_rfl) (some ⟨w.heap.size, 0, none⟩) A (xs.length + 3) (xs.length + 3) xs.length c rfl rfl w.heap.size 0 (madeCells #[.int .u8 0] (xs.length + 3)).toList 5 ?hg (nums .u8 xs) ?hn ?hpos ?hfit ?h1 w.heap.size w ?hb (Nat.le_refl _) ?_; (case hg => simpa using heap_alloc_new w _); (case hn => rw [nums_length]; exact (Nat.min_eq_left (by omega)).symm); (case hpos => exact fun hp => ⟨rfl, copied (Kd.C_alloc HR.out _) hp⟩); (case hfit => simp [nums_length, size_madeCells]); (case h1 => exact nums_one .u8 xs); (case hb => exact (Below.refl _ _).alloc (Nat.le_refl _) _); intro w1 hB0 hB1)
  have HP := Aside0.mk (part_zero hB0.out)
  have HB := Aside0.mk hB1
  clear hB0 hB1 HR
  go_loopw [4] (fun v wr => ∃ j : Nat, j ≤ 3 ∧ v = .int .i64 ((xs.length : Int) + j) ∧ Aside0 (Part wr w.heap.size xs j) ∧ Aside0 (Below w.heap.size w wr)) (fun v _ => xs.length + 3 - (intOf v).toNat)
  case atStart => exact ⟨0, by omega, by simp, HP, HB⟩
  case round =>
    clear HP HB
    obtain ⟨j, hj, rfl, HP, HB⟩ := hrel
    by_cases hlt : j < 3
    · have hlt' : decide ((xs.length : Int) + j < (xs.length : Int) + 3) = true := by simp; omega
      obtain ⟨hcell, hfr⟩ := part_cell HP.out hlt
      have hn1 : ((xs.length : Int) + (j : Int)).toNat = xs.length + j := by omega
      go_wp2
      go_roundw
      case rel => exact ⟨j + 1, by omega, by go_num, ⟨part_set HP.out hlt⟩, ⟨HB.out.setCell (Nat.le_refl _) _⟩⟩
      case measure => simp [intOf]; omega
    · obtain rfl : j = 3 := by omega
      go_wp2
      go_ret
      exact ⟨rfl, part_three HP.out, HB.out⟩

theorem twin_spare {w : World} {g : Nat} {xs : List Int} (h : Twin w g xs) (j : Nat) (hj : j < 3) : w.cell? ⟨g, xs.length + j, none⟩ = some (.int .u8 229) := by
  rw [blk_cell h]
  have hj' : j = 0 ∨ j = 1 ∨ j = 2 := by omega
  rcases hj' with rfl | rfl | rfl <;> simp [nums, List.getElem?_append]
set_option maxHeartbeats 800000 in
theorem kept_calls (A : Option Addr) (c g : Nat) (xs : List Int) (w : World) (hr : Kd.C (Kd.int .u8) w A xs.length xs) (hc : xs.length ≤ c) (hl : xs.length ≤ 1000000000000) (ht : Twin w g xs) :
    Calls Try.prog 26 #[.slice (some ⟨g, 0, none⟩) xs.length (xs.length + 3), .slice A xs.length c] w fun e w' => e = .returned (.bool true) ∧ Drawn0 w w' := by
  have hcv1 := Kd.C_string (P := Try.prog) (c := c) Try.underlying37 Try.underlying5 Try.underlying9 hr
  have hcv2 := Kd.C_string (P := Try.prog) (c := xs.length + 3) Try.underlying37 Try.underlying5 Try.underlying9 (ht.C (by omega))
  have HT := Aside0.mk ht
  clear hr ht
  go_enter Try.func26, Try.ntmps26
  go_wp2
  go_loop [6] (fun v => ∃ j : Nat, j ≤ 3 ∧ v = .int .i64 ((xs.length : Int) + j)) (fun v => xs.length + 3 - (intOf v).toNat)
  case atStart => exact ⟨0, by omega, by simp⟩
  case round =>
    obtain ⟨j, hj, rfl⟩ := hrel
    by_cases hlt : j < 3
    · have hlt' : decide ((xs.length : Int) + j < (xs.length : Int) + 3) = true := by simp; omega
      have hcell := twin_spare HT.out j hlt
      have hn1 : ((xs.length : Int) + (j : Int)).toNat = xs.length + j := by omega
      go_wp2
      go_round
      case rel => exact ⟨j + 1, by omega, by go_num⟩
      case measure => simp [intOf]; omega
    · obtain rfl : j = 3 := by omega
      go_wp2
      go_ret
      exact ⟨rfl, Drawn0.refl _⟩

theorem grown_set (w : World) (g j : Nat) (u : Value) : w.grownBy (w.setCell ⟨g, j, none⟩ u) (some g) := by
  refine ⟨rfl, rfl, rfl, by simp [World.setCell], fun i hi hne => ?_⟩
  exact Below.heap_setCell w ⟨g, j, none⟩ u i (fun e => hne (by rw [e]))
set_option maxHeartbeats 800000 in
theorem spoil_calls (v : Value) (xs : List Int) (w : World) (base : Nat) (ok : Nat → Prop) (hr : Kd.R (Kd.int .u8) 5 w base ok v xs) :
    Calls Try.prog 22 #[v] w fun e w' => e = .returned (.tuple #[]) ∧ w.grownBy w' v.ownBlock := by
  obtain ⟨inner, hown⟩ := Kd.R_own hr
  rcases hown.2 with ⟨rfl, _⟩ | ⟨g, cap, cur, rfl, hb, hh, hnc, hcm, hcs, _⟩
  · go_enter Try.func22, Try.ntmps22
    go_wp2
    go_loop [3] (fun u => u = .int .i64 0) (fun _ => 0)
    case atStart => exact rfl
    case round =>
      obtain rfl := hrel
      go_wp2
      go_end0
      exact ⟨rfl, World.grownBy.refl w _⟩
  · have HH := Aside0.mk hh
    have hcap : cap ≤ 9223372036854775807 := by simpa [maxLen] using hcm
    have hsz : cur.size = cap := by rw [hcs]; exact Nat.mul_one _
    have HS := Aside0.mk hsz
    clear hh hcs hsz hr hown
    go_enter Try.func22, Try.ntmps22
    go_wp2
    go_loopw [3] (fun u wr => ∃ (j : Nat) (cur' : Array Value), j ≤ cap ∧ u = .int .i64 j ∧ Aside0 (wr.heap[g]? = some (.cells cur' 5 (0, 0))) ∧ Aside0 (cur'.size = cap) ∧ Aside0 (w.grownBy wr (some g))) (fun u _ => cap - (intOf u).toNat)
    case atStart => exact ⟨0, cur, by omega, rfl, HH, HS, ⟨World.grownBy.refl w _⟩⟩
    case round =>
      clear HH HS
      obtain ⟨j, cur', hj, rfl, HH, HS, HG⟩ := hrel
      by_cases hlt : j < cap
      · obtain ⟨u0, hcell⟩ : ∃ u0, wr.cell? ⟨g, j, none⟩ = some u0 := by
          rw [blk_cell HH.out]
          have := HS.out
          exact ⟨_, Array.getElem?_eq_getElem (by omega)⟩
        have hfr := blk_frozen HH.out j
        go_wp2
        go_roundw
        case rel => exact ⟨j + 1, cur'.setIfInBounds j (.int .u8 90), by omega, by go_num, ⟨blk_set HH.out j _⟩, ⟨by simpa using HS.out⟩, ⟨World.grownBy.trans HG.out (grown_set wr g j _)⟩⟩
        case measure => simp [intOf]; omega
      · obtain rfl : j = cap := by omega
        go_wp2
        go_end0
        exact ⟨rfl, HG.out⟩
end Go.Proofs.Ytgpgblidplmchaa.Tw
