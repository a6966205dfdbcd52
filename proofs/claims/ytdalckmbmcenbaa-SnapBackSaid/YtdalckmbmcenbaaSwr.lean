/- The walk of the law SnapWrites. -/
import Derived.Test.YtdalckmbmcenbaaSw
import Derived.Test.YtdalckmbmcenbaaSo
import Derived.Test.YtdalckmbmcenbaaWTab
namespace Go.Proofs.Ytdalckmbmcenbaa.Swr
open Go.RowKit Go.Proofs.YtdalckmbmcenbaaW.PrintWords Go.Proofs.YtdalckmbmcenbaaW.PrintLast Go.Proofs.YtdalckmbmcenbaaW.PrintMore
open Sn Ag Spc Sb St Sr Sp Se Sw Tw
set_option linter.unusedVariables false
set_option linter.unusedSimpArgs false
set_option maxRecDepth 100000
theorem load_at {W : World} {g : Nat} {cs : Array Value} (hs : cs.size = 34) (h : W.heap[g]? = some (.cells cs 25 (0, 0))) : (Instr.loadAt 25 (.pointer (some ⟨g, 0, none⟩))).run Try.prog W = .ok (.agg cs) W := by
  simp only [Instr.loadAt, Instr.sureAddr, Sem.run_bind, Sem.run_pure, Result.andThen_ok, run_loadVar_row W g 25 25 cs (0, 0) _ h Try.underlying25 rfl (by rw [info25, hs])]
theorem bytes_both (r : List Int) (t : Int) (s : ByteArray) (hr : r.length = 32) (ht : t ≤ 9223372036854775807) (hs : s.size ≤ 9223372036854775807) :
    ∃ (xs : List Int) (e : Int), (mayB t s = true → e = 0 ∧ xs = manB r t s) ∧ (mayB t s = false → e = 1 ∧ xs = []) ∧
      (∀ w, Calls Try.prog 7 #[.agg (man r t s)] w fun e' w' => ∃ v, e' = .returned (.tuple #[v, .int .i64 e]) ∧ RB w' w.heap.size v xs ∧ Below w.heap.size w w') ∧
      (∀ w, Calls Try.prog 8 #[.agg (man r t s)] w fun e' w' => ∃ v, e' = .returned (.tuple #[v, .int .i64 e]) ∧ RB w' w.heap.size v xs ∧ Below w.heap.size w w') := by
  cases hm : mayB t s with
  | true => exact ⟨manB r t s, 0, fun _ => ⟨rfl, rfl⟩, fun h => by simp at h, fun w => bytes_yes r t s w hr ht hm, fun w => ref_bytes_yes r t s w hr ht hm⟩
  | false =>
    have nil : ∀ (w w' : World), RB w' w.heap.size (.slice none 0 0) [] := fun w w' => RB.of_own ⟨by simp [nums], .inl ⟨rfl, rfl⟩⟩
    refine ⟨[], 1, fun h => by simp at h, fun _ => ⟨rfl, rfl⟩, fun w => (bytes_no r t s w hr hs hm).mono ?_, fun w => (ref_bytes_no r t s w hr hs hm).mono ?_⟩
    · rintro e' w' ⟨rfl, hb⟩
      exact ⟨_, rfl, nil w w', hb⟩
    · rintro e' w' ⟨rfl, hb⟩
      exact ⟨_, rfl, nil w w', hb⟩
def wr10T : Bool × List (List Nat × List Nat) := (true, [([], []), ([], []), ([0, 1], [0, 1]), ([2], [2]), ([3], [3]), ([4, 3], [3, 4]), ([3], [3]), ([6, 3], [3, 6]), ([5, 7, 3], [3, 5, 7]), ([3, 8], [3, 8]), ([9, 3], [9]), ([10], [10]), ([11, 10, 10], [10, 11]), ([10], [10]), ([13, 12, 10], [10, 13]), ([12, 14, 10], [10, 12, 14]), ([10, 15], [10, 15])])
def wr10B : List Nat := [0, 0, 3, 7, 15, 31, 15, 79, 255, 511, 1023, 2047, 4095, 2047, 16383, 32767, 65535]
theorem wr10tab : rtab .any (opsOf Try.f3 10) = wr10T := by kernel_rfl
theorem wr10bits : waitsOk wr10T.2 wr10B = true := by kernel_rfl

set_option maxHeartbeats 3200000 in
theorem writes_walk0 (l : List Int) (t : Int) (s : ByteArray) (w : World) (hl : l.length = 32) (ht : t ≤ 9223372036854775807) (hs : s.size ≤ 9223372036854775807) :
    Calls Try.prog 3 #[.agg (man l t s)] w fun e w' => e = .returned (.bool true) ∧ Below w.heap.size w w' := by
  have hg0 := Aside0.mk (heap_alloc_new w (.cells (man l t s) 25))
  have HB0 := Aside0.mk ((Below.refl w.heap.size w).alloc (Nat.le_refl _) (.cells (man l t s) 25))
  have H34 := Aside0.mk (man_size l t s hl)
  have KL : ∀ W : World, Aside0 (W.heap[w.heap.size]? = some (.cells (man l t s) 25 (0, 0))) → W.cell? ⟨w.heap.size, 33, none⟩ = some (.string s) := fun W h => by rw [blk_cell h.out, man_label l t s hl]
  by_cases hsl : s.size ≤ 1024
  · have hl' : decide (1024 < (s.size : Int)) = false := by simp; omega
    obtain ⟨xs, e, _, _, h7, h8⟩ := bytes_both l t s hl ht hs
    have H7 := Aside0.mk h7; have H8 := Aside0.mk h8
    have HM1 := Aside0.mk (fun w => may_calls l t s w hl hs); have HM2 := Aside0.mk (fun w => ref_may_calls l t s w hl hs)
    obtain ⟨mb, hmb⟩ : ∃ mb, Aside0 (mb = mayB t s) := ⟨_, ⟨rfl⟩⟩
    rw [← hmb.out] at HM1 HM2
    clear h7 h8 hl ht hs hsl hmb
    go_enter Try.func3, Try.ntmps3
    go_wp2_with fail
    refine (begun_calls _).mono ?_
    rintro e0 w0 ⟨rfl, hb0⟩
    have HB := Aside0.mk (below_step HB0.out hb0)
    have hg := Aside0.mk ((hb0.block _ (blk_lt hg0.out)).trans hg0.out)
    have k33 := KL w0 hg
    clear hb0 HB0 hg0
    go_wp2_with fail
    clear k33 KL
    go_loopw [3] (fun u wr => ∃ m : Nat, m ≤ 2 ∧ u = .int .i64 m ∧ Aside0 (Below w.heap.size w wr) ∧ Aside0 (wr.heap[w.heap.size]? = some (.cells (man l t s) 25 (0, 0)))) (fun u _ => 2 - (intOf u).toNat)
    case atStart => exact ⟨0, by omega, rfl, HB, hg⟩
    case round =>
      clear HB hg
      obtain ⟨m, hm, rfl, HB, hg⟩ := hrel
      by_cases hlt : m < 2
      · skip
        go_wp2_with (with_reducible refine op_load rfl 25 (.tmp 1) rfl w.heap.size rfl 25 (man l t s) _ hg.out Try.underlying25 rfl 34 info25 H34.out ?_)
        refine (H7.out _).mono ?_
        rintro e1 w1 ⟨v1, rfl, ho, hb1⟩
        have HO1 := Aside0.mk ho
        have HBa : Aside0 (∀ k_, v1.ownBlock = some k_ → w.heap.size < k_) := ⟨fun k_ hk => by have h1_ := Kd.R_base ho k_ hk; have h2_ := blk_lt hg.out; omega⟩
        clear ho
        have n0_ := Aside0.mk (below_step HB.out hb1)
        have n1_ := Aside0.mk ((hb1.block _ (blk_lt hg.out)).trans hg.out)
        clear HB hg 
        have HB := n0_; have hg := n1_
        clear n0_ n1_ 
        clear hb1
        go_wp2_with (with_reducible refine op_load rfl 25 (.tmp 1) rfl w.heap.size rfl 25 (man l t s) _ hg.out Try.underlying25 rfl 34 info25 H34.out ?_)
        refine (H8.out _).mono ?_
        rintro e2 w2 ⟨v2, rfl, ho, hb2⟩
        have n0_ := Aside0.mk (below_step HB.out hb2)
        have n1_ := Aside0.mk ((hb2.block _ (blk_lt hg.out)).trans hg.out)
        have m1_ := Aside0.mk (Kd.R_below HO1.out hb2)
        clear HB hg HO1
        have HB := n0_; have hg := n1_
        have HO1 := m1_
        clear n0_ n1_ m1_
        have HO2 := Aside0.mk ho
        clear ho hb2
        go_wp2_with fail
        have hcf1 : ∀ W_ : World, Below w2.heap.size w2 W_ → (convert 27 9 v1).run Try.prog W_ = .ok (.string (strOfNums xs)) W_ := fun W_ hW_ => own_string (P := Try.prog) Try.underlying27 Try.underlying5 Try.underlying9 (RB.own (Kd.R_below HO1.out hW_))
        have hcf2 : ∀ W_ : World, Below w2.heap.size w2 W_ → (convert 27 9 v2).run Try.prog W_ = .ok (.string (strOfNums xs)) W_ := fun W_ hW_ => own_string (P := Try.prog) Try.underlying27 Try.underlying5 Try.underlying9 (RB.own (Kd.R_below HO2.out hW_))
        have hlo : ∀ W_ : World, Below w2.heap.size w2 W_ → (Instr.loadAt 25 (.pointer (some ⟨w.heap.size, 0, none⟩))).run Try.prog W_ = .ok (.agg (man l t s)) W_ := fun W_ hW_ => load_at H34.out ((hW_.block _ (blk_lt hg.out)).trans hg.out)
        have HF := Aside0.mk (And.intro hcf1 (And.intro hcf2 hlo))
        clear hcf1 hcf2 hlo
        refine start_ (n := 17) (S := (fun W_ => Below w2.heap.size w2 W_)) (ds := []) #[false, false, false, false, false, false, false, false, false, false, false, false, false, false, false, false, false] (by kernel_rfl) rfl rfl (below_drew1 (Below.refl _ _)) (fun hHeld => ?_); refine with_tabW wr10tab wr10bits (fun HT_ HW_ => ?_)
        generalize w2.drew = wq at hHeld ⊢
        refine pure_ (i := 0) (N := some 28) (v := ?_) (a' := ?_) #[true, false, false, false, false, false, false, false, false, false, false, false, false, false, false, false, false] rfl rfl (any_of HT_.out (by kernel_rfl)) (fun _ _ _ h => h) (Or.inl ⟨by rfl, ?_⟩) ?_ ?_
        rotate_left
        · intro w'
          go_simp
          with_reducible rfl
        rotate_left
        · simp only [Act.put, List.setIfInBounds_toArray, List.set_cons_zero, List.set_cons_succ, i64_w, i32_w]
          rfl
        refine pure_ (i := 1) (N := some 29) (v := ?_) (a' := ?_) #[true, true, false, false, false, false, false, false, false, false, false, false, false, false, false, false, false] rfl rfl (any_of HT_.out (by kernel_rfl)) (fun _ _ _ h => h) (Or.inl ⟨by rfl, ?_⟩) ?_ ?_
        rotate_left
        · intro w'
          go_simp
          with_reducible rfl
        rotate_left
        · simp only [Act.put, List.setIfInBounds_toArray, List.set_cons_zero, List.set_cons_succ, i64_w, i32_w]
          rfl
        refine pure_ (i := 2) (N := some 30) (v := ?_) (a' := ?_) #[true, true, true, false, false, false, false, false, false, false, false, false, false, false, false, false, false] rfl rfl (any_of HT_.out (by kernel_rfl)) (fun _ _ _ h => h) (Or.inl ⟨by rfl, ?_⟩) ?_ ?_
        rotate_left
        · intro w'
          go_simp
          with_reducible rfl
        rotate_left
        · simp only [Act.put, List.setIfInBounds_toArray, List.set_cons_zero, List.set_cons_succ, i64_w, i32_w]
          rfl
        refine pure_ (i := 3) (N := some 31) (v := ?_) (a' := ?_) #[true, true, true, true, false, false, false, false, false, false, false, false, false, false, false, false, false] rfl rfl (any_of HT_.out (by kernel_rfl)) (fun _ _ _ h => h) (Or.inl ⟨by rfl, ?_⟩) ?_ ?_
        rotate_left
        · intro w'
          go_simp
          with_reducible rfl
        rotate_left
        · simp only [Act.put, List.setIfInBounds_toArray, List.set_cons_zero, List.set_cons_succ, i64_w, i32_w]
          rfl
        refine pure_ (i := 4) (N := some 32) (v := ?_) (a' := ?_) #[true, true, true, true, true, false, false, false, false, false, false, false, false, false, false, false, false] rfl rfl (any_of HT_.out (by kernel_rfl)) (fun _ _ _ h => h) (Or.inl ⟨by rfl, ?_⟩) ?_ ?_
        rotate_left
        · intro w'
          go_simp
          with_reducible rfl
        rotate_left
        · simp only [Act.put, List.setIfInBounds_toArray, List.set_cons_zero, List.set_cons_succ, i64_w, i32_w]
          rfl
        refine take_ (i := 5) (N := some 33) (v := ?_) (a' := ?_) #[true, true, true, true, true, true, false, false, false, false, false, false, false, false, false, false, false] rfl rfl (take_ofW HT_.out HW_.out (by kernel_rfl)) (fun _ _ _ h => h) (Or.inl ⟨by rfl, ?_⟩) hHeld ?_ ?_
        rotate_left
        · intro w' hw'
          have hf0_ := HF.out.1 w' hw'
          go_simp
          with_reducible rfl
        rotate_left
        · simp only [Act.put, List.setIfInBounds_toArray, List.set_cons_zero, List.set_cons_succ, i64_w, i32_w]
          rfl
        refine pure_ (i := 6) (N := some 34) (v := ?_) (a' := ?_) #[true, true, true, true, true, true, true, false, false, false, false, false, false, false, false, false, false] rfl rfl (any_of HT_.out (by kernel_rfl)) (fun _ _ _ h => h) (Or.inl ⟨by rfl, ?_⟩) ?_ ?_
        rotate_left
        · intro w'
          go_simp
          with_reducible rfl
        rotate_left
        · simp only [Act.put, List.setIfInBounds_toArray, List.set_cons_zero, List.set_cons_succ, i64_w, i32_w]
          rfl
        refine take_ (i := 7) (N := some 35) (v := ?_) (a' := ?_) #[true, true, true, true, true, true, true, true, false, false, false, false, false, false, false, false, false] rfl rfl (take_ofW HT_.out HW_.out (by kernel_rfl)) (fun _ _ _ h => h) (Or.inl ⟨by rfl, ?_⟩) hHeld ?_ ?_
        rotate_left
        · intro w' hw'
          have hf0_ := HF.out.2.1 w' hw'
          go_simp
          with_reducible rfl
        rotate_left
        · simp only [Act.put, List.setIfInBounds_toArray, List.set_cons_zero, List.set_cons_succ, i64_w, i32_w]
          rfl
        refine pure_ (i := 8) (N := some 36) (v := ?_) (a' := ?_) #[true, true, true, true, true, true, true, true, true, false, false, false, false, false, false, false, false] rfl rfl (any_of HT_.out (by kernel_rfl)) (fun _ _ _ h => h) (Or.inl ⟨by rfl, ?_⟩) ?_ ?_
        rotate_left
        · intro w'
          go_simp
          with_reducible rfl
        rotate_left
        · simp only [Act.put, List.setIfInBounds_toArray, List.set_cons_zero, List.set_cons_succ, i64_w, i32_w]
          rfl
        refine pure_ (i := 9) (N := some 37) (v := ?_) (a' := ?_) #[true, true, true, true, true, true, true, true, true, true, false, false, false, false, false, false, false] rfl rfl (any_of HT_.out (by kernel_rfl)) (fun _ _ _ h => h) (Or.inl ⟨by rfl, ?_⟩) ?_ ?_
        rotate_left
        · intro w'
          go_simp
          with_reducible rfl
        rotate_left
        · simp only [Act.put, List.setIfInBounds_toArray, List.set_cons_zero, List.set_cons_succ, i64_w, i32_w]
          rfl
        refine pure_ (i := 10) (N := some 38) (v := ?_) (a' := ?_) #[true, true, true, true, true, true, true, true, true, true, true, false, false, false, false, false, false] rfl rfl (any_of HT_.out (by kernel_rfl)) (fun _ _ _ h => h) (Or.inl ⟨by rfl, ?_⟩) ?_ ?_
        rotate_left
        · intro w'
          go_simp
          with_reducible rfl
        rotate_left
        · simp only [Act.put, List.setIfInBounds_toArray, List.set_cons_zero, List.set_cons_succ, i64_w, i32_w]
          rfl
        refine take_ (i := 11) (N := some 39) (v := (.agg (man l t s))) (a' := ?_) #[true, true, true, true, true, true, true, true, true, true, true, true, false, false, false, false, false] rfl rfl (take_ofW HT_.out HW_.out (by kernel_rfl)) (fun _ _ _ h => h) (Or.inl ⟨by rfl, fun w' hw' => load_run rfl rfl (HF.out.2.2 w' hw')⟩) hHeld ?_ ?_
        rotate_left
        · simp only [Act.put, List.setIfInBounds_toArray, List.set_cons_zero, List.set_cons_succ, i64_w, i32_w]
          rfl
        refine take_ (i := 13) (N := some 41) (v := (.agg (man l t s))) (a' := ?_) #[true, true, true, true, true, true, true, true, true, true, true, true, false, true, false, false, false] rfl rfl (take_ofW HT_.out HW_.out (by kernel_rfl)) (fun _ _ _ h => h) (Or.inl ⟨by rfl, fun w' hw' => load_run rfl rfl (HF.out.2.2 w' hw')⟩) hHeld ?_ ?_
        rotate_left
        · simp only [Act.put, List.setIfInBounds_toArray, List.set_cons_zero, List.set_cons_succ, i64_w, i32_w]
          rfl
        refine one_ (i := 12) (N := some 40) #[true, true, true, true, true, true, true, true, true, true, true, true, true, true, false, false, false] rfl rfl (one_of HT_.out (by kernel_rfl)) (by decide) (fun K hK => ?_)
        refine goes_ Try.func9 (by kernel_rfl) rfl #[.agg (man l t s)] (by rfl) rfl rfl (by (try simp only [List.map_toArray, List.map_cons, List.map_nil]); first | done | rfl) ?_
        refine (HM1.out wq).mono ?_
        rintro ep wp ⟨rfl, hbp⟩
        refine ⟨_, rfl, ?_⟩
        have HS1 := Aside0.mk (below_step hHeld hbp)
        clear hbp
        refine hK.out _ _ (HS1.out) (fun hHeld => ?_)
        clear hK K
        refine norm_ (a' := ?_) ?_ ?_
        rotate_left
        · show Act.put _ (some 40) _ = _
          simp only [Act.put, List.setIfInBounds_toArray, List.set_cons_zero, List.set_cons_succ, i64_w, i32_w]
          rfl
        clear HS1
        refine one_ (i := 14) (N := some 42) #[true, true, true, true, true, true, true, true, true, true, true, true, true, true, true, false, false] rfl rfl (one_of HT_.out (by kernel_rfl)) (by decide) (fun K hK => ?_)
        refine goes_ Try.func10 (by kernel_rfl) rfl #[.agg (man l t s)] (by rfl) rfl rfl (by (try simp only [List.map_toArray, List.map_cons, List.map_nil]); first | done | rfl) ?_
        refine (HM2.out wp).mono ?_
        rintro ek wk ⟨rfl, hbk⟩
        refine ⟨_, rfl, ?_⟩
        have HS1 := Aside0.mk (below_step hHeld hbk)
        clear hbk
        refine hK.out _ _ (HS1.out) (fun hHeld => ?_)
        clear hK K
        refine norm_ (a' := ?_) ?_ ?_
        rotate_left
        · show Act.put _ (some 42) _ = _
          simp only [Act.put, List.setIfInBounds_toArray, List.set_cons_zero, List.set_cons_succ, i64_w, i32_w]
          rfl
        clear HS1
        refine pure_ (i := 15) (N := some 43) (v := ?_) (a' := ?_) #[true, true, true, true, true, true, true, true, true, true, true, true, true, true, true, true, false] rfl rfl (any_of HT_.out (by kernel_rfl)) (fun _ _ _ h => h) (Or.inl ⟨by rfl, ?_⟩) ?_ ?_
        rotate_left
        · intro w'
          go_simp
          with_reducible rfl
        rotate_left
        · simp only [Act.put, List.setIfInBounds_toArray, List.set_cons_zero, List.set_cons_succ, i64_w, i32_w]
          rfl
        refine pure_ (i := 16) (N := some 44) (v := ?_) (a' := ?_) #[true, true, true, true, true, true, true, true, true, true, true, true, true, true, true, true, true] rfl rfl (any_of HT_.out (by kernel_rfl)) (fun _ _ _ h => h) (Or.inl ⟨by rfl, ?_⟩) ?_ ?_
        rotate_left
        · intro w'
          go_simp
          with_reducible rfl
        rotate_left
        · simp only [Act.put, List.setIfInBounds_toArray, List.set_cons_zero, List.set_cons_succ, i64_w, i32_w]
          rfl
        refine done_ (done_of HT_.out (by kernel_rfl)) ?_
        clear HT_ HW_ HF HO2
        have n0_ := Aside0.mk (below_step HB.out hHeld)
        have n1_ := Aside0.mk ((hHeld.block _ (blk_lt hg.out)).trans hg.out)
        have m1_ := Aside0.mk (Kd.R_below HO1.out hHeld)
        clear HB hg HO1
        have HB := n0_; have hg := n1_
        have HO1 := m1_
        clear n0_ n1_ m1_
        clear hHeld
        go_wp2_with fail
        refine (spoil_calls v1 xs wk _ _ HO1.out).mono ?_
        rintro e5 w5 ⟨rfl, hg5⟩
        have n0_ := Aside0.mk (HB.out.grown hg5 HB.out.size (fun k_ hk_ => Nat.le_of_lt (HBa.out k_ hk_)))
        have n1_ := Aside0.mk (blk_grown hg.out hg5 (fun h => by have := HBa.out _ h.symm; omega))
        clear HB hg hg5 HO1
        have HB := n0_; have hg := n1_
        clear n0_ n1_
        go_wp2_with fail
        go_roundw
        case rel => exact ⟨m + 1, by omega, by go_num, HB, hg⟩
        case measure => simp [intOf]; omega
      · obtain rfl : m = 2 := by omega
        go_wp2_with fail
        go_ret
        exact ⟨rfl, HB.out⟩
  · have hl' : decide (1024 < (s.size : Int)) = true := by simp; omega
    go_enter Try.func3, Try.ntmps3
    go_wp2_with fail
    refine (begun_calls _).mono ?_
    rintro e0 w0 ⟨rfl, hb0⟩
    have HB := Aside0.mk (below_step HB0.out hb0)
    have hg := Aside0.mk ((hb0.block _ (blk_lt hg0.out)).trans hg0.out)
    have k33 := KL w0 hg
    clear hb0 HB0 hg0
    go_wp2_with fail
    go_ret
    exact ⟨rfl, HB.out⟩

theorem writes_walk (l : List Int) (t : Int) (s : ByteArray) (w : World) (wa : l.length = 32) (wb : ∀ x ∈ l, (Lit.int .u8 x).wf = true) (wc : (Lit.int .i64 t).wf = true) (wd : s.size ≤ maxLen) :
    Calls Try.prog 3 #[.agg (man l t s)] w fun e w' => e = .returned (.bool true) ∧ Below w.heap.size w w' :=
  writes_walk0 l t s w wa (bounds_i64 wc).2 (by simpa [maxLen] using wd)
end Go.Proofs.Ytdalckmbmcenbaa.Swr
