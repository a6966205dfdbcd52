/- Which bytes are a manifest: the walk of the document's Take, way by way. -/
import Derived.Test.YtdalckmbmcenbaaSt
namespace Go.Proofs.Ytdalckmbmcenbaa.Sr
open Go.RowKit Go.Proofs.YtdalckmbmcenbaaW.PrintWords Go.Proofs.YtdalckmbmcenbaaW.PrintLast Go.Proofs.YtdalckmbmcenbaaW.PrintMore
open Sn Ag Spc Sb St
set_option linter.unusedVariables false
set_option linter.unusedSimpArgs false
set_option maxRecDepth 100000
theorem str_ne {x y : List Int} (hx : ∀ a ∈ x, 0 ≤ a ∧ a < 256) (hy : ∀ a ∈ y, 0 ≤ a ∧ a < 256) (h : x ≠ y) : ((strOfNums x).toList == (strOfNums y).toList) = false := by
  rw [beq_eq_false_iff_ne, ByteArray.toList_eq, ByteArray.toList_eq, strOfNums_data, strOfNums_data]
  intro he
  apply h
  have h1 := bytesOf_str x hx
  have h2 := bytesOf_str y hy
  unfold bytesOf at h1 h2
  rw [strOfNums_data] at h1 h2
  rw [← h1, ← h2, he]
def rf4T : Bool × List (List Nat × List Nat) := (true, [([], []), ([0], [0]), ([1], [1]), ([2], [2]), ([], []), ([4], [4]), ([], []), ([6], [6]), ([7], [7]), ([3, 5, 8], [3, 5, 8]), ([], []), ([10, 9, 0, 1, 2, 3, 4, 5, 6, 7, 8, 9, 10], [9, 10])])
def rf4B : List Nat := [0, 1, 3, 7, 0, 16, 0, 64, 192, 511, 0, 2047]
theorem rf4tab : rtab .any (opsOf Try.f14 4) = rf4T := by kernel_rfl
theorem rf4bits : waitsOk rf4T.2 rf4B = true := by kernel_rfl

set_option maxHeartbeats 3200000 in
theorem ref_short (A : Option Addr) (c : Nat) (b : List Int) (w : World) (hr : CB w A b) (hc : b.length ≤ c) (hmx : b.length ≤ 100000) (hl : b.length < 43) :
    Calls Try.prog 14 #[.slice A b.length c] w fun e w' => e = .returned (.tuple #[.agg man0, .int .i64 4]) ∧ Below w.heap.size w w' := by
  have HR := Aside0.mk hr
  have HC := Aside0.mk hc
  have HB := Aside0.mk ((Below.refl w.heap.size w).alloc (Nat.le_refl _) (.cells man0 25))
  have hg := Aside0.mk (heap_alloc_new w (.cells man0 25))
  have d1 : decide ((b.length : Int) < 43) = true := by simp; omega
  clear hr hc
  go_enter Try.func14, Try.ntmps14
  go_wp2_with (first | (with_reducible refine op_alloc rfl 25 rfl man0 zero25 ?_) | (with_reducible refine op_build rfl 25 #[] rfl man0 built0 ?_) | (with_reducible refine op_store (w0 := w) w.heap.size rfl 25 (.tmp 2) (.tmp 12) rfl w.heap.size man0 rfl rfl 25 man0 hg.out 34 info25 man0_size man0_size man0_all HB.out (Nat.le_refl _) ?_; intro wz hgz _ HBz))
  exact ret_row rfl w.heap.size rfl 25 man0 _ hgz.out Try.underlying25 rfl 34 info25 man0_size rfl ⟨rfl, HBz.out⟩

set_option maxHeartbeats 3200000 in
theorem ref_err (A : Option Addr) (c : Nat) (b : List Int) (w : World) (hr : CB w A b) (hc : b.length ≤ c) (hmx : b.length ≤ 100000) (hl : 43 ≤ b.length) (tv te : Int) (hat : Aside0 (POct.cofferref1_At.f 40 b 34 8 = some (tv, te))) (hm_ : mayB (wrap64 tv) (strOfNums (b.drop 43)) = false) :
    Calls Try.prog 14 #[.slice A b.length c] w fun e w' => e = .returned (.tuple #[.agg man0, .int .i64 4]) ∧ Below w.heap.size w w' := by
  have HR := Aside0.mk hr
  have HC := Aside0.mk hc
  have HB := Aside0.mk ((Below.refl w.heap.size w).alloc (Nat.le_refl _) (.cells man0 25))
  have hg := Aside0.mk (heap_alloc_new w (.cells man0 25))
  have d1 : decide ((b.length : Int) < 43) = false := by simp; omega
  obtain ⟨y7, A7, hy7, hl7, hc7_, hcut7, hC7⟩ := cut_drop (P := Try.prog) 27 Try.underlying27 POct.info5 A c b 43 (by omega) (by omega) hc
  obtain ⟨r, A9, hr9, hl9, hc9_, hcut9, hC9⟩ := cut_mid (P := Try.prog) 27 Try.underlying27 POct.info5 A c b 2 34 (by omega) (by omega) (by omega) hc
  have hr32 : Aside0 (r.length = 32) := ⟨by omega⟩
  have harr := fun (cc : Nat) => array_at (P := Try.prog) 23 32 info22 A9 r.length cc (by omega)
  have hR9 := Aside0.mk hr9
  obtain ⟨s, hs⟩ : ∃ s, Aside0 (s = strOfNums y7) := ⟨_, ⟨rfl⟩⟩
  have hsz_ : Aside0 (s.size ≤ 100000) := ⟨by rw [hs.out, strOfNums_size]; omega⟩
  have hS7 : Aside0 (s = strOfNums (b.drop 43)) := ⟨by rw [hs.out, hy7]; rfl⟩
  obtain ⟨t, ht⟩ : ∃ t, Aside0 (t = wrap64 tv) := ⟨_, ⟨rfl⟩⟩
  have htw : wrap64 tv = t := ht.out.symm
  have htw2 : IntKind.i64.wrap tv = t := (IntWalk.i64_left tv).trans htw
  have htle : Aside0 (t ≤ 9223372036854775807) := ⟨by rw [ht.out]; unfold wrap64; omega⟩
  clear hr9 hl9 hl7 hc9_ hy7 hr hc
  have HM : Aside0 (mayB t s = false) := ⟨by rw [ht.out, hS7.out]; exact hm_⟩
  clear hm_
  go_enter Try.func14, Try.ntmps14
  go_wp2_with (first | (with_reducible refine op_alloc rfl 25 rfl man0 zero25 ?_) | (with_reducible refine op_build rfl 25 #[] rfl man0 built0 ?_))
  refine (POct.cofferref1_At.calls 40 A c b 34 8 tv te _ (Kd.C_below HR.out HB.out) HC.out hat.out).mono ?_
  rintro e1 w1 ⟨rfl, hd1⟩
  have n0_ := Aside0.mk (below_step HB.out hd1.below)
  have n1_ := Aside0.mk ((hd1.below.block _ (by simp)).trans hg.out)
  have hgl : Aside0 (w.heap.size < w1.heap.size) := ⟨blk_lt n1_.out⟩
  clear HB hg hd1
  have HB := n0_; have hg := n1_
  clear n0_ n1_
  go_wp2_with (first | (with_reducible refine op_alloc rfl 25 rfl man0 zero25 ?_) | (with_reducible refine op_build rfl 25 #[] rfl man0 built0 ?_))
  obtain ⟨ad, rfl, hadc⟩ := CB.cells (hC9 w1 (Kd.C_below HR.out HB.out)) (by rw [hr32.out]; decide)
  have hld : ∀ W : World, Below w1.heap.size w1 W → (Instr.loadAt 23 (.pointer (some ad))).run Try.prog W = .ok (.agg (nums .u8 r).toArray) W := fun W hW => run_loadVar_at ad 23 (nums .u8 r) _ (fun j v hv => (hW.cell (World.block_lt_of_cell? w1 _ (hadc j v hv))).trans (hadc j v hv)) info22 rfl (by rw [nums_length, hr32.out]; exact info23s)
  have hcv : ∀ W : World, Below w1.heap.size w1 W → (convert 27 9 (.slice A7 y7.length (c - 43))).run Try.prog W = .ok (.string s) W := fun W hW => by rw [hs.out]; exact Kd.C_string (P := Try.prog) (c := c - 43) Try.underlying27 Try.underlying5 Try.underlying9 (Kd.C_below (hC7 w1 (Kd.C_below HR.out HB.out)) hW)
  have HF := Aside0.mk (And.intro hld hcv)
  clear hld hcv hadc
  refine start_ (n := 12) (S := (fun W_ => Below w1.heap.size w1 W_)) (ds := []) #[false, false, false, false, false, false, false, false, false, false, false, false] (by kernel_rfl) rfl rfl (below_drew1 (Below.refl _ _)) (fun hHeld => ?_); refine with_tabW rf4tab rf4bits (fun HT_ HW_ => ?_)
  generalize w1.drew = wq at hHeld ⊢
  refine pure_ (i := 0) (N := some 18) (v := ?_) (a' := ?_) #[true, false, false, false, false, false, false, false, false, false, false, false] rfl rfl (any_of HT_.out (by kernel_rfl)) (fun _ _ _ h => h) (Or.inl ⟨by rfl, ?_⟩) ?_ ?_
  rotate_left
  · intro w'
    go_simp
    with_reducible rfl
  rotate_left
  · simp only [Act.put, List.setIfInBounds_toArray, List.set_cons_zero, List.set_cons_succ, i64_w, i32_w]
    rfl
  refine pure_ (i := 1) (N := some 19) (v := ?_) (a' := ?_) #[true, true, false, false, false, false, false, false, false, false, false, false] rfl rfl (any_of HT_.out (by kernel_rfl)) (fun _ _ _ h => h) (Or.inl ⟨by rfl, ?_⟩) ?_ ?_
  rotate_left
  · intro w'
    go_simp
    with_reducible rfl
  rotate_left
  · simp only [Act.put, List.setIfInBounds_toArray, List.set_cons_zero, List.set_cons_succ, i64_w, i32_w]
    rfl
  refine pure_ (i := 2) (N := some 20) (v := ?_) (a' := ?_) #[true, true, true, false, false, false, false, false, false, false, false, false] rfl rfl (any_of HT_.out (by kernel_rfl)) (fun _ _ _ h => h) (Or.inl ⟨by rfl, ?_⟩) ?_ ?_
  rotate_left
  · intro w'
    go_simp
    with_reducible rfl
  rotate_left
  · simp only [Act.put, List.setIfInBounds_toArray, List.set_cons_zero, List.set_cons_succ, i64_w, i32_w]
    rfl
  refine take_ (i := 3) (N := some 21) (v := (.agg (nums .u8 r).toArray)) (a' := ?_) #[true, true, true, true, false, false, false, false, false, false, false, false] rfl rfl (take_ofW HT_.out HW_.out (by kernel_rfl)) (fun _ _ _ h => h) (Or.inl ⟨by rfl, fun w' hw' => load_run rfl rfl (HF.out.1 w' hw')⟩) hHeld ?_ ?_
  rotate_left
  · simp only [Act.put, List.setIfInBounds_toArray, List.set_cons_zero, List.set_cons_succ, i64_w, i32_w]
    rfl
  refine pure_ (i := 4) (N := some 22) (v := ?_) (a' := ?_) #[true, true, true, true, true, false, false, false, false, false, false, false] rfl rfl (any_of HT_.out (by kernel_rfl)) (fun _ _ _ h => h) (Or.inl ⟨by rfl, ?_⟩) ?_ ?_
  rotate_left
  · intro w'
    go_simp
    with_reducible rfl
  rotate_left
  · simp only [Act.put, List.setIfInBounds_toArray, List.set_cons_zero, List.set_cons_succ, i64_w, i32_w]
    rfl
  refine pure_ (i := 5) (N := some 23) (v := ?_) (a' := ?_) #[true, true, true, true, true, true, false, false, false, false, false, false] rfl rfl (any_of HT_.out (by kernel_rfl)) (fun _ _ _ h => h) (Or.inl ⟨by rfl, ?_⟩) ?_ ?_
  rotate_left
  · intro w'
    go_simp
    with_reducible rfl
  rotate_left
  · simp only [Act.put, List.setIfInBounds_toArray, List.set_cons_zero, List.set_cons_succ, i64_w, i32_w]
    rfl
  refine pure_ (i := 6) (N := some 24) (v := ?_) (a' := ?_) #[true, true, true, true, true, true, true, false, false, false, false, false] rfl rfl (any_of HT_.out (by kernel_rfl)) (fun _ _ _ h => h) (Or.inl ⟨by rfl, ?_⟩) ?_ ?_
  rotate_left
  · intro w'
    go_simp
    with_reducible rfl
  rotate_left
  · simp only [Act.put, List.setIfInBounds_toArray, List.set_cons_zero, List.set_cons_succ, i64_w, i32_w]
    rfl
  refine pure_ (i := 7) (N := some 25) (v := ?_) (a' := ?_) #[true, true, true, true, true, true, true, true, false, false, false, false] rfl rfl (any_of HT_.out (by kernel_rfl)) (fun _ _ _ h => h) (Or.inl ⟨by rfl, ?_⟩) ?_ ?_
  rotate_left
  · intro w'
    go_simp
    with_reducible rfl
  rotate_left
  · simp only [Act.put, List.setIfInBounds_toArray, List.set_cons_zero, List.set_cons_succ, i64_w, i32_w]
    rfl
  refine take_ (i := 8) (N := some 26) (v := ?_) (a' := ?_) #[true, true, true, true, true, true, true, true, true, false, false, false] rfl rfl (take_ofW HT_.out HW_.out (by kernel_rfl)) (fun _ _ _ h => h) (Or.inl ⟨by rfl, ?_⟩) hHeld ?_ ?_
  rotate_left
  · intro w' hw'
    have hf0_ := HF.out.2 w' hw'
    go_simp
    with_reducible rfl
  rotate_left
  · simp only [Act.put, List.setIfInBounds_toArray, List.set_cons_zero, List.set_cons_succ, i64_w, i32_w]
    rfl
  refine pure_ (i := 9) (N := some 27) (v := (.agg (man r t s))) (a' := ?_) #[true, true, true, true, true, true, true, true, true, true, false, false] rfl rfl (any_of HT_.out (by kernel_rfl)) (fun _ _ _ h => h) (Or.inl ⟨by rfl, fun w' => build_run (ps := #[(0, .agg (nums .u8 r).toArray), (1, .int .i64 t), (2, .string s)]) rfl (by rw [List.map_toArray]; rfl) (built r t s hr32.out)⟩) ?_ ?_
  rotate_left
  · simp only [Act.put, List.setIfInBounds_toArray, List.set_cons_zero, List.set_cons_succ, i64_w, i32_w]
    rfl
  refine one_ (i := 10) (N := some 6) #[true, true, true, true, true, true, true, true, true, true, true, false] rfl rfl (one_of HT_.out (by kernel_rfl)) (by decide) (fun K hK => ?_)
  refine value_ (by rfl) rfl (alloc_run wq 25 rfl man0 zero25) ?_
  have HS1 := Aside0.mk (hHeld.alloc hHeld.size (.cells man0 25))
  have hgq := Aside0.mk (heap_alloc_new wq (.cells man0 25))
  obtain ⟨gq, hgq2, hgq3⟩ : ∃ gq, Aside0 (gq = wq.heap.size) ∧ Aside0 (w1.heap.size ≤ gq) := ⟨_, ⟨rfl⟩, ⟨hHeld.size⟩⟩
  rw [← hgq2.out] at hgq ⊢
  generalize wq.alloc (.cells man0 25) = wa at HS1 hgq hK ⊢
  refine hK.out _ _ (HS1.out) (fun hHeld => ?_)
  clear hK K
  refine norm_ (a' := ?_) ?_ ?_
  rotate_left
  · show Act.put _ (some 6) _ = _
    simp only [Act.put, List.setIfInBounds_toArray, List.set_cons_zero, List.set_cons_succ, i64_w, i32_w]
    rfl
  clear HS1
  refine one_ (i := 11) (N := none) #[true, true, true, true, true, true, true, true, true, true, true, true] rfl rfl (one_of HT_.out (by kernel_rfl)) (by decide) (fun K hK => ?_)
  refine skip_ (by rfl) rfl (store_run wa 25 (.tmp 6) (.tmp 27) rfl gq (man r t s) rfl rfl 25 man0 hgq.out 34 info25 (man_size r t s hr32.out) man0_size (man_all r t s)) ?_
  have HS1 := Aside0.mk (below_setRow hHeld hgq3.out (man r t s))
  have hgn := Aside0.mk (setRow_heap wa gq man0 (man r t s) 25 (0, 0) hgq.out)
  generalize wa.setRow gq (man r t s) = wb at HS1 hgn hK ⊢
  refine hK.out _ _ HS1.out (fun hHeld => ?_)
  clear hK K HS1
  refine done_ (done_of HT_.out (by kernel_rfl)) ?_
  clear HT_ HW_ HF hgq hgq2
  have n0_ := Aside0.mk (below_step HB.out hHeld)
  have n1_ := Aside0.mk ((hHeld.block _ hgl.out).trans hg.out)
  have hne : Aside0 (w.heap.size < gq) := ⟨by have := hgl.out; have := hgq3.out; omega⟩
  clear HB hg
  have HB := n0_; have hg := n1_
  clear n0_ n1_ hHeld
  go_wp2_with (first | (with_reducible refine op_alloc rfl 25 rfl man0 zero25 ?_) | (with_reducible refine op_build rfl 25 #[] rfl man0 built0 ?_) | (with_reducible refine op_load rfl 25 (.tmp 6) rfl gq rfl 25 (man r t s) _ hgn.out Try.underlying25 rfl 34 info25 (man_size r t s hr32.out) ?_))
  refine (ref_bytes_no r t s _ hr32.out (by have := hsz_.out; omega) HM.out).mono ?_
  rintro e5 w5 ⟨rfl, hb5⟩
  have n0_ := Aside0.mk (below_step HB.out hb5)
  have n1_ := Aside0.mk ((hb5.block _ (blk_lt hg.out)).trans hg.out)
  have n2_ := Aside0.mk ((hb5.block _ (blk_lt hgn.out)).trans hgn.out)
  clear HB hg hgn hb5
  have HB := n0_; have hg := n1_; have hgn := n2_
  clear n0_ n1_ n2_
  go_wp2_with (first | (with_reducible refine op_alloc rfl 25 rfl man0 zero25 ?_) | (with_reducible refine op_build rfl 25 #[] rfl man0 built0 ?_) | (with_reducible refine op_store (w0 := w) w.heap.size rfl 25 (.tmp 2) (.tmp 42) rfl w.heap.size man0 rfl rfl 25 man0 hg.out 34 info25 man0_size man0_size man0_all HB.out (Nat.le_refl _) ?_; intro wz hgz _ HBz))
  exact ret_row rfl w.heap.size rfl 25 man0 _ hgz.out Try.underlying25 rfl 34 info25 man0_size rfl ⟨rfl, HBz.out⟩

set_option maxHeartbeats 3200000 in
theorem ref_diff (A : Option Addr) (c : Nat) (b : List Int) (w : World) (hr : CB w A b) (hc : b.length ≤ c) (hmx : b.length ≤ 100000) (hl : 43 ≤ b.length) (tv te : Int) (hat : Aside0 (POct.cofferref1_At.f 40 b 34 8 = some (tv, te))) (hm_ : mayB (wrap64 tv) (strOfNums (b.drop 43)) = true) (hne_ : manB ((b.take 34).drop 2) (wrap64 tv) (strOfNums (b.drop 43)) ≠ b) (hby : ∀ x ∈ b, 0 ≤ x ∧ x < 256) (hby2 : ∀ x ∈ manB ((b.take 34).drop 2) (wrap64 tv) (strOfNums (b.drop 43)), 0 ≤ x ∧ x < 256) :
    Calls Try.prog 14 #[.slice A b.length c] w fun e w' => e = .returned (.tuple #[.agg man0, .int .i64 4]) ∧ Below w.heap.size w w' := by
  have HR := Aside0.mk hr
  have HC := Aside0.mk hc
  have HB := Aside0.mk ((Below.refl w.heap.size w).alloc (Nat.le_refl _) (.cells man0 25))
  have hg := Aside0.mk (heap_alloc_new w (.cells man0 25))
  have d1 : decide ((b.length : Int) < 43) = false := by simp; omega
  obtain ⟨y7, A7, hy7, hl7, hc7_, hcut7, hC7⟩ := cut_drop (P := Try.prog) 27 Try.underlying27 POct.info5 A c b 43 (by omega) (by omega) hc
  obtain ⟨r, A9, hr9, hl9, hc9_, hcut9, hC9⟩ := cut_mid (P := Try.prog) 27 Try.underlying27 POct.info5 A c b 2 34 (by omega) (by omega) (by omega) hc
  have hr32 : Aside0 (r.length = 32) := ⟨by omega⟩
  have harr := fun (cc : Nat) => array_at (P := Try.prog) 23 32 info22 A9 r.length cc (by omega)
  have hR9 := Aside0.mk hr9
  obtain ⟨s, hs⟩ : ∃ s, Aside0 (s = strOfNums y7) := ⟨_, ⟨rfl⟩⟩
  have hsz_ : Aside0 (s.size ≤ 100000) := ⟨by rw [hs.out, strOfNums_size]; omega⟩
  have hS7 : Aside0 (s = strOfNums (b.drop 43)) := ⟨by rw [hs.out, hy7]; rfl⟩
  obtain ⟨t, ht⟩ : ∃ t, Aside0 (t = wrap64 tv) := ⟨_, ⟨rfl⟩⟩
  have htw : wrap64 tv = t := ht.out.symm
  have htw2 : IntKind.i64.wrap tv = t := (IntWalk.i64_left tv).trans htw
  have htle : Aside0 (t ≤ 9223372036854775807) := ⟨by rw [ht.out]; unfold wrap64; omega⟩
  clear hr9 hl9 hl7 hc9_ hy7 hr hc
  have HM : Aside0 (mayB t s = true) := ⟨by rw [ht.out, hS7.out]; exact hm_⟩
  clear hm_
  have HBY := Aside0.mk hby; have HBY2 := Aside0.mk hby2; clear hby hby2
  go_enter Try.func14, Try.ntmps14
  go_wp2_with (first | (with_reducible refine op_alloc rfl 25 rfl man0 zero25 ?_) | (with_reducible refine op_build rfl 25 #[] rfl man0 built0 ?_))
  refine (POct.cofferref1_At.calls 40 A c b 34 8 tv te _ (Kd.C_below HR.out HB.out) HC.out hat.out).mono ?_
  rintro e1 w1 ⟨rfl, hd1⟩
  have n0_ := Aside0.mk (below_step HB.out hd1.below)
  have n1_ := Aside0.mk ((hd1.below.block _ (by simp)).trans hg.out)
  have hgl : Aside0 (w.heap.size < w1.heap.size) := ⟨blk_lt n1_.out⟩
  clear HB hg hd1
  have HB := n0_; have hg := n1_
  clear n0_ n1_
  go_wp2_with (first | (with_reducible refine op_alloc rfl 25 rfl man0 zero25 ?_) | (with_reducible refine op_build rfl 25 #[] rfl man0 built0 ?_))
  obtain ⟨ad, rfl, hadc⟩ := CB.cells (hC9 w1 (Kd.C_below HR.out HB.out)) (by rw [hr32.out]; decide)
  have hld : ∀ W : World, Below w1.heap.size w1 W → (Instr.loadAt 23 (.pointer (some ad))).run Try.prog W = .ok (.agg (nums .u8 r).toArray) W := fun W hW => run_loadVar_at ad 23 (nums .u8 r) _ (fun j v hv => (hW.cell (World.block_lt_of_cell? w1 _ (hadc j v hv))).trans (hadc j v hv)) info22 rfl (by rw [nums_length, hr32.out]; exact info23s)
  have hcv : ∀ W : World, Below w1.heap.size w1 W → (convert 27 9 (.slice A7 y7.length (c - 43))).run Try.prog W = .ok (.string s) W := fun W hW => by rw [hs.out]; exact Kd.C_string (P := Try.prog) (c := c - 43) Try.underlying27 Try.underlying5 Try.underlying9 (Kd.C_below (hC7 w1 (Kd.C_below HR.out HB.out)) hW)
  have HF := Aside0.mk (And.intro hld hcv)
  clear hld hcv hadc
  refine start_ (n := 12) (S := (fun W_ => Below w1.heap.size w1 W_)) (ds := []) #[false, false, false, false, false, false, false, false, false, false, false, false] (by kernel_rfl) rfl rfl (below_drew1 (Below.refl _ _)) (fun hHeld => ?_); refine with_tabW rf4tab rf4bits (fun HT_ HW_ => ?_)
  generalize w1.drew = wq at hHeld ⊢
  refine pure_ (i := 0) (N := some 18) (v := ?_) (a' := ?_) #[true, false, false, false, false, false, false, false, false, false, false, false] rfl rfl (any_of HT_.out (by kernel_rfl)) (fun _ _ _ h => h) (Or.inl ⟨by rfl, ?_⟩) ?_ ?_
  rotate_left
  · intro w'
    go_simp
    with_reducible rfl
  rotate_left
  · simp only [Act.put, List.setIfInBounds_toArray, List.set_cons_zero, List.set_cons_succ, i64_w, i32_w]
    rfl
  refine pure_ (i := 1) (N := some 19) (v := ?_) (a' := ?_) #[true, true, false, false, false, false, false, false, false, false, false, false] rfl rfl (any_of HT_.out (by kernel_rfl)) (fun _ _ _ h => h) (Or.inl ⟨by rfl, ?_⟩) ?_ ?_
  rotate_left
  · intro w'
    go_simp
    with_reducible rfl
  rotate_left
  · simp only [Act.put, List.setIfInBounds_toArray, List.set_cons_zero, List.set_cons_succ, i64_w, i32_w]
    rfl
  refine pure_ (i := 2) (N := some 20) (v := ?_) (a' := ?_) #[true, true, true, false, false, false, false, false, false, false, false, false] rfl rfl (any_of HT_.out (by kernel_rfl)) (fun _ _ _ h => h) (Or.inl ⟨by rfl, ?_⟩) ?_ ?_
  rotate_left
  · intro w'
    go_simp
    with_reducible rfl
  rotate_left
  · simp only [Act.put, List.setIfInBounds_toArray, List.set_cons_zero, List.set_cons_succ, i64_w, i32_w]
    rfl
  refine take_ (i := 3) (N := some 21) (v := (.agg (nums .u8 r).toArray)) (a' := ?_) #[true, true, true, true, false, false, false, false, false, false, false, false] rfl rfl (take_ofW HT_.out HW_.out (by kernel_rfl)) (fun _ _ _ h => h) (Or.inl ⟨by rfl, fun w' hw' => load_run rfl rfl (HF.out.1 w' hw')⟩) hHeld ?_ ?_
  rotate_left
  · simp only [Act.put, List.setIfInBounds_toArray, List.set_cons_zero, List.set_cons_succ, i64_w, i32_w]
    rfl
  refine pure_ (i := 4) (N := some 22) (v := ?_) (a' := ?_) #[true, true, true, true, true, false, false, false, false, false, false, false] rfl rfl (any_of HT_.out (by kernel_rfl)) (fun _ _ _ h => h) (Or.inl ⟨by rfl, ?_⟩) ?_ ?_
  rotate_left
  · intro w'
    go_simp
    with_reducible rfl
  rotate_left
  · simp only [Act.put, List.setIfInBounds_toArray, List.set_cons_zero, List.set_cons_succ, i64_w, i32_w]
    rfl
  refine pure_ (i := 5) (N := some 23) (v := ?_) (a' := ?_) #[true, true, true, true, true, true, false, false, false, false, false, false] rfl rfl (any_of HT_.out (by kernel_rfl)) (fun _ _ _ h => h) (Or.inl ⟨by rfl, ?_⟩) ?_ ?_
  rotate_left
  · intro w'
    go_simp
    with_reducible rfl
  rotate_left
  · simp only [Act.put, List.setIfInBounds_toArray, List.set_cons_zero, List.set_cons_succ, i64_w, i32_w]
    rfl
  refine pure_ (i := 6) (N := some 24) (v := ?_) (a' := ?_) #[true, true, true, true, true, true, true, false, false, false, false, false] rfl rfl (any_of HT_.out (by kernel_rfl)) (fun _ _ _ h => h) (Or.inl ⟨by rfl, ?_⟩) ?_ ?_
  rotate_left
  · intro w'
    go_simp
    with_reducible rfl
  rotate_left
  · simp only [Act.put, List.setIfInBounds_toArray, List.set_cons_zero, List.set_cons_succ, i64_w, i32_w]
    rfl
  refine pure_ (i := 7) (N := some 25) (v := ?_) (a' := ?_) #[true, true, true, true, true, true, true, true, false, false, false, false] rfl rfl (any_of HT_.out (by kernel_rfl)) (fun _ _ _ h => h) (Or.inl ⟨by rfl, ?_⟩) ?_ ?_
  rotate_left
  · intro w'
    go_simp
    with_reducible rfl
  rotate_left
  · simp only [Act.put, List.setIfInBounds_toArray, List.set_cons_zero, List.set_cons_succ, i64_w, i32_w]
    rfl
  refine take_ (i := 8) (N := some 26) (v := ?_) (a' := ?_) #[true, true, true, true, true, true, true, true, true, false, false, false] rfl rfl (take_ofW HT_.out HW_.out (by kernel_rfl)) (fun _ _ _ h => h) (Or.inl ⟨by rfl, ?_⟩) hHeld ?_ ?_
  rotate_left
  · intro w' hw'
    have hf0_ := HF.out.2 w' hw'
    go_simp
    with_reducible rfl
  rotate_left
  · simp only [Act.put, List.setIfInBounds_toArray, List.set_cons_zero, List.set_cons_succ, i64_w, i32_w]
    rfl
  refine pure_ (i := 9) (N := some 27) (v := (.agg (man r t s))) (a' := ?_) #[true, true, true, true, true, true, true, true, true, true, false, false] rfl rfl (any_of HT_.out (by kernel_rfl)) (fun _ _ _ h => h) (Or.inl ⟨by rfl, fun w' => build_run (ps := #[(0, .agg (nums .u8 r).toArray), (1, .int .i64 t), (2, .string s)]) rfl (by rw [List.map_toArray]; rfl) (built r t s hr32.out)⟩) ?_ ?_
  rotate_left
  · simp only [Act.put, List.setIfInBounds_toArray, List.set_cons_zero, List.set_cons_succ, i64_w, i32_w]
    rfl
  refine one_ (i := 10) (N := some 6) #[true, true, true, true, true, true, true, true, true, true, true, false] rfl rfl (one_of HT_.out (by kernel_rfl)) (by decide) (fun K hK => ?_)
  refine value_ (by rfl) rfl (alloc_run wq 25 rfl man0 zero25) ?_
  have HS1 := Aside0.mk (hHeld.alloc hHeld.size (.cells man0 25))
  have hgq := Aside0.mk (heap_alloc_new wq (.cells man0 25))
  obtain ⟨gq, hgq2, hgq3⟩ : ∃ gq, Aside0 (gq = wq.heap.size) ∧ Aside0 (w1.heap.size ≤ gq) := ⟨_, ⟨rfl⟩, ⟨hHeld.size⟩⟩
  rw [← hgq2.out] at hgq ⊢
  generalize wq.alloc (.cells man0 25) = wa at HS1 hgq hK ⊢
  refine hK.out _ _ (HS1.out) (fun hHeld => ?_)
  clear hK K
  refine norm_ (a' := ?_) ?_ ?_
  rotate_left
  · show Act.put _ (some 6) _ = _
    simp only [Act.put, List.setIfInBounds_toArray, List.set_cons_zero, List.set_cons_succ, i64_w, i32_w]
    rfl
  clear HS1
  refine one_ (i := 11) (N := none) #[true, true, true, true, true, true, true, true, true, true, true, true] rfl rfl (one_of HT_.out (by kernel_rfl)) (by decide) (fun K hK => ?_)
  refine skip_ (by rfl) rfl (store_run wa 25 (.tmp 6) (.tmp 27) rfl gq (man r t s) rfl rfl 25 man0 hgq.out 34 info25 (man_size r t s hr32.out) man0_size (man_all r t s)) ?_
  have HS1 := Aside0.mk (below_setRow hHeld hgq3.out (man r t s))
  have hgn := Aside0.mk (setRow_heap wa gq man0 (man r t s) 25 (0, 0) hgq.out)
  generalize wa.setRow gq (man r t s) = wb at HS1 hgn hK ⊢
  refine hK.out _ _ HS1.out (fun hHeld => ?_)
  clear hK K HS1
  refine done_ (done_of HT_.out (by kernel_rfl)) ?_
  clear HT_ HW_ HF hgq hgq2
  have n0_ := Aside0.mk (below_step HB.out hHeld)
  have n1_ := Aside0.mk ((hHeld.block _ hgl.out).trans hg.out)
  have hne : Aside0 (w.heap.size < gq) := ⟨by have := hgl.out; have := hgq3.out; omega⟩
  clear HB hg
  have HB := n0_; have hg := n1_
  clear n0_ n1_ hHeld
  go_wp2_with (first | (with_reducible refine op_alloc rfl 25 rfl man0 zero25 ?_) | (with_reducible refine op_build rfl 25 #[] rfl man0 built0 ?_) | (with_reducible refine op_load rfl 25 (.tmp 6) rfl gq rfl 25 (man r t s) _ hgn.out Try.underlying25 rfl 34 info25 (man_size r t s hr32.out) ?_))
  refine (ref_bytes_yes r t s _ hr32.out htle.out HM.out).mono ?_
  rintro e5 w5 ⟨v5, rfl, ho5, hb5⟩
  have HO5 := Aside0.mk ho5
  have n0_ := Aside0.mk (below_step HB.out hb5)
  have n1_ := Aside0.mk ((hb5.block _ (blk_lt hg.out)).trans hg.out)
  have n2_ := Aside0.mk ((hb5.block _ (blk_lt hgn.out)).trans hgn.out)
  clear HB hg hgn hb5
  have HB := n0_; have hg := n1_; have hgn := n2_
  clear n0_ n1_ n2_
  have hcva := own_string (P := Try.prog) Try.underlying27 Try.underlying5 Try.underlying9 (RB.own HO5.out)
  have hcvb := Kd.C_string (P := Try.prog) (c := c) Try.underlying27 Try.underlying5 Try.underlying9 (Kd.C_below HR.out HB.out)
  have hab : Aside0 (manB r t s = manB ((b.take 34).drop 2) (wrap64 tv) (strOfNums (b.drop 43))) := ⟨by rw [hR9.out, ht.out, hS7.out]; rfl⟩
  clear ho5
  have hq : ((strOfNums (manB r t s)).toList == (strOfNums b).toList) = false := str_ne (by rw [hab.out]; exact HBY2.out) HBY.out (by rw [hab.out]; exact hne_)
  go_wp2_with (first | (with_reducible refine op_alloc rfl 25 rfl man0 zero25 ?_) | (with_reducible refine op_build rfl 25 #[] rfl man0 built0 ?_) | (with_reducible refine op_store (w0 := w) w.heap.size rfl 25 (.tmp 2) (.tmp 42) rfl w.heap.size man0 rfl rfl 25 man0 hg.out 34 info25 man0_size man0_size man0_all HB.out (Nat.le_refl _) ?_; intro wz hgz _ HBz))
  exact ret_row rfl w.heap.size rfl 25 man0 _ hgz.out Try.underlying25 rfl 34 info25 man0_size rfl ⟨rfl, HBz.out⟩

set_option maxHeartbeats 3200000 in
theorem ref_yes (A : Option Addr) (c : Nat) (b : List Int) (w : World) (hr : CB w A b) (hc : b.length ≤ c) (hmx : b.length ≤ 100000) (hl : 43 ≤ b.length) (tv te : Int) (hat : Aside0 (POct.cofferref1_At.f 40 b 34 8 = some (tv, te))) (hm_ : mayB (wrap64 tv) (strOfNums (b.drop 43)) = true) (heq_ : manB ((b.take 34).drop 2) (wrap64 tv) (strOfNums (b.drop 43)) = b) :
    Calls Try.prog 14 #[.slice A b.length c] w fun e w' => e = .returned (.tuple #[.agg (man ((b.take 34).drop 2) (wrap64 tv) (strOfNums (b.drop 43))), .int .i64 0]) ∧ Below w.heap.size w w' := by
  have HR := Aside0.mk hr
  have HC := Aside0.mk hc
  have HB := Aside0.mk ((Below.refl w.heap.size w).alloc (Nat.le_refl _) (.cells man0 25))
  have hg := Aside0.mk (heap_alloc_new w (.cells man0 25))
  have d1 : decide ((b.length : Int) < 43) = false := by simp; omega
  obtain ⟨y7, A7, hy7, hl7, hc7_, hcut7, hC7⟩ := cut_drop (P := Try.prog) 27 Try.underlying27 POct.info5 A c b 43 (by omega) (by omega) hc
  obtain ⟨r, A9, hr9, hl9, hc9_, hcut9, hC9⟩ := cut_mid (P := Try.prog) 27 Try.underlying27 POct.info5 A c b 2 34 (by omega) (by omega) (by omega) hc
  have hr32 : Aside0 (r.length = 32) := ⟨by omega⟩
  have harr := fun (cc : Nat) => array_at (P := Try.prog) 23 32 info22 A9 r.length cc (by omega)
  have hR9 := Aside0.mk hr9
  obtain ⟨s, hs⟩ : ∃ s, Aside0 (s = strOfNums y7) := ⟨_, ⟨rfl⟩⟩
  have hsz_ : Aside0 (s.size ≤ 100000) := ⟨by rw [hs.out, strOfNums_size]; omega⟩
  have hS7 : Aside0 (s = strOfNums (b.drop 43)) := ⟨by rw [hs.out, hy7]; rfl⟩
  obtain ⟨t, ht⟩ : ∃ t, Aside0 (t = wrap64 tv) := ⟨_, ⟨rfl⟩⟩
  have htw : wrap64 tv = t := ht.out.symm
  have htw2 : IntKind.i64.wrap tv = t := (IntWalk.i64_left tv).trans htw
  have htle : Aside0 (t ≤ 9223372036854775807) := ⟨by rw [ht.out]; unfold wrap64; omega⟩
  clear hr9 hl9 hl7 hc9_ hy7 hr hc
  have HM : Aside0 (mayB t s = true) := ⟨by rw [ht.out, hS7.out]; exact hm_⟩
  clear hm_
  go_enter Try.func14, Try.ntmps14
  go_wp2_with (first | (with_reducible refine op_alloc rfl 25 rfl man0 zero25 ?_) | (with_reducible refine op_build rfl 25 #[] rfl man0 built0 ?_))
  refine (POct.cofferref1_At.calls 40 A c b 34 8 tv te _ (Kd.C_below HR.out HB.out) HC.out hat.out).mono ?_
  rintro e1 w1 ⟨rfl, hd1⟩
  have n0_ := Aside0.mk (below_step HB.out hd1.below)
  have n1_ := Aside0.mk ((hd1.below.block _ (by simp)).trans hg.out)
  have hgl : Aside0 (w.heap.size < w1.heap.size) := ⟨blk_lt n1_.out⟩
  clear HB hg hd1
  have HB := n0_; have hg := n1_
  clear n0_ n1_
  go_wp2_with (first | (with_reducible refine op_alloc rfl 25 rfl man0 zero25 ?_) | (with_reducible refine op_build rfl 25 #[] rfl man0 built0 ?_))
  obtain ⟨ad, rfl, hadc⟩ := CB.cells (hC9 w1 (Kd.C_below HR.out HB.out)) (by rw [hr32.out]; decide)
  have hld : ∀ W : World, Below w1.heap.size w1 W → (Instr.loadAt 23 (.pointer (some ad))).run Try.prog W = .ok (.agg (nums .u8 r).toArray) W := fun W hW => run_loadVar_at ad 23 (nums .u8 r) _ (fun j v hv => (hW.cell (World.block_lt_of_cell? w1 _ (hadc j v hv))).trans (hadc j v hv)) info22 rfl (by rw [nums_length, hr32.out]; exact info23s)
  have hcv : ∀ W : World, Below w1.heap.size w1 W → (convert 27 9 (.slice A7 y7.length (c - 43))).run Try.prog W = .ok (.string s) W := fun W hW => by rw [hs.out]; exact Kd.C_string (P := Try.prog) (c := c - 43) Try.underlying27 Try.underlying5 Try.underlying9 (Kd.C_below (hC7 w1 (Kd.C_below HR.out HB.out)) hW)
  have HF := Aside0.mk (And.intro hld hcv)
  clear hld hcv hadc
  refine start_ (n := 12) (S := (fun W_ => Below w1.heap.size w1 W_)) (ds := []) #[false, false, false, false, false, false, false, false, false, false, false, false] (by kernel_rfl) rfl rfl (below_drew1 (Below.refl _ _)) (fun hHeld => ?_); refine with_tabW rf4tab rf4bits (fun HT_ HW_ => ?_)
  generalize w1.drew = wq at hHeld ⊢
  refine pure_ (i := 0) (N := some 18) (v := ?_) (a' := ?_) #[true, false, false, false, false, false, false, false, false, false, false, false] rfl rfl (any_of HT_.out (by kernel_rfl)) (fun _ _ _ h => h) (Or.inl ⟨by rfl, ?_⟩) ?_ ?_
  rotate_left
  · intro w'
    go_simp
    with_reducible rfl
  rotate_left
  · simp only [Act.put, List.setIfInBounds_toArray, List.set_cons_zero, List.set_cons_succ, i64_w, i32_w]
    rfl
  refine pure_ (i := 1) (N := some 19) (v := ?_) (a' := ?_) #[true, true, false, false, false, false, false, false, false, false, false, false] rfl rfl (any_of HT_.out (by kernel_rfl)) (fun _ _ _ h => h) (Or.inl ⟨by rfl, ?_⟩) ?_ ?_
  rotate_left
  · intro w'
    go_simp
    with_reducible rfl
  rotate_left
  · simp only [Act.put, List.setIfInBounds_toArray, List.set_cons_zero, List.set_cons_succ, i64_w, i32_w]
    rfl
  refine pure_ (i := 2) (N := some 20) (v := ?_) (a' := ?_) #[true, true, true, false, false, false, false, false, false, false, false, false] rfl rfl (any_of HT_.out (by kernel_rfl)) (fun _ _ _ h => h) (Or.inl ⟨by rfl, ?_⟩) ?_ ?_
  rotate_left
  · intro w'
    go_simp
    with_reducible rfl
  rotate_left
  · simp only [Act.put, List.setIfInBounds_toArray, List.set_cons_zero, List.set_cons_succ, i64_w, i32_w]
    rfl
  refine take_ (i := 3) (N := some 21) (v := (.agg (nums .u8 r).toArray)) (a' := ?_) #[true, true, true, true, false, false, false, false, false, false, false, false] rfl rfl (take_ofW HT_.out HW_.out (by kernel_rfl)) (fun _ _ _ h => h) (Or.inl ⟨by rfl, fun w' hw' => load_run rfl rfl (HF.out.1 w' hw')⟩) hHeld ?_ ?_
  rotate_left
  · simp only [Act.put, List.setIfInBounds_toArray, List.set_cons_zero, List.set_cons_succ, i64_w, i32_w]
    rfl
  refine pure_ (i := 4) (N := some 22) (v := ?_) (a' := ?_) #[true, true, true, true, true, false, false, false, false, false, false, false] rfl rfl (any_of HT_.out (by kernel_rfl)) (fun _ _ _ h => h) (Or.inl ⟨by rfl, ?_⟩) ?_ ?_
  rotate_left
  · intro w'
    go_simp
    with_reducible rfl
  rotate_left
  · simp only [Act.put, List.setIfInBounds_toArray, List.set_cons_zero, List.set_cons_succ, i64_w, i32_w]
    rfl
  refine pure_ (i := 5) (N := some 23) (v := ?_) (a' := ?_) #[true, true, true, true, true, true, false, false, false, false, false, false] rfl rfl (any_of HT_.out (by kernel_rfl)) (fun _ _ _ h => h) (Or.inl ⟨by rfl, ?_⟩) ?_ ?_
  rotate_left
  · intro w'
    go_simp
    with_reducible rfl
  rotate_left
  · simp only [Act.put, List.setIfInBounds_toArray, List.set_cons_zero, List.set_cons_succ, i64_w, i32_w]
    rfl
  refine pure_ (i := 6) (N := some 24) (v := ?_) (a' := ?_) #[true, true, true, true, true, true, true, false, false, false, false, false] rfl rfl (any_of HT_.out (by kernel_rfl)) (fun _ _ _ h => h) (Or.inl ⟨by rfl, ?_⟩) ?_ ?_
  rotate_left
  · intro w'
    go_simp
    with_reducible rfl
  rotate_left
  · simp only [Act.put, List.setIfInBounds_toArray, List.set_cons_zero, List.set_cons_succ, i64_w, i32_w]
    rfl
  refine pure_ (i := 7) (N := some 25) (v := ?_) (a' := ?_) #[true, true, true, true, true, true, true, true, false, false, false, false] rfl rfl (any_of HT_.out (by kernel_rfl)) (fun _ _ _ h => h) (Or.inl ⟨by rfl, ?_⟩) ?_ ?_
  rotate_left
  · intro w'
    go_simp
    with_reducible rfl
  rotate_left
  · simp only [Act.put, List.setIfInBounds_toArray, List.set_cons_zero, List.set_cons_succ, i64_w, i32_w]
    rfl
  refine take_ (i := 8) (N := some 26) (v := ?_) (a' := ?_) #[true, true, true, true, true, true, true, true, true, false, false, false] rfl rfl (take_ofW HT_.out HW_.out (by kernel_rfl)) (fun _ _ _ h => h) (Or.inl ⟨by rfl, ?_⟩) hHeld ?_ ?_
  rotate_left
  · intro w' hw'
    have hf0_ := HF.out.2 w' hw'
    go_simp
    with_reducible rfl
  rotate_left
  · simp only [Act.put, List.setIfInBounds_toArray, List.set_cons_zero, List.set_cons_succ, i64_w, i32_w]
    rfl
  refine pure_ (i := 9) (N := some 27) (v := (.agg (man r t s))) (a' := ?_) #[true, true, true, true, true, true, true, true, true, true, false, false] rfl rfl (any_of HT_.out (by kernel_rfl)) (fun _ _ _ h => h) (Or.inl ⟨by rfl, fun w' => build_run (ps := #[(0, .agg (nums .u8 r).toArray), (1, .int .i64 t), (2, .string s)]) rfl (by rw [List.map_toArray]; rfl) (built r t s hr32.out)⟩) ?_ ?_
  rotate_left
  · simp only [Act.put, List.setIfInBounds_toArray, List.set_cons_zero, List.set_cons_succ, i64_w, i32_w]
    rfl
  refine one_ (i := 10) (N := some 6) #[true, true, true, true, true, true, true, true, true, true, true, false] rfl rfl (one_of HT_.out (by kernel_rfl)) (by decide) (fun K hK => ?_)
  refine value_ (by rfl) rfl (alloc_run wq 25 rfl man0 zero25) ?_
  have HS1 := Aside0.mk (hHeld.alloc hHeld.size (.cells man0 25))
  have hgq := Aside0.mk (heap_alloc_new wq (.cells man0 25))
  obtain ⟨gq, hgq2, hgq3⟩ : ∃ gq, Aside0 (gq = wq.heap.size) ∧ Aside0 (w1.heap.size ≤ gq) := ⟨_, ⟨rfl⟩, ⟨hHeld.size⟩⟩
  rw [← hgq2.out] at hgq ⊢
  generalize wq.alloc (.cells man0 25) = wa at HS1 hgq hK ⊢
  refine hK.out _ _ (HS1.out) (fun hHeld => ?_)
  clear hK K
  refine norm_ (a' := ?_) ?_ ?_
  rotate_left
  · show Act.put _ (some 6) _ = _
    simp only [Act.put, List.setIfInBounds_toArray, List.set_cons_zero, List.set_cons_succ, i64_w, i32_w]
    rfl
  clear HS1
  refine one_ (i := 11) (N := none) #[true, true, true, true, true, true, true, true, true, true, true, true] rfl rfl (one_of HT_.out (by kernel_rfl)) (by decide) (fun K hK => ?_)
  refine skip_ (by rfl) rfl (store_run wa 25 (.tmp 6) (.tmp 27) rfl gq (man r t s) rfl rfl 25 man0 hgq.out 34 info25 (man_size r t s hr32.out) man0_size (man_all r t s)) ?_
  have HS1 := Aside0.mk (below_setRow hHeld hgq3.out (man r t s))
  have hgn := Aside0.mk (setRow_heap wa gq man0 (man r t s) 25 (0, 0) hgq.out)
  generalize wa.setRow gq (man r t s) = wb at HS1 hgn hK ⊢
  refine hK.out _ _ HS1.out (fun hHeld => ?_)
  clear hK K HS1
  refine done_ (done_of HT_.out (by kernel_rfl)) ?_
  clear HT_ HW_ HF hgq hgq2
  have n0_ := Aside0.mk (below_step HB.out hHeld)
  have n1_ := Aside0.mk ((hHeld.block _ hgl.out).trans hg.out)
  have hne : Aside0 (w.heap.size < gq) := ⟨by have := hgl.out; have := hgq3.out; omega⟩
  clear HB hg
  have HB := n0_; have hg := n1_
  clear n0_ n1_ hHeld
  go_wp2_with (first | (with_reducible refine op_alloc rfl 25 rfl man0 zero25 ?_) | (with_reducible refine op_build rfl 25 #[] rfl man0 built0 ?_) | (with_reducible refine op_load rfl 25 (.tmp 6) rfl gq rfl 25 (man r t s) _ hgn.out Try.underlying25 rfl 34 info25 (man_size r t s hr32.out) ?_))
  refine (ref_bytes_yes r t s _ hr32.out htle.out HM.out).mono ?_
  rintro e5 w5 ⟨v5, rfl, ho5, hb5⟩
  have HO5 := Aside0.mk ho5
  have n0_ := Aside0.mk (below_step HB.out hb5)
  have n1_ := Aside0.mk ((hb5.block _ (blk_lt hg.out)).trans hg.out)
  have n2_ := Aside0.mk ((hb5.block _ (blk_lt hgn.out)).trans hgn.out)
  clear HB hg hgn hb5
  have HB := n0_; have hg := n1_; have hgn := n2_
  clear n0_ n1_ n2_
  have hcva := own_string (P := Try.prog) Try.underlying27 Try.underlying5 Try.underlying9 (RB.own HO5.out)
  have hcvb := Kd.C_string (P := Try.prog) (c := c) Try.underlying27 Try.underlying5 Try.underlying9 (Kd.C_below HR.out HB.out)
  have hab : Aside0 (manB r t s = manB ((b.take 34).drop 2) (wrap64 tv) (strOfNums (b.drop 43))) := ⟨by rw [hR9.out, ht.out, hS7.out]; rfl⟩
  clear ho5
  rw [hab.out, heq_] at hcva
  go_wp2_with (first | (with_reducible refine op_alloc rfl 25 rfl man0 zero25 ?_) | (with_reducible refine op_build rfl 25 #[] rfl man0 built0 ?_) | (with_reducible refine op_load rfl 25 (.tmp 6) rfl gq rfl 25 (man r t s) _ hgn.out Try.underlying25 rfl 34 info25 (man_size r t s hr32.out) ?_) | (with_reducible refine op_store (w0 := w) w.heap.size rfl 25 (.tmp 2) (.tmp 43) rfl w.heap.size (man r t s) rfl rfl 25 man0 hg.out 34 info25 (man_size r t s hr32.out) man0_size (man_all r t s) HB.out (Nat.le_refl _) ?_; intro wz hgz _ HBz))
  have hfin := Aside0.mk (show man r t s = man ((b.take 34).drop 2) (wrap64 tv) (strOfNums (b.drop 43)) by rw [hR9.out, ht.out, hS7.out]; rfl)
  exact ret_row rfl w.heap.size rfl 25 (man r t s) _ hgz.out Try.underlying25 rfl 34 info25 (man_size r t s hr32.out) rfl ⟨by rw [← hfin.out]; rfl, HBz.out⟩
end Go.Proofs.Ytdalckmbmcenbaa.Sr
