/- An item found by its name: the program's Find. -/
import Derived.Test.YtmcankeggbofhaaFd
namespace Go.Proofs.Ytmcankeggbofhaa.Fe
open Go.RowKit Go.Proofs.YtmcankeggbofhaaW.PrintWords Go.Proofs.YtmcankeggbofhaaW.PrintLast Go.Proofs.YtmcankeggbofhaaW.PrintMore
open It Nm Ag My Spc By Im Iw Ip Tk Tl Tg Ie Lr Go.Proofs.Ytmcankeggbofhaa.Fd
set_option linter.unusedVariables false
set_option linter.unusedSimpArgs false
set_option maxRecDepth 100000
def fd4T : Bool × List (List Nat × List Nat) := (true, [([], []), ([], []), ([1], [1]), ([0, 2], [0, 2]), ([3], [3]), ([4], [4]), ([4], [4]), ([5, 6, 4], [4, 5, 6]), ([7, 4], [4, 7]), ([8, 4], [4, 8]), ([4], [4]), ([9, 10, 4], [4, 9, 10]), ([4, 11], [4, 11])])
def fd4B : List Nat := [0, 0, 2, 7, 15, 31, 31, 127, 255, 511, 31, 2047, 4095]
theorem fd4tab : rtab .any (opsOf Try.f11 4) = fd4T := by kernel_rfl
theorem fd4bits : waitsOk fd4T.2 fd4B = true := by kernel_rfl
theorem built00 : Try.prog.built 28 [] = some (cellsOf item0).toArray := by kernel_rfl
set_option maxHeartbeats 1600000 in
theorem find_no (A : Option Addr) (c : Nat) (l : List Itm) (s : ByteArray) (w : World) (hr : CI w A l) (hc : l.length ≤ c) (hmx : l.length ≤ 9223372036854775807) (hm : mayL l = false) :
    Calls Try.prog 11 #[.slice A l.length c, .string s] w fun e w' => e = .returned (.tuple #[.agg (cellsOf item0).toArray, .int .i64 1]) ∧ Below w.heap.size w w' := by
  have HR := Aside0.mk hr; have HC := Aside0.mk hc
  have HB0 := Aside0.mk (show Below w.heap.size w (((w.alloc (.cells #[.slice A l.length c] 22)).alloc (.cells #[.string s] 9)).alloc (.cells (cellsOf item0).toArray 28)) from (((Below.refl w.heap.size w).alloc (Nat.le_refl _) _).alloc (by simp) _).alloc (by simp; omega) _)
  have hgA := Aside0.mk (show (((w.alloc (.cells #[.slice A l.length c] 22)).alloc (.cells #[.string s] 9)).alloc (.cells (cellsOf item0).toArray 28)).heap[w.heap.size]? = some (.cells #[.slice A l.length c] 22 (0, 0)) from ((((Below.refl (w.alloc (.cells #[.slice A l.length c] 22)).heap.size _).alloc (Nat.le_refl _) _).alloc (by simp) _).block _ (by simp)).trans (heap_alloc_new w _))
  have hgB := Aside0.mk (show (((w.alloc (.cells #[.slice A l.length c] 22)).alloc (.cells #[.string s] 9)).alloc (.cells (cellsOf item0).toArray 28)).heap[w.heap.size + 1]? = some (.cells #[.string s] 9 (0, 0)) from (((Below.refl ((w.alloc (.cells #[.slice A l.length c] 22)).alloc (.cells #[.string s] 9)).heap.size _).alloc (Nat.le_refl _) _).block _ (by simp)).trans (by have := heap_alloc_new (w.alloc (.cells #[.slice A l.length c] 22)) (.cells #[.string s] 9); simpa using this))
  have hgC := Aside0.mk (show It (((w.alloc (.cells #[.slice A l.length c] 22)).alloc (.cells #[.string s] 9)).alloc (.cells (cellsOf item0).toArray 28)) (w.heap.size + 2) item0 by have := heap_alloc_new ((w.alloc (.cells #[.slice A l.length c] 22)).alloc (.cells #[.string s] 9)) (.cells (cellsOf item0).toArray 28); simpa [It] using this)
  have kA0 : (((w.alloc (.cells #[.slice A l.length c] 22)).alloc (.cells #[.string s] 9)).alloc (.cells (cellsOf item0).toArray 28)).cell? ⟨w.heap.size, 0, none⟩ = some (.slice A l.length c) := by rw [blk_cell hgA.out]; rfl
  clear hr hc
  have HM := Aside0.mk hm
  clear hm
  go_enter Try.func11, Try.ntmps11
  go_wp2_with (first | (with_reducible refine op_alloc rfl 28 rfl _ zero28 ?_))
  refine (may_calls A c l _ (Kd.C_below HR.out HB0.out) HC.out hmx).mono ?_
  rw [HM.out]
  rintro e1 w1 ⟨rfl, hb1⟩
  have HB1 := Aside0.mk (below_step HB0.out hb1)
  have gA1 := Aside0.mk ((hb1.block _ (blk_lt hgA.out)).trans hgA.out); have gB1 := Aside0.mk ((hb1.block _ (blk_lt hgB.out)).trans hgB.out); have gC1 := Aside0.mk (show It w1 (w.heap.size + 2) item0 from (hb1.block _ (blk_lt hgC.out)).trans hgC.out)
  have kA1 : w1.cell? ⟨w.heap.size, 0, none⟩ = some (.slice A l.length c) := by rw [blk_cell gA1.out]; rfl
  have kB1 : w1.cell? ⟨w.heap.size + 1, 0, none⟩ = some (.string s) := by rw [blk_cell gB1.out]; rfl
  clear hgA hgB hgC HB0 hb1 kA0
  go_wp2_with (first | (with_reducible refine op_build rfl 28 _ rfl (cellsOf item0).toArray (by rw [List.map_toArray]; exact built00) ?_) | (refine op_store (w0 := w) w.heap.size rfl 28 (.tmp 4) (.tmp 10) rfl (w.heap.size + 2) (cellsOf item0).toArray rfl rfl 28 (cellsOf item0).toArray gC1.out 35 info28 (cells_sz ok0) (cells_sz ok0) (cells_all _) HB1.out (by omega) ?_; intro wz hgz _ HBz))
  exact ret_row rfl (w.heap.size + 2) rfl 28 (cellsOf item0).toArray _ hgz.out Try.underlying28 rfl 35 info28 (cells_sz ok0) rfl ⟨rfl, HBz.out⟩
set_option maxHeartbeats 6400000 in
theorem find_yes (A : Option Addr) (c : Nat) (l : List Itm) (s : ByteArray) (w : World) (hr : CI w A l) (hc : l.length ≤ c) (hmx : l.length ≤ 9223372036854775807) (hm : mayL l = true) :
    Calls Try.prog 11 #[.slice A l.length c, .string s] w fun e w' => e = .returned (.tuple #[.agg (cellsOf (findOut l s).1).toArray, .int .i64 (findOut l s).2]) ∧ Below w.heap.size w w' := by
  have HR := Aside0.mk hr; have HC := Aside0.mk hc
  have HB0 := Aside0.mk (show Below w.heap.size w (((w.alloc (.cells #[.slice A l.length c] 22)).alloc (.cells #[.string s] 9)).alloc (.cells (cellsOf item0).toArray 28)) from (((Below.refl w.heap.size w).alloc (Nat.le_refl _) _).alloc (by simp) _).alloc (by simp; omega) _)
  have hgA := Aside0.mk (show (((w.alloc (.cells #[.slice A l.length c] 22)).alloc (.cells #[.string s] 9)).alloc (.cells (cellsOf item0).toArray 28)).heap[w.heap.size]? = some (.cells #[.slice A l.length c] 22 (0, 0)) from ((((Below.refl (w.alloc (.cells #[.slice A l.length c] 22)).heap.size _).alloc (Nat.le_refl _) _).alloc (by simp) _).block _ (by simp)).trans (heap_alloc_new w _))
  have hgB := Aside0.mk (show (((w.alloc (.cells #[.slice A l.length c] 22)).alloc (.cells #[.string s] 9)).alloc (.cells (cellsOf item0).toArray 28)).heap[w.heap.size + 1]? = some (.cells #[.string s] 9 (0, 0)) from (((Below.refl ((w.alloc (.cells #[.slice A l.length c] 22)).alloc (.cells #[.string s] 9)).heap.size _).alloc (Nat.le_refl _) _).block _ (by simp)).trans (by have := heap_alloc_new (w.alloc (.cells #[.slice A l.length c] 22)) (.cells #[.string s] 9); simpa using this))
  have hgC := Aside0.mk (show It (((w.alloc (.cells #[.slice A l.length c] 22)).alloc (.cells #[.string s] 9)).alloc (.cells (cellsOf item0).toArray 28)) (w.heap.size + 2) item0 by have := heap_alloc_new ((w.alloc (.cells #[.slice A l.length c] 22)).alloc (.cells #[.string s] 9)) (.cells (cellsOf item0).toArray 28); simpa [It] using this)
  have kA0 : (((w.alloc (.cells #[.slice A l.length c] 22)).alloc (.cells #[.string s] 9)).alloc (.cells (cellsOf item0).toArray 28)).cell? ⟨w.heap.size, 0, none⟩ = some (.slice A l.length c) := by rw [blk_cell hgA.out]; rfl
  clear hr hc
  have HM := Aside0.mk hm
  clear hm
  go_enter Try.func11, Try.ntmps11
  go_wp2_with (first | (with_reducible refine op_alloc rfl 28 rfl _ zero28 ?_))
  refine (may_calls A c l _ (Kd.C_below HR.out HB0.out) HC.out hmx).mono ?_
  rw [HM.out]
  rintro e1 w1 ⟨rfl, hb1⟩
  have HB1 := Aside0.mk (below_step HB0.out hb1)
  have gA1 := Aside0.mk ((hb1.block _ (blk_lt hgA.out)).trans hgA.out); have gB1 := Aside0.mk ((hb1.block _ (blk_lt hgB.out)).trans hgB.out); have gC1 := Aside0.mk (show It w1 (w.heap.size + 2) item0 from (hb1.block _ (blk_lt hgC.out)).trans hgC.out)
  have kA1 : w1.cell? ⟨w.heap.size, 0, none⟩ = some (.slice A l.length c) := by rw [blk_cell gA1.out]; rfl
  have kB1 : w1.cell? ⟨w.heap.size + 1, 0, none⟩ = some (.string s) := by rw [blk_cell gB1.out]; rfl
  clear hgA hgB hgC HB0 hb1 kA0
  have HS := Aside0.mk (search_calls ⟨w.heap.size, 0, none⟩ ⟨w.heap.size + 1, 0, none⟩ A c l s w1 kA1 kB1 (Kd.C_below HR.out HB1.out) HM.out)
  go_wp2_with fail
  refine HS.out.mono ?_
  rintro e2 w2 ⟨r, hrl, hr0, hr1, rfl, hb2⟩
  have HB2 := Aside0.mk (below_step HB1.out hb2)
  have gA2 := Aside0.mk ((hb2.block _ (blk_lt gA1.out)).trans gA1.out); have gB2 := Aside0.mk ((hb2.block _ (blk_lt gB1.out)).trans gB1.out); have gC2 := Aside0.mk (show It w2 (w.heap.size + 2) item0 from (hb2.block _ (blk_lt gC1.out)).trans gC1.out)
  have HMS := Aside0.mk (miss_of HM.out r hr0 hr1)
  have HF := Aside0.mk (And.intro (fun W (hW : Below w2.heap.size w2 W) => (show W.cell? ⟨w.heap.size, 0, none⟩ = some (.slice A l.length c) by rw [blk_cell ((hW.block _ (blk_lt gA2.out)).trans gA2.out)]; rfl)) (fun W (hW : Below w2.heap.size w2 W) => (show W.cell? ⟨w.heap.size + 1, 0, none⟩ = some (.string s) by rw [blk_cell ((hW.block _ (blk_lt gB2.out)).trans gB2.out)]; rfl)))
  clear gA1 gB1 gC1 HB1 hb2 kA1 kB1 HS hr0 hr1
  go_wp2_with fail
  by_cases hrn : r = l.length
  · have e0 : ((r : Int) == (l.length : Int)) = true := by simp [hrn]
    have HO := Aside0.mk (find_miss HM.out (HMS.out (.inl hrn)))
    clear hrn hrl HMS
    refine start_ (n := 13) (S := (fun W_ => Below w2.heap.size w2 W_)) (ds := []) #[false, false, false, false, false, false, false, false, false, false, false, false, false] (by kernel_rfl) rfl rfl (below_drew1 (Below.refl _ _)) (fun hHeld => ?_); refine with_tabW fd4tab fd4bits (fun HT_ HW_ => ?_)
    generalize w2.drew = wq at hHeld ⊢
    refine pure_ (i := 0) (N := some 15) (v := ?_) (a' := ?_) #[true, false, false, false, false, false, false, false, false, false, false, false, false] rfl rfl (any_of HT_.out (by kernel_rfl)) (fun _ _ _ h => h) (Or.inl ⟨by rfl, ?_⟩) ?_ ?_
    rotate_left
    · intro w'
      go_simp
      with_reducible rfl
    rotate_left
    · simp only [Act.put, List.setIfInBounds_toArray, List.set_cons_zero, List.set_cons_succ, i64_w, i32_w]
      rfl
    refine take_ (i := 1) (N := some 16) (v := ?_) (a' := ?_) #[true, true, false, false, false, false, false, false, false, false, false, false, false] rfl rfl (take_ofW HT_.out HW_.out (by kernel_rfl)) (fun _ _ _ h => h) (Or.inl ⟨by rfl, ?_⟩) hHeld ?_ ?_
    rotate_left
    · intro w' hw'
      have hf0_ := HF.out.1 w' hw'
      go_simp
      with_reducible rfl
    rotate_left
    · simp only [Act.put, List.setIfInBounds_toArray, List.set_cons_zero, List.set_cons_succ, i64_w, i32_w]
      rfl
    refine pure_ (i := 2) (N := some 17) (v := ?_) (a' := ?_) #[true, true, true, false, false, false, false, false, false, false, false, false, false] rfl rfl (any_of HT_.out (by kernel_rfl)) (fun _ _ _ h => h) (Or.inl ⟨by rfl, ?_⟩) ?_ ?_
    rotate_left
    · intro w'
      go_simp
      with_reducible rfl
    rotate_left
    · simp only [Act.put, List.setIfInBounds_toArray, List.set_cons_zero, List.set_cons_succ, i64_w, i32_w]
      rfl
    refine pure_ (i := 3) (N := some 18) (v := ?_) (a' := ?_) #[true, true, true, true, false, false, false, false, false, false, false, false, false] rfl rfl (any_of HT_.out (by kernel_rfl)) (fun _ _ _ h => h) (Or.inl ⟨by rfl, ?_⟩) ?_ ?_
    rotate_left
    · intro w'
      go_simp
      with_reducible rfl
    rotate_left
    · simp only [Act.put, List.setIfInBounds_toArray, List.set_cons_zero, List.set_cons_succ, i64_w, i32_w]
      rfl
    refine pure_ (i := 4) (N := some 19) (v := ?_) (a' := ?_) #[true, true, true, true, true, false, false, false, false, false, false, false, false] rfl rfl (any_of HT_.out (by kernel_rfl)) (fun _ _ _ h => h) (Or.inl ⟨by rfl, ?_⟩) ?_ ?_
    rotate_left
    · intro w'
      go_simp
      with_reducible rfl
    rotate_left
    · simp only [Act.put, List.setIfInBounds_toArray, List.set_cons_zero, List.set_cons_succ, i64_w, i32_w]
      rfl
    refine pure_ (i := 5) (N := some 20) (v := undef) (a' := ?_) #[true, true, true, true, true, true, false, false, false, false, false, false, false] rfl rfl (any_of HT_.out (by kernel_rfl)) (fun _ _ _ h => h) (Or.inr ⟨by rfl, rfl⟩) ?_ ?_
    rotate_left
    · simp only [Act.put, List.setIfInBounds_toArray, List.set_cons_zero, List.set_cons_succ, i64_w, i32_w]
      rfl
    refine pure_ (i := 6) (N := some 21) (v := undef) (a' := ?_) #[true, true, true, true, true, true, true, false, false, false, false, false, false] rfl rfl (any_of HT_.out (by kernel_rfl)) (fun _ _ _ h => h) (Or.inr ⟨by rfl, rfl⟩) ?_ ?_
    rotate_left
    · simp only [Act.put, List.setIfInBounds_toArray, List.set_cons_zero, List.set_cons_succ, i64_w, i32_w]
      rfl
    refine pure_ (i := 7) (N := some 22) (v := undef) (a' := ?_) #[true, true, true, true, true, true, true, true, false, false, false, false, false] rfl rfl (any_of HT_.out (by kernel_rfl)) (fun _ _ _ h => h) (Or.inr ⟨by rfl, rfl⟩) ?_ ?_
    rotate_left
    · simp only [Act.put, List.setIfInBounds_toArray, List.set_cons_zero, List.set_cons_succ, i64_w, i32_w]
      rfl
    refine pure_ (i := 8) (N := some 23) (v := undef) (a' := ?_) #[true, true, true, true, true, true, true, true, true, false, false, false, false] rfl rfl (any_of HT_.out (by kernel_rfl)) (fun _ _ _ h => h) (Or.inr ⟨by rfl, rfl⟩) ?_ ?_
    rotate_left
    · simp only [Act.put, List.setIfInBounds_toArray, List.set_cons_zero, List.set_cons_succ, i64_w, i32_w]
      rfl
    refine pure_ (i := 9) (N := some 24) (v := undef) (a' := ?_) #[true, true, true, true, true, true, true, true, true, true, false, false, false] rfl rfl (any_of HT_.out (by kernel_rfl)) (fun _ _ _ h => h) (Or.inr ⟨by rfl, rfl⟩) ?_ ?_
    rotate_left
    · simp only [Act.put, List.setIfInBounds_toArray, List.set_cons_zero, List.set_cons_succ, i64_w, i32_w]
      rfl
    refine pure_ (i := 10) (N := some 25) (v := undef) (a' := ?_) #[true, true, true, true, true, true, true, true, true, true, true, false, false] rfl rfl (any_of HT_.out (by kernel_rfl)) (fun _ _ _ h => h) (Or.inr ⟨by rfl, rfl⟩) ?_ ?_
    rotate_left
    · simp only [Act.put, List.setIfInBounds_toArray, List.set_cons_zero, List.set_cons_succ, i64_w, i32_w]
      rfl
    refine pure_ (i := 11) (N := some 26) (v := undef) (a' := ?_) #[true, true, true, true, true, true, true, true, true, true, true, true, false] rfl rfl (any_of HT_.out (by kernel_rfl)) (fun _ _ _ h => h) (Or.inr ⟨by rfl, rfl⟩) ?_ ?_
    rotate_left
    · simp only [Act.put, List.setIfInBounds_toArray, List.set_cons_zero, List.set_cons_succ, i64_w, i32_w]
      rfl
    refine pure_ (i := 12) (N := some 27) (v := ?_) (a' := ?_) #[true, true, true, true, true, true, true, true, true, true, true, true, true] rfl rfl (any_of HT_.out (by kernel_rfl)) (fun _ _ _ h => h) (Or.inl ⟨by rfl, ?_⟩) ?_ ?_
    rotate_left
    · intro w'
      go_simp
      with_reducible rfl
    rotate_left
    · simp only [Act.put, List.setIfInBounds_toArray, List.set_cons_zero, List.set_cons_succ, i64_w, i32_w]
      rfl
    refine done_ (done_of HT_.out (by kernel_rfl)) ?_
    clear HT_ HW_
    have HB3 := Aside0.mk (below_step HB2.out hHeld)
    have gC3 := Aside0.mk (show It wq (w.heap.size + 2) item0 from (hHeld.block _ (blk_lt gC2.out)).trans gC2.out)
    have kA3 := HF.out.1 wq hHeld
    clear hHeld HB2 gC2 gA2 gB2 HF
    go_wp2_with (first | (with_reducible refine op_build rfl 28 _ rfl (cellsOf item0).toArray (by rw [List.map_toArray]; exact built00) ?_) | (refine op_store (w0 := w) w.heap.size rfl 28 (.tmp 4) (.tmp 28) rfl (w.heap.size + 2) (cellsOf item0).toArray rfl rfl 28 (cellsOf item0).toArray gC3.out 35 info28 (cells_sz ok0) (cells_sz ok0) (cells_all _) HB3.out (by omega) ?_; intro wz hgz _ HBz))
    exact ret_row rfl (w.heap.size + 2) rfl 28 (cellsOf item0).toArray _ hgz.out Try.underlying28 rfl 35 info28 (cells_sz ok0) rfl ⟨by rw [HO.out]; rfl, HBz.out⟩
  · have e0 : ((r : Int) == (l.length : Int)) = false := beq_eq_false_iff_ne.2 (by omega)
    have hlt : r < l.length := by omega
    obtain ⟨ad, hA, hok, hn, _⟩ := item_at (Kd.C_below HR.out HB2.out) r hlt
    subst hA
    rw [← at_get l r hlt] at hn hok
    have HLD := Aside0.mk (fun W (hW : Below w.heap.size w W) => (by obtain ⟨a', e', _, _, h⟩ := item_at (Kd.C_below HR.out hW) r hlt; cases e'; rw [at_get l r hlt]; exact h : (Instr.loadAt 28 (.pointer (some (ad.add (r * 35))))).run Try.prog W = .ok (.agg (cellsOf (at_ l r)).toArray) W))
    have HN := Aside0.mk (fun W (hW : Below w2.heap.size w2 W) => (hW.cell (World.block_lt_of_cell? w2 _ hn)).trans hn)
    have HOK := Aside0.mk hok
    cases hq : isN s (at_ l r) with
    | false =>
      have HO := Aside0.mk (find_miss HM.out (HMS.out (.inr hq)))
      have hq' : ((at_ l r).name.toList == s.toList) = false := hq
      obtain ⟨x, hx⟩ : ∃ x, at_ l r = x := ⟨_, rfl⟩
      rw [hx] at HLD HN HOK hq'
      clear hrn hrl HMS hn hok hq hx
      refine start_ (n := 13) (S := (fun W_ => Below w2.heap.size w2 W_)) (ds := []) #[false, false, false, false, false, false, false, false, false, false, false, false, false] (by kernel_rfl) rfl rfl (below_drew1 (Below.refl _ _)) (fun hHeld => ?_); refine with_tabW fd4tab fd4bits (fun HT_ HW_ => ?_)
      generalize w2.drew = wq at hHeld ⊢
      refine pure_ (i := 0) (N := some 15) (v := ?_) (a' := ?_) #[true, false, false, false, false, false, false, false, false, false, false, false, false] rfl rfl (any_of HT_.out (by kernel_rfl)) (fun _ _ _ h => h) (Or.inl ⟨by rfl, ?_⟩) ?_ ?_
      rotate_left
      · intro w'
        go_simp
        with_reducible rfl
      rotate_left
      · simp only [Act.put, List.setIfInBounds_toArray, List.set_cons_zero, List.set_cons_succ, i64_w, i32_w]
        rfl
      refine take_ (i := 1) (N := some 16) (v := ?_) (a' := ?_) #[true, true, false, false, false, false, false, false, false, false, false, false, false] rfl rfl (take_ofW HT_.out HW_.out (by kernel_rfl)) (fun _ _ _ h => h) (Or.inl ⟨by rfl, ?_⟩) hHeld ?_ ?_
      rotate_left
      · intro w' hw'
        have hf0_ := HF.out.1 w' hw'
        go_simp
        with_reducible rfl
      rotate_left
      · simp only [Act.put, List.setIfInBounds_toArray, List.set_cons_zero, List.set_cons_succ, i64_w, i32_w]
        rfl
      refine pure_ (i := 2) (N := some 17) (v := ?_) (a' := ?_) #[true, true, true, false, false, false, false, false, false, false, false, false, false] rfl rfl (any_of HT_.out (by kernel_rfl)) (fun _ _ _ h => h) (Or.inl ⟨by rfl, ?_⟩) ?_ ?_
      rotate_left
      · intro w'
        go_simp
        with_reducible rfl
      rotate_left
      · simp only [Act.put, List.setIfInBounds_toArray, List.set_cons_zero, List.set_cons_succ, i64_w, i32_w]
        rfl
      refine pure_ (i := 3) (N := some 18) (v := ?_) (a' := ?_) #[true, true, true, true, false, false, false, false, false, false, false, false, false] rfl rfl (any_of HT_.out (by kernel_rfl)) (fun _ _ _ h => h) (Or.inl ⟨by rfl, ?_⟩) ?_ ?_
      rotate_left
      · intro w'
        go_simp
        with_reducible rfl
      rotate_left
      · simp only [Act.put, List.setIfInBounds_toArray, List.set_cons_zero, List.set_cons_succ, i64_w, i32_w]
        rfl
      refine pure_ (i := 4) (N := some 19) (v := ?_) (a' := ?_) #[true, true, true, true, true, false, false, false, false, false, false, false, false] rfl rfl (any_of HT_.out (by kernel_rfl)) (fun _ _ _ h => h) (Or.inl ⟨by rfl, ?_⟩) ?_ ?_
      rotate_left
      · intro w'
        go_simp
        with_reducible rfl
      rotate_left
      · simp only [Act.put, List.setIfInBounds_toArray, List.set_cons_zero, List.set_cons_succ, i64_w, i32_w]
        rfl
      refine take_ (i := 5) (N := some 20) (v := ?_) (a' := ?_) #[true, true, true, true, true, true, false, false, false, false, false, false, false] rfl rfl (take_ofW HT_.out HW_.out (by kernel_rfl)) (fun _ _ _ h => h) (Or.inl ⟨by rfl, ?_⟩) hHeld ?_ ?_
      rotate_left
      · intro w' hw'
        have hf0_ := HF.out.1 w' hw'
        go_simp
        with_reducible rfl
      rotate_left
      · simp only [Act.put, List.setIfInBounds_toArray, List.set_cons_zero, List.set_cons_succ, i64_w, i32_w]
        rfl
      refine pure_ (i := 6) (N := some 21) (v := ?_) (a' := ?_) #[true, true, true, true, true, true, true, false, false, false, false, false, false] rfl rfl (any_of HT_.out (by kernel_rfl)) (fun _ _ _ h => h) (Or.inl ⟨by rfl, ?_⟩) ?_ ?_
      rotate_left
      · intro w'
        go_simp
        with_reducible rfl
      rotate_left
      · simp only [Act.put, List.setIfInBounds_toArray, List.set_cons_zero, List.set_cons_succ, i64_w, i32_w]
        rfl
      refine pure_ (i := 7) (N := some 22) (v := ?_) (a' := ?_) #[true, true, true, true, true, true, true, true, false, false, false, false, false] rfl rfl (any_of HT_.out (by kernel_rfl)) (fun _ _ _ h => h) (Or.inl ⟨by rfl, ?_⟩) ?_ ?_
      rotate_left
      · intro w'
        go_simp
        with_reducible rfl
      rotate_left
      · simp only [Act.put, List.setIfInBounds_toArray, List.set_cons_zero, List.set_cons_succ, i64_w, i32_w]
        rfl
      refine pure_ (i := 8) (N := some 23) (v := ?_) (a' := ?_) #[true, true, true, true, true, true, true, true, true, false, false, false, false] rfl rfl (any_of HT_.out (by kernel_rfl)) (fun _ _ _ h => h) (Or.inl ⟨by rfl, ?_⟩) ?_ ?_
      rotate_left
      · intro w'
        go_simp
        with_reducible rfl
      rotate_left
      · simp only [Act.put, List.setIfInBounds_toArray, List.set_cons_zero, List.set_cons_succ, i64_w, i32_w]
        rfl
      refine take_ (i := 9) (N := some 24) (v := ?_) (a' := ?_) #[true, true, true, true, true, true, true, true, true, true, false, false, false] rfl rfl (take_ofW HT_.out HW_.out (by kernel_rfl)) (fun _ _ _ h => h) (Or.inl ⟨by rfl, ?_⟩) hHeld ?_ ?_
      rotate_left
      · intro w' hw'
        have hf0_ := HN.out w' hw'
        go_simp
        with_reducible rfl
      rotate_left
      · simp only [Act.put, List.setIfInBounds_toArray, List.set_cons_zero, List.set_cons_succ, i64_w, i32_w]
        rfl
      refine take_ (i := 10) (N := some 25) (v := ?_) (a' := ?_) #[true, true, true, true, true, true, true, true, true, true, true, false, false] rfl rfl (take_ofW HT_.out HW_.out (by kernel_rfl)) (fun _ _ _ h => h) (Or.inl ⟨by rfl, ?_⟩) hHeld ?_ ?_
      rotate_left
      · intro w' hw'
        have hf0_ := HF.out.2 w' hw'
        go_simp
        with_reducible rfl
      rotate_left
      · simp only [Act.put, List.setIfInBounds_toArray, List.set_cons_zero, List.set_cons_succ, i64_w, i32_w]
        rfl
      refine pure_ (i := 11) (N := some 26) (v := ?_) (a' := ?_) #[true, true, true, true, true, true, true, true, true, true, true, true, false] rfl rfl (any_of HT_.out (by kernel_rfl)) (fun _ _ _ h => h) (Or.inl ⟨by rfl, ?_⟩) ?_ ?_
      rotate_left
      · intro w'
        go_simp
        with_reducible rfl
      rotate_left
      · simp only [Act.put, List.setIfInBounds_toArray, List.set_cons_zero, List.set_cons_succ, i64_w, i32_w]
        rfl
      refine pure_ (i := 12) (N := some 27) (v := ?_) (a' := ?_) #[true, true, true, true, true, true, true, true, true, true, true, true, true] rfl rfl (any_of HT_.out (by kernel_rfl)) (fun _ _ _ h => h) (Or.inl ⟨by rfl, ?_⟩) ?_ ?_
      rotate_left
      · intro w'
        go_simp
        with_reducible rfl
      rotate_left
      · simp only [Act.put, List.setIfInBounds_toArray, List.set_cons_zero, List.set_cons_succ, i64_w, i32_w]
        rfl
      refine done_ (done_of HT_.out (by kernel_rfl)) ?_
      clear HT_ HW_
      have HB3 := Aside0.mk (below_step HB2.out hHeld)
      have gC3 := Aside0.mk (show It wq (w.heap.size + 2) item0 from (hHeld.block _ (blk_lt gC2.out)).trans gC2.out)
      have kA3 := HF.out.1 wq hHeld
      clear hHeld HB2 gC2 gA2 gB2 HF
      go_wp2_with (first | (with_reducible refine op_build rfl 28 _ rfl (cellsOf item0).toArray (by rw [List.map_toArray]; exact built00) ?_) | (refine op_store (w0 := w) w.heap.size rfl 28 (.tmp 4) (.tmp 28) rfl (w.heap.size + 2) (cellsOf item0).toArray rfl rfl 28 (cellsOf item0).toArray gC3.out 35 info28 (cells_sz ok0) (cells_sz ok0) (cells_all _) HB3.out (by omega) ?_; intro wz hgz _ HBz))
      exact ret_row rfl (w.heap.size + 2) rfl 28 (cellsOf item0).toArray _ hgz.out Try.underlying28 rfl 35 info28 (cells_sz ok0) rfl ⟨by rw [HO.out]; rfl, HBz.out⟩
    | true =>
      have HO := Aside0.mk (find_hit HM.out r hlt hq)
      have hq' : ((at_ l r).name.toList == s.toList) = true := hq
      obtain ⟨x, hx⟩ : ∃ x, at_ l r = x := ⟨_, rfl⟩
      rw [hx] at HLD HN HOK hq' HO
      clear hrn hrl HMS hn hok hq hx
      refine start_ (n := 13) (S := (fun W_ => Below w2.heap.size w2 W_)) (ds := []) #[false, false, false, false, false, false, false, false, false, false, false, false, false] (by kernel_rfl) rfl rfl (below_drew1 (Below.refl _ _)) (fun hHeld => ?_); refine with_tabW fd4tab fd4bits (fun HT_ HW_ => ?_)
      generalize w2.drew = wq at hHeld ⊢
      refine pure_ (i := 0) (N := some 15) (v := ?_) (a' := ?_) #[true, false, false, false, false, false, false, false, false, false, false, false, false] rfl rfl (any_of HT_.out (by kernel_rfl)) (fun _ _ _ h => h) (Or.inl ⟨by rfl, ?_⟩) ?_ ?_
      rotate_left
      · intro w'
        go_simp
        with_reducible rfl
      rotate_left
      · simp only [Act.put, List.setIfInBounds_toArray, List.set_cons_zero, List.set_cons_succ, i64_w, i32_w]
        rfl
      refine take_ (i := 1) (N := some 16) (v := ?_) (a' := ?_) #[true, true, false, false, false, false, false, false, false, false, false, false, false] rfl rfl (take_ofW HT_.out HW_.out (by kernel_rfl)) (fun _ _ _ h => h) (Or.inl ⟨by rfl, ?_⟩) hHeld ?_ ?_
      rotate_left
      · intro w' hw'
        have hf0_ := HF.out.1 w' hw'
        go_simp
        with_reducible rfl
      rotate_left
      · simp only [Act.put, List.setIfInBounds_toArray, List.set_cons_zero, List.set_cons_succ, i64_w, i32_w]
        rfl
      refine pure_ (i := 2) (N := some 17) (v := ?_) (a' := ?_) #[true, true, true, false, false, false, false, false, false, false, false, false, false] rfl rfl (any_of HT_.out (by kernel_rfl)) (fun _ _ _ h => h) (Or.inl ⟨by rfl, ?_⟩) ?_ ?_
      rotate_left
      · intro w'
        go_simp
        with_reducible rfl
      rotate_left
      · simp only [Act.put, List.setIfInBounds_toArray, List.set_cons_zero, List.set_cons_succ, i64_w, i32_w]
        rfl
      refine pure_ (i := 3) (N := some 18) (v := ?_) (a' := ?_) #[true, true, true, true, false, false, false, false, false, false, false, false, false] rfl rfl (any_of HT_.out (by kernel_rfl)) (fun _ _ _ h => h) (Or.inl ⟨by rfl, ?_⟩) ?_ ?_
      rotate_left
      · intro w'
        go_simp
        with_reducible rfl
      rotate_left
      · simp only [Act.put, List.setIfInBounds_toArray, List.set_cons_zero, List.set_cons_succ, i64_w, i32_w]
        rfl
      refine pure_ (i := 4) (N := some 19) (v := ?_) (a' := ?_) #[true, true, true, true, true, false, false, false, false, false, false, false, false] rfl rfl (any_of HT_.out (by kernel_rfl)) (fun _ _ _ h => h) (Or.inl ⟨by rfl, ?_⟩) ?_ ?_
      rotate_left
      · intro w'
        go_simp
        with_reducible rfl
      rotate_left
      · simp only [Act.put, List.setIfInBounds_toArray, List.set_cons_zero, List.set_cons_succ, i64_w, i32_w]
        rfl
      refine take_ (i := 5) (N := some 20) (v := ?_) (a' := ?_) #[true, true, true, true, true, true, false, false, false, false, false, false, false] rfl rfl (take_ofW HT_.out HW_.out (by kernel_rfl)) (fun _ _ _ h => h) (Or.inl ⟨by rfl, ?_⟩) hHeld ?_ ?_
      rotate_left
      · intro w' hw'
        have hf0_ := HF.out.1 w' hw'
        go_simp
        with_reducible rfl
      rotate_left
      · simp only [Act.put, List.setIfInBounds_toArray, List.set_cons_zero, List.set_cons_succ, i64_w, i32_w]
        rfl
      refine pure_ (i := 6) (N := some 21) (v := ?_) (a' := ?_) #[true, true, true, true, true, true, true, false, false, false, false, false, false] rfl rfl (any_of HT_.out (by kernel_rfl)) (fun _ _ _ h => h) (Or.inl ⟨by rfl, ?_⟩) ?_ ?_
      rotate_left
      · intro w'
        go_simp
        with_reducible rfl
      rotate_left
      · simp only [Act.put, List.setIfInBounds_toArray, List.set_cons_zero, List.set_cons_succ, i64_w, i32_w]
        rfl
      refine pure_ (i := 7) (N := some 22) (v := ?_) (a' := ?_) #[true, true, true, true, true, true, true, true, false, false, false, false, false] rfl rfl (any_of HT_.out (by kernel_rfl)) (fun _ _ _ h => h) (Or.inl ⟨by rfl, ?_⟩) ?_ ?_
      rotate_left
      · intro w'
        go_simp
        with_reducible rfl
      rotate_left
      · simp only [Act.put, List.setIfInBounds_toArray, List.set_cons_zero, List.set_cons_succ, i64_w, i32_w]
        rfl
      refine pure_ (i := 8) (N := some 23) (v := ?_) (a' := ?_) #[true, true, true, true, true, true, true, true, true, false, false, false, false] rfl rfl (any_of HT_.out (by kernel_rfl)) (fun _ _ _ h => h) (Or.inl ⟨by rfl, ?_⟩) ?_ ?_
      rotate_left
      · intro w'
        go_simp
        with_reducible rfl
      rotate_left
      · simp only [Act.put, List.setIfInBounds_toArray, List.set_cons_zero, List.set_cons_succ, i64_w, i32_w]
        rfl
      refine take_ (i := 9) (N := some 24) (v := ?_) (a' := ?_) #[true, true, true, true, true, true, true, true, true, true, false, false, false] rfl rfl (take_ofW HT_.out HW_.out (by kernel_rfl)) (fun _ _ _ h => h) (Or.inl ⟨by rfl, ?_⟩) hHeld ?_ ?_
      rotate_left
      · intro w' hw'
        have hf0_ := HN.out w' hw'
        go_simp
        with_reducible rfl
      rotate_left
      · simp only [Act.put, List.setIfInBounds_toArray, List.set_cons_zero, List.set_cons_succ, i64_w, i32_w]
        rfl
      refine take_ (i := 10) (N := some 25) (v := ?_) (a' := ?_) #[true, true, true, true, true, true, true, true, true, true, true, false, false] rfl rfl (take_ofW HT_.out HW_.out (by kernel_rfl)) (fun _ _ _ h => h) (Or.inl ⟨by rfl, ?_⟩) hHeld ?_ ?_
      rotate_left
      · intro w' hw'
        have hf0_ := HF.out.2 w' hw'
        go_simp
        with_reducible rfl
      rotate_left
      · simp only [Act.put, List.setIfInBounds_toArray, List.set_cons_zero, List.set_cons_succ, i64_w, i32_w]
        rfl
      refine pure_ (i := 11) (N := some 26) (v := ?_) (a' := ?_) #[true, true, true, true, true, true, true, true, true, true, true, true, false] rfl rfl (any_of HT_.out (by kernel_rfl)) (fun _ _ _ h => h) (Or.inl ⟨by rfl, ?_⟩) ?_ ?_
      rotate_left
      · intro w'
        go_simp
        with_reducible rfl
      rotate_left
      · simp only [Act.put, List.setIfInBounds_toArray, List.set_cons_zero, List.set_cons_succ, i64_w, i32_w]
        rfl
      refine pure_ (i := 12) (N := some 27) (v := ?_) (a' := ?_) #[true, true, true, true, true, true, true, true, true, true, true, true, true] rfl rfl (any_of HT_.out (by kernel_rfl)) (fun _ _ _ h => h) (Or.inl ⟨by rfl, ?_⟩) ?_ ?_
      rotate_left
      · intro w'
        go_simp
        with_reducible rfl
      rotate_left
      · simp only [Act.put, List.setIfInBounds_toArray, List.set_cons_zero, List.set_cons_succ, i64_w, i32_w]
        rfl
      refine done_ (done_of HT_.out (by kernel_rfl)) ?_
      clear HT_ HW_
      have HB3 := Aside0.mk (below_step HB2.out hHeld)
      have gC3 := Aside0.mk (show It wq (w.heap.size + 2) item0 from (hHeld.block _ (blk_lt gC2.out)).trans gC2.out)
      have kA3 := HF.out.1 wq hHeld
      clear hHeld HB2 gC2 gA2 gB2 HF
      have HLD3 := Aside0.mk (HLD.out wq HB3.out)
      go_wp2_with (first | (refine op_load_at rfl 28 (.tmp 31) rfl _ _ rfl HLD3.out ?_) | (refine op_store (w0 := w) w.heap.size rfl 28 (.tmp 4) (.tmp 32) rfl (w.heap.size + 2) (cellsOf x).toArray rfl rfl 28 (cellsOf item0).toArray gC3.out 35 info28 (cells_sz HOK.out) (cells_sz ok0) (cells_all _) HB3.out (by omega) ?_; intro wz hgz _ HBz))
      exact ret_row rfl (w.heap.size + 2) rfl 28 (cellsOf x).toArray _ hgz.out Try.underlying28 rfl 35 info28 (cells_sz HOK.out) rfl ⟨by rw [HO.out]; rfl, HBz.out⟩
theorem find_calls (A : Option Addr) (c : Nat) (l : List Itm) (s : ByteArray) (w : World) (hr : CI w A l) (hc : l.length ≤ c) (hmx : l.length ≤ 9223372036854775807) :
    Calls Try.prog 11 #[.slice A l.length c, .string s] w fun e w' => e = .returned (.tuple #[.agg (cellsOf (findOut l s).1).toArray, .int .i64 (findOut l s).2]) ∧ Below w.heap.size w w' := by
  by_cases hm : mayL l = true
  · exact find_yes A c l s w hr hc hmx hm
  · have hm' : mayL l = false := by simpa using hm
    have hf : findOut l s = (item0, 1) := by unfold findOut; rw [if_neg hm]
    rw [hf]
    exact find_no A c l s w hr hc hmx hm'
end Go.Proofs.Ytmcankeggbofhaa.Fe
