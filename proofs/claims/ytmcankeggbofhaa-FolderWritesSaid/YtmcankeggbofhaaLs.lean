/- The walk of the law FolderFinds. -/
import Derived.Test.YtmcankeggbofhaaFf
import Derived.Test.YtmcankeggbofhaaLb
namespace Go.Proofs.Ytmcankeggbofhaa.Ls
open Go.RowKit Go.Proofs.YtmcankeggbofhaaW.PrintWords Go.Proofs.YtmcankeggbofhaaW.PrintLast Go.Proofs.YtmcankeggbofhaaW.PrintMore
open It Nm Ag My Spc By Im Iw Ip Tk Tl Tg Ie Bg Lr Lb Go.Proofs.Ytmcankeggbofhaa.Fd Fe Ff
set_option linter.unusedVariables false
set_option linter.unusedSimpArgs false
set_option maxRecDepth 100000
def fs13T : Bool × List (List Nat × List Nat) := (true, [([], []), ([0], [0]), ([1, 1], [1]), ([2], [2]), ([3, 2], [2, 3]), ([4, 2, 2], [2, 4]), ([5], [5]), ([5], [5]), ([5], [5]), ([7, 8, 5], [5, 7, 8]), ([9, 5], [5, 9]), ([6, 10, 5], [5, 6, 10]), ([5, 11, 2], [2, 5, 11]), ([2, 12], [2, 12])])
def fs13B : List Nat := [0, 1, 3, 7, 15, 31, 63, 63, 63, 447, 959, 2047, 4095, 8191]
theorem fs13tab : rtab .any (opsOf Try.f3 13) = fs13T := by kernel_rfl
theorem fs13bits : waitsOk fs13T.2 fs13B = true := by kernel_rfl
theorem neq_self (w : World) (x : Itm) (hx : Ok x) : (Go.binOp .neq 28 (.agg (cellsOf x).toArray) (.agg (cellsOf x).toArray)).run Try.prog w = .ok (.bool false) w := by
  rw [run_neq_struct, item_eq w x x hx hx, (eqI_iff x x).2 rfl]
  rfl
theorem neq_run' {o : Oper} {a : Act} {W : World} {x y : Operand} {p : Itm} (ho : o.op = .binOp .neq 28 x y 28) (hx : a.eval x = .agg (cellsOf p).toArray) (hy : a.eval y = .agg (cellsOf p).toArray) (hp : Ok p) : (execOp a.eval o).run Try.prog W = .ok (.value (.bool false)) W := by
  have := neq_run (W := W) ho hx hy hp hp
  rw [(eqI_iff p p).2 rfl] at this
  exact this
theorem find_ok {l : List Itm} (hl : ∀ x ∈ l, Ok x) (s : ByteArray) : Ok (findOut l s).1 := by
  unfold findOut
  by_cases hm : mayL l = true
  · rw [if_pos hm]
    cases hf : l.find? (isN s) with
    | none => exact ok0
    | some x => exact hl x (List.mem_of_find?_eq_some hf)
  · rw [if_neg hm]; exact ok0
theorem light_names {l : List Itm} (h : Li.lightB l = true) : ∀ i, (at_ l i).name.size ≤ 4611686018427387904 := by
  intro i
  unfold Li.lightB at h
  rw [Bool.and_eq_true, List.all_eq_true] at h
  by_cases hi : i < l.length
  · rw [at_get l i hi]
    have := h.2 _ (List.getElem_mem hi)
    have := of_decide_eq_true this
    omega
  · unfold at_; rw [List.getD_eq_getElem?_getD, List.getElem?_eq_none (by omega)]; show ByteArray.empty.size ≤ _; rw [ByteArray.size_empty]; omega
set_option maxHeartbeats 6400000 in
theorem finds_go (A : Option Addr) (c : Nat) (l : List Itm) (s : ByteArray) (w : World) (hr : CI w A l) (hc : l.length ≤ c) (hok : okI l) (hli : Li.lightB l = true) (hs : s.size ≤ 200) :
    Calls Try.prog 3 #[.slice A l.length c, .string s] w fun e w' => e = .returned (.bool true) ∧ Below w.heap.size w w' := by
  have HR := Aside0.mk hr; have HC := Aside0.mk hc
  have HMX := Aside0.mk hr.2.1
  have HLI := Aside0.mk (fun w h => light_false (l := l) w A c h hc)
  rw [hli] at HLI
  have HMY := Aside0.mk (fun W h => may_calls A c l W h hc hr.2.1)
  have HF1 := Aside0.mk (fun W h => find_calls A c l s W h hc hr.2.1)
  have HF2 := Aside0.mk (fun W h => ref_find_calls A c l s W h hc hr.2.1 (light_names hli))
  have hxo := find_ok (fun x hx => (hok x hx).1) s
  obtain ⟨x, nx, hfo⟩ : ∃ x nx, findOut l s = (x, nx) := ⟨_, _, rfl⟩
  rw [hfo] at HF1 HF2 hxo
  have hx : Aside0 (Ok x) := ⟨hxo⟩
  have d2 : decide (200 < (s.size : Int)) = false := decide_eq_false (by omega)
  clear hr hc hok hli hs hfo hxo
  go_enter Try.func3, Try.ntmps3
  go_wp2_with fail
  refine (begun_calls _).mono ?_
  rintro e0 w0 ⟨rfl, hb0⟩
  have HB0 := Aside0.mk hb0
  clear hb0
  go_wp2_with fail
  refine (HLI.out _ (Kd.C_below HR.out HB0.out)).mono ?_
  rintro e1 w1 ⟨rfl, hb1⟩
  have HB1 := Aside0.mk (below_step HB0.out hb1)
  clear hb1 HB0
  go_wp2_with fail
  refine (HF1.out _ (Kd.C_below HR.out HB1.out)).mono ?_
  rintro e2 w2 ⟨rfl, hb2⟩
  have HB2 := Aside0.mk (below_step HB1.out hb2)
  have HB2a := Aside0.mk (HB2.out.alloc HB2.out.size (.cells (cellsOf item0).toArray 28))
  have hga := Aside0.mk (heap_alloc_new w2 (.cells (cellsOf item0).toArray 28))
  clear hb2 HB1
  go_wp2_with (first | (with_reducible refine op_alloc rfl 28 rfl _ zero28 ?_) | (refine op_store (w0 := w) w.heap.size rfl 28 (.tmp 5) (.tmp 26) rfl w2.heap.size (cellsOf x).toArray rfl rfl 28 (cellsOf item0).toArray hga.out 35 info28 (cells_sz hx.out) (cells_sz ok0) (cells_all _) HB2a.out HB2.out.size ?_; intro w3 hg3 hw3 HB3))
  have hlt3 := Aside0.mk (blk_lt hg3.out)
  obtain ⟨g5, hg5⟩ : ∃ g5, Aside0 (g5 = w2.heap.size) := ⟨_, ⟨rfl⟩⟩
  rw [← hg5.out] at hg3 hlt3 ⊢
  clear HB2a hga hw3 hg5 HB2
  refine (HF2.out _ (Kd.C_below HR.out HB3.out)).mono ?_
  rintro e4 w4 ⟨rfl, hb4⟩
  have HB4 := Aside0.mk (below_step HB3.out hb4)
  have hg4 := Aside0.mk ((hb4.block _ hlt3.out).trans hg3.out)
  have hlt4 := Aside0.mk (blk_lt hg4.out)
  have HB4a := Aside0.mk (HB4.out.alloc HB4.out.size (.cells (cellsOf item0).toArray 28))
  have hga := Aside0.mk (heap_alloc_new w4 (.cells (cellsOf item0).toArray 28))
  clear hb4 HB3 hg3 hlt3
  go_wp2_with (first | (with_reducible refine op_alloc rfl 28 rfl _ zero28 ?_) | (refine op_store (w0 := w) w.heap.size rfl 28 (.tmp 7) (.tmp 32) rfl w4.heap.size (cellsOf x).toArray rfl rfl 28 (cellsOf item0).toArray hga.out 35 info28 (cells_sz hx.out) (cells_sz ok0) (cells_all _) HB4a.out HB4.out.size ?_; intro w6 hg6 hw6 HB6; have hg56 := Aside0.mk (((below_new hw6.out).block _ hlt4.out).trans hg4.out); clear HB4a hga hw6) | (refine op_load rfl 28 (.tmp 5) rfl g5 rfl 28 (cellsOf x).toArray _ hg56.out Try.underlying28 rfl 35 info28 (cells_sz hx.out) ?_) | (refine op_load rfl 28 (.tmp 7) rfl w4.heap.size rfl 28 (cellsOf x).toArray _ hg6.out Try.underlying28 rfl 35 info28 (cells_sz hx.out) ?_) | (refine Kd.event_run rfl (neq_run' (x := .tmp 34) (y := .tmp 35) (p := x) rfl rfl rfl hx.out) ?_))
  clear hg6 hg56 hg4 hlt4 HB4 hx HF1 HF2 HLI
  go_loopw [9] (fun u wr => ∃ j : Nat, j ≤ l.length ∧ u = .int .i64 j ∧ Aside0 (Below w.heap.size w wr)) (fun u _ => l.length - (intOf u).toNat)
  case atStart => exact ⟨0, by omega, rfl, HB6⟩
  case round =>
    clear HB6
    obtain ⟨j, hj, rfl, HBj⟩ := hrel
    have hmx := HMX.out
    by_cases hm : mayL l = true
    · have HM := Aside0.mk hm
      have HM1 := HMY
      rw [hm] at HM1
      clear hm HMY
      by_cases hlt : j < l.length
      · obtain ⟨ad, hA, hokj, hn, _⟩ := item_at (Kd.C_below HR.out HBj.out) j hlt
        subst hA
        have HFJ := Aside0.mk (fun W h => find_calls (some ad) c l l[j].name W h HC.out HMX.out)
        have hfo : findOut l l[j].name = (l[j], 0) := by
          have := find_hit (s := l[j].name) HM.out j hlt (by unfold isN; rw [at_get l j hlt]; simp)
          rw [this, at_get l j hlt]
        rw [hfo] at HFJ
        have hx := Aside0.mk hokj
        clear hfo hokj
        generalize hxe : l[j] = x at HFJ hx hn
        have HD := Aside0.mk (fun W (hW : Below w.heap.size w W) => (by obtain ⟨a', e', _, _, h⟩ := item_at (Kd.C_below HR.out hW) j hlt; cases e'; rw [hxe] at h; exact h : (Instr.loadAt 28 (.pointer (some (ad.add (j * 35))))).run Try.prog W = .ok (.agg (cellsOf x).toArray) W))
        go_wp2_with fail
        refine (HFJ.out _ (Kd.C_below HR.out HBj.out)).mono ?_
        rintro e2 w2 ⟨rfl, hb2⟩
        have HB2 := Aside0.mk (below_step HBj.out hb2)
        have HB2a := Aside0.mk (HB2.out.alloc HB2.out.size (.cells (cellsOf item0).toArray 28))
        have hga := Aside0.mk (heap_alloc_new w2 (.cells (cellsOf item0).toArray 28))
        clear hb2
        go_wp2_with (first | (with_reducible refine op_alloc rfl 28 rfl _ zero28 ?_) | (refine op_store (w0 := w) w.heap.size rfl 28 (.tmp 10) (.tmp 56) rfl w2.heap.size (cellsOf x).toArray rfl rfl 28 (cellsOf item0).toArray hga.out 35 info28 (cells_sz hx.out) (cells_sz ok0) (cells_all _) HB2a.out HB2.out.size ?_; intro w3 hg3 hw3 HB3))
        have HF := Aside0.mk (And.intro (fun W (hW : Below w3.heap.size w3 W) => load_it (show It W w2.heap.size x from (hW.block _ (blk_lt hg3.out)).trans hg3.out) hx.out) (fun W (hW : Below w3.heap.size w3 W) => HD.out W (below_step HB3.out hW)))
        clear HB2a hga hw3 HD HFJ
        generalize w2.heap.size = g2 at hg3 HF ⊢
        refine start_ (n := 14) (S := (fun W_ => Below w3.heap.size w3 W_)) (ds := []) #[false, false, false, false, false, false, false, false, false, false, false, false, false, false] (by kernel_rfl) rfl rfl (below_drew1 (Below.refl _ _)) (fun hHeld => ?_); refine with_tabW fs13tab fs13bits (fun HT_ HW_ => ?_)
        generalize w3.drew = wq at hHeld ⊢
        refine pure_ (i := 0) (N := some 58) (v := ?_) (a' := ?_) #[true, false, false, false, false, false, false, false, false, false, false, false, false, false] rfl rfl (any_of HT_.out (by kernel_rfl)) (fun _ _ _ h => h) (Or.inl ⟨by rfl, ?_⟩) ?_ ?_
        rotate_left
        · intro w'
          go_simp
          with_reducible rfl
        rotate_left
        · simp only [Act.put, List.setIfInBounds_toArray, List.set_cons_zero, List.set_cons_succ, i64_w, i32_w]
          rfl
        refine one_ (i := 1) (N := some 59) #[true, true, false, false, false, false, false, false, false, false, false, false, false, false] rfl rfl (one_of HT_.out (by kernel_rfl)) (by decide) (fun K hK => ?_)
        refine goes_ Try.func13 (by kernel_rfl) rfl #[.slice (some ad) l.length c] (by rfl) rfl rfl (by (try simp only [List.map_toArray, List.map_cons, List.map_nil]); first | done | rfl) ?_
        refine (HM1.out wq (Kd.C_below HR.out (below_step HB3.out hHeld))).mono ?_
        rintro ep wp ⟨rfl, hbp⟩
        refine ⟨_, rfl, ?_⟩
        have HS1 := Aside0.mk (below_step hHeld hbp)
        clear hbp
        refine hK.out _ _ (HS1.out) (fun hHeld => ?_)
        clear hK K
        refine norm_ (a' := ?_) ?_ ?_
        rotate_left
        · show Act.put _ (some 59) _ = _
          simp only [Act.put, List.setIfInBounds_toArray, List.set_cons_zero, List.set_cons_succ, i64_w, i32_w]
          rfl
        clear HS1
        refine pure_ (i := 2) (N := some 60) (v := ?_) (a' := ?_) #[true, true, true, false, false, false, false, false, false, false, false, false, false, false] rfl rfl (any_of HT_.out (by kernel_rfl)) (fun _ _ _ h => h) (Or.inl ⟨by rfl, ?_⟩) ?_ ?_
        rotate_left
        · intro w'
          go_simp
          with_reducible rfl
        rotate_left
        · simp only [Act.put, List.setIfInBounds_toArray, List.set_cons_zero, List.set_cons_succ, i64_w, i32_w]
          rfl
        refine pure_ (i := 3) (N := some 61) (v := ?_) (a' := ?_) #[true, true, true, true, false, false, false, false, false, false, false, false, false, false] rfl rfl (any_of HT_.out (by kernel_rfl)) (fun _ _ _ h => h) (Or.inl ⟨by rfl, ?_⟩) ?_ ?_
        rotate_left
        · intro w'
          go_simp
          with_reducible rfl
        rotate_left
        · simp only [Act.put, List.setIfInBounds_toArray, List.set_cons_zero, List.set_cons_succ, i64_w, i32_w]
          rfl
        refine pure_ (i := 4) (N := some 62) (v := ?_) (a' := ?_) #[true, true, true, true, true, false, false, false, false, false, false, false, false, false] rfl rfl (any_of HT_.out (by kernel_rfl)) (fun _ _ _ h => h) (Or.inl ⟨by rfl, ?_⟩) ?_ ?_
        rotate_left
        · intro w'
          go_simp
          with_reducible rfl
        rotate_left
        · simp only [Act.put, List.setIfInBounds_toArray, List.set_cons_zero, List.set_cons_succ, i64_w, i32_w]
          rfl
        refine pure_ (i := 5) (N := some 63) (v := ?_) (a' := ?_) #[true, true, true, true, true, true, false, false, false, false, false, false, false, false] rfl rfl (any_of HT_.out (by kernel_rfl)) (fun _ _ _ h => h) (Or.inl ⟨by rfl, ?_⟩) ?_ ?_
        rotate_left
        · intro w'
          go_simp
          with_reducible rfl
        rotate_left
        · simp only [Act.put, List.setIfInBounds_toArray, List.set_cons_zero, List.set_cons_succ, i64_w, i32_w]
          rfl
        refine take_ (i := 6) (N := some 64) (v := (.agg (cellsOf x).toArray)) (a' := ?_) #[true, true, true, true, true, true, true, false, false, false, false, false, false, false] rfl rfl (take_ofW HT_.out HW_.out (by kernel_rfl)) (fun _ _ _ h => h) (Or.inl ⟨by rfl, fun w' hw' => load_run rfl rfl (HF.out.1 w' hw')⟩) hHeld ?_ ?_
        rotate_left
        · simp only [Act.put, List.setIfInBounds_toArray, List.set_cons_zero, List.set_cons_succ, i64_w, i32_w]
          rfl
        refine pure_ (i := 7) (N := some 65) (v := ?_) (a' := ?_) #[true, true, true, true, true, true, true, true, false, false, false, false, false, false] rfl rfl (any_of HT_.out (by kernel_rfl)) (fun _ _ _ h => h) (Or.inl ⟨by rfl, ?_⟩) ?_ ?_
        rotate_left
        · intro w'
          go_simp
          with_reducible rfl
        rotate_left
        · simp only [Act.put, List.setIfInBounds_toArray, List.set_cons_zero, List.set_cons_succ, i64_w, i32_w]
          rfl
        refine pure_ (i := 8) (N := some 66) (v := ?_) (a' := ?_) #[true, true, true, true, true, true, true, true, true, false, false, false, false, false] rfl rfl (any_of HT_.out (by kernel_rfl)) (fun _ _ _ h => h) (Or.inl ⟨by rfl, ?_⟩) ?_ ?_
        rotate_left
        · intro w'
          go_simp
          with_reducible rfl
        rotate_left
        · simp only [Act.put, List.setIfInBounds_toArray, List.set_cons_zero, List.set_cons_succ, i64_w, i32_w]
          rfl
        refine pure_ (i := 9) (N := some 67) (v := ?_) (a' := ?_) #[true, true, true, true, true, true, true, true, true, true, false, false, false, false] rfl rfl (any_of HT_.out (by kernel_rfl)) (fun _ _ _ h => h) (Or.inl ⟨by rfl, ?_⟩) ?_ ?_
        rotate_left
        · intro w'
          go_simp
          with_reducible rfl
        rotate_left
        · simp only [Act.put, List.setIfInBounds_toArray, List.set_cons_zero, List.set_cons_succ, i64_w, i32_w]
          rfl
        refine take_ (i := 10) (N := some 68) (v := (.agg (cellsOf x).toArray)) (a' := ?_) #[true, true, true, true, true, true, true, true, true, true, true, false, false, false] rfl rfl (take_ofW HT_.out HW_.out (by kernel_rfl)) (fun _ _ _ h => h) (Or.inl ⟨by rfl, fun w' hw' => load_run rfl rfl (HF.out.2 w' hw')⟩) hHeld ?_ ?_
        rotate_left
        · simp only [Act.put, List.setIfInBounds_toArray, List.set_cons_zero, List.set_cons_succ, i64_w, i32_w]
          rfl
        refine pure_ (i := 11) (N := some 69) (v := (.bool false)) (a' := ?_) #[true, true, true, true, true, true, true, true, true, true, true, true, false, false] rfl rfl (any_of HT_.out (by kernel_rfl)) (fun _ _ _ h => h) (Or.inl ⟨by rfl, fun w' => neq_run' rfl rfl rfl hx.out⟩) ?_ ?_
        rotate_left
        · simp only [Act.put, List.setIfInBounds_toArray, List.set_cons_zero, List.set_cons_succ, i64_w, i32_w]
          rfl
        refine pure_ (i := 12) (N := some 70) (v := ?_) (a' := ?_) #[true, true, true, true, true, true, true, true, true, true, true, true, true, false] rfl rfl (any_of HT_.out (by kernel_rfl)) (fun _ _ _ h => h) (Or.inl ⟨by rfl, ?_⟩) ?_ ?_
        rotate_left
        · intro w'
          go_simp
          with_reducible rfl
        rotate_left
        · simp only [Act.put, List.setIfInBounds_toArray, List.set_cons_zero, List.set_cons_succ, i64_w, i32_w]
          rfl
        refine pure_ (i := 13) (N := some 71) (v := ?_) (a' := ?_) #[true, true, true, true, true, true, true, true, true, true, true, true, true, true] rfl rfl (any_of HT_.out (by kernel_rfl)) (fun _ _ _ h => h) (Or.inl ⟨by rfl, ?_⟩) ?_ ?_
        rotate_left
        · intro w'
          go_simp
          with_reducible rfl
        rotate_left
        · simp only [Act.put, List.setIfInBounds_toArray, List.set_cons_zero, List.set_cons_succ, i64_w, i32_w]
          rfl
        refine done_ (done_of HT_.out (by kernel_rfl)) ?_
        clear HT_ HW_
        have HB4 := Aside0.mk (below_step HB3.out hHeld)
        clear hHeld
        go_wp2_with fail
        go_roundw
        case rel => exact ⟨j + 1, by omega, by go_num, HB4⟩
        case measure => simp [intOf]; omega
      · obtain rfl : j = l.length := by omega
        go_wp2_with fail
        go_ret
        exact ⟨rfl, HBj.out⟩
    · have hm' : mayL l = false := by simpa using hm
      have HM := Aside0.mk hm'
      have HM1 := HMY
      rw [hm'] at HM1
      clear hm hm' HMY
      by_cases hlt : j < l.length
      · obtain ⟨ad, hA, hokj, hn, _⟩ := item_at (Kd.C_below HR.out HBj.out) j hlt
        subst hA
        have HFJ := Aside0.mk (fun W h => find_calls (some ad) c l l[j].name W h HC.out HMX.out)
        have hfo : findOut l l[j].name = (item0, 1) := by unfold findOut; rw [if_neg (by rw [HM.out]; simp)]
        rw [hfo] at HFJ
        have hx := Aside0.mk ok0
        clear hfo hokj
        obtain ⟨x, hxe⟩ : ∃ x, x = item0 := ⟨_, rfl⟩
        have HFJ' : Aside0 (∀ (W : World), CI W (some ad) l → Calls Try.prog 11 #[.slice (some ad) l.length c, .string l[j].name] W fun e w' => e = .returned (.tuple #[.agg (cellsOf x).toArray, .int .i64 1]) ∧ Below W.heap.size W w') := ⟨by rw [hxe]; exact HFJ.out⟩
        clear HFJ
        have HFJ := HFJ'
        clear HFJ'
        rw [← hxe] at hx
        clear hxe
        have HD := Aside0.mk (fun W (hW : Below w.heap.size w W) => (by obtain ⟨a', e', _, _, h⟩ := item_at (Kd.C_below HR.out hW) j hlt; cases e'; exact h : (Instr.loadAt 28 (.pointer (some (ad.add (j * 35))))).run Try.prog W = .ok (.agg (cellsOf l[j]).toArray) W))
        go_wp2_with fail
        refine (HFJ.out _ (Kd.C_below HR.out HBj.out)).mono ?_
        rintro e2 w2 ⟨rfl, hb2⟩
        have HB2 := Aside0.mk (below_step HBj.out hb2)
        have HB2a := Aside0.mk (HB2.out.alloc HB2.out.size (.cells (cellsOf item0).toArray 28))
        have hga := Aside0.mk (heap_alloc_new w2 (.cells (cellsOf item0).toArray 28))
        clear hb2
        go_wp2_with (first | (with_reducible refine op_alloc rfl 28 rfl _ zero28 ?_) | (refine op_store (w0 := w) w.heap.size rfl 28 (.tmp 10) (.tmp 56) rfl w2.heap.size (cellsOf x).toArray rfl rfl 28 (cellsOf item0).toArray hga.out 35 info28 (cells_sz hx.out) (cells_sz ok0) (cells_all _) HB2a.out HB2.out.size ?_; intro w3 hg3 hw3 HB3))
        have HF := Aside0.mk (And.intro (fun W (hW : Below w3.heap.size w3 W) => load_it (show It W w2.heap.size x from (hW.block _ (blk_lt hg3.out)).trans hg3.out) hx.out) (fun W (hW : Below w3.heap.size w3 W) => HD.out W (below_step HB3.out hW)))
        clear HB2a hga hw3 HD HFJ
        generalize w2.heap.size = g2 at hg3 HF ⊢
        refine start_ (n := 14) (S := (fun W_ => Below w3.heap.size w3 W_)) (ds := []) #[false, false, false, false, false, false, false, false, false, false, false, false, false, false] (by kernel_rfl) rfl rfl (below_drew1 (Below.refl _ _)) (fun hHeld => ?_); refine with_tabW fs13tab fs13bits (fun HT_ HW_ => ?_)
        generalize w3.drew = wq at hHeld ⊢
        refine pure_ (i := 0) (N := some 58) (v := ?_) (a' := ?_) #[true, false, false, false, false, false, false, false, false, false, false, false, false, false] rfl rfl (any_of HT_.out (by kernel_rfl)) (fun _ _ _ h => h) (Or.inl ⟨by rfl, ?_⟩) ?_ ?_
        rotate_left
        · intro w'
          go_simp
          with_reducible rfl
        rotate_left
        · simp only [Act.put, List.setIfInBounds_toArray, List.set_cons_zero, List.set_cons_succ, i64_w, i32_w]
          rfl
        refine one_ (i := 1) (N := some 59) #[true, true, false, false, false, false, false, false, false, false, false, false, false, false] rfl rfl (one_of HT_.out (by kernel_rfl)) (by decide) (fun K hK => ?_)
        refine goes_ Try.func13 (by kernel_rfl) rfl #[.slice (some ad) l.length c] (by rfl) rfl rfl (by (try simp only [List.map_toArray, List.map_cons, List.map_nil]); first | done | rfl) ?_
        refine (HM1.out wq (Kd.C_below HR.out (below_step HB3.out hHeld))).mono ?_
        rintro ep wp ⟨rfl, hbp⟩
        refine ⟨_, rfl, ?_⟩
        have HS1 := Aside0.mk (below_step hHeld hbp)
        clear hbp
        refine hK.out _ _ (HS1.out) (fun hHeld => ?_)
        clear hK K
        refine norm_ (a' := ?_) ?_ ?_
        rotate_left
        · show Act.put _ (some 59) _ = _
          simp only [Act.put, List.setIfInBounds_toArray, List.set_cons_zero, List.set_cons_succ, i64_w, i32_w]
          rfl
        clear HS1
        refine pure_ (i := 2) (N := some 60) (v := ?_) (a' := ?_) #[true, true, true, false, false, false, false, false, false, false, false, false, false, false] rfl rfl (any_of HT_.out (by kernel_rfl)) (fun _ _ _ h => h) (Or.inl ⟨by rfl, ?_⟩) ?_ ?_
        rotate_left
        · intro w'
          go_simp
          with_reducible rfl
        rotate_left
        · simp only [Act.put, List.setIfInBounds_toArray, List.set_cons_zero, List.set_cons_succ, i64_w, i32_w]
          rfl
        refine pure_ (i := 3) (N := some 61) (v := undef) (a' := ?_) #[true, true, true, true, false, false, false, false, false, false, false, false, false, false] rfl rfl (any_of HT_.out (by kernel_rfl)) (fun _ _ _ h => h) (Or.inr ⟨by rfl, rfl⟩) ?_ ?_
        rotate_left
        · simp only [Act.put, List.setIfInBounds_toArray, List.set_cons_zero, List.set_cons_succ, i64_w, i32_w]
          rfl
        refine pure_ (i := 4) (N := some 62) (v := undef) (a' := ?_) #[true, true, true, true, true, false, false, false, false, false, false, false, false, false] rfl rfl (any_of HT_.out (by kernel_rfl)) (fun _ _ _ h => h) (Or.inr ⟨by rfl, rfl⟩) ?_ ?_
        rotate_left
        · simp only [Act.put, List.setIfInBounds_toArray, List.set_cons_zero, List.set_cons_succ, i64_w, i32_w]
          rfl
        refine pure_ (i := 5) (N := some 63) (v := undef) (a' := ?_) #[true, true, true, true, true, true, false, false, false, false, false, false, false, false] rfl rfl (any_of HT_.out (by kernel_rfl)) (fun _ _ _ h => h) (Or.inr ⟨by rfl, rfl⟩) ?_ ?_
        rotate_left
        · simp only [Act.put, List.setIfInBounds_toArray, List.set_cons_zero, List.set_cons_succ, i64_w, i32_w]
          rfl
        refine pure_ (i := 6) (N := some 64) (v := undef) (a' := ?_) #[true, true, true, true, true, true, true, false, false, false, false, false, false, false] rfl rfl (any_of HT_.out (by kernel_rfl)) (fun _ _ _ h => h) (Or.inr ⟨by rfl, rfl⟩) ?_ ?_
        rotate_left
        · simp only [Act.put, List.setIfInBounds_toArray, List.set_cons_zero, List.set_cons_succ, i64_w, i32_w]
          rfl
        refine pure_ (i := 7) (N := some 65) (v := undef) (a' := ?_) #[true, true, true, true, true, true, true, true, false, false, false, false, false, false] rfl rfl (any_of HT_.out (by kernel_rfl)) (fun _ _ _ h => h) (Or.inr ⟨by rfl, rfl⟩) ?_ ?_
        rotate_left
        · simp only [Act.put, List.setIfInBounds_toArray, List.set_cons_zero, List.set_cons_succ, i64_w, i32_w]
          rfl
        refine pure_ (i := 8) (N := some 66) (v := undef) (a' := ?_) #[true, true, true, true, true, true, true, true, true, false, false, false, false, false] rfl rfl (any_of HT_.out (by kernel_rfl)) (fun _ _ _ h => h) (Or.inr ⟨by rfl, rfl⟩) ?_ ?_
        rotate_left
        · simp only [Act.put, List.setIfInBounds_toArray, List.set_cons_zero, List.set_cons_succ, i64_w, i32_w]
          rfl
        refine pure_ (i := 9) (N := some 67) (v := undef) (a' := ?_) #[true, true, true, true, true, true, true, true, true, true, false, false, false, false] rfl rfl (any_of HT_.out (by kernel_rfl)) (fun _ _ _ h => h) (Or.inr ⟨by rfl, rfl⟩) ?_ ?_
        rotate_left
        · simp only [Act.put, List.setIfInBounds_toArray, List.set_cons_zero, List.set_cons_succ, i64_w, i32_w]
          rfl
        refine pure_ (i := 10) (N := some 68) (v := undef) (a' := ?_) #[true, true, true, true, true, true, true, true, true, true, true, false, false, false] rfl rfl (any_of HT_.out (by kernel_rfl)) (fun _ _ _ h => h) (Or.inr ⟨by rfl, rfl⟩) ?_ ?_
        rotate_left
        · simp only [Act.put, List.setIfInBounds_toArray, List.set_cons_zero, List.set_cons_succ, i64_w, i32_w]
          rfl
        refine pure_ (i := 11) (N := some 69) (v := undef) (a' := ?_) #[true, true, true, true, true, true, true, true, true, true, true, true, false, false] rfl rfl (any_of HT_.out (by kernel_rfl)) (fun _ _ _ h => h) (Or.inr ⟨by rfl, rfl⟩) ?_ ?_
        rotate_left
        · simp only [Act.put, List.setIfInBounds_toArray, List.set_cons_zero, List.set_cons_succ, i64_w, i32_w]
          rfl
        refine pure_ (i := 12) (N := some 70) (v := undef) (a' := ?_) #[true, true, true, true, true, true, true, true, true, true, true, true, true, false] rfl rfl (any_of HT_.out (by kernel_rfl)) (fun _ _ _ h => h) (Or.inr ⟨by rfl, rfl⟩) ?_ ?_
        rotate_left
        · simp only [Act.put, List.setIfInBounds_toArray, List.set_cons_zero, List.set_cons_succ, i64_w, i32_w]
          rfl
        refine pure_ (i := 13) (N := some 71) (v := ?_) (a' := ?_) #[true, true, true, true, true, true, true, true, true, true, true, true, true, true] rfl rfl (any_of HT_.out (by kernel_rfl)) (fun _ _ _ h => h) (Or.inl ⟨by rfl, ?_⟩) ?_ ?_
        rotate_left
        · intro w'
          go_simp
          with_reducible rfl
        rotate_left
        · simp only [Act.put, List.setIfInBounds_toArray, List.set_cons_zero, List.set_cons_succ, i64_w, i32_w]
          rfl
        refine done_ (done_of HT_.out (by kernel_rfl)) ?_
        clear HT_ HW_
        have HB4 := Aside0.mk (below_step HB3.out hHeld)
        clear hHeld
        go_wp2_with fail
        go_roundw
        case rel => exact ⟨j + 1, by omega, by go_num, HB4⟩
        case measure => simp [intOf]; omega
      · obtain rfl : j = l.length := by omega
        go_wp2_with fail
        go_ret
        exact ⟨rfl, HBj.out⟩

set_option maxHeartbeats 3200000 in
theorem finds_walk (A : Option Addr) (c : Nat) (l : List Itm) (s : ByteArray) (w : World) (hr : CI w A l) (hc : l.length ≤ c) (hok : okI l) (hbi : Fq.bytI l) (_ : s.size ≤ maxLen) :
    Calls Try.prog 3 #[.slice A l.length c, .string s] w fun e w' => e = .returned (.bool true) ∧ Below w.heap.size w w' := by
  have HR := Aside0.mk hr
  have HLI := Aside0.mk (fun w h => light_false (l := l) w A c h hc)
  cases hli : Li.lightB l with
  | false =>
    rw [hli] at HLI
    clear hr hc hok hbi hli
    go_enter Try.func3, Try.ntmps3
    go_wp2_with fail
    refine (begun_calls _).mono ?_
    rintro e0 w0 ⟨rfl, hb0⟩
    go_wp2_with fail
    refine (HLI.out _ (Kd.C_below HR.out hb0)).mono ?_
    rintro e1 w1 ⟨rfl, hb1⟩
    have HB1 := Aside0.mk (below_step hb0 hb1)
    go_wp2_with fail
    go_ret
    exact ⟨rfl, HB1.out⟩
  | true =>
    by_cases hs : s.size ≤ 200
    · exact finds_go A c l s w hr hc hok hli hs
    · have d2 : decide (200 < (s.size : Int)) = true := decide_eq_true (by omega)
      rw [hli] at HLI
      clear hr hc hok hbi hli
      go_enter Try.func3, Try.ntmps3
      go_wp2_with fail
      refine (begun_calls _).mono ?_
      rintro e0 w0 ⟨rfl, hb0⟩
      go_wp2_with fail
      refine (HLI.out _ (Kd.C_below HR.out hb0)).mono ?_
      rintro e1 w1 ⟨rfl, hb1⟩
      have HB1 := Aside0.mk (below_step hb0 hb1)
      go_wp2_with fail
      go_ret
      exact ⟨rfl, HB1.out⟩
end Go.Proofs.Ytmcankeggbofhaa.Ls
