/- Which lists of items may be a folder: the document's answer. -/
import Derived.Test.YtmcankeggbofhaaMy
namespace Go.Proofs.Ytmcankeggbofhaa.Rm
open Go.RowKit Go.Proofs.YtmcankeggbofhaaW.PrintWords Go.Proofs.YtmcankeggbofhaaW.PrintLast Go.Proofs.YtmcankeggbofhaaW.PrintMore
open It Nm Ag My
set_option linter.unusedVariables false
set_option linter.unusedSimpArgs false
theorem less_total : ∀ a b : List UInt8, (!Op.bytesLess b a) = (Op.bytesLess a b || a == b)
  | [], [] => rfl
  | [], y :: b => by simp [Op.bytesLess]
  | x :: a, [] => by simp [Op.bytesLess]
  | x :: a, y :: b => by
    have ih := less_total a b
    by_cases h : x = y
    · subst h
      have hlt : ¬ x < x := by rw [UInt8.lt_iff_toNat_lt]; omega
      simp only [Op.bytesLess, hlt, decide_false, Bool.false_or, beq_self_eq_true, Bool.true_and, List.cons_beq_cons]
      exact ih
    · have hne : (x == y) = false := beq_eq_false_iff_ne.2 h
      have hne2 : (y == x) = false := beq_eq_false_iff_ne.2 (fun e => h e.symm)
      simp only [Op.bytesLess, hne, hne2, Bool.false_and, Bool.or_false, List.cons_beq_cons]
      have h3 : x.toNat ≠ y.toNat := fun e => h (UInt8.toNat_inj.1 e)
      by_cases h1 : x < y
      · have h2 : ¬ y < x := by rw [UInt8.lt_iff_toNat_lt] at h1 ⊢; omega
        simp [h1, h2]
      · have h2 : y < x := by rw [UInt8.lt_iff_toNat_lt] at h1 ⊢; omega
        simp [h1, h2]
theorem leS_not (a b : ByteArray) : leS a b = !Op.bytesLess b.toList a.toList := (less_total a.toList b.toList).symm
theorem ref_name_quiet (s : ByteArray) (w : World) (n : Nat) (b : Bool) (hs : s.size ≤ 4611686018427387904) (hb : okName s = b) : Calls Try.prog 24 #[.string s] (w.drewN n) fun e w'' => e = .returned (.bool b) ∧ ∃ m, w'' = w.drewN m :=
  Calls.quiet_of ((ref_name_calls s _ hs).mono fun e w h => ⟨by rw [h.1, hb], h.2.out⟩)
set_option maxHeartbeats 6400000 in
theorem ref_may_calls (A : Option Addr) (c : Nat) (l : List Itm) (w : World) (hr : CI w A l) (hc : l.length ≤ c) (hmx : l.length ≤ 9223372036854775807) (hnn : ∀ i, (at_ l i).name.size ≤ 4611686018427387904) :
    Calls Try.prog 16 #[.slice A l.length c] w fun e w' => e = .returned (.bool (mayL l)) ∧ Below w.heap.size w w' := by
  have HR := Aside0.mk hr
  have HNN := Aside0.mk hnn
  clear hnn
  by_cases hl : l.length ≤ 64
  · have d1 : decide (64 < (l.length : Int)) = false := by simp; omega
    clear hr
    go_enter Try.func16, Try.ntmps16
    go_wp2
    go_loopw [3] (fun u wr => ∃ j : Nat, j ≤ l.length ∧ u = .int .i64 j ∧ Aside0 (∀ i, i < j → stepB l i = true) ∧ Aside0 (Below w.heap.size w wr)) (fun u _ => l.length - (intOf u).toNat)
    case atStart => exact ⟨0, by omega, rfl, ⟨fun i hi => absurd hi (by omega)⟩, ⟨Below.refl _ _⟩⟩
    case round =>
      obtain ⟨j, hj, rfl, HJ, HB⟩ := hrel
      by_cases hlt : j < l.length
      · obtain ⟨ad, hA, hok, _, hld⟩ := item_at (Kd.C_below HR.out HB.out) j hlt
        subst hA
        rw [← at_get l j hlt] at hok hld
        have HL := Aside0.mk hld
        clear hld
        have HB2 := Aside0.mk (HB.out.alloc HB.out.size (.cells (cellsOf item0).toArray 28))
        have hgz := Aside0.mk (heap_alloc_new wr (.cells (cellsOf item0).toArray 28))
        go_wp2_with (first | (refine op_load_at rfl 28 (.tmp 16) rfl _ _ rfl HL.out ?_) | (with_reducible refine op_alloc rfl 28 rfl _ zero28 ?_) | (refine op_store (w0 := w) w.heap.size rfl 28 (.tmp 4) (.tmp 17) rfl wr.heap.size (cellsOf (at_ l j)).toArray rfl rfl 28 (cellsOf item0).toArray hgz.out 35 info28 (cells_sz hok) (cells_sz ok0) (cells_all _) HB2.out HB.out.size ?_; intro w1 hg1 hw1 HB1; have kn := it_name hg1.out; have kk := it_kind hg1.out; have ks := it_size hg1.out hok))
        obtain ⟨x, hx⟩ : ∃ x, Aside0 (x = at_ l j) := ⟨_, ⟨rfl⟩⟩
        have hnm := HNN.out j
        rw [← hx.out] at kn kk ks hg1 hnm ⊢
        have hst : Aside0 (stepB l j = (okItem x && !(decide (0 < (j : Int)) && leS x.name (at_ l (j - 1)).name))) := ⟨by unfold stepB; rw [← hx.out]⟩
        clear hw1 HB2 hgz HL
        simp only [Act.put, List.setIfInBounds_toArray, List.set_cons_zero, List.set_cons_succ]
        cases hn : okName x.name with
        | false =>
          have hno := Aside0.mk (may_no l j hlt (by rw [hst.out]; unfold okItem kindB; rw [hn]; simp))
          go_big_quiet ((go_at_call 24; exact ref_name_quiet x.name _ _ _ hnm hn))
          go_wp2_with fail
          go_ret
          exact ⟨by rw [hno.out]; rfl, below_step HB1.out (pw_below_drewN (Below.refl _ _) nq)⟩
        | true =>
          by_cases c1 : x.kind < 1
          · have e1 : decide (x.kind < 1) = true := decide_eq_true c1
            have b1 : (x.kind == 1) = false := beq_eq_false_iff_ne.2 (by omega)
            have b2 : (x.kind == 2) = false := beq_eq_false_iff_ne.2 (by omega)
            have hno := Aside0.mk (may_no l j hlt (by rw [hst.out]; unfold okItem kindB; rw [b1, b2]; simp))
            go_big_quiet ((go_at_call 24; exact ref_name_quiet x.name _ _ _ hnm hn))
            go_wp2_with fail
            go_ret
            exact ⟨by rw [hno.out]; rfl, below_step HB1.out (pw_below_drewN (Below.refl _ _) nq)⟩
          have e1 : decide (x.kind < 1) = false := decide_eq_false c1
          by_cases c2 : 2 < x.kind
          · have e2 : decide (2 < x.kind) = true := decide_eq_true c2
            have b1 : (x.kind == 1) = false := beq_eq_false_iff_ne.2 (by omega)
            have b2 : (x.kind == 2) = false := beq_eq_false_iff_ne.2 (by omega)
            have hno := Aside0.mk (may_no l j hlt (by rw [hst.out]; unfold okItem kindB; rw [b1, b2]; simp))
            go_big_quiet ((go_at_call 24; exact ref_name_quiet x.name _ _ _ hnm hn))
            go_wp2_with fail
            go_ret
            exact ⟨by rw [hno.out]; rfl, below_step HB1.out (pw_below_drewN (Below.refl _ _) nq)⟩
          have e2 : decide (2 < x.kind) = false := decide_eq_false c2
          cases hz : decide (x.size < 0) with
          | true =>
            have hno := Aside0.mk (may_no l j hlt (by rw [hst.out]; unfold okItem kindB; rw [hz]; simp))
            go_big_quiet ((go_at_call 24; exact ref_name_quiet x.name _ _ _ hnm hn))
            go_wp2_with fail
            go_ret
            exact ⟨by rw [hno.out]; rfl, below_step HB1.out (pw_below_drewN (Below.refl _ _) nq)⟩
          | false =>
            by_cases c3 : x.kind = 2
            · have b2 : (x.kind == 2) = true := beq_iff_eq.2 c3
              by_cases c4 : x.size = 0
              · have b0 : (x.size == 0) = true := beq_iff_eq.2 c4
                have b0' : (x.size != 0) = false := by simp [c4]
                clear c1 c2 c3 c4
                by_cases h0 : 0 < (j : Int)
                · have d0 : decide (0 < (j : Int)) = true := decide_eq_true h0
                  have d0' : decide (0 < j) = true := decide_eq_true (by omega)
                  obtain ⟨m, hm, hml⟩ : ∃ m, j - 1 = m ∧ m < l.length := ⟨_, rfl, by omega⟩
                  have hwj : IntKind.i64.wrap ((j : Int) - 1) = (m : Int) := by rw [IntKind.wrap_i64]; omega
                  obtain ⟨ad', hA', _, kp, _⟩ := item_at (Kd.C_below HR.out HB1.out) m hml
                  cases hA'
                  rw [← at_get l m hml] at kp
                  cases hle : Op.bytesLess (at_ l m).name.toList x.name.toList with
                  | false =>
                    have hls : leS x.name (at_ l m).name = true := by rw [leS_not, hle]; rfl
                    have hno := Aside0.mk (may_no l j hlt (by rw [hst.out]; unfold okItem kindB; rw [hm, hls, d0]; simp))
                    go_big_quiet ((go_at_call 24; exact ref_name_quiet x.name _ _ _ hnm hn))
                    go_wp2_with fail
                    go_ret
                    exact ⟨by rw [hno.out]; rfl, below_step HB1.out (pw_below_drewN (Below.refl _ _) nq)⟩
                  | true =>
                    have hls : leS x.name (at_ l m).name = false := by rw [leS_not, hle]; rfl
                    have hyes := Aside0.mk (show stepB l j = true by rw [hst.out]; unfold okItem kindB; rw [hm, hls, hn, hz, b2, b0]; simp)
                    go_big_quiet ((go_at_call 24; exact ref_name_quiet x.name _ _ _ hnm hn))
                    go_wp2_with fail
                    go_roundw
                    case rel => exact ⟨j + 1, by omega, by go_num, ⟨step_next HJ.out hyes.out⟩, ⟨below_step HB1.out (pw_below_drewN (Below.refl _ _) nq)⟩⟩
                    case measure => simp [intOf]; omega
                · have d0 : decide (0 < (j : Int)) = false := decide_eq_false h0
                  have d0' : decide (0 < j) = false := decide_eq_false (by omega)
                  have hyes := Aside0.mk (show stepB l j = true by rw [hst.out]; unfold okItem kindB; rw [d0, hn, hz, b2, b0]; simp)
                  go_big_quiet ((go_at_call 24; exact ref_name_quiet x.name _ _ _ hnm hn))
                  go_wp2_with fail
                  go_roundw
                  case rel => exact ⟨j + 1, by omega, by go_num, ⟨step_next HJ.out hyes.out⟩, ⟨below_step HB1.out (pw_below_drewN (Below.refl _ _) nq)⟩⟩
                  case measure => simp [intOf]; omega
              · have b0 : (x.size == 0) = false := beq_eq_false_iff_ne.2 c4
                have b0' : (x.size != 0) = true := by simp [c4]
                have b1 : (x.kind == 1) = false := beq_eq_false_iff_ne.2 (by omega)
                clear c1 c2 c3 c4
                have hno := Aside0.mk (may_no l j hlt (by rw [hst.out]; unfold okItem kindB; rw [b1, b0]; simp))
                go_big_quiet ((go_at_call 24; exact ref_name_quiet x.name _ _ _ hnm hn))
                go_wp2_with fail
                go_ret
                exact ⟨by rw [hno.out]; rfl, below_step HB1.out (pw_below_drewN (Below.refl _ _) nq)⟩
            · have b2 : (x.kind == 2) = false := beq_eq_false_iff_ne.2 c3
              have b1 : (x.kind == 1) = true := beq_iff_eq.2 (by omega)
              clear c1 c2 c3
              by_cases h0 : 0 < (j : Int)
              · have d0 : decide (0 < (j : Int)) = true := decide_eq_true h0
                have d0' : decide (0 < j) = true := decide_eq_true (by omega)
                obtain ⟨m, hm, hml⟩ : ∃ m, j - 1 = m ∧ m < l.length := ⟨_, rfl, by omega⟩
                have hwj : IntKind.i64.wrap ((j : Int) - 1) = (m : Int) := by rw [IntKind.wrap_i64]; omega
                obtain ⟨ad', hA', _, kp, _⟩ := item_at (Kd.C_below HR.out HB1.out) m hml
                cases hA'
                rw [← at_get l m hml] at kp
                cases hle : Op.bytesLess (at_ l m).name.toList x.name.toList with
                | false =>
                  have hls : leS x.name (at_ l m).name = true := by rw [leS_not, hle]; rfl
                  have hno := Aside0.mk (may_no l j hlt (by rw [hst.out]; unfold okItem kindB; rw [hm, hls, d0]; simp))
                  go_big_quiet ((go_at_call 24; exact ref_name_quiet x.name _ _ _ hnm hn))
                  go_wp2_with fail
                  go_ret
                  exact ⟨by rw [hno.out]; rfl, below_step HB1.out (pw_below_drewN (Below.refl _ _) nq)⟩
                | true =>
                  have hls : leS x.name (at_ l m).name = false := by rw [leS_not, hle]; rfl
                  have hyes := Aside0.mk (show stepB l j = true by rw [hst.out]; unfold okItem kindB; rw [hm, hls, hn, hz, b1]; simp)
                  go_big_quiet ((go_at_call 24; exact ref_name_quiet x.name _ _ _ hnm hn))
                  go_wp2_with fail
                  go_roundw
                  case rel => exact ⟨j + 1, by omega, by go_num, ⟨step_next HJ.out hyes.out⟩, ⟨below_step HB1.out (pw_below_drewN (Below.refl _ _) nq)⟩⟩
                  case measure => simp [intOf]; omega
              · have d0 : decide (0 < (j : Int)) = false := decide_eq_false h0
                have d0' : decide (0 < j) = false := decide_eq_false (by omega)
                have hyes := Aside0.mk (show stepB l j = true by rw [hst.out]; unfold okItem kindB; rw [d0, hn, hz, b1]; simp)
                go_big_quiet ((go_at_call 24; exact ref_name_quiet x.name _ _ _ hnm hn))
                go_wp2_with fail
                go_roundw
                case rel => exact ⟨j + 1, by omega, by go_num, ⟨step_next HJ.out hyes.out⟩, ⟨below_step HB1.out (pw_below_drewN (Below.refl _ _) nq)⟩⟩
                case measure => simp [intOf]; omega
      · obtain rfl : j = l.length := by omega
        go_wp2
        go_ret
        exact ⟨by rw [may_yes l hl HJ.out]; rfl, HB.out⟩
  · have d1 : decide (64 < (l.length : Int)) = true := by simp; omega
    clear hr
    go_enter Try.func16, Try.ntmps16
    go_wp2
    go_ret
    exact ⟨by rw [mayL, decide_eq_false hl]; rfl, Below.refl _ _⟩
end Go.Proofs.Ytmcankeggbofhaa.Rm
