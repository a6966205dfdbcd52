/- Which lists of items may be a folder: the program's answer. -/
import Derived.Test.YtmcankeggbofhaaNm
import Derived.BigQuiet
import Derived.Laws.Cover1
namespace Go.Proofs.Ytmcankeggbofhaa.My
open Go.RowKit Go.Proofs.YtmcankeggbofhaaW.PrintWords Go.Proofs.YtmcankeggbofhaaW.PrintLast Go.Proofs.YtmcankeggbofhaaW.PrintMore
open It Nm Ag
set_option linter.unusedVariables false
set_option linter.unusedSimpArgs false
def leS (a b : ByteArray) : Bool := Op.bytesLess a.toList b.toList || a.toList == b.toList
def kindB (k sz : Int) : Bool := (k == 1) || ((k == 2) && (sz == 0))
def okItem (x : Itm) : Bool := okName x.name && !decide (x.size < 0) && kindB x.kind x.size
def at_ (l : List Itm) (i : Nat) : Itm := l.getD i item0
def stepB (l : List Itm) (i : Nat) : Bool := okItem (at_ l i) && !(decide (0 < (i : Int)) && leS (at_ l i).name (at_ l (i - 1)).name)
def mayL (l : List Itm) : Bool := decide (l.length ≤ 64) && (List.range l.length).all (stepB l)
theorem at_get (l : List Itm) (i : Nat) (h : i < l.length) : at_ l i = l[i] := by simp [at_, List.getD_eq_getElem?_getD, List.getElem?_eq_getElem h]
theorem may_no (l : List Itm) (j : Nat) (hj : j < l.length) (h : stepB l j = false) : mayL l = false := by
  unfold mayL
  rw [Bool.and_eq_false_iff, List.all_eq_false]
  exact .inr ⟨j, List.mem_range.2 hj, by simp [h]⟩
theorem may_yes (l : List Itm) (hl : l.length ≤ 64) (h : ∀ j, j < l.length → stepB l j = true) : mayL l = true := by
  unfold mayL
  rw [Bool.and_eq_true, List.all_eq_true]
  exact ⟨by simpa using hl, fun j hj => h j (List.mem_range.1 hj)⟩
theorem step_next {l : List Itm} {j : Nat} (h : ∀ i, i < j → stepB l i = true) (hj : stepB l j = true) : ∀ i, i < j + 1 → stepB l i = true := by
  intro i hi
  rcases Nat.lt_or_ge i j with h1 | h1
  · exact h i h1
  · obtain rfl : i = j := by omega
    exact hj
/-- a struct anywhere is read -/
theorem op_load_at {P : Program} {ops : Array Oper} {rest : List Oper} {o : Oper} {a : Act} {Q : Exit → Act → World → Prop} {W : World} (hgd : o.guard = none) (ty : TypeId) (x : Operand) (ho : o.op = .load ty x) (p v : Value) (hx : a.eval x = p) (h1 : (Instr.loadAt ty p).run P W = .ok v W)
    (h : wpList P ops Q rest (a.put o.dst v) W) : wpList P ops Q (o :: rest) a W := Kd.event_run hgd (load_run ho hx h1) h
set_option maxHeartbeats 3200000 in
theorem may_calls (A : Option Addr) (c : Nat) (l : List Itm) (w : World) (hr : CI w A l) (hc : l.length ≤ c) (hmx : l.length ≤ 9223372036854775807) :
    Calls Try.prog 13 #[.slice A l.length c] w fun e w' => e = .returned (.bool (mayL l)) ∧ Below w.heap.size w w' := by
  have HR := Aside0.mk hr
  by_cases hl : l.length ≤ 64
  · have d1 : decide (64 < (l.length : Int)) = false := by simp; omega
    clear hr
    go_enter Try.func13, Try.ntmps13
    go_wp2
    go_loopw [10] (fun u wr => ∃ j : Nat, j ≤ l.length ∧ u = .int .i64 j ∧ Aside0 (∀ i, i < j → stepB l i = true) ∧ Aside0 (Below w.heap.size w wr)) (fun u _ => l.length - (intOf u).toNat)
    case atStart => exact ⟨0, by omega, rfl, ⟨fun i hi => absurd hi (by omega)⟩, ⟨Below.refl _ _⟩⟩
    case round =>
      obtain ⟨j, hj, rfl, HJ, HB⟩ := hrel
      by_cases hlt : j < l.length
      · obtain ⟨ad, hA, hok, _, hld⟩ := item_at (Kd.C_below HR.out HB.out) j hlt
        subst hA
        rw [← at_get l j hlt] at hok hld
        have HL := Aside0.mk hld
        clear hld
        have HB2 := Aside0.mk (HB.out.alloc HB.out.size (.cells (cellsOf item0).toArray 28))
        have hgz := Aside0.mk (heap_alloc_new wr (.cells (cellsOf item0).toArray 28))
        go_wp2_with (first | (refine op_load_at rfl 28 (.tmp 13) rfl _ _ rfl HL.out ?_) | (with_reducible refine op_alloc rfl 28 rfl _ zero28 ?_) | (refine op_store (w0 := w) w.heap.size rfl 28 (.tmp 4) (.tmp 14) rfl wr.heap.size (cellsOf (at_ l j)).toArray rfl rfl 28 (cellsOf item0).toArray hgz.out 35 info28 (cells_sz hok) (cells_sz ok0) (cells_all _) HB2.out HB.out.size ?_; intro w1 hg1 hw1 HB1; have kn := it_name hg1.out))
        obtain ⟨x, hx⟩ : ∃ x, Aside0 (x = at_ l j) := ⟨_, ⟨rfl⟩⟩
        rw [← hx.out] at kn hg1 ⊢
        clear hw1 HB2 hgz HL
        refine (name_calls x.name w1).mono ?_
        rintro e2 w2 ⟨rfl, hw2⟩
        subst hw2
        have kk := it_kind hg1.out
        have ks := it_size hg1.out (by rw [hx.out]; exact hok)
        cases hn : okName x.name with
        | false =>
          have hst := Aside0.mk (may_no l j hlt (by unfold stepB okItem; rw [← hx.out, hn]; rfl))
          go_wp2_with fail
          go_ret
          exact ⟨by rw [hst.out]; rfl, HB1.out⟩
        | true =>
          go_wp2_with fail
          by_cases h0 : 0 < (j : Int)
          · have d0 : decide (0 < (j : Int)) = true := decide_eq_true h0
            have d0' : decide (0 < j) = true := decide_eq_true (by omega)
            obtain ⟨m, hm, hml⟩ : ∃ m, j - 1 = m ∧ m < l.length := ⟨_, rfl, by omega⟩
            have hwj : IntKind.i64.wrap ((j : Int) - 1) = (m : Int) := by rw [IntKind.wrap_i64]; omega
            obtain ⟨ad', hA', _, kp, _⟩ := item_at (Kd.C_below HR.out HB1.out) m hml
            cases hA'
            rw [← at_get l m hml] at kp
            cases hle : leS x.name (at_ l m).name with
            | true =>
              have hle' : (Op.bytesLess x.name.toList (at_ l m).name.toList || x.name.toList == (at_ l m).name.toList) = true := hle
              have hst := Aside0.mk (may_no l j hlt (by unfold stepB; rw [← hx.out, hm, hle, d0]; simp))
              go_quiet (fail)
              go_wp2_with fail
              go_ret
              exact ⟨by rw [hst.out]; rfl, below_step HB1.out (pw_below_drewN (Below.refl _ _) nq)⟩
            | false =>
              have hle' : (Op.bytesLess x.name.toList (at_ l m).name.toList || x.name.toList == (at_ l m).name.toList) = false := hle
              have hst := Aside0.mk (show stepB l j = okItem x by unfold stepB; rw [← hx.out, hm, hle]; simp)
              go_quiet (fail)
              clear hle hle' kp hwj
              cases hz : decide (x.size < 0) with
              | true =>
                have hno := Aside0.mk (may_no l j hlt (by rw [hst.out]; unfold okItem; rw [hn, hz]; simp))
                go_wp2_with fail
                go_ret
                exact ⟨by rw [hno.out]; rfl, below_step HB1.out (pw_below_drewN (Below.refl _ _) nq)⟩
              | false =>
                by_cases c1 : x.kind = 1
                · have e1 : (x.kind == 1) = true := beq_iff_eq.2 c1
                  have f1 : (x.kind != 1) = false := by simp [c1]
                  have hyes := Aside0.mk (show stepB l j = true by rw [hst.out]; unfold okItem; rw [hn, hz, show kindB x.kind x.size = true by unfold kindB; rw [e1]; rfl]; simp)
                  go_wp2_with fail
                  go_roundw
                  case rel => exact ⟨j + 1, by omega, by go_num, ⟨step_next HJ.out hyes.out⟩, ⟨below_step HB1.out (pw_below_drewN (Below.refl _ _) nq)⟩⟩
                  case measure => simp [intOf]; omega
                · have e1 : (x.kind == 1) = false := beq_eq_false_iff_ne.2 c1
                  have f1 : (x.kind != 1) = true := by simp [c1]
                  by_cases c2 : x.kind = 2
                  · have e2 : (x.kind == 2) = true := beq_iff_eq.2 c2
                    have f2 : (x.kind != 2) = false := by simp [c2]
                    by_cases c3 : x.size = 0
                    · have e3 : (x.size == 0) = true := beq_iff_eq.2 c3
                      have f3 : (x.size != 0) = false := by simp [c3]
                      clear c1 c2 c3
                      have hyes := Aside0.mk (show stepB l j = true by rw [hst.out]; unfold okItem; rw [hn, hz, show kindB x.kind x.size = true by unfold kindB; rw [e1, e2, e3]; rfl]; simp)
                      go_wp2_with fail
                      go_roundw
                      case rel => exact ⟨j + 1, by omega, by go_num, ⟨step_next HJ.out hyes.out⟩, ⟨below_step HB1.out (pw_below_drewN (Below.refl _ _) nq)⟩⟩
                      case measure => simp [intOf]; omega
                    · have e3 : (x.size == 0) = false := beq_eq_false_iff_ne.2 c3
                      have f3 : (x.size != 0) = true := by simp [c3]
                      clear c1 c2 c3
                      have hno := Aside0.mk (may_no l j hlt (by rw [hst.out]; unfold okItem; rw [hn, hz, show kindB x.kind x.size = false by unfold kindB; rw [e1, e2, e3]; rfl]; simp))
                      go_wp2_with fail
                      go_ret
                      exact ⟨by rw [hno.out]; rfl, below_step HB1.out (pw_below_drewN (Below.refl _ _) nq)⟩
                  · have e2 : (x.kind == 2) = false := beq_eq_false_iff_ne.2 c2
                    have f2 : (x.kind != 2) = true := by simp [c2]
                    clear c1 c2
                    have hno := Aside0.mk (may_no l j hlt (by rw [hst.out]; unfold okItem; rw [hn, hz, show kindB x.kind x.size = false by unfold kindB; rw [e1, e2]; rfl]; simp))
                    go_wp2_with fail
                    go_ret
                    exact ⟨by rw [hno.out]; rfl, below_step HB1.out (pw_below_drewN (Below.refl _ _) nq)⟩
          · have d0 : decide (0 < (j : Int)) = false := decide_eq_false h0
            have d0' : decide (0 < j) = false := decide_eq_false (by omega)
            have hst := Aside0.mk (show stepB l j = okItem x by unfold stepB; rw [← hx.out, d0]; simp)
            go_quiet (fail)
            clear d0 d0' h0
            cases hz : decide (x.size < 0) with
            | true =>
              have hno := Aside0.mk (may_no l j hlt (by rw [hst.out]; unfold okItem; rw [hn, hz]; simp))
              go_wp2_with fail
              go_ret
              exact ⟨by rw [hno.out]; rfl, below_step HB1.out (pw_below_drewN (Below.refl _ _) nq)⟩
            | false =>
              by_cases c1 : x.kind = 1
              · have e1 : (x.kind == 1) = true := beq_iff_eq.2 c1
                have f1 : (x.kind != 1) = false := by simp [c1]
                have hyes := Aside0.mk (show stepB l j = true by rw [hst.out]; unfold okItem; rw [hn, hz, show kindB x.kind x.size = true by unfold kindB; rw [e1]; rfl]; simp)
                go_wp2_with fail
                go_roundw
                case rel => exact ⟨j + 1, by omega, by go_num, ⟨step_next HJ.out hyes.out⟩, ⟨below_step HB1.out (pw_below_drewN (Below.refl _ _) nq)⟩⟩
                case measure => simp [intOf]; omega
              · have e1 : (x.kind == 1) = false := beq_eq_false_iff_ne.2 c1
                have f1 : (x.kind != 1) = true := by simp [c1]
                by_cases c2 : x.kind = 2
                · have e2 : (x.kind == 2) = true := beq_iff_eq.2 c2
                  have f2 : (x.kind != 2) = false := by simp [c2]
                  by_cases c3 : x.size = 0
                  · have e3 : (x.size == 0) = true := beq_iff_eq.2 c3
                    have f3 : (x.size != 0) = false := by simp [c3]
                    clear c1 c2 c3
                    have hyes := Aside0.mk (show stepB l j = true by rw [hst.out]; unfold okItem; rw [hn, hz, show kindB x.kind x.size = true by unfold kindB; rw [e1, e2, e3]; rfl]; simp)
                    go_wp2_with fail
                    go_roundw
                    case rel => exact ⟨j + 1, by omega, by go_num, ⟨step_next HJ.out hyes.out⟩, ⟨below_step HB1.out (pw_below_drewN (Below.refl _ _) nq)⟩⟩
                    case measure => simp [intOf]; omega
                  · have e3 : (x.size == 0) = false := beq_eq_false_iff_ne.2 c3
                    have f3 : (x.size != 0) = true := by simp [c3]
                    clear c1 c2 c3
                    have hno := Aside0.mk (may_no l j hlt (by rw [hst.out]; unfold okItem; rw [hn, hz, show kindB x.kind x.size = false by unfold kindB; rw [e1, e2, e3]; rfl]; simp))
                    go_wp2_with fail
                    go_ret
                    exact ⟨by rw [hno.out]; rfl, below_step HB1.out (pw_below_drewN (Below.refl _ _) nq)⟩
                · have e2 : (x.kind == 2) = false := beq_eq_false_iff_ne.2 c2
                  have f2 : (x.kind != 2) = true := by simp [c2]
                  clear c1 c2
                  have hno := Aside0.mk (may_no l j hlt (by rw [hst.out]; unfold okItem; rw [hn, hz, show kindB x.kind x.size = false by unfold kindB; rw [e1, e2]; rfl]; simp))
                  go_wp2_with fail
                  go_ret
                  exact ⟨by rw [hno.out]; rfl, below_step HB1.out (pw_below_drewN (Below.refl _ _) nq)⟩
      · obtain rfl : j = l.length := by omega
        go_wp2
        go_ret
        exact ⟨by rw [may_yes l hl HJ.out]; rfl, HB.out⟩
  · have d1 : decide (64 < (l.length : Int)) = true := by simp; omega
    clear hr
    go_enter Try.func13, Try.ntmps13
    go_wp2
    go_ret
    exact ⟨by rw [mayL, decide_eq_false hl]; rfl, Below.refl _ _⟩
end Go.Proofs.Ytmcankeggbofhaa.My
