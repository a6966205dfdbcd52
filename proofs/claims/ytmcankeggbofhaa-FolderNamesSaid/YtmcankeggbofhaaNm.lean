/- Which names an item may have: the program's and the document's answer. -/
import Derived.Test.YtmcankeggbofhaaShf
import Derived.Test.YtmcankeggbofhaaIt
import Derived.Test.YtmcankeggbofhaaPOctx
import Derived.Test.YtmcankeggbofhaaSpec
import Derived.Lib.IndexLaws
namespace Go.Proofs.Ytmcankeggbofhaa.Nm
open Go.RowKit Go.Proofs.YtmcankeggbofhaaW.PrintWords Go.Proofs.YtmcankeggbofhaaW.PrintLast Go.Proofs.YtmcankeggbofhaaW.PrintMore
open It
set_option linter.unusedVariables false
set_option linter.unusedSimpArgs false
def hasB (s : ByteArray) (c : UInt8) : Bool := decide (0 ≤ Lib.indexByte s.data.toList c)
def okName (s : ByteArray) : Bool := decide (1 ≤ (s.size : Int)) && decide ((s.size : Int) ≤ 64) && !(s.toList == [46]) && !(s.toList == [46, 46]) && !hasB s 47 && !hasB s 0
set_option maxHeartbeats 1600000 in
theorem name_calls (s : ByteArray) (w : World) : Calls Try.prog 23 #[.string s] w fun e w' => e = .returned (.bool (okName s)) ∧ w' = w := by
  unfold okName
  have e47 : decide (0 ≤ Lib.indexByte s.data.toList 47) = hasB s 47 := rfl
  have e0 : decide (0 ≤ Lib.indexByte s.data.toList 0) = hasB s 0 := rfl
  have C47 := Aside0.mk (fun w => Try.strings_Contains_one s 47 w)
  have C0 := Aside0.mk (fun w => Try.strings_Contains_one s 0 w)
  rw [e47] at C47; rw [e0] at C0
  generalize hasB s 47 = h47 at *
  generalize hasB s 0 = h0 at *
  generalize h1 : decide (1 ≤ (s.size : Int)) = b1
  generalize h2 : decide ((s.size : Int) ≤ 64) = b2
  generalize h3 : (s.toList == [46]) = b3
  generalize h4 : (s.toList == [46, 46]) = b4
  clear e47 e0
  cases b1 with
  | false =>
    go_enter Try.func23, Try.ntmps23
    go_wp2_with (first | (go_at_call 37; refine (C47.out _).mono ?_; rintro e w' ⟨rfl, rfl⟩) | (go_at_call 37; refine (C0.out _).mono ?_; rintro e w' ⟨rfl, rfl⟩))
    go_ret
    exact ⟨by simp, rfl⟩
  | true =>
    cases b2 with
    | false =>
      go_enter Try.func23, Try.ntmps23
      go_wp2_with (first | (go_at_call 37; refine (C47.out _).mono ?_; rintro e w' ⟨rfl, rfl⟩) | (go_at_call 37; refine (C0.out _).mono ?_; rintro e w' ⟨rfl, rfl⟩))
      go_ret
      exact ⟨by simp, rfl⟩
    | true =>
      cases b3 with
      | true =>
        go_enter Try.func23, Try.ntmps23
        go_wp2_with (first | (go_at_call 37; refine (C47.out _).mono ?_; rintro e w' ⟨rfl, rfl⟩) | (go_at_call 37; refine (C0.out _).mono ?_; rintro e w' ⟨rfl, rfl⟩))
        go_ret
        exact ⟨by simp, rfl⟩
      | false =>
        cases b4 with
        | true =>
          go_enter Try.func23, Try.ntmps23
          go_wp2_with (first | (go_at_call 37; refine (C47.out _).mono ?_; rintro e w' ⟨rfl, rfl⟩) | (go_at_call 37; refine (C0.out _).mono ?_; rintro e w' ⟨rfl, rfl⟩))
          go_ret
          exact ⟨by simp, rfl⟩
        | false =>
          cases h47 with
          | true =>
            go_enter Try.func23, Try.ntmps23
            go_wp2_with (first | (go_at_call 37; refine (C47.out _).mono ?_; rintro e w' ⟨rfl, rfl⟩) | (go_at_call 37; refine (C0.out _).mono ?_; rintro e w' ⟨rfl, rfl⟩))
            go_ret
            exact ⟨by simp, rfl⟩
          | false =>
            cases h0 with
            | true =>
              go_enter Try.func23, Try.ntmps23
              go_wp2_with (first | (go_at_call 37; refine (C47.out _).mono ?_; rintro e w' ⟨rfl, rfl⟩) | (go_at_call 37; refine (C0.out _).mono ?_; rintro e w' ⟨rfl, rfl⟩))
              go_ret
              exact ⟨by simp, rfl⟩
            | false =>
              go_enter Try.func23, Try.ntmps23
              go_wp2_with (first | (go_at_call 37; refine (C47.out _).mono ?_; rintro e w' ⟨rfl, rfl⟩) | (go_at_call 37; refine (C0.out _).mono ?_; rintro e w' ⟨rfl, rfl⟩))
              go_ret
              exact ⟨by simp, rfl⟩
theorem bt_data (s : ByteArray) (j : Nat) (c : UInt8) : (j < s.size ∧ bt s j = (c.toNat : Int)) ↔ s.data.toList[j]? = some c := by
  unfold bt
  constructor
  · rintro ⟨h, e⟩
    rw [dif_pos (by simpa using h)] at e
    have hj : j < s.data.size := h
    rw [Array.getElem?_toList, Array.getElem?_eq_getElem hj]
    congr 1
    apply UInt8.toNat_inj.1
    have e2 : (s[j].toNat : Int) = c.toNat := e
    have : s[j] = s.data[j] := rfl
    rw [← this]; omega
  · intro h
    have hj : j < s.data.toList.length := (List.getElem?_eq_some_iff.1 h).1
    have hj2 : j < s.size := by simpa using hj
    refine ⟨hj2, ?_⟩
    rw [dif_pos (by simpa using hj2)]
    have he : s.data[j] = c := by
      have := (List.getElem?_eq_some_iff.1 h).2
      simpa using this
    show ((s[j].toNat : Nat) : Int) = _
    have : s[j] = s.data[j] := rfl
    rw [this, he]
theorem has_yes (s : ByteArray) (j : Nat) (c : UInt8) (hj : j < s.size) (h : bt s j = (c.toNat : Int)) : hasB s c = true := by
  unfold hasB
  have h1 := Lib.indexByte_ge s.data.toList c
  rw [decide_eq_true_eq]
  by_cases h2 : Lib.indexByte s.data.toList c = -1
  · exact absurd ((bt_data s j c).1 ⟨hj, h⟩) (Lib.indexByte_none h2 j)
  · omega
theorem has_no (s : ByteArray) (c : UInt8) (h : ∀ j, j < s.size → bt s j ≠ (c.toNat : Int)) : hasB s c = false := by
  unfold hasB
  rw [decide_eq_false_iff_not]
  intro h0
  obtain ⟨o, ho⟩ := Int.eq_ofNat_of_zero_le h0
  have := (bt_data s o c).2 (Lib.indexByte_some ho).1
  exact h o this.1 this.2
theorem ref_name_loop (s : ByteArray) (hs : s.size ≤ 4611686018427387904) (d : Nat) : ∀ (j k : Nat), j + d = s.size → d < k → (∀ i, i < j → bt s i ≠ 47 ∧ bt s i ≠ 0) → POct.cofferref15_MayName.l0 k s j = some (okName s) := by
  induction d with
  | zero =>
    intro j k hj hk h
    obtain ⟨k, rfl⟩ : ∃ m, k = m + 1 := ⟨k - 1, by omega⟩
    unfold POct.cofferref15_MayName.l0
    rw [if_neg (by omega)]
    have h1 : hasB s 47 = false := has_no s 47 (fun i hi => (h i (by omega)).1)
    have h2 : hasB s 0 = false := has_no s 0 (fun i hi => (h i (by omega)).2)
    unfold okName
    rw [h1, h2]
    by_cases c1 : (s.size : Int) ≥ 1
    · rw [if_pos c1]
      by_cases c2 : (s.size : Int) ≤ 64
      · rw [if_pos c2]
        by_cases c3 : s.toList = [46]
        · rw [if_pos c3, c3]; simp
        · rw [if_neg c3, decide_eq_true (show 1 ≤ (s.size : Int) from c1), decide_eq_true c2, beq_eq_false_iff_ne.2 c3]; simp; rfl
      · rw [if_neg c2, decide_eq_false c2]; simp
    · rw [if_neg c1, decide_eq_false (show ¬ 1 ≤ (s.size : Int) from c1)]; simp
  | succ d ih =>
    intro j k hj hk h
    obtain ⟨k, rfl⟩ : ∃ m, k = m + 1 := ⟨k - 1, by omega⟩
    unfold POct.cofferref15_MayName.l0
    rw [if_pos (by omega), if_pos (by omega)]
    by_cases c1 : bt s j = 47
    · rw [if_pos c1]
      have := has_yes s j 47 (by omega) c1
      unfold okName
      rw [this]; simp
    · rw [if_neg c1]
      by_cases c2 : bt s j = 0
      · rw [if_pos c2]
        have := has_yes s j 0 (by omega) c2
        unfold okName
        rw [this]; simp
      · rw [if_neg c2, Spc.w64_id (by omega) (by omega), show ((j : Int) + 1) = ((j + 1 : Nat) : Int) by omega]
        refine ih (j + 1) k (by omega) (by omega) (fun i hi => ?_)
        rcases Nat.lt_or_ge i j with h1 | h1
        · exact h i h1
        · obtain rfl : i = j := by omega
          exact ⟨c1, c2⟩
theorem ref_name_calls (s : ByteArray) (w : World) (hs : s.size ≤ 4611686018427387904) : Calls Try.prog 24 #[.string s] w fun e w' => e = .returned (.bool (okName s)) ∧ Drawn0 w w' :=
  POct.cofferref15_MayName.calls (s.size + 2) s (okName s) w (ref_name_loop s hs s.size 0 (s.size + 2) (by omega) (by omega) (fun i hi => absurd hi (by omega)))
end Go.Proofs.Ytmcankeggbofhaa.Nm
