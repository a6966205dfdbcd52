/- One item off bytes: what the program's item answers. -/
import Derived.Test.YtmcankeggbofhaaIw
namespace Go.Proofs.Ytmcankeggbofhaa.Ip
open Go.RowKit Go.Proofs.YtmcankeggbofhaaW.PrintWords Go.Proofs.YtmcankeggbofhaaW.PrintMore
open It Nm Ag My Spc By Im Iw OctC OctD
set_option linter.unusedVariables false
set_option linter.unusedSimpArgs false
theorem takeT_bounds (l : List Int) (hb : ∀ x ∈ l, 0 ≤ x ∧ x < 256) (h : (OctD.takeT l).2.2 = 0) : 0 ≤ (OctD.takeT l).2.1 ∧ (OctD.takeT l).2.1 ≤ l.length ∧ (OctD.takeT l).1.length ≤ 65536 := by
  have hbd := take_bounds l hb 0 0 (by omega) (by simp)
  unfold OctD.takeT at h ⊢
  by_cases h0 : (OctC.take 0 0 l).2.2 = 0
  · rw [if_pos h0] at h ⊢
    obtain ⟨v, a, e, hv1, ha1, ha2, _⟩ := hbd.1 h0
    by_cases h1 : (OctC.take 0 0 l).1 > 65536
    · rw [if_pos h1] at h; simp at h
    rw [if_neg h1] at h ⊢
    by_cases h2 : (l.length : Int) - (OctC.take 0 0 l).2.1 < (OctC.take 0 0 l).1
    · rw [if_pos h2] at h; simp at h
    rw [if_neg h2]
    rw [e] at h1 h2 ⊢
    refine ⟨by simp; omega, by simp at h2 ⊢; omega, by simp; omega⟩
  · rw [if_neg h0] at h
    exact absurd h h0
theorem take_in (l : List Int) (hb : ∀ x ∈ l, 0 ≤ x ∧ x < 256) (h : (OctC.take 0 0 l).2.2 = 0) : 0 ≤ (OctC.take 0 0 l).1 ∧ 0 ≤ (OctC.take 0 0 l).2.1 ∧ (OctC.take 0 0 l).2.1 ≤ l.length ∧ (OctC.take 0 0 l).1 < 18446744073709551616 := by
  obtain ⟨v, a, e, hv1, ha1, ha2, _⟩ := (take_bounds l hb 0 0 (by omega) (by simp)).1 h
  rw [e]
  exact ⟨Int.natCast_nonneg _, Int.natCast_nonneg _, by show (a : Int) ≤ _; omega, by show (v : Int) < _; omega⟩
set_option maxHeartbeats 800000 in
theorem item_fails (A : Option Addr) (c : Nat) (b : List Int) (w : World) (hr : CB w A b) (hc : b.length ≤ c) (hmx : b.length ≤ 100000) (hby : ∀ x ∈ b, 0 ≤ x ∧ x < 256) (h : parse b = none) :
    Calls Try.prog 34 #[.slice A b.length c] w fun e w' => ∃ m : Array Value, Fits m ∧ e = .returned (.tuple #[.agg m, .slice none 0 0, .bool false]) ∧ Below w.heap.size w w' := by
  cases b with
  | nil => exact item_empty A c [] w hr hc hmx hby rfl
  | cons c0 r =>
    have hbr : ∀ x ∈ r, 0 ≤ x ∧ x < 256 := fun x hx => hby x (by simp [hx])
    have hrl : r.length ≤ 100000 := by simp at hmx; omega
    have htx := takeText_ok 40 r hbr (by omega) (by omega)
    obtain ⟨lb, n7, e7, ht⟩ : ∃ lb n7 e7, OctD.takeT r = (lb, n7, e7) := ⟨_, _, _, rfl⟩
    rw [ht] at htx
    by_cases he7 : e7 = 0
    · subst he7
      have hbn := takeT_bounds r hbr (by rw [ht])
      rw [ht] at hbn
      by_cases hsh : (r.length : Int) - n7 < 32
      · exact item_short A c (c0 :: r) w hr hc hmx hby c0 r rfl lb n7 ⟨htx⟩ hbn.1 hbn.2.1 (by simp; omega)
      · have hby2 : ∀ x ∈ (r.drop n7.toNat).drop 32, 0 ≤ x ∧ x < 256 := fun x hx => hbr x (List.mem_of_mem_drop (List.mem_of_mem_drop hx))
        have htk := takeCount_ok 40 ((r.drop n7.toNat).drop 32) hby2 (by simp; omega) (by omega)
        obtain ⟨nv, nk, ne, hk⟩ : ∃ nv nk ne, OctC.take 0 0 ((r.drop n7.toNat).drop 32) = (nv, nk, ne) := ⟨_, _, _, rfl⟩
        rw [hk] at htk
        by_cases hne : ne = 0
        · by_cases hbg : 9223372036854775807 < nv
          · exact item_big A c (c0 :: r) w hr hc hmx hby c0 r rfl lb n7 ⟨htx⟩ hbn.1 hbn.2.1 (by simp; omega) nv nk ne ⟨htk⟩ (by simp [hne]) (by simpa using hbg)
          · exfalso
            have hb0 : 0 ≤ n7 := hbn.1
            have hb1 : n7 ≤ r.length := hbn.2.1
            simp only [parse, ht] at h
            rw [if_neg (by simp), if_neg (by simp; omega)] at h
            rw [hk] at h
            simp only at h
            rw [if_neg (by rintro (h1 | h1); exact h1 hne; exact hbg h1)] at h
            exact absurd h (by simp)
        · exact item_count A c (c0 :: r) w hr hc hmx hby c0 r rfl lb n7 ⟨htx⟩ hbn.1 hbn.2.1 (by simp; omega) nv nk ne ⟨htk⟩ (by simpa using hne)
    · exact item_text A c (c0 :: r) w hr hc hmx hby c0 r rfl lb n7 e7 ⟨htx⟩ (by simpa using he7)
theorem item_gives (A : Option Addr) (c : Nat) (b : List Int) (w : World) (hr : CB w A b) (hc : b.length ≤ c) (hmx : b.length ≤ 100000) (hby : ∀ x ∈ b, 0 ≤ x ∧ x < 256) (x : Itm) (rest : List Int) (h : parse b = some (x, rest)) :
    Calls Try.prog 34 #[.slice A b.length c] w fun e w' => ∃ (A' : Option Addr) (c' : Nat), e = .returned (.tuple #[.agg (cellsOf x).toArray, .slice A' rest.length c', .bool true]) ∧ rest.length ≤ c' ∧ (∀ W, CB W A b → CB W A' rest) ∧ Below w.heap.size w w' := by
  cases b with
  | nil => simp [parse] at h
  | cons c0 r =>
    have hbr : ∀ x ∈ r, 0 ≤ x ∧ x < 256 := fun x hx => hby x (by simp [hx])
    have hrl : r.length ≤ 100000 := by simp at hmx; omega
    have htx := takeText_ok 40 r hbr (by omega) (by omega)
    obtain ⟨lb, n7, e7, ht⟩ : ∃ lb n7 e7, OctD.takeT r = (lb, n7, e7) := ⟨_, _, _, rfl⟩
    rw [ht] at htx
    simp only [parse, ht] at h
    by_cases he7 : e7 = 0
    · subst he7
      have hbn := takeT_bounds r hbr (by rw [ht])
      rw [ht] at hbn
      rw [if_neg (by simp)] at h
      by_cases hsh : (r.drop n7.toNat).length < 32
      · rw [if_pos hsh] at h; simp at h
      rw [if_neg hsh] at h
      have hby2 : ∀ x ∈ (r.drop n7.toNat).drop 32, 0 ≤ x ∧ x < 256 := fun x hx => hbr x (List.mem_of_mem_drop (List.mem_of_mem_drop hx))
      have htk := takeCount_ok 40 ((r.drop n7.toNat).drop 32) hby2 (by simp; omega) (by omega)
      obtain ⟨nv, nk, ne, hk⟩ : ∃ nv nk ne, OctC.take 0 0 ((r.drop n7.toNat).drop 32) = (nv, nk, ne) := ⟨_, _, _, rfl⟩
      rw [hk] at htk h
      simp only at h
      by_cases hbad : ne ≠ 0 ∨ 9223372036854775807 < nv
      · rw [if_pos hbad] at h; simp at h
      rw [if_neg hbad] at h
      simp only [Option.some.injEq, Prod.mk.injEq] at h
      obtain ⟨rfl, rfl⟩ := h
      have hne : ne = 0 := by
        by_cases h0 : ne = 0
        · exact h0
        · exact absurd (.inl h0) hbad
      have hin := take_in _ hby2 (by rw [hk]; exact hne)
      rw [hk] at hin
      have hbg : ¬ 9223372036854775807 < nv := fun h1 => hbad (.inr h1)
      exact item_yes A c (c0 :: r) w hr hc hmx hby c0 r rfl lb n7 ⟨htx⟩ hbn.1 hbn.2.1 (by simp at hsh ⊢; omega) nv nk ne ⟨htk⟩ (by simp [hne]) (by simpa using hbg) hin.1 hin.2.1 hin.2.2.1
    · rw [if_pos he7] at h; simp at h
theorem parse_ok (b : List Int) (hby : ∀ x ∈ b, 0 ≤ x ∧ x < 256) (x : Itm) (rest : List Int) (h : parse b = some (x, rest)) : Ok x ∧ 0 ≤ x.size ∧ x.size ≤ 9223372036854775807 ∧ (∀ y ∈ rest, y ∈ b) ∧ rest.length < b.length ∧ x.name.size ≤ 65536 := by
  cases b with
  | nil => simp [parse] at h
  | cons c0 r =>
    have hbr : ∀ x ∈ r, 0 ≤ x ∧ x < 256 := fun x hx => hby x (by simp [hx])
    obtain ⟨lb, n7, e7, ht⟩ : ∃ lb n7 e7, OctD.takeT r = (lb, n7, e7) := ⟨_, _, _, rfl⟩
    simp only [parse, ht] at h
    by_cases he7 : e7 = 0
    · subst he7
      have hbn := takeT_bounds r hbr (by rw [ht])
      rw [ht] at hbn
      rw [if_neg (by simp)] at h
      by_cases hsh : (r.drop n7.toNat).length < 32
      · rw [if_pos hsh] at h; simp at h
      rw [if_neg hsh] at h
      have hby2 : ∀ x ∈ (r.drop n7.toNat).drop 32, 0 ≤ x ∧ x < 256 := fun x hx => hbr x (List.mem_of_mem_drop (List.mem_of_mem_drop hx))
      obtain ⟨nv, nk, ne, hk⟩ : ∃ nv nk ne, OctC.take 0 0 ((r.drop n7.toNat).drop 32) = (nv, nk, ne) := ⟨_, _, _, rfl⟩
      rw [hk] at h
      simp only at h
      by_cases hbad : ne ≠ 0 ∨ 9223372036854775807 < nv
      · rw [if_pos hbad] at h; simp at h
      rw [if_neg hbad] at h
      simp only [Option.some.injEq, Prod.mk.injEq] at h
      obtain ⟨rfl, rfl⟩ := h
      have hne : ne = 0 := by
        by_cases h0 : ne = 0
        · exact h0
        · exact absurd (.inl h0) hbad
      have hin := take_in _ hby2 (by rw [hk]; exact hne)
      rw [hk] at hin
      have hbg : ¬ 9223372036854775807 < nv := fun h1 => hbad (.inr h1)
      refine ⟨by simp [Ok] at hsh ⊢; omega, hin.1, by show nv ≤ _; omega, fun y hy => ?_, by simp; omega, by rw [strOfNums_size]; exact hbn.2.2⟩
      exact List.mem_cons_of_mem _ (List.mem_of_mem_drop (List.mem_of_mem_drop (List.mem_of_mem_drop hy)))
    · rw [if_pos he7] at h; simp at h
end Go.Proofs.Ytmcankeggbofhaa.Ip
