/- What the document's answers At and TakeCount compute, as printed. -/
import Derived.Test.YtgpgblidplmchaaRefA
namespace Go.Proofs.Ytgpgblidplmchaa.RefB
open Go.RowKit Go.Proofs.YtgpgblidplmchaaW.PrintWords Go.Proofs.YtgpgblidplmchaaW.PrintLast Go.Proofs.YtgpgblidplmchaaW.PrintMore
open Spc POct RefA OctC
set_option linter.unusedVariables false
set_option linter.unusedSimpArgs false

theorem ref_at_loop (l : List Int) (hb : ∀ x ∈ l, 0 ≤ x ∧ x < 256) (hl : l.length ≤ 140000000000000) (at_ n : Nat) (hn : n ≤ 8) (hin : at_ + n ≤ l.length) (d : Nat) : ∀ (i v k : Nat), i + d = n → v < 256 ^ i → d < k →
    cofferref1_At.l0 k l at_ n v i = some (((Spc.val v (((l.drop at_).take n).drop i) : Nat) : Int), 0) := by
  induction d with
  | zero =>
    intro i v k hi hv hk
    obtain ⟨k, rfl⟩ : ∃ m, k = m + 1 := ⟨k - 1, by omega⟩
    simp only [cofferref1_At.l0]
    rw [if_neg (by omega), List.drop_of_length_le (by simp; omega)]
    rfl
  | succ d ih =>
    intro i v k hi hv hk
    obtain ⟨k, rfl⟩ : ∃ m, k = m + 1 := ⟨k - 1, by omega⟩
    simp only [cofferref1_At.l0]
    rw [if_pos (by omega), w64_id (n := (at_ : Int) + i) (by omega) (by omega), if_pos (by omega), if_pos (by omega)]
    have hlt : at_ + i < l.length := by omega
    have hr : rd l ((at_ : Int) + i) = l[at_ + i] := by
      rw [show (at_ : Int) + i = ((at_ + i : Nat) : Int) by omega]
      exact OctC.rd_get l (at_ + i) hlt
    have hx := hb l[at_ + i] (List.getElem_mem hlt)
    have hg : ((l.drop at_).take n)[i]'(by simp; omega) = l[at_ + i] := by simp
    rw [hr, List.drop_eq_getElem_cons (by simp; omega), hg]
    generalize l[at_ + i] = x at *
    have h256 : (256 : Nat) ^ i ≤ 256 ^ 7 := Nat.pow_le_pow_right (by omega) (by omega)
    have h7 : (256 : Nat) ^ 7 = 72057594037927936 := by decide
    have e : IntKind.u64.wrap (IntKind.u64.wrap ((v : Int) * 256) + IntKind.u64.wrap x) = ((v * 256 + x.toNat : Nat) : Int) := by
      rw [u64_id (n := (v : Int) * 256) (by omega) (by omega), u64_id (n := x) (by omega) (by omega), u64_id (by omega) (by omega)]; omega
    rw [e, w64_id (by omega) (by omega)]
    have := ih (i + 1) (v * 256 + x.toNat) k (by omega) (by rw [Nat.pow_succ]; omega) (by omega)
    exact this

theorem ref_at_ok (k : Nat) (l : List Int) (i n : Nat) (hb : ∀ x ∈ l, 0 ≤ x ∧ x < 256) (hn : 1 ≤ n) (hn8 : n ≤ 8) (hl : l.length ≤ 140000000000000) (hi : i + n ≤ l.length) (hk : 13 ≤ k) :
    cofferref1_At.f k l i n = some (((Spc.val 0 ((l.drop i).take n) : Nat) : Int), 0) := by
  obtain ⟨k, rfl⟩ : ∃ m, k = m + 2 := ⟨k - 2, by omega⟩
  unfold cofferref1_At.f
  rw [if_neg (by omega), if_neg (by omega)]
  have hd : decide ((i : Int) < 0) = false := by simp
  rw [hd]
  simp only [cofferref1_At.j0]
  rw [if_neg (by simp), if_neg (by omega), w64_id (by omega) (by omega)]
  have hd2 : decide ((n : Int) > (l.length : Int) - i) = false := by simp; omega
  rw [hd2]
  simp only [cofferref1_At.j1]
  rw [if_neg (by simp)]
  have := ref_at_loop l hb hl i n hn8 hi n 0 0 k (by omega) (by simp) (by omega)
  simpa using this

theorem ref_at_arg (k : Nat) (l : List Int) (i n : Int) (hn : n < 1 ∨ 8 < n ∨ i < 0) (hk : 1 ≤ k) : cofferref1_At.f k l i n = some (0, 1) := by
  obtain ⟨k, rfl⟩ : ∃ m, k = m + 1 := ⟨k - 1, by omega⟩
  unfold cofferref1_At.f
  by_cases h : n < 1
  · rw [if_pos h]; simp [cofferref1_At.j0]
  · rw [if_neg h]
    by_cases h8 : n > 8
    · rw [if_pos h8]; simp [cofferref1_At.j0]
    · rw [if_neg h8]
      have hd : decide (i < 0) = true := by simp; omega
      rw [hd]; simp [cofferref1_At.j0]

theorem ref_at_short (k : Nat) (l : List Int) (i n : Int) (hn : 1 ≤ n) (hn8 : n ≤ 8) (_hl : l.length ≤ 140000000000000) (hi0 : 0 ≤ i) (hi : l.length < i + n) (hk : 2 ≤ k) : cofferref1_At.f k l i n = some (0, 3) := by
  obtain ⟨k, rfl⟩ : ∃ m, k = m + 2 := ⟨k - 2, by omega⟩
  unfold cofferref1_At.f
  rw [if_neg (by omega), if_neg (by omega)]
  have hd : decide (i < 0) = false := by simp; omega
  rw [hd]
  simp only [cofferref1_At.j0]
  rw [if_neg (by simp)]
  by_cases h : i > l.length
  · rw [if_pos h]; simp [cofferref1_At.j1]
  · rw [if_neg h, w64_id (by omega) (by omega)]
    have hd2 : decide (n > (l.length : Int) - i) = true := by simp; omega
    rw [hd2]; simp [cofferref1_At.j1]
end Go.Proofs.Ytgpgblidplmchaa.RefB
