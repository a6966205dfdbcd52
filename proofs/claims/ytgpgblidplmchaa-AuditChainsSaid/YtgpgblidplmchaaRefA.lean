/- What the document's answers on octet compute, as printed. -/
import Derived.Test.YtgpgblidplmchaaOctC
namespace Go.Proofs.Ytgpgblidplmchaa.RefA
open Go.RowKit Go.Proofs.YtgpgblidplmchaaW.PrintWords Go.Proofs.YtgpgblidplmchaaW.PrintLast Go.Proofs.YtgpgblidplmchaaW.PrintMore
open Spc POct
set_option linter.unusedVariables false
set_option linter.unusedSimpArgs false

theorem tdiv_nat (v n : Nat) : Int.tdiv (v : Int) (n : Int) = ((v / n : Nat) : Int) := by rw [Int.tdiv_eq_ediv_of_nonneg (by omega)]; simp

theorem tmod_nat (v n : Nat) : Int.tmod (v : Int) (n : Int) = ((v % n : Nat) : Int) := by rw [Int.tmod_eq_emod_of_nonneg (by omega)]; simp

theorem ref_put_loop (l : List Int) (hl : l.length ≤ 130000000000000) (v n : Nat) (hv : v < 18446744073709551616) (hn : n ≤ 8) (d : Nat) : ∀ (i k : Nat), i + d = n → d < k →
    cofferref1_Put.l0 k l ((v / 256 ^ i : Nat) : Int) n (be i v) i = if v < 256 ^ n then some (l ++ be n v, 0) else some ([], 2) := by
  induction d with
  | zero =>
    intro i k hi hk
    obtain ⟨k, rfl⟩ : ∃ m, k = m + 1 := ⟨k - 1, by omega⟩
    obtain rfl : i = n := by omega
    simp only [cofferref1_Put.l0]
    rw [if_neg (by omega)]
    have hp : 0 < 256 ^ i := Nat.pow_pos (by omega)
    by_cases h : v < 256 ^ i
    · rw [if_pos h, if_neg (by rw [Nat.div_eq_of_lt h]; simp)]
      simp only [Option.bind_some, be_length]
      rw [if_pos (by simp; omega), if_pos (by simp; omega)]
      simp
    · have : 0 < v / 256 ^ i := Nat.div_pos (by omega) hp
      rw [if_neg h, if_pos (by omega)]
  | succ d ih =>
    intro i k hi hk
    obtain ⟨k, rfl⟩ : ∃ m, k = m + 1 := ⟨k - 1, by omega⟩
    simp only [cofferref1_Put.l0]
    rw [if_pos (by omega)]
    simp only [Option.bind_some, be_length]
    rw [if_pos (by simp; omega)]
    have hle : v / 256 ^ i ≤ v := Nat.div_le_self _ _
    have e1 : Int.tmod ((v / 256 ^ i : Nat) : Int) 256 % 256 = ((v / 256 ^ i % 256 : Nat) : Int) := by
      rw [show (256 : Int) = ((256 : Nat) : Int) from rfl, tmod_nat]; omega
    have e2 : IntKind.u64.wrap (Int.tdiv ((v / 256 ^ i : Nat) : Int) 256) = ((v / 256 ^ (i + 1) : Nat) : Int) := by
      rw [show (256 : Int) = ((256 : Nat) : Int) from rfl, tdiv_nat, Nat.div_div_eq_div_mul, ← Nat.pow_succ]
      have h3 : v / 256 ^ (i.succ) ≤ v := Nat.div_le_self _ _
      generalize v / 256 ^ (i.succ) = q at *
      exact u64_id (by omega) (by omega)
    rw [e1, e2, w64_id (by omega) (by omega)]
    exact ih (i + 1) k (by omega) (by omega)

theorem ref_put_ok (k : Nat) (l : List Int) (v n : Nat) (hv : v < 18446744073709551616) (hn : 1 ≤ n) (hn8 : n ≤ 8) (hl : l.length ≤ 130000000000000) (hk : 12 ≤ k) :
    cofferref1_Put.f k l v n = if v < 256 ^ n then some (l ++ be n v, 0) else some ([], 2) := by
  obtain ⟨k, rfl⟩ : ∃ m, k = m + 1 := ⟨k - 1, by omega⟩
  unfold cofferref1_Put.f
  rw [if_neg (by omega)]
  have hd : decide ((n : Int) > 8) = false := by simp; omega
  rw [hd]
  simp only [cofferref1_Put.j0]
  rw [if_neg (by simp)]
  have := ref_put_loop l hl v n hv hn8 n 0 k (by omega) (by omega)
  simpa [be] using this

theorem ref_put_arg (k : Nat) (l : List Int) (v n : Int) (hn : n < 1 ∨ 8 < n) (hk : 1 ≤ k) : cofferref1_Put.f k l v n = some ([], 1) := by
  obtain ⟨k, rfl⟩ : ∃ m, k = m + 1 := ⟨k - 1, by omega⟩
  unfold cofferref1_Put.f
  by_cases h : n < 1
  · rw [if_pos h]; simp [cofferref1_Put.j0]
  · rw [if_neg h]
    have hd : decide (n > 8) = true := by simp; omega
    rw [hd]; simp [cofferref1_Put.j0]
end Go.Proofs.Ytgpgblidplmchaa.RefA
