/- What the document's answers Bit and SetBit compute, as printed: the same as octet's. -/
import Derived.Test.YtcddgokfdnjhaaaRefA
import Derived.Test.YtcddgokfdnjhaaaOctB
import Derived.Test.YtcddgokfdnjhaaaPRefx2
namespace Go.Proofs.Ytcddgokfdnjhaaa.RefC
open Go.RowKit Go.Proofs.YtcddgokfdnjhaaaW.PrintWords Go.Proofs.YtcddgokfdnjhaaaW.PrintLast Go.Proofs.YtcddgokfdnjhaaaW.PrintMore
open Spc PRef RefA OctB OctA POct

theorem ref_bit_loop (i b : Nat) (hb : b < 256) (d : Nat) : ∀ (j k : Nat), j + d = i % 8 → d < k →
    cofferref1_Bit.l0 k i ((b / 2 ^ j : Nat) : Int) j = some (b.testBit (i % 8), 0) := by
  induction d with
  | zero =>
    intro j k hj hk
    obtain ⟨k, rfl⟩ : ∃ m, k = m + 1 := ⟨k - 1, by omega⟩
    obtain rfl : j = i % 8 := by omega
    simp only [cofferref1_Bit.l0]
    rw [show Int.tmod (i : Int) 8 = ((i % 8 : Nat) : Int) from tmod_nat i 8, if_neg (by omega)]
    rw [show Int.tmod ((b / 2 ^ (i % 8) : Nat) : Int) 2 = ((b / 2 ^ (i % 8) % 2 : Nat) : Int) from tmod_nat _ 2, Nat.testBit_eq_decide_div_mod_eq]
    generalize b / 2 ^ (i % 8) % 2 = y
    by_cases h : y = 1
    · subst h; rfl
    · have : ((y : Int) == 1) = false := by simp; omega
      rw [this]; simp [h]
  | succ d ih =>
    intro j k hj hk
    obtain ⟨k, rfl⟩ : ∃ m, k = m + 1 := ⟨k - 1, by omega⟩
    simp only [cofferref1_Bit.l0]
    rw [show Int.tmod (i : Int) 8 = ((i % 8 : Nat) : Int) from tmod_nat i 8, if_pos (by omega)]
    have hle : b / 2 ^ (j + 1) ≤ b := Nat.div_le_self _ _
    have e : wrap64 (Int.tdiv ((b / 2 ^ j : Nat) : Int) 2) = ((b / 2 ^ (j + 1) : Nat) : Int) := by
      rw [show Int.tdiv ((b / 2 ^ j : Nat) : Int) 2 = ((b / 2 ^ j / 2 : Nat) : Int) from tdiv_nat _ 2, Nat.div_div_eq_div_mul, ← Nat.pow_succ]
      have h3 : b / 2 ^ (j.succ) ≤ b := Nat.div_le_self _ _
      generalize b / 2 ^ (j.succ) = q at *
      exact w64_id (by omega) (by omega)
    rw [e, w64_id (by omega) (by omega)]
    exact ih (j + 1) k (by omega) (by omega)

theorem ref_bit_ok (k : Nat) (l : List Int) (hb : ∀ x ∈ l, 0 ≤ x ∧ x < 256) (i : Nat) (hi : i / 8 < l.length) (hi63 : i < 9223372036854775808) (hl : l.length ≤ 140000000000000) (hk : 12 ≤ k) : cofferref1_Bit.f k l i = some (bitAt l i, 0) := by
  obtain ⟨k, rfl⟩ : ∃ m, k = m + 1 := ⟨k - 1, by omega⟩
  unfold cofferref1_Bit.f
  have e8 : Int.tdiv (i : Int) 8 = ((i / 8 : Nat) : Int) := tdiv_nat i 8
  rw [if_neg (by omega), e8, w64_id (by omega) (by omega)]
  have hd : decide (((i / 8 : Nat) : Int) ≥ (l.length : Int)) = false := by simp; omega
  rw [hd]
  simp only [cofferref1_Bit.j0]
  rw [if_neg (by simp), e8, w64_id (n := ((i / 8 : Nat) : Int)) (by omega) (by omega), if_pos (by omega), if_pos (by omega)]
  have hx := rd_byte l hb (i / 8) hi
  unfold bitAt
  generalize rd l ((i / 8 : Nat) : Int) = x at *
  obtain ⟨x, rfl⟩ := Int.eq_ofNat_of_zero_le hx.1
  rw [w64_id (by omega) (by omega), Int.toNat_natCast]
  have := ref_bit_loop i x (by omega) (i % 8) 0 k (by omega) (by omega)
  simpa using this
theorem bit_arg (l : List Int) (i : Int) (hi : i < 0 ∨ (l.length : Int) ≤ i / 8) : octet_Bit.f l i = some (false, 1) := by
  unfold octet_Bit.f
  by_cases h : i < 0
  · rw [if_pos h]
  · rw [if_neg h, if_pos (by omega)]
theorem ref_bit_arg (k : Nat) (l : List Int) (i : Int) (hi : i < 0 ∨ (l.length : Int) ≤ i / 8) (h63 : i ≤ 9223372036854775807) (hk : 1 ≤ k) : cofferref1_Bit.f k l i = some (false, 1) := by
  obtain ⟨k, rfl⟩ : ∃ m, k = m + 1 := ⟨k - 1, by omega⟩
  unfold cofferref1_Bit.f
  by_cases h : i < 0
  · rw [if_pos h]; simp [cofferref1_Bit.j0]
  · rw [if_neg h, Int.tdiv_eq_ediv_of_nonneg (by omega), w64_id (by omega) (by omega)]
    have hd : decide (i / 8 ≥ (l.length : Int)) = true := by simp; omega
    rw [hd]; simp [cofferref1_Bit.j0]
theorem set_arg (k : Nat) (l : List Int) (i : Int) (on : Bool) (hi : i < 0 ∨ (l.length : Int) ≤ i / 8) (hk : 1 ≤ k) : octet_SetBit.f k l i on = some ([], 1) := by
  obtain ⟨k, rfl⟩ : ∃ m, k = m + 1 := ⟨k - 1, by omega⟩
  unfold octet_SetBit.f
  by_cases h : i < 0
  · rw [if_pos h]; simp [octet_SetBit.j0]
  · rw [if_neg h]
    have hd : decide (i / 8 ≥ (l.length : Int)) = true := by simp; omega
    rw [hd]; simp [octet_SetBit.j0]
theorem ref_set_arg (k : Nat) (l : List Int) (i : Int) (on : Bool) (hi : i < 0 ∨ (l.length : Int) ≤ i / 8) (h63 : i ≤ 9223372036854775807) (hk : 1 ≤ k) : cofferref1_SetBit.f k l i on = some ([], 1) := by
  unfold cofferref1_SetBit.f
  rw [ref_bit_arg k l i hi h63 hk]
  simp

theorem tb_on : ∀ c : Nat, c < 8 → ∀ x : Nat, x < 256 → ((x &&& (255 - 2 ^ c)) ||| 2 ^ c) = (if x.testBit c then x else x + 2 ^ c) := by decide +kernel
theorem tb_off : ∀ c : Nat, c < 8 → ∀ x : Nat, x < 256 → (x &&& (255 - 2 ^ c)) = (if x.testBit c then x - 2 ^ c else x) := by decide +kernel

theorem ref_set_loop (l : List Int) (hb : ∀ x ∈ l, 0 ≤ x ∧ x < 256) (i : Nat) (on : Bool) (hi : i / 8 < l.length) (hi63 : i < 9223372036854775808) (hl : l.length ≤ 140000000000000) (d : Nat) : ∀ (j k : Nat), j + d = i % 8 → d + 2 ≤ k →
    cofferref1_SetBit.l0 k i on (bitAt l i) l ((2 ^ j : Nat) : Int) j = some (setAt l i on, 0) := by
  induction d with
  | zero =>
    intro j k hj hk
    obtain ⟨k, rfl⟩ : ∃ m, k = m + 2 := ⟨k - 2, by omega⟩
    obtain rfl : j = i % 8 := by omega
    simp only [cofferref1_SetBit.l0]
    rw [show Int.tmod (i : Int) 8 = ((i % 8 : Nat) : Int) from tmod_nat i 8, if_neg (by omega)]
    have e8 : Int.tdiv (i : Int) 8 = ((i / 8 : Nat) : Int) := tdiv_nat i 8
    have hx := rd_byte l hb (i / 8) hi
    have hon := tb_on (i % 8) (by omega) (rd l ((i / 8 : Nat) : Int)).toNat (by omega)
    have hoff := tb_off (i % 8) (by omega) (rd l ((i / 8 : Nat) : Int)).toNat (by omega)
    have hset : l.set (i / 8) (rd l ((i / 8 : Nat) : Int)) = l := by
      rw [OctB.rd_get l (i / 8) hi]; simp
    have hp : 2 ^ (i % 8) ≤ 2 ^ 7 := Nat.pow_le_pow_right (by omega) (by omega)
    have hge : (rd l ((i / 8 : Nat) : Int)).toNat.testBit (i % 8) = true → 2 ^ (i % 8) ≤ (rd l ((i / 8 : Nat) : Int)).toNat := Nat.ge_two_pow_of_testBit
    have hlt : (rd l ((i / 8 : Nat) : Int)).toNat.testBit (i % 8) = false → (rd l ((i / 8 : Nat) : Int)).toNat + 2 ^ (i % 8) < 256 := fun h => by
      rw [h] at hon
      have hor : ((rd l ((i / 8 : Nat) : Int)).toNat &&& (255 - 2 ^ (i % 8))) ||| 2 ^ (i % 8) < 2 ^ 8 := by
        have hand : (rd l ((i / 8 : Nat) : Int)).toNat &&& (255 - 2 ^ (i % 8)) ≤ (rd l ((i / 8 : Nat) : Int)).toNat := Nat.and_le_left
        exact Nat.or_lt_two_pow (by omega) (by omega)
      rw [hon] at hor
      simpa using hor
    unfold setAt
    unfold bitAt at *
    cases on with
    | true =>
      rw [if_pos rfl, hon]
      cases ht : (rd l ((i / 8 : Nat) : Int)).toNat.testBit (i % 8) with
      | true =>
        simp only [Bool.not_true, cofferref1_SetBit.j1, if_true, Bool.false_eq_true, if_false]
        rw [Int.toNat_of_nonneg hx.1, hset]
      | false =>
        simp only [Bool.not_false, cofferref1_SetBit.j1, if_true, Bool.false_eq_true, if_false]
        rw [e8, w64_id (n := ((i / 8 : Nat) : Int)) (by omega) (by omega), if_pos (by omega), if_pos (by omega)]
        simp only [Option.bind_some, Int.toNat_natCast]
        have := hlt ht
        rw [w64_id (n := rd l ((i / 8 : Nat) : Int)) (by omega) (by omega)]
        congr 3
        generalize rd l ((i / 8 : Nat) : Int) = x at *
        generalize 2 ^ (i % 8) = p at *
        rw [w64_id (by omega) (by omega)]
        omega
    | false =>
      rw [if_neg (by simp)]
      cases ht : (rd l ((i / 8 : Nat) : Int)).toNat.testBit (i % 8) with
      | true =>
        rw [ht] at hoff
        simp only [cofferref1_SetBit.j1, if_true, Bool.false_eq_true, if_false]
        rw [e8, w64_id (n := ((i / 8 : Nat) : Int)) (by omega) (by omega), if_pos (by omega), if_pos (by omega)]
        simp only [Int.toNat_natCast]
        have := hge ht
        rw [w64_id (n := rd l ((i / 8 : Nat) : Int)) (by omega) (by omega), hoff, if_pos rfl]
        congr 3
        generalize rd l ((i / 8 : Nat) : Int) = x at *
        generalize 2 ^ (i % 8) = p at *
        rw [w64_id (by omega) (by omega)]
        omega
      | false =>
        rw [ht] at hoff
        simp only [cofferref1_SetBit.j1, Bool.false_eq_true, if_false]
        rw [hoff, if_neg (by simp), Int.toNat_of_nonneg hx.1, hset]
  | succ d ih =>
    intro j k hj hk
    obtain ⟨k, rfl⟩ : ∃ m, k = m + 1 := ⟨k - 1, by omega⟩
    simp only [cofferref1_SetBit.l0]
    rw [show Int.tmod (i : Int) 8 = ((i % 8 : Nat) : Int) from tmod_nat i 8, if_pos (by omega)]
    have hp : 2 ^ j ≤ 2 ^ 7 := Nat.pow_le_pow_right (by omega) (by omega)
    have e : wrap64 (((2 ^ j : Nat) : Int) * 2) = ((2 ^ (j + 1) : Nat) : Int) := by
      rw [Nat.pow_succ]
      generalize 2 ^ j = p at *
      rw [w64_id (by omega) (by omega)]; rfl
    rw [e, w64_id (by omega) (by omega)]
    exact ih (j + 1) k (by omega) (by omega)

theorem ref_set_ok (k : Nat) (l : List Int) (hb : ∀ x ∈ l, 0 ≤ x ∧ x < 256) (i : Nat) (on : Bool) (hi : i / 8 < l.length) (hi63 : i < 9223372036854775808) (hl : l.length ≤ 140000000000000) (hk : 14 ≤ k) : cofferref1_SetBit.f k l i on = some (setAt l i on, 0) := by
  unfold cofferref1_SetBit.f
  rw [ref_bit_ok k l hb i hi hi63 hl (by omega)]
  simp only [Option.bind_some, if_true]
  rw [if_pos (by simp; omega), List.nil_append]
  have := ref_set_loop l hb i on hi hi63 hl (i % 8) 0 k (by omega) (by omega)
  simpa using this
end Go.Proofs.Ytcddgokfdnjhaaa.RefC
