/- What octet.Bit and octet.SetBit compute, as printed: single bits of bytes. -/
import Derived.Test.YtcddgokfdnjhaaaOctA
import Derived.Test.YtcddgokfdnjhaaaPOctx5
namespace Go.Proofs.Ytcddgokfdnjhaaa.OctB
open Go.RowKit Go.Proofs.YtcddgokfdnjhaaaW.PrintWords Go.Proofs.YtcddgokfdnjhaaaW.PrintLast Go.Proofs.YtcddgokfdnjhaaaW.PrintMore
open Spc OctA POct

theorem and7 (a : Nat) (ha : a < 9223372036854775808) : Go.bits .and .i64 (a : Int) 7 = ((a % 8 : Nat) : Int) := by
  show IntKind.i64.wrap ((BitVec.ofInt 64 (a : Int) &&& BitVec.ofInt 64 ((7 : Nat) : Int)).toNat : Int) = _
  rw [BitVec.ofInt_natCast, BitVec.ofInt_natCast, BitVec.toNat_and, BitVec.toNat_ofNat, BitVec.toNat_ofNat, IntKind.wrap_i64]
  have h1 : a % 2 ^ 64 = a := Nat.mod_eq_of_lt (by omega)
  have h2 : 7 % 2 ^ 64 = 7 := by decide
  have h3 : a &&& 7 = a % 8 := Nat.and_two_pow_sub_one_eq_mod a 3
  rw [h1, h2, h3]
  omega

/-- bit i of bytes -/
def bitAt (l : List Int) (i : Nat) : Bool := (rd l ((i / 8 : Nat) : Int)).toNat.testBit (i % 8)

theorem rd_get (l : List Int) (i : Nat) (h : i < l.length) : rd l (i : Int) = l[i] := by
  unfold rd; simp [List.getD_eq_getElem?_getD, List.getElem?_eq_getElem h]
theorem rd_byte (l : List Int) (hb : ∀ x ∈ l, 0 ≤ x ∧ x < 256) (i : Nat) (h : i < l.length) : 0 ≤ rd l (i : Int) ∧ rd l (i : Int) < 256 := by
  rw [rd_get l i h]; exact hb _ (List.getElem_mem h)

theorem bit_ok (l : List Int) (hb : ∀ x ∈ l, 0 ≤ x ∧ x < 256) (i : Nat) (hi : i / 8 < l.length) (hi63 : i < 9223372036854775808) : octet_Bit.f l i = some (bitAt l i, 0) := by
  unfold octet_Bit.f
  have e8 : (i : Int) / 8 = ((i / 8 : Nat) : Int) := by simp
  rw [e8, if_neg (by omega), if_neg (by omega), if_pos (by omega), if_pos (by omega), and7 i hi63, u64_id (by omega) (by omega), if_pos (by omega)]
  congr 2
  unfold bitAt
  have hx := rd_byte l hb (i / 8) hi
  generalize rd l ((i / 8 : Nat) : Int) = x at *
  obtain ⟨x, rfl⟩ := Int.eq_ofNat_of_zero_le hx.1
  have hs : shr .u8 (x : Int) ((i % 8 : Nat) : Int) = ((x / 2 ^ (i % 8) : Nat) : Int) := by
    unfold shr
    have : min ((i % 8 : Nat) : Int).toNat IntKind.u8.bits = i % 8 := by show min _ 8 = _; omega
    rw [this]; simp
  have hle : x / 2 ^ (i % 8) ≤ x := Nat.div_le_self _ _
  have ha := u8_and_nat (x / 2 ^ (i % 8)) 1 (by omega) (by omega)
  rw [hs]
  rw [show Go.bits .and .u8 ((x / 2 ^ (i % 8) : Nat) : Int) 1 = ((x / 2 ^ (i % 8) &&& 1 : Nat) : Int) from ha]
  rw [Int.toNat_natCast, Nat.testBit_eq_decide_div_mod_eq, Nat.and_one_is_mod]
  generalize x / 2 ^ (i % 8) % 2 = y
  by_cases h : y = 1
  · subst h; decide
  · have : ((y : Int) == 1) = false := by simp; omega
    rw [this]; simp [h]

theorem tb_mask : ∀ c : Nat, c < 8 → ∀ j : Nat, j < 8 → (255 - 2 ^ c).testBit j = decide (j ≠ c) := by decide

/-- bytes with bit i so -/
def setAt (l : List Int) (i : Nat) (on : Bool) : List Int :=
  l.set (i / 8) ((if on then ((rd l ((i / 8 : Nat) : Int)).toNat &&& (255 - 2 ^ (i % 8))) ||| 2 ^ (i % 8) else (rd l ((i / 8 : Nat) : Int)).toNat &&& (255 - 2 ^ (i % 8)) : Nat) : Int)

theorem set_ok (k : Nat) (l : List Int) (hb : ∀ x ∈ l, 0 ≤ x ∧ x < 256) (i : Nat) (on : Bool) (hi : i / 8 < l.length) (hi63 : i < 9223372036854775808) (hl : l.length ≤ 140000000000000) (hk : 1 ≤ k) :
    octet_SetBit.f k l i on = some (setAt l i on, 0) := by
  obtain ⟨k, rfl⟩ : ∃ m, k = m + 1 := ⟨k - 1, by omega⟩
  unfold octet_SetBit.f
  have e8 : (i : Int) / 8 = ((i / 8 : Nat) : Int) := by simp
  rw [e8, if_neg (by omega)]
  have hd : decide (((i / 8 : Nat) : Int) ≥ (l.length : Int)) = false := by simp; omega
  rw [hd]
  simp only [octet_SetBit.j0]
  have ho := own_ok l 0 (by omega)
  rw [if_neg (by simp), show octet_own.f l 0 = some l from ho]
  simp only [Option.bind_some]
  rw [e8, and7 i hi63, u64_id (by omega) (by omega), if_pos (by omega), if_pos (by omega), if_pos (by omega)]
  have hx := rd_byte l hb (i / 8) hi
  have hsh : shl .u8 1 ((i % 8 : Nat) : Int) = ((2 ^ (i % 8) : Nat) : Int) := by
    unfold shl
    have : min ((i % 8 : Nat) : Int).toNat IntKind.u8.bits = i % 8 := by show min _ 8 = _; omega
    rw [this, IntKind.wrap_u8]
    have hp : 2 ^ (i % 8) ≤ 2 ^ 7 := Nat.pow_le_pow_right (by omega) (by omega)
    have : (1 : Int) * 2 ^ (i % 8) = ((2 ^ (i % 8) : Nat) : Int) := by simp
    rw [this]; clear this
    generalize 2 ^ (i % 8) = p at *
    omega
  have hp : 2 ^ (i % 8) ≤ 2 ^ 7 := Nat.pow_le_pow_right (by omega) (by omega)
  rw [hsh]
  unfold setAt
  generalize hxx : rd l ((i / 8 : Nat) : Int) = x at *
  obtain ⟨x, rfl⟩ := Int.eq_ofNat_of_zero_le hx.1
  have hand : x &&& (255 - 2 ^ (i % 8)) ≤ x := Nat.and_le_left
  rw [u8_andNot_nat x (2 ^ (i % 8)) (by omega) (by omega)]
  cases on with
  | false => simp only [Bool.false_eq_true, if_false, Int.toNat_natCast]
  | true =>
    simp only [if_true, Int.toNat_natCast]
    have hr : rd (l.set (i / 8) ((x &&& (255 - 2 ^ (i % 8)) : Nat) : Int)) ((i / 8 : Nat) : Int) = ((x &&& (255 - 2 ^ (i % 8)) : Nat) : Int) := by
      rw [rd_get _ _ (by simpa using hi)]; simp
    rw [hr, u8_or_nat _ _ (by omega) (by omega), List.set_set]

theorem set_byte (l : List Int) (hb : ∀ x ∈ l, 0 ≤ x ∧ x < 256) (i : Nat) (on : Bool) (hi : i / 8 < l.length) : ∀ x ∈ setAt l i on, 0 ≤ x ∧ x < 256 := by
  intro y hy
  unfold setAt at hy
  rcases List.mem_or_eq_of_mem_set hy with h | rfl
  · exact hb y h
  · have hx := rd_byte l hb (i / 8) hi
    have hand : (rd l ((i / 8 : Nat) : Int)).toNat &&& (255 - 2 ^ (i % 8)) ≤ (rd l ((i / 8 : Nat) : Int)).toNat := Nat.and_le_left
    have hp : 2 ^ (i % 8) ≤ 2 ^ 7 := Nat.pow_le_pow_right (by omega) (by omega)
    have hor : ((rd l ((i / 8 : Nat) : Int)).toNat &&& (255 - 2 ^ (i % 8))) ||| 2 ^ (i % 8) < 2 ^ 8 := Nat.or_lt_two_pow (by omega) (by omega)
    generalize (rd l ((i / 8 : Nat) : Int)).toNat &&& (255 - 2 ^ (i % 8)) = y at *
    generalize y ||| 2 ^ (i % 8) = z at *
    cases on with
    | false => simp only [Bool.false_eq_true, if_false]; omega
    | true => simp only [if_true]; omega

theorem rd_set (l : List Int) (j k : Nat) (v : Int) (hj : j < l.length) : rd (l.set j v) (k : Int) = if j = k then v else rd l (k : Int) := by
  unfold rd
  rw [List.getD_eq_getElem?_getD, List.getD_eq_getElem?_getD, Int.toNat_natCast, List.getElem?_set]
  by_cases h : j = k
  · subst h; simp [hj]
  · simp [h]
theorem bit_set (l : List Int) (i k : Nat) (on : Bool) (hi : i / 8 < l.length) : bitAt (setAt l i on) k = if i = k then on else bitAt l k := by
  unfold bitAt setAt
  rw [rd_set _ _ _ _ hi]
  by_cases h8 : i / 8 = k / 8
  · rw [if_pos h8, ← h8]
    generalize rd l ((i / 8 : Nat) : Int) = x
    have hm := tb_mask (i % 8) (by omega) (k % 8) (by omega)
    cases on with
    | false =>
      simp only [if_false, Bool.false_eq_true, Int.toNat_natCast, Nat.testBit_and, hm]
      by_cases h : i = k
      · subst h; simp
      · have : ¬ (k % 8 = i % 8) := by omega
        simp [h, this]
    | true =>
      simp only [if_true, Int.toNat_natCast, Nat.testBit_or, Nat.testBit_and, hm, Nat.testBit_two_pow]
      by_cases h : i = k
      · subst h; simp
      · have h1 : ¬ (k % 8 = i % 8) := by omega
        have h2 : ¬ (i % 8 = k % 8) := by omega
        simp [h, h1, h2]
  · have hne : i ≠ k := by rintro rfl; exact h8 rfl
    rw [if_neg hne, if_neg h8]
end Go.Proofs.Ytcddgokfdnjhaaa.OctB
