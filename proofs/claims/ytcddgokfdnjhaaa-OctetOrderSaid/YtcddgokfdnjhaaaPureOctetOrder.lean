/- Numbers of eight bytes stand in the order of their bytes. No condition. -/
import Derived.Test.YtcddgokfdnjhaaaOctA
import Derived.OpenShut
namespace Go.Proofs.Ytcddgokfdnjhaaa.Pure
open Go.RowKit Go.Proofs.Ytcddgokfdnjhaaa.POct Go.Proofs.YtcddgokfdnjhaaaW.PrintWords Go.Proofs.YtcddgokfdnjhaaaW.PrintLast
open Spc OctA

theorem u8_ofNat_inj (a b : Nat) (ha : a < 256) (hb : b < 256) : (UInt8.ofNat a < UInt8.ofNat b ↔ a < b) ∧ ((UInt8.ofNat a == UInt8.ofNat b) = decide (a = b)) := by
  constructor
  · rw [UInt8.lt_iff_toNat_lt]; simp; omega
  · by_cases h : a = b
    · subst h; simp
    · have : UInt8.ofNat a ≠ UInt8.ofNat b := by
        intro he
        have := congrArg UInt8.toNat he
        simp at this; omega
      simp [h, this]

theorem less_be (n a b : Nat) : Op.bytesLess ((be n a).map fun x => UInt8.ofNat x.toNat) ((be n b).map fun x => UInt8.ofNat x.toNat) = decide (a % 256 ^ n < b % 256 ^ n) := by
  induction n with
  | zero => simp [be, Op.bytesLess, Nat.mod_one]
  | succ n ih =>
    simp only [be, List.map_cons, Op.bytesLess, Int.toNat_natCast]
    rw [ih]
    have hx := u8_ofNat_inj (a / 256 ^ n % 256) (b / 256 ^ n % 256) (by omega) (by omega)
    rw [hx.2]
    have ha : a % 256 ^ (n + 1) = a / 256 ^ n % 256 * 256 ^ n + a % 256 ^ n := by rw [Nat.pow_succ, Nat.mod_mul, Nat.mul_comm (256 ^ n), Nat.add_comm]
    have hb : b % 256 ^ (n + 1) = b / 256 ^ n % 256 * 256 ^ n + b % 256 ^ n := by rw [Nat.pow_succ, Nat.mod_mul, Nat.mul_comm (256 ^ n), Nat.add_comm]
    have hp : 0 < 256 ^ n := Nat.pow_pos (by omega)
    have la := Nat.mod_lt a hp
    have lb := Nat.mod_lt b hp
    rw [ha, hb]
    generalize a / 256 ^ n % 256 = p at *
    generalize b / 256 ^ n % 256 = q at *
    generalize a % 256 ^ n = r at *
    generalize b % 256 ^ n = s at *
    generalize 256 ^ n = m at *
    rw [Bool.eq_iff_iff]
    simp only [Bool.or_eq_true, Bool.and_eq_true, decide_eq_true_eq, hx.1]
    constructor
    · rintro (h | ⟨rfl, h⟩)
      · have := Nat.mul_le_mul_right m (show p + 1 ≤ q from h)
        rw [Nat.add_mul] at this
        omega
      · omega
    · intro h
      by_cases h1 : p < q
      · exact .inl h1
      · by_cases h2 : p = q
        · subst h2; exact .inr ⟨rfl, by omega⟩
        · have := Nat.mul_le_mul_right m (show q + 1 ≤ p by omega)
          rw [Nat.add_mul] at this
          omega

theorem OctetOrder : cofferlaw1_OctetOrder.Pure := by
  intro a b ha hb
  have ha := bounds_u64 ha
  have hb := bounds_u64 hb
  obtain ⟨a, rfl⟩ := Int.eq_ofNat_of_zero_le ha.1
  obtain ⟨b, rfl⟩ := Int.eq_ofNat_of_zero_le hb.1
  refine ⟨12, ?_⟩
  unfold cofferlaw1_OctetOrder.f
  have h1 : octet_Put.f 12 [] a 8 = some (be 8 a, 0) := by
    have := put_ok 12 [] a 8 (by omega) (by omega) (by omega) (by simp) (by omega)
    rw [if_pos (by omega)] at this
    exact this
  have h2 : octet_Put.f 12 [] b 8 = some (be 8 b, 0) := by
    have := put_ok 12 [] b 8 (by omega) (by omega) (by omega) (by simp) (by omega)
    rw [if_pos (by omega)] at this
    exact this
  rw [h1, h2, begun_ok 12 (by omega)]
  simp only [Option.bind_some, if_true, be_length, ByteArray.toList_eq, strOfNums_data]
  rw [less_be]
  rw [if_pos (by decide), if_pos (by decide)]
  have e1 : a % 256 ^ 8 = a := Nat.mod_eq_of_lt (by omega)
  have e2 : b % 256 ^ 8 = b := Nat.mod_eq_of_lt (by omega)
  rw [e1, e2]
  have : decide ((a : Int) < (b : Int)) = decide (a < b) := by simp
  rw [this]; simp
end Go.Proofs.Ytcddgokfdnjhaaa.Pure
