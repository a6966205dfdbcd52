/- Signs are laid aside and back, and numbers cut to so many bits, as the document's answer has it. No condition. -/
import Derived.Test.YtcddgokfdnjhaaaOctA
import Derived.Test.YtcddgokfdnjhaaaPOctx4
import Derived.OpenShut
import Derived.Laws.DeepNot64
import Derived.WalkSmall
namespace Go.Proofs.Ytcddgokfdnjhaaa.Pure
open Go.RowKit Go.Proofs.Ytcddgokfdnjhaaa.POct Go.Proofs.YtcddgokfdnjhaaaW.PrintWords Go.Proofs.YtcddgokfdnjhaaaW.PrintLast Go.Proofs.YtcddgokfdnjhaaaW.PrintMore
open Spc OctA

theorem xor_zero_u64 (x : Int) (h0 : 0 ≤ x) (h1 : x < 18446744073709551616) : Go.bits .xor .u64 x 0 = x := by
  have := u64_xor_nat x.toNat 0 (by omega) (by omega)
  rw [Int.toNat_of_nonneg h0] at this
  simp only [Nat.xor_zero, Int.toNat_of_nonneg h0] at this
  exact this
theorem xor_ones_u64 (x : Int) (h0 : 0 ≤ x) (h1 : x < 18446744073709551616) : Go.bits .xor .u64 x 18446744073709551615 = 18446744073709551615 - x := by
  have := u64_xor_nat x.toNat 18446744073709551615 (by omega) (by omega)
  rw [Int.toNat_of_nonneg h0] at this
  have e : x.toNat ^^^ 18446744073709551615 = 18446744073709551615 - x.toNat := by
    have hb : (BitVec.ofNat 64 x.toNat ^^^ BitVec.allOnes 64).toNat = 2 ^ 64 - 1 - x.toNat := by
      rw [BitVec.xor_allOnes, BitVec.toNat_not, BitVec.toNat_ofNat, Nat.mod_eq_of_lt (by omega)]
    rw [BitVec.toNat_xor, BitVec.toNat_ofNat, Nat.mod_eq_of_lt (by omega), BitVec.toNat_allOnes] at hb
    exact hb
  rw [e] at this
  have e2 : ((18446744073709551615 - x.toNat : Nat) : Int) = 18446744073709551615 - x := by omega
  rw [e2] at this
  exact this

/-- 0, -1, 1, -2, .. become 0, 1, 2, 3, .. -/
def zig (v : Int) : Int := if v < 0 then -2 * v - 1 else 2 * v
def zag (u : Int) : Int := if u % 2 = 1 then -(u / 2) - 1 else u / 2
theorem zig_ok (v : Int) (h0 : -9223372036854775808 ≤ v) (h1 : v ≤ 9223372036854775807) : octet_Zig.f v = some (zig v) := by
  unfold octet_Zig.f zig
  congr 1
  rw [IntKind.wrap_u64, IntKind.wrap_u64, IntKind.wrap_u64]
  by_cases h : v < 0
  · have e : (v / 9223372036854775808) % 18446744073709551616 = 18446744073709551615 := by omega
    rw [e, xor_ones_u64 _ (by omega) (by omega), if_pos h]
    omega
  · have e : (v / 9223372036854775808) % 18446744073709551616 = 0 := by omega
    rw [e, xor_zero_u64 _ (by omega) (by omega), if_neg h]
    omega
theorem ref_zig_ok (v : Int) (h0 : -9223372036854775808 ≤ v) (h1 : v ≤ 9223372036854775807) : cofferref1_Zig.f v = some (zig v) := by
  unfold cofferref1_Zig.f zig
  by_cases h : v < 0
  · rw [if_pos h, if_pos h]
    congr 1
    rw [w64_id (n := v + 1) (by omega) (by omega), w64_id (by omega) (by omega), u64_id (n := -(v + 1)) (by omega) (by omega), u64_id (n := 2 * -(v + 1)) (by omega) (by omega), u64_id (by omega) (by omega)]
    omega
  · rw [if_neg h, if_neg h]
    congr 1
    rw [u64_id (n := v) (by omega) (by omega), u64_id (by omega) (by omega)]
theorem and_one (u : Int) (h0 : 0 ≤ u) (h1 : u < 18446744073709551616) : Go.bits .and .u64 u 1 = u % 2 := by
  have := u64_and_nat u.toNat 1 (by omega) (by omega)
  rw [Int.toNat_of_nonneg h0, Nat.and_one_is_mod] at this
  have e : ((u.toNat % 2 : Nat) : Int) = u % 2 := by omega
  rw [e] at this
  exact this
theorem xor_i64_zero (x : Int) (h0 : 0 ≤ x) (h1 : x < 9223372036854775808) : Go.bits .xor .i64 x 0 = x := by
  show IntKind.i64.wrap ((BitVec.ofInt 64 x ^^^ BitVec.ofInt 64 0).toNat : Int) = _
  have hz : BitVec.ofInt 64 0 = 0#64 := by decide
  rw [hz, BitVec.xor_zero, BitVec.toNat_ofInt, IntKind.wrap_i64]
  omega
theorem xor_i64_ones (x : Int) (h0 : 0 ≤ x) (h1 : x < 9223372036854775808) : Go.bits .xor .i64 x (-1) = -1 - x := by
  have := i64_not x.toNat (by omega)
  rw [Int.toNat_of_nonneg h0] at this
  rw [← this]
  show IntKind.i64.wrap ((BitVec.ofInt 64 x ^^^ BitVec.ofInt 64 (-1)).toNat : Int) = IntKind.i64.wrap ((BitVec.ofInt 64 (-1) ^^^ BitVec.ofInt 64 x).toNat : Int)
  rw [BitVec.xor_comm]
theorem zag_ok (u : Int) (h0 : 0 ≤ u) (h1 : u ≤ 18446744073709551615) : octet_Zag.f u = some (zag u) := by
  unfold octet_Zag.f zag
  congr 1
  rw [and_one u h0 (by omega), w64_id (n := u % 2) (by omega) (by omega), w64_id (n := -(u % 2)) (by omega) (by omega), w64_id (n := u / 2) (by omega) (by omega)]
  by_cases h : u % 2 = 1
  · rw [h, if_pos rfl, xor_i64_ones _ (by omega) (by omega)]
    omega
  · have e : u % 2 = 0 := by omega
    rw [e, if_neg (by omega)]
    exact xor_i64_zero _ (by omega) (by omega)
theorem ref_zag_ok (u : Int) (h0 : 0 ≤ u) (h1 : u ≤ 18446744073709551615) : cofferref1_Zag.f u = some (zag u) := by
  unfold cofferref1_Zag.f zag
  rw [Int.tmod_eq_emod_of_nonneg h0, Int.tdiv_eq_ediv_of_nonneg h0]
  rw [u64_id (n := u / 2) (by omega) (by omega), w64_id (n := u / 2) (by omega) (by omega)]
  by_cases h : u % 2 = 1
  · rw [if_pos h, if_pos h, w64_id (n := -(u / 2)) (by omega) (by omega), w64_id (by omega) (by omega)]
  · rw [if_neg h, if_neg h]
/-- the lowest n bits, as two's complement. -/
def low (u n : Nat) : Int := if 2 ^ (n - 1) ≤ u % 2 ^ n then ((u % 2 ^ n : Nat) : Int) - ((2 ^ n : Nat) : Int) else ((u % 2 ^ n : Nat) : Int)

theorem wrap_ok (u n : Nat) (hn : 1 ≤ n) (hn64 : n ≤ 64) : octet_Wrap.f u n = some (low u n) := by
  unfold octet_Wrap.f
  rw [if_neg (by omega), if_neg (by omega), w64_id (n := 64 - (n : Int)) (by omega) (by omega), u64_id (n := 64 - (n : Int)) (by omega) (by omega), if_pos (by omega)]
  congr 1
  unfold shr shl low
  have e1 : min (64 - (n : Int)).toNat IntKind.u64.bits = 64 - n := by show min _ 64 = _; omega
  have e2 : min (64 - (n : Int)).toNat IntKind.i64.bits = 64 - n := by show min _ 64 = _; omega
  rw [e1, e2, IntKind.wrap_u64]
  have hp : 2 ^ (64 - n) * 2 ^ n = 18446744073709551616 := by rw [← Nat.pow_add, show 64 - n + n = 64 by omega]
  have hh : 2 ^ (64 - n) * 2 ^ (n - 1) = 9223372036854775808 := by rw [← Nat.pow_add, show 64 - n + (n - 1) = 63 by omega]
  have hpos : 0 < 2 ^ (64 - n) := Nat.pow_pos (by omega)
  have e3 : (u : Int) * 2 ^ (64 - n) % 18446744073709551616 = ((2 ^ (64 - n) * (u % 2 ^ n) : Nat) : Int) := by
    have h1 : (u : Int) * 2 ^ (64 - n) = ((2 ^ (64 - n) * u : Nat) : Int) := by
      rw [Nat.mul_comm]; simp
    have h2 : (18446744073709551616 : Int) = ((2 ^ (64 - n) * 2 ^ n : Nat) : Int) := by rw [hp]; rfl
    rw [h1, h2, ← Int.natCast_emod, Nat.mul_mod_mul_left]
  rw [e3]
  have e4 : (2 : Int) ^ (64 - n) = ((2 ^ (64 - n) : Nat) : Int) := by simp
  rw [e4]
  have hlt : u % 2 ^ n < 2 ^ n := Nat.mod_lt _ (Nat.pow_pos (by omega))
  generalize u % 2 ^ n = r at *
  generalize 2 ^ (64 - n) = p at *
  generalize 2 ^ n = m at *
  generalize 2 ^ (n - 1) = h at *
  by_cases c : h ≤ r
  · rw [if_pos c]
    have hge : 9223372036854775808 ≤ p * r := by rw [← hh]; exact Nat.mul_le_mul_left _ c
    have hlt2 : p * r < 18446744073709551616 := by rw [← hp]; exact Nat.mul_lt_mul_of_pos_left hlt hpos
    have e5 : wrap64 ((p * r : Nat) : Int) = (p : Int) * ((r : Int) - m) := by
      rw [Int.mul_sub]
      have : (p : Int) * m = 18446744073709551616 := by rw [← Int.natCast_mul, hp]; rfl
      rw [this, Int.natCast_mul]
      unfold wrap64
      rw [← Int.natCast_mul]
      omega
    rw [e5, Int.mul_ediv_cancel_left _ (by omega)]
  · rw [if_neg c]
    have hlt2 : p * r < 9223372036854775808 := by rw [← hh]; exact Nat.mul_lt_mul_of_pos_left (by omega) hpos
    rw [w64_id (by omega) (by omega), Int.natCast_mul, Int.mul_ediv_cancel_left _ (by omega)]

theorem ref_wrap_loop (u n : Nat) (hu : u < 18446744073709551616) (hn : 1 ≤ n) (hn64 : n ≤ 64) (d : Nat) : ∀ (i k : Nat), 1 ≤ i → i + d = n → d < k →
    cofferref1_Wrap.l0 k u n ((2 ^ (i - 1) : Nat) : Int) i = some (low u n) := by
  induction d with
  | zero =>
    intro i k h1 hi hk
    obtain ⟨k, rfl⟩ : ∃ m, k = m + 1 := ⟨k - 1, by omega⟩
    obtain rfl : i = n := by omega
    simp only [cofferref1_Wrap.l0]
    rw [if_neg (by omega)]
    unfold low
    have hm : 2 ^ i = 2 * 2 ^ (i - 1) := by rw [show i = (i - 1) + 1 by omega, Nat.pow_succ]; simp; omega
    have hmle : 2 ^ i ≤ 2 ^ 64 := Nat.pow_le_pow_right (by omega) hn64
    have hpos : 0 < 2 ^ (i - 1) := Nat.pow_pos (by omega)
    by_cases h64 : i < 64
    · rw [if_pos (by omega)]
      have hmlt : 2 ^ i ≤ 2 ^ 63 := Nat.pow_le_pow_right (by omega) (by omega)
      rw [hm] at hmlt ⊢
      generalize 2 ^ (i - 1) = h at *
      rw [u64_id (n := 2 * (h : Int)) (by omega) (by omega), if_neg (by omega), Int.tmod_eq_emod_of_nonneg (by omega)]
      have e : (u : Int) % (2 * (h : Int)) = ((u % (2 * h) : Nat) : Int) := by simp
      have hlt : u % (2 * h) < 2 * h := Nat.mod_lt _ (by omega)
      rw [e]
      generalize u % (2 * h) = r at *
      by_cases c : h ≤ r
      · rw [if_pos (by omega), if_pos c]
        congr 1
        rw [u64_id (n := (r : Int) - h) (by omega) (by omega), u64_id (n := (h : Int) - 1) (by omega) (by omega), w64_id (n := (r : Int) - h) (by omega) (by omega), w64_id (n := (h : Int) - 1) (by omega) (by omega), w64_id (n := (r : Int) - h - (h - 1)) (by omega) (by omega), w64_id (by omega) (by omega)]
        omega
      · rw [if_neg (by omega), if_neg c]
        congr 1
        rw [w64_id (by omega) (by omega)]
    · obtain rfl : i = 64 := by omega
      rw [if_neg (by omega)]
      have e : u % 2 ^ 64 = u := Nat.mod_eq_of_lt (by omega)
      rw [e]
      by_cases c : 2 ^ 63 ≤ u
      · rw [if_pos (by simp; omega), if_pos (by simpa using c)]
        congr 1
        simp only [show (64 : Nat) - 1 = 63 from rfl] at *
        rw [u64_id (n := (u : Int) - ((2 ^ 63 : Nat) : Int)) (by omega) (by omega), u64_id (n := ((2 ^ 63 : Nat) : Int) - 1) (by omega) (by omega), w64_id (n := (u : Int) - ((2 ^ 63 : Nat) : Int)) (by omega) (by omega), w64_id (n := ((2 ^ 63 : Nat) : Int) - 1) (by omega) (by omega), w64_id (n := (u : Int) - ((2 ^ 63 : Nat) : Int) - (((2 ^ 63 : Nat) : Int) - 1)) (by omega) (by omega), w64_id (by omega) (by omega)]
        omega
      · rw [if_neg (by simp; omega), if_neg (by simpa using c)]
        congr 1
        rw [w64_id (by omega) (by omega)]
  | succ d ih =>
    intro i k h1 hi hk
    obtain ⟨k, rfl⟩ : ∃ m, k = m + 1 := ⟨k - 1, by omega⟩
    simp only [cofferref1_Wrap.l0]
    rw [if_pos (by omega)]
    have hle : 2 ^ (i - 1) ≤ 2 ^ 62 := Nat.pow_le_pow_right (by omega) (by omega)
    have e1 : IntKind.u64.wrap (((2 ^ (i - 1) : Nat) : Int) * 2) = ((2 ^ (i + 1 - 1) : Nat) : Int) := by
      have : 2 ^ (i + 1 - 1) = 2 ^ (i - 1) * 2 := by rw [show i + 1 - 1 = (i - 1) + 1 by omega, Nat.pow_succ]
      rw [this, u64_id (by omega) (by omega)]
      simp
    rw [e1, w64_id (by omega) (by omega)]
    have := ih (i + 1) k (by omega) (by omega) (by omega)
    exact this

theorem ref_wrap_ok (k u n : Nat) (hu : u < 18446744073709551616) (hn : 1 ≤ n) (hn64 : n ≤ 64) (hk : 70 ≤ k) : cofferref1_Wrap.f k u n = some (low u n) := by
  obtain ⟨k, rfl⟩ : ∃ m, k = m + 1 := ⟨k - 1, by omega⟩
  unfold cofferref1_Wrap.f
  rw [if_neg (by omega)]
  have hd : decide ((n : Int) > 64) = false := by simp; omega
  rw [hd]
  simp only [cofferref1_Wrap.j0]
  rw [if_neg (by simp)]
  have := ref_wrap_loop u n hu hn hn64 (n - 1) 1 k (by omega) (by omega) (by omega)
  simpa using this

theorem OctetTurns : cofferlaw1_OctetTurns.Pure := by
  intro v u n hv hu hn
  have hv := bounds_i64 hv
  have hu := bounds_u64 hu
  refine ⟨100, ?_⟩
  unfold cofferlaw1_OctetTurns.f
  rw [begun_ok 100 (by omega)]
  simp only [Option.bind_some, if_true]
  rw [zig_ok v hv.1 hv.2, ref_zig_ok v hv.1 hv.2, zag_ok u hu.1 hu.2, ref_zag_ok u hu.1 hu.2]
  simp only [Option.bind_some, if_true]
  obtain ⟨u, rfl⟩ := Int.eq_ofNat_of_zero_le hu.1
  by_cases h : n < 1 ∨ 64 < n
  · have e1 : octet_Wrap.f u n = some 0 := by
      unfold octet_Wrap.f
      by_cases h1 : n < 1
      · rw [if_pos h1]
      · rw [if_neg h1, if_pos (by omega)]
    have e2 : cofferref1_Wrap.f 100 u n = some 0 := by
      unfold cofferref1_Wrap.f
      by_cases h1 : n < 1
      · rw [if_pos h1]; simp [cofferref1_Wrap.j0]
      · rw [if_neg h1]
        have hd : decide (n > 64) = true := by simp; omega
        rw [hd]; simp [cofferref1_Wrap.j0]
    rw [e1, e2]; simp
  · obtain ⟨n, rfl⟩ := Int.eq_ofNat_of_zero_le (show 0 ≤ n by omega)
    rw [wrap_ok u n (by omega) (by omega), ref_wrap_ok 100 u n (by omega) (by omega) (by omega) (by omega)]
    simp
end Go.Proofs.Ytcddgokfdnjhaaa.Pure
