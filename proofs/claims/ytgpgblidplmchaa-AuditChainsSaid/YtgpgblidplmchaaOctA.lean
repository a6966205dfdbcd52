/- What octet.Put and octet.At compute, as printed: big-endian bytes. -/
import Derived.Test.YtgpgblidplmchaaSpec
import Derived.Test.YtgpgblidplmchaaPOctx
namespace Go.Proofs.Ytgpgblidplmchaa.OctA
open Go.RowKit Go.Proofs.YtgpgblidplmchaaW.PrintWords Go.Proofs.YtgpgblidplmchaaW.PrintLast Go.Proofs.YtgpgblidplmchaaW.PrintMore
open Spc POct
set_option linter.unusedVariables false
set_option linter.unusedSimpArgs false

theorem own_ok (l : List Int) (n : Nat) (h : l.length + n ≤ 140000000000000) : octet_own.f l n = some l := by
  unfold octet_own.f
  rw [w64_id (by omega) (by omega), if_pos (by omega), if_pos (by omega)]
  simp only [Option.bind_some]
  rw [if_pos (by simp; omega)]
  simp

theorem shr_byte (v i : Nat) (hi : i ≤ 8) : shr .u64 (v : Int) (IntKind.u64.wrap (8 * (IntKind.u64.wrap (i : Int)))) = ((v / 256 ^ i : Nat) : Int) := by
  rw [u64_id (n := (i : Int)) (by omega) (by omega), u64_id (by omega) (by omega)]
  unfold shr
  have h1 : ((8 * (i : Int)).toNat) = 8 * i := by omega
  have h2 : min (8 * i) IntKind.u64.bits = 8 * i := by show min (8 * i) 64 = 8 * i; omega
  rw [h1, h2, show (2 : Int) ^ (8 * i) = ((256 ^ i : Nat) : Int) from by rw [Int.pow_mul]; simp]
  simp

theorem put_loop (v : Nat) (i j : Nat) : ∀ (acc : List Int), i ≤ 8 → acc.length + i ≤ 140000000000000 →
    octet_Put.l0 (i + 1 + j) v acc ((i : Int) - 1) = some (acc ++ be i v, 0) := by
  induction i with
  | zero =>
    intro acc _ _
    rw [show 0 + 1 + j = j + 1 by omega]
    simp only [octet_Put.l0]
    rw [if_neg (by omega)]
    simp [be]
  | succ i ih =>
    intro acc hi hl
    rw [show i + 1 + 1 + j = (i + 1 + j) + 1 by omega]
    simp only [octet_Put.l0]
    rw [show ((i + 1 : Nat) : Int) - 1 = (i : Int) by omega]
    rw [if_pos (by omega), if_pos (by rw [u64_id (n := (i : Int)) (by omega) (by omega), u64_id (by omega) (by omega)]; omega), if_pos (by omega)]
    rw [shr_byte v i (by omega), w64_id (n := (i : Int) - 1) (by omega) (by omega)]
    rw [ih _ (by omega) (by simp; omega)]
    simp [be]

theorem put_ok (k : Nat) (l : List Int) (v n : Nat) (hv : v < 18446744073709551616) (hn : 1 ≤ n) (hn8 : n ≤ 8) (hl : l.length ≤ 130000000000000) (hk : 12 ≤ k) :
    octet_Put.f k l v n = if v < 256 ^ n then some (l ++ be n v, 0) else some ([], 2) := by
  obtain ⟨k, rfl⟩ : ∃ m, k = m + 1 := ⟨k - 1, by omega⟩
  unfold octet_Put.f
  rw [if_neg (by omega)]
  have hd : decide ((n : Int) > 8) = false := by simp; omega
  rw [hd]
  simp only [octet_Put.j0]
  rw [if_neg (by simp)]
  have hj : octet_Put.j1 k l v n = some (l ++ be n v, 0) := by
    obtain ⟨k, rfl⟩ : ∃ m, k = m + 1 := ⟨k - 1, by omega⟩
    simp only [octet_Put.j1]
    rw [own_ok l n (by omega)]
    simp only [Option.bind_some]
    rw [w64_id (by omega) (by omega)]
    have := put_loop v n (k - (n + 1)) l hn8 (by omega)
    rwa [show n + 1 + (k - (n + 1)) = k by omega] at this
  by_cases h8 : n < 8
  · rw [if_pos (by omega), if_pos (by rw [u64_id (n := (n : Int)) (by omega) (by omega), u64_id (by omega) (by omega)]; omega)]
    rw [shr_byte v n (by omega), hj]
    have hp : 0 < 256 ^ n := Nat.pow_pos (by omega)
    by_cases hlt : v < 256 ^ n
    · rw [if_pos hlt, if_pos (by rw [Nat.div_eq_of_lt hlt]; rfl)]
    · rw [if_neg hlt, if_neg]
      have : 0 < v / 256 ^ n := Nat.div_pos (by omega) hp
      omega
  · obtain rfl : n = 8 := by omega
    rw [if_neg (by omega), hj, if_pos (by omega)]

theorem put_arg (k : Nat) (l : List Int) (v n : Int) (hn : n < 1 ∨ 8 < n) (hk : 1 ≤ k) : octet_Put.f k l v n = some ([], 1) := by
  obtain ⟨k, rfl⟩ : ∃ m, k = m + 1 := ⟨k - 1, by omega⟩
  unfold octet_Put.f
  by_cases h : n < 1
  · rw [if_pos h]; simp [octet_Put.j0]
  · rw [if_neg h]
    have hd : decide (n > 8) = true := by simp; omega
    rw [hd]; simp [octet_Put.j0]

theorem or_byte (v c : Nat) (hc : c < 256) :
    Go.bits .or .u64 (IntKind.u64.wrap ((v : Int) * 256)) (IntKind.u64.wrap (c : Int)) = ((v * 256 % 18446744073709551616 + c : Nat) : Int) := by
  rw [IntKind.wrap_u64, IntKind.wrap_u64]
  have h1 : ((v : Int) * 256) % 18446744073709551616 = ((v * 256 % 18446744073709551616 : Nat) : Int) := by omega
  have h2 : (c : Int) % 18446744073709551616 = (c : Int) := by omega
  rw [h1, h2, u64_or_nat _ _ (by omega) (by omega)]
  congr 1
  have h3 : v * 256 % 18446744073709551616 = 2 ^ 8 * (v % 72057594037927936) := by omega
  rw [h3, ← Nat.two_pow_add_eq_or_of_lt (by omega : c < 2 ^ 8)]

theorem at_loop (ys : List Int) (hb : ∀ x ∈ ys, 0 ≤ x ∧ x < 256) (d : Nat) : ∀ (i v k : Nat), ys.length ≤ 8 → i + d = ys.length → v < 256 ^ i → d < k →
    octet_At.l0 k v ys ys.length i = some (((Spc.val v (ys.drop i) : Nat) : Int), 0) := by
  induction d with
  | zero =>
    intro i v k hl hi hv hk
    obtain ⟨k, rfl⟩ : ∃ m, k = m + 1 := ⟨k - 1, by omega⟩
    simp only [octet_At.l0]
    rw [if_neg (by omega), List.drop_of_length_le (by omega)]
    rfl
  | succ d ih =>
    intro i v k hl hi hv hk
    obtain ⟨k, rfl⟩ : ∃ m, k = m + 1 := ⟨k - 1, by omega⟩
    have hlt : i < ys.length := by omega
    simp only [octet_At.l0]
    rw [if_pos (by omega), if_pos (by omega), if_pos (by omega)]
    have hr : rd ys i = ((ys[i].toNat : Nat) : Int) := by
      have := hb ys[i] (List.getElem_mem hlt)
      unfold rd
      simp [List.getD_eq_getElem?_getD, List.getElem?_eq_getElem hlt]
      omega
    have hx := hb ys[i] (List.getElem_mem hlt)
    have h256 : (256 : Nat) ^ i ≤ 256 ^ 7 := Nat.pow_le_pow_right (by omega) (by omega)
    have h7 : (256 : Nat) ^ 7 = 72057594037927936 := by decide
    have hv2 : v * 256 % 18446744073709551616 = v * 256 := by omega
    rw [hr, or_byte v ys[i].toNat (by omega), w64_id (by omega) (by omega), hv2]
    have := ih (i + 1) (v * 256 + ys[i].toNat) k hl (by omega) (by rw [Nat.pow_succ]; omega) (by omega)
    rw [show ((i + 1 : Nat) : Int) = (i : Int) + 1 by omega] at this
    rw [this, List.drop_eq_getElem_cons hlt]
    rfl

theorem at_ok (k : Nat) (l : List Int) (i n : Nat) (hb : ∀ x ∈ l, 0 ≤ x ∧ x < 256) (hn : 1 ≤ n) (hn8 : n ≤ 8) (hl : l.length ≤ 140000000000000) (hi : i + n ≤ l.length) (hk : 12 ≤ k) :
    octet_At.f k l i n = some (((Spc.val 0 ((l.drop i).take n) : Nat) : Int), 0) := by
  obtain ⟨k, rfl⟩ : ∃ m, k = m + 1 := ⟨k - 1, by omega⟩
  unfold octet_At.f
  rw [if_neg (by omega), if_neg (by omega)]
  have hd : decide ((i : Int) < 0) = false := by simp
  rw [hd]
  simp only [octet_At.j0]
  rw [if_neg (by simp), w64_id (by omega) (by omega), if_neg (by omega), if_pos (by omega), w64_id (n := (i : Int) + n) (by omega) (by omega), if_pos (by omega), if_pos (by omega)]
  have e : ((l.take ((i : Int) + n).toNat).drop (i : Int).toNat) = (l.drop i).take n := by
    rw [show ((i : Int) + n).toNat = i + n by omega, Int.toNat_natCast, List.drop_take]
    congr 1
    omega
  rw [e]
  have hln : ((l.drop i).take n).length = n := by simp; omega
  have := at_loop ((l.drop i).take n) (fun x hx => hb x (List.mem_of_mem_drop (List.mem_of_mem_take hx))) n 0 0 k (by omega) (by omega) (by simp) (by omega)
  rw [hln] at this ⊢
  simpa using this

theorem at_arg (k : Nat) (l : List Int) (i n : Int) (hn : n < 1 ∨ 8 < n ∨ i < 0) (hk : 1 ≤ k) : octet_At.f k l i n = some (0, 1) := by
  obtain ⟨k, rfl⟩ : ∃ m, k = m + 1 := ⟨k - 1, by omega⟩
  unfold octet_At.f
  by_cases h : n < 1
  · rw [if_pos h]; simp [octet_At.j0]
  · rw [if_neg h]
    by_cases h8 : n > 8
    · rw [if_pos h8]; simp [octet_At.j0]
    · rw [if_neg h8]
      have hd : decide (i < 0) = true := by simp; omega
      rw [hd]; simp [octet_At.j0]

theorem at_short (k : Nat) (l : List Int) (i n : Int) (hn : 1 ≤ n) (hn8 : n ≤ 8) (hl : l.length ≤ 140000000000000) (hi0 : 0 ≤ i) (hi : l.length < i + n) (hk : 1 ≤ k) : octet_At.f k l i n = some (0, 3) := by
  obtain ⟨k, rfl⟩ : ∃ m, k = m + 1 := ⟨k - 1, by omega⟩
  unfold octet_At.f
  rw [if_neg (by omega), if_neg (by omega)]
  have hd : decide (i < 0) = false := by simp; omega
  rw [hd]
  simp only [octet_At.j0]
  rw [if_neg (by simp), w64_id (by omega) (by omega), if_pos (by omega)]
end Go.Proofs.Ytgpgblidplmchaa.OctA
