/- What octet.Count, octet.Text, octet.TakeCount compute, as printed: groups of seven bits. -/
import Derived.Test.YtgpgblidplmchaaOctA
namespace Go.Proofs.Ytgpgblidplmchaa.OctC
open Go.RowKit Go.Proofs.YtgpgblidplmchaaW.PrintWords Go.Proofs.YtgpgblidplmchaaW.PrintLast Go.Proofs.YtgpgblidplmchaaW.PrintMore
open Spc OctA POct
set_option linter.unusedVariables false
set_option linter.unusedSimpArgs false

theorem or128 (v : Nat) : Go.bits .or .u8 ((v : Int) % 256) 128 = ((v % 128 + 128 : Nat) : Int) := by
  have e : (v : Int) % 256 = ((v % 256 : Nat) : Int) := by simp
  have h := u8_or_nat (v % 256) 128 (by omega) (by omega)
  rw [e, show (128 : Int) = ((128 : Nat) : Int) from rfl, h]
  congr 1
  have hd : ∀ x : Nat, x < 256 → x ||| 128 = x % 128 + 128 := by decide +kernel
  rw [hd _ (by omega)]
  omega

theorem count_steps (n : Nat) : ∀ (v k : Nat) (acc : List Int), v < 128 ^ n → n < k → acc.length + n ≤ 140000000000000 → 0 < n →
    octet_Count.l0 k v acc = some (acc ++ leb v) := by
  induction n with
  | zero => intro v k acc _ _ _ h; omega
  | succ n ih =>
    intro v k acc hv hk hl _
    obtain ⟨k, rfl⟩ : ∃ m, k = m + 1 := ⟨k - 1, by omega⟩
    simp only [octet_Count.l0]
    by_cases h : v < 128
    · rw [if_neg (by omega), if_pos (by omega), leb_small h]
      have : (v : Int) % 256 = v := by omega
      rw [this]
    · rw [if_pos (by omega), if_pos (by omega), or128 v, leb_big h]
      have hn0 : 0 < n := by
        rcases Nat.eq_zero_or_pos n with h0 | h0
        · subst h0; simp at hv; omega
        · exact h0
      have h2 : v / 128 < 128 ^ n := by
        rw [Nat.pow_succ] at hv
        exact Nat.div_lt_of_lt_mul (by omega)
      have e : (v : Int) / 128 = ((v / 128 : Nat) : Int) := by simp
      rw [e, ih (v / 128) k _ h2 (by omega) (by simp; omega) hn0]
      simp

theorem count_ok (k : Nat) (l : List Int) (v : Nat) (hv : v < 18446744073709551616) (hl : l.length ≤ 130000000000000) (hk : 12 ≤ k) : octet_Count.f k l v = some (l ++ leb v) := by
  unfold octet_Count.f
  have ho := own_ok l 10 (by omega)
  rw [show octet_own.f l 10 = some l from ho]
  simp only [Option.bind_some]
  exact count_steps 10 v k l (by omega) (by omega) (by omega) (by omega)

theorem text_ok (k : Nat) (l s : List Int) (hs : s.length ≤ 65536) (hl : l.length ≤ 130000000000000) (hk : 12 ≤ k) : octet_Text.f k l s = some (l ++ leb s.length ++ s, 0) := by
  unfold octet_Text.f
  rw [if_neg (by omega), u64_id (by omega) (by omega), count_ok k l s.length (by omega) hl hk]
  simp only [Option.bind_some]
  have := leb_len10 (v := s.length) (by omega)
  rw [if_pos (by simp; omega)]

theorem text_long (k : Nat) (l s : List Int) (hs : 65536 < s.length) : octet_Text.f k l s = some ([], 2) := by
  unfold octet_Text.f
  rw [if_pos (by omega)]

/-- What stands at the beginning of bytes, read as a count: the number, how many bytes, the error. -/
def take : Nat → Nat → List Int → Int × Int × Int
  | _, _, [] => (0, 0, 3)
  | i, v, c :: r =>
    if (i = 9 ∧ c > 1) ∨ (c = 0 ∧ i > 0) then (0, 0, 4)
    else if c < 128 then ((v + c.toNat * 128 ^ i : Nat), (i + 1 : Nat), 0)
    else take (i + 1) (v + (c.toNat - 128) * 128 ^ i) r

theorem or_group (v c i : Nat) (hi : i ≤ 9) (hv : v < 128 ^ i) (hc : c < 256) (h9 : i = 9 → c ≤ 1) :
    Go.bits .or .u64 (v : Int) (shl .u64 (IntKind.u64.wrap (Go.bits .and .u8 (c : Int) 127)) (IntKind.u64.wrap (7 * (IntKind.u64.wrap (i : Int))))) = ((v + c % 128 * 128 ^ i : Nat) : Int) := by
  have h1 := u8_and_nat c 127 hc (by omega)
  have h2 : c &&& 127 = c % 128 := Nat.and_two_pow_sub_one_eq_mod c 7
  rw [show (127 : Int) = ((127 : Nat) : Int) from rfl, h1, h2, u64_id (n := (i : Int)) (by omega) (by omega), u64_id (n := 7 * (i : Int)) (by omega) (by omega), u64_id (by omega) (by omega)]
  unfold shl
  have e1 : min (7 * (i : Int)).toNat IntKind.u64.bits = 7 * i := by show min _ 64 = _; omega
  have e2 : ((c % 128 : Nat) : Int) * 2 ^ (7 * i) = ((c % 128 * 128 ^ i : Nat) : Int) := by
    rw [Int.pow_mul]; simp
  rw [e1, e2]
  have hlt : c % 128 * 128 ^ i < 18446744073709551616 := by
    by_cases h : i = 9
    · subst h
      have := h9 rfl
      have : c % 128 ≤ 1 := by omega
      have := Nat.mul_le_mul_right (128 ^ 9) this
      omega
    · have hp : 128 ^ i ≤ 128 ^ 8 := Nat.pow_le_pow_right (by omega) (by omega)
      have := Nat.mul_le_mul (show c % 128 ≤ 127 by omega) hp
      omega
  have hv2 : v < 18446744073709551616 := by
    have hp : 128 ^ i ≤ 128 ^ 9 := Nat.pow_le_pow_right (by omega) (by omega)
    omega
  rw [u64_id (by omega) (by omega), u64_or_nat _ _ hv2 hlt]
  congr 1
  have e3 : c % 128 * 128 ^ i = 2 ^ (7 * i) * (c % 128) := by
    rw [show (128 : Nat) ^ i = 2 ^ (7 * i) from by rw [Nat.pow_mul], Nat.mul_comm]
  have hv3 : v < 2 ^ (7 * i) := by rw [Nat.pow_mul]; exact hv
  rw [e3, Nat.add_comm, Nat.two_pow_add_eq_or_of_lt hv3, Nat.or_comm]

theorem rd_get (l : List Int) (i : Nat) (h : i < l.length) : rd l (i : Int) = l[i] := by
  unfold rd; simp [List.getD_eq_getElem?_getD, List.getElem?_eq_getElem h]

/-- A count that was written is read, whatever stands behind it. -/
theorem take_leb (w : Nat) : ∀ (i v : Nat) (r : List Int), (w * 128 ^ i < 18446744073709551616) → (i = 0 ∨ 0 < w) → take i v (leb w ++ r) = (((v + w * 128 ^ i : Nat) : Int), ((i + (leb w).length : Nat) : Int), 0) := by
  induction w using Nat.strongRecOn with
  | _ w ih =>
    intro i v r hw hi
    have hp : 0 < 128 ^ i := Nat.pow_pos (by omega)
    have h9 : i = 9 → w ≤ 1 := by
      rintro rfl
      omega
    by_cases h : w < 128
    · rw [leb_small h]
      simp only [List.singleton_append, take]
      rw [if_neg (by omega), if_pos (by omega)]
      simp
    · have hne : i ≠ 9 := fun e => by have := h9 e; omega
      rw [leb_big h]
      simp only [List.cons_append, take]
      rw [if_neg (by omega), if_neg (by omega)]
      have h3 : w / 128 * 128 ^ (i + 1) ≤ w * 128 ^ i := by
        rw [Nat.pow_succ, Nat.mul_comm (128 ^ i), ← Nat.mul_assoc]
        exact Nat.mul_le_mul_right _ (by omega)
      rw [ih (w / 128) (by omega) (i + 1) _ r (by omega) (.inr (by omega))]
      have e1 : ((w % 128 + 128 : Nat) : Int).toNat - 128 = w % 128 := by omega
      have e2 : v + w % 128 * 128 ^ i + w / 128 * 128 ^ (i + 1) = v + w * 128 ^ i := by
        have : w / 128 * 128 ^ (i + 1) = w / 128 * 128 * 128 ^ i := by rw [Nat.pow_succ, Nat.mul_comm (128 ^ i), ← Nat.mul_assoc]
        rw [this, Nat.add_assoc, ← Nat.add_mul, show w % 128 + w / 128 * 128 = w by omega]
      rw [e1, e2]
      rw [List.length_cons, show i + 1 + (leb (w / 128)).length = i + ((leb (w / 128)).length + 1) by omega]
end Go.Proofs.Ytgpgblidplmchaa.OctC
