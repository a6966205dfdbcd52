/- Plain facts on numbers and lists: big-endian bytes, groups of seven bits, words. No program in sight. -/
import Derived.Test.YtgpgblidplmchaaWMore
import Derived.Laws.BitsAllLaws
import Derived.Laws.BitsLemmas
import Derived.Laws.Bits64
import Derived.WalkArith
namespace Go.Proofs.Ytgpgblidplmchaa.Spc
open Go.RowKit Go.Proofs.YtgpgblidplmchaaW.PrintWords Go.Proofs.YtgpgblidplmchaaW.PrintLast Go.Proofs.YtgpgblidplmchaaW.PrintMore

theorem u64_id {n : Int} (h0 : 0 ≤ n) (h1 : n < 18446744073709551616) : IntKind.u64.wrap n = n := by rw [IntKind.wrap_u64]; omega
theorem w64_id {n : Int} (h0 : -9223372036854775808 ≤ n) (h1 : n < 9223372036854775808) : wrap64 n = n := by unfold wrap64; omega

/-- v in n bytes, the highest first. -/
def be : Nat → Nat → List Int
  | 0, _ => []
  | n + 1, v => ((v / 256 ^ n % 256 : Nat) : Int) :: be n v
theorem be_length (n v : Nat) : (be n v).length = n := by induction n with
  | zero => rfl
  | succ n ih => simp [be, ih]
theorem be_byte (n v : Nat) : ∀ x ∈ be n v, 0 ≤ x ∧ x < 256 := by
  induction n with
  | zero => intro x h; cases h
  | succ n ih =>
    intro x h
    rcases List.mem_cons.1 h with rfl | h
    · omega
    · exact ih x h
/-- the number that stands in bytes. -/
def val (a : Nat) : List Int → Nat
  | [] => a
  | x :: r => val (a * 256 + x.toNat) r
theorem val_app (a : Nat) (l r : List Int) : val a (l ++ r) = val (val a l) r := by
  induction l generalizing a with
  | nil => rfl
  | cons x l ih => exact ih _
theorem val_be (n v a : Nat) : val a (be n v) = a * 256 ^ n + v % 256 ^ n := by
  induction n generalizing a with
  | zero => simp [be, val, Nat.mod_one]
  | succ n ih =>
    simp only [be, val, Int.toNat_natCast]
    rw [ih]
    have h1 : v % 256 ^ (n + 1) = v / 256 ^ n % 256 * 256 ^ n + v % 256 ^ n := by
      rw [Nat.pow_succ, Nat.mod_mul, Nat.mul_comm (256 ^ n), Nat.add_comm]
    rw [h1, Nat.pow_succ, Nat.add_mul, Nat.mul_assoc, Nat.mul_comm 256, Nat.add_assoc]
theorem val_lt (l : List Int) (a : Nat) (h : ∀ x ∈ l, 0 ≤ x ∧ x < 256) : val a l < (a + 1) * 256 ^ l.length := by
  induction l generalizing a with
  | nil => simp [val]
  | cons x l ih =>
    have hx := h x (by simp)
    have := ih (a * 256 + x.toNat) (fun y hy => h y (by simp [hy]))
    simp only [val, List.length_cons]
    refine Nat.lt_of_lt_of_le this ?_
    rw [Nat.pow_succ, Nat.mul_comm (256 ^ l.length), ← Nat.mul_assoc]
    exact Nat.mul_le_mul_right _ (by omega)
theorem be_val (l : List Int) (a : Nat) (h : ∀ x ∈ l, 0 ≤ x ∧ x < 256) : be l.length (val a l) = l := by
  induction l generalizing a with
  | nil => rfl
  | cons x l ih =>
    have hx := h x (by simp)
    simp only [List.length_cons, be, val]
    rw [ih _ (fun y hy => h y (by simp [hy]))]
    congr 1
    have h1 : val (a * 256 + x.toNat) l / 256 ^ l.length = a * 256 + x.toNat := by
      have hlt := val_lt l (a * 256 + x.toNat) (fun y hy => h y (by simp [hy]))
      have hge : ∀ (l : List Int) (a : Nat), a * 256 ^ l.length ≤ val a l := by
        intro l
        induction l with
        | nil => intro a; simp [val]
        | cons y l ih =>
          intro a
          refine Nat.le_trans ?_ (ih (a * 256 + y.toNat))
          rw [List.length_cons, Nat.pow_succ, Nat.mul_comm (256 ^ l.length), ← Nat.mul_assoc]
          exact Nat.mul_le_mul_right _ (by omega)
      have hge := hge l (a * 256 + x.toNat)
      exact Nat.div_eq_of_lt_le hge hlt
    rw [h1]
    omega

/-- v in groups of seven bits, the lowest first. -/
def leb (v : Nat) : List Int := if h : v < 128 then [(v : Int)] else ((v % 128 + 128 : Nat) : Int) :: leb (v / 128)
termination_by v
decreasing_by omega
theorem leb_small {v : Nat} (h : v < 128) : leb v = [(v : Int)] := by rw [leb, dif_pos h]
theorem leb_big {v : Nat} (h : ¬ v < 128) : leb v = ((v % 128 + 128 : Nat) : Int) :: leb (v / 128) := by rw [leb, dif_neg h]
theorem leb_byte (v : Nat) : ∀ x ∈ leb v, 0 ≤ x ∧ x < 256 := by
  induction v using Nat.strongRecOn with
  | _ v ih =>
    by_cases h : v < 128
    · rw [leb_small h]; intro x hx; simp at hx; omega
    · rw [leb_big h]; intro x hx
      rcases List.mem_cons.1 hx with rfl | hx
      · omega
      · exact ih _ (by omega) x hx
theorem leb_pos (v : Nat) : 0 < (leb v).length := by
  by_cases h : v < 128
  · rw [leb_small h]; simp
  · rw [leb_big h]; simp
theorem leb_len (v n : Nat) (h : v < 128 ^ n) (hn : 0 < n) : (leb v).length ≤ n := by
  induction n generalizing v with
  | zero => omega
  | succ n ih =>
    by_cases hv : v < 128
    · rw [leb_small hv]; simp
    · rw [leb_big hv, List.length_cons]
      have h2 : v / 128 < 128 ^ n := by
        rw [Nat.pow_succ] at h
        exact Nat.div_lt_of_lt_mul (by omega)
      have hn0 : 0 < n := by
        rcases Nat.eq_zero_or_pos n with h0 | h0
        · subst h0; simp at h; omega
        · exact h0
      have := ih _ h2 hn0
      omega
theorem leb_len10 {v : Nat} (h : v < 18446744073709551616) : (leb v).length ≤ 10 := leb_len v 10 (by omega) (by omega)
/-- No count is the beginning of another one. -/
theorem leb_apart (a b : Nat) : ∀ r s : List Int, leb a ++ r = leb b ++ s → a = b := by
  induction a using Nat.strongRecOn generalizing b with
  | _ a ih =>
    intro r s h
    by_cases ha : a < 128 <;> by_cases hb : b < 128
    · rw [leb_small ha, leb_small hb] at h; simp at h; omega
    · rw [leb_small ha, leb_big hb] at h; simp at h; omega
    · rw [leb_big ha, leb_small hb] at h; simp at h; omega
    · rw [leb_big ha, leb_big hb] at h
      simp only [List.cons_append, List.cons.injEq] at h
      have := ih (a / 128) (by omega) (b / 128) r s h.2
      omega
end Go.Proofs.Ytgpgblidplmchaa.Spc
