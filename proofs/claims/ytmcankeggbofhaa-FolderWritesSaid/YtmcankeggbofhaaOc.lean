/- Plain facts on numbers and lists: big-endian bytes, groups of seven bits, words. No program in sight. What octet.Put and octet.At compute, as printed: big-endian bytes. What octet.Count, octet.Text, octet.TakeCount compute, as printed: groups of seven bits. What octet.TakeText computes, as printed: bytes behind their length. What the document's answers on octet compute, as printed. What the document's answers At and TakeCount compute, as printed. -/
import Derived.Test.YtmcankeggbofhaaWMore
import Derived.Laws.BitsAllLaws
import Derived.Laws.BitsLemmas
import Derived.Laws.Bits64
import Derived.WalkArith
import Derived.Test.YtmcankeggbofhaaPOctx
namespace Go.Proofs.Ytmcankeggbofhaa.Spc
open Go.RowKit Go.Proofs.YtmcankeggbofhaaW.PrintWords Go.Proofs.YtmcankeggbofhaaW.PrintLast Go.Proofs.YtmcankeggbofhaaW.PrintMore

theorem u64_id {n : Int} (h0 : 0 ≤ n) (h1 : n < 18446744073709551616) : IntKind.u64.wrap n = n := by rw [IntKind.wrap_u64]; omega
theorem w64_id {n : Int} (h0 : -9223372036854775808 ≤ n) (h1 : n < 9223372036854775808) : wrap64 n = n := by unfold wrap64; omega

/-- v in n bytes, the highest first. -/
def be : Nat → Nat → List Int
  | 0, _ => []
  | n + 1, v => ((v / 256 ^ n % 256 : Nat) : Int) :: be n v
theorem be_length (n v : Nat) : (be n v).length = n := by induction n with
  | zero => rfl
  | succ n ih => simp [be, ih]
theorem be_byte (n v : Nat) : ∀ x ∈ be n v, 0 ≤ x ∧ x < 256 := by
  induction n with
  | zero => intro x h; cases h
  | succ n ih =>
    intro x h
    rcases List.mem_cons.1 h with rfl | h
    · omega
    · exact ih x h
/-- the number that stands in bytes. -/
def val (a : Nat) : List Int → Nat
  | [] => a
  | x :: r => val (a * 256 + x.toNat) r
theorem val_app (a : Nat) (l r : List Int) : val a (l ++ r) = val (val a l) r := by
  induction l generalizing a with
  | nil => rfl
  | cons x l ih => exact ih _
theorem val_be (n v a : Nat) : val a (be n v) = a * 256 ^ n + v % 256 ^ n := by
  induction n generalizing a with
  | zero => simp [be, val, Nat.mod_one]
  | succ n ih =>
    simp only [be, val, Int.toNat_natCast]
    rw [ih]
    have h1 : v % 256 ^ (n + 1) = v / 256 ^ n % 256 * 256 ^ n + v % 256 ^ n := by
      rw [Nat.pow_succ, Nat.mod_mul, Nat.mul_comm (256 ^ n), Nat.add_comm]
    rw [h1, Nat.pow_succ, Nat.add_mul, Nat.mul_assoc, Nat.mul_comm 256, Nat.add_assoc]
theorem val_lt (l : List Int) (a : Nat) (h : ∀ x ∈ l, 0 ≤ x ∧ x < 256) : val a l < (a + 1) * 256 ^ l.length := by
  induction l generalizing a with
  | nil => simp [val]
  | cons x l ih =>
    have hx := h x (by simp)
    have := ih (a * 256 + x.toNat) (fun y hy => h y (by simp [hy]))
    simp only [val, List.length_cons]
    refine Nat.lt_of_lt_of_le this ?_
    rw [Nat.pow_succ, Nat.mul_comm (256 ^ l.length), ← Nat.mul_assoc]
    exact Nat.mul_le_mul_right _ (by omega)
theorem be_val (l : List Int) (a : Nat) (h : ∀ x ∈ l, 0 ≤ x ∧ x < 256) : be l.length (val a l) = l := by
  induction l generalizing a with
  | nil => rfl
  | cons x l ih =>
    have hx := h x (by simp)
    simp only [List.length_cons, be, val]
    rw [ih _ (fun y hy => h y (by simp [hy]))]
    congr 1
    have h1 : val (a * 256 + x.toNat) l / 256 ^ l.length = a * 256 + x.toNat := by
      have hlt := val_lt l (a * 256 + x.toNat) (fun y hy => h y (by simp [hy]))
      have hge : ∀ (l : List Int) (a : Nat), a * 256 ^ l.length ≤ val a l := by
        intro l
        induction l with
        | nil => intro a; simp [val]
        | cons y l ih =>
          intro a
          refine Nat.le_trans ?_ (ih (a * 256 + y.toNat))
          rw [List.length_cons, Nat.pow_succ, Nat.mul_comm (256 ^ l.length), ← Nat.mul_assoc]
          exact Nat.mul_le_mul_right _ (by omega)
      have hge := hge l (a * 256 + x.toNat)
      exact Nat.div_eq_of_lt_le hge hlt
    rw [h1]
    omega

/-- v in groups of seven bits, the lowest first. -/
def leb (v : Nat) : List Int := if h : v < 128 then [(v : Int)] else ((v % 128 + 128 : Nat) : Int) :: leb (v / 128)
termination_by v
decreasing_by omega
theorem leb_small {v : Nat} (h : v < 128) : leb v = [(v : Int)] := by rw [leb, dif_pos h]
theorem leb_big {v : Nat} (h : ¬ v < 128) : leb v = ((v % 128 + 128 : Nat) : Int) :: leb (v / 128) := by rw [leb, dif_neg h]
theorem leb_byte (v : Nat) : ∀ x ∈ leb v, 0 ≤ x ∧ x < 256 := by
  induction v using Nat.strongRecOn with
  | _ v ih =>
    by_cases h : v < 128
    · rw [leb_small h]; intro x hx; simp at hx; omega
    · rw [leb_big h]; intro x hx
      rcases List.mem_cons.1 hx with rfl | hx
      · omega
      · exact ih _ (by omega) x hx
theorem leb_pos (v : Nat) : 0 < (leb v).length := by
  by_cases h : v < 128
  · rw [leb_small h]; simp
  · rw [leb_big h]; simp
theorem leb_len (v n : Nat) (h : v < 128 ^ n) (hn : 0 < n) : (leb v).length ≤ n := by
  induction n generalizing v with
  | zero => omega
  | succ n ih =>
    by_cases hv : v < 128
    · rw [leb_small hv]; simp
    · rw [leb_big hv, List.length_cons]
      have h2 : v / 128 < 128 ^ n := by
        rw [Nat.pow_succ] at h
        exact Nat.div_lt_of_lt_mul (by omega)
      have hn0 : 0 < n := by
        rcases Nat.eq_zero_or_pos n with h0 | h0
        · subst h0; simp at h; omega
        · exact h0
      have := ih _ h2 hn0
      omega
theorem leb_len10 {v : Nat} (h : v < 18446744073709551616) : (leb v).length ≤ 10 := leb_len v 10 (by omega) (by omega)
/-- No count is the beginning of another one. -/
theorem leb_apart (a b : Nat) : ∀ r s : List Int, leb a ++ r = leb b ++ s → a = b := by
  induction a using Nat.strongRecOn generalizing b with
  | _ a ih =>
    intro r s h
    by_cases ha : a < 128 <;> by_cases hb : b < 128
    · rw [leb_small ha, leb_small hb] at h; simp at h; omega
    · rw [leb_small ha, leb_big hb] at h; simp at h; omega
    · rw [leb_big ha, leb_small hb] at h; simp at h; omega
    · rw [leb_big ha, leb_big hb] at h
      simp only [List.cons_append, List.cons.injEq] at h
      have := ih (a / 128) (by omega) (b / 128) r s h.2
      omega
end Go.Proofs.Ytmcankeggbofhaa.Spc
namespace Go.Proofs.Ytmcankeggbofhaa.OctA
open Go.RowKit Go.Proofs.YtmcankeggbofhaaW.PrintWords Go.Proofs.YtmcankeggbofhaaW.PrintLast Go.Proofs.YtmcankeggbofhaaW.PrintMore
open Spc POct
set_option linter.unusedVariables false
set_option linter.unusedSimpArgs false

theorem own_ok (l : List Int) (n : Nat) (h : l.length + n ≤ 140000000000000) : octet_own.f l n = some l := by
  unfold octet_own.f
  rw [w64_id (by omega) (by omega), if_pos (by omega), if_pos (by omega)]
  simp only [Option.bind_some]
  rw [if_pos (by simp; omega)]
  simp
end Go.Proofs.Ytmcankeggbofhaa.OctA
namespace Go.Proofs.Ytmcankeggbofhaa.OctC
open Go.RowKit Go.Proofs.YtmcankeggbofhaaW.PrintWords Go.Proofs.YtmcankeggbofhaaW.PrintLast Go.Proofs.YtmcankeggbofhaaW.PrintMore
open Spc OctA POct
set_option linter.unusedVariables false
set_option linter.unusedSimpArgs false

theorem or128 (v : Nat) : Go.bits .or .u8 ((v : Int) % 256) 128 = ((v % 128 + 128 : Nat) : Int) := by
  have e : (v : Int) % 256 = ((v % 256 : Nat) : Int) := by simp
  have h := u8_or_nat (v % 256) 128 (by omega) (by omega)
  rw [e, show (128 : Int) = ((128 : Nat) : Int) from rfl, h]
  congr 1
  have hd : ∀ x : Nat, x < 256 → x ||| 128 = x % 128 + 128 := by decide +kernel
  rw [hd _ (by omega)]
  omega

theorem count_steps (n : Nat) : ∀ (v k : Nat) (acc : List Int), v < 128 ^ n → n < k → acc.length + n ≤ 140000000000000 → 0 < n →
    octet_Count.l0 k v acc = some (acc ++ leb v) := by
  induction n with
  | zero => intro v k acc _ _ _ h; omega
  | succ n ih =>
    intro v k acc hv hk hl _
    obtain ⟨k, rfl⟩ : ∃ m, k = m + 1 := ⟨k - 1, by omega⟩
    simp only [octet_Count.l0]
    by_cases h : v < 128
    · rw [if_neg (by omega), if_pos (by omega), leb_small h]
      have : (v : Int) % 256 = v := by omega
      rw [this]
    · rw [if_pos (by omega), if_pos (by omega), or128 v, leb_big h]
      have hn0 : 0 < n := by
        rcases Nat.eq_zero_or_pos n with h0 | h0
        · subst h0; simp at hv; omega
        · exact h0
      have h2 : v / 128 < 128 ^ n := by
        rw [Nat.pow_succ] at hv
        exact Nat.div_lt_of_lt_mul (by omega)
      have e : (v : Int) / 128 = ((v / 128 : Nat) : Int) := by simp
      rw [e, ih (v / 128) k _ h2 (by omega) (by simp; omega) hn0]
      simp

theorem count_ok (k : Nat) (l : List Int) (v : Nat) (hv : v < 18446744073709551616) (hl : l.length ≤ 130000000000000) (hk : 12 ≤ k) : octet_Count.f k l v = some (l ++ leb v) := by
  unfold octet_Count.f
  have ho := own_ok l 10 (by omega)
  rw [show octet_own.f l 10 = some l from ho]
  simp only [Option.bind_some]
  exact count_steps 10 v k l (by omega) (by omega) (by omega) (by omega)

theorem text_ok (k : Nat) (l s : List Int) (hs : s.length ≤ 65536) (hl : l.length ≤ 130000000000000) (hk : 12 ≤ k) : octet_Text.f k l s = some (l ++ leb s.length ++ s, 0) := by
  unfold octet_Text.f
  rw [if_neg (by omega), u64_id (by omega) (by omega), count_ok k l s.length (by omega) hl hk]
  simp only [Option.bind_some]
  have := leb_len10 (v := s.length) (by omega)
  rw [if_pos (by simp; omega)]

theorem text_long (k : Nat) (l s : List Int) (hs : 65536 < s.length) : octet_Text.f k l s = some ([], 2) := by
  unfold octet_Text.f
  rw [if_pos (by omega)]

/-- What stands at the beginning of bytes, read as a count: the number, how many bytes, the error. -/
def take : Nat → Nat → List Int → Int × Int × Int
  | _, _, [] => (0, 0, 3)
  | i, v, c :: r =>
    if (i = 9 ∧ c > 1) ∨ (c = 0 ∧ i > 0) then (0, 0, 4)
    else if c < 128 then ((v + c.toNat * 128 ^ i : Nat), (i + 1 : Nat), 0)
    else take (i + 1) (v + (c.toNat - 128) * 128 ^ i) r

theorem or_group (v c i : Nat) (hi : i ≤ 9) (hv : v < 128 ^ i) (hc : c < 256) (h9 : i = 9 → c ≤ 1) :
    Go.bits .or .u64 (v : Int) (shl .u64 (IntKind.u64.wrap (Go.bits .and .u8 (c : Int) 127)) (IntKind.u64.wrap (7 * (IntKind.u64.wrap (i : Int))))) = ((v + c % 128 * 128 ^ i : Nat) : Int) := by
  have h1 := u8_and_nat c 127 hc (by omega)
  have h2 : c &&& 127 = c % 128 := Nat.and_two_pow_sub_one_eq_mod c 7
  rw [show (127 : Int) = ((127 : Nat) : Int) from rfl, h1, h2, u64_id (n := (i : Int)) (by omega) (by omega), u64_id (n := 7 * (i : Int)) (by omega) (by omega), u64_id (by omega) (by omega)]
  unfold shl
  have e1 : min (7 * (i : Int)).toNat IntKind.u64.bits = 7 * i := by show min _ 64 = _; omega
  have e2 : ((c % 128 : Nat) : Int) * 2 ^ (7 * i) = ((c % 128 * 128 ^ i : Nat) : Int) := by
    rw [Int.pow_mul]; simp
  rw [e1, e2]
  have hlt : c % 128 * 128 ^ i < 18446744073709551616 := by
    by_cases h : i = 9
    · subst h
      have := h9 rfl
      have : c % 128 ≤ 1 := by omega
      have := Nat.mul_le_mul_right (128 ^ 9) this
      omega
    · have hp : 128 ^ i ≤ 128 ^ 8 := Nat.pow_le_pow_right (by omega) (by omega)
      have := Nat.mul_le_mul (show c % 128 ≤ 127 by omega) hp
      omega
  have hv2 : v < 18446744073709551616 := by
    have hp : 128 ^ i ≤ 128 ^ 9 := Nat.pow_le_pow_right (by omega) (by omega)
    omega
  rw [u64_id (by omega) (by omega), u64_or_nat _ _ hv2 hlt]
  congr 1
  have e3 : c % 128 * 128 ^ i = 2 ^ (7 * i) * (c % 128) := by
    rw [show (128 : Nat) ^ i = 2 ^ (7 * i) from by rw [Nat.pow_mul], Nat.mul_comm]
  have hv3 : v < 2 ^ (7 * i) := by rw [Nat.pow_mul]; exact hv
  rw [e3, Nat.add_comm, Nat.two_pow_add_eq_or_of_lt hv3, Nat.or_comm]

theorem rd_get (l : List Int) (i : Nat) (h : i < l.length) : rd l (i : Int) = l[i] := by
  unfold rd; simp [List.getD_eq_getElem?_getD, List.getElem?_eq_getElem h]

theorem take_loop (l : List Int) (hb : ∀ x ∈ l, 0 ≤ x ∧ x < 256) (hl : l.length ≤ 140000000000000) (d : Nat) : ∀ (i v k : Nat), i ≤ 9 ∨ l.length ≤ i → i ≤ l.length → d = min (l.length - i) (10 - i) → v < 128 ^ i → 3 * d < k →
    octet_TakeCount.l0 k v l l.length i = some (take i v (l.drop i)) := by
  induction d with
  | zero =>
    intro i v k hi hil hd hv hk
    obtain ⟨k, rfl⟩ : ∃ m, k = m + 1 := ⟨k - 1, by omega⟩
    simp only [octet_TakeCount.l0]
    rw [if_neg (by omega), List.drop_of_length_le (by omega)]
    rfl
  | succ d ih =>
    intro i v k hi hil hd hv hk
    obtain ⟨k, rfl⟩ : ∃ m, k = m + 3 := ⟨k - 3, by omega⟩
    have hlt : i < l.length := by omega
    have hc := hb l[i] (List.getElem_mem hlt)
    simp only [octet_TakeCount.l0]
    rw [if_pos (by omega), if_pos (by omega), if_pos (by omega), rd_get l i hlt, List.drop_eq_getElem_cons hlt]
    generalize hcc : l[i] = c at *
    obtain ⟨c, rfl⟩ := Int.eq_ofNat_of_zero_le hc.1
    simp only [take]
    have hbad : ∀ b : Bool, b = decide (i = 9 ∧ (c : Int) > 1) → octet_TakeCount.j1 (k + 2) v i c l l.length i b =
        some (if (i = 9 ∧ (c : Int) > 1) ∨ ((c : Int) = 0 ∧ i > 0) then (0, 0, 4)
          else if (c : Int) < 128 then (((v + (c : Int).toNat * 128 ^ i : Nat) : Int), ((i + 1 : Nat) : Int), 0)
          else take (i + 1) (v + ((c : Int).toNat - 128) * 128 ^ i) (l.drop (i + 1))) := by
      intro b hb'
      have hj2 : ∀ b2 : Bool, b2 = decide ((i = 9 ∧ (c : Int) > 1) ∨ ((c : Int) = 0 ∧ i > 0)) → octet_TakeCount.j2 (k + 1) v i c l l.length i b2 =
        some (if (i = 9 ∧ (c : Int) > 1) ∨ ((c : Int) = 0 ∧ i > 0) then (0, 0, 4)
          else if (c : Int) < 128 then (((v + (c : Int).toNat * 128 ^ i : Nat) : Int), ((i + 1 : Nat) : Int), 0)
          else take (i + 1) (v + ((c : Int).toNat - 128) * 128 ^ i) (l.drop (i + 1))) := by
        intro b2 hb2
        simp only [octet_TakeCount.j2]
        by_cases hB : (i = 9 ∧ (c : Int) > 1) ∨ ((c : Int) = 0 ∧ i > 0)
        · rw [decide_eq_true hB] at hb2
          subst hb2
          rw [if_pos rfl, if_pos hB]
        · rw [decide_eq_false hB] at hb2
          subst hb2
          rw [if_neg (by simp), if_neg hB]
          have h9 : i = 9 → c ≤ 1 := fun h => by
            by_cases hc1 : (c : Int) > 1
            · exact absurd (.inl ⟨h, hc1⟩) hB
            · omega
          rw [or_group v c i (by omega) hv (by omega) h9, w64_id (by omega) (by omega)]
          rw [if_pos (by rw [u64_id (n := (i : Int)) (by omega) (by omega), u64_id (by omega) (by omega)]; omega)]
          by_cases h128 : (c : Int) < 128
          · rw [if_pos h128, if_pos h128]
            have : c % 128 = c := by omega
            rw [this]
            simp
          · rw [if_neg h128, if_neg h128]
            have hm : c % 128 = (c : Int).toNat - 128 := by omega
            rw [hm]
            have hi8 : i ≤ 8 := by
              have := h9
              omega
            have := ih (i + 1) (v + ((c : Int).toNat - 128) * 128 ^ i) k (by omega) (by omega) (by omega) (by
              rw [Nat.pow_succ]
              have : ((c : Int).toNat - 128) * 128 ^ i ≤ 127 * 128 ^ i := Nat.mul_le_mul_right _ (by omega)
              omega) (by omega)
            exact this
      simp only [octet_TakeCount.j1]
      by_cases h1 : (i = 9 ∧ (c : Int) > 1)
      · rw [decide_eq_true h1] at hb'
        subst hb'
        rw [if_pos rfl]
        exact hj2 true (decide_eq_true (.inl h1)).symm
      · rw [decide_eq_false h1] at hb'
        subst hb'
        rw [if_neg (by simp)]
        by_cases h0 : (c : Int) = 0
        · rw [if_pos h0]
          exact hj2 _ (by simp [h0])
        · rw [if_neg h0]
          exact hj2 _ (by simp [h1]; omega)
    by_cases h9 : (i : Int) = 9
    · rw [if_pos h9]
      obtain rfl : i = 9 := by omega
      exact hbad (decide ((c : Int) > 1)) (by simp)
    · rw [if_neg h9]
      have h9' : i ≠ 9 := by omega
      exact hbad false (by simp [h9'])

theorem takeCount_ok (k : Nat) (l : List Int) (hb : ∀ x ∈ l, 0 ≤ x ∧ x < 256) (hl : l.length ≤ 140000000000000) (hk : 40 ≤ k) : octet_TakeCount.f k l = some (take 0 0 l) := by
  unfold octet_TakeCount.f
  have := take_loop l hb hl _ 0 0 k (by omega) (by omega) rfl (by simp) (by omega)
  simpa using this

/-- A count that was written is read, whatever stands behind it. -/
theorem take_leb (w : Nat) : ∀ (i v : Nat) (r : List Int), (w * 128 ^ i < 18446744073709551616) → (i = 0 ∨ 0 < w) → take i v (leb w ++ r) = (((v + w * 128 ^ i : Nat) : Int), ((i + (leb w).length : Nat) : Int), 0) := by
  induction w using Nat.strongRecOn with
  | _ w ih =>
    intro i v r hw hi
    have hp : 0 < 128 ^ i := Nat.pow_pos (by omega)
    have h9 : i = 9 → w ≤ 1 := by
      rintro rfl
      omega
    by_cases h : w < 128
    · rw [leb_small h]
      simp only [List.singleton_append, take]
      rw [if_neg (by omega), if_pos (by omega)]
      simp
    · have hne : i ≠ 9 := fun e => by have := h9 e; omega
      rw [leb_big h]
      simp only [List.cons_append, take]
      rw [if_neg (by omega), if_neg (by omega)]
      have h3 : w / 128 * 128 ^ (i + 1) ≤ w * 128 ^ i := by
        rw [Nat.pow_succ, Nat.mul_comm (128 ^ i), ← Nat.mul_assoc]
        exact Nat.mul_le_mul_right _ (by omega)
      rw [ih (w / 128) (by omega) (i + 1) _ r (by omega) (.inr (by omega))]
      have e1 : ((w % 128 + 128 : Nat) : Int).toNat - 128 = w % 128 := by omega
      have e2 : v + w % 128 * 128 ^ i + w / 128 * 128 ^ (i + 1) = v + w * 128 ^ i := by
        have : w / 128 * 128 ^ (i + 1) = w / 128 * 128 * 128 ^ i := by rw [Nat.pow_succ, Nat.mul_comm (128 ^ i), ← Nat.mul_assoc]
        rw [this, Nat.add_assoc, ← Nat.add_mul, show w % 128 + w / 128 * 128 = w by omega]
      rw [e1, e2]
      rw [List.length_cons, show i + 1 + (leb (w / 128)).length = i + ((leb (w / 128)).length + 1) by omega]
end Go.Proofs.Ytmcankeggbofhaa.OctC
namespace Go.Proofs.Ytmcankeggbofhaa.OctD
open Go.RowKit Go.Proofs.YtmcankeggbofhaaW.PrintWords Go.Proofs.YtmcankeggbofhaaW.PrintLast Go.Proofs.YtmcankeggbofhaaW.PrintMore
open Spc OctA OctC POct
set_option linter.unusedVariables false
set_option linter.unusedSimpArgs false

theorem take_bounds (r : List Int) (hb : ∀ x ∈ r, 0 ≤ x ∧ x < 256) : ∀ (i v : Nat), i ≤ 9 → v < 128 ^ i →
    ((take i v r).2.2 = 0 → ∃ n a : Nat, take i v r = ((n : Int), (a : Int), 0) ∧ n < 18446744073709551616 ∧ i + 1 ≤ a ∧ a ≤ i + r.length ∧ a ≤ 10) ∧
    ((take i v r).2.2 ≠ 0 → take i v r = (0, 0, (take i v r).2.2) ∧ ((take i v r).2.2 = 3 ∨ (take i v r).2.2 = 4)) := by
  induction r with
  | nil => intro i v _ _; simp [take]
  | cons c r ih =>
    intro i v hi hv
    have hc := hb c (by simp)
    simp only [take]
    by_cases hB : (i = 9 ∧ c > 1) ∨ (c = 0 ∧ i > 0)
    · rw [if_pos hB]; simp
    · rw [if_neg hB]
      have hp9 : 128 ^ i ≤ 128 ^ 9 := Nat.pow_le_pow_right (by omega) hi
      by_cases h128 : c < 128
      · rw [if_pos h128]
        refine ⟨fun _ => ⟨_, _, rfl, ?_, by omega, by simp, by omega⟩, fun h => absurd rfl h⟩
        by_cases h9 : i = 9
        · subst h9
          have : c.toNat ≤ 1 := by
            by_cases h1 : c > 1
            · exact absurd (.inl ⟨rfl, h1⟩) hB
            · omega
          have := Nat.mul_le_mul_right (128 ^ 9) this
          omega
        · have hp8 : 128 ^ i ≤ 128 ^ 8 := Nat.pow_le_pow_right (by omega) (by omega)
          have := Nat.mul_le_mul (show c.toNat ≤ 127 by omega) hp8
          omega
      · rw [if_neg h128]
        have hi8 : i ≤ 8 := by
          by_cases h9 : i = 9
          · exact absurd (.inl ⟨h9, by omega⟩) hB
          · omega
        have hv2 : v + (c.toNat - 128) * 128 ^ i < 128 ^ (i + 1) := by
          rw [Nat.pow_succ]
          have : (c.toNat - 128) * 128 ^ i ≤ 127 * 128 ^ i := Nat.mul_le_mul_right _ (by omega)
          omega
        have := ih (fun x hx => hb x (by simp [hx])) (i + 1) _ (by omega) hv2
        refine ⟨fun h => ?_, this.2⟩
        obtain ⟨n, a, e, h1, h2, h3, h4⟩ := this.1 h
        exact ⟨n, a, e, h1, by omega, by simp; omega, h4⟩

def takeT (l : List Int) : List Int × Int × Int :=
  if (take 0 0 l).2.2 = 0 then (if (take 0 0 l).1 > 65536 then ([], 0, 2) else if (l.length : Int) - (take 0 0 l).2.1 < (take 0 0 l).1 then ([], 0, 3)
    else ((l.drop (take 0 0 l).2.1.toNat).take (take 0 0 l).1.toNat, (take 0 0 l).2.1 + (take 0 0 l).1, 0)) else ([], 0, (take 0 0 l).2.2)

theorem takeText_ok (k : Nat) (l : List Int) (hb : ∀ x ∈ l, 0 ≤ x ∧ x < 256) (hl : l.length ≤ 130000000000000) (hk : 40 ≤ k) : octet_TakeText.f k l = some (takeT l) := by
  unfold octet_TakeText.f takeT
  rw [takeCount_ok k l hb (by omega) hk]
  simp only [Option.bind_some]
  have hbd := take_bounds l hb 0 0 (by omega) (by simp)
  by_cases h0 : (take 0 0 l).2.2 = 0
  · obtain ⟨n, a, e, hn, ha1, ha2, _⟩ := hbd.1 h0
    rw [if_pos h0, if_pos h0, e]
    simp only
    by_cases h1 : (n : Int) > 65536
    · rw [if_pos h1, if_pos h1]
    · rw [if_neg h1, if_neg h1, w64_id (n := (l.length : Int) - a) (by omega) (by omega), u64_id (by omega) (by omega)]
      by_cases h2 : (l.length : Int) - a < n
      · rw [if_pos h2, if_pos h2]
      · rw [if_neg h2, if_neg h2, if_pos (by omega), w64_id (n := (n : Int)) (by omega) (by omega), w64_id (by omega) (by omega), if_pos (by omega), if_pos (by omega)]
        have e1 : (l.take ((a : Int) + n).toNat).drop ((a : Int)).toNat = (l.drop a).take n := by
          rw [show ((a : Int) + n).toNat = a + n by omega, Int.toNat_natCast, List.drop_take]
          congr 1
          omega
        rw [e1]
        have ho := own_ok ((l.drop a).take n) 0 (by simp; omega)
        rw [show octet_own.f ((l.drop a).take n) 0 = some ((l.drop a).take n) from ho]
        simp
  · rw [if_neg h0, if_neg h0]

theorem takeT_text (s r : List Int) (hs : s.length ≤ 65536) : takeT (leb s.length ++ s ++ r) = (s, (((leb s.length).length + s.length : Nat) : Int), 0) := by
  unfold takeT
  have e : take 0 0 (leb s.length ++ s ++ r) = ((s.length : Int), ((leb s.length).length : Int), 0) := by
    have := take_leb s.length 0 0 (s ++ r) (by simp; omega) (.inl rfl)
    rw [List.append_assoc]
    simpa using this
  rw [e]
  simp only [if_true]
  rw [if_neg (by omega), if_neg (by simp; omega)]
  simp
end Go.Proofs.Ytmcankeggbofhaa.OctD
namespace Go.Proofs.Ytmcankeggbofhaa.RefA
open Go.RowKit Go.Proofs.YtmcankeggbofhaaW.PrintWords Go.Proofs.YtmcankeggbofhaaW.PrintLast Go.Proofs.YtmcankeggbofhaaW.PrintMore
open Spc POct
set_option linter.unusedVariables false
set_option linter.unusedSimpArgs false

theorem tdiv_nat (v n : Nat) : Int.tdiv (v : Int) (n : Int) = ((v / n : Nat) : Int) := by rw [Int.tdiv_eq_ediv_of_nonneg (by omega)]; simp

theorem tmod_nat (v n : Nat) : Int.tmod (v : Int) (n : Int) = ((v % n : Nat) : Int) := by rw [Int.tmod_eq_emod_of_nonneg (by omega)]; simp

theorem ref_count_steps (n : Nat) : ∀ (v k : Nat) (acc : List Int), v < 128 ^ n → v < 18446744073709551616 → n < k → acc.length + n ≤ 140000000000000 → 0 < n →
    cofferref1_Count.l0 k v acc = some (acc ++ leb v) := by
  induction n with
  | zero => intro v k acc _ _ _ _ h; omega
  | succ n ih =>
    intro v k acc hv hv64 hk hl _
    obtain ⟨k, rfl⟩ : ∃ m, k = m + 1 := ⟨k - 1, by omega⟩
    simp only [cofferref1_Count.l0]
    by_cases h : v < 128
    · rw [if_neg (by omega), if_pos (by omega), leb_small h]
      have : (v : Int) % 256 = v := by omega
      rw [this]
    · rw [if_pos (by omega), if_pos (by omega), leb_big h]
      have hn0 : 0 < n := by
        rcases Nat.eq_zero_or_pos n with h0 | h0
        · subst h0; simp at hv; omega
        · exact h0
      have h2 : v / 128 < 128 ^ n := by
        rw [Nat.pow_succ] at hv
        exact Nat.div_lt_of_lt_mul (by omega)
      have e1 : IntKind.u64.wrap (Int.tdiv (v : Int) 128) = ((v / 128 : Nat) : Int) := by
        rw [show (128 : Int) = ((128 : Nat) : Int) from rfl, tdiv_nat]; exact u64_id (by omega) (by omega)
      have e2 : IntKind.u64.wrap (Int.tmod (v : Int) 128 + 128) % 256 = ((v % 128 + 128 : Nat) : Int) := by
        rw [show Int.tmod (v : Int) 128 = ((v % 128 : Nat) : Int) from tmod_nat v 128, u64_id (by omega) (by omega)]; omega
      rw [e1, e2, ih (v / 128) k _ h2 (by omega) (by omega) (by simp; omega) hn0]
      simp

theorem ref_count_ok (k : Nat) (l : List Int) (v : Nat) (hv : v < 18446744073709551616) (hl : l.length ≤ 130000000000000) (hk : 12 ≤ k) : cofferref1_Count.f k l v = some (l ++ leb v) := by
  unfold cofferref1_Count.f
  simp only [Option.bind_some]
  rw [if_pos (by simp; omega), List.nil_append]
  exact ref_count_steps 10 v k l (by omega) hv (by omega) (by omega) (by omega)

theorem ref_text_ok (k : Nat) (l s : List Int) (hs : s.length ≤ 65536) (hl : l.length ≤ 130000000000000) (hk : 12 ≤ k) : cofferref1_Text.f k l s = some (l ++ leb s.length ++ s, 0) := by
  unfold cofferref1_Text.f
  rw [if_neg (by omega), u64_id (by omega) (by omega), ref_count_ok k l s.length (by omega) hl hk]
  simp only [Option.bind_some]
  have := leb_len10 (v := s.length) (by omega)
  rw [if_pos (by simp; omega)]

theorem ref_text_long (k : Nat) (l s : List Int) (hs : 65536 < s.length) : cofferref1_Text.f k l s = some ([], 2) := by
  unfold cofferref1_Text.f
  rw [if_pos (by omega)]
end Go.Proofs.Ytmcankeggbofhaa.RefA
namespace Go.Proofs.Ytmcankeggbofhaa.RefB
open Go.RowKit Go.Proofs.YtmcankeggbofhaaW.PrintWords Go.Proofs.YtmcankeggbofhaaW.PrintLast Go.Proofs.YtmcankeggbofhaaW.PrintMore
open Spc POct RefA OctC OctD
set_option linter.unusedVariables false
set_option linter.unusedSimpArgs false

theorem ref_take_loop (l : List Int) (hb : ∀ x ∈ l, 0 ≤ x ∧ x < 256) (hl : l.length ≤ 140000000000000) (d : Nat) : ∀ (i v k : Nat), i ≤ 9 ∨ l.length ≤ i → i ≤ l.length → d = min (l.length - i) (10 - i) → v < 128 ^ i → 3 * d < k →
    cofferref1_TakeCount.l0 k l v (if i ≤ 9 then ((128 ^ i : Nat) : Int) else 0) i = some (OctC.take i v (l.drop i)) := by
  induction d with
  | zero =>
    intro i v k hi hil hd hv hk
    obtain ⟨k, rfl⟩ : ∃ m, k = m + 1 := ⟨k - 1, by omega⟩
    simp only [cofferref1_TakeCount.l0]
    rw [if_neg (by omega), List.drop_of_length_le (by omega)]
    rfl
  | succ d ih =>
    intro i v k hi hil hd hv hk
    obtain ⟨k, rfl⟩ : ∃ m, k = m + 3 := ⟨k - 3, by omega⟩
    have hlt : i < l.length := by omega
    have hi9 : i ≤ 9 := by omega
    have hc := hb l[i] (List.getElem_mem hlt)
    simp only [cofferref1_TakeCount.l0]
    rw [if_pos hi9, if_pos (by omega), if_pos (by omega), OctC.rd_get l i hlt, List.drop_eq_getElem_cons hlt]
    generalize hcc : l[i] = c at *
    obtain ⟨c, rfl⟩ := Int.eq_ofNat_of_zero_le hc.1
    rw [u64_id (n := (c : Int)) (by omega) (by omega)]
    simp only [OctC.take]
    have hp9 : 128 ^ i ≤ 128 ^ 9 := Nat.pow_le_pow_right (by omega) hi9
    have hbad : ∀ b : Bool, b = decide (i = 9 ∧ (c : Int) > 1) → cofferref1_TakeCount.j1 (k + 2) l v ((128 ^ i : Nat) : Int) i c b =
        some (if (i = 9 ∧ (c : Int) > 1) ∨ ((c : Int) = 0 ∧ i > 0) then (0, 0, 4)
          else if (c : Int) < 128 then (((v + (c : Int).toNat * 128 ^ i : Nat) : Int), ((i + 1 : Nat) : Int), 0)
          else OctC.take (i + 1) (v + ((c : Int).toNat - 128) * 128 ^ i) (l.drop (i + 1))) := by
      intro b hb'
      simp only [cofferref1_TakeCount.j1]
      by_cases h1 : (i = 9 ∧ (c : Int) > 1)
      · rw [decide_eq_true h1] at hb'
        subst hb'
        rw [if_pos rfl, if_pos (.inl h1)]
      · rw [decide_eq_false h1] at hb'
        subst hb'
        rw [if_neg (by simp)]
        have h9 : i = 9 → c ≤ 1 := fun h => by
          by_cases hc1 : (c : Int) > 1
          · exact absurd ⟨h, hc1⟩ h1
          · omega
        have hprod : (c : Int) < 128 → (c * 128 ^ i < 18446744073709551616 - v) := fun h128 => by
          by_cases h : i = 9
          · subst h
            have := h9 rfl
            have := Nat.mul_le_mul_right (128 ^ 9) this
            omega
          · have hp : 128 ^ i ≤ 128 ^ 8 := Nat.pow_le_pow_right (by omega) (by omega)
            have := Nat.mul_le_mul (show c ≤ 127 by omega) hp
            omega
        have hval : (c : Int) < 128 → some (IntKind.u64.wrap ((v : Int) + IntKind.u64.wrap ((c : Int) * ((128 ^ i : Nat) : Int))), wrap64 ((i : Int) + 1), (0 : Int)) = some (((v + (c : Int).toNat * 128 ^ i : Nat) : Int), ((i + 1 : Nat) : Int), 0) := fun h128 => by
          have := hprod h128
          rw [← Int.natCast_mul, u64_id (n := ((c * 128 ^ i : Nat) : Int)) (by omega) (by omega), u64_id (by omega) (by omega), w64_id (by omega) (by omega), Int.toNat_natCast]
          rfl
        by_cases h128 : (c : Int) < 128
        · rw [if_pos h128]
          by_cases h0 : (c : Int) = 0
          · rw [if_pos h0]
            by_cases hi0 : (i : Int) > 0
            · rw [if_pos hi0, if_pos (.inr ⟨h0, by omega⟩)]
            · rw [if_neg hi0, if_neg (by omega), if_pos h128]
              exact hval h128
          · rw [if_neg h0, if_neg (by omega), if_pos h128]
            exact hval h128
        · rw [if_neg h128, if_neg (by omega), if_neg h128]
          have hi8 : i ≤ 8 := by
            have := h9
            omega
          have hp8 : 128 ^ i ≤ 128 ^ 8 := Nat.pow_le_pow_right (by omega) hi8
          have hm : (c - 128) * 128 ^ i ≤ 127 * 128 ^ i := Nat.mul_le_mul_right _ (by omega)
          have e1 : IntKind.u64.wrap ((v : Int) + IntKind.u64.wrap (IntKind.u64.wrap ((c : Int) - 128) * ((128 ^ i : Nat) : Int))) = ((v + ((c : Int).toNat - 128) * 128 ^ i : Nat) : Int) := by
            rw [u64_id (n := (c : Int) - 128) (by omega) (by omega), show (c : Int) - 128 = ((c - 128 : Nat) : Int) by omega, ← Int.natCast_mul, u64_id (n := (((c - 128) * 128 ^ i : Nat) : Int)) (by omega) (by omega), u64_id (by omega) (by omega), Int.toNat_natCast]
            rfl
          have e2 : IntKind.u64.wrap (((128 ^ i : Nat) : Int) * 128) = (if i + 1 ≤ 9 then ((128 ^ (i + 1) : Nat) : Int) else 0) := by
            rw [if_pos (by omega), Nat.pow_succ, u64_id (by omega) (by omega)]
            rfl
          rw [e1, e2, w64_id (by omega) (by omega)]
          have hm' : ((c : Int).toNat - 128) * 128 ^ i ≤ 127 * 128 ^ i := by rw [Int.toNat_natCast]; exact hm
          have := ih (i + 1) (v + ((c : Int).toNat - 128) * 128 ^ i) (k + 1) (by omega) (by omega) (by omega) (by
            rw [Nat.pow_succ]
            omega) (by omega)
          exact this
    by_cases h9 : (i : Int) = 9
    · rw [if_pos h9]
      obtain rfl : i = 9 := by omega
      exact hbad (decide ((c : Int) > 1)) (by simp)
    · rw [if_neg h9]
      have h9' : i ≠ 9 := by omega
      exact hbad false (by simp [h9'])

theorem ref_takeCount_ok (k : Nat) (l : List Int) (hb : ∀ x ∈ l, 0 ≤ x ∧ x < 256) (hl : l.length ≤ 140000000000000) (hk : 40 ≤ k) : cofferref1_TakeCount.f k l = some (OctC.take 0 0 l) := by
  unfold cofferref1_TakeCount.f
  have := ref_take_loop l hb hl _ 0 0 k (by omega) (by omega) rfl (by simp) (by omega)
  simpa using this

theorem ref_takeText_ok (k : Nat) (l : List Int) (hb : ∀ x ∈ l, 0 ≤ x ∧ x < 256) (hl : l.length ≤ 130000000000000) (hk : 40 ≤ k) : cofferref1_TakeText.f k l = some (OctD.takeT l) := by
  unfold cofferref1_TakeText.f OctD.takeT
  rw [ref_takeCount_ok k l hb (by omega) hk]
  simp only [Option.bind_some]
  have hbd := take_bounds l hb 0 0 (by omega) (by simp)
  by_cases h0 : (OctC.take 0 0 l).2.2 = 0
  · obtain ⟨n, a, e, hn, ha1, ha2, _⟩ := hbd.1 h0
    rw [if_pos h0, if_pos h0, e]
    simp only
    by_cases h1 : (n : Int) > 65536
    · rw [if_pos h1, if_pos h1]
    · rw [if_neg h1, if_neg h1, w64_id (n := (l.length : Int) - a) (by omega) (by omega), w64_id (n := (n : Int)) (by omega) (by omega)]
      by_cases h2 : (l.length : Int) - a < n
      · rw [if_pos (by omega), if_pos h2]
      · rw [if_neg (by omega), if_neg h2, if_pos (by omega), w64_id (by omega) (by omega), if_pos (by omega), if_pos (by omega)]
        have e1 : (l.take ((a : Int) + n).toNat).drop ((a : Int)).toNat = (l.drop a).take n := by
          rw [show ((a : Int) + n).toNat = a + n by omega, Int.toNat_natCast, List.drop_take]
          congr 1
          omega
        rw [e1, if_pos (by simp; omega)]
        simp
  · rw [if_neg h0, if_neg h0]
end Go.Proofs.Ytmcankeggbofhaa.RefB
