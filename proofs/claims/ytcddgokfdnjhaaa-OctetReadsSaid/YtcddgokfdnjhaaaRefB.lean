/- What the document's answers At, TakeCount and TakeText compute, as printed: the same as octet's. -/
import Derived.Test.YtcddgokfdnjhaaaRefA
import Derived.Test.YtcddgokfdnjhaaaOctD
import Derived.Test.YtcddgokfdnjhaaaPRefx2
import Derived.Test.YtcddgokfdnjhaaaPRefx3
namespace Go.Proofs.Ytcddgokfdnjhaaa.RefB
open Go.RowKit Go.Proofs.YtcddgokfdnjhaaaW.PrintWords Go.Proofs.YtcddgokfdnjhaaaW.PrintLast Go.Proofs.YtcddgokfdnjhaaaW.PrintMore
open Spc PRef RefA OctC OctD

theorem ref_at_loop (l : List Int) (hb : ∀ x ∈ l, 0 ≤ x ∧ x < 256) (hl : l.length ≤ 140000000000000) (at_ n : Nat) (hn : n ≤ 8) (hin : at_ + n ≤ l.length) (d : Nat) : ∀ (i v k : Nat), i + d = n → v < 256 ^ i → d < k →
    cofferref1_At.l0 k l at_ n v i = some (((Spc.val v (((l.drop at_).take n).drop i) : Nat) : Int), 0) := by
  induction d with
  | zero =>
    intro i v k hi hv hk
    obtain ⟨k, rfl⟩ : ∃ m, k = m + 1 := ⟨k - 1, by omega⟩
    simp only [cofferref1_At.l0]
    rw [if_neg (by omega), List.drop_of_length_le (by simp; omega)]
    rfl
  | succ d ih =>
    intro i v k hi hv hk
    obtain ⟨k, rfl⟩ : ∃ m, k = m + 1 := ⟨k - 1, by omega⟩
    simp only [cofferref1_At.l0]
    rw [if_pos (by omega), w64_id (n := (at_ : Int) + i) (by omega) (by omega), if_pos (by omega), if_pos (by omega)]
    have hlt : at_ + i < l.length := by omega
    have hr : rd l ((at_ : Int) + i) = l[at_ + i] := by
      rw [show (at_ : Int) + i = ((at_ + i : Nat) : Int) by omega]
      exact OctC.rd_get l (at_ + i) hlt
    have hx := hb l[at_ + i] (List.getElem_mem hlt)
    have hg : ((l.drop at_).take n)[i]'(by simp; omega) = l[at_ + i] := by simp
    rw [hr, List.drop_eq_getElem_cons (by simp; omega), hg]
    generalize l[at_ + i] = x at *
    have h256 : (256 : Nat) ^ i ≤ 256 ^ 7 := Nat.pow_le_pow_right (by omega) (by omega)
    have h7 : (256 : Nat) ^ 7 = 72057594037927936 := by decide
    have e : IntKind.u64.wrap (IntKind.u64.wrap ((v : Int) * 256) + IntKind.u64.wrap x) = ((v * 256 + x.toNat : Nat) : Int) := by
      rw [u64_id (n := (v : Int) * 256) (by omega) (by omega), u64_id (n := x) (by omega) (by omega), u64_id (by omega) (by omega)]; omega
    rw [e, w64_id (by omega) (by omega)]
    have := ih (i + 1) (v * 256 + x.toNat) k (by omega) (by rw [Nat.pow_succ]; omega) (by omega)
    exact this

theorem ref_at_ok (k : Nat) (l : List Int) (i n : Nat) (hb : ∀ x ∈ l, 0 ≤ x ∧ x < 256) (hn : 1 ≤ n) (hn8 : n ≤ 8) (hl : l.length ≤ 140000000000000) (hi : i + n ≤ l.length) (hk : 13 ≤ k) :
    cofferref1_At.f k l i n = some (((Spc.val 0 ((l.drop i).take n) : Nat) : Int), 0) := by
  obtain ⟨k, rfl⟩ : ∃ m, k = m + 2 := ⟨k - 2, by omega⟩
  unfold cofferref1_At.f
  rw [if_neg (by omega), if_neg (by omega)]
  have hd : decide ((i : Int) < 0) = false := by simp
  rw [hd]
  simp only [cofferref1_At.j0]
  rw [if_neg (by simp), if_neg (by omega), w64_id (by omega) (by omega)]
  have hd2 : decide ((n : Int) > (l.length : Int) - i) = false := by simp; omega
  rw [hd2]
  simp only [cofferref1_At.j1]
  rw [if_neg (by simp)]
  have := ref_at_loop l hb hl i n hn8 hi n 0 0 k (by omega) (by simp) (by omega)
  simpa using this
theorem ref_at_arg (k : Nat) (l : List Int) (i n : Int) (hn : n < 1 ∨ 8 < n ∨ i < 0) (hk : 1 ≤ k) : cofferref1_At.f k l i n = some (0, 1) := by
  obtain ⟨k, rfl⟩ : ∃ m, k = m + 1 := ⟨k - 1, by omega⟩
  unfold cofferref1_At.f
  by_cases h : n < 1
  · rw [if_pos h]; simp [cofferref1_At.j0]
  · rw [if_neg h]
    by_cases h8 : n > 8
    · rw [if_pos h8]; simp [cofferref1_At.j0]
    · rw [if_neg h8]
      have hd : decide (i < 0) = true := by simp; omega
      rw [hd]; simp [cofferref1_At.j0]
theorem ref_at_short (k : Nat) (l : List Int) (i n : Int) (hn : 1 ≤ n) (hn8 : n ≤ 8) (_hl : l.length ≤ 140000000000000) (hi0 : 0 ≤ i) (hi : l.length < i + n) (hk : 2 ≤ k) : cofferref1_At.f k l i n = some (0, 3) := by
  obtain ⟨k, rfl⟩ : ∃ m, k = m + 2 := ⟨k - 2, by omega⟩
  unfold cofferref1_At.f
  rw [if_neg (by omega), if_neg (by omega)]
  have hd : decide (i < 0) = false := by simp; omega
  rw [hd]
  simp only [cofferref1_At.j0]
  rw [if_neg (by simp)]
  by_cases h : i > l.length
  · rw [if_pos h]; simp [cofferref1_At.j1]
  · rw [if_neg h, w64_id (by omega) (by omega)]
    have hd2 : decide (n > (l.length : Int) - i) = true := by simp; omega
    rw [hd2]; simp [cofferref1_At.j1]

theorem ref_take_loop (l : List Int) (hb : ∀ x ∈ l, 0 ≤ x ∧ x < 256) (hl : l.length ≤ 140000000000000) (d : Nat) : ∀ (i v k : Nat), i ≤ 9 ∨ l.length ≤ i → i ≤ l.length → d = min (l.length - i) (10 - i) → v < 128 ^ i → 3 * d < k →
    cofferref1_TakeCount.l0 k l v (if i ≤ 9 then ((128 ^ i : Nat) : Int) else 0) i = some (OctC.take i v (l.drop i)) := by
  induction d with
  | zero =>
    intro i v k hi hil hd hv hk
    obtain ⟨k, rfl⟩ : ∃ m, k = m + 1 := ⟨k - 1, by omega⟩
    simp only [cofferref1_TakeCount.l0]
    rw [if_neg (by omega), List.drop_of_length_le (by omega)]
    rfl
  | succ d ih =>
    intro i v k hi hil hd hv hk
    obtain ⟨k, rfl⟩ : ∃ m, k = m + 3 := ⟨k - 3, by omega⟩
    have hlt : i < l.length := by omega
    have hi9 : i ≤ 9 := by omega
    have hc := hb l[i] (List.getElem_mem hlt)
    simp only [cofferref1_TakeCount.l0]
    rw [if_pos hi9, if_pos (by omega), if_pos (by omega), OctC.rd_get l i hlt, List.drop_eq_getElem_cons hlt]
    generalize hcc : l[i] = c at *
    obtain ⟨c, rfl⟩ := Int.eq_ofNat_of_zero_le hc.1
    rw [u64_id (n := (c : Int)) (by omega) (by omega)]
    simp only [OctC.take]
    have hp9 : 128 ^ i ≤ 128 ^ 9 := Nat.pow_le_pow_right (by omega) hi9
    have hbad : ∀ b : Bool, b = decide (i = 9 ∧ (c : Int) > 1) → cofferref1_TakeCount.j1 (k + 2) l v ((128 ^ i : Nat) : Int) i c b =
        some (if (i = 9 ∧ (c : Int) > 1) ∨ ((c : Int) = 0 ∧ i > 0) then (0, 0, 4)
          else if (c : Int) < 128 then (((v + (c : Int).toNat * 128 ^ i : Nat) : Int), ((i + 1 : Nat) : Int), 0)
          else OctC.take (i + 1) (v + ((c : Int).toNat - 128) * 128 ^ i) (l.drop (i + 1))) := by
      intro b hb'
      simp only [cofferref1_TakeCount.j1]
      by_cases h1 : (i = 9 ∧ (c : Int) > 1)
      · rw [decide_eq_true h1] at hb'
        subst hb'
        rw [if_pos rfl, if_pos (.inl h1)]
      · rw [decide_eq_false h1] at hb'
        subst hb'
        rw [if_neg (by simp)]
        have h9 : i = 9 → c ≤ 1 := fun h => by
          by_cases hc1 : (c : Int) > 1
          · exact absurd ⟨h, hc1⟩ h1
          · omega
        have hprod : (c : Int) < 128 → (c * 128 ^ i < 18446744073709551616 - v) := fun h128 => by
          by_cases h : i = 9
          · subst h
            have := h9 rfl
            have := Nat.mul_le_mul_right (128 ^ 9) this
            omega
          · have hp : 128 ^ i ≤ 128 ^ 8 := Nat.pow_le_pow_right (by omega) (by omega)
            have := Nat.mul_le_mul (show c ≤ 127 by omega) hp
            omega
        have hval : (c : Int) < 128 → some (IntKind.u64.wrap ((v : Int) + IntKind.u64.wrap ((c : Int) * ((128 ^ i : Nat) : Int))), wrap64 ((i : Int) + 1), (0 : Int)) = some (((v + (c : Int).toNat * 128 ^ i : Nat) : Int), ((i + 1 : Nat) : Int), 0) := fun h128 => by
          have := hprod h128
          rw [← Int.natCast_mul, u64_id (n := ((c * 128 ^ i : Nat) : Int)) (by omega) (by omega), u64_id (by omega) (by omega), w64_id (by omega) (by omega), Int.toNat_natCast]
          rfl
        by_cases h128 : (c : Int) < 128
        · rw [if_pos h128]
          by_cases h0 : (c : Int) = 0
          · rw [if_pos h0]
            by_cases hi0 : (i : Int) > 0
            · rw [if_pos hi0, if_pos (.inr ⟨h0, by omega⟩)]
            · rw [if_neg hi0, if_neg (by omega), if_pos h128]
              exact hval h128
          · rw [if_neg h0, if_neg (by omega), if_pos h128]
            exact hval h128
        · rw [if_neg h128, if_neg (by omega), if_neg h128]
          have hi8 : i ≤ 8 := by
            have := h9
            omega
          have hp8 : 128 ^ i ≤ 128 ^ 8 := Nat.pow_le_pow_right (by omega) hi8
          have hm : (c - 128) * 128 ^ i ≤ 127 * 128 ^ i := Nat.mul_le_mul_right _ (by omega)
          have e1 : IntKind.u64.wrap ((v : Int) + IntKind.u64.wrap (IntKind.u64.wrap ((c : Int) - 128) * ((128 ^ i : Nat) : Int))) = ((v + ((c : Int).toNat - 128) * 128 ^ i : Nat) : Int) := by
            rw [u64_id (n := (c : Int) - 128) (by omega) (by omega), show (c : Int) - 128 = ((c - 128 : Nat) : Int) by omega, ← Int.natCast_mul, u64_id (n := (((c - 128) * 128 ^ i : Nat) : Int)) (by omega) (by omega), u64_id (by omega) (by omega), Int.toNat_natCast]
            rfl
          have e2 : IntKind.u64.wrap (((128 ^ i : Nat) : Int) * 128) = (if i + 1 ≤ 9 then ((128 ^ (i + 1) : Nat) : Int) else 0) := by
            rw [if_pos (by omega), Nat.pow_succ, u64_id (by omega) (by omega)]
            rfl
          rw [e1, e2, w64_id (by omega) (by omega)]
          have hm' : ((c : Int).toNat - 128) * 128 ^ i ≤ 127 * 128 ^ i := by rw [Int.toNat_natCast]; exact hm
          have := ih (i + 1) (v + ((c : Int).toNat - 128) * 128 ^ i) (k + 1) (by omega) (by omega) (by omega) (by
            rw [Nat.pow_succ]
            omega) (by omega)
          exact this
    by_cases h9 : (i : Int) = 9
    · rw [if_pos h9]
      obtain rfl : i = 9 := by omega
      exact hbad (decide ((c : Int) > 1)) (by simp)
    · rw [if_neg h9]
      have h9' : i ≠ 9 := by omega
      exact hbad false (by simp [h9'])

theorem ref_takeCount_ok (k : Nat) (l : List Int) (hb : ∀ x ∈ l, 0 ≤ x ∧ x < 256) (hl : l.length ≤ 140000000000000) (hk : 40 ≤ k) : cofferref1_TakeCount.f k l = some (OctC.take 0 0 l) := by
  unfold cofferref1_TakeCount.f
  have := ref_take_loop l hb hl _ 0 0 k (by omega) (by omega) rfl (by simp) (by omega)
  simpa using this

theorem ref_takeText_ok (k : Nat) (l : List Int) (hb : ∀ x ∈ l, 0 ≤ x ∧ x < 256) (hl : l.length ≤ 130000000000000) (hk : 40 ≤ k) : cofferref1_TakeText.f k l = some (OctD.takeT l) := by
  unfold cofferref1_TakeText.f OctD.takeT
  rw [ref_takeCount_ok k l hb (by omega) hk]
  simp only [Option.bind_some]
  have hbd := take_bounds l hb 0 0 (by omega) (by simp)
  by_cases h0 : (OctC.take 0 0 l).2.2 = 0
  · obtain ⟨n, a, e, hn, ha1, ha2, _⟩ := hbd.1 h0
    rw [if_pos h0, if_pos h0, e]
    simp only
    by_cases h1 : (n : Int) > 65536
    · rw [if_pos h1, if_pos h1]
    · rw [if_neg h1, if_neg h1, w64_id (n := (l.length : Int) - a) (by omega) (by omega), w64_id (n := (n : Int)) (by omega) (by omega)]
      by_cases h2 : (l.length : Int) - a < n
      · rw [if_pos (by omega), if_pos h2]
      · rw [if_neg (by omega), if_neg h2, if_pos (by omega), w64_id (by omega) (by omega), if_pos (by omega), if_pos (by omega)]
        have e1 : (l.take ((a : Int) + n).toNat).drop ((a : Int)).toNat = (l.drop a).take n := by
          rw [show ((a : Int) + n).toNat = a + n by omega, Int.toNat_natCast, List.drop_take]
          congr 1
          omega
        rw [e1, if_pos (by simp; omega)]
        simp
  · rw [if_neg h0, if_neg h0]
end Go.Proofs.Ytcddgokfdnjhaaa.RefB
