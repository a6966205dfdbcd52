/- What the document's answers Put, Count and Text compute, as printed: the same bytes as octet's. -/
import Derived.Test.YtcddgokfdnjhaaaOctC
import Derived.Test.YtcddgokfdnjhaaaPRefx1
namespace Go.Proofs.Ytcddgokfdnjhaaa.RefA
open Go.RowKit Go.Proofs.YtcddgokfdnjhaaaW.PrintWords Go.Proofs.YtcddgokfdnjhaaaW.PrintLast Go.Proofs.YtcddgokfdnjhaaaW.PrintMore
open Spc PRef

theorem tdiv_nat (v n : Nat) : Int.tdiv (v : Int) (n : Int) = ((v / n : Nat) : Int) := by rw [Int.tdiv_eq_ediv_of_nonneg (by omega)]; simp
theorem tmod_nat (v n : Nat) : Int.tmod (v : Int) (n : Int) = ((v % n : Nat) : Int) := by rw [Int.tmod_eq_emod_of_nonneg (by omega)]; simp

theorem ref_put_loop (l : List Int) (hl : l.length ≤ 130000000000000) (v n : Nat) (hv : v < 18446744073709551616) (hn : n ≤ 8) (d : Nat) : ∀ (i k : Nat), i + d = n → d < k →
    cofferref1_Put.l0 k l ((v / 256 ^ i : Nat) : Int) n (be i v) i = if v < 256 ^ n then some (l ++ be n v, 0) else some ([], 2) := by
  induction d with
  | zero =>
    intro i k hi hk
    obtain ⟨k, rfl⟩ : ∃ m, k = m + 1 := ⟨k - 1, by omega⟩
    obtain rfl : i = n := by omega
    simp only [cofferref1_Put.l0]
    rw [if_neg (by omega)]
    have hp : 0 < 256 ^ i := Nat.pow_pos (by omega)
    by_cases h : v < 256 ^ i
    · rw [if_pos h, if_neg (by rw [Nat.div_eq_of_lt h]; simp)]
      simp only [Option.bind_some, be_length]
      rw [if_pos (by simp; omega), if_pos (by simp; omega)]
      simp
    · have : 0 < v / 256 ^ i := Nat.div_pos (by omega) hp
      rw [if_neg h, if_pos (by omega)]
  | succ d ih =>
    intro i k hi hk
    obtain ⟨k, rfl⟩ : ∃ m, k = m + 1 := ⟨k - 1, by omega⟩
    simp only [cofferref1_Put.l0]
    rw [if_pos (by omega)]
    simp only [Option.bind_some, be_length]
    rw [if_pos (by simp; omega)]
    have hle : v / 256 ^ i ≤ v := Nat.div_le_self _ _
    have e1 : Int.tmod ((v / 256 ^ i : Nat) : Int) 256 % 256 = ((v / 256 ^ i % 256 : Nat) : Int) := by
      rw [show (256 : Int) = ((256 : Nat) : Int) from rfl, tmod_nat]; omega
    have e2 : IntKind.u64.wrap (Int.tdiv ((v / 256 ^ i : Nat) : Int) 256) = ((v / 256 ^ (i + 1) : Nat) : Int) := by
      rw [show (256 : Int) = ((256 : Nat) : Int) from rfl, tdiv_nat, Nat.div_div_eq_div_mul, ← Nat.pow_succ]
      have h3 : v / 256 ^ (i.succ) ≤ v := Nat.div_le_self _ _
      generalize v / 256 ^ (i.succ) = q at *
      exact u64_id (by omega) (by omega)
    rw [e1, e2, w64_id (by omega) (by omega)]
    exact ih (i + 1) k (by omega) (by omega)

theorem ref_put_ok (k : Nat) (l : List Int) (v n : Nat) (hv : v < 18446744073709551616) (hn : 1 ≤ n) (hn8 : n ≤ 8) (hl : l.length ≤ 130000000000000) (hk : 12 ≤ k) :
    cofferref1_Put.f k l v n = if v < 256 ^ n then some (l ++ be n v, 0) else some ([], 2) := by
  obtain ⟨k, rfl⟩ : ∃ m, k = m + 1 := ⟨k - 1, by omega⟩
  unfold cofferref1_Put.f
  rw [if_neg (by omega)]
  have hd : decide ((n : Int) > 8) = false := by simp; omega
  rw [hd]
  simp only [cofferref1_Put.j0]
  rw [if_neg (by simp)]
  have := ref_put_loop l hl v n hv hn8 n 0 k (by omega) (by omega)
  simpa [be] using this
theorem ref_put_arg (k : Nat) (l : List Int) (v n : Int) (hn : n < 1 ∨ 8 < n) (hk : 1 ≤ k) : cofferref1_Put.f k l v n = some ([], 1) := by
  obtain ⟨k, rfl⟩ : ∃ m, k = m + 1 := ⟨k - 1, by omega⟩
  unfold cofferref1_Put.f
  by_cases h : n < 1
  · rw [if_pos h]; simp [cofferref1_Put.j0]
  · rw [if_neg h]
    have hd : decide (n > 8) = true := by simp; omega
    rw [hd]; simp [cofferref1_Put.j0]

theorem ref_count_steps (n : Nat) : ∀ (v k : Nat) (acc : List Int), v < 128 ^ n → v < 18446744073709551616 → n < k → acc.length + n ≤ 140000000000000 → 0 < n →
    cofferref1_Count.l0 k v acc = some (acc ++ leb v) := by
  induction n with
  | zero => intro v k acc _ _ _ _ h; omega
  | succ n ih =>
    intro v k acc hv hv64 hk hl _
    obtain ⟨k, rfl⟩ : ∃ m, k = m + 1 := ⟨k - 1, by omega⟩
    simp only [cofferref1_Count.l0]
    by_cases h : v < 128
    · rw [if_neg (by omega), if_pos (by omega), leb_small h]
      have : (v : Int) % 256 = v := by omega
      rw [this]
    · rw [if_pos (by omega), if_pos (by omega), leb_big h]
      have hn0 : 0 < n := by
        rcases Nat.eq_zero_or_pos n with h0 | h0
        · subst h0; simp at hv; omega
        · exact h0
      have h2 : v / 128 < 128 ^ n := by
        rw [Nat.pow_succ] at hv
        exact Nat.div_lt_of_lt_mul (by omega)
      have e1 : IntKind.u64.wrap (Int.tdiv (v : Int) 128) = ((v / 128 : Nat) : Int) := by
        rw [show (128 : Int) = ((128 : Nat) : Int) from rfl, tdiv_nat]; exact u64_id (by omega) (by omega)
      have e2 : IntKind.u64.wrap (Int.tmod (v : Int) 128 + 128) % 256 = ((v % 128 + 128 : Nat) : Int) := by
        rw [show Int.tmod (v : Int) 128 = ((v % 128 : Nat) : Int) from tmod_nat v 128, u64_id (by omega) (by omega)]; omega
      rw [e1, e2, ih (v / 128) k _ h2 (by omega) (by omega) (by simp; omega) hn0]
      simp

theorem ref_count_ok (k : Nat) (l : List Int) (v : Nat) (hv : v < 18446744073709551616) (hl : l.length ≤ 130000000000000) (hk : 12 ≤ k) : cofferref1_Count.f k l v = some (l ++ leb v) := by
  unfold cofferref1_Count.f
  simp only [Option.bind_some]
  rw [if_pos (by simp; omega), List.nil_append]
  exact ref_count_steps 10 v k l (by omega) hv (by omega) (by omega) (by omega)

theorem ref_text_ok (k : Nat) (l s : List Int) (hs : s.length ≤ 65536) (hl : l.length ≤ 130000000000000) (hk : 12 ≤ k) : cofferref1_Text.f k l s = some (l ++ leb s.length ++ s, 0) := by
  unfold cofferref1_Text.f
  rw [if_neg (by omega), u64_id (by omega) (by omega), ref_count_ok k l s.length (by omega) hl hk]
  simp only [Option.bind_some]
  have := leb_len10 (v := s.length) (by omega)
  rw [if_pos (by simp; omega)]
theorem ref_text_long (k : Nat) (l s : List Int) (hs : 65536 < s.length) : cofferref1_Text.f k l s = some ([], 2) := by
  unfold cofferref1_Text.f
  rw [if_pos (by omega)]
end Go.Proofs.Ytcddgokfdnjhaaa.RefA
