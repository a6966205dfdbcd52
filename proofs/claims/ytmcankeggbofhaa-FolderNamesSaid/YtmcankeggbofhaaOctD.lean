/- What octet.TakeText computes, as printed: bytes behind their length. -/
import Derived.Test.YtmcankeggbofhaaOctC
namespace Go.Proofs.Ytmcankeggbofhaa.OctD
open Go.RowKit Go.Proofs.YtmcankeggbofhaaW.PrintWords Go.Proofs.YtmcankeggbofhaaW.PrintLast Go.Proofs.YtmcankeggbofhaaW.PrintMore
open Spc OctA OctC POct
set_option linter.unusedVariables false
set_option linter.unusedSimpArgs false

theorem take_bounds (r : List Int) (hb : ∀ x ∈ r, 0 ≤ x ∧ x < 256) : ∀ (i v : Nat), i ≤ 9 → v < 128 ^ i →
    ((take i v r).2.2 = 0 → ∃ n a : Nat, take i v r = ((n : Int), (a : Int), 0) ∧ n < 18446744073709551616 ∧ i + 1 ≤ a ∧ a ≤ i + r.length ∧ a ≤ 10) ∧
    ((take i v r).2.2 ≠ 0 → take i v r = (0, 0, (take i v r).2.2) ∧ ((take i v r).2.2 = 3 ∨ (take i v r).2.2 = 4)) := by
  induction r with
  | nil => intro i v _ _; simp [take]
  | cons c r ih =>
    intro i v hi hv
    have hc := hb c (by simp)
    simp only [take]
    by_cases hB : (i = 9 ∧ c > 1) ∨ (c = 0 ∧ i > 0)
    · rw [if_pos hB]; simp
    · rw [if_neg hB]
      have hp9 : 128 ^ i ≤ 128 ^ 9 := Nat.pow_le_pow_right (by omega) hi
      by_cases h128 : c < 128
      · rw [if_pos h128]
        refine ⟨fun _ => ⟨_, _, rfl, ?_, by omega, by simp, by omega⟩, fun h => absurd rfl h⟩
        by_cases h9 : i = 9
        · subst h9
          have : c.toNat ≤ 1 := by
            by_cases h1 : c > 1
            · exact absurd (.inl ⟨rfl, h1⟩) hB
            · omega
          have := Nat.mul_le_mul_right (128 ^ 9) this
          omega
        · have hp8 : 128 ^ i ≤ 128 ^ 8 := Nat.pow_le_pow_right (by omega) (by omega)
          have := Nat.mul_le_mul (show c.toNat ≤ 127 by omega) hp8
          omega
      · rw [if_neg h128]
        have hi8 : i ≤ 8 := by
          by_cases h9 : i = 9
          · exact absurd (.inl ⟨h9, by omega⟩) hB
          · omega
        have hv2 : v + (c.toNat - 128) * 128 ^ i < 128 ^ (i + 1) := by
          rw [Nat.pow_succ]
          have : (c.toNat - 128) * 128 ^ i ≤ 127 * 128 ^ i := Nat.mul_le_mul_right _ (by omega)
          omega
        have := ih (fun x hx => hb x (by simp [hx])) (i + 1) _ (by omega) hv2
        refine ⟨fun h => ?_, this.2⟩
        obtain ⟨n, a, e, h1, h2, h3, h4⟩ := this.1 h
        exact ⟨n, a, e, h1, by omega, by simp; omega, h4⟩

def takeT (l : List Int) : List Int × Int × Int :=
  if (take 0 0 l).2.2 = 0 then (if (take 0 0 l).1 > 65536 then ([], 0, 2) else if (l.length : Int) - (take 0 0 l).2.1 < (take 0 0 l).1 then ([], 0, 3)
    else ((l.drop (take 0 0 l).2.1.toNat).take (take 0 0 l).1.toNat, (take 0 0 l).2.1 + (take 0 0 l).1, 0)) else ([], 0, (take 0 0 l).2.2)

theorem takeText_ok (k : Nat) (l : List Int) (hb : ∀ x ∈ l, 0 ≤ x ∧ x < 256) (hl : l.length ≤ 130000000000000) (hk : 40 ≤ k) : octet_TakeText.f k l = some (takeT l) := by
  unfold octet_TakeText.f takeT
  rw [takeCount_ok k l hb (by omega) hk]
  simp only [Option.bind_some]
  have hbd := take_bounds l hb 0 0 (by omega) (by simp)
  by_cases h0 : (take 0 0 l).2.2 = 0
  · obtain ⟨n, a, e, hn, ha1, ha2, _⟩ := hbd.1 h0
    rw [if_pos h0, if_pos h0, e]
    simp only
    by_cases h1 : (n : Int) > 65536
    · rw [if_pos h1, if_pos h1]
    · rw [if_neg h1, if_neg h1, w64_id (n := (l.length : Int) - a) (by omega) (by omega), u64_id (by omega) (by omega)]
      by_cases h2 : (l.length : Int) - a < n
      · rw [if_pos h2, if_pos h2]
      · rw [if_neg h2, if_neg h2, if_pos (by omega), w64_id (n := (n : Int)) (by omega) (by omega), w64_id (by omega) (by omega), if_pos (by omega), if_pos (by omega)]
        have e1 : (l.take ((a : Int) + n).toNat).drop ((a : Int)).toNat = (l.drop a).take n := by
          rw [show ((a : Int) + n).toNat = a + n by omega, Int.toNat_natCast, List.drop_take]
          congr 1
          omega
        rw [e1]
        have ho := own_ok ((l.drop a).take n) 0 (by simp; omega)
        rw [show octet_own.f ((l.drop a).take n) 0 = some ((l.drop a).take n) from ho]
        simp
  · rw [if_neg h0, if_neg h0]

theorem takeT_text (s r : List Int) (hs : s.length ≤ 65536) : takeT (leb s.length ++ s ++ r) = (s, (((leb s.length).length + s.length : Nat) : Int), 0) := by
  unfold takeT
  have e : take 0 0 (leb s.length ++ s ++ r) = ((s.length : Int), ((leb s.length).length : Int), 0) := by
    have := take_leb s.length 0 0 (s ++ r) (by simp; omega) (.inl rfl)
    rw [List.append_assoc]
    simpa using this
  rw [e]
  simp only [if_true]
  rw [if_neg (by omega), if_neg (by simp; omega)]
  simp
end Go.Proofs.Ytmcankeggbofhaa.OctD
