/- A bit that is set is told so, and no other one is turned. No condition. -/
import Derived.Test.YtcddgokfdnjhaaaOctB
import Derived.OpenShut
namespace Go.Proofs.Ytcddgokfdnjhaaa.Pure
open Go.RowKit Go.Proofs.Ytcddgokfdnjhaaa.POct Go.Proofs.YtcddgokfdnjhaaaW.PrintWords Go.Proofs.YtcddgokfdnjhaaaW.PrintLast Go.Proofs.YtcddgokfdnjhaaaW.PrintMore
open Spc OctA OctB

theorem stay_out (k : Nat) (l : List Int) (a b : Int) (on : Bool) : cofferlaw1_OctetBitsStay.j0 (k + 1) l a b on true = some true := by simp [cofferlaw1_OctetBitsStay.j0]

theorem OctetBitsStay : cofferlaw1_OctetBitsStay.Pure := by
  intro l a b on _ hl hb ha hbb
  have ha := bounds_i64 ha
  have hbb := bounds_i64 hbb
  have hb : ∀ x ∈ l, 0 ≤ x ∧ x < 256 := fun x hx => by have := bounds_u8 (hb x hx); omega
  refine ⟨100, ?_⟩
  unfold cofferlaw1_OctetBitsStay.f
  rw [begun_ok 100 (by omega)]
  simp only [Option.bind_some, if_true]
  by_cases h1 : (l.length : Int) > 4096
  · rw [if_pos h1]; exact stay_out _ _ _ _ _
  rw [if_neg h1]
  by_cases h2 : a < 0
  · rw [if_pos h2]; exact stay_out _ _ _ _ _
  rw [if_neg h2]
  by_cases h3 : b < 0
  · rw [if_pos h3]; exact stay_out _ _ _ _ _
  rw [if_neg h3]
  obtain ⟨i, rfl⟩ := Int.eq_ofNat_of_zero_le (show 0 ≤ a by omega)
  obtain ⟨k, rfl⟩ := Int.eq_ofNat_of_zero_le (show 0 ≤ b by omega)
  rw [Int.tdiv_eq_ediv_of_nonneg (by omega), Int.tdiv_eq_ediv_of_nonneg (by omega), w64_id (n := (i : Int) / 8) (by omega) (by omega), w64_id (n := (k : Int) / 8) (by omega) (by omega)]
  by_cases h4 : (i : Int) / 8 ≥ l.length
  · rw [if_pos h4]; exact stay_out _ _ _ _ _
  rw [if_neg h4]
  by_cases h5 : (k : Int) / 8 ≥ l.length
  · rw [decide_eq_true h5]; exact stay_out _ _ _ _ _
  rw [decide_eq_false h5]
  simp only [cofferlaw1_OctetBitsStay.j0]
  rw [if_neg (by simp)]
  have hi : i / 8 < l.length := by omega
  have hk : k / 8 < l.length := by omega
  have hls : (setAt l i on).length = l.length := by unfold setAt; simp
  rw [set_ok 99 l hb i on hi (by omega) (by omega) (by omega)]
  simp only [Option.bind_some]
  rw [bit_ok _ (set_byte l hb i on hi) i (by omega) (by omega), bit_ok _ (set_byte l hb i on hi) k (by omega) (by omega), bit_ok l hb k hk (by omega)]
  simp only [Option.bind_some, if_true, hls, bit_set l i _ on hi]
  by_cases e : i = k
  · subst e; simp
  · simp [e]
end Go.Proofs.Ytcddgokfdnjhaaa.Pure
