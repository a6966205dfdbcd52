/- No count is the beginning of another one. No condition. -/
import Derived.Test.YtcddgokfdnjhaaaOctC
import Derived.Test.YtcddgokfdnjhaaaPOctx3
import Derived.OpenShut
import Derived.Lib.Strings
namespace Go.Proofs.Ytcddgokfdnjhaaa.Pure
open Go.RowKit Go.Proofs.Ytcddgokfdnjhaaa.POct Go.Proofs.YtcddgokfdnjhaaaW.PrintWords Go.Proofs.YtcddgokfdnjhaaaW.PrintLast Go.Proofs.YtcddgokfdnjhaaaW.PrintMore
open Spc OctA OctC

theorem bytes_inj : ∀ (a b : List Int), (∀ x ∈ a, 0 ≤ x ∧ x < 256) → (∀ x ∈ b, 0 ≤ x ∧ x < 256) →
    (a.map fun n => UInt8.ofNat n.toNat) = (b.map fun n => UInt8.ofNat n.toNat) → a = b := by
  intro a
  induction a with
  | nil => intro b _ _ h; simpa using h
  | cons x a ih =>
    intro b ha hb h
    cases b with
    | nil => simp at h
    | cons y b =>
      simp only [List.map_cons, List.cons.injEq] at h
      have hx := ha x (by simp)
      have hy := hb y (by simp)
      have h1 := congrArg UInt8.toNat h.1
      simp only [UInt8.toNat_ofNat'] at h1
      have e : x = y := by omega
      rw [e, ih b (fun z hz => ha z (by simp [hz])) (fun z hz => hb z (by simp [hz])) h.2]

theorem heads_apart (a b : Nat) (hne : a ≠ b) (n : Nat) (hn : n = min (leb a).length (leb b).length) : (leb a).take n ≠ (leb b).take n := by
  intro h
  by_cases hle : (leb a).length ≤ (leb b).length
  · have e : n = (leb a).length := by omega
    rw [e, List.take_length] at h
    refine hne (leb_apart a b ((leb b).drop (leb a).length) [] ?_)
    have := List.take_append_drop (leb a).length (leb b)
    rw [← h] at this
    simpa using this
  · have e : n = (leb b).length := by omega
    rw [e, List.take_length] at h
    refine hne (leb_apart b a ((leb a).drop (leb b).length) [] ?_).symm
    have := List.take_append_drop (leb b).length (leb a)
    rw [h] at this
    simpa using this

theorem OctetApart : cofferlaw1_OctetApart.Pure := by
  intro a b ha hb
  have ha := bounds_u64 ha
  have hb := bounds_u64 hb
  obtain ⟨a, rfl⟩ := Int.eq_ofNat_of_zero_le ha.1
  obtain ⟨b, rfl⟩ := Int.eq_ofNat_of_zero_le hb.1
  refine ⟨40, ?_⟩
  unfold cofferlaw1_OctetApart.f
  have p1 : octet_Count.f 40 [] a = some (leb a) := by
    have := count_ok 40 [] a (by omega) (by simp) (by omega)
    simpa using this
  have p2 : octet_Count.f 40 [] b = some (leb b) := by
    have := count_ok 40 [] b (by omega) (by simp) (by omega)
    simpa using this
  rw [p1, p2, begun_ok 40 (by omega)]
  simp only [Option.bind_some, if_true, strOfNums_size]
  have la := leb_pos a
  have lb := leb_pos b
  have e : mn ((leb a).length : Int) ((leb b).length : Int) = ((min (leb a).length (leb b).length : Nat) : Int) := by
    unfold mn; split <;> omega
  rw [e, if_pos (by omega)]
  by_cases h : (a : Int) = b
  · rw [if_pos h]
  · rw [if_neg h, if_pos (by omega), if_pos (by omega), if_pos (by omega)]
    have hne : ((strOfNums (leb a)).extract 0 (min (leb a).length (leb b).length)).toList ≠ ((strOfNums (leb b)).extract 0 (min (leb a).length (leb b).length)).toList := by
      intro he
      rw [ByteArray.toList_eq, ByteArray.toList_eq, Lib.extract_data, Lib.extract_data, strOfNums_data, strOfNums_data] at he
      simp only [List.drop_zero, Nat.sub_zero] at he
      rw [← List.map_take, ← List.map_take] at he
      have h3 := bytes_inj _ _ (fun x hx => leb_byte a x (List.mem_of_mem_take hx)) (fun x hx => leb_byte b x (List.mem_of_mem_take hx)) he
      exact heads_apart a b (by omega) _ rfl h3
    simp only [Int.toNat_natCast, Option.some.injEq, bne_iff_ne]
    exact hne
end Go.Proofs.Ytcddgokfdnjhaaa.Pure
