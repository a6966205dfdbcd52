/- What was written is read, whatever stands behind it. No condition. -/
import Derived.Test.YtcddgokfdnjhaaaOctD
import Derived.Test.YtcddgokfdnjhaaaPureOctetTurns
import Derived.OpenShut
namespace Go.Proofs.Ytcddgokfdnjhaaa.Pure
open Go.RowKit Go.Proofs.Ytcddgokfdnjhaaa.POct Go.Proofs.YtcddgokfdnjhaaaW.PrintWords Go.Proofs.YtcddgokfdnjhaaaW.PrintLast Go.Proofs.YtcddgokfdnjhaaaW.PrintMore
open Spc OctA OctC OctD

theorem zag_zig (v : Int) : zag (zig v) = v := by unfold zag zig; split <;> split <;> omega
theorem zig_zag (u : Int) (h : 0 ≤ u) : zig (zag u) = u := by unfold zag zig; split <;> split <;> omega
theorem zig_range (v : Int) (h0 : -9223372036854775808 ≤ v) (h1 : v ≤ 9223372036854775807) : 0 ≤ zig v ∧ zig v ≤ 18446744073709551615 := by unfold zig; split <;> omega
theorem zag_range (u : Int) (h0 : 0 ≤ u) (h1 : u ≤ 18446744073709551615) : -9223372036854775808 ≤ zag u ∧ zag u ≤ 9223372036854775807 := by unfold zag; split <;> omega

theorem OctetBack : cofferlaw1_OctetBack.Pure := by
  intro s r v z _ hs hsb _ hr hrb hv hz
  have hv := bounds_u64 hv
  have hz := bounds_i64 hz
  have hsb : ∀ x ∈ s, 0 ≤ x ∧ x < 256 := fun x hx => by have := bounds_u8 (hsb x hx); omega
  have hrb : ∀ x ∈ r, 0 ≤ x ∧ x < 256 := fun x hx => by have := bounds_u8 (hrb x hx); omega
  refine ⟨100, ?_⟩
  unfold cofferlaw1_OctetBack.f
  rw [begun_ok 100 (by omega)]
  simp only [Option.bind_some, if_true]
  by_cases h1 : (s.length : Int) > 65536
  · rw [if_pos h1]; simp [cofferlaw1_OctetBack.j0]
  rw [if_neg h1]
  by_cases h2 : (r.length : Int) > 65536
  · rw [decide_eq_true h2]; simp [cofferlaw1_OctetBack.j0]
  rw [decide_eq_false h2]
  simp only [cofferlaw1_OctetBack.j0]
  rw [if_neg (by simp)]
  obtain ⟨v, rfl⟩ := Int.eq_ofNat_of_zero_le hv.1
  have p1 : octet_Put.f 99 [] v 8 = some (be 8 v, 0) := by
    have := put_ok 99 [] v 8 (by omega) (by omega) (by omega) (by simp) (by omega)
    rw [if_pos (by omega)] at this
    exact this
  rw [p1]
  simp only [Option.bind_some]
  rw [if_pos (by simp [be_length]; omega)]
  have hbe : ∀ x ∈ be 8 v ++ r, 0 ≤ x ∧ x < 256 := fun x hx => by
    rcases List.mem_append.1 hx with h | h
    · exact be_byte 8 v x h
    · exact hrb x h
  have p2 : octet_At.f 99 (be 8 v ++ r) 0 8 = some ((v : Int), 0) := by
    have := at_ok 99 (be 8 v ++ r) 0 8 hbe (by omega) (by omega) (by simp [be_length]; omega) (by simp [be_length]) (by omega)
    rw [List.drop_zero, List.take_append_of_le_length (by simp [be_length]), List.take_of_length_le (by simp [be_length]), val_be, Nat.mod_eq_of_lt (by omega)] at this
    simpa using this
  rw [p2]
  simp only [Option.bind_some]
  have p3 : octet_Count.f 99 [] v = some (leb v) := by
    have := count_ok 99 [] v (by omega) (by simp) (by omega)
    simpa using this
  rw [p3]
  simp only [Option.bind_some]
  have l10 := leb_len10 (v := v) (by omega)
  rw [if_pos (by omega)]
  have hlb : ∀ x ∈ leb v ++ r, 0 ≤ x ∧ x < 256 := fun x hx => by
    rcases List.mem_append.1 hx with h | h
    · exact leb_byte v x h
    · exact hrb x h
  have p4 : octet_TakeCount.f 99 (leb v ++ r) = some ((v : Int), ((leb v).length : Int), 0) := by
    rw [takeCount_ok 99 _ hlb (by simp; omega) (by omega)]
    have := take_leb v 0 0 r (by simp; omega) (.inl rfl)
    simpa using this
  rw [p4]
  simp only [Option.bind_some]
  have p5 : octet_Text.f 99 [] s = some (leb s.length ++ s, 0) := by
    have := text_ok 99 [] s (by omega) (by simp) (by omega)
    simpa using this
  rw [p5]
  simp only [Option.bind_some]
  have l10s := leb_len10 (v := s.length) (by omega)
  rw [if_pos (by simp; omega)]
  have htb : ∀ x ∈ leb s.length ++ s ++ r, 0 ≤ x ∧ x < 256 := fun x hx => by
    rcases List.mem_append.1 hx with h | h
    · rcases List.mem_append.1 h with h | h
      · exact leb_byte _ x h
      · exact hsb x h
    · exact hrb x h
  have p6 : octet_TakeText.f 99 (leb s.length ++ s ++ r) = some (s, (((leb s.length).length + s.length : Nat) : Int), 0) := by
    rw [takeText_ok 99 _ htb (by simp; omega) (by omega), takeT_text s r (by omega)]
  rw [p6]
  simp only [Option.bind_some, if_true]
  rw [if_pos (by simp)]
  rw [zig_ok z hz.1 hz.2]
  have zr := zig_range z hz.1 hz.2
  simp only [Option.bind_some]
  rw [zag_ok _ zr.1 zr.2, zag_zig]
  simp only [Option.bind_some, if_true]
  rw [zag_ok v (by omega) (by omega)]
  have zr2 := zag_range v (by omega) (by omega)
  simp only [Option.bind_some]
  rw [zig_ok _ zr2.1 zr2.2, zig_zag _ (by omega)]
  simp
end Go.Proofs.Ytcddgokfdnjhaaa.Pure
