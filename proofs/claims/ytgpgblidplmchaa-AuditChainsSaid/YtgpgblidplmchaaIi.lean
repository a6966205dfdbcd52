/- A hash that comes in, opened. -/
import Derived.Test.YtgpgblidplmchaaIo
namespace Go.Proofs.Ytgpgblidplmchaa.Ii
open Go.RowKit Go.ChangeShapes Go.WideShapes Go.Deep
open En Eb Ag Io Go.Proofs.YtgpgblidplmchaaW.PrintWords
set_option linter.unusedVariables false
theorem okWide_array {P : Program} {w : World} {r : Reach} {base : Nat} {t : TypeId} {v : Value} {n : Nat} {e : TypeId} (ht : P.underlying t = some (.array n e)) (h : Value.okWide P w r base t v) : ∃ cs, v = .agg cs ∧ cs.size = P.cellsOf t := by
  simp only [Value.okWide, ht] at h
  obtain ⟨cs, h1, h2, _⟩ := h
  exact ⟨cs, h1, h2⟩
section
variable {H : Type} {enc : TypeId × Value → H} {W : World} {base : Nat} {spare : Nat → Bool} {held : Bool}
theorem open_id {rr : Reach} {b0 : Nat} {v : Value} {d : DataW H} {p : List MemPlace} (hv : Value.okWide Try.prog W rr b0 25 v) (h : DataW.Trod enc Try.prog W base spare held 25 v d p) : ∃ l : List Int, v = .agg (nums .u8 l).toArray ∧ l.length = 32 ∧ ∀ y ∈ l, 0 ≤ y ∧ y < 256 := by
  obtain ⟨cs, rfl, hsz⟩ := okWide_array Try.underlying25 hv
  obtain ⟨fuel, hf⟩ := h
  obtain ⟨l, hl, h32, hb⟩ := trod_id (by have c25 : Try.prog.cellsOf 25 = 32 := by kernel_rfl
                                         simpa [Value.cells, c25] using hsz) hf
  exact ⟨l, by rw [← hl]; simp [Value.cells], h32, hb⟩
end
end Go.Proofs.Ytgpgblidplmchaa.Ii
