/- A manifest that comes in, opened. -/
import Derived.Test.YtdalckmbmcenbaaSb
import Derived.OpenShut
import Derived.ChangeArms
import Derived.Deep.Strs
import Derived.WideShapes
namespace Go.Proofs.Ytdalckmbmcenbaa.So
open Go.RowKit Go.ChangeShapes Go.WideShapes Go.Deep
open Sn Ag Go.Proofs.YtdalckmbmcenbaaW.PrintWords
set_option linter.unusedVariables false
set_option linter.unusedSimpArgs false
def numOf : Option Value → Int | some (.int _ n) => n | _ => 0
theorem open_man {H : Type} {enc : TypeId × Value → H} {W : World} {rr : Reach} {b0 base : Nat} {spare : Nat → Bool} {held : Bool} {v : Value} {d : DataW H} {p : List MemPlace} (hv : Value.okWide Try.prog W rr b0 25 v) (h : DataW.Trod enc Try.prog W base spare held 25 v d p) :
    ∃ (l : List Int) (t : Int) (s : ByteArray), v = .agg (man l t s) ∧ l.length = 32 ∧ (∀ x ∈ l, (Lit.int .u8 x).wf = true) ∧ (Lit.int .i64 t).wf = true ∧ s.size ≤ maxLen := by
  obtain ⟨cs, rfl, hsz⟩ := okWide_struct Try.underlying25 hv
  obtain ⟨fuel, hf⟩ := h
  have c25 : Try.prog.cellsOf 25 = 34 := by kernel_rfl
  have c23 : Try.prog.cellsOf 23 = 32 := by kernel_rfl
  have c5 : Try.prog.cellsOf 5 = 1 := by kernel_rfl
  have c2 : Try.prog.cellsOf 2 = 1 := by kernel_rfl
  have c9 : Try.prog.cellsOf 9 = 1 := by kernel_rfl
  rw [c25] at hsz
  obtain ⟨y0, y1, y2, n, _, hl, h0, h1, h2⟩ := trod_struct3 Try.underlying25 hf
  have hl34 : cs.toList.length = 34 := by simpa using hsz
  simp only [Value.cells] at h0 h1 h2
  rw [c23] at h0; rw [c2] at h1; rw [c9] at h2
  obtain ⟨xs, m, _, _, _, hxl, hi⟩ := DataW.trod_array (n := 32) (e := 5) (by kernel_rfl) h0
  obtain ⟨t, ht, _, hwt⟩ := DataW.trod_int Try.underlying2 h1
  obtain ⟨s, hs, _, hms⟩ := DataW.trod_string Try.underlying9 h2
  have hat : ∀ i, i < 32 → ∃ k : Int, cs.toList[i]? = some (.int .u8 k) ∧ (Lit.int .u8 k).wf = true := by
    intro i hi32
    have h := hi i hi32
    rw [c5, List.getElem?_eq_getElem (by omega)] at h
    obtain ⟨k, hk, _, hw⟩ := DataW.trod_int Try.underlying5 h
    refine ⟨k, ?_, hw⟩
    have := congrArg (·[0]?) hk
    simp [List.getElem?_take, List.getElem?_drop] at this
    have h2 := this.2
    simpa using h2
  refine ⟨(List.range 32).map fun i => numOf cs.toList[i]?, t, s, ?_, by simp, ?_, hwt, hms⟩
  · congr 1
    apply Array.ext'
    apply List.ext_getElem?
    intro i
    unfold man
    by_cases h32 : i < 32
    · obtain ⟨k, hk, _⟩ := hat i h32
      rw [hk]
      have hr : (List.range 32)[i]? = some i := by rw [List.getElem?_range h32]
      have hlen : i < (nums .u8 ((List.range 32).map fun i => numOf cs.toList[i]?)).length := by simpa [nums] using h32
      rw [List.getElem?_append_left hlen]
      unfold nums
      rw [List.getElem?_map, List.getElem?_map, hr, Option.map_some, Option.map_some, hk]
      rfl
    · by_cases h33 : i = 32
      · subst h33
        have := congrArg (·[0]?) ht
        simp at this
        simp [nums, this]
      · by_cases h34 : i = 33
        · subst h34
          have := congrArg (·[0]?) hs
          simp at this
          simp [nums, this]
        · rw [List.getElem?_eq_none (by omega), List.getElem?_eq_none (by simp [nums]; omega)]
  · intro x hx
    obtain ⟨i, hi, rfl⟩ := List.mem_map.1 hx
    obtain ⟨k, hk, hw⟩ := hat i (List.mem_range.1 hi)
    rw [hk]; exact hw
end Go.Proofs.Ytdalckmbmcenbaa.So
