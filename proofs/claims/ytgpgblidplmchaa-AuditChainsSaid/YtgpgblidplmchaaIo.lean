/- Entries that come in, opened: one by value, a list of them; an identity. -/
import Derived.Test.YtgpgblidplmchaaEb
import Derived.OpenShut
import Derived.ChangeArms
import Derived.Deep.Strs
import Derived.WideShapes
namespace Go.Proofs.Ytgpgblidplmchaa.Io
open Go.RowKit Go.ChangeShapes Go.WideShapes Go.Deep
open En Eb Ag Go.Proofs.YtgpgblidplmchaaW.PrintWords
set_option linter.unusedVariables false
set_option linter.unusedSimpArgs false
def numOf : Option Value → Int | some (.int _ n) => n | _ => 0
section
variable {H : Type} {enc : TypeId × Value → H} {W : World} {base : Nat} {spare : Nat → Bool} {held : Bool}
/-- an array of 32 bytes -/
theorem trod_id {fuel : Nat} {cs : List Value} {x : DataW H × List MemPlace} (hln : cs.length = 32) (h : DataW.trod enc Try.prog W base spare held fuel 25 cs = some x) : ∃ l : List Int, cs = nums .u8 l ∧ l.length = 32 ∧ ∀ y ∈ l, 0 ≤ y ∧ y < 256 := by
  have c5 : Try.prog.cellsOf 5 = 1 := by kernel_rfl
  obtain ⟨xs, m, _, _, _, hxl, hi⟩ := DataW.trod_array (n := 32) (e := 5) Try.underlying25 h
  have hat : ∀ i, i < 32 → ∃ k : Int, cs[i]? = some (.int .u8 k) ∧ (Lit.int .u8 k).wf = true := by
    intro i hi32
    have h := hi i hi32
    rw [c5, List.getElem?_eq_getElem (by omega)] at h
    obtain ⟨k, hk, _, hw⟩ := DataW.trod_int Try.underlying5 h
    refine ⟨k, ?_, hw⟩
    have := congrArg (·[0]?) hk
    simp [List.getElem?_take, List.getElem?_drop] at this
    simpa using this
  refine ⟨(List.range 32).map fun i => numOf cs[i]?, ?_, by simp, fun y hy => ?_⟩
  · apply List.ext_getElem?
    intro i
    by_cases h32 : i < 32
    · obtain ⟨k', hk', _⟩ := hat i h32
      rw [hk']
      unfold nums
      rw [List.getElem?_map, List.getElem?_map, List.getElem?_range h32, Option.map_some, Option.map_some, hk']
      rfl
    · rw [List.getElem?_eq_none (by omega), List.getElem?_eq_none (by simp [nums]; omega)]
  · obtain ⟨i, hi, rfl⟩ := List.mem_map.1 hy
    obtain ⟨k', hk', hw⟩ := hat i (List.mem_range.1 hi)
    rw [hk']
    have := bounds_u8 hw
    show 0 ≤ k' ∧ k' < 256
    omega
theorem trod_ent {fuel : Nat} {cs : List Value} {x : DataW H × List MemPlace} (h : DataW.trod enc Try.prog W base spare held fuel 27 cs = some x) : ∃ it : Ent, cs = cellsOf it ∧ Wf it ∧ it.ten.size ≤ maxLen := by
  have c27 : Try.prog.cellsOf 27 = 38 := by kernel_rfl
  have c25 : Try.prog.cellsOf 25 = 32 := by kernel_rfl
  have c2 : Try.prog.cellsOf 2 = 1 := by kernel_rfl
  have c3 : Try.prog.cellsOf 3 = 1 := by kernel_rfl
  have c23 : Try.prog.cellsOf 23 = 1 := by kernel_rfl
  have c9 : Try.prog.cellsOf 9 = 1 := by kernel_rfl
  obtain ⟨ys, n, _, _, hlen, hyl, hf⟩ := DataW.trod_struct Try.underlying27 h
  rw [c27] at hlen
  have hyl7 : ys.length = 7 := hyl
  have h0 : DataW.trod enc Try.prog W base spare held n 2 ((cs.drop 0).take (Try.prog.cellsOf 2)) = ys[0]? := hf 0 _ rfl
  have h1 : DataW.trod enc Try.prog W base spare held n 2 ((cs.drop 1).take (Try.prog.cellsOf 2)) = ys[1]? := hf 1 _ rfl
  have h2 : DataW.trod enc Try.prog W base spare held n 23 ((cs.drop 2).take (Try.prog.cellsOf 23)) = ys[2]? := hf 2 _ rfl
  have h3 : DataW.trod enc Try.prog W base spare held n 9 ((cs.drop 3).take (Try.prog.cellsOf 9)) = ys[3]? := hf 3 _ rfl
  have h4 : DataW.trod enc Try.prog W base spare held n 3 ((cs.drop 4).take (Try.prog.cellsOf 3)) = ys[4]? := hf 4 _ rfl
  have h5 : DataW.trod enc Try.prog W base spare held n 3 ((cs.drop 5).take (Try.prog.cellsOf 3)) = ys[5]? := hf 5 _ rfl
  have h6 : DataW.trod enc Try.prog W base spare held n 25 ((cs.drop 6).take (Try.prog.cellsOf 25)) = ys[6]? := hf 6 _ rfl
  rw [List.getElem?_eq_getElem (by omega)] at h0 h1 h2 h3 h4 h5 h6
  rw [c2] at h0 h1; rw [c23] at h2; rw [c9] at h3; rw [c3] at h4 h5; rw [c25] at h6
  obtain ⟨a, ha, _, hwa⟩ := DataW.trod_int Try.underlying2 h0
  obtain ⟨b, hb, _, hwb⟩ := DataW.trod_int Try.underlying2 h1
  obtain ⟨c, hc, _, hwc⟩ := DataW.trod_int Try.underlying23 h2
  obtain ⟨s, hs, _, hms⟩ := DataW.trod_string Try.underlying9 h3
  obtain ⟨d, hd, _, hwd⟩ := DataW.trod_int Try.underlying3 h4
  obtain ⟨e, he, _, hwe⟩ := DataW.trod_int Try.underlying3 h5
  obtain ⟨l, hl, hll, hlb⟩ := trod_id (by simp; omega) h6
  refine ⟨⟨a, b, c, s, d, e, l⟩, ?_, ⟨hll, (bounds_i64 hwa).2, (bounds_i64 hwb).2, (bounds_u64 hwc).1, by have := (bounds_u64 hwc).2; show c < _; omega, hlb⟩, hms⟩
  have e0 : cs[0]? = some (.int .i64 a) := by have := congrArg (·[0]?) ha; simpa using this
  have e1 : cs[1]? = some (.int .i64 b) := by have := congrArg (·[0]?) hb; simpa using this
  have e2 : cs[2]? = some (.int .u64 c) := by have := congrArg (·[0]?) hc; simpa using this
  have e3 : cs[3]? = some (.string s) := by have := congrArg (·[0]?) hs; simpa using this
  have e4 : cs[4]? = some (.int .i64 d) := by have := congrArg (·[0]?) hd; simpa using this
  have e5 : cs[5]? = some (.int .i64 e) := by have := congrArg (·[0]?) he; simpa using this
  have e6 : cs.drop 6 = nums .u8 l := by rw [← hl, List.take_of_length_le (by simp; omega)]
  have hcs : cs = cs.take 6 ++ cs.drop 6 := (List.take_append_drop 6 cs).symm
  rw [hcs, e6]
  unfold cellsOf
  have h6l : (cs.take 6).length = 6 := by simp; omega
  have : cs.take 6 = [.int .i64 a, .int .i64 b, .int .u64 c, .string s, .int .i64 d, .int .i64 e] := by
    apply List.ext_getElem?
    intro i
    rw [List.getElem?_take]
    match i with
    | 0 => simpa using e0
    | 1 => simpa using e1
    | 2 => simpa using e2
    | 3 => simpa using e3
    | 4 => simpa using e4
    | 5 => simpa using e5
    | i + 6 => rw [if_neg (by omega), List.getElem?_eq_none (by simp)]
  rw [this]
  rfl
theorem open_ent {rr : Reach} {b0 : Nat} {v : Value} {d : DataW H} {p : List MemPlace} (hv : Value.okWide Try.prog W rr b0 27 v) (h : DataW.Trod enc Try.prog W base spare held 27 v d p) : ∃ x : Ent, v = .agg (cellsOf x).toArray ∧ Wf x ∧ x.ten.size ≤ maxLen := by
  obtain ⟨cs, rfl, hsz⟩ := okWide_struct Try.underlying27 hv
  obtain ⟨fuel, hf⟩ := h
  obtain ⟨x, hx, hw, hm⟩ := trod_ent hf
  have hx' : cs.toList = cellsOf x := by simpa [Value.cells] using hx
  exact ⟨x, by rw [← hx'], hw, hm⟩
end
end Go.Proofs.Ytgpgblidplmchaa.Io
