/- A folder's item in memory: its cells, rows of items. -/
import Derived.Test.YtmcankeggbofhaaAg
import Derived.Deep.Slices
import Derived.Test.YtmcankeggbofhaaWArr
namespace Go.Proofs.Ytmcankeggbofhaa.It
open Go.RowKit Go.Proofs.YtmcankeggbofhaaW.PrintWords Go.Proofs.YtmcankeggbofhaaW.PrintLast Go.Proofs.YtmcankeggbofhaaW.PrintMore
set_option linter.unusedVariables false
set_option linter.unusedSimpArgs false

structure Itm where
  name : ByteArray
  kind : Int
  of : List Int
  size : Int
instance : Inhabited Itm := ⟨⟨ByteArray.empty, 0, [], 0⟩⟩
def cellsOf (x : Itm) : List Value := Value.string x.name :: Value.int .i64 x.kind :: (nums .u8 x.of ++ [Value.int .i64 x.size])
def Ok (x : Itm) : Prop := x.of.length = 32
theorem cells_len {x : Itm} (h : Ok x) : (cellsOf x).length = 35 := by unfold Ok at h; simp [cellsOf, nums, h]
theorem cells_name (x : Itm) : (cellsOf x)[0]? = some (.string x.name) := rfl
theorem cells_kind (x : Itm) : (cellsOf x)[1]? = some (.int .i64 x.kind) := rfl
theorem cells_size {x : Itm} (h : Ok x) : (cellsOf x)[34]? = some (.int .i64 x.size) := by unfold Ok at h; simp [cellsOf, nums, h]
theorem cells_one (x : Itm) : ∀ u ∈ cellsOf x, u.oneCell' = true := by
  intro u hu
  simp only [cellsOf, nums, List.mem_cons, List.mem_append, List.mem_map, List.not_mem_nil, or_false] at hu
  rcases hu with rfl | rfl | ⟨y, _, rfl⟩ | rfl <;> rfl
def kd : Kd Itm where
  sz := 35
  E := []
  K := fun _ x cs => cs = cellsOf x ∧ Ok x
  M := fun _ _ _ x cs => cs = cellsOf x ∧ Ok x
  K_len := fun h => by rw [h.1]; exact cells_len h.2
  K_one := fun h => by rw [h.1]; exact cells_one _
  K_below := fun _ h => h
  K_of_M := fun h => h
  M_mono := fun _ h => h
  M_bound := fun h => h
  M_move := fun _ h => h
  M_lower := fun _ h => h
/-- items that are read; items of the call's own -/
abbrev CI (w : World) (A : Option Addr) (xs : List Itm) : Prop := Kd.C kd w A xs.length xs
abbrev RI (w : World) (base : Nat) (v : Value) (xs : List Itm) : Prop := Kd.R kd 28 w base (fun _ => True) v xs
theorem info28 : (Try.prog.info? 28).map (·.size) = some 35 := by kernel_rfl
theorem CI.cells {w : World} {A : Option Addr} {xs : List Itm} (h : CI w A xs) (hp : 0 < xs.length) : ∃ ad, A = some ad ∧ ∀ i (hi : i < xs.length), Ok xs[i] ∧ ∀ j u, (cellsOf xs[i])[j]? = some u → w.cell? (ad.add (i * 35 + j)) = some u := by
  obtain ⟨ad, e, hc⟩ := h.2.2 hp
  refine ⟨ad, e, fun i hi => ?_⟩
  obtain ⟨c, hl, hk, hcell⟩ := hc i xs[i] (List.getElem?_eq_getElem hi)
  obtain ⟨rfl, hok⟩ := hk
  exact ⟨hok, hcell⟩
theorem item_at {w : World} {A : Option Addr} {xs : List Itm} (h : CI w A xs) (i : Nat) (hi : i < xs.length) :
    ∃ ad, A = some ad ∧ Ok xs[i] ∧ w.cell? (ad.add (i * 35)) = some (.string xs[i].name) ∧ (Instr.loadAt 28 (.pointer (some (ad.add (i * 35))))).run Try.prog w = .ok (.agg (cellsOf xs[i]).toArray) w := by
  obtain ⟨ad, rfl, hc⟩ := CI.cells h (by omega)
  obtain ⟨hok, hcell⟩ := hc i hi
  refine ⟨ad, rfl, hok, hcell 0 _ (cells_name _), ?_⟩
  exact Ag.run_loadVar_at _ 28 _ _ (fun j v hv => by rw [Go.Deep.add_add]; exact hcell j v hv) Try.underlying28 rfl (by rw [info28, cells_len hok])
theorem upto_next {α : Type} {l : List α} {p : α → Prop} {j : Nat} (h : ∀ i (hi : i < l.length), i < j → p l[i]) (hlt : j < l.length) (hj : p l[j]) : ∀ i (hi : i < l.length), i < j + 1 → p l[i] := by
  intro i hi hij
  rcases Nat.lt_or_ge i j with h1 | h1
  · exact h i hi h1
  · obtain rfl : i = j := by omega
    exact hj
/-- a whole item lies in a block of its own -/
def It (w : World) (g : Nat) (x : Itm) : Prop := w.heap[g]? = some (.cells (cellsOf x).toArray 28 (0, 0))
theorem it_name {w : World} {g : Nat} {x : Itm} (h : It w g x) : w.cell? ⟨g, 0, none⟩ = some (.string x.name) := by rw [blk_cell h]; simp [cells_name]
theorem it_kind {w : World} {g : Nat} {x : Itm} (h : It w g x) : w.cell? ⟨g, 1, none⟩ = some (.int .i64 x.kind) := by rw [blk_cell h]; simp [cells_kind]
theorem it_size {w : World} {g : Nat} {x : Itm} (h : It w g x) (hok : Ok x) : w.cell? ⟨g, 34, none⟩ = some (.int .i64 x.size) := by rw [blk_cell h]; simp [cells_size hok]
theorem cells_all (x : Itm) : (cellsOf x).toArray.all (·.oneCell') = true := by
  rw [Array.all_eq_true]
  intro i hi
  exact cells_one x _ (by simp)
theorem cells_sz {x : Itm} (h : Ok x) : (cellsOf x).toArray.size = 35 := by simp [cells_len h]
def item0 : Itm := ⟨ByteArray.empty, 0, List.replicate 32 0, 0⟩
theorem ok0 : Ok item0 := by simp [Ok, item0]
theorem zero28 : (Try.prog.info? 28).map (·.zero) = some (some (.agg (cellsOf item0).toArray)) := by kernel_rfl
theorem built0 : Try.prog.built 28 [] = some (cellsOf item0).toArray := by kernel_rfl
end Go.Proofs.Ytmcankeggbofhaa.It
