/- A literal of one item; an item appended. -/
import Derived.Test.YtmcankeggbofhaaTk
import Derived.Great.BuildSlice
namespace Go.Proofs.Ytmcankeggbofhaa.Tl
open Go.RowKit Go.Proofs.YtmcankeggbofhaaW.PrintWords Go.Proofs.YtmcankeggbofhaaW.PrintMore
open It Nm Ag My Spc By Im Iw Ip
set_option linter.unusedVariables false
set_option linter.unusedSimpArgs false
set_option maxRecDepth 100000
theorem lit_fill {base : Array Value} (hb : base.size = 35) {x : Itm} (hok : Ok x) : Instr.fill (fun i => some (i * 35, 35)) base [(0, .agg (cellsOf x).toArray)] = some (cellsOf x).toArray := by
  rw [fill_one _ _ 0 _ _ 0 35 rfl (by show (cellsOf x).toArray.size = 35; exact cells_sz hok) (by omega)]
  simp only [Instr.fill]
  congr 1
  have h35 : (cellsOf x).length = 35 := cells_len hok
  have hd : base.toList.drop 35 = [] := List.drop_of_length_le (by simp [hb])
  simp [Value.cells, h35, hb]
theorem info28z : (Try.prog.info? 28).map (fun i => (i.zero, i.size)) = some (some (.agg (cellsOf item0).toArray), 35) := by kernel_rfl
theorem info28b : (Try.prog.info? 28).map (fun i => (i.zero, i.size, i.bytes)) = some (some (.agg (cellsOf item0).toArray), 35, 64) := by kernel_rfl
theorem op_lit1 {ops : Array Oper} {rest : List Oper} {o : Oper} {a : Act} {Q : Exit → Act → World → Prop} {W : World} (hgd : o.guard = none) (y : Operand) (ho : o.op = .buildSlice 22 1 #[(0, y)]) (x : Itm) (hok : Ok x) (hy : a.eval y = .agg (cellsOf x).toArray)
    (h : wpList Try.prog ops Q rest (a.put o.dst (.slice (some ⟨W.heap.size, 0, none⟩) 1 1)) (W.alloc (.cells (cellsOf x).toArray 28))) : wpList Try.prog ops Q (o :: rest) a W := by
  obtain ⟨ie, hi, hz⟩ := Option.map_eq_some_iff.1 info28z
  simp only [Prod.mk.injEq] at hz
  refine wpList_buildSlice hgd 22 28 1 #[(0, y)] ho (cellsOf x).toArray ie _ Try.underlying22 hi hz.1 (by rw [hz.2]; decide) (by rw [hz.2]; decide) ?_ h
  rw [hz.2, Array.toList_map]
  show Instr.fill _ _ [(0, a.eval y)] = _
  rw [hy]
  exact lit_fill (by simp) hok
end Go.Proofs.Ytmcankeggbofhaa.Tl
