/- An item in a block of its own: a field is stored. -/
import Derived.Test.YtmcankeggbofhaaBy
import Derived.Laws.CopyRow
namespace Go.Proofs.Ytmcankeggbofhaa.Im
open Go.RowKit Go.Proofs.YtmcankeggbofhaaW.PrintWords Go.Proofs.YtmcankeggbofhaaW.PrintLast Go.Proofs.YtmcankeggbofhaaW.PrintMore
open It Nm Ag My Spc By
set_option linter.unusedVariables false
set_option linter.unusedSimpArgs false
theorem put_field {W : World} {g o : Nat} {ty : TypeId} {v : Value} {x x' : Itm} (h : It W g x) (hok : Ok x) (hi : (Try.prog.info? ty).map (·.size) = some v.cells.size) (h1 : ∀ u ∈ v.cells.toList, u.oneCell' = true) (hfit : o + v.cells.size ≤ 35)
    (he : (cellsOf x).take o ++ v.cells.toList ++ (cellsOf x).drop (o + v.cells.size) = cellsOf x') :
    (Instr.storeAt ty (.pointer (some ⟨g, o, none⟩)) v).run Try.prog W = .ok () (W.setRow g (cellsOf x').toArray) := by
  have hr := run_storeCells_at Try.prog g o 28 v.cells.toList 0 (cellsOf x).toArray W h (by rw [cells_sz hok]; simpa using hfit) h1
  simp only [Nat.add_zero, Array.length_toList] at hr
  rw [he] at hr
  obtain ⟨i, hq, hs⟩ := Option.map_eq_some_iff.1 hi
  simp only [Instr.storeAt, Instr.sureAddr, Sem.run_bind, Sem.run_pure, Result.andThen_ok, storeVar]
  simp [sizeOf, typeInfo, hq, hs, hr]
theorem it_put {W : World} {g : Nat} {x : Itm} (x' : Itm) (h : It W g x) : It (W.setRow g (cellsOf x').toArray) g x' := setRow_heap W g _ _ 28 (0, 0) h
theorem grown_put (W : World) (g : Nat) (cs : Array Value) : W.grownBy (W.setRow g cs) (some g) := ⟨rfl, rfl, rfl, by simp, fun k hk hne => setRow_other W g k cs (fun e => hne (by rw [e]))⟩
theorem cells_put_kind (x : Itm) (k : Int) : (cellsOf x).take 1 ++ (Value.int .i64 k).cells.toList ++ (cellsOf x).drop (1 + (Value.int .i64 k).cells.size) = cellsOf { x with kind := k } := rfl
theorem cells_put_name (x : Itm) (s : ByteArray) : (cellsOf x).take 0 ++ (Value.string s).cells.toList ++ (cellsOf x).drop (0 + (Value.string s).cells.size) = cellsOf { x with name := s } := rfl
theorem cells_put_size {x : Itm} (hok : Ok x) (n : Int) : (cellsOf x).take 34 ++ (Value.int .i64 n).cells.toList ++ (cellsOf x).drop (34 + (Value.int .i64 n).cells.size) = cellsOf { x with size := n } := by
  unfold Ok at hok
  have h1 : (cellsOf x).take 34 = Value.string x.name :: Value.int .i64 x.kind :: nums .u8 x.of := by
    unfold cellsOf
    rw [← List.cons_append, ← List.cons_append, List.take_append_of_le_length (by simp [nums, hok]), List.take_of_length_le (by simp [nums, hok])]
  have h2 : (cellsOf x).drop 35 = [] := List.drop_of_length_le (by rw [cells_len hok]; omega)
  show (cellsOf x).take 34 ++ [Value.int .i64 n] ++ (cellsOf x).drop 35 = _
  rw [h1, h2]
  simp [cellsOf]
theorem cells_put_of {x : Itm} (hok : Ok x) (r : List Int) (hr : r.length = 32) : (cellsOf x).take 2 ++ (Value.agg (nums .u8 r).toArray).cells.toList ++ (cellsOf x).drop (2 + (Value.agg (nums .u8 r).toArray).cells.size) = cellsOf { x with of := r } := by
  unfold Ok at hok
  have hs : (Value.agg (nums .u8 r).toArray).cells.size = 32 := by simp [Value.cells, nums, hr]
  rw [hs]
  have h1 : (cellsOf x).drop 34 = [Value.int .i64 x.size] := by
    unfold cellsOf
    rw [← List.cons_append, ← List.cons_append, List.drop_append]
    simp [nums, hok]
  show (cellsOf x).take 2 ++ nums .u8 r ++ (cellsOf x).drop 34 = _
  rw [h1]
  simp [cellsOf]
theorem info3 : (Try.prog.info? 3).map (·.size) = some 1 := by kernel_rfl
theorem info2 : (Try.prog.info? 2).map (·.size) = some 1 := by kernel_rfl
theorem info9 : (Try.prog.info? 9).map (·.size) = some 1 := by kernel_rfl
theorem info26 : (Try.prog.info? 26).map (·.size) = some 32 := by kernel_rfl
section
variable {ops : Array Oper} {rest : List Oper} {o : Oper} {a : Act} {Q : Exit → Act → World → Prop}
theorem op_put {w0 W : World} (B : Nat) (hgd : o.guard = none) (ty : TypeId) (px y : Operand) (ho : o.op = .store ty px y) (g off : Nat) (v : Value) (x x' : Itm) (hx : a.eval px = .pointer (some ⟨g, off, none⟩)) (hy : a.eval y = v)
    (h : It W g x) (hrun : (Instr.storeAt ty (.pointer (some ⟨g, off, none⟩)) v).run Try.prog W = .ok () (W.setRow g (cellsOf x').toArray)) (HB : Below B w0 W) (hBg : B ≤ g)
    (hk : ∀ w1 : World, Aside0 (It w1 g x') → Aside0 (W.grownBy w1 (some g)) → Aside0 (Below B w0 w1) → wpList Try.prog ops Q rest (a.put o.dst undef) w1) : wpList Try.prog ops Q (o :: rest) a W := by
  refine wpList_plain hgd fun K hK => ?_
  unfold Oper.wp execOp
  simp only [ho, hx, hy, hrun, Sem.run_bind, Result.andThen_ok, Sem.run_pure]
  exact hK _ _ (hk _ ⟨it_put x' h⟩ ⟨grown_put W g _⟩ ⟨below_setRow HB hBg _⟩)
end
/-- the function hands back a struct that lies in memory, and two values -/
theorem ret_row3 {P : Program} {fn : Func} {R : Ending → World → Prop} {a : Act} {w : World} {p u u2 : Tmp} {ty : TypeId} (hres : fn.results = #[.cell p ty, .tmp u, .tmp u2]) (g : Nat) (hp : a.tmps.getD p undef = .pointer (some ⟨g, 0, none⟩)) (t : TypeId) (cs : Array Value) (d : TypeDesc) (hg : w.heap[g]? = some (.cells cs t (0, 0)))
    (hu : P.underlying ty = some d) (hd : (match d with | .struct _ | .array _ _ => true | _ => false) = true) (n : Nat) (hi : (P.info? ty).map (·.size) = some n) (hn : cs.size = n) (hdef : a.defers = []) (h : R (.returned (.tuple #[.agg cs, a.tmps.getD u undef, a.tmps.getD u2 undef])) w) : bodyPost P fn R .ret a w := by
  refine bodyPost_ret ?_ hdef h
  have hr : (results fn a.tmps).run P w = ((asAddr (a.tmps.getD p undef)).run P w).andThen fun b w₁ => ((loadVar ty b).run P w₁).andThen fun v w₂ => .ok (.tuple #[v, a.tmps.getD u undef, a.tmps.getD u2 undef]) w₂ := by
    simp only [results, hres]
    simp [Sem.run_bind, Result.andThen]
  rw [hr, hp]
  simp only [asAddr, Sem.run_pure, Result.andThen_ok, run_loadVar_row w g t ty cs (0, 0) d hg hu hd (by rw [hi, hn])]

/-- what stands at the beginning of bytes, read as an item -/
def parse (b : List Int) : Option (Itm × List Int) :=
  match b with
  | [] => none
  | c :: r =>
    let t := OctD.takeT r
    if t.2.2 ≠ 0 then none else
    let b1 := r.drop t.2.1.toNat
    if b1.length < 32 then none else
    let b2 := b1.drop 32
    let n := OctC.take 0 0 b2
    if n.2.2 ≠ 0 ∨ 9223372036854775807 < n.1 then none else
    some (⟨strOfNums t.1, c, b1.take 32, n.1⟩, b2.drop n.2.1.toNat)
end Go.Proofs.Ytmcankeggbofhaa.Im
