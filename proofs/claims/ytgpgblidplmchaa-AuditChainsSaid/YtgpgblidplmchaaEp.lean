/- An entry in a block of its own: a field is stored; what stands at bytes' beginning, read as an entry. -/
import Derived.Test.YtgpgblidplmchaaEg
import Derived.Test.YtgpgblidplmchaaRefB
namespace Go.Proofs.Ytgpgblidplmchaa.Ep
open Go.RowKit Go.Proofs.YtgpgblidplmchaaW.PrintWords Go.Proofs.YtgpgblidplmchaaW.PrintLast Go.Proofs.YtgpgblidplmchaaW.PrintMore
open En Ag Spc OctA OctC Eb Eg
set_option linter.unusedVariables false
set_option linter.unusedSimpArgs false
set_option maxRecDepth 100000
theorem put_field {W : World} {g o : Nat} {ty : TypeId} {v : Value} {x x' : Ent} (h : It W g x) (hok : Ok x) (hi : (Try.prog.info? ty).map (·.size) = some v.cells.size) (h1 : ∀ u ∈ v.cells.toList, u.oneCell' = true) (hfit : o + v.cells.size ≤ 38)
    (he : (cellsOf x).take o ++ v.cells.toList ++ (cellsOf x).drop (o + v.cells.size) = cellsOf x') :
    (Instr.storeAt ty (.pointer (some ⟨g, o, none⟩)) v).run Try.prog W = .ok () (W.setRow g (cellsOf x').toArray) := by
  have hr := run_storeCells_at Try.prog g o 27 v.cells.toList 0 (cellsOf x).toArray W h (by rw [cells_sz hok]; simpa using hfit) h1
  simp only [Nat.add_zero, Array.length_toList] at hr
  rw [he] at hr
  obtain ⟨i, hq, hs⟩ := Option.map_eq_some_iff.1 hi
  simp only [Instr.storeAt, Instr.sureAddr, Sem.run_bind, Sem.run_pure, Result.andThen_ok, storeVar]
  simp [sizeOf, typeInfo, hq, hs, hr]
theorem it_put {W : World} {g : Nat} {x : Ent} (x' : Ent) (h : It W g x) : It (W.setRow g (cellsOf x').toArray) g x' := setRow_heap W g _ _ 27 (0, 0) h
theorem grown_put (W : World) (g : Nat) (cs : Array Value) : W.grownBy (W.setRow g cs) (some g) := ⟨rfl, rfl, rfl, by simp, fun k hk hne => setRow_other W g k cs (fun e => hne (by rw [e]))⟩
theorem info3 : (Try.prog.info? 3).map (·.size) = some 1 := by kernel_rfl
theorem info2 : (Try.prog.info? 2).map (·.size) = some 1 := by kernel_rfl
theorem one_int (k : IntKind) (n : Int) : ∀ u ∈ (Value.int k n).cells.toList, u.oneCell' = true := by
  intro u hu
  have : u = .int k n := by simpa [Value.cells] using hu
  subst this; rfl
theorem put_act {W : World} {g : Nat} {x : Ent} (h : It W g x) (hok : Ok x) (n : Int) : (Instr.storeAt 3 (.pointer (some ⟨g, 4, none⟩)) (.int .i64 n)).run Try.prog W = .ok () (W.setRow g (cellsOf { x with act := n }).toArray) :=
  put_field h hok info3 (one_int .i64 n) (by show 4 + 1 ≤ 38; omega) rfl
theorem put_status {W : World} {g : Nat} {x : Ent} (h : It W g x) (hok : Ok x) (n : Int) : (Instr.storeAt 3 (.pointer (some ⟨g, 5, none⟩)) (.int .i64 n)).run Try.prog W = .ok () (W.setRow g (cellsOf { x with status := n }).toArray) :=
  put_field h hok info3 (one_int .i64 n) (by show 5 + 1 ≤ 38; omega) rfl
theorem put_seq {W : World} {g : Nat} {x : Ent} (h : It W g x) (hok : Ok x) (n : Int) : (Instr.storeAt 2 (.pointer (some ⟨g, 0, none⟩)) (.int .i64 n)).run Try.prog W = .ok () (W.setRow g (cellsOf { x with seq := n }).toArray) :=
  put_field h hok info2 (one_int .i64 n) (by show 0 + 1 ≤ 38; omega) rfl
theorem put_of {W : World} {g : Nat} {x : Ent} (h : It W g x) (hok : Ok x) (r : List Int) (hr : r.length = 32) : (Instr.storeAt 25 (.pointer (some ⟨g, 6, none⟩)) (.agg (nums .u8 r).toArray)).run Try.prog W = .ok () (W.setRow g (cellsOf { x with of := r }).toArray) := by
  have hs : (Value.agg (nums .u8 r).toArray).cells.size = 32 := by simp [Value.cells, nums, hr]
  refine put_field h hok (by rw [hs]; exact info25) (by intro u hu; have : u ∈ nums .u8 r := by simpa [Value.cells] using hu
                                                        exact Tw.nums_one .u8 r u this) (by rw [hs]; omega) ?_
  rw [hs]
  unfold Ok at hok
  have h1 : (cellsOf x).drop 38 = [] := List.drop_of_length_le (by simp [cellsOf, nums, hok])
  show (cellsOf x).take 6 ++ nums .u8 r ++ (cellsOf x).drop 38 = _
  rw [h1]
  simp [cellsOf]
theorem put_run {o : Oper} {a : Act} {W : World} {ty : TypeId} {px y : Operand} {p v : Value} {W' : World} (ho : o.op = .store ty px y) (hx : a.eval px = p) (hy : a.eval y = v) (h : (Instr.storeAt ty p v).run Try.prog W = .ok () W') : (execOp a.eval o).run Try.prog W = .ok .skip W' := by
  simp only [execOp, ho, hx, hy, Sem.run_bind, h, Result.andThen_ok, Sem.run_pure]
section
variable {ops : Array Oper} {rest : List Oper} {o : Oper} {a : Act} {Q : Exit → Act → World → Prop}
theorem op_put {w0 W : World} (B : Nat) (hgd : o.guard = none) (ty : TypeId) (px y : Operand) (ho : o.op = .store ty px y) (g off : Nat) (v : Value) (x x' : Ent) (hx : a.eval px = .pointer (some ⟨g, off, none⟩)) (hy : a.eval y = v)
    (h : It W g x) (hrun : (Instr.storeAt ty (.pointer (some ⟨g, off, none⟩)) v).run Try.prog W = .ok () (W.setRow g (cellsOf x').toArray)) (HB : Below B w0 W) (hBg : B ≤ g)
    (hk : ∀ w1 : World, Aside0 (It w1 g x') → Aside0 (W.grownBy w1 (some g)) → Aside0 (Below B w0 w1) → wpList Try.prog ops Q rest (a.put o.dst undef) w1) : wpList Try.prog ops Q (o :: rest) a W := by
  refine wpList_plain hgd fun K hK => ?_
  unfold Oper.wp execOp
  simp only [ho, hx, hy, hrun, Sem.run_bind, Result.andThen_ok, Sem.run_pure]
  exact hK _ _ (hk _ ⟨it_put x' h⟩ ⟨grown_put W g _⟩ ⟨below_setRow HB hBg _⟩)
end
/-- the function hands back a struct that lies in memory, and two values -/
theorem ret_row3 {P : Program} {fn : Func} {R : Ending → World → Prop} {a : Act} {w : World} {p u u2 : Tmp} {ty : TypeId} (hres : fn.results = #[.cell p ty, .tmp u, .tmp u2]) (g : Nat) (hp : a.tmps.getD p undef = .pointer (some ⟨g, 0, none⟩)) (t : TypeId) (cs : Array Value) (d : TypeDesc) (hg : w.heap[g]? = some (.cells cs t (0, 0)))
    (hu : P.underlying ty = some d) (hd : (match d with | .struct _ | .array _ _ => true | _ => false) = true) (n : Nat) (hi : (P.info? ty).map (·.size) = some n) (hn : cs.size = n) (hdef : a.defers = []) (h : R (.returned (.tuple #[.agg cs, a.tmps.getD u undef, a.tmps.getD u2 undef])) w) : bodyPost P fn R .ret a w := by
  refine bodyPost_ret ?_ hdef h
  have hr : (results fn a.tmps).run P w = ((asAddr (a.tmps.getD p undef)).run P w).andThen fun b w₁ => ((loadVar ty b).run P w₁).andThen fun v w₂ => .ok (.tuple #[v, a.tmps.getD u undef, a.tmps.getD u2 undef]) w₂ := by
    simp only [results, hres]
    simp [Sem.run_bind, Result.andThen]
  rw [hr, hp]
  simp only [asAddr, Sem.run_pure, Result.andThen_ok, run_loadVar_row w g t ty cs (0, 0) d hg hu hd (by rw [hi, hn])]
/-- the entry that stands in bytes, c bytes of a name -/
def entAt (b : List Int) (c : Nat) : Ent := ⟨(Spc.val 0 (b.take 8) : Nat), (Spc.val 0 ((b.drop 8).take 8) : Nat), (Spc.val 0 ((b.drop 16).take 8) : Nat), strOfNums ((b.take (25 + c)).drop 25), b.getD (25 + c) 0, b.getD (25 + c + 1) 0 * 256 + b.getD (25 + c + 2) 0, (b.drop (25 + c + 3)).take 32⟩
def lenN (b : List Int) : Nat := (b.getD 24 0).toNat
def takeOut (b : List Int) : Ent × Int × Int := if beginsB b = false then (ent0, 0, 4) else if b.length ≤ 24 then (ent0, 0, 3) else if b.length < 60 + lenN b then (ent0, 0, 3) else (entAt b (lenN b), 60 + lenN b, 0)
theorem begins_parts {b : List Int} (h : beginsB b = true) (hl : 24 < b.length) : b.getD 0 0 ≤ 127 ∧ b.getD 8 0 ≤ 127 ∧ b.getD 24 0 ≤ 16 ∧ stat b (26 + lenN b) = true := by
  unfold beginsB at h
  by_cases h0 : (bad b 0 || bad b 8) = true
  · rw [if_pos h0] at h; cases h
  rw [if_neg h0, if_neg (by omega)] at h
  simp only [Bool.or_eq_true, not_or, Bool.not_eq_true] at h0
  by_cases h16 : 16 < b.getD 24 0
  · rw [if_pos h16] at h; cases h
  rw [if_neg h16] at h
  have e : ∀ i, bad b i = false → i < b.length → b.getD i 0 ≤ 127 := by
    intro i hi hlt
    unfold bad at hi
    rw [decide_eq_true hlt, Bool.true_and, decide_eq_false_iff_not] at hi
    omega
  exact ⟨e 0 h0.1 (by omega), e 8 h0.2 (by omega), by omega, h⟩
theorem val_small {l : List Int} (hl : l.length = 8) (hb : ∀ x ∈ l, 0 ≤ x ∧ x < 256) (h0 : l.getD 0 0 ≤ 127) : Spc.val 0 l < 9223372036854775808 := by
  cases l with
  | nil => simp at hl
  | cons x l =>
    have hx := hb x (by simp)
    have hx2 : x ≤ 127 := h0
    have := val_lt l (0 * 256 + x.toNat) (fun y hy => hb y (by simp [hy]))
    have hl7 : l.length = 7 := by simpa using hl
    rw [hl7] at this
    simp only [Spc.val]
    have h7 : (256 : Nat) ^ 7 = 72057594037927936 := by decide
    rw [h7] at this
    omega
end Go.Proofs.Ytgpgblidplmchaa.Ep
