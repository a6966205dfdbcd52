/- A log's entry in memory: its cells, rows of entries. -/
import Derived.Test.YtgpgblidplmchaaAg
import Derived.Deep.Slices
import Derived.BigQuiet
import Derived.Laws.Cover1
import Derived.Laws.CopyRow
import Derived.Test.YtgpgblidplmchaaWArr
import Derived.Test.YtgpgblidplmchaaWTab
import Derived.Test.YtgpgblidplmchaaWEqStruct
namespace Go.Proofs.Ytgpgblidplmchaa.En
open Go.RowKit Go.Proofs.YtgpgblidplmchaaW.PrintWords Go.Proofs.YtgpgblidplmchaaW.PrintLast Go.Proofs.YtgpgblidplmchaaW.PrintMore
open Ag
set_option linter.unusedVariables false
set_option linter.unusedSimpArgs false
set_option maxRecDepth 100000
structure Ent where
  seq : Int
  tick : Int
  serial : Int
  ten : ByteArray
  act : Int
  status : Int
  of : List Int
instance : Inhabited Ent := ⟨⟨0, 0, 0, ByteArray.empty, 0, 0, []⟩⟩
def cellsOf (x : Ent) : List Value := Value.int .i64 x.seq :: Value.int .i64 x.tick :: Value.int .u64 x.serial :: Value.string x.ten :: Value.int .i64 x.act :: Value.int .i64 x.status :: nums .u8 x.of
def Ok (x : Ent) : Prop := x.of.length = 32
theorem cells_len {x : Ent} (h : Ok x) : (cellsOf x).length = 38 := by unfold Ok at h; simp [cellsOf, nums, h]
theorem cells_one (x : Ent) : ∀ u ∈ cellsOf x, u.oneCell' = true := by
  intro u hu
  simp only [cellsOf, nums, List.mem_cons, List.mem_map] at hu
  rcases hu with rfl | rfl | rfl | rfl | rfl | rfl | ⟨y, _, rfl⟩ <;> rfl
theorem cells_all (x : Ent) : (cellsOf x).toArray.all (·.oneCell') = true := by
  rw [Array.all_eq_true]
  intro i hi
  exact cells_one x _ (by simp)
theorem cells_sz {x : Ent} (h : Ok x) : (cellsOf x).toArray.size = 38 := by simp [cells_len h]
def kd : Kd Ent where
  sz := 38
  E := []
  K := fun _ x cs => cs = cellsOf x ∧ Ok x
  M := fun _ _ _ x cs => cs = cellsOf x ∧ Ok x
  K_len := fun h => by rw [h.1]; exact cells_len h.2
  K_one := fun h => by rw [h.1]; exact cells_one _
  K_below := fun _ h => h
  K_of_M := fun h => h
  M_mono := fun _ h => h
  M_bound := fun h => h
  M_move := fun _ h => h
  M_lower := fun _ h => h
/-- entries that are read; entries of the call's own -/
abbrev CE (w : World) (A : Option Addr) (xs : List Ent) : Prop := Kd.C kd w A xs.length xs
abbrev RE (w : World) (base : Nat) (v : Value) (xs : List Ent) : Prop := Kd.R kd 27 w base (fun _ => True) v xs
theorem info27 : (Try.prog.info? 27).map (·.size) = some 38 := by kernel_rfl
theorem info25 : (Try.prog.info? 25).map (·.size) = some 32 := by kernel_rfl
theorem CE.cells {w : World} {A : Option Addr} {xs : List Ent} (h : CE w A xs) (hp : 0 < xs.length) : ∃ ad, A = some ad ∧ ∀ i (hi : i < xs.length), Ok xs[i] ∧ ∀ j u, (cellsOf xs[i])[j]? = some u → w.cell? (ad.add (i * 38 + j)) = some u := by
  obtain ⟨ad, e, hc⟩ := h.2.2 hp
  refine ⟨ad, e, fun i hi => ?_⟩
  obtain ⟨c, hl, hk, hcell⟩ := hc i xs[i] (List.getElem?_eq_getElem hi)
  obtain ⟨rfl, hok⟩ := hk
  exact ⟨hok, hcell⟩
theorem ent_at {w : World} {A : Option Addr} {xs : List Ent} (h : CE w A xs) (i : Nat) (hi : i < xs.length) :
    ∃ ad, A = some ad ∧ Ok xs[i] ∧ (∀ j u, (cellsOf xs[i])[j]? = some u → w.cell? (ad.add (i * 38 + j)) = some u) ∧ (Instr.loadAt 27 (.pointer (some (ad.add (i * 38))))).run Try.prog w = .ok (.agg (cellsOf xs[i]).toArray) w := by
  obtain ⟨ad, rfl, hc⟩ := CE.cells h (by omega)
  obtain ⟨hok, hcell⟩ := hc i hi
  refine ⟨ad, rfl, hok, hcell, ?_⟩
  exact Ag.run_loadVar_at _ 27 _ _ (fun j v hv => by rw [Go.Deep.add_add]; exact hcell j v hv) Try.underlying27 rfl (by rw [info27, cells_len hok])
/-- a whole entry lies in a block of its own -/
def It (w : World) (g : Nat) (x : Ent) : Prop := w.heap[g]? = some (.cells (cellsOf x).toArray 27 (0, 0))
theorem it_cell {w : World} {g : Nat} {x : Ent} (h : It w g x) (j : Nat) (u : Value) (hu : (cellsOf x)[j]? = some u) : w.cell? ⟨g, j, none⟩ = some u := by rw [blk_cell h]; simpa using hu
def ent0 : Ent := ⟨0, 0, 0, ByteArray.empty, 0, 0, List.replicate 32 0⟩
theorem ok0 : Ok ent0 := by simp [Ok, ent0]
theorem zero27 : (Try.prog.info? 27).map (·.zero) = some (some (.agg (cellsOf ent0).toArray)) := by kernel_rfl
theorem built00 : Try.prog.built 27 [] = some (cellsOf ent0).toArray := by kernel_rfl
def id0 : List Int := List.replicate 32 0
theorem built25 : Try.prog.built 25 [] = some (nums .u8 id0).toArray := by kernel_rfl
theorem zero25 : (Try.prog.info? 25).map (·.zero) = some (some (.agg (nums .u8 id0).toArray)) := by kernel_rfl
theorem load_it {W : World} {g : Nat} {x : Ent} (h : It W g x) (hok : Ok x) : (Instr.loadAt 27 (.pointer (some ⟨g, 0, none⟩))).run Try.prog W = .ok (.agg (cellsOf x).toArray) W := by
  simp only [Instr.loadAt, Instr.sureAddr, Sem.run_bind, Sem.run_pure, Result.andThen_ok, run_loadVar_row W g 27 27 _ (0, 0) _ h Try.underlying27 rfl (by rw [info27, cells_sz hok])]
/-- may an entry be? -/
def mayE (x : Ent) : Bool := decide (0 ≤ x.seq) && (decide (0 ≤ x.tick) && (decide (0 ≤ x.act) && (decide (x.act ≤ 255) && (decide (0 ≤ x.status) && (decide (x.status ≤ 999) && decide ((x.ten.size : Int) ≤ 16))))))
section
variable {ops : Array Oper} {rest : List Oper} {o : Oper} {a : Act} {Q : Exit → Act → World → Prop}
theorem op_load_at {P : Program} {W : World} (hgd : o.guard = none) (ty : TypeId) (x : Operand) (ho : o.op = .load ty x) (p v : Value) (hx : a.eval x = p) (h1 : (Instr.loadAt ty p).run P W = .ok v W)
    (h : wpList P ops Q rest (a.put o.dst v) W) : wpList P ops Q (o :: rest) a W := Kd.event_run hgd (load_run ho hx h1) h
theorem event_on {P : Program} {W w1 : World} {v : Value} (hw : Region.wanted o (yielded ops a.tmps) = true) (hrun : (execOp a.eval o).run P W = .ok (.value v) w1) (h : wpList P ops Q rest (a.put o.dst v) w1) : wpList P ops Q (o :: rest) a W := by
  rw [wpList, if_pos hw]
  refine .inl ?_
  unfold Oper.wp
  rw [hrun]
  exact h
end
theorem below_new {W W' : World} {o : Obj} (h : (W.alloc o).grownBy W' (some W.heap.size)) : Below W.heap.size W W' :=
  ((Below.refl W.heap.size W).alloc (Nat.le_refl _) o).grown h (by simp) (fun k hk => by cases hk; exact Nat.le_refl _)
set_option maxHeartbeats 3200000 in
theorem may_calls (x : Ent) (w : World) (hok : Ok x) : Calls Try.prog 20 #[.agg (cellsOf x).toArray] w fun e w' => e = .returned (.bool (mayE x)) ∧ Below w.heap.size w w' := by
  have HB := Aside0.mk ((Below.refl w.heap.size w).alloc (Nat.le_refl _) (.cells (cellsOf x).toArray 27))
  have hg := Aside0.mk (show It (w.alloc (.cells (cellsOf x).toArray 27)) w.heap.size x from heap_alloc_new w _)
  have k0 := it_cell hg.out 0 _ rfl
  have k1 := it_cell hg.out 1 _ rfl
  have k3 := it_cell hg.out 3 _ rfl
  have k4 := it_cell hg.out 4 _ rfl
  have k5 := it_cell hg.out 5 _ rfl
  have HM := Aside0.mk (show mayE x = (decide (0 ≤ x.seq) && (decide (0 ≤ x.tick) && (decide (0 ≤ x.act) && (decide (x.act ≤ 255) && (decide (0 ≤ x.status) && (decide (x.status ≤ 999) && decide ((x.ten.size : Int) ≤ 16)))))) ) from rfl)
  clear hok
  go_enter Try.func20, Try.ntmps20
  go_wp2_with fail
  all_goals
    go_ret
    refine ⟨?_, HB.out⟩
    rw [HM.out]
    congr 2
    simp_all <;> (intros; omega)
set_option maxHeartbeats 3200000 in
theorem ref_may_calls (x : Ent) (w : World) (hok : Ok x) : Calls Try.prog 21 #[.agg (cellsOf x).toArray] w fun e w' => e = .returned (.bool (mayE x)) ∧ Below w.heap.size w w' := by
  have HB := Aside0.mk ((Below.refl w.heap.size w).alloc (Nat.le_refl _) (.cells (cellsOf x).toArray 27))
  have hg := Aside0.mk (show It (w.alloc (.cells (cellsOf x).toArray 27)) w.heap.size x from heap_alloc_new w _)
  have k0 := it_cell hg.out 0 _ rfl
  have k1 := it_cell hg.out 1 _ rfl
  have k3 := it_cell hg.out 3 _ rfl
  have k4 := it_cell hg.out 4 _ rfl
  have k5 := it_cell hg.out 5 _ rfl
  have HM := Aside0.mk (show mayE x = (decide (0 ≤ x.seq) && (decide (0 ≤ x.tick) && (decide (0 ≤ x.act) && (decide (x.act ≤ 255) && (decide (0 ≤ x.status) && (decide (x.status ≤ 999) && decide ((x.ten.size : Int) ≤ 16)))))) ) from rfl)
  clear hok
  go_enter Try.func21, Try.ntmps21
  go_wp2_with fail
  all_goals
    go_ret
    refine ⟨?_, HB.out⟩
    rw [HM.out]
    congr 2
    simp_all <;> (intros; omega)
end Go.Proofs.Ytgpgblidplmchaa.En
