/- Sha's mix: a block of bytes is taken into the state. Sha's Write: bytes behind what was written. Sha's Sum and Of. Sha's Of: the sum of two parts, one behind the other. -/
import Derived.Test.YtgpgblidplmchaaSa
import Derived.Laws.CopyOwn
namespace Go.Proofs.Ytgpgblidplmchaa.Sx
open Go.RowKit Go.Proofs.YtgpgblidplmchaaW.PrintWords Go.Proofs.YtgpgblidplmchaaW.PrintLast Go.Proofs.YtgpgblidplmchaaW.PrintMore
open Ag POct Sw Sk Sm
set_option linter.unusedVariables false
set_option linter.unusedSimpArgs false
set_option maxRecDepth 100000
theorem set_same (xs : Array Value) (i : Nat) (v : Value) (h : xs[i]? = some v) : xs.setIfInBounds i v = xs := by
  apply Array.ext_getElem?
  intro j
  rw [Array.getElem?_setIfInBounds]
  by_cases hj : i = j
  · subst hj
    obtain ⟨hl, _⟩ := Array.getElem?_eq_some_iff.1 h
    rw [if_pos rfl, if_pos hl, h]
  · rw [if_neg hj]
theorem A_self (a : Act) (h11 : a.tmps[11]? = some undef) (h15 : a.tmps[15]? = some undef) (h2 : a.tmps[2]? = some undef) (h3 : a.tmps[3]? = some undef) (h4 : a.tmps[4]? = some undef) : a = A a undef undef undef undef undef := by
  unfold A
  rw [set_same _ 11 _ h11, set_same _ 15 _ h15, set_same _ 2 _ h2, set_same _ 3 _ h3, set_same _ 4 _ h4]
theorem st_sz {s : Hs} (hst : s.st.length = 8) : (nums .u32 s.st).toArray.size = 8 := by simp [nums, hst]
theorem zz85 : (nums .u32 zero85).toArray.size = 64 := by simp [nums, zero85]
theorem zz77 : (nums .u32 zero77).toArray.size = 8 := by simp [nums, zero77]
theorem stored {w : World} {g : Nat} {s : Hs} {W : World} {g2 g3 g4 : Nat} (hgw : g < w.heap.size) (hst : s.st.length = 8) (hB : Below w.heap.size w W) (hH : Hat W g s) (r2 : Fresh 85 w.heap.size W zero85 (some g2)) (r3 : Fresh 85 w.heap.size W zero85 (some g3)) (r4 : Fresh 77 w.heap.size W zero77 (some g4)) (n23 : g2 ≠ g3) (n24 : g2 ≠ g4) (n34 : g3 ≠ g4) :
    ∃ W1 W2 W3 : World, (∀ (o : Oper) (a : Act) (x y : Operand), o.op = .store 85 x y → a.eval x = .pointer (some ⟨g2, 0, none⟩) → a.eval y = .agg (nums .u32 keyL).toArray → (execOp a.eval o).run Try.prog W = .ok .skip W1) ∧
      (∀ (o : Oper) (a : Act) (x y : Operand), o.op = .store 85 x y → a.eval x = .pointer (some ⟨g3, 0, none⟩) → a.eval y = .agg (nums .u32 (sched s.wait 48)).toArray → (execOp a.eval o).run Try.prog W1 = .ok .skip W2) ∧
      (∀ (o : Oper) (a : Act) (x y : Operand), o.op = .store 77 x y → a.eval x = .pointer (some ⟨g4, 0, none⟩) → a.eval y = .agg (nums .u32 s.st).toArray → (execOp a.eval o).run Try.prog W2 = .ok .skip W3) ∧
      (Below w.heap.size w W1 ∧ Hat W1 g s) ∧ (Below w.heap.size w W2 ∧ Hat W2 g s) ∧ True ∧ True ∧
      Below w.heap.size w W3 ∧ Hat W3 g s ∧ Rw .u32 85 W3 g2 keyL ∧ Rw .u32 85 W3 g3 (sched s.wait 48) ∧ Rw .u32 77 W3 g4 s.st := by
  have hw : ∀ (V : World) (k : Nat) (cs : Array Value) (q : Nat), q ≠ k → (V.setRow k cs).heap[q]? = V.heap[q]? := fun V k cs q hq => setRow_other V k q cs hq
  have ge2 : w.heap.size ≤ g2 := r2.1
  have ge3 : w.heap.size ≤ g3 := r3.1
  have ge4 : w.heap.size ≤ g4 := r4.1
  have e2 : W.heap[g2]? = some (.cells (nums .u32 zero85).toArray 85 (0, 0)) := r2.2
  have e3 : W.heap[g3]? = some (.cells (nums .u32 zero85).toArray 85 (0, 0)) := r3.2
  have e4 : W.heap[g4]? = some (.cells (nums .u32 zero77).toArray 77 (0, 0)) := r4.2
  clear r2 r3 r4
  generalize hk : (nums .u32 keyL).toArray = K2
  generalize hs : (nums .u32 (sched s.wait 48)).toArray = K3
  generalize ht : (nums .u32 s.st).toArray = K4
  generalize hz : (nums .u32 zero85).toArray = Z at e2 e3
  generalize hy : (nums .u32 zero77).toArray = Y at e4
  have k2 : K2.size = 64 := by rw [← hk]; rfl
  have k3 : K3.size = 64 := by rw [← hs]; exact sched_sz _
  have k4 : K4.size = 8 := by rw [← ht]; exact st_sz hst
  have kz : Z.size = 64 := by rw [← hz]; exact zz85
  have ky : Y.size = 8 := by rw [← hy]; exact zz77
  have a2 : K2.all (·.oneCell') = true := by rw [← hk]; exact nums_all _ _
  have a3 : K3.all (·.oneCell') = true := by rw [← hs]; exact nums_all _ _
  have a4 : K4.all (·.oneCell') = true := by rw [← ht]; exact nums_all _ _
  have gg2 : g ≠ g2 := by omega
  have gg3 : g ≠ g3 := by omega
  have gg4 : g ≠ g4 := by omega
  have e3' := (hw W g2 K2 g3 (Ne.symm n23)).trans e3
  have e4' := (hw (W.setRow g2 K2) g3 K3 g4 (Ne.symm n34)).trans ((hw W g2 K2 g4 (Ne.symm n24)).trans e4)
  refine ⟨W.setRow g2 K2, (W.setRow g2 K2).setRow g3 K3, ((W.setRow g2 K2).setRow g3 K3).setRow g4 K4, ?_, ?_, ?_, ?_, ?_, trivial, trivial, ?_, ?_, ?_, ?_, ?_⟩
  · intro o a x y ho hx hy
    exact store_run W 85 x y ho g2 K2 hx hy 85 Z e2 64 sz85 k2 kz a2
  · intro o a x y ho hx hy
    exact store_run _ 85 x y ho g3 K3 hx hy 85 Z e3' 64 sz85 k3 kz a3
  · intro o a x y ho hx hy
    exact store_run _ 77 x y ho g4 K4 hx hy 77 Y e4' 8 sz77 k4 ky a4
  · exact ⟨below_setRow hB ge2 _, (hw _ _ _ _ gg2).trans hH⟩
  · exact ⟨below_setRow (below_setRow hB ge2 _) ge3 _, (hw _ _ _ _ gg3).trans ((hw _ _ _ _ gg2).trans hH)⟩
  · exact below_setRow (below_setRow (below_setRow hB ge2 _) ge3 _) ge4 _
  · exact (hw _ _ _ _ gg4).trans ((hw _ _ _ _ gg3).trans ((hw _ _ _ _ gg2).trans hH))
  · unfold Rw
    rw [hk]
    exact (hw _ _ _ _ n24).trans ((hw _ _ _ _ n23).trans (setRow_heap W g2 Z K2 85 (0, 0) e2))
  · unfold Rw
    rw [hs]
    exact (hw _ _ _ _ n34).trans (setRow_heap _ g3 Z K3 85 (0, 0) e3')
  · unfold Rw
    rw [ht]
    exact setRow_heap _ g4 Y K4 77 (0, 0) e4'
theorem stores_ {ops : Array Oper} {Q : Exit → Act → World → Prop} {a : Act} {S : World → Prop} {W W1 W2 W3 : World} (HT_ : rtab .any ops = mx0T) {o12 o13 o14 : Oper} (h12 : ops[12]? = some o12) (h13 : ops[13]? = some o13) (h14 : ops[14]? = some o14) (d12 : o12.dst = none) (d13 : o13.dst = none) (d14 : o14.dst = none) (w12 : o12.guard = none) (w13 : o13.guard = none) (w14 : o14.guard = none)
    (r1 : (execOp a.eval o12).run Try.prog W = .ok .skip W1) (r2 : (execOp a.eval o13).run Try.prog W1 = .ok .skip W2) (r3 : (execOp a.eval o14).run Try.prog W2 = .ok .skip W3) (s1 : S W1) (s2 : S W2) (s3 : S W3) (h : Q .normal a W3) :
    wpAnyLast Try.prog .any ops Q S [] 3 #[true, true, true, true, true, true, true, true, true, true, true, true, false, false, false] a W := by
  refine one_ (i := 12) (N := none) #[true, true, true, true, true, true, true, true, true, true, true, true, true, false, false] h12 d12 (one_of HT_ (by kernel_rfl)) List.not_mem_nil (fun K hK => ?_)
  refine skip_ (wanted_on w12) d12 r1 ?_
  refine hK.out _ _ s1 (fun _ => ?_)
  refine one_ (i := 13) (N := none) #[true, true, true, true, true, true, true, true, true, true, true, true, true, true, false] h13 d13 (one_of HT_ (by kernel_rfl)) List.not_mem_nil (fun K hK => ?_)
  refine skip_ (wanted_on w13) d13 r2 ?_
  refine hK.out _ _ s2 (fun _ => ?_)
  refine one_ (i := 14) (N := none) #[true, true, true, true, true, true, true, true, true, true, true, true, true, true, true] h14 d14 (one_of HT_ (by kernel_rfl)) List.not_mem_nil (fun K hK => ?_)
  refine skip_ (wanted_on w14) d14 r3 ?_
  refine hK.out _ _ s3 (fun _ => ?_)
  exact done_ (done_of HT_ (by kernel_rfl)) h
def up1 (x4 : Int) : Int := bits .xor .u32 (bits .xor .u32 (rot 26 x4) (rot 21 x4)) (rot 7 x4)
def ch1 (x4 x5 x6 : Int) : Int := bits .xor .u32 (bits .and .u32 x4 x5) (bits .and .u32 (bits .xor .u32 IntKind.u32.max x4) x6)
def dn1 (x0 : Int) : Int := bits .xor .u32 (bits .xor .u32 (rot 30 x0) (rot 19 x0)) (rot 10 x0)
def mj1 (x0 x1 x2 : Int) : Int := bits .xor .u32 (bits .xor .u32 (bits .and .u32 x0 x1) (bits .and .u32 x0 x2)) (bits .and .u32 x1 x2)
def round1 (k ww : Int) : List Int → List Int
  | [x0, x1, x2, x3, x4, x5, x6, x7] => [(x7 + up1 x4 + ch1 x4 x5 x6 + k + ww + (dn1 x0 + mj1 x0 x1 x2)) % 4294967296, x0, x1, x2, (x3 + (x7 + up1 x4 + ch1 x4 x5 x6 + k + ww)) % 4294967296, x4, x5, x6]
  | l => l
def rounds (ws st : List Int) : Nat → List Int
  | 0 => st
  | n + 1 => round1 (keyL.getD n 0) (ws.getD n 0) (rounds ws st n)
theorem eight (l : List Int) (h : l.length = 8) : ∃ x0 x1 x2 x3 x4 x5 x6 x7, l = [x0, x1, x2, x3, x4, x5, x6, x7] := by
  match l, h with
  | [x0, x1, x2, x3, x4, x5, x6, x7], _ => exact ⟨x0, x1, x2, x3, x4, x5, x6, x7, rfl⟩
theorem rounds_len (ws st : List Int) (n : Nat) (h : st.length = 8) : (rounds ws st n).length = 8 := by
  induction n with
  | zero => exact h
  | succ n ih =>
    obtain ⟨x0, x1, x2, x3, x4, x5, x6, x7, hx⟩ := eight _ ih
    simp only [rounds, hx]
    rfl
theorem rotq {x a r : Int} {w : World} {n : Nat} (h : bits_RotateLeft32.f x a = some r) : Calls Try.prog 54 #[.int .u32 x, .int .i64 a] (w.drewN n) fun e w'' => e = .returned (.int .u32 r) ∧ ∃ m, w'' = w.drewN m :=
  Calls.quiet_of ((bits_RotateLeft32.calls x a r _ h).mono fun _ _ ⟨he, hd⟩ => ⟨he, hd.out⟩)
theorem rot_f6 (x : Int) : bits_RotateLeft32.f x (-6) = some (rot 26 x) := by kernel_rfl
theorem rot_f11 (x : Int) : bits_RotateLeft32.f x (-11) = some (rot 21 x) := by kernel_rfl
theorem rot_f25 (x : Int) : bits_RotateLeft32.f x (-25) = some (rot 7 x) := by kernel_rfl
theorem rot_f2 (x : Int) : bits_RotateLeft32.f x (-2) = some (rot 30 x) := by kernel_rfl
theorem rot_f13 (x : Int) : bits_RotateLeft32.f x (-13) = some (rot 19 x) := by kernel_rfl
theorem rot_f22 (x : Int) : bits_RotateLeft32.f x (-22) = some (rot 10 x) := by kernel_rfl
theorem rq6 (x : Int) (w : World) (n : Nat) : Calls Try.prog 54 #[.int .u32 x, .int .i64 (-6)] (w.drewN n) fun e w'' => e = .returned (.int .u32 (rot 26 x)) ∧ ∃ m, w'' = w.drewN m := rotq (rot_f6 x)
theorem rq11 (x : Int) (w : World) (n : Nat) : Calls Try.prog 54 #[.int .u32 x, .int .i64 (-11)] (w.drewN n) fun e w'' => e = .returned (.int .u32 (rot 21 x)) ∧ ∃ m, w'' = w.drewN m := rotq (rot_f11 x)
theorem rq25 (x : Int) (w : World) (n : Nat) : Calls Try.prog 54 #[.int .u32 x, .int .i64 (-25)] (w.drewN n) fun e w'' => e = .returned (.int .u32 (rot 7 x)) ∧ ∃ m, w'' = w.drewN m := rotq (rot_f25 x)
theorem rq2 (x : Int) (w : World) (n : Nat) : Calls Try.prog 54 #[.int .u32 x, .int .i64 (-2)] (w.drewN n) fun e w'' => e = .returned (.int .u32 (rot 30 x)) ∧ ∃ m, w'' = w.drewN m := rotq (rot_f2 x)
theorem rq13 (x : Int) (w : World) (n : Nat) : Calls Try.prog 54 #[.int .u32 x, .int .i64 (-13)] (w.drewN n) fun e w'' => e = .returned (.int .u32 (rot 19 x)) ∧ ∃ m, w'' = w.drewN m := rotq (rot_f13 x)
theorem rq22 (x : Int) (w : World) (n : Nat) : Calls Try.prog 54 #[.int .u32 x, .int .i64 (-22)] (w.drewN n) fun e w'' => e = .returned (.int .u32 (rot 10 x)) ∧ ∃ m, w'' = w.drewN m := rotq (rot_f22 x)
theorem b77 (y0 y1 y2 y3 y4 y5 y6 y7 : Int) : Try.prog.built 77 [(0, .int .u32 y0), (1, .int .u32 y1), (2, .int .u32 y2), (3, .int .u32 y3), (4, .int .u32 y4), (5, .int .u32 y5), (6, .int .u32 y6), (7, .int .u32 y7)] = some (nums .u32 [y0, y1, y2, y3, y4, y5, y6, y7]).toArray := by kernel_rfl
theorem keyL_len : keyL.length = 64 := by rfl
theorem word_of {T : TypeId} {w : World} {g : Nat} {xs : List Int} (h : Rw .u32 T w g xs) (n : Nat) (hn : n < xs.length) : ∃ x : Int, xs.getD n 0 = x ∧ w.cell? ⟨g, n, none⟩ = some (.int .u32 x) := ⟨_, rfl, h.cell n hn⟩
theorem eight_cells {w : World} {g : Nat} {x0 x1 x2 x3 x4 x5 x6 x7 : Int} (h : Rw .u32 77 w g [x0, x1, x2, x3, x4, x5, x6, x7]) :
    w.cell? ⟨g, 0, none⟩ = some (.int .u32 x0) ∧ w.cell? ⟨g, 1, none⟩ = some (.int .u32 x1) ∧ w.cell? ⟨g, 2, none⟩ = some (.int .u32 x2) ∧ w.cell? ⟨g, 3, none⟩ = some (.int .u32 x3) ∧ w.cell? ⟨g, 4, none⟩ = some (.int .u32 x4) ∧ w.cell? ⟨g, 5, none⟩ = some (.int .u32 x5) ∧ w.cell? ⟨g, 6, none⟩ = some (.int .u32 x6) ∧ w.cell? ⟨g, 7, none⟩ = some (.int .u32 x7) :=
  ⟨h.cell 0 (by decide : 0 < 8), h.cell 1 (by decide : 1 < 8), h.cell 2 (by decide : 2 < 8), h.cell 3 (by decide : 3 < 8), h.cell 4 (by decide : 4 < 8), h.cell 5 (by decide : 5 < 8), h.cell 6 (by decide : 6 < 8), h.cell 7 (by decide : 7 < 8)⟩
structure MI (w : World) (g g2 g3 g4 : Nat) (s : Hs) (ws L : List Int) (n : Nat) (kw ww x0 x1 x2 x3 x4 x5 x6 x7 : Int) (W : World) : Prop where
  below : Below w.heap.size w W
  hat : Hat W g s
  key : Rw .u32 85 W g2 keyL
  wsr : Rw .u32 85 W g3 ws
  str : Rw .u32 77 W g4 [x0, x1, x2, x3, x4, x5, x6, x7]
  kc : W.cell? ⟨g2, n, none⟩ = some (.int .u32 kw)
  wc : W.cell? ⟨g3, n, none⟩ = some (.int .u32 ww)
theorem mi_in {w : World} {g g2 g3 g4 : Nat} {s : Hs} {ws L : List Int} {n : Nat} {kw ww x0 x1 x2 x3 x4 x5 x6 x7 : Int} {W : World} (h : Below w.heap.size w W ∧ Hat W g s ∧ Rw .u32 85 W g2 keyL ∧ Rw .u32 85 W g3 ws ∧ Rw .u32 77 W g4 L) (hx : L = [x0, x1, x2, x3, x4, x5, x6, x7]) (hn : n < 64) (hw : ws.length = 16 + 48) (hk : keyL.getD n 0 = kw) (hww : ws.getD n 0 = ww) : MI w g g2 g3 g4 s ws L n kw ww x0 x1 x2 x3 x4 x5 x6 x7 W :=
  ⟨h.1, h.2.1, h.2.2.1, h.2.2.2.1, hx ▸ h.2.2.2.2, by rw [← hk]; exact h.2.2.1.cell n (by rw [keyL_len]; exact hn), by rw [← hww]; exact h.2.2.2.1.cell n (by rw [hw]; exact hn)⟩
theorem MI.drew {w : World} {g g2 g3 g4 : Nat} {s : Hs} {ws L : List Int} {n : Nat} {kw ww x0 x1 x2 x3 x4 x5 x6 x7 : Int} {W : World} (h : MI w g g2 g3 g4 s ws L n kw ww x0 x1 x2 x3 x4 x5 x6 x7 W) (k : Nat) : MI w g g2 g3 g4 s ws L n kw ww x0 x1 x2 x3 x4 x5 x6 x7 (W.drewN k) :=
  ⟨pw_below_drewN h.below k, h.hat, h.key, h.wsr, h.str, h.kc, h.wc⟩
theorem MI.g4row {w : World} {g g2 g3 g4 : Nat} {s : Hs} {ws L : List Int} {n : Nat} {kw ww x0 x1 x2 x3 x4 x5 x6 x7 : Int} {W : World} (h : MI w g g2 g3 g4 s ws L n kw ww x0 x1 x2 x3 x4 x5 x6 x7 W) : W.heap[g4]? = some (.cells (nums .u32 [x0, x1, x2, x3, x4, x5, x6, x7]).toArray 77 (0, 0)) := h.str
theorem MI.cells {w : World} {g g2 g3 g4 : Nat} {s : Hs} {ws L : List Int} {n : Nat} {kw ww x0 x1 x2 x3 x4 x5 x6 x7 : Int} {W : World} (h : MI w g g2 g3 g4 s ws L n kw ww x0 x1 x2 x3 x4 x5 x6 x7 W) :
    W.cell? ⟨g4, 0, none⟩ = some (.int .u32 x0) ∧ W.cell? ⟨g4, 1, none⟩ = some (.int .u32 x1) ∧ W.cell? ⟨g4, 2, none⟩ = some (.int .u32 x2) ∧ W.cell? ⟨g4, 3, none⟩ = some (.int .u32 x3) ∧ W.cell? ⟨g4, 4, none⟩ = some (.int .u32 x4) ∧ W.cell? ⟨g4, 5, none⟩ = some (.int .u32 x5) ∧ W.cell? ⟨g4, 6, none⟩ = some (.int .u32 x6) ∧ W.cell? ⟨g4, 7, none⟩ = some (.int .u32 x7) ∧ W.cell? ⟨g2, n, none⟩ = some (.int .u32 kw) ∧ W.cell? ⟨g3, n, none⟩ = some (.int .u32 ww) := by
  obtain ⟨c0, c1, c2, c3, c4, c5, c6, c7⟩ := eight_cells h.str
  exact ⟨c0, c1, c2, c3, c4, c5, c6, c7, h.kc, h.wc⟩
theorem MI.fro {w : World} {g g2 g3 g4 : Nat} {s : Hs} {ws L : List Int} {n : Nat} {kw ww x0 x1 x2 x3 x4 x5 x6 x7 : Int} {W : World} (h : MI w g g2 g3 g4 s ws L n kw ww x0 x1 x2 x3 x4 x5 x6 x7 W) : W.frozen? ⟨g4, 0, none⟩ = false ∧ W.frozen? ⟨g4, 1, none⟩ = false ∧ W.frozen? ⟨g4, 2, none⟩ = false ∧ W.frozen? ⟨g4, 3, none⟩ = false ∧ W.frozen? ⟨g4, 4, none⟩ = false ∧ W.frozen? ⟨g4, 5, none⟩ = false ∧ W.frozen? ⟨g4, 6, none⟩ = false ∧ W.frozen? ⟨g4, 7, none⟩ = false :=
  ⟨h.str.fro 0, h.str.fro 1, h.str.fro 2, h.str.fro 3, h.str.fro 4, h.str.fro 5, h.str.fro 6, h.str.fro 7⟩
theorem set8 {w : World} {g g2 g3 g4 : Nat} {s : Hs} {ws : List Int} {x0 x1 x2 x3 x4 x5 x6 x7 : Int} {W : World} (h : Below w.heap.size w W ∧ Hat W g s ∧ Rw .u32 85 W g2 keyL ∧ Rw .u32 85 W g3 ws ∧ Rw .u32 77 W g4 [x0, x1, x2, x3, x4, x5, x6, x7]) (hg : w.heap.size ≤ g4 ∧ g ≠ g4 ∧ g2 ≠ g4 ∧ g3 ≠ g4) (y0 y1 y2 y3 y4 y5 y6 y7 : Int) :
    ∀ W' : World, W' = ((((((((W.setCell ⟨g4, 0, none⟩ (.int .u32 y0)).setCell ⟨g4, 1, none⟩ (.int .u32 y1)).setCell ⟨g4, 2, none⟩ (.int .u32 y2)).setCell ⟨g4, 3, none⟩ (.int .u32 y3)).setCell ⟨g4, 4, none⟩ (.int .u32 y4)).setCell ⟨g4, 5, none⟩ (.int .u32 y5)).setCell ⟨g4, 6, none⟩ (.int .u32 y6)).setCell ⟨g4, 7, none⟩ (.int .u32 y7)) → Below w.heap.size w W' ∧ Hat W' g s ∧ Rw .u32 85 W' g2 keyL ∧ Rw .u32 85 W' g3 ws ∧ Rw .u32 77 W' g4 [y0, y1, y2, y3, y4, y5, y6, y7] := by
  have st : ∀ (W : World) (L : List Int) (j : Nat) (y : Int), (Below w.heap.size w W ∧ Hat W g s ∧ Rw .u32 85 W g2 keyL ∧ Rw .u32 85 W g3 ws ∧ Rw .u32 77 W g4 L) → (Below w.heap.size w (W.setCell ⟨g4, j, none⟩ (.int .u32 y)) ∧ Hat (W.setCell ⟨g4, j, none⟩ (.int .u32 y)) g s ∧ Rw .u32 85 (W.setCell ⟨g4, j, none⟩ (.int .u32 y)) g2 keyL ∧ Rw .u32 85 (W.setCell ⟨g4, j, none⟩ (.int .u32 y)) g3 ws ∧ Rw .u32 77 (W.setCell ⟨g4, j, none⟩ (.int .u32 y)) g4 (L.set j y)) := by
    intro W L j y ⟨a1, a2, a3, a4, a5⟩
    have hne : ∀ q, q ≠ g4 → (W.setCell ⟨g4, j, none⟩ (.int .u32 y)).heap[q]? = W.heap[q]? := fun q hq => Below.heap_setCell W ⟨g4, j, none⟩ _ q hq
    exact ⟨a1.setCell hg.1 _, (hne g hg.2.1).trans a2, (hne g2 hg.2.2.1).trans a3, (hne g3 hg.2.2.2).trans a4, a5.set j y⟩
  intro W' hW
  subst hW
  exact st _ _ 7 _ (st _ _ 6 _ (st _ _ 5 _ (st _ _ 4 _ (st _ _ 3 _ (st _ _ 2 _ (st _ _ 1 _ (st _ _ 0 _ h)))))))
theorem mi_out {w : World} {g g2 g3 g4 : Nat} {s : Hs} {ws L : List Int} {n : Nat} {kw ww x0 x1 x2 x3 x4 x5 x6 x7 : Int} {W : World} (h : MI w g g2 g3 g4 s ws L n kw ww x0 x1 x2 x3 x4 x5 x6 x7 W) (hx : L = [x0, x1, x2, x3, x4, x5, x6, x7]) (hk : keyL.getD n 0 = kw) (hww : ws.getD n 0 = ww) (hg : w.heap.size ≤ g4 ∧ g ≠ g4 ∧ g2 ≠ g4 ∧ g3 ≠ g4) {st : List Int} (hL : L = rounds ws st n) {W' : World} {y0 y1 y2 y3 y4 y5 y6 y7 : Int} (hW : W' = ((((((((W.setCell ⟨g4, 0, none⟩ (.int .u32 y0)).setCell ⟨g4, 1, none⟩ (.int .u32 y1)).setCell ⟨g4, 2, none⟩ (.int .u32 y2)).setCell ⟨g4, 3, none⟩ (.int .u32 y3)).setCell ⟨g4, 4, none⟩ (.int .u32 y4)).setCell ⟨g4, 5, none⟩ (.int .u32 y5)).setCell ⟨g4, 6, none⟩ (.int .u32 y6)).setCell ⟨g4, 7, none⟩ (.int .u32 y7))) (hy : [y0, y1, y2, y3, y4, y5, y6, y7] = round1 kw ww [x0, x1, x2, x3, x4, x5, x6, x7]) :
    Below w.heap.size w W' ∧ Hat W' g s ∧ Rw .u32 85 W' g2 keyL ∧ Rw .u32 85 W' g3 ws ∧ Rw .u32 77 W' g4 (rounds ws st (n + 1)) := by
  have e : rounds ws st (n + 1) = [y0, y1, y2, y3, y4, y5, y6, y7] := by rw [hy, ← hx, hL, ← hk, ← hww]; rfl
  rw [e]
  exact set8 ⟨h.below, h.hat, h.key, h.wsr, h.str⟩ hg y0 y1 y2 y3 y4 y5 y6 y7 W' hW
/-- all is as it was, but block g -/
structure But (B g : Nat) (w w' : World) : Prop where
  os : w'.os = w.os
  tape : w'.tape = w.tape
  output : w'.output = w.output
  size : w.heap.size ≤ w'.heap.size
  block : ∀ k, k < B → k ≠ g → w'.heap[k]? = w.heap[k]?
theorem But.of_below {B g : Nat} {w w' : World} (h : Below B w w') : But B g w w' := ⟨h.os, h.tape, h.output, h.size, fun k hk _ => h.block k hk⟩
theorem But.trans {B g : Nat} {a b c : World} (h : But B g a b) (k : But B g b c) : But B g a c :=
  ⟨k.os.trans h.os, k.tape.trans h.tape, k.output.trans h.output, Nat.le_trans h.size k.size, fun i hi hn => (k.block i hi hn).trans (h.block i hi hn)⟩
theorem But.mono {B C g : Nat} {w w' : World} (h : But B g w w') (hb : C ≤ B) : But C g w w' := ⟨h.os, h.tape, h.output, h.size, fun k hk hn => h.block k (by omega) hn⟩
theorem But.drew1 {B g : Nat} {w w' : World} (h : But B g w w') : But B g w w'.drew := h.trans (But.of_below (below_drew1 (Below.refl _ _)))
theorem But.drewN {B g : Nat} {w w' : World} (h : But B g w w') (n : Nat) : But B g w (w'.drewN n) := h.trans (But.of_below (pw_below_drewN (Below.refl _ _) n))
theorem But.setCell {B g : Nat} {w w' : World} (h : But B g w w') (o : Nat) (v : Value) : But B g w (w'.setCell ⟨g, o, none⟩ v) :=
  h.trans ⟨rfl, rfl, rfl, by simp [World.setCell], fun k hk hn => Below.heap_setCell w' ⟨g, o, none⟩ v k hn⟩
theorem But.below {B g : Nat} {w0 w w' : World} (hb : Below B w0 w) (h : But w.heap.size g w w') (hg : B ≤ g) (hB : B ≤ w.heap.size) : Below B w0 w' :=
  hb.trans ⟨h.os, h.tape, h.output, h.size, fun k hk => h.block k (by omega) (by omega)⟩
def part (vs st : List Int) : Nat → List Int
  | 0 => st
  | n + 1 => (part vs st n).set n (((part vs st n).getD n 0 + vs.getD n 0) % 4294967296)
theorem part_len (vs st : List Int) (n : Nat) (h : st.length = 8) : (part vs st n).length = 8 := by
  induction n with
  | zero => exact h
  | succ n ih => simp [part, ih]
/-- a block taken in -/
def mixed (s : Hs) : Hs := { s with st := part (rounds (sched s.wait 48) s.st 64) s.st 8 }
theorem Hat.stc {w : World} {g : Nat} {s : Hs} (h : Hat w g s) (hst : s.st.length = 8) {n : Nat} (hn : n < 8) {x : Int} (hx : s.st.getD n 0 = x) : w.cell? ⟨g, 1 + n, none⟩ = some (.int .u32 x) := by
  rw [blk_cell h]
  simp only [hcells, List.getElem?_toArray]
  rw [Nat.add_comm, List.getElem?_cons_succ, List.getElem?_append_left (by simp [nums, hst]; omega)]
  rw [← hx]
  simp [nums, List.getElem?_eq_getElem (show n < s.st.length by omega), List.getD_eq_getElem?_getD]
theorem Hat.fro {w : World} {g : Nat} {s : Hs} (h : Hat w g s) (j : Nat) : w.frozen? ⟨g, j, none⟩ = false := blk_frozen h _
theorem part_step {w W : World} {g g4 n : Nat} {s : Hs} {vs : List Int} {x y : Int} (h : But w.heap.size g w W ∧ Hat W g { s with st := part vs s.st n } ∧ Rw .u32 77 W g4 vs) (hl : (part vs s.st n).length = 8) (hn : n < 8) (hg : g ≠ g4) (hx : (part vs s.st n).getD n 0 = x) (hy : vs.getD n 0 = y) :
    But w.heap.size g w (W.setCell ⟨g, 1 + n, none⟩ (.int .u32 ((x + y) % 4294967296))) ∧ Hat (W.setCell ⟨g, 1 + n, none⟩ (.int .u32 ((x + y) % 4294967296))) g { s with st := part vs s.st (n + 1) } ∧ Rw .u32 77 (W.setCell ⟨g, 1 + n, none⟩ (.int .u32 ((x + y) % 4294967296))) g4 vs := by
  refine ⟨h.1.setCell _ _, ?_, (Below.heap_setCell W ⟨g, 1 + n, none⟩ _ g4 (Ne.symm hg)).trans h.2.2⟩
  unfold Hat
  rw [blk_set h.2.1]
  congr 2
  apply Array.ext'
  simp only [hcells, part, hx, hy, List.setIfInBounds_toArray]
  rw [Nat.add_comm, List.set_cons_succ, List.set_append_left _ _ (by simp [nums, hl]; omega)]
  simp [nums, List.map_set]
def mx13T : Bool × List (List Nat × List Nat) := (true, [([], []), ([], []), ([0], [0]), ([2], [2]), ([3, 1], [1, 3]), ([4], [4]), ([], []), ([6], [6]), ([7], [7]), ([5, 8], [5, 8]), ([0], [0]), ([10], [10]), ([11, 1, 0, 1, 2, 3, 4, 5, 6, 7, 8, 9], [1, 11]), ([12, 9, 0, 1, 2, 3, 4, 5, 6, 7, 8, 9], [9, 12])])
def mx13B : List Nat := [0, 0, 1, 5, 15, 31, 0, 64, 192, 511, 1, 1025, 4095, 8191]
theorem mx13tab : rtab .any (opsOf Try.f49 13) = mx13T := by kernel_rfl
theorem mx13bits : waitsOk mx13T.2 mx13B = true := by kernel_rfl
set_option maxHeartbeats 4000000 in
theorem mix_calls (w : World) (g : Nat) (s : Hs) (hst : s.st.length = 8) (hsw : s.wait.length = 64) (h : Hat w g s) :
    Calls Try.prog 49 #[.pointer (some ⟨g, 0, none⟩)] w fun e w' => e = .returned (.tuple #[]) ∧ But w.heap.size g w w' ∧ Hat w' g (mixed s) := by
  have hH := Aside0.mk h
  have hws := Aside0.mk (sched_len s.wait 48)
  clear h
  go_enter Try.func49, Try.ntmps49
  go_upto_region 0 with (fail)
  refine start_ (n := 15) (S := (fun W_ => Below w.heap.size w W_ ∧ Hat W_ g s)) (ds := []) #[false, false, false, false, false, false, false, false, false, false, false, false, false, false, false] (by kernel_rfl) rfl rfl (⟨below_drew1 (Below.refl _ _), hH.out⟩) (fun hHeld => ?_); refine with_tabW mx0tab mx0bits (fun HT_ HW_ => ?_)
  generalize w.drew = wq at hHeld ⊢
  refine pure_ (i := 1) (N := some 12) (v := ?_) (a' := ?_) #[false, true, false, false, false, false, false, false, false, false, false, false, false, false, false] rfl rfl (any_of HT_.out (by kernel_rfl)) (fun _ _ _ h => h) (Or.inl ⟨by rfl, ?_⟩) ?_ ?_
  rotate_left
  · intro w'
    go_simp
    with_reducible rfl
  rotate_left
  · simp only [Act.put, List.setIfInBounds_toArray, List.set_cons_zero, List.set_cons_succ, i64_w, i32_w]
    rfl
  refine pure_ (i := 2) (N := some 13) (v := ?_) (a' := ?_) #[false, true, true, false, false, false, false, false, false, false, false, false, false, false, false] rfl rfl (any_of HT_.out (by kernel_rfl)) (fun _ _ _ h => h) (Or.inl ⟨by rfl, ?_⟩) ?_ ?_
  rotate_left
  · intro w'
    go_simp
    with_reducible rfl
  rotate_left
  · simp only [Act.put, List.setIfInBounds_toArray, List.set_cons_zero, List.set_cons_succ, i64_w, i32_w]
    rfl
  refine pure_ (i := 3) (N := some 14) (v := ?_) (a' := ?_) #[false, true, true, true, false, false, false, false, false, false, false, false, false, false, false] rfl rfl (any_of HT_.out (by kernel_rfl)) (fun _ _ _ h => h) (Or.inl ⟨by rfl, ?_⟩) ?_ ?_
  rotate_left
  · intro w'
    go_simp
    with_reducible rfl
  rotate_left
  · simp only [Act.put, List.setIfInBounds_toArray, List.set_cons_zero, List.set_cons_succ, i64_w, i32_w]
    rfl
  refine pure_ (i := 5) (N := some 16) (v := ?_) (a' := ?_) #[false, true, true, true, false, true, false, false, false, false, false, false, false, false, false] rfl rfl (any_of HT_.out (by kernel_rfl)) (fun _ _ _ h => h) (Or.inl ⟨by rfl, ?_⟩) ?_ ?_
  rotate_left
  · intro w'
    go_simp
    with_reducible rfl
  rotate_left
  · simp only [Act.put, List.setIfInBounds_toArray, List.set_cons_zero, List.set_cons_succ, i64_w, i32_w]
    rfl
  refine pure_ (i := 6) (N := some 17) (v := ?_) (a' := ?_) #[false, true, true, true, false, true, true, false, false, false, false, false, false, false, false] rfl rfl (any_of HT_.out (by kernel_rfl)) (fun _ _ _ h => h) (Or.inl ⟨by rfl, ?_⟩) ?_ ?_
  rotate_left
  · intro w'
    go_simp
    with_reducible rfl
  rotate_left
  · simp only [Act.put, List.setIfInBounds_toArray, List.set_cons_zero, List.set_cons_succ, i64_w, i32_w]
    rfl
  refine pure_ (i := 7) (N := some 18) (v := ?_) (a' := ?_) #[false, true, true, true, false, true, true, true, false, false, false, false, false, false, false] rfl rfl (any_of HT_.out (by kernel_rfl)) (fun _ _ _ h => h) (Or.inl ⟨by rfl, ?_⟩) ?_ ?_
  rotate_left
  · intro w'
    go_simp
    with_reducible rfl
  rotate_left
  · simp only [Act.put, List.setIfInBounds_toArray, List.set_cons_zero, List.set_cons_succ, i64_w, i32_w]
    rfl
  refine take_ (i := 8) (N := some 19) (v := (.agg (nums .u32 s.st).toArray)) (a' := ?_) #[false, true, true, true, false, true, true, true, true, false, false, false, false, false, false] rfl rfl (take_ofW HT_.out HW_.out (by kernel_rfl)) (fun _ _ _ h => h) (Or.inl ⟨by rfl, fun w' hw' => load_run rfl rfl (Hat.loadst hw'.2 hst)⟩) hHeld ?_ ?_
  rotate_left
  · simp only [Act.put, List.setIfInBounds_toArray, List.set_cons_zero, List.set_cons_succ, i64_w, i32_w]
    rfl
  refine norm_ (A_self _ rfl rfl rfl rfl rfl) ?_
  refine makers (w := w) (g := g) (s := s) hst hsw HT_.out rfl rfl rfl rfl rfl rfl rfl rfl rfl rfl rfl rfl rfl rfl rfl rfl rfl rfl rfl rfl rfl hHeld.1 hHeld.2 ?_
  intro W g2 g3 g4 hI
  refine norm_ (a' := ?_) ?_ ?_
  rotate_left
  · simp only [A, pv, List.setIfInBounds_toArray, List.set_cons_zero, List.set_cons_succ]
    rfl
  have hgw := blk_lt hH.out
  obtain ⟨hB, hH1, r2, r3, r4, n23, n24, n34⟩ := hI
  have n23 : g2 ≠ g3 := n23; have n24 : g2 ≠ g4 := n24; have n34 : g3 ≠ g4 := n34; have ge2 := r2.1; have ge3 := r3.1; have ge4 := r4.1
  obtain ⟨W1, W2, W3, hw1, hw2, hw3, s1, s2, r3a, r4b, hf⟩ := stored hgw hst hB hH1 r2 r3 r4 n23 n24 n34
  refine stores_ HT_.out (W1 := W1) (W2 := W2) (W3 := W3) rfl rfl rfl rfl rfl rfl rfl rfl rfl (hw1 _ _ _ _ rfl rfl rfl) (hw2 _ _ _ _ rfl rfl rfl) (hw3 _ _ _ _ rfl rfl rfl) s1 s2 ⟨hf.1, hf.2.1⟩ ?_
  have HF := Aside0.mk hf
  clear hw1 hw2 hw3 s1 s2 r3a r4b hf r2 r3 r4 hB hH1 hHeld HT_ HW_
  generalize hwse : sched s.wait 48 = ws at HF hws ⊢
  have HWS := Aside0.mk hwse
  clear hwse
  go_wp2_with (fail)
  have hgs := Aside0.mk (⟨ge4, by omega, n24, n34⟩ : w.heap.size ≤ g4 ∧ g ≠ g4 ∧ g2 ≠ g4 ∧ g3 ≠ g4)
  go_loopw [20] (fun v wr => ∃ n : Nat, n ≤ 64 ∧ v = .int .i64 n ∧ Aside0 (Below w.heap.size w wr ∧ Hat wr g s ∧ Rw .u32 85 wr g2 keyL ∧ Rw .u32 85 wr g3 ws ∧ Rw .u32 77 wr g4 (rounds ws s.st n))) (fun v _ => 64 - (intOf v).toNat)
  case atStart => exact ⟨0, by decide, rfl, HF⟩
  case round =>
    clear HF
    obtain ⟨n, hn, rfl, HF⟩ := hrel
    by_cases hlt : n < 64
    · have hlt' : decide ((n : Int) < 64) = true := by simp; omega
      obtain ⟨x0, x1, x2, x3, x4, x5, x6, x7, hx⟩ := eight (rounds ws s.st n) (rounds_len ws s.st n hst)
      have HX := Aside0.mk hx; clear hx
      obtain ⟨kw, hkw⟩ : ∃ x, keyL.getD n 0 = x := ⟨_, rfl⟩; obtain ⟨ww, hww⟩ : ∃ x, ws.getD n 0 = x := ⟨_, rfl⟩
      have HKW := Aside0.mk hkw; have HWW := Aside0.mk hww
      have H1 := Aside0.mk (mi_in HF.out HX.out hlt hws.out hkw hww)
      obtain ⟨c0, c1, c2, c3, c4, c5, c6, c7, hkc, hwc⟩ := H1.out.cells
      clear HF
      have gn : (n : Int) < 64 := by omega
      clear hkw hww
      go_upto_region 4 with (fail)
      go_quiet ((with_reducible first | exact rq6 _ _ _ | exact rq11 _ _ _ | exact rq25 _ _ _))
      have H2 := Aside0.mk (H1.out.drew nq)
      generalize World.drewN _ nq = W2 at H2 ⊢
      clear c0 c1 c2 c3 c4 c5 c6 c7 hkc hwc H1
      obtain ⟨c0, c1, c2, c3, c4, c5, c6, c7, hkc, hwc⟩ := H2.out.cells
      go_upto_region 5 with (fail)
      go_quiet (fail)
      have H3 := Aside0.mk (H2.out.drew nq)
      generalize World.drewN _ nq = W3 at H3 ⊢
      clear c0 c1 c2 c3 c4 c5 c6 c7 hkc hwc H2
      obtain ⟨c0, c1, c2, c3, c4, c5, c6, c7, hkc, hwc⟩ := H3.out.cells
      go_upto_region 6 with (fail)
      go_quiet ((with_reducible first | exact rq2 _ _ _ | exact rq13 _ _ _ | exact rq22 _ _ _))
      have H4 := Aside0.mk (H3.out.drew nq)
      generalize World.drewN _ nq = W4 at H4 ⊢
      clear c0 c1 c2 c3 c4 c5 c6 c7 hkc hwc H3
      obtain ⟨c0, c1, c2, c3, c4, c5, c6, c7, hkc, hwc⟩ := H4.out.cells
      obtain ⟨f0, f1, f2, f3, f4, f5, f6, f7⟩ := H4.out.fro
      go_wp2
      go_roundw
      case rel => exact ⟨n + 1, by omega, by go_num, ⟨mi_out H4.out HX.out HKW.out HWW.out hgs.out rfl rfl rfl⟩⟩
      case measure => simp [intOf]; omega
    · have hlt' : decide ((n : Int) < 64) = false := by simp; omega
      obtain rfl : n = 64 := by omega
      generalize hvs : rounds ws s.st 64 = vs at HF
      have HV := Aside0.mk hvs
      have hvl : vs.length = 8 := by rw [← hvs]; exact rounds_len ws s.st 64 hst
      clear hvs
      have HF2 := Aside0.mk (⟨But.of_below HF.out.1, HF.out.2.1, HF.out.2.2.2.2⟩ : But w.heap.size g w wr ∧ Hat wr g { s with st := part vs s.st 0 } ∧ Rw .u32 77 wr g4 vs)
      clear HF
      go_wp2
      go_loopw [110] (fun v wr => ∃ n : Nat, n ≤ 8 ∧ v = .int .i64 n ∧ Aside0 (But w.heap.size g w wr ∧ Hat wr g { s with st := part vs s.st n } ∧ Rw .u32 77 wr g4 vs)) (fun v _ => 8 - (intOf v).toNat)
      case atStart => exact ⟨0, by decide, rfl, HF2⟩
      case round =>
        clear HF2
        obtain ⟨n, hn, rfl, HF⟩ := hrel
        by_cases hlt : n < 8
        · have hlt' : decide ((n : Int) < 8) = true := by simp; omega
          go_upto_region 13 with (fail)
          obtain ⟨x, hx⟩ : ∃ x, (part vs s.st n).getD n 0 = x := ⟨_, rfl⟩
          obtain ⟨y, hy⟩ : ∃ y, vs.getD n 0 = y := ⟨_, rfl⟩
          have HX := Aside0.mk hx; have HY := Aside0.mk hy
          have gn : (n : Int) < 8 := by omega
          have hpl := Aside0.mk (part_len vs s.st n hst)
          have HN := Aside0.mk (⟨hlt, hvl⟩ : n < 8 ∧ vs.length = 8)
          clear hx hy hvl
          refine start_ (n := 14) (S := (fun W_ => But w.heap.size g w W_ ∧ Hat W_ g { s with st := part vs s.st n } ∧ Rw .u32 77 W_ g4 vs)) (ds := [13]) #[false, false, false, false, false, false, false, false, false, false, false, false, false, false] (by kernel_rfl) rfl rfl (⟨HF.out.1.drew1, HF.out.2.1, HF.out.2.2⟩) (fun hHeld => ?_); refine with_tabW mx13tab mx13bits (fun HT_ HW_ => ?_)
          clear HF; generalize wr.drew = wq at hHeld ⊢
          refine pure_ (i := 0) (N := some 113) (v := ?_) (a' := ?_) #[true, false, false, false, false, false, false, false, false, false, false, false, false, false] rfl rfl (any_of HT_.out (by kernel_rfl)) (fun _ _ _ h => h) (Or.inl ⟨by rfl, ?_⟩) ?_ ?_
          rotate_left
          · intro w'
            go_simp
            with_reducible rfl
          rotate_left
          · simp only [Act.put, List.setIfInBounds_toArray, List.set_cons_zero, List.set_cons_succ, i64_w, i32_w]
            rfl
          refine pure_ (i := 1) (N := some 114) (v := ?_) (a' := ?_) #[true, true, false, false, false, false, false, false, false, false, false, false, false, false] rfl rfl (any_of HT_.out (by kernel_rfl)) (fun _ _ _ h => h) (Or.inl ⟨by rfl, ?_⟩) ?_ ?_
          rotate_left
          · intro w'
            go_simp
            with_reducible rfl
          rotate_left
          · simp only [Act.put, List.setIfInBounds_toArray, List.set_cons_zero, List.set_cons_succ, i64_w, i32_w]
            rfl
          refine pure_ (i := 2) (N := some 115) (v := ?_) (a' := ?_) #[true, true, true, false, false, false, false, false, false, false, false, false, false, false] rfl rfl (any_of HT_.out (by kernel_rfl)) (fun _ _ _ h => h) (Or.inl ⟨by rfl, ?_⟩) ?_ ?_
          rotate_left
          · intro w'
            go_simp
            with_reducible rfl
          rotate_left
          · simp only [Act.put, List.setIfInBounds_toArray, List.set_cons_zero, List.set_cons_succ, i64_w, i32_w]
            rfl
          refine pure_ (i := 3) (N := some 116) (v := ?_) (a' := ?_) #[true, true, true, true, false, false, false, false, false, false, false, false, false, false] rfl rfl (any_of HT_.out (by kernel_rfl)) (fun _ _ _ h => h) (Or.inl ⟨by rfl, ?_⟩) ?_ ?_
          rotate_left
          · intro w'
            go_simp
            with_reducible rfl
          rotate_left
          · simp only [Act.put, List.setIfInBounds_toArray, List.set_cons_zero, List.set_cons_succ, i64_w, i32_w]
            rfl
          refine pure_ (i := 4) (N := some 117) (v := ?_) (a' := ?_) #[true, true, true, true, true, false, false, false, false, false, false, false, false, false] rfl rfl (any_of HT_.out (by kernel_rfl)) (fun _ _ _ h => h) (Or.inl ⟨by rfl, ?_⟩) ?_ ?_
          rotate_left
          · intro w'
            go_simp
            with_reducible rfl
          rotate_left
          · simp only [Act.put, List.setIfInBounds_toArray, List.set_cons_zero, List.set_cons_succ, i64_w, i32_w]
            rfl
          refine take_ (i := 5) (N := some 118) (v := ?_) (a' := ?_) #[true, true, true, true, true, true, false, false, false, false, false, false, false, false] rfl rfl (take_ofW HT_.out HW_.out (by kernel_rfl)) (fun _ _ _ h => h) (Or.inl ⟨by rfl, ?_⟩) hHeld ?_ ?_
          rotate_left
          · intro w' hw'
            have hf0_ := Hat.stc (s := { s with st := part vs s.st n }) hw'.2.1 hpl.out HN.out.1 HX.out
            go_simp
            with_reducible rfl
          rotate_left
          · simp only [Act.put, List.setIfInBounds_toArray, List.set_cons_zero, List.set_cons_succ, i64_w, i32_w]
            rfl
          refine pure_ (i := 6) (N := some 119) (v := ?_) (a' := ?_) #[true, true, true, true, true, true, true, false, false, false, false, false, false, false] rfl rfl (any_of HT_.out (by kernel_rfl)) (fun _ _ _ h => h) (Or.inl ⟨by rfl, ?_⟩) ?_ ?_
          rotate_left
          · intro w'
            go_simp
            with_reducible rfl
          rotate_left
          · simp only [Act.put, List.setIfInBounds_toArray, List.set_cons_zero, List.set_cons_succ, i64_w, i32_w]
            rfl
          refine pure_ (i := 7) (N := some 120) (v := ?_) (a' := ?_) #[true, true, true, true, true, true, true, true, false, false, false, false, false, false] rfl rfl (any_of HT_.out (by kernel_rfl)) (fun _ _ _ h => h) (Or.inl ⟨by rfl, ?_⟩) ?_ ?_
          rotate_left
          · intro w'
            go_simp
            with_reducible rfl
          rotate_left
          · simp only [Act.put, List.setIfInBounds_toArray, List.set_cons_zero, List.set_cons_succ, i64_w, i32_w]
            rfl
          refine take_ (i := 8) (N := some 121) (v := ?_) (a' := ?_) #[true, true, true, true, true, true, true, true, true, false, false, false, false, false] rfl rfl (take_ofW HT_.out HW_.out (by kernel_rfl)) (fun _ _ _ h => h) (Or.inl ⟨by rfl, ?_⟩) hHeld ?_ ?_
          rotate_left
          · intro w' hw'
            have hf0_ := hw'.2.2.at n (by have := HN.out; omega) y HY.out
            go_simp
            with_reducible rfl
          rotate_left
          · simp only [Act.put, List.setIfInBounds_toArray, List.set_cons_zero, List.set_cons_succ, i64_w, i32_w]
            rfl
          refine pure_ (i := 9) (N := some 122) (v := ?_) (a' := ?_) #[true, true, true, true, true, true, true, true, true, true, false, false, false, false] rfl rfl (any_of HT_.out (by kernel_rfl)) (fun _ _ _ h => h) (Or.inl ⟨by rfl, ?_⟩) ?_ ?_
          rotate_left
          · intro w'
            go_simp
            with_reducible rfl
          rotate_left
          · simp only [Act.put, List.setIfInBounds_toArray, List.set_cons_zero, List.set_cons_succ, i64_w, i32_w]
            rfl
          refine pure_ (i := 10) (N := some 123) (v := ?_) (a' := ?_) #[true, true, true, true, true, true, true, true, true, true, true, false, false, false] rfl rfl (any_of HT_.out (by kernel_rfl)) (fun _ _ _ h => h) (Or.inl ⟨by rfl, ?_⟩) ?_ ?_
          rotate_left
          · intro w'
            go_simp
            with_reducible rfl
          rotate_left
          · simp only [Act.put, List.setIfInBounds_toArray, List.set_cons_zero, List.set_cons_succ, i64_w, i32_w]
            rfl
          refine pure_ (i := 11) (N := some 124) (v := ?_) (a' := ?_) #[true, true, true, true, true, true, true, true, true, true, true, true, false, false] rfl rfl (any_of HT_.out (by kernel_rfl)) (fun _ _ _ h => h) (Or.inl ⟨by rfl, ?_⟩) ?_ ?_
          rotate_left
          · intro w'
            go_simp
            with_reducible rfl
          rotate_left
          · simp only [Act.put, List.setIfInBounds_toArray, List.set_cons_zero, List.set_cons_succ, i64_w, i32_w]
            rfl
          refine pure_ (i := 12) (N := some 125) (v := ?_) (a' := ?_) #[true, true, true, true, true, true, true, true, true, true, true, true, true, false] rfl rfl (any_of HT_.out (by kernel_rfl)) (fun _ _ _ h => h) (Or.inl ⟨by rfl, ?_⟩) ?_ ?_
          rotate_left
          · intro w'
            go_simp
            with_reducible rfl
          rotate_left
          · simp only [Act.put, List.setIfInBounds_toArray, List.set_cons_zero, List.set_cons_succ, i64_w, i32_w]
            rfl
          have hcl := Hat.stc (s := { s with st := part vs s.st n }) hHeld.2.1 hpl.out HN.out.1 HX.out; have hfr := Hat.fro (s := { s with st := part vs s.st n }) hHeld.2.1 (1 + n)
          refine last_ (i := 13) (N := none) #[true, true, true, true, true, true, true, true, true, true, true, true, true, true] rfl rfl (one_of HT_.out (by kernel_rfl)) (by decide) (fun K hK => ?_)
          refine skip_ (w1 := (wq.setCell ⟨g, 1 + n, none⟩ (.int .u32 ((x + y) % 4294967296)))) (by rfl) rfl (by go_simp; first | done | rfl) ?_
          refine hK.out _ _ ?_
          clear hK K
          have hQ : But w.heap.size g w (wq.setCell ⟨g, 1 + n, none⟩ (.int .u32 ((x + y) % 4294967296))) ∧ Hat (wq.setCell ⟨g, 1 + n, none⟩ (.int .u32 ((x + y) % 4294967296))) g { s with st := part vs s.st (n + 1) } ∧ Rw .u32 77 (wq.setCell ⟨g, 1 + n, none⟩ (.int .u32 ((x + y) % 4294967296))) g4 vs := part_step hHeld hpl.out HN.out.1 hgs.out.2.1 HX.out HY.out
          generalize wq.setCell _ _ = wx at hQ ⊢
          refine done_ (done_of HT_.out (by kernel_rfl)) ?_
          clear hHeld hcl hfr
          go_wp2
          go_roundw
          case rel => exact ⟨n + 1, by omega, by go_num, ⟨hQ⟩⟩
          case measure => simp [intOf]; omega
        · have hlt' : decide ((n : Int) < 8) = false := by simp; omega
          obtain rfl : n = 8 := by omega
          go_wp2
          go_end0
          exact ⟨rfl, HF.out.1, by rw [mixed, HWS.out, HV.out]; exact HF.out.2.1⟩
end Go.Proofs.Ytgpgblidplmchaa.Sx
namespace Go.Proofs.Ytgpgblidplmchaa.Swr
open Go.RowKit Go.Proofs.YtgpgblidplmchaaW.PrintWords Go.Proofs.YtgpgblidplmchaaW.PrintLast Go.Proofs.YtgpgblidplmchaaW.PrintMore
open Ag POct Sw Sk Sm Sx
set_option linter.unusedVariables false
set_option linter.unusedSimpArgs false
set_option maxRecDepth 100000
/-- one byte more -/
def absorb (s : Hs) (b : Int) : Hs :=
  let t : Hs := ⟨s.st, s.wait.set (s.n.toNat % 64) b, s.n + 1⟩
  if s.n.toNat % 64 + 1 = 64 then mixed t else t
def wrote (s : Hs) (bs : List Int) : Hs := bs.foldl absorb s
/-- a piece that does not pass the block's end -/
def piece (s : Hs) (bs : List Int) : Hs := ⟨s.st, splice s.wait (s.n.toNat % 64) bs, s.n + bs.length⟩
def fed (s : Hs) (bs : List Int) : Hs := if s.n.toNat % 64 + bs.length = 64 then mixed (piece s bs) else piece s bs
structure HGood (s : Hs) (m : Nat) : Prop where
  st : s.st.length = 8
  wait : s.wait.length = 64
  n : s.n = m
theorem n_cell {w : World} {g : Nat} {s : Hs} {m : Nat} (h : Hat w g s) (hg : HGood s m) : w.cell? ⟨g, 73, none⟩ = some (.int .u64 m) := by
  rw [blk_cell h]
  simp [hcells, nums, hg.st, hg.wait, hg.n]
theorem piece_good {s : Hs} {m : Nat} (hs : HGood s m) (bs : List Int) (h : m % 64 + bs.length ≤ 64) : HGood (piece s bs) (m + bs.length) :=
  ⟨hs.st, by unfold piece; rw [length_splice _ _ _ (by rw [hs.wait, hs.n]; simpa using h)]; exact hs.wait, by unfold piece; simp [hs.n]⟩
theorem mixed_good {s : Hs} {m : Nat} (hs : HGood s m) : HGood (mixed s) m := ⟨part_len _ _ _ hs.st, hs.wait, hs.n⟩
theorem fed_good {s : Hs} {m : Nat} (hs : HGood s m) (bs : List Int) (h : m % 64 + bs.length ≤ 64) : HGood (fed s bs) (m + bs.length) := by
  unfold fed
  split
  · exact mixed_good (piece_good hs bs h)
  · exact piece_good hs bs h
theorem splice_one (L : List Int) (o : Nat) (x : Int) (xs : List Int) (h : o + xs.length < L.length) : splice (L.set o x) (o + 1) xs = splice L o (x :: xs) := by
  unfold splice
  have e1 : (L.set o x).take (o + 1) = L.take o ++ [x] := by
    rw [List.take_set, List.set_eq_take_append_cons_drop, if_pos (by simp; omega), List.take_take]
    simp
  have e2 : (L.set o x).drop (o + 1 + xs.length) = L.drop (o + (x :: xs).length) := by
    rw [List.drop_set, if_pos (by omega)]
    congr 1
    simp; omega
  rw [e1, e2]
  simp
theorem absorb_fed {s : Hs} {m : Nat} (hs : HGood s m) (x : Int) (xs : List Int) (h : m % 64 + (x :: xs).length ≤ 64) (hx : xs ≠ []) : fed (absorb s x) xs = fed s (x :: xs) ∧ HGood (absorb s x) (m + 1) ∧ (m + 1) % 64 + xs.length ≤ 64 := by
  have hn := hs.n
  have hl : 0 < xs.length := List.length_pos_iff.2 hx
  simp only [List.length_cons] at h
  have ht : s.n.toNat = m := by rw [hn]; rfl
  have ha : absorb s x = ⟨s.st, s.wait.set (m % 64) x, s.n + 1⟩ := by
    unfold absorb
    simp only [ht]
    rw [if_neg (by omega)]
  have hg : HGood (absorb s x) (m + 1) := by
    rw [ha]
    exact ⟨hs.st, by simpa using hs.wait, by simp [hn]⟩
  refine ⟨?_, hg, by omega⟩
  have ht2 : (s.n + 1).toNat = m + 1 := by rw [hn]; omega
  have e : piece (absorb s x) xs = piece s (x :: xs) := by
    rw [ha]
    unfold piece
    simp only [ht, ht2, Hs.mk.injEq, true_and]
    refine ⟨?_, by simp only [List.length_cons, Int.natCast_add, Int.natCast_one]; omega⟩
    rw [show (m + 1) % 64 = m % 64 + 1 from by omega]
    exact splice_one _ _ _ _ (by rw [hs.wait]; omega)
  unfold fed
  rw [e]
  rw [ha]
  simp only [ht, ht2, List.length_cons]
  rw [show (m + 1) % 64 + xs.length = m % 64 + (xs.length + 1) from by omega]
theorem fed_fold : ∀ (bs : List Int) {s : Hs} {m : Nat}, HGood s m → m % 64 + bs.length ≤ 64 → bs ≠ [] → bs.foldl absorb s = fed s bs := by
  intro bs
  induction bs with
  | nil => intro s m _ _ h; exact absurd rfl h
  | cons x xs ih =>
    intro s m hs h _
    rw [List.foldl_cons]
    by_cases hx : xs = []
    · subst hx
      have ht : s.n.toNat = m := by rw [hs.n]; rfl
      have hsp : splice s.wait (m % 64) [x] = s.wait.set (m % 64) x := by
        unfold splice
        rw [List.set_eq_take_append_cons_drop, if_pos (by rw [hs.wait]; omega)]
        rfl
      simp only [List.foldl_nil, absorb, fed, piece, ht, List.length_singleton, hsp]
      rfl
    · obtain ⟨h1, h2, h3⟩ := absorb_fed hs x xs h hx
      rw [ih h2 h3 hx, h1]
theorem piece_of {s : Hs} {m p k : Nat} {ys : List Int} (hs : HGood s m) (hp : m % 64 = p) (hk : ys.length = k) (h : p + k ≤ 64) :
    HGood ⟨s.st, splice s.wait p ys, s.n⟩ m ∧ (⟨s.st, splice s.wait p ys, (m : Int) + (k : Int)⟩ : Hs) = piece s ys ∧ HGood (piece s ys) (m + k) ∧ HGood (mixed (piece s ys)) (m + k) ∧ (p + k = 64 → fed s ys = mixed (piece s ys)) ∧ (p + k ≠ 64 → fed s ys = piece s ys) ∧ (0 < k → ys.foldl absorb s = fed s ys) := by
  have ht : s.n.toNat = m := by rw [hs.n]; rfl
  have hg := piece_good hs ys (by omega)
  rw [hk] at hg
  refine ⟨⟨hs.st, by rw [length_splice _ _ _ (by rw [hs.wait]; omega)]; exact hs.wait, hs.n⟩, ?_, hg, mixed_good hg, ?_, ?_, ?_⟩
  · unfold piece
    rw [ht, hp, hk, hs.n]
  · intro h; unfold fed; rw [if_pos (by omega)]
  · intro h; unfold fed; rw [if_neg (by omega)]
  · intro h0; exact fed_fold ys hs (by omega) (by intro hn; rw [hn] at hk; simp at hk; omega)
theorem wrote_step {s' : Hs} {rs ys zs : List Int} {p k : Nat} (hys : ys = rs.take (64 - p)) (hzs : zs = rs.drop (k : Int).toNat) (hk : ys.length = k) (hkk : k = min (64 - p) rs.length) (hf : ys.foldl absorb s' = fed s' ys) : wrote (fed s' ys) zs = wrote s' rs := by
  have e : rs = ys ++ zs := by
    rw [hys, hzs, Int.toNat_natCast, hkk]
    rcases Nat.le_total (64 - p) rs.length with h | h
    · rw [Nat.min_eq_left h, List.take_append_drop]
    · rw [Nat.min_eq_right h, List.take_of_length_le h, List.drop_length, List.append_nil]
  unfold wrote
  rw [← hf]
  conv => rhs; rw [e, List.foldl_append]
def slen : Value → Nat
  | .slice _ n _ => n
  | _ => 0
theorem slice_wait (g p : Nat) (hp : p < 64) (W : World) : (Instr.sliceAt 78 (.pointer (some ⟨g, 9, none⟩)) (some (.int .i64 p)) none none).run Try.prog W = .ok (.slice (some ⟨g, 9 + p, none⟩) (64 - p) (64 - p)) W := by
  have hu : Try.prog.underlying 78 = some (.array 64 5) := by kernel_rfl
  obtain ⟨i5, hi5, hs5⟩ : ∃ i, Try.prog.info? 5 = some i ∧ i.size = 1 := ⟨_, rfl, rfl⟩
  simp only [Instr.sliceAt, Sem.run_bind, run_underlying hu, Result.andThen_ok, Instr.sureAddr, Sem.run_pure, Instr.sliceBounds, Option.isSome_none, Bool.false_eq_true, if_false]
  rw [run_sliceBound _ _ _ _ _ (by omega) (by omega)]
  have hne : ¬ (64 = p) := by omega
  simp [sizeOf, typeInfo, hi5, hs5, Sem.run_bind, Result.andThen, hne, addr_add]
theorem hc_len {s : Hs} {m : Nat} (hs : HGood s m) : (hcells s).length = 74 := by simp [hcells, nums, hs.st, hs.wait]
theorem hc_splice {s : Hs} {m p : Nat} (hs : HGood s m) (ys : List Int) (hp : p + ys.length ≤ 64) :
    (hcells s).take (9 + p) ++ (nums .u8 ys ++ (hcells s).drop (9 + p + (nums .u8 ys).length)) = hcells ⟨s.st, splice s.wait p ys, s.n⟩ := by
  have h8 : (nums .u32 s.st).length = 8 := by rw [nums_length]; exact hs.st
  have h64 : (nums .u8 s.wait).length = 64 := by rw [nums_length]; exact hs.wait
  have hy : (nums .u8 ys).length = ys.length := nums_length ..
  unfold hcells splice
  simp only
  rw [show 9 + p = (8 + p) + 1 from by omega, List.take_succ_cons, hy, show 8 + p + 1 + ys.length = (8 + (p + ys.length)) + 1 from by omega, List.drop_succ_cons]
  rw [List.take_append, List.take_of_length_le (by omega), h8, show 8 + p - 8 = p from by omega, List.take_append_of_le_length (by omega)]
  rw [List.drop_append, List.drop_of_length_le (by omega), h8, show 8 + (p + ys.length) - 8 = p + ys.length from by omega, List.drop_append_of_le_length (by omega)]
  simp only [nums, List.map_append, List.map_take, List.map_drop, List.nil_append, List.cons_append, List.append_assoc]
theorem copy_wait {ops : Array Oper} {rest : List Oper} {o : Oper} {a : Act} {Q : Exit → Act → World → Prop} {W : World} (hgd : o.guard = none) (d x : Operand) (ho : o.op = .call { callee := .builtin .copy, args := #[d, x], argTypes := #[37, 37] })
    (g p : Nat) (hd : a.eval d = .slice (some ⟨g, 9 + p, none⟩) (64 - p) (64 - p)) (A : Option Addr) (c : Nat) (rs : List Int) (hx : a.eval x = .slice A rs.length c) (s : Hs) (m : Nat) (hH : Hat W g s) (hG : HGood s m) (hp : p < 64)
    (k : Nat) (ys : List Int) (hys : ys = rs.take (64 - p)) (hk : ys.length = k) (hpos : 0 < rs.length) (hR : CB W A rs)
    (h : ∀ w1 : World, Aside0 (But W.heap.size g W w1) → Aside0 (Hat w1 g ⟨s.st, splice s.wait p ys, s.n⟩) → wpList Try.prog ops Q rest (a.put o.dst (.int .i64 k)) w1) :
    wpList Try.prog ops Q (o :: rest) a W := by
  obtain ⟨ad, rfl, hcc⟩ := hR.cells hpos
  have hyl : ys.length = min rs.length (64 - p) := by rw [hys, List.length_take]; omega
  have hu : Try.prog.underlying 37 = some (.slice 5) := by kernel_rfl
  have hsz : (Try.prog.info? 5).map (·.size) = some 1 := by kernel_rfl
  refine wpList_copy_own hgd d x 37 37 ho 5 hu hsz g (9 + p) (64 - p) (64 - p) ad rs.length c hd hx (hcells s).toArray 80 hH (nums .u8 ys) (by rw [nums_length, hyl]) ?_ ?_ ?_ ?_
  · intro j v hv
    refine hcc j v ?_
    rw [hys] at hv
    unfold nums at hv ⊢
    rw [List.map_take, List.getElem?_take] at hv
    split at hv
    · exact hv
    · cases hv
  · simp [hc_len hG, nums_length]; omega
  · exact fun v hv => Tw.nums_one .u8 ys v hv
  · rw [nums_length, hk]
    refine h _ ⟨⟨rfl, rfl, rfl, by simp, fun q hq hn => setRow_other W g q _ hn⟩⟩ ⟨?_⟩
    unfold Hat
    rw [setRow_heap W g _ _ 80 (0, 0) hH]
    congr 2
    have hs2 := hc_splice hG ys (p := p) (by rw [hyl]; omega)
    rw [nums_length, hk] at hs2
    rw [← hs2]
theorem Hat.setn {W : World} {g : Nat} {s : Hs} (h : Hat W g s) (hs : s.st.length = 8) (hw : s.wait.length = 64) (v : Int) : Hat (W.setCell ⟨g, 73, none⟩ (.int .u64 v)) g ⟨s.st, s.wait, v⟩ := by
  unfold Hat
  rw [blk_set h 73]
  congr 2
  apply Array.ext'
  have h8 : (nums .u32 s.st).length = 8 := by rw [nums_length]; exact hs
  have h64 : (nums .u8 s.wait).length = 64 := by rw [nums_length]; exact hw
  simp only [hcells, List.setIfInBounds_toArray]
  rw [show 73 = 72 + 1 from rfl, List.set_cons_succ, List.set_append_right _ _ (by omega), h8, List.set_append_right _ _ (by omega), h64]
  rfl
theorem But.kept {g : Nat} {w w' : World} (h : But w.heap.size g w w') : Kept w w' (fun k => k = g) := ⟨h.size, h.block⟩
set_option maxHeartbeats 1000000 in
theorem write_calls (w : World) (g : Nat) (s : Hs) (m : Nat) (bs : List Int) (A : Option Addr) (c : Nat) (hs : HGood s m) (hm : m + bs.length < 1099511627776) (h : Hat w g s) (hc : bs.length ≤ c) (hR : ∀ W', Kept w W' (fun k => k = g) → CB W' A bs) :
    Calls Try.prog 45 #[.pointer (some ⟨g, 0, none⟩), .slice A bs.length c] w fun e w' => e = .returned (.tuple #[]) ∧ But w.heap.size g w w' ∧ Hat w' g (wrote s bs) := by
  have H0 := Aside0.mk (show But w.heap.size g w w from But.of_below (Below.refl _ _))
  have HH := Aside0.mk h
  have HR := Aside0.mk hR
  have HS := Aside0.mk (⟨hs, hm, hc⟩ : HGood s m ∧ m + bs.length < 1099511627776 ∧ bs.length ≤ c)
  clear h hR hs hm hc
  go_enter Try.func45, Try.ntmps45
  go_wp2_with ((with_reducible refine (none_calls _ g s HH.out).mono ?_); rintro _ _ ⟨rfl, ⟨⟨n0, rfl⟩⟩⟩)
  have H1 := Aside0.mk (H0.out.drewN n0)
  have HH1 := Aside0.mk (show Hat (w.drewN n0) g s from HH.out)
  generalize w.drewN n0 = w1 at H1 HH1 ⊢
  have HG := Aside0.mk (⟨rfl, HS.out.1, HS.out.2.1, HS.out.2.2⟩ : wrote s bs = wrote s bs ∧ HGood s m ∧ m + bs.length < 1099511627776 ∧ bs.length ≤ c)
  clear HH H0 HS
  go_loopw [1] (fun v wr => ∃ (rs : List Int) (A' : Option Addr) (c' : Nat) (s' : Hs) (m' : Nat), v = .slice A' rs.length c' ∧ Aside0 (wrote s' rs = wrote s bs ∧ HGood s' m' ∧ m' + rs.length < 1099511627776 ∧ rs.length ≤ c') ∧ Aside0 (But w.heap.size g w wr) ∧ Aside0 (Hat wr g s') ∧ Aside0 (∀ W', Kept w W' (fun k => k = g) → CB W' A' rs)) (fun v _ => slen v)
  case atStart => exact ⟨bs, A, c, s, m, rfl, HG, H1, HH1, HR⟩
  case round =>
    clear HG H1 HH1 HR
    obtain ⟨rs, A', c', s', m', rfl, HG, HB, HH, HR⟩ := hrel
    by_cases hlt : 0 < rs.length
    · have hlt' : decide (0 < rs.length) = true := by simpa using hlt
      have hm' : m' < 1099511627776 := by have := HG.out.2.2.1; omega
      obtain ⟨p, hp⟩ : ∃ p, m' % 64 = p := ⟨_, rfl⟩
      obtain ⟨ys, hys⟩ : ∃ ys, ys = rs.take (64 - p) := ⟨_, rfl⟩
      obtain ⟨k, hk⟩ : ∃ k, ys.length = k := ⟨_, rfl⟩
      have hp64 : p < 64 := by omega
      have hkk : k = min (64 - p) rs.length := by rw [← hk, hys, List.length_take]
      have hmp : (m' : Int) % 64 = (p : Int) := by omega
      have hc1 := n_cell HH.out HG.out.2.1
      have hsl := slice_wait g p hp64
      have HYS := Aside0.mk hys
      have HK := Aside0.mk hk
      have HKK := Aside0.mk hkk
      have HP := Aside0.mk hp
      clear hys hk hkk hp
      obtain ⟨zs, A2, hzs, hzl, hzc, hcut, hcb⟩ := cut_drop (P := Try.prog) 37 (by kernel_rfl) (by kernel_rfl) A' c' rs k (by omega) (by have := HKK.out; omega) HG.out.2.2.2
      have HZ := Aside0.mk (⟨hzs, hzl, hzc⟩ : zs = rs.drop (k : Int).toNat ∧ (zs.length : Int) = rs.length - k ∧ zs.length ≤ c' - (k : Int).toNat)
      have HCB := Aside0.mk hcb
      clear hzs hzl hzc hcb
      have hk64 : k ≤ 64 := by have := HKK.out; omega
      have hpk : p + k ≤ 64 := by have := HKK.out; omega
      have hf0 := Hat.fro HH.out 73
      have hk0 : 0 < k := by have := HKK.out; omega
      have HC := Aside0.mk (HR.out _ (But.kept HB.out))
      have HP2 := Aside0.mk (piece_of HG.out.2.1 HP.out HK.out hpk)
      by_cases hpq : p + k = 64
      · have hq : (((p : Int) + (k : Int)) == 64) = true := by simp; omega
        have HE := Aside0.mk (HP2.out.2.2.2.2.1 hpq)
        clear hpq
        go_wp2_with (first | ((with_reducible refine copy_wait (o := ⟨some 23, _, _, _, _, _⟩) ?_ (.tmp 21) (.tmp 22) ?_ g p ?_ A' c' rs ?_ s' m' HH.out HG.out.2.1 hp64 k ys HYS.out HK.out hlt HC.out ?_); rfl; rfl; rfl; rfl; intro w2 hb2 hh2; have hc2 := n_cell hh2.out HP2.out.1; have hf2 := Hat.fro hh2.out 73; clear hc1 hsl hf0) | ((with_reducible refine (mix_calls _ g (piece s' ys) ?_ ?_ ?_).mono ?_); exact HP2.out.2.2.1.st; exact HP2.out.2.2.1.wait; exact HP2.out.2.1 ▸ Hat.setn hh2.out HP2.out.1.st HP2.out.1.wait _; rintro _ w4 ⟨rfl, hb4, hh4⟩))
        go_roundw
        case rel => exact ⟨zs, A2, c' - k, _, m' + k, rfl, ⟨by rw [← HE.out, wrote_step HYS.out HZ.out.1 HK.out HKK.out (HP2.out.2.2.2.2.2.2 hk0)]; exact HG.out.1, HP2.out.2.2.2.1, by have := HZ.out.2.1; have := HG.out.2.2.1; omega, by have := HZ.out.2.2; simpa using this⟩, ⟨(But.trans HB.out (hb2.out.mono HB.out.size)).setCell 73 (.int .u64 ((m' : Int) + (k : Int))) |>.trans (hb4.mono (by have := HB.out.size; have := hb2.out.size; simp [World.setCell]; omega))⟩, ⟨hh4⟩, ⟨fun W' hk' => HCB.out _ (HR.out W' hk')⟩⟩
        case measure => simp [slen]; have := HZ.out.2.1; omega
      · have hq : (((p : Int) + (k : Int)) == 64) = false := by simp; omega
        have HE := Aside0.mk (HP2.out.2.2.2.2.2.1 hpq)
        clear hpq
        go_wp2_with (((with_reducible refine copy_wait (o := ⟨some 23, _, _, _, _, _⟩) ?_ (.tmp 21) (.tmp 22) ?_ g p ?_ A' c' rs ?_ s' m' HH.out HG.out.2.1 hp64 k ys HYS.out HK.out hlt HC.out ?_); rfl; rfl; rfl; rfl; intro w2 hb2 hh2; have hc2 := n_cell hh2.out HP2.out.1; have hf2 := Hat.fro hh2.out 73; clear hc1 hsl hf0))
        go_roundw
        case rel => exact ⟨zs, A2, c' - k, piece s' ys, m' + k, rfl, ⟨by rw [← HE.out, wrote_step HYS.out HZ.out.1 HK.out HKK.out (HP2.out.2.2.2.2.2.2 hk0)]; exact HG.out.1, HP2.out.2.2.1, by have := HZ.out.2.1; have := HG.out.2.2.1; omega, by have := HZ.out.2.2; simpa using this⟩, ⟨(But.trans HB.out (hb2.out.mono HB.out.size)).setCell 73 (.int .u64 ((m' : Int) + (k : Int)))⟩, ⟨HP2.out.2.1 ▸ Hat.setn hh2.out HP2.out.1.st HP2.out.1.wait _⟩, ⟨fun W' hk' => HCB.out _ (HR.out W' hk')⟩⟩
        case measure => simp [slen]; have := HZ.out.2.1; omega
    · have hlt' : decide (0 < rs.length) = false := by simpa using hlt
      have hnil : rs = [] := List.eq_nil_of_length_eq_zero (by omega)
      have HN := Aside0.mk hnil
      clear hnil
      go_wp2
      go_end0
      exact ⟨rfl, HB.out, by rw [← HG.out.1, HN.out]; exact HH.out⟩
end Go.Proofs.Ytgpgblidplmchaa.Swr
namespace Go.Proofs.Ytgpgblidplmchaa.Ssm
open Go.RowKit Go.Proofs.YtgpgblidplmchaaW.PrintWords Go.Proofs.YtgpgblidplmchaaW.PrintLast Go.Proofs.YtgpgblidplmchaaW.PrintMore
open Ag POct Sw Sk Sm Sx Swr
set_option linter.unusedVariables false
set_option linter.unusedSimpArgs false
set_option maxRecDepth 100000
def zero25 : List Int := List.replicate 32 0
theorem z25 : (Try.prog.info? 25).map (·.zero) = some (some (.agg (nums .u8 zero25).toArray)) := by kernel_rfl
theorem sz25 : (Try.prog.info? 25).map (·.size) = some 32 := by kernel_rfl
theorem z80 : (Try.prog.info? 80).map (·.zero) = some (some (.agg (Value.bool false :: (nums .u32 (List.replicate 8 0) ++ (nums .u8 (List.replicate 64 0) ++ [.int .u64 0]))).toArray)) := by kernel_rfl
theorem sz80 : (Try.prog.info? 80).map (·.size) = some 74 := by kernel_rfl
theorem absorb_good {s : Hs} {m : Nat} (hs : HGood s m) (x : Int) : HGood (absorb s x) (m + 1) := by
  have ht : HGood ⟨s.st, s.wait.set (s.n.toNat % 64) x, s.n + 1⟩ (m + 1) := ⟨hs.st, by simpa using hs.wait, by simp [hs.n]⟩
  unfold absorb
  simp only
  split
  · exact mixed_good ht
  · exact ht
theorem wrote_good : ∀ (bs : List Int) {s : Hs} {m : Nat}, HGood s m → HGood (wrote s bs) (m + bs.length) := by
  intro bs
  induction bs with
  | nil => intro s m h; exact h
  | cons x xs ih =>
    intro s m h
    have := ih (absorb_good h x)
    unfold wrote at this ⊢
    rw [List.foldl_cons, List.length_cons, show m + (xs.length + 1) = m + 1 + xs.length from by omega]
    exact this
theorem wrote_snoc (s : Hs) (bs : List Int) (x : Int) : wrote s (bs ++ [x]) = absorb (wrote s bs) x := by unfold wrote; rw [List.foldl_append]; rfl
theorem hc_all (s : Hs) : (hcells s).toArray.all (·.oneCell') = true := by
  rw [← Array.all_toList]
  refine List.all_eq_true.2 fun v hv => ?_
  simp only [hcells, List.mem_cons, List.mem_append, List.not_mem_nil, or_false] at hv
  rcases hv with rfl | hv | hv | rfl
  · rfl
  · exact Tw.nums_one _ _ _ hv
  · exact Tw.nums_one _ _ _ hv
  · rfl
theorem write1 (W : World) (g : Nat) (s : Hs) (m : Nat) (x : Int) (hs : HGood s m) (hm : m + 1 < 1099511627776) (h : Hat W g s) :
    Calls Try.prog 45 #[.pointer (some ⟨g, 0, none⟩), .slice (some ⟨W.heap.size, 0, none⟩) 1 1] (W.alloc (.cells #[.int .u8 x] 5)) fun e w' => e = .returned (.tuple #[]) ∧ But W.heap.size g W w' ∧ Hat w' g (absorb s x) ∧ HGood (absorb s x) (m + 1) := by
  have hg : g < W.heap.size := blk_lt h
  have hz : (W.alloc (.cells #[.int .u8 x] 5)).heap.size = W.heap.size + 1 := size_alloc W _
  refine (write_calls (W.alloc (.cells #[.int .u8 x] 5)) g s m [x] (some ⟨W.heap.size, 0, none⟩) 1 hs hm (blk_alloc h _) (by simp) ?_).mono ?_
  · intro W' hk
    refine CB.of_block (cs := #[.int .u8 x]) (t := 5) ?_ (by simp) ?_
    · rw [hk.2 _ (by rw [hz]; omega) (by omega)]
      exact heap_alloc_new W _
    · intro j hj
      simp at hj
      subst hj
      rfl
  · rintro _ w' ⟨rfl, hb, hh⟩
    exact ⟨rfl, (But.of_below ((Below.refl _ _).alloc (Nat.le_refl _) _)).trans (hb.mono (by rw [hz]; omega)), hh, absorb_good hs x⟩
structure SI (w W : World) (g2 g3 ge : Nat) (s : Hs) (m : Nat) : Prop where
  below : Below w.heap.size w W
  hat : Hat W ge s
  good : HGood s m
  r2 : Rw .u8 25 W g2 zero25
  r3 : Rw .u8 25 W g3 zero25
  ne : g2 ≠ ge ∧ g3 ≠ ge ∧ g2 ≠ g3 ∧ w.heap.size ≤ ge ∧ w.heap.size ≤ g2 ∧ w.heap.size ≤ g3
theorem SI.but {w W W' : World} {g2 g3 ge : Nat} {s s' : Hs} {m m' : Nat} (h : SI w W g2 g3 ge s m) (hb : But W.heap.size ge W W') (hh : Hat W' ge s') (hg : HGood s' m') : SI w W' g2 g3 ge s' m' :=
  ⟨hb.below h.below h.ne.2.2.2.1 h.below.size, hh, hg, (hb.block g2 h.r2.lt h.ne.1).trans h.r2, (hb.block g3 h.r3.lt h.ne.2.1).trans h.r3, h.ne⟩
theorem SI.n_cell {w W : World} {g2 g3 ge : Nat} {s : Hs} {m : Nat} (h : SI w W g2 g3 ge s m) : W.cell? ⟨ge, 73, none⟩ = some (.int .u64 m) ∧ W.frozen? ⟨ge, 73, none⟩ = false := ⟨Swr.n_cell h.hat h.good, Hat.fro h.hat 73⟩
def zrow80 : Array Value := (Value.bool false :: (nums .u32 (List.replicate 8 0) ++ (nums .u8 (List.replicate 64 0) ++ [.int .u64 0]))).toArray
theorem z80' : (Try.prog.info? 80).map (·.zero) = some (some (.agg zrow80)) := z80
theorem zrow_sz : zrow80.size = 74 := by rfl
structure S0 (w W : World) (g g2 g3 : Nat) (s : Hs) : Prop where
  below : Below w.heap.size w W
  hat : Hat W g s
  r2 : Rw .u8 25 W g2 zero25
  r3 : Rw .u8 25 W g3 zero25
  ne : g2 ≠ g3 ∧ w.heap.size ≤ g2 ∧ w.heap.size ≤ g3
theorem S0.start (w : World) (g : Nat) (s : Hs) (n : Nat) (h : Hat w g s) : S0 w (((w.alloc (.cells (nums .u8 zero25).toArray 25)).alloc (.cells (nums .u8 zero25).toArray 25)).drewN n) g w.heap.size (w.heap.size + 1) s := by
  obtain ⟨a, b, c⟩ := alloc2 w .u8 25 zero25 zero25
  exact ⟨pw_below_drewN a n, blk_alloc (blk_alloc h _) _, c, b, by omega, Nat.le_refl _, by omega⟩
theorem S0.made {w W W2 : World} {g g2 g3 ge : Nat} {s : Hs} {m : Nat} (h : S0 w W g g2 g3 s) (hs : HGood s m) (he : W.heap.size = ge) (h1 : W2.heap[ge]? = some (.cells (hcells s).toArray 80 (0, 0))) (h2 : (W.alloc (.cells zrow80 80)).grownBy W2 (some ge)) (h3 : Below w.heap.size w W2) : SI w W2 g2 g3 ge s m ∧ Hat W2 g s ∧ g ≠ ge := by
  have l2 := h.r2.lt; have l3 := h.r3.lt; have lg := blk_lt h.hat
  have k : ∀ q, q < ge → W2.heap[q]? = W.heap[q]? := fun q hq => (h2.block q (by rw [size_alloc]; omega) (by simp; omega)).trans (Below.heap_alloc W _ q (by omega))
  exact ⟨⟨h3, h1, hs, (k g2 (by omega)).trans h.r2, (k g3 (by omega)).trans h.r3, by omega, by omega, h.ne.1, by have := h.below.size; omega, h.ne.2.1, h.ne.2.2⟩, (k g (by omega)).trans h.hat, by omega⟩
def tl (j : Nat) : List Int := 128 :: List.replicate j 0
theorem tl_succ (j : Nat) : tl (j + 1) = tl j ++ [0] := by unfold tl; rw [List.replicate_succ']; rfl
def nOf (w : World) (g : Nat) : Nat := match w.cell? ⟨g, 73, none⟩ with
  | some (.int _ n) => n.toNat
  | _ => 0
theorem nOf_is {w : World} {g m : Nat} (h : w.cell? ⟨g, 73, none⟩ = some (.int .u64 m)) : nOf w g = m := by unfold nOf; rw [h]; rfl
theorem nOf_less {w w' : World} {g m B : Nat} (h : w.cell? ⟨g, 73, none⟩ = some (.int .u64 m)) (h' : w'.cell? ⟨g, 73, none⟩ = some (.int .u64 (m + 1 : Nat))) (hB : m < B) : B - nOf w' g < B - nOf w g := by
  rw [nOf_is h, nOf_is h']; omega
def be8 (m : Nat) : List Int := [(m : Int) * 8 / 72057594037927936, (m : Int) * 8 / 281474976710656, (m : Int) * 8 / 1099511627776, (m : Int) * 8 / 4294967296 % 256, (m : Int) * 8 / 16777216 % 256, (m : Int) * 8 / 65536 % 256, (m : Int) * 8 / 256 % 256, (m : Int) * 8 % 256]
theorem be8_next (m i : Nat) (l : List Int) (h : i < 8) : l ++ (be8 m).take (i + 1) = l ++ (be8 m).take i ++ [(be8 m).getD i 0] := by
  rw [List.append_assoc, List.take_succ_eq_append_getElem (by exact h), List.getD_eq_getElem?_getD, List.getElem?_eq_getElem (by exact h)]
  rfl
theorem be8_0 (m : Nat) : (be8 m).getD 0 0 = (m : Int) * 8 / 72057594037927936 := by unfold be8; simp only [List.getD_cons_zero, List.getD_cons_succ]
theorem be8_1 (m : Nat) : (be8 m).getD 1 0 = (m : Int) * 8 / 281474976710656 := by unfold be8; simp only [List.getD_cons_zero, List.getD_cons_succ]
theorem be8_2 (m : Nat) : (be8 m).getD 2 0 = (m : Int) * 8 / 1099511627776 := by unfold be8; simp only [List.getD_cons_zero, List.getD_cons_succ]
theorem be8_3 (m : Nat) : (be8 m).getD 3 0 = (m : Int) * 8 / 4294967296 % 256 := by unfold be8; simp only [List.getD_cons_zero, List.getD_cons_succ]
theorem be8_4 (m : Nat) : (be8 m).getD 4 0 = (m : Int) * 8 / 16777216 % 256 := by unfold be8; simp only [List.getD_cons_zero, List.getD_cons_succ]
theorem be8_5 (m : Nat) : (be8 m).getD 5 0 = (m : Int) * 8 / 65536 % 256 := by unfold be8; simp only [List.getD_cons_zero, List.getD_cons_succ]
theorem be8_6 (m : Nat) : (be8 m).getD 6 0 = (m : Int) * 8 / 256 % 256 := by unfold be8; simp only [List.getD_cons_zero, List.getD_cons_succ]
theorem be8_7 (m : Nat) : (be8 m).getD 7 0 = (m : Int) * 8 % 256 := by unfold be8; simp only [List.getD_cons_zero, List.getD_cons_succ]
theorem be8_si {w W : World} {g2 g3 ge : Nat} {s : Hs} {l : List Int} {m k i : Nat} {x : Int} (hi : i < 8) (hx : (be8 m).getD i 0 = x) (h : SI w W g2 g3 ge (absorb (wrote s (l ++ (be8 m).take i)) x) k) : SI w W g2 g3 ge (wrote s (l ++ (be8 m).take (i + 1))) k := by
  rw [be8_next _ _ _ hi, wrote_snoc, hx]; exact h
theorem prow_full_ (L : List Int) (hL : L.length = 32) : (L.take 32 ++ List.replicate (32 - 32) 0 : List Int) = L := by
  rw [List.take_of_length_le (by omega)]; simp
theorem op_loadst {ops : Array Oper} {rest : List Oper} {o : Oper} {a : Act} {Q : Exit → Act → World → Prop} {W : World} {g : Nat} {s : Hs} (hgd : o.guard = none) (x : Operand) (ho : o.op = .load 77 x) (hx : a.eval x = .pointer (some ⟨g, 1, none⟩)) (hH : Hat W g s) (hst : s.st.length = 8)
    (h : wpList Try.prog ops Q rest (a.put o.dst (.agg (nums .u32 s.st).toArray)) W) : wpList Try.prog ops Q (o :: rest) a W :=
  Kd.event_run hgd (load_run ho hx (Hat.loadst hH hst)) h
theorem idx77 {o : Oper} {a : Act} {W : World} {i : Nat} {st : List Int} {v : Int} (ho : o.op = .index 77 (.tmp 43) (.tmp 44)) (hx : a.eval (.tmp 43) = .agg (nums .u32 st).toArray) (hy : a.eval (.tmp 44) = .int .i64 i) (hi : i < 8) (hl : st.length = 8) (hv : st.getD i 0 = v) :
    (execOp a.eval o).run Try.prog W = .ok (.value (.int .u32 v)) W := by
  obtain ⟨it, hit, hz⟩ := Option.map_eq_some_iff.1 (show (Try.prog.info? 76).map (·.size) = some 1 by kernel_rfl)
  have hc : (nums .u32 st)[i]? = some (.int .u32 v) := by
    rw [← hv]
    simp [nums, List.getElem?_eq_getElem (show i < st.length by omega), List.getD_eq_getElem?_getD]
  simp only [execOp, ho, hx, hy, Instr.index]
  simp [asIntOf, run_underlying Try.underlying77, part, isAgg, run_underlying Try.underlying76, sizeOf, typeInfo, hit, hz, hi, hc]
def outB (st : List Int) : List Int := (List.range 32).map fun q => st.getD (q / 4) 0 / 2 ^ (24 - 8 * (q % 4)) % 256
theorem outB_len (st : List Int) : (outB st).length = 32 := by simp [outB]
theorem outB_get (st : List Int) (i : Nat) (hi : i < 8) (x : Int) (hx : st.getD i 0 = x) : (outB st).getD (4 * i) 0 = x / 16777216 % 256 ∧ (outB st).getD (4 * i + 1) 0 = x / 65536 % 256 ∧ (outB st).getD (4 * i + 2) 0 = x / 256 % 256 ∧ (outB st).getD (4 * i + 3) 0 = x % 256 := by
  have h : ∀ k, k < 4 → (outB st).getD (4 * i + k) 0 = x / 2 ^ (24 - 8 * k) % 256 := by
    intro k hk
    unfold outB
    rw [List.getD_eq_getElem?_getD, List.getElem?_map, List.getElem?_range (by omega)]
    simp only [Option.map_some, Option.getD_some]
    rw [show (4 * i + k) / 4 = i from by omega, show (4 * i + k) % 4 = k from by omega, hx]
  refine ⟨h 0 (by omega), h 1 (by omega), h 2 (by omega), ?_⟩
  have := h 3 (by omega)
  rw [this]
  simp
def prow (L : List Int) (n : Nat) : List Int := L.take n ++ List.replicate (32 - n) 0
theorem prow_len (L : List Int) (n : Nat) (hL : L.length = 32) (hn : n ≤ 32) : (prow L n).length = 32 := by simp [prow, hL]; omega
theorem prow_set (L : List Int) (n : Nat) (hL : L.length = 32) (hn : n < 32) : (prow L n).set n (L.getD n 0) = prow L (n + 1) := by
  unfold prow
  have hl : (L.take n).length = n := by rw [List.length_take]; omega
  rw [List.set_append_right _ _ (by omega), hl, Nat.sub_self]
  obtain ⟨k, hk⟩ : ∃ k, 32 - n = k + 1 := ⟨31 - n, by omega⟩
  rw [hk, List.replicate_succ, List.set_cons_zero, show 32 - (n + 1) = k from by omega, List.take_succ_eq_append_getElem (by omega), List.append_assoc, List.getD_eq_getElem?_getD, List.getElem?_eq_getElem (by omega)]
  rfl
structure SO (w W : World) (g2 g3 : Nat) (L : List Int) (n : Nat) : Prop where
  below : Below w.heap.size w W
  r2 : Rw .u8 25 W g2 zero25
  r3 : Rw .u8 25 W g3 (prow L n)
  ne : g2 ≠ g3 ∧ w.heap.size ≤ g2 ∧ w.heap.size ≤ g3
theorem SO.start {w W : World} {g2 g3 ge : Nat} {s : Hs} {m : Nat} (h : SI w W g2 g3 ge s m) (L : List Int) : SO w W g2 g3 L 0 := ⟨h.below, h.r2, h.r3, h.ne.2.2.1, h.ne.2.2.2.2⟩
theorem SO.cell {w W : World} {g2 g3 n : Nat} {L : List Int} (h : SO w W g2 g3 L n) (hL : L.length = 32) (hn : n < 32) : W.cell? ⟨g3, n, none⟩ = some (.int .u8 ((prow L n).getD n 0)) ∧ W.frozen? ⟨g3, n, none⟩ = false :=
  ⟨h.r3.cell n (by rw [prow_len L n hL (by omega)]; exact hn), h.r3.fro n⟩
theorem SO.set {w W : World} {g2 g3 n : Nat} {L : List Int} {v : Int} (h : SO w W g2 g3 L n) (hL : L.length = 32) (hn : n < 32) (hv : L.getD n 0 = v) : SO w (W.setCell ⟨g3, n, none⟩ (.int .u8 v)) g2 g3 L (n + 1) :=
  ⟨h.below.setCell h.ne.2.2 _, (Below.heap_setCell W ⟨g3, n, none⟩ _ g2 h.ne.1).trans h.r2, by rw [← prow_set L n hL hn, hv]; exact h.r3.set n v, h.ne⟩
theorem quad (i q : Nat) (hi : i < 8) (hq : 4 * i = q) : 4 * (i : Int) = (q : Int) ∧ (q : Int) < 29 ∧ ((q : Int) + 1).toNat = q + 1 ∧ ((q : Int) + 2).toNat = q + 2 ∧ ((q : Int) + 3).toNat = q + 3 := by omega
theorem prow_full {W : World} {g3 : Nat} {L : List Int} (hL : L.length = 32) (h : Rw .u8 25 W g3 (prow L (4 * 8))) : W.heap[g3]? = some (.cells (nums .u8 L).toArray 25 (0, 0)) := by
  have e : prow L (4 * 8) = L := prow_full_ L hL
  rw [e] at h; exact h
/-- the sum of what was written -/
def sumB (s : Hs) (m : Nat) : List Int := outB (wrote s (tl ((119 - m % 64) % 64) ++ be8 m)).st
set_option maxHeartbeats 1000000 in
theorem sum_calls (w : World) (g : Nat) (s : Hs) (m : Nat) (hs : HGood s m) (hm : m < 1099511627000) (h : Hat w g s) :
    Calls Try.prog 46 #[.pointer (some ⟨g, 0, none⟩)] w fun e w' => e = .returned (.agg (nums .u8 (sumB s m)).toArray) ∧ Below w.heap.size w w' := by
  have HH := Aside0.mk h
  have HS := Aside0.mk hs
  have HZ := Aside0.mk (show (hcells s).toArray.size = 74 from by rw [List.size_toArray]; exact hc_len hs)
  clear h hs
  have hwa := size_alloc w (.cells (nums .u8 zero25).toArray 25)
  go_enter Try.func46, Try.ntmps46
  go_upto_region 4 with (first | (with_reducible refine op_alloc rfl 25 rfl _ z25 ?_) | ((with_reducible refine (none_calls _ g s ?_).mono ?_); exact blk_alloc (blk_alloc HH.out _) _; rintro _ _ ⟨rfl, ⟨⟨n0, rfl⟩⟩⟩))
  have H0 := Aside0.mk (S0.start w g s n0 HH.out)
  generalize World.drewN _ n0 = W1 at H0 ⊢
  clear hwa HH
  obtain ⟨ge, hge⟩ : ∃ ge, W1.heap.size = ge := ⟨_, rfl⟩
  have HGE := Aside0.mk hge
  have HB0 := Aside0.mk (H0.out.below.alloc H0.out.below.size (.cells zrow80 80))
  have HN0 := Aside0.mk (hge ▸ heap_alloc_new W1 (.cells zrow80 80) : (W1.alloc (.cells zrow80 80)).heap[ge]? = some (.cells zrow80 80 (0, 0)))
  generalize w.heap.size = g2 at H0 ⊢
  have HL := Aside0.mk (show W1.heap[g]? = some (.cells (hcells s).toArray 80 (0, 0)) from H0.out.hat)
  have hle := H0.out.below.size
  rw [hge] at hle
  have HLE := Aside0.mk hle
  clear hge hle
  go_upto_region 7 with (first
    | (with_reducible refine op_load rfl 80 _ rfl g rfl 80 _ _ HL.out Try.underlying80 rfl 74 sz80 HZ.out ?_)
    | ((with_reducible refine op_alloc rfl 80 rfl _ z80' ?_); simp only [HGE.out])
    | ((with_reducible refine op_store (w0 := w) (o := ⟨none, .store 80 (.tmp 4) (.tmp 15), _, _, _, _⟩) w.heap.size ?_ 80 (.tmp 4) (.tmp 15) ?_ ge (hcells s).toArray ?_ ?_ 80 zrow80 HN0.out 74 sz80 HZ.out zrow_sz (hc_all s) HB0.out HLE.out ?_); rfl; rfl; rfl; rfl; intro W2 h1 h2 h3; have HM := Aside0.mk (H0.out.made HS.out HGE.out h1.out h2.out h3.out); have hc2 := n_cell HM.out.2.1 HS.out; clear HL HN0 HB0 H0 h1 h2 h3)
    | ((with_reducible refine (write1 _ ge s m 128 HS.out ?_ ?_).mono ?_); omega; exact HM.out.1.hat; rintro _ W3 ⟨rfl, hb3, hh3, hg3⟩))
  have HI := Aside0.mk (HM.out.1.but hb3 hh3 hg3)
  obtain ⟨z, hz⟩ : ∃ z, z = (119 - m % 64) % 64 := ⟨_, rfl⟩
  have HZZ := Aside0.mk hz
  clear hz HM hc2 hb3 hh3 hg3
  go_loopw [23] (fun v wr => ∃ j mm : Nat, j ≤ z ∧ Aside0 (mm = m + 1 + j) ∧ Aside0 (SI w wr g2 (g2 + 1) ge (wrote s (tl j)) mm)) (fun _ wr => m + 100 - nOf wr ge)
  case atStart => exact ⟨0, m + 1, Nat.zero_le _, ⟨rfl⟩, HI⟩
  case round =>
    clear HI
    obtain ⟨j, mm, hj, HJ, HI⟩ := hrel
    obtain ⟨hc1, hf1⟩ := HI.out.n_cell
    by_cases hlt : j < z
    · have hq : ((mm : Int) % 64 == 56) = false := by have := HJ.out; have := HZZ.out; simp; omega
      have hq2 : ((mm : Int) % 64 != 56) = true := by have := HJ.out; have := HZZ.out; simp; omega
      have hmm : mm < 1099511627500 := by have := HJ.out; have := HZZ.out; omega
      go_wp2_with (((with_reducible refine (write1 _ ge (wrote s (tl j)) mm 0 HI.out.good ?_ ?_).mono ?_); omega; exact HI.out.hat; rintro _ W4 ⟨rfl, hb4, hh4, hg4⟩))
      have HI4 := Aside0.mk (HI.out.but hb4 hh4 hg4)
      go_roundw
      case rel => exact ⟨j + 1, mm + 1, by omega, ⟨by have := HJ.out; omega⟩, ⟨by rw [tl_succ, wrote_snoc]; exact HI4.out⟩⟩
      case measure => exact nOf_less HI.out.n_cell.1 HI4.out.n_cell.1 (by have := HJ.out; have := HZZ.out; omega)
    · have hq : ((mm : Int) % 64 == 56) = true := by have := HJ.out; have := HZZ.out; simp; omega
      have hq2 : ((mm : Int) % 64 != 56) = false := by have := HJ.out; have := HZZ.out; simp; omega
      obtain rfl : j = z := by omega
      go_wp2
      go_loopw [29] (fun v wr => ∃ i mm : Nat, i ≤ 8 ∧ v = .int .i64 i ∧ Aside0 (mm = m + 1 + j + i) ∧ Aside0 (SI w wr g2 (g2 + 1) ge (wrote s (tl j ++ (be8 m).take i)) mm)) (fun v _ => 8 - (intOf v).toNat)
      case atStart => exact ⟨0, mm, by omega, rfl, HJ, ⟨by rw [List.take_zero, List.append_nil]; exact HI.out⟩⟩
      case round =>
        have HJ0 := HJ
        clear HI HJ hq hq2 hc1 hf1
        obtain ⟨i, mm, hi, rfl, HJ, HI⟩ := hrel
        obtain ⟨hc1, hf1⟩ := HI.out.n_cell
        by_cases hlt : i < 8
        · have h8 : i = 0 ∨ i = 1 ∨ i = 2 ∨ i = 3 ∨ i = 4 ∨ i = 5 ∨ i = 6 ∨ i = 7 := by omega
          have hmm : mm + 1 < 1099511627776 := by have := HJ.out; have := HZZ.out; omega
          have HMM := Aside0.mk hmm
          clear hlt hmm
          rcases h8 with rfl | rfl | rfl | rfl | rfl | rfl | rfl | rfl
          · simp only [show ((0 : Nat) : Int) = 0 from rfl]
            go_wp2_with (((with_reducible refine (write1 _ ge _ mm _ HI.out.good ?_ ?_).mono ?_); exact HMM.out; exact HI.out.hat; rintro _ W4 ⟨rfl, hb4, hh4, hg4⟩))
            have HI4 := Aside0.mk (be8_si (l := tl j) (m := m) (i := 0) (by decide) (be8_0 m) (HI.out.but hb4 hh4 hg4))
            go_roundw
            case rel => exact ⟨1, mm + 1, by decide, rfl, ⟨by have := HJ.out; omega⟩, HI4⟩
            case measure => exact (by decide : 8 - 1 < 8 - 0)
          · simp only [show ((1 : Nat) : Int) = 1 from rfl]
            go_wp2_with (((with_reducible refine (write1 _ ge _ mm _ HI.out.good ?_ ?_).mono ?_); exact HMM.out; exact HI.out.hat; rintro _ W4 ⟨rfl, hb4, hh4, hg4⟩))
            have HI4 := Aside0.mk (be8_si (l := tl j) (m := m) (i := 1) (by decide) (be8_1 m) (HI.out.but hb4 hh4 hg4))
            go_roundw
            case rel => exact ⟨2, mm + 1, by decide, rfl, ⟨by have := HJ.out; omega⟩, HI4⟩
            case measure => exact (by decide : 8 - 2 < 8 - 1)
          · simp only [show ((2 : Nat) : Int) = 2 from rfl]
            go_wp2_with (((with_reducible refine (write1 _ ge _ mm _ HI.out.good ?_ ?_).mono ?_); exact HMM.out; exact HI.out.hat; rintro _ W4 ⟨rfl, hb4, hh4, hg4⟩))
            have HI4 := Aside0.mk (be8_si (l := tl j) (m := m) (i := 2) (by decide) (be8_2 m) (HI.out.but hb4 hh4 hg4))
            go_roundw
            case rel => exact ⟨3, mm + 1, by decide, rfl, ⟨by have := HJ.out; omega⟩, HI4⟩
            case measure => exact (by decide : 8 - 3 < 8 - 2)
          · simp only [show ((3 : Nat) : Int) = 3 from rfl]
            go_wp2_with (((with_reducible refine (write1 _ ge _ mm _ HI.out.good ?_ ?_).mono ?_); exact HMM.out; exact HI.out.hat; rintro _ W4 ⟨rfl, hb4, hh4, hg4⟩))
            have HI4 := Aside0.mk (be8_si (l := tl j) (m := m) (i := 3) (by decide) (be8_3 m) (HI.out.but hb4 hh4 hg4))
            go_roundw
            case rel => exact ⟨4, mm + 1, by decide, rfl, ⟨by have := HJ.out; omega⟩, HI4⟩
            case measure => exact (by decide : 8 - 4 < 8 - 3)
          · simp only [show ((4 : Nat) : Int) = 4 from rfl]
            go_wp2_with (((with_reducible refine (write1 _ ge _ mm _ HI.out.good ?_ ?_).mono ?_); exact HMM.out; exact HI.out.hat; rintro _ W4 ⟨rfl, hb4, hh4, hg4⟩))
            have HI4 := Aside0.mk (be8_si (l := tl j) (m := m) (i := 4) (by decide) (be8_4 m) (HI.out.but hb4 hh4 hg4))
            go_roundw
            case rel => exact ⟨5, mm + 1, by decide, rfl, ⟨by have := HJ.out; omega⟩, HI4⟩
            case measure => exact (by decide : 8 - 5 < 8 - 4)
          · simp only [show ((5 : Nat) : Int) = 5 from rfl]
            go_wp2_with (((with_reducible refine (write1 _ ge _ mm _ HI.out.good ?_ ?_).mono ?_); exact HMM.out; exact HI.out.hat; rintro _ W4 ⟨rfl, hb4, hh4, hg4⟩))
            have HI4 := Aside0.mk (be8_si (l := tl j) (m := m) (i := 5) (by decide) (be8_5 m) (HI.out.but hb4 hh4 hg4))
            go_roundw
            case rel => exact ⟨6, mm + 1, by decide, rfl, ⟨by have := HJ.out; omega⟩, HI4⟩
            case measure => exact (by decide : 8 - 6 < 8 - 5)
          · simp only [show ((6 : Nat) : Int) = 6 from rfl]
            go_wp2_with (((with_reducible refine (write1 _ ge _ mm _ HI.out.good ?_ ?_).mono ?_); exact HMM.out; exact HI.out.hat; rintro _ W4 ⟨rfl, hb4, hh4, hg4⟩))
            have HI4 := Aside0.mk (be8_si (l := tl j) (m := m) (i := 6) (by decide) (be8_6 m) (HI.out.but hb4 hh4 hg4))
            go_roundw
            case rel => exact ⟨7, mm + 1, by decide, rfl, ⟨by have := HJ.out; omega⟩, HI4⟩
            case measure => exact (by decide : 8 - 7 < 8 - 6)
          · simp only [show ((7 : Nat) : Int) = 7 from rfl]
            go_wp2_with (((with_reducible refine (write1 _ ge _ mm _ HI.out.good ?_ ?_).mono ?_); exact HMM.out; exact HI.out.hat; rintro _ W4 ⟨rfl, hb4, hh4, hg4⟩))
            have HI4 := Aside0.mk (be8_si (l := tl j) (m := m) (i := 7) (by decide) (be8_7 m) (HI.out.but hb4 hh4 hg4))
            go_roundw
            case rel => exact ⟨8, mm + 1, by decide, rfl, ⟨by have := HJ.out; omega⟩, HI4⟩
            case measure => exact (by decide : 8 - 8 < 8 - 7)
        · obtain rfl : i = 8 := by omega
          have hgs := HI.out.good
          obtain ⟨sf, hsf⟩ : ∃ sf, wrote s (tl j ++ (be8 m).take 8) = sf := ⟨_, rfl⟩
          have HSF := Aside0.mk hsf
          rw [hsf] at hgs
          have HI2 := Aside0.mk (hsf ▸ HI.out)
          have HST := Aside0.mk hgs.st
          clear hsf hgs hlt HI hc1 hf1
          go_wp2_with (((with_reducible refine op_loadst (o := ⟨some 43, _, _, _, _, _⟩) (g := ge) (s := sf) ?_ (.tmp 42) ?_ ?_ HI2.out.hat HST.out ?_); rfl; rfl; rfl))
          obtain ⟨L, hL⟩ : ∃ L, outB sf.st = L := ⟨_, rfl⟩
          have HLE := Aside0.mk hL
          have HL := Aside0.mk (hL ▸ outB_len sf.st)
          have HO0 := Aside0.mk (SO.start HI2.out L)
          clear hL
          generalize hste : sf.st = st at HLE HST ⊢
          have HSTE := Aside0.mk hste.symm
          clear hste
          go_loopw [44] (fun v wr => ∃ i : Nat, i ≤ 8 ∧ v = .int .i64 i ∧ Aside0 (SO w wr g2 (g2 + 1) L (4 * i))) (fun v _ => 8 - (intOf v).toNat)
          case atStart => exact ⟨0, by omega, rfl, HO0⟩
          case round =>
            clear HI2 HO0
            obtain ⟨i, hi, rfl, HO⟩ := hrel
            by_cases hlt : i < 8
            · have hlt' : decide ((i : Int) < 8) = true := by simp; omega
              obtain ⟨x, hx⟩ : ∃ x, st.getD i 0 = x := ⟨_, rfl⟩
              have HX := Aside0.mk hx
              obtain ⟨q, hq⟩ : ∃ q, 4 * i = q := ⟨_, rfl⟩
              obtain ⟨f1, f2, f3, f4, f5⟩ := quad i q hlt hq
              have HQ := Aside0.mk (⟨hq, hlt⟩ : 4 * i = q ∧ i < 8)
              have HV := Aside0.mk (hq ▸ HLE.out ▸ outB_get st i hlt x hx)
              have HI8 := Aside0.mk hlt
              have HO1 := Aside0.mk (hq ▸ HO.out)
              clear hx hq HO
              go_wp2_with (with_reducible refine Kd.event_run rfl (idx77 rfl rfl rfl HI8.out HST.out HX.out) ?_)
              go_loopw [48] (fun v wr => ∃ k : Nat, k ≤ 4 ∧ v = .int .i64 k ∧ Aside0 (SO w wr g2 (g2 + 1) L (q + k))) (fun v _ => 4 - (intOf v).toNat)
              case atStart => exact ⟨0, by omega, rfl, HO1⟩
              case round =>
                clear HO1
                obtain ⟨k, hk, rfl, HO2⟩ := hrel
                by_cases hlt2 : k < 4
                have h4 : k = 0 ∨ k = 1 ∨ k = 2 ∨ k = 3 := by omega
                clear hlt2
                rcases h4 with rfl | rfl | rfl | rfl
                · simp only [show ((0 : Nat) : Int) = 0 from rfl]
                  obtain ⟨hc2, hf2⟩ : wr.cell? ⟨g2 + 1, q, none⟩ = some (.int .u8 ((prow L q).getD q 0)) ∧ wr.frozen? ⟨g2 + 1, q, none⟩ = false := HO2.out.cell HL.out (by have := HQ.out; omega)
                  go_wp2
                  go_roundw
                  case rel => exact ⟨1, by decide, rfl, ⟨HO2.out.set HL.out (by have := HQ.out; omega) HV.out.1⟩⟩
                  case measure => exact (by decide : 4 - 1 < 4 - 0)
                · simp only [show ((1 : Nat) : Int) = 1 from rfl]
                  obtain ⟨hc2, hf2⟩ := HO2.out.cell HL.out (by have := HQ.out; omega)
                  go_wp2
                  go_roundw
                  case rel => exact ⟨2, by decide, rfl, ⟨HO2.out.set HL.out (by have := HQ.out; omega) HV.out.2.1⟩⟩
                  case measure => exact (by decide : 4 - 2 < 4 - 1)
                · simp only [show ((2 : Nat) : Int) = 2 from rfl]
                  obtain ⟨hc2, hf2⟩ := HO2.out.cell HL.out (by have := HQ.out; omega)
                  go_wp2
                  go_roundw
                  case rel => exact ⟨3, by decide, rfl, ⟨HO2.out.set HL.out (by have := HQ.out; omega) HV.out.2.2.1⟩⟩
                  case measure => exact (by decide : 4 - 3 < 4 - 2)
                · simp only [show ((3 : Nat) : Int) = 3 from rfl]
                  obtain ⟨hc2, hf2⟩ := HO2.out.cell HL.out (by have := HQ.out; omega)
                  go_wp2
                  go_roundw
                  case rel => exact ⟨4, by decide, rfl, ⟨HO2.out.set HL.out (by have := HQ.out; omega) HV.out.2.2.2⟩⟩
                  case measure => exact (by decide : 4 - 4 < 4 - 3)
                · obtain rfl : k = 4 := by omega
                  go_wp2
                  go_roundw
                  case rel => exact ⟨i + 1, by omega, by go_num, ⟨by rw [show 4 * (i + 1) = q + 4 from by have := HQ.out; omega]; exact HO2.out⟩⟩
                  case measure => simp [intOf]; omega
            · obtain rfl : i = 8 := by omega
              have HG3 := Aside0.mk (show wr.heap[g2 + 1]? = some (.cells (nums .u8 L).toArray 25 (0, 0)) from prow_full HL.out HO.out.r3)
              have HG2 := Aside0.mk (show wr.heap[g2]? = some (.cells (nums .u8 zero25).toArray 25 (0, 0)) from HO.out.r2)
              have HLS := Aside0.mk (show (nums .u8 L).toArray.size = 32 from by simp [nums, HL.out])
              have HB9 := Aside0.mk HO.out.below
              have HG9 := Aside0.mk HO.out.ne.2.1
              clear HO
              go_wp2_with (first
                | (with_reducible refine op_load rfl 25 _ rfl (g2 + 1) rfl 25 _ _ HG3.out Try.underlying25 rfl 32 sz25 HLS.out ?_)
                | ((with_reducible refine op_store (w0 := w) (o := ⟨none, .store 25 (.tmp 2) (.tmp 65), _, _, _, _⟩) w.heap.size ?_ 25 (.tmp 2) (.tmp 65) ?_ g2 (nums .u8 L).toArray ?_ ?_ 25 _ HG2.out 32 sz25 HLS.out (by simp [nums, zero25]) (nums_all _ _) HB9.out HG9.out ?_); rfl; rfl; rfl; rfl; intro wf hf1 hf2 hf3))
              refine ret_cell rfl g2 rfl 25 _ _ hf1.out Try.underlying25 rfl 32 sz25 HLS.out rfl ?_
              exact ⟨by rw [← HLE.out, HSTE.out, ← HSF.out, HZZ.out]; rfl, hf3.out⟩
end Go.Proofs.Ytgpgblidplmchaa.Ssm
namespace Go.Proofs.Ytgpgblidplmchaa.Sof
open Go.RowKit Go.Proofs.YtgpgblidplmchaaW.PrintWords Go.Proofs.YtgpgblidplmchaaW.PrintLast Go.Proofs.YtgpgblidplmchaaW.PrintMore
open Ag POct Sw Sk Sm Sx Swr Ssm
set_option linter.unusedVariables false
set_option linter.unusedSimpArgs false
set_option maxRecDepth 100000
theorem CB.came {w W : World} {A : Option Addr} {xs : List Int} (h : CB w A xs) (hb : Below w.heap.size w W) {g : Nat} (hg : w.heap.size ≤ g) : ∀ W', Kept W W' (fun k => k = g) → CB W' A xs :=
  Kd.C_kept_came (Kd.heap_int .u8) h hb (by rintro k rfl; exact hg)
theorem hs0_good : HGood hs0 0 := ⟨rfl, rfl, rfl⟩
/-- the parts so far -/
def pre2 (xs ys : List Int) : Nat → List Int
  | 0 => []
  | 1 => xs
  | _ => xs ++ ys
structure OI (w W : World) (g2 ge : Nat) (s : Hs) (m : Nat) : Prop where
  below : Below w.heap.size w W
  hat : Hat W ge s
  good : HGood s m
  r2 : Rw .u8 25 W g2 zero25
  ne : g2 ≠ ge ∧ w.heap.size ≤ ge ∧ w.heap.size ≤ g2
theorem OI.but {w W W' : World} {g2 ge : Nat} {s s' : Hs} {m m' : Nat} (h : OI w W g2 ge s m) (hb : But W.heap.size ge W W') (hh : Hat W' ge s') (hg : HGood s' m') : OI w W' g2 ge s' m' :=
  ⟨hb.below h.below h.ne.2.1 h.below.size, hh, hg, (hb.block g2 h.r2.lt h.ne.1).trans h.r2, h.ne⟩
theorem OI.start (w W : World) (h : Hat W (w.alloc (.cells (nums .u8 zero25).toArray 25)).heap.size hs0) (hb : Below (w.alloc (.cells (nums .u8 zero25).toArray 25)).heap.size (w.alloc (.cells (nums .u8 zero25).toArray 25)) W) : OI w W w.heap.size (w.heap.size + 1) hs0 0 := by
  have hz := size_alloc w (.cells (nums .u8 zero25).toArray 25)
  rw [hz] at h hb
  exact ⟨((Below.refl _ _).alloc (Nat.le_refl _) _).trans (hb.mono (by omega)), h, hs0_good, (alloc_Rw w zero25).below hb (by omega), by omega, by omega, Nat.le_refl _⟩
set_option maxHeartbeats 1000000 in
theorem of_calls (w : World) (B : Nat) (A1 A2 : Option Addr) (c1 c2 : Nat) (xs ys : List Int) (h0 : w.cell? ⟨B, 0, none⟩ = some (.slice A1 xs.length c1)) (h1 : w.cell? ⟨B, 1, none⟩ = some (.slice A2 ys.length c2)) (hx : CB w A1 xs) (hy : CB w A2 ys) (hc1 : xs.length ≤ c1) (hc2 : ys.length ≤ c2) (hl : xs.length + ys.length < 1099511000000) :
    Calls Try.prog 36 #[.slice (some ⟨B, 0, none⟩) 2 2] w fun e w' => e = .returned (.agg (nums .u8 (sumB (wrote hs0 (xs ++ ys)) (xs.length + ys.length))).toArray) ∧ Below w.heap.size w w' := by
  have H0 := Aside0.mk h0; have H1 := Aside0.mk h1; have HX := Aside0.mk hx; have HY := Aside0.mk hy
  have HC := Aside0.mk (⟨hc1, hc2, hl⟩ : xs.length ≤ c1 ∧ ys.length ≤ c2 ∧ xs.length + ys.length < 1099511000000)
  have hB := cell_lt h0
  clear h0 h1 hx hy hc1 hc2 hl
  have hwa := size_alloc w (.cells (nums .u8 zero25).toArray 25)
  go_enter Try.func36, Try.ntmps36
  go_upto_region 2 with (first | (with_reducible refine op_alloc rfl 25 rfl _ z25 ?_) | ((with_reducible refine (new_calls _).mono ?_); rintro _ W1 ⟨rfl, hh, hb⟩))
  have HI := Aside0.mk (OI.start w W1 hh hb)
  clear hh hb
  go_wp2
  have hge : w.heap.size ≤ w.heap.size + 1 := by omega
  clear hwa
  have HGE := Aside0.mk hge
  clear hge
  go_loopw [9] (fun v wr => ∃ i m : Nat, i ≤ 2 ∧ v = .int .i64 i ∧ Aside0 (m = (pre2 xs ys i).length) ∧ Aside0 (OI w wr w.heap.size (w.heap.size + 1) (wrote hs0 (pre2 xs ys i)) m)) (fun v _ => 2 - (intOf v).toNat)
  case atStart => exact ⟨0, 0, by omega, rfl, ⟨rfl⟩, HI⟩
  case round =>
    clear HI
    obtain ⟨i, m, hi, rfl, HM, HI⟩ := hrel
    by_cases hlt : i < 2
    · have h2 : i = 0 ∨ i = 1 := by omega
      clear hlt
      rcases h2 with rfl | rfl
      · simp only [show ((0 : Nat) : Int) = 0 from rfl]
        have hc : wr.cell? ⟨B, 0, none⟩ = some (.slice A1 xs.length c1) := (HI.out.below.cell (p := ⟨B, 0, none⟩) hB).trans H0.out
        have HW := Aside0.mk (CB.came HX.out HI.out.below HGE.out)
        go_wp2_with (((with_reducible refine (write_calls _ (w.heap.size + 1) _ m xs A1 c1 HI.out.good ?_ HI.out.hat HC.out.1 HW.out).mono ?_); (have := HM.out; have := HC.out.2.2; simp [pre2] at *; omega); rintro _ W4 ⟨rfl, hb4, hh4⟩))
        have HI4 := Aside0.mk (HI.out.but hb4 hh4 (wrote_good xs HI.out.good))
        go_roundw
        case rel => exact ⟨1, m + xs.length, by decide, rfl, ⟨by have := HM.out; simp [pre2] at *; omega⟩, HI4⟩
        case measure => exact (by decide : 2 - 1 < 2 - 0)
      · simp only [show ((1 : Nat) : Int) = 1 from rfl]
        have hc : wr.cell? ⟨B, 1, none⟩ = some (.slice A2 ys.length c2) := (HI.out.below.cell (p := ⟨B, 1, none⟩) hB).trans H1.out
        have HW := Aside0.mk (CB.came HY.out HI.out.below HGE.out)
        go_wp2_with (((with_reducible refine (write_calls _ (w.heap.size + 1) _ m ys A2 c2 HI.out.good ?_ HI.out.hat HC.out.2.1 HW.out).mono ?_); (have := HM.out; have := HC.out.2.2; simp [pre2] at *; omega); rintro _ W4 ⟨rfl, hb4, hh4⟩))
        have HI4 := Aside0.mk (HI.out.but hb4 hh4 (wrote_good ys HI.out.good))
        go_roundw
        case rel => exact ⟨2, m + ys.length, by decide, rfl, ⟨by have := HM.out; simp [pre2] at *; omega⟩, ⟨by rw [show wrote hs0 (pre2 xs ys 2) = wrote (wrote hs0 (pre2 xs ys 1)) ys from List.foldl_append ..]; exact HI4.out⟩⟩
        case measure => exact (by decide : 2 - 2 < 2 - 1)
    · obtain rfl : i = 2 := by omega
      obtain rfl : m = xs.length + ys.length := by have := HM.out; simpa [pre2] using this
      have HLT := Aside0.mk HC.out.2.2
      clear hlt hB
      go_wp2_with (first
        | ((with_reducible refine (sum_calls _ (w.heap.size + 1) _ _ HI.out.good ?_ HI.out.hat).mono ?_); (have := HLT.out; omega); rintro _ W5 ⟨rfl, hb5⟩; have HR2 := Aside0.mk (show W5.heap[w.heap.size]? = some (.cells (nums .u8 zero25).toArray 25 (0, 0)) from HI.out.r2.below hb5 HI.out.r2.lt); have HB5 := Aside0.mk (HI.out.below.trans (hb5.mono HI.out.below.size)); have HS5 := Aside0.mk (show (nums .u8 (sumB (wrote hs0 (pre2 xs ys 2)) (xs.length + ys.length))).toArray.size = 32 from by simp [nums, sumB, outB_len]))
        | ((with_reducible refine op_store (w0 := w) (o := ⟨none, .store 25 (.tmp 2) (.tmp 18), _, _, _, _⟩) w.heap.size ?_ 25 (.tmp 2) (.tmp 18) ?_ w.heap.size _ ?_ ?_ 25 _ HR2.out 32 sz25 HS5.out (by simp [nums, zero25]) (nums_all _ _) HB5.out (Nat.le_refl _) ?_); rfl; rfl; rfl; rfl; intro wf hf1 hf2 hf3))
      refine ret_cell rfl w.heap.size rfl 25 _ _ hf1.out Try.underlying25 rfl 32 sz25 HS5.out rfl ?_
      exact ⟨rfl, hf3.out⟩
end Go.Proofs.Ytgpgblidplmchaa.Sof
