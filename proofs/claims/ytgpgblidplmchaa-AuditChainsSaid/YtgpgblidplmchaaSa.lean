/- SHA's words: rows of numbers in a block; the words that a block of bytes spreads to. SHA's constants, an empty hash, a new hash. What mix begins with: the constants, the words of the block, the state, each in a block of its own. -/
import Derived.Test.YtgpgblidplmchaaAg
import Derived.Test.YtgpgblidplmchaaPOctx2
import Derived.Test.YtgpgblidplmchaaWTab
import Derived.BigRegion
import Derived.BigQuiet
import Derived.Laws.BitsAllLaws
import Derived.Test.YtgpgblidplmchaaWFour
namespace Go.Proofs.Ytgpgblidplmchaa.Sw
open Go.RowKit Go.Proofs.YtgpgblidplmchaaW.PrintWords Go.Proofs.YtgpgblidplmchaaW.PrintLast Go.Proofs.YtgpgblidplmchaaW.PrintMore
open Ag POct
set_option linter.unusedVariables false
set_option linter.unusedSimpArgs false
set_option maxRecDepth 100000
/-- Block g is a row of numbers. -/
def Rw (k : IntKind) (T : TypeId) (w : World) (g : Nat) (xs : List Int) : Prop := w.heap[g]? = some (.cells (nums k xs).toArray T (0, 0))
theorem Rw.cell {k : IntKind} {T : TypeId} {w : World} {g : Nat} {xs : List Int} (h : Rw k T w g xs) (j : Nat) (hj : j < xs.length) : w.cell? ⟨g, j, none⟩ = some (.int k (xs.getD j 0)) := by
  rw [blk_cell h]
  simp [nums, List.getElem?_eq_getElem hj, List.getD_eq_getElem?_getD]
theorem Rw.set {k : IntKind} {T : TypeId} {w : World} {g : Nat} {xs : List Int} (h : Rw k T w g xs) (j : Nat) (v : Int) : Rw k T (w.setCell ⟨g, j, none⟩ (.int k v)) g (xs.set j v) := by
  unfold Rw
  rw [blk_set h j]
  congr 3
  apply Array.ext'
  simp [nums, List.map_set]
theorem Rw.below {k : IntKind} {T : TypeId} {w w' : World} {g B : Nat} {xs : List Int} (h : Rw k T w g xs) (hb : Below B w w') (hg : g < B) : Rw k T w' g xs := (hb.block g hg).trans h
theorem Rw.lt {k : IntKind} {T : TypeId} {w : World} {g : Nat} {xs : List Int} (h : Rw k T w g xs) : g < w.heap.size := blk_lt h
theorem Rw.fro {k : IntKind} {T : TypeId} {w : World} {g : Nat} {xs : List Int} (h : Rw k T w g xs) (a : Nat) : w.frozen? ⟨g, a, none⟩ = false := blk_frozen h _
def zero85 : List Int := List.replicate 64 0
theorem z85 : (Try.prog.info? 85).map (·.zero) = some (some (.agg (nums .u32 zero85).toArray)) := by kernel_rfl
theorem sz85 : (Try.prog.info? 85).map (·.size) = some 64 := by kernel_rfl
theorem z77 : (Try.prog.info? 77).map (·.zero) = some (some (.agg (nums .u32 (List.replicate 8 0)).toArray)) := by kernel_rfl
theorem sz77 : (Try.prog.info? 77).map (·.size) = some 8 := by kernel_rfl
theorem alloc_Rw {k : IntKind} {T : TypeId} (w : World) (xs : List Int) : Rw k T (w.alloc (.cells (nums k xs).toArray T)) w.heap.size xs := heap_alloc_new w _
/-- sixteen words, four bytes each; the word behind more than sixteen -/
def be (b : List Int) (m : Nat) : Int := bits .or .u32 (bits .or .u32 (bits .or .u32 (IntKind.u32.wrap (IntKind.u32.wrap (b[m]?.getD 0) * 16777216)) (IntKind.u32.wrap (IntKind.u32.wrap (b[m + 1]?.getD 0) * 65536))) (IntKind.u32.wrap (IntKind.u32.wrap (b[m + 2]?.getD 0) * 256))) (IntKind.u32.wrap (b[m + 3]?.getD 0))
def rot (n : Nat) (x : Int) : Int := bits .or .u32 (shl .u32 x n) (shr .u32 x (32 - n : Int))
def xor (x y : Int) : Int := bits .xor .u32 x y
def add (x y : Int) : Int := IntKind.u32.wrap (x + y)
def nextw (L : List Int) : Int := add (add (add (L.getD (L.length - 16) 0) (xor (xor (rot 25 (L.getD (L.length - 15) 0)) (rot 14 (L.getD (L.length - 15) 0))) (L.getD (L.length - 15) 0 / 8))) (L.getD (L.length - 7) 0)) (xor (xor (rot 15 (L.getD (L.length - 2) 0)) (rot 13 (L.getD (L.length - 2) 0))) (L.getD (L.length - 2) 0 / 1024))
def sched (b : List Int) : Nat → List Int
  | 0 => (List.range 16).map fun i => be b (4 * i)
  | p + 1 => sched b p ++ [nextw (sched b p)]
theorem Rw.at {k : IntKind} {T : TypeId} {w : World} {g : Nat} {xs : List Int} (h : Rw k T w g xs) (j : Nat) (hj : j < xs.length) (v : Int) (hv : xs.getD j 0 = v) : w.cell? ⟨g, j, none⟩ = some (.int k v) := by rw [← hv]; exact h.cell j hj
def pad64 (L : List Int) : List Int := L ++ List.replicate (64 - L.length) 0
theorem pad64_len (L : List Int) (h : L.length ≤ 64) : (pad64 L).length = 64 := by simp [pad64]; omega
theorem pad64_set (L : List Int) (v : Int) (h : L.length < 64) : (pad64 L).set L.length v = pad64 (L ++ [v]) := by
  unfold pad64
  rw [List.set_append_right _ _ (Nat.le_refl _), Nat.sub_self]
  obtain ⟨n, hn⟩ : ∃ n, 64 - L.length = n + 1 := ⟨63 - L.length, by omega⟩
  rw [hn, List.replicate_succ, List.set_cons_zero, List.length_append, List.length_singleton]
  rw [show 64 - (L.length + 1) = n from by omega]
  simp
theorem pad64_get (L : List Int) (j : Nat) (h : j < L.length) : (pad64 L).getD j 0 = L.getD j 0 := by
  simp [pad64, List.getD_eq_getElem?_getD, List.getElem?_append_left h]
theorem size_alloc (w : World) (o : Obj) : (w.alloc o).heap.size = w.heap.size + 1 := Array.size_push ..
theorem alloc2 (w : World) (k : IntKind) (T : TypeId) (xs ys : List Int) : Below w.heap.size w ((w.alloc (.cells (nums k xs).toArray T)).alloc (.cells (nums k ys).toArray T)) ∧ Rw k T ((w.alloc (.cells (nums k xs).toArray T)).alloc (.cells (nums k ys).toArray T)) (w.heap.size + 1) ys ∧ Rw k T ((w.alloc (.cells (nums k xs).toArray T)).alloc (.cells (nums k ys).toArray T)) w.heap.size xs := by
  refine ⟨((Below.refl w.heap.size w).alloc (Nat.le_refl _) _).alloc (by rw [size_alloc]; omega) _, ?_, ?_⟩
  · have := alloc_Rw (k := k) (T := T) (w.alloc (.cells (nums k xs).toArray T)) ys
    rwa [size_alloc] at this
  · exact (alloc_Rw (k := k) (T := T) w xs).below ((Below.refl (w.heap.size+1) _).alloc (by rw [size_alloc]; omega) _) (by omega)
-- WALK
theorem rot_f7 (x : Int) : bits_RotateLeft32.f x (-7) = some (rot 25 x) := by kernel_rfl
theorem rot_f18 (x : Int) : bits_RotateLeft32.f x (-18) = some (rot 14 x) := by kernel_rfl
theorem rot_f17 (x : Int) : bits_RotateLeft32.f x (-17) = some (rot 15 x) := by kernel_rfl
theorem rot_f19 (x : Int) : bits_RotateLeft32.f x (-19) = some (rot 13 x) := by kernel_rfl
theorem word_at (L : List Int) (m : Nat) (h : m < L.length) : ∃ x : Int, Aside0 ((pad64 L).getD m 0 = x) ∧ Aside0 (L.getD m 0 = x) := ⟨_, ⟨rfl⟩, ⟨(pad64_get L m h).symm⟩⟩
theorem backs (n m15 m2 m16 m7 : Nat) (h : n < 64) (h15 : n = m15 + 15) (h2 : n = m2 + 2) (h16 : n = m16 + 16) (h7 : n = m7 + 7) : wrap64 ((n : Int) - 15) = (m15 : Int) ∧ wrap64 ((n : Int) - 2) = (m2 : Int) ∧ wrap64 ((n : Int) - 16) = (m16 : Int) ∧ wrap64 ((n : Int) - 7) = (m7 : Int) ∧ (m15 : Int) < 64 ∧ (m2 : Int) < 64 ∧ (m16 : Int) < 64 ∧ (m7 : Int) < 64 ∧ (n : Int) < 64 := by
  refine ⟨?_, ?_, ?_, ?_, by omega, by omega, by omega, by omega, by omega⟩ <;> (unfold wrap64; omega)
/-- the function hands back what lies in memory -/
theorem ret_cell {P : Program} {fn : Func} {R : Ending → World → Prop} {a : Act} {w : World} {p : Tmp} {ty : TypeId} (hres : fn.results = #[.cell p ty]) (g : Nat) (hp : a.tmps.getD p undef = .pointer (some ⟨g, 0, none⟩)) (t : TypeId) (cs : Array Value) (d : TypeDesc) (hg : w.heap[g]? = some (.cells cs t (0, 0)))
    (hu : P.underlying ty = some d) (hd : (match d with | .struct _ | .array _ _ => true | _ => false) = true) (n : Nat) (hi : (P.info? ty).map (·.size) = some n) (hn : cs.size = n) (hdef : a.defers = []) (h : R (.returned (.agg cs)) w) : bodyPost P fn R .ret a w := by
  refine bodyPost_ret ?_ hdef h
  have hr : (results fn a.tmps).run P w = ((asAddr (a.tmps.getD p undef)).run P w).andThen fun b w₁ => ((loadVar ty b).run P w₁) := by
    simp only [results, hres]
    simp [Sem.run_bind, Result.andThen]
  rw [hr, hp]
  simp only [asAddr, Sem.run_pure, Result.andThen_ok, run_loadVar_row w g t ty cs (0, 0) d hg hu hd (by rw [hi, hn])]
theorem nums_all (k : IntKind) (xs : List Int) : (nums k xs).toArray.all (·.oneCell') = true := by
  rw [← Array.all_toList]
  exact List.all_eq_true.2 (Tw.nums_one k xs)
theorem next_is (L : List Int) (n m15 m2 m16 m7 : Nat) (x15 x2 x16 x7 : Int) (hn : L.length = n) (hm : n = m15 + 15 ∧ n = m2 + 2 ∧ n = m16 + 16 ∧ n = m7 + 7) (h15 : L.getD m15 0 = x15) (h2 : L.getD m2 0 = x2) (h16 : L.getD m16 0 = x16) (h7 : L.getD m7 0 = x7) :
    IntKind.u32.wrap (IntKind.u32.wrap (IntKind.u32.wrap (x16 + (bits .xor .u32 (bits .xor .u32 (rot 25 x15) (rot 14 x15)) (x15 / 8))) + x7) + (bits .xor .u32 (bits .xor .u32 (rot 15 x2) (rot 13 x2)) (x2 / 1024))) = nextw L := by
  unfold nextw
  rw [show L.length - 15 = m15 from by omega, show L.length - 2 = m2 from by omega, show L.length - 16 = m16 from by omega, show L.length - 7 = m7 from by omega, h15, h2, h16, h7]
  rfl
theorem fours (n m : Nat) (h : n < 16) (hm : 4 * n = m) : wrap64 (4 * (n : Int)) = (m : Int) ∧ wrap64 ((m : Int) + 1) = (m : Int) + 1 ∧ wrap64 ((m : Int) + 2) = (m : Int) + 2 ∧ wrap64 ((m : Int) + 3) = (m : Int) + 3 ∧ (m : Int) < 64 ∧ (m : Int) + 1 < 64 ∧ (m : Int) + 2 < 64 ∧ (m : Int) + 3 < 64 ∧ 0 ≤ (m : Int) + 1 ∧ 0 ≤ (m : Int) + 2 ∧ 0 ≤ (m : Int) + 3 ∧ ((m : Int) + 1).toNat = m + 1 ∧ ((m : Int) + 2).toNat = m + 2 ∧ ((m : Int) + 3).toNat = m + 3 := by
  subst hm
  refine ⟨by unfold wrap64; omega, ?_, ?_, ?_, by omega, by omega, by omega, by omega, by omega, by omega, by omega, by omega, by omega, by omega⟩ <;> (unfold wrap64; omega)
theorem cell_lt {w : World} {p : Addr} {v : Value} (hc : w.cell? p = some v) : p.block < w.heap.size := by
  rcases Nat.lt_or_ge p.block w.heap.size with h | h
  · exact h
  · simp [World.cell?, Array.getElem?_eq_none h] at hc
theorem cell2 {w w2 w' : World} {p : Addr} {v : Value} (h1 : Below w.heap.size w w2) (h2 : Below (w.heap.size + 1) w2 w') (hc : w.cell? p = some v) : w'.cell? p = some v :=
  ((h1.trans (h2.mono (by omega))).cell (cell_lt hc)).trans hc
def sp5T : Bool × List (List Nat × List Nat) := (true, [([], []), ([], []), ([], []), ([2], [2]), ([1], [1]), ([4, 3], [3, 4]), ([5], [5]), ([6], [6]), ([7], [7]), ([], []), ([], []), ([10], [10]), ([11], [11]), ([9], [9]), ([13, 12], [12, 13]), ([14], [14]), ([15], [15]), ([16], [16]), ([8, 17], [8, 17]), ([], []), ([], []), ([20], [20]), ([21], [21]), ([19], [19]), ([23, 22], [22, 23]), ([24], [24]), ([25], [25]), ([26], [26]), ([18, 27], [18, 27]), ([], []), ([], []), ([30], [30]), ([31], [31]), ([29], [29]), ([33, 32], [32, 33]), ([34], [34]), ([35], [35]), ([28, 36], [28, 36]), ([0, 0, 1, 2, 3, 4, 5, 6, 7, 8, 9, 10, 11, 12, 13, 14, 15, 16, 17, 18, 19, 20, 21, 22, 23, 24, 25, 26, 27, 28, 29, 30, 31, 32, 33, 34, 35, 36, 37], [0]), ([38, 37, 0, 1, 2, 3, 4, 5, 6, 7, 8, 9, 10, 11, 12, 13, 14, 15, 16, 17, 18, 19, 20, 21, 22, 23, 24, 25, 26, 27, 28, 29, 30, 31, 32, 33, 34, 35, 36, 37], [37, 38])])
def sp5B : List Nat := [0, 0, 0, 4, 2, 30, 62, 126, 254, 0, 0, 1024, 3072, 512, 15872, 32256, 65024, 130560, 262142, 0, 0, 1048576, 3145728, 524288, 16252928, 33030144, 66584576, 133693440, 268435454, 0, 0, 1073741824, 3221225472, 536870912, 16642998272, 33822867456, 68182605824, 137438953470, 274877906943, 549755813887]
theorem sp5tab : rtab .any (opsOf Try.f53 5) = sp5T := by kernel_rfl
theorem sp5bits : waitsOk sp5T.2 sp5B = true := by kernel_rfl
def sp10T : Bool × List (List Nat × List Nat) := (true, [([], []), ([0], [0]), ([1], [1]), ([2], [2]), ([], []), ([4], [4]), ([5], [5]), ([6], [6]), ([3, 0, 1, 2, 3], [3]), ([7, 8, 0, 1, 2, 3, 4, 5, 6, 7, 8], [7])])
def sp10B : List Nat := [0, 1, 3, 7, 0, 16, 48, 112, 15, 511]
theorem sp10tab : rtab .any (opsOf Try.f53 10) = sp10T := by kernel_rfl
theorem sp10bits : waitsOk sp10T.2 sp10B = true := by kernel_rfl
def sp13T : Bool × List (List Nat × List Nat) := (true, [([], []), ([], []), ([1], [1]), ([2], [2]), ([3], [3]), ([], []), ([4, 5], [4, 5]), ([], []), ([7], [7]), ([8], [8]), ([9], [9]), ([6, 10], [6, 10]), ([], []), ([11, 12], [11, 12]), ([0, 0, 1, 2, 3, 4, 5, 6, 7, 8, 9, 10, 11, 12, 13], [0]), ([14, 13, 0, 1, 2, 3, 4, 5, 6, 7, 8, 9, 10, 11, 12, 13], [13, 14])])
def sp13B : List Nat := [0, 0, 2, 6, 14, 0, 62, 0, 128, 384, 896, 2046, 0, 8190, 16383, 32767]
theorem sp13tab : rtab .any (opsOf Try.f53 13) = sp13T := by kernel_rfl
theorem sp13bits : waitsOk sp13T.2 sp13B = true := by kernel_rfl
set_option maxHeartbeats 2000000 in
theorem spread_calls (w : World) (g : Nat) (b : List Int) (hb : ∀ j, j < 64 → w.cell? ⟨g, 9 + j, none⟩ = some (.int .u8 (b.getD j 0))) :
    Calls Try.prog 53 #[.pointer (some ⟨g, 9, none⟩)] w fun e w' => e = .returned (.agg (nums .u32 (sched b 48)).toArray) ∧ Below w.heap.size w w' := by
  have HC := Aside0.mk hb
  obtain ⟨hB0, hR0, hS0⟩ := alloc2 w .u32 85 zero85 zero85
  have HB0 := Aside0.mk hB0
  have HR0 := Aside0.mk hR0
  have HS0 := Aside0.mk hS0
  have hs1 := size_alloc w (.cells (nums .u32 zero85).toArray 85)
  clear hB0 hR0 hS0 hb
  go_enter Try.func53, Try.ntmps53
  go_wp2_with (first | (with_reducible refine op_alloc rfl 85 rfl _ z85 ?_))
  generalize (w.alloc (.cells (nums .u32 zero85).toArray 85)).alloc (.cells (nums .u32 zero85).toArray 85) = w2 at HB0 HR0 HS0 ⊢
  try clear hs1
  rw [show zero85 = pad64 [] from rfl] at HR0
  go_loopw [8] (fun v wr => ∃ L : List Int, L.length ≤ 16 ∧ v = .int .i64 L.length ∧ Aside0 (L = (List.range L.length).map (fun i => be b (4 * i))) ∧ Aside0 (Rw .u32 85 wr (w.heap.size + 1) (pad64 L)) ∧ Aside0 (Below (w.heap.size + 1) w2 wr)) (fun v _ => 16 - (intOf v).toNat)
  case atStart => exact ⟨[], by decide, rfl, ⟨rfl⟩, HR0, ⟨Below.refl _ _⟩⟩
  case round =>
    clear HR0
    obtain ⟨L, hL, rfl, hLe, HR, HB⟩ := hrel
    by_cases hlt : L.length < 16
    · have hlt' : decide ((L.length : Int) < 16) = true := by simp; omega
      go_upto_region 5 with (fail)
      obtain ⟨m, hm⟩ : ∃ m : Nat, 4 * L.length = m := ⟨_, rfl⟩
      obtain ⟨f1, f2, f3, f4, f5, f6, f7, f8, f9, f10, f11, f12, f13, f14⟩ := fours L.length m hlt hm
      have HM := Aside0.mk hm
      have f15 : (L.length : Int) < 64 := by omega
      clear hm
      refine start_ (n := 40) (S := (fun W_ => Below (w.heap.size + 1) w2 W_ ∧ Rw .u32 85 W_ (w.heap.size + 1) (pad64 L))) (ds := [39]) #[false, false, false, false, false, false, false, false, false, false, false, false, false, false, false, false, false, false, false, false, false, false, false, false, false, false, false, false, false, false, false, false, false, false, false, false, false, false, false, false] (by kernel_rfl) rfl rfl (⟨below_drew1 HB.out, HR.out⟩) (fun hHeld => ?_); refine with_tabW sp5tab sp5bits (fun HT_ HW_ => ?_)
      generalize wr.drew = wq at hHeld ⊢
      refine pure_ (i := 0) (N := some 11) (v := ?_) (a' := ?_) #[true, false, false, false, false, false, false, false, false, false, false, false, false, false, false, false, false, false, false, false, false, false, false, false, false, false, false, false, false, false, false, false, false, false, false, false, false, false, false, false] rfl rfl (any_of HT_.out (by kernel_rfl)) (fun _ _ _ h => h) (Or.inl ⟨by rfl, ?_⟩) ?_ ?_
      rotate_left
      · intro w'
        go_simp
        with_reducible rfl
      rotate_left
      · simp only [Act.put, List.setIfInBounds_toArray, List.set_cons_zero, List.set_cons_succ, i64_w, i32_w]
        rfl
      refine pure_ (i := 1) (N := some 12) (v := ?_) (a' := ?_) #[true, true, false, false, false, false, false, false, false, false, false, false, false, false, false, false, false, false, false, false, false, false, false, false, false, false, false, false, false, false, false, false, false, false, false, false, false, false, false, false] rfl rfl (any_of HT_.out (by kernel_rfl)) (fun _ _ _ h => h) (Or.inl ⟨by rfl, ?_⟩) ?_ ?_
      rotate_left
      · intro w'
        go_simp
        with_reducible rfl
      rotate_left
      · simp only [Act.put, List.setIfInBounds_toArray, List.set_cons_zero, List.set_cons_succ, i64_w, i32_w]
        rfl
      refine pure_ (i := 2) (N := some 13) (v := ?_) (a' := ?_) #[true, true, true, false, false, false, false, false, false, false, false, false, false, false, false, false, false, false, false, false, false, false, false, false, false, false, false, false, false, false, false, false, false, false, false, false, false, false, false, false] rfl rfl (any_of HT_.out (by kernel_rfl)) (fun _ _ _ h => h) (Or.inl ⟨by rfl, ?_⟩) ?_ ?_
      rotate_left
      · intro w'
        go_simp
        with_reducible rfl
      rotate_left
      · simp only [Act.put, List.setIfInBounds_toArray, List.set_cons_zero, List.set_cons_succ, i64_w, i32_w]
        rfl
      refine pure_ (i := 3) (N := some 14) (v := ?_) (a' := ?_) #[true, true, true, true, false, false, false, false, false, false, false, false, false, false, false, false, false, false, false, false, false, false, false, false, false, false, false, false, false, false, false, false, false, false, false, false, false, false, false, false] rfl rfl (any_of HT_.out (by kernel_rfl)) (fun _ _ _ h => h) (Or.inl ⟨by rfl, ?_⟩) ?_ ?_
      rotate_left
      · intro w'
        go_simp
        with_reducible rfl
      rotate_left
      · simp only [Act.put, List.setIfInBounds_toArray, List.set_cons_zero, List.set_cons_succ, i64_w, i32_w]
        rfl
      refine pure_ (i := 4) (N := some 15) (v := ?_) (a' := ?_) #[true, true, true, true, true, false, false, false, false, false, false, false, false, false, false, false, false, false, false, false, false, false, false, false, false, false, false, false, false, false, false, false, false, false, false, false, false, false, false, false] rfl rfl (any_of HT_.out (by kernel_rfl)) (fun _ _ _ h => h) (Or.inl ⟨by rfl, ?_⟩) ?_ ?_
      rotate_left
      · intro w'
        go_simp
        with_reducible rfl
      rotate_left
      · simp only [Act.put, List.setIfInBounds_toArray, List.set_cons_zero, List.set_cons_succ, i64_w, i32_w]
        rfl
      refine pure_ (i := 5) (N := some 16) (v := ?_) (a' := ?_) #[true, true, true, true, true, true, false, false, false, false, false, false, false, false, false, false, false, false, false, false, false, false, false, false, false, false, false, false, false, false, false, false, false, false, false, false, false, false, false, false] rfl rfl (any_of HT_.out (by kernel_rfl)) (fun _ _ _ h => h) (Or.inl ⟨by rfl, ?_⟩) ?_ ?_
      rotate_left
      · intro w'
        go_simp
        with_reducible rfl
      rotate_left
      · simp only [Act.put, List.setIfInBounds_toArray, List.set_cons_zero, List.set_cons_succ, i64_w, i32_w]
        rfl
      refine take_ (i := 6) (N := some 17) (v := ?_) (a' := ?_) #[true, true, true, true, true, true, true, false, false, false, false, false, false, false, false, false, false, false, false, false, false, false, false, false, false, false, false, false, false, false, false, false, false, false, false, false, false, false, false, false] rfl rfl (take_ofW HT_.out HW_.out (by kernel_rfl)) (fun _ _ _ h => h) (Or.inl ⟨by rfl, ?_⟩) hHeld ?_ ?_
      rotate_left
      · intro w' hw'
        have hf0_ := cell2 HB0.out hw'.1 (HC.out (m) (by omega))
        go_simp
        with_reducible rfl
      rotate_left
      · simp only [Act.put, List.setIfInBounds_toArray, List.set_cons_zero, List.set_cons_succ, i64_w, i32_w]
        rfl
      refine pure_ (i := 7) (N := some 18) (v := ?_) (a' := ?_) #[true, true, true, true, true, true, true, true, false, false, false, false, false, false, false, false, false, false, false, false, false, false, false, false, false, false, false, false, false, false, false, false, false, false, false, false, false, false, false, false] rfl rfl (any_of HT_.out (by kernel_rfl)) (fun _ _ _ h => h) (Or.inl ⟨by rfl, ?_⟩) ?_ ?_
      rotate_left
      · intro w'
        go_simp
        with_reducible rfl
      rotate_left
      · simp only [Act.put, List.setIfInBounds_toArray, List.set_cons_zero, List.set_cons_succ, i64_w, i32_w]
        rfl
      refine pure_ (i := 8) (N := some 19) (v := ?_) (a' := ?_) #[true, true, true, true, true, true, true, true, true, false, false, false, false, false, false, false, false, false, false, false, false, false, false, false, false, false, false, false, false, false, false, false, false, false, false, false, false, false, false, false] rfl rfl (any_of HT_.out (by kernel_rfl)) (fun _ _ _ h => h) (Or.inl ⟨by rfl, ?_⟩) ?_ ?_
      rotate_left
      · intro w'
        go_simp
        with_reducible rfl
      rotate_left
      · simp only [Act.put, List.setIfInBounds_toArray, List.set_cons_zero, List.set_cons_succ, i64_w, i32_w]
        rfl
      refine pure_ (i := 9) (N := some 20) (v := ?_) (a' := ?_) #[true, true, true, true, true, true, true, true, true, true, false, false, false, false, false, false, false, false, false, false, false, false, false, false, false, false, false, false, false, false, false, false, false, false, false, false, false, false, false, false] rfl rfl (any_of HT_.out (by kernel_rfl)) (fun _ _ _ h => h) (Or.inl ⟨by rfl, ?_⟩) ?_ ?_
      rotate_left
      · intro w'
        go_simp
        with_reducible rfl
      rotate_left
      · simp only [Act.put, List.setIfInBounds_toArray, List.set_cons_zero, List.set_cons_succ, i64_w, i32_w]
        rfl
      refine pure_ (i := 10) (N := some 21) (v := ?_) (a' := ?_) #[true, true, true, true, true, true, true, true, true, true, true, false, false, false, false, false, false, false, false, false, false, false, false, false, false, false, false, false, false, false, false, false, false, false, false, false, false, false, false, false] rfl rfl (any_of HT_.out (by kernel_rfl)) (fun _ _ _ h => h) (Or.inl ⟨by rfl, ?_⟩) ?_ ?_
      rotate_left
      · intro w'
        go_simp
        with_reducible rfl
      rotate_left
      · simp only [Act.put, List.setIfInBounds_toArray, List.set_cons_zero, List.set_cons_succ, i64_w, i32_w]
        rfl
      refine pure_ (i := 11) (N := some 22) (v := ?_) (a' := ?_) #[true, true, true, true, true, true, true, true, true, true, true, true, false, false, false, false, false, false, false, false, false, false, false, false, false, false, false, false, false, false, false, false, false, false, false, false, false, false, false, false] rfl rfl (any_of HT_.out (by kernel_rfl)) (fun _ _ _ h => h) (Or.inl ⟨by rfl, ?_⟩) ?_ ?_
      rotate_left
      · intro w'
        go_simp
        with_reducible rfl
      rotate_left
      · simp only [Act.put, List.setIfInBounds_toArray, List.set_cons_zero, List.set_cons_succ, i64_w, i32_w]
        rfl
      refine pure_ (i := 12) (N := some 23) (v := ?_) (a' := ?_) #[true, true, true, true, true, true, true, true, true, true, true, true, true, false, false, false, false, false, false, false, false, false, false, false, false, false, false, false, false, false, false, false, false, false, false, false, false, false, false, false] rfl rfl (any_of HT_.out (by kernel_rfl)) (fun _ _ _ h => h) (Or.inl ⟨by rfl, ?_⟩) ?_ ?_
      rotate_left
      · intro w'
        go_simp
        with_reducible rfl
      rotate_left
      · simp only [Act.put, List.setIfInBounds_toArray, List.set_cons_zero, List.set_cons_succ, i64_w, i32_w]
        rfl
      refine pure_ (i := 13) (N := some 24) (v := ?_) (a' := ?_) #[true, true, true, true, true, true, true, true, true, true, true, true, true, true, false, false, false, false, false, false, false, false, false, false, false, false, false, false, false, false, false, false, false, false, false, false, false, false, false, false] rfl rfl (any_of HT_.out (by kernel_rfl)) (fun _ _ _ h => h) (Or.inl ⟨by rfl, ?_⟩) ?_ ?_
      rotate_left
      · intro w'
        go_simp
        with_reducible rfl
      rotate_left
      · simp only [Act.put, List.setIfInBounds_toArray, List.set_cons_zero, List.set_cons_succ, i64_w, i32_w]
        rfl
      refine pure_ (i := 14) (N := some 25) (v := ?_) (a' := ?_) #[true, true, true, true, true, true, true, true, true, true, true, true, true, true, true, false, false, false, false, false, false, false, false, false, false, false, false, false, false, false, false, false, false, false, false, false, false, false, false, false] rfl rfl (any_of HT_.out (by kernel_rfl)) (fun _ _ _ h => h) (Or.inl ⟨by rfl, ?_⟩) ?_ ?_
      rotate_left
      · intro w'
        go_simp
        with_reducible rfl
      rotate_left
      · simp only [Act.put, List.setIfInBounds_toArray, List.set_cons_zero, List.set_cons_succ, i64_w, i32_w]
        rfl
      refine take_ (i := 15) (N := some 26) (v := ?_) (a' := ?_) #[true, true, true, true, true, true, true, true, true, true, true, true, true, true, true, true, false, false, false, false, false, false, false, false, false, false, false, false, false, false, false, false, false, false, false, false, false, false, false, false] rfl rfl (take_ofW HT_.out HW_.out (by kernel_rfl)) (fun _ _ _ h => h) (Or.inl ⟨by rfl, ?_⟩) hHeld ?_ ?_
      rotate_left
      · intro w' hw'
        have hf0_ := cell2 HB0.out hw'.1 (HC.out (m + 1) (by omega))
        go_simp
        with_reducible rfl
      rotate_left
      · simp only [Act.put, List.setIfInBounds_toArray, List.set_cons_zero, List.set_cons_succ, i64_w, i32_w]
        rfl
      refine pure_ (i := 16) (N := some 27) (v := ?_) (a' := ?_) #[true, true, true, true, true, true, true, true, true, true, true, true, true, true, true, true, true, false, false, false, false, false, false, false, false, false, false, false, false, false, false, false, false, false, false, false, false, false, false, false] rfl rfl (any_of HT_.out (by kernel_rfl)) (fun _ _ _ h => h) (Or.inl ⟨by rfl, ?_⟩) ?_ ?_
      rotate_left
      · intro w'
        go_simp
        with_reducible rfl
      rotate_left
      · simp only [Act.put, List.setIfInBounds_toArray, List.set_cons_zero, List.set_cons_succ, i64_w, i32_w]
        rfl
      refine pure_ (i := 17) (N := some 28) (v := ?_) (a' := ?_) #[true, true, true, true, true, true, true, true, true, true, true, true, true, true, true, true, true, true, false, false, false, false, false, false, false, false, false, false, false, false, false, false, false, false, false, false, false, false, false, false] rfl rfl (any_of HT_.out (by kernel_rfl)) (fun _ _ _ h => h) (Or.inl ⟨by rfl, ?_⟩) ?_ ?_
      rotate_left
      · intro w'
        go_simp
        with_reducible rfl
      rotate_left
      · simp only [Act.put, List.setIfInBounds_toArray, List.set_cons_zero, List.set_cons_succ, i64_w, i32_w]
        rfl
      refine pure_ (i := 18) (N := some 29) (v := ?_) (a' := ?_) #[true, true, true, true, true, true, true, true, true, true, true, true, true, true, true, true, true, true, true, false, false, false, false, false, false, false, false, false, false, false, false, false, false, false, false, false, false, false, false, false] rfl rfl (any_of HT_.out (by kernel_rfl)) (fun _ _ _ h => h) (Or.inl ⟨by rfl, ?_⟩) ?_ ?_
      rotate_left
      · intro w'
        go_simp
        with_reducible rfl
      rotate_left
      · simp only [Act.put, List.setIfInBounds_toArray, List.set_cons_zero, List.set_cons_succ, i64_w, i32_w]
        rfl
      refine pure_ (i := 19) (N := some 30) (v := ?_) (a' := ?_) #[true, true, true, true, true, true, true, true, true, true, true, true, true, true, true, true, true, true, true, true, false, false, false, false, false, false, false, false, false, false, false, false, false, false, false, false, false, false, false, false] rfl rfl (any_of HT_.out (by kernel_rfl)) (fun _ _ _ h => h) (Or.inl ⟨by rfl, ?_⟩) ?_ ?_
      rotate_left
      · intro w'
        go_simp
        with_reducible rfl
      rotate_left
      · simp only [Act.put, List.setIfInBounds_toArray, List.set_cons_zero, List.set_cons_succ, i64_w, i32_w]
        rfl
      refine pure_ (i := 20) (N := some 31) (v := ?_) (a' := ?_) #[true, true, true, true, true, true, true, true, true, true, true, true, true, true, true, true, true, true, true, true, true, false, false, false, false, false, false, false, false, false, false, false, false, false, false, false, false, false, false, false] rfl rfl (any_of HT_.out (by kernel_rfl)) (fun _ _ _ h => h) (Or.inl ⟨by rfl, ?_⟩) ?_ ?_
      rotate_left
      · intro w'
        go_simp
        with_reducible rfl
      rotate_left
      · simp only [Act.put, List.setIfInBounds_toArray, List.set_cons_zero, List.set_cons_succ, i64_w, i32_w]
        rfl
      refine pure_ (i := 21) (N := some 32) (v := ?_) (a' := ?_) #[true, true, true, true, true, true, true, true, true, true, true, true, true, true, true, true, true, true, true, true, true, true, false, false, false, false, false, false, false, false, false, false, false, false, false, false, false, false, false, false] rfl rfl (any_of HT_.out (by kernel_rfl)) (fun _ _ _ h => h) (Or.inl ⟨by rfl, ?_⟩) ?_ ?_
      rotate_left
      · intro w'
        go_simp
        with_reducible rfl
      rotate_left
      · simp only [Act.put, List.setIfInBounds_toArray, List.set_cons_zero, List.set_cons_succ, i64_w, i32_w]
        rfl
      refine pure_ (i := 22) (N := some 33) (v := ?_) (a' := ?_) #[true, true, true, true, true, true, true, true, true, true, true, true, true, true, true, true, true, true, true, true, true, true, true, false, false, false, false, false, false, false, false, false, false, false, false, false, false, false, false, false] rfl rfl (any_of HT_.out (by kernel_rfl)) (fun _ _ _ h => h) (Or.inl ⟨by rfl, ?_⟩) ?_ ?_
      rotate_left
      · intro w'
        go_simp
        with_reducible rfl
      rotate_left
      · simp only [Act.put, List.setIfInBounds_toArray, List.set_cons_zero, List.set_cons_succ, i64_w, i32_w]
        rfl
      refine pure_ (i := 23) (N := some 34) (v := ?_) (a' := ?_) #[true, true, true, true, true, true, true, true, true, true, true, true, true, true, true, true, true, true, true, true, true, true, true, true, false, false, false, false, false, false, false, false, false, false, false, false, false, false, false, false] rfl rfl (any_of HT_.out (by kernel_rfl)) (fun _ _ _ h => h) (Or.inl ⟨by rfl, ?_⟩) ?_ ?_
      rotate_left
      · intro w'
        go_simp
        with_reducible rfl
      rotate_left
      · simp only [Act.put, List.setIfInBounds_toArray, List.set_cons_zero, List.set_cons_succ, i64_w, i32_w]
        rfl
      refine pure_ (i := 24) (N := some 35) (v := ?_) (a' := ?_) #[true, true, true, true, true, true, true, true, true, true, true, true, true, true, true, true, true, true, true, true, true, true, true, true, true, false, false, false, false, false, false, false, false, false, false, false, false, false, false, false] rfl rfl (any_of HT_.out (by kernel_rfl)) (fun _ _ _ h => h) (Or.inl ⟨by rfl, ?_⟩) ?_ ?_
      rotate_left
      · intro w'
        go_simp
        with_reducible rfl
      rotate_left
      · simp only [Act.put, List.setIfInBounds_toArray, List.set_cons_zero, List.set_cons_succ, i64_w, i32_w]
        rfl
      refine take_ (i := 25) (N := some 36) (v := ?_) (a' := ?_) #[true, true, true, true, true, true, true, true, true, true, true, true, true, true, true, true, true, true, true, true, true, true, true, true, true, true, false, false, false, false, false, false, false, false, false, false, false, false, false, false] rfl rfl (take_ofW HT_.out HW_.out (by kernel_rfl)) (fun _ _ _ h => h) (Or.inl ⟨by rfl, ?_⟩) hHeld ?_ ?_
      rotate_left
      · intro w' hw'
        have hf0_ := cell2 HB0.out hw'.1 (HC.out (m + 2) (by omega))
        go_simp
        with_reducible rfl
      rotate_left
      · simp only [Act.put, List.setIfInBounds_toArray, List.set_cons_zero, List.set_cons_succ, i64_w, i32_w]
        rfl
      refine pure_ (i := 26) (N := some 37) (v := ?_) (a' := ?_) #[true, true, true, true, true, true, true, true, true, true, true, true, true, true, true, true, true, true, true, true, true, true, true, true, true, true, true, false, false, false, false, false, false, false, false, false, false, false, false, false] rfl rfl (any_of HT_.out (by kernel_rfl)) (fun _ _ _ h => h) (Or.inl ⟨by rfl, ?_⟩) ?_ ?_
      rotate_left
      · intro w'
        go_simp
        with_reducible rfl
      rotate_left
      · simp only [Act.put, List.setIfInBounds_toArray, List.set_cons_zero, List.set_cons_succ, i64_w, i32_w]
        rfl
      refine pure_ (i := 27) (N := some 38) (v := ?_) (a' := ?_) #[true, true, true, true, true, true, true, true, true, true, true, true, true, true, true, true, true, true, true, true, true, true, true, true, true, true, true, true, false, false, false, false, false, false, false, false, false, false, false, false] rfl rfl (any_of HT_.out (by kernel_rfl)) (fun _ _ _ h => h) (Or.inl ⟨by rfl, ?_⟩) ?_ ?_
      rotate_left
      · intro w'
        go_simp
        with_reducible rfl
      rotate_left
      · simp only [Act.put, List.setIfInBounds_toArray, List.set_cons_zero, List.set_cons_succ, i64_w, i32_w]
        rfl
      refine pure_ (i := 28) (N := some 39) (v := ?_) (a' := ?_) #[true, true, true, true, true, true, true, true, true, true, true, true, true, true, true, true, true, true, true, true, true, true, true, true, true, true, true, true, true, false, false, false, false, false, false, false, false, false, false, false] rfl rfl (any_of HT_.out (by kernel_rfl)) (fun _ _ _ h => h) (Or.inl ⟨by rfl, ?_⟩) ?_ ?_
      rotate_left
      · intro w'
        go_simp
        with_reducible rfl
      rotate_left
      · simp only [Act.put, List.setIfInBounds_toArray, List.set_cons_zero, List.set_cons_succ, i64_w, i32_w]
        rfl
      refine pure_ (i := 29) (N := some 40) (v := ?_) (a' := ?_) #[true, true, true, true, true, true, true, true, true, true, true, true, true, true, true, true, true, true, true, true, true, true, true, true, true, true, true, true, true, true, false, false, false, false, false, false, false, false, false, false] rfl rfl (any_of HT_.out (by kernel_rfl)) (fun _ _ _ h => h) (Or.inl ⟨by rfl, ?_⟩) ?_ ?_
      rotate_left
      · intro w'
        go_simp
        with_reducible rfl
      rotate_left
      · simp only [Act.put, List.setIfInBounds_toArray, List.set_cons_zero, List.set_cons_succ, i64_w, i32_w]
        rfl
      refine pure_ (i := 30) (N := some 41) (v := ?_) (a' := ?_) #[true, true, true, true, true, true, true, true, true, true, true, true, true, true, true, true, true, true, true, true, true, true, true, true, true, true, true, true, true, true, true, false, false, false, false, false, false, false, false, false] rfl rfl (any_of HT_.out (by kernel_rfl)) (fun _ _ _ h => h) (Or.inl ⟨by rfl, ?_⟩) ?_ ?_
      rotate_left
      · intro w'
        go_simp
        with_reducible rfl
      rotate_left
      · simp only [Act.put, List.setIfInBounds_toArray, List.set_cons_zero, List.set_cons_succ, i64_w, i32_w]
        rfl
      refine pure_ (i := 31) (N := some 42) (v := ?_) (a' := ?_) #[true, true, true, true, true, true, true, true, true, true, true, true, true, true, true, true, true, true, true, true, true, true, true, true, true, true, true, true, true, true, true, true, false, false, false, false, false, false, false, false] rfl rfl (any_of HT_.out (by kernel_rfl)) (fun _ _ _ h => h) (Or.inl ⟨by rfl, ?_⟩) ?_ ?_
      rotate_left
      · intro w'
        go_simp
        with_reducible rfl
      rotate_left
      · simp only [Act.put, List.setIfInBounds_toArray, List.set_cons_zero, List.set_cons_succ, i64_w, i32_w]
        rfl
      refine pure_ (i := 32) (N := some 43) (v := ?_) (a' := ?_) #[true, true, true, true, true, true, true, true, true, true, true, true, true, true, true, true, true, true, true, true, true, true, true, true, true, true, true, true, true, true, true, true, true, false, false, false, false, false, false, false] rfl rfl (any_of HT_.out (by kernel_rfl)) (fun _ _ _ h => h) (Or.inl ⟨by rfl, ?_⟩) ?_ ?_
      rotate_left
      · intro w'
        go_simp
        with_reducible rfl
      rotate_left
      · simp only [Act.put, List.setIfInBounds_toArray, List.set_cons_zero, List.set_cons_succ, i64_w, i32_w]
        rfl
      refine pure_ (i := 33) (N := some 44) (v := ?_) (a' := ?_) #[true, true, true, true, true, true, true, true, true, true, true, true, true, true, true, true, true, true, true, true, true, true, true, true, true, true, true, true, true, true, true, true, true, true, false, false, false, false, false, false] rfl rfl (any_of HT_.out (by kernel_rfl)) (fun _ _ _ h => h) (Or.inl ⟨by rfl, ?_⟩) ?_ ?_
      rotate_left
      · intro w'
        go_simp
        with_reducible rfl
      rotate_left
      · simp only [Act.put, List.setIfInBounds_toArray, List.set_cons_zero, List.set_cons_succ, i64_w, i32_w]
        rfl
      refine pure_ (i := 34) (N := some 45) (v := ?_) (a' := ?_) #[true, true, true, true, true, true, true, true, true, true, true, true, true, true, true, true, true, true, true, true, true, true, true, true, true, true, true, true, true, true, true, true, true, true, true, false, false, false, false, false] rfl rfl (any_of HT_.out (by kernel_rfl)) (fun _ _ _ h => h) (Or.inl ⟨by rfl, ?_⟩) ?_ ?_
      rotate_left
      · intro w'
        go_simp
        with_reducible rfl
      rotate_left
      · simp only [Act.put, List.setIfInBounds_toArray, List.set_cons_zero, List.set_cons_succ, i64_w, i32_w]
        rfl
      refine take_ (i := 35) (N := some 46) (v := ?_) (a' := ?_) #[true, true, true, true, true, true, true, true, true, true, true, true, true, true, true, true, true, true, true, true, true, true, true, true, true, true, true, true, true, true, true, true, true, true, true, true, false, false, false, false] rfl rfl (take_ofW HT_.out HW_.out (by kernel_rfl)) (fun _ _ _ h => h) (Or.inl ⟨by rfl, ?_⟩) hHeld ?_ ?_
      rotate_left
      · intro w' hw'
        have hf0_ := cell2 HB0.out hw'.1 (HC.out (m + 3) (by omega))
        go_simp
        with_reducible rfl
      rotate_left
      · simp only [Act.put, List.setIfInBounds_toArray, List.set_cons_zero, List.set_cons_succ, i64_w, i32_w]
        rfl
      refine pure_ (i := 36) (N := some 47) (v := ?_) (a' := ?_) #[true, true, true, true, true, true, true, true, true, true, true, true, true, true, true, true, true, true, true, true, true, true, true, true, true, true, true, true, true, true, true, true, true, true, true, true, true, false, false, false] rfl rfl (any_of HT_.out (by kernel_rfl)) (fun _ _ _ h => h) (Or.inl ⟨by rfl, ?_⟩) ?_ ?_
      rotate_left
      · intro w'
        go_simp
        with_reducible rfl
      rotate_left
      · simp only [Act.put, List.setIfInBounds_toArray, List.set_cons_zero, List.set_cons_succ, i64_w, i32_w]
        rfl
      refine pure_ (i := 37) (N := some 48) (v := ?_) (a' := ?_) #[true, true, true, true, true, true, true, true, true, true, true, true, true, true, true, true, true, true, true, true, true, true, true, true, true, true, true, true, true, true, true, true, true, true, true, true, true, true, false, false] rfl rfl (any_of HT_.out (by kernel_rfl)) (fun _ _ _ h => h) (Or.inl ⟨by rfl, ?_⟩) ?_ ?_
      rotate_left
      · intro w'
        go_simp
        with_reducible rfl
      rotate_left
      · simp only [Act.put, List.setIfInBounds_toArray, List.set_cons_zero, List.set_cons_succ, i64_w, i32_w]
        rfl
      refine pure_ (i := 38) (N := some 49) (v := ?_) (a' := ?_) #[true, true, true, true, true, true, true, true, true, true, true, true, true, true, true, true, true, true, true, true, true, true, true, true, true, true, true, true, true, true, true, true, true, true, true, true, true, true, true, false] rfl rfl (any_of HT_.out (by kernel_rfl)) (fun _ _ _ h => h) (Or.inl ⟨by rfl, ?_⟩) ?_ ?_
      rotate_left
      · intro w'
        go_simp
        with_reducible rfl
      rotate_left
      · simp only [Act.put, List.setIfInBounds_toArray, List.set_cons_zero, List.set_cons_succ, i64_w, i32_w]
        rfl
      have hcl := hHeld.2.cell L.length (by rw [pad64_len _ (by omega)]; omega); have hfr := hHeld.2.fro L.length
      refine last_ (i := 39) (N := none) #[true, true, true, true, true, true, true, true, true, true, true, true, true, true, true, true, true, true, true, true, true, true, true, true, true, true, true, true, true, true, true, true, true, true, true, true, true, true, true, true] rfl rfl (one_of HT_.out (by kernel_rfl)) (by decide) (fun K hK => ?_)
      refine skip_ (w1 := wq.setCell ⟨w.heap.size + 1, L.length, none⟩ (.int .u32 (be b (4 * L.length)))) (by rfl) rfl (by go_simp; simp only [be, HM.out]; first | done | rfl) ?_
      refine hK.out _ _ ?_
      clear hK K
      have hQ : Below (w.heap.size + 1) w2 (wq.setCell ⟨w.heap.size + 1, L.length, none⟩ (.int .u32 (be b (4 * L.length)))) ∧ Rw .u32 85 (wq.setCell ⟨w.heap.size + 1, L.length, none⟩ (.int .u32 (be b (4 * L.length)))) (w.heap.size + 1) (pad64 (L ++ [be b (4 * L.length)])) := ⟨hHeld.1.setCell (Nat.le_refl _) _, by rw [← pad64_set L _ (by omega)]; exact hHeld.2.set _ _⟩
      generalize wq.setCell _ _ = wz at hQ ⊢
      refine done_ (done_of HT_.out (by kernel_rfl)) ?_
      clear hHeld hcl hfr
      go_wp2
      go_roundw
      case rel => exact ⟨L ++ [be b (4 * L.length)], by simp <;> omega, by first | rfl | go_num | (simp; done), ⟨by rw [List.length_append, List.length_singleton, List.range_succ, List.map_append, ← hLe.out]; try rfl⟩, ⟨hQ.2⟩, ⟨hQ.1⟩⟩
      case measure => simp [intOf]; omega
    · have hlt' : decide ((L.length : Int) < 16) = false := by simp; omega
      have hL16 : L = sched b 0 := by rw [hLe.out, show L.length = 16 from by omega]; rfl
      have HL := Aside0.mk hL16
      clear hL16 hLe
      go_wp2
      go_loopw [5] (fun v wr => ∃ (n p : Nat) (L : List Int), n ≤ 64 ∧ v = .int .i64 n ∧ Aside0 (L = sched b p) ∧ Aside0 (n = 16 + p ∧ L.length = n) ∧ Aside0 (Rw .u32 85 wr (w.heap.size + 1) (pad64 L)) ∧ Aside0 (Below (w.heap.size + 1) w2 wr)) (fun v _ => 64 - (intOf v).toNat)
      case atStart => exact ⟨16, 0, L, by decide, rfl, HL, ⟨rfl, by omega⟩, HR, HB⟩
      case round =>
        clear HR HB HL hL hlt hlt'
        obtain ⟨n, p, L, hn, rfl, HL, HN, HR, HB⟩ := hrel
        by_cases hlt : n < 64
        · have hlt' : decide ((n : Int) < 64) = true := by simp; omega
          go_upto_region 10 with (fail)
          obtain ⟨m15, h15⟩ : ∃ m : Nat, n = m + 15 := ⟨n - 15, by have := HN.out; omega⟩
          obtain ⟨m2, h2⟩ : ∃ m : Nat, n = m + 2 := ⟨n - 2, by have := HN.out; omega⟩
          obtain ⟨m16, h16⟩ : ∃ m : Nat, n = m + 16 := ⟨n - 16, by have := HN.out; omega⟩
          obtain ⟨m7, h7⟩ : ∃ m : Nat, n = m + 7 := ⟨n - 7, by have := HN.out; omega⟩
          obtain ⟨f15, f2, f16, f7, g15, g2, g16, g7, gn⟩ := backs n m15 m2 m16 m7 hlt h15 h2 h16 h7
          obtain ⟨x15, hx15, hy15⟩ := word_at L m15 (by have := HN.out; omega)
          obtain ⟨x2, hx2, hy2⟩ := word_at L m2 (by have := HN.out; omega)
          obtain ⟨x16, hx16, hy16⟩ := word_at L m16 (by have := HN.out; omega)
          obtain ⟨x7, hx7, hy7⟩ := word_at L m7 (by have := HN.out; omega)
          have hpl : 64 ≤ (pad64 L).length := by rw [pad64_len _ (by have := HN.out; omega)]; omega
          have HM := Aside0.mk (⟨h15, h2, h16, h7⟩ : n = m15 + 15 ∧ n = m2 + 2 ∧ n = m16 + 16 ∧ n = m7 + 7)
          clear h15 h2 h16 h7
          refine start_ (n := 10) (S := (fun W_ => Below (w.heap.size + 1) w2 W_ ∧ Rw .u32 85 W_ (w.heap.size + 1) (pad64 L))) (ds := []) #[false, false, false, false, false, false, false, false, false, false] (by kernel_rfl) rfl rfl (⟨below_drew1 HB.out, HR.out⟩) (fun hHeld => ?_); refine with_tabW sp10tab sp10bits (fun HT_ HW_ => ?_)
          generalize wr.drew = wq at hHeld ⊢
          refine pure_ (i := 0) (N := some 55) (v := ?_) (a' := ?_) #[true, false, false, false, false, false, false, false, false, false] rfl rfl (any_of HT_.out (by kernel_rfl)) (fun _ _ _ h => h) (Or.inl ⟨by rfl, ?_⟩) ?_ ?_
          rotate_left
          · intro w'
            go_simp
            with_reducible rfl
          rotate_left
          · simp only [Act.put, List.setIfInBounds_toArray, List.set_cons_zero, List.set_cons_succ, i64_w, i32_w]
            rfl
          refine pure_ (i := 1) (N := some 56) (v := ?_) (a' := ?_) #[true, true, false, false, false, false, false, false, false, false] rfl rfl (any_of HT_.out (by kernel_rfl)) (fun _ _ _ h => h) (Or.inl ⟨by rfl, ?_⟩) ?_ ?_
          rotate_left
          · intro w'
            go_simp
            with_reducible rfl
          rotate_left
          · simp only [Act.put, List.setIfInBounds_toArray, List.set_cons_zero, List.set_cons_succ, i64_w, i32_w]
            rfl
          refine pure_ (i := 2) (N := some 57) (v := ?_) (a' := ?_) #[true, true, true, false, false, false, false, false, false, false] rfl rfl (any_of HT_.out (by kernel_rfl)) (fun _ _ _ h => h) (Or.inl ⟨by rfl, ?_⟩) ?_ ?_
          rotate_left
          · intro w'
            go_simp
            with_reducible rfl
          rotate_left
          · simp only [Act.put, List.setIfInBounds_toArray, List.set_cons_zero, List.set_cons_succ, i64_w, i32_w]
            rfl
          refine take_ (i := 3) (N := some 58) (v := ?_) (a' := ?_) #[true, true, true, true, false, false, false, false, false, false] rfl rfl (take_ofW HT_.out HW_.out (by kernel_rfl)) (fun _ _ _ h => h) (Or.inl ⟨by rfl, ?_⟩) hHeld ?_ ?_
          rotate_left
          · intro w' hw'
            have hf0_ := hw'.2.at m15 (by omega) x15 hx15.out
            go_simp
            with_reducible rfl
          rotate_left
          · simp only [Act.put, List.setIfInBounds_toArray, List.set_cons_zero, List.set_cons_succ, i64_w, i32_w]
            rfl
          refine pure_ (i := 4) (N := some 59) (v := ?_) (a' := ?_) #[true, true, true, true, true, false, false, false, false, false] rfl rfl (any_of HT_.out (by kernel_rfl)) (fun _ _ _ h => h) (Or.inl ⟨by rfl, ?_⟩) ?_ ?_
          rotate_left
          · intro w'
            go_simp
            with_reducible rfl
          rotate_left
          · simp only [Act.put, List.setIfInBounds_toArray, List.set_cons_zero, List.set_cons_succ, i64_w, i32_w]
            rfl
          refine pure_ (i := 5) (N := some 60) (v := ?_) (a' := ?_) #[true, true, true, true, true, true, false, false, false, false] rfl rfl (any_of HT_.out (by kernel_rfl)) (fun _ _ _ h => h) (Or.inl ⟨by rfl, ?_⟩) ?_ ?_
          rotate_left
          · intro w'
            go_simp
            with_reducible rfl
          rotate_left
          · simp only [Act.put, List.setIfInBounds_toArray, List.set_cons_zero, List.set_cons_succ, i64_w, i32_w]
            rfl
          refine pure_ (i := 6) (N := some 61) (v := ?_) (a' := ?_) #[true, true, true, true, true, true, true, false, false, false] rfl rfl (any_of HT_.out (by kernel_rfl)) (fun _ _ _ h => h) (Or.inl ⟨by rfl, ?_⟩) ?_ ?_
          rotate_left
          · intro w'
            go_simp
            with_reducible rfl
          rotate_left
          · simp only [Act.put, List.setIfInBounds_toArray, List.set_cons_zero, List.set_cons_succ, i64_w, i32_w]
            rfl
          refine take_ (i := 7) (N := some 62) (v := ?_) (a' := ?_) #[true, true, true, true, true, true, true, true, false, false] rfl rfl (take_ofW HT_.out HW_.out (by kernel_rfl)) (fun _ _ _ h => h) (Or.inl ⟨by rfl, ?_⟩) hHeld ?_ ?_
          rotate_left
          · intro w' hw'
            have hf0_ := hw'.2.at m2 (by omega) x2 hx2.out
            go_simp
            with_reducible rfl
          rotate_left
          · simp only [Act.put, List.setIfInBounds_toArray, List.set_cons_zero, List.set_cons_succ, i64_w, i32_w]
            rfl
          refine pure_ (i := 8) (N := some 6) (v := ?_) (a' := ?_) #[true, true, true, true, true, true, true, true, true, false] rfl rfl (any_of HT_.out (by kernel_rfl)) (fun _ _ _ h => h) (Or.inl ⟨by rfl, ?_⟩) ?_ ?_
          rotate_left
          · intro w'
            go_simp
            with_reducible rfl
          rotate_left
          · simp only [Act.put, List.setIfInBounds_toArray, List.set_cons_zero, List.set_cons_succ, i64_w, i32_w]
            rfl
          refine pure_ (i := 9) (N := some 7) (v := ?_) (a' := ?_) #[true, true, true, true, true, true, true, true, true, true] rfl rfl (any_of HT_.out (by kernel_rfl)) (fun _ _ _ h => h) (Or.inl ⟨by rfl, ?_⟩) ?_ ?_
          rotate_left
          · intro w'
            go_simp
            with_reducible rfl
          rotate_left
          · simp only [Act.put, List.setIfInBounds_toArray, List.set_cons_zero, List.set_cons_succ, i64_w, i32_w]
            rfl
          refine done_ (done_of HT_.out (by kernel_rfl)) ?_
          have HB1 := Aside0.mk hHeld.1; have HR1 := Aside0.mk hHeld.2; clear hHeld HB HR
          go_wp2_with (fail)
          refine (bits_RotateLeft32.calls _ _ _ _ (rot_f7 _)).mono ?_
          rintro _ _ ⟨rfl, ⟨n0, rfl⟩⟩
          go_wp2_with (fail)
          refine (bits_RotateLeft32.calls _ _ _ _ (rot_f18 _)).mono ?_
          rintro _ _ ⟨rfl, ⟨n1, rfl⟩⟩
          go_wp2_with (fail)
          refine (bits_RotateLeft32.calls _ _ _ _ (rot_f17 _)).mono ?_
          rintro _ _ ⟨rfl, ⟨n2, rfl⟩⟩
          go_wp2_with (fail)
          refine (bits_RotateLeft32.calls _ _ _ _ (rot_f19 _)).mono ?_
          rintro _ _ ⟨rfl, ⟨n3, rfl⟩⟩
          go_upto_region 13 with (fail)
          generalize hwz : wq.drewN (n0 + n1 + n2 + n3) = wz
          have HB2 : Below (w.heap.size + 1) w2 wz := by rw [← hwz]; exact pw_below_drewN HB1.out _
          have HR2 : Rw .u32 85 wz (w.heap.size + 1) (pad64 L) := by rw [← hwz]; exact HR1.out
          clear HB1 HR1 hwz
          have hV := next_is L n m15 m2 m16 m7 x15 x2 x16 x7 HN.out.2 HM.out hy15.out hy2.out hy16.out hy7.out
          generalize (bits .xor .u32 (bits .xor .u32 (rot 25 x15) (rot 14 x15)) (x15 / 8)) = s0 at hV ⊢; generalize (bits .xor .u32 (bits .xor .u32 (rot 15 x2) (rot 13 x2)) (x2 / 1024)) = s1 at hV ⊢
          have HV := Aside0.mk hV; clear hV
          refine start_ (n := 16) (S := (fun W_ => Below (w.heap.size + 1) w2 W_ ∧ Rw .u32 85 W_ (w.heap.size + 1) (pad64 L))) (ds := [15]) #[false, false, false, false, false, false, false, false, false, false, false, false, false, false, false, false] (by kernel_rfl) rfl rfl (⟨below_drew1 HB2, HR2⟩) (fun hHeld => ?_); refine with_tabW sp13tab sp13bits (fun HT_ HW_ => ?_)
          clear HB2 HR2; generalize wz.drew = wy at hHeld ⊢
          refine pure_ (i := 0) (N := some 79) (v := ?_) (a' := ?_) #[true, false, false, false, false, false, false, false, false, false, false, false, false, false, false, false] rfl rfl (any_of HT_.out (by kernel_rfl)) (fun _ _ _ h => h) (Or.inl ⟨by rfl, ?_⟩) ?_ ?_
          rotate_left
          · intro w'
            go_simp
            with_reducible rfl
          rotate_left
          · simp only [Act.put, List.setIfInBounds_toArray, List.set_cons_zero, List.set_cons_succ, i64_w, i32_w]
            rfl
          refine pure_ (i := 1) (N := some 80) (v := ?_) (a' := ?_) #[true, true, false, false, false, false, false, false, false, false, false, false, false, false, false, false] rfl rfl (any_of HT_.out (by kernel_rfl)) (fun _ _ _ h => h) (Or.inl ⟨by rfl, ?_⟩) ?_ ?_
          rotate_left
          · intro w'
            go_simp
            with_reducible rfl
          rotate_left
          · simp only [Act.put, List.setIfInBounds_toArray, List.set_cons_zero, List.set_cons_succ, i64_w, i32_w]
            rfl
          refine pure_ (i := 2) (N := some 81) (v := ?_) (a' := ?_) #[true, true, true, false, false, false, false, false, false, false, false, false, false, false, false, false] rfl rfl (any_of HT_.out (by kernel_rfl)) (fun _ _ _ h => h) (Or.inl ⟨by rfl, ?_⟩) ?_ ?_
          rotate_left
          · intro w'
            go_simp
            with_reducible rfl
          rotate_left
          · simp only [Act.put, List.setIfInBounds_toArray, List.set_cons_zero, List.set_cons_succ, i64_w, i32_w]
            rfl
          refine pure_ (i := 3) (N := some 82) (v := ?_) (a' := ?_) #[true, true, true, true, false, false, false, false, false, false, false, false, false, false, false, false] rfl rfl (any_of HT_.out (by kernel_rfl)) (fun _ _ _ h => h) (Or.inl ⟨by rfl, ?_⟩) ?_ ?_
          rotate_left
          · intro w'
            go_simp
            with_reducible rfl
          rotate_left
          · simp only [Act.put, List.setIfInBounds_toArray, List.set_cons_zero, List.set_cons_succ, i64_w, i32_w]
            rfl
          refine take_ (i := 4) (N := some 83) (v := ?_) (a' := ?_) #[true, true, true, true, true, false, false, false, false, false, false, false, false, false, false, false] rfl rfl (take_ofW HT_.out HW_.out (by kernel_rfl)) (fun _ _ _ h => h) (Or.inl ⟨by rfl, ?_⟩) hHeld ?_ ?_
          rotate_left
          · intro w' hw'
            have hf0_ := hw'.2.at m16 (by omega) x16 hx16.out
            go_simp
            with_reducible rfl
          rotate_left
          · simp only [Act.put, List.setIfInBounds_toArray, List.set_cons_zero, List.set_cons_succ, i64_w, i32_w]
            rfl
          refine pure_ (i := 5) (N := some 84) (v := ?_) (a' := ?_) #[true, true, true, true, true, true, false, false, false, false, false, false, false, false, false, false] rfl rfl (any_of HT_.out (by kernel_rfl)) (fun _ _ _ h => h) (Or.inl ⟨by rfl, ?_⟩) ?_ ?_
          rotate_left
          · intro w'
            go_simp
            with_reducible rfl
          rotate_left
          · simp only [Act.put, List.setIfInBounds_toArray, List.set_cons_zero, List.set_cons_succ, i64_w, i32_w]
            rfl
          refine pure_ (i := 6) (N := some 85) (v := ?_) (a' := ?_) #[true, true, true, true, true, true, true, false, false, false, false, false, false, false, false, false] rfl rfl (any_of HT_.out (by kernel_rfl)) (fun _ _ _ h => h) (Or.inl ⟨by rfl, ?_⟩) ?_ ?_
          rotate_left
          · intro w'
            go_simp
            with_reducible rfl
          rotate_left
          · simp only [Act.put, List.setIfInBounds_toArray, List.set_cons_zero, List.set_cons_succ, i64_w, i32_w]
            rfl
          refine pure_ (i := 7) (N := some 86) (v := ?_) (a' := ?_) #[true, true, true, true, true, true, true, true, false, false, false, false, false, false, false, false] rfl rfl (any_of HT_.out (by kernel_rfl)) (fun _ _ _ h => h) (Or.inl ⟨by rfl, ?_⟩) ?_ ?_
          rotate_left
          · intro w'
            go_simp
            with_reducible rfl
          rotate_left
          · simp only [Act.put, List.setIfInBounds_toArray, List.set_cons_zero, List.set_cons_succ, i64_w, i32_w]
            rfl
          refine pure_ (i := 8) (N := some 87) (v := ?_) (a' := ?_) #[true, true, true, true, true, true, true, true, true, false, false, false, false, false, false, false] rfl rfl (any_of HT_.out (by kernel_rfl)) (fun _ _ _ h => h) (Or.inl ⟨by rfl, ?_⟩) ?_ ?_
          rotate_left
          · intro w'
            go_simp
            with_reducible rfl
          rotate_left
          · simp only [Act.put, List.setIfInBounds_toArray, List.set_cons_zero, List.set_cons_succ, i64_w, i32_w]
            rfl
          refine pure_ (i := 9) (N := some 88) (v := ?_) (a' := ?_) #[true, true, true, true, true, true, true, true, true, true, false, false, false, false, false, false] rfl rfl (any_of HT_.out (by kernel_rfl)) (fun _ _ _ h => h) (Or.inl ⟨by rfl, ?_⟩) ?_ ?_
          rotate_left
          · intro w'
            go_simp
            with_reducible rfl
          rotate_left
          · simp only [Act.put, List.setIfInBounds_toArray, List.set_cons_zero, List.set_cons_succ, i64_w, i32_w]
            rfl
          refine take_ (i := 10) (N := some 89) (v := ?_) (a' := ?_) #[true, true, true, true, true, true, true, true, true, true, true, false, false, false, false, false] rfl rfl (take_ofW HT_.out HW_.out (by kernel_rfl)) (fun _ _ _ h => h) (Or.inl ⟨by rfl, ?_⟩) hHeld ?_ ?_
          rotate_left
          · intro w' hw'
            have hf0_ := hw'.2.at m7 (by omega) x7 hx7.out
            go_simp
            with_reducible rfl
          rotate_left
          · simp only [Act.put, List.setIfInBounds_toArray, List.set_cons_zero, List.set_cons_succ, i64_w, i32_w]
            rfl
          refine pure_ (i := 11) (N := some 90) (v := ?_) (a' := ?_) #[true, true, true, true, true, true, true, true, true, true, true, true, false, false, false, false] rfl rfl (any_of HT_.out (by kernel_rfl)) (fun _ _ _ h => h) (Or.inl ⟨by rfl, ?_⟩) ?_ ?_
          rotate_left
          · intro w'
            go_simp
            with_reducible rfl
          rotate_left
          · simp only [Act.put, List.setIfInBounds_toArray, List.set_cons_zero, List.set_cons_succ, i64_w, i32_w]
            rfl
          refine pure_ (i := 12) (N := some 91) (v := ?_) (a' := ?_) #[true, true, true, true, true, true, true, true, true, true, true, true, true, false, false, false] rfl rfl (any_of HT_.out (by kernel_rfl)) (fun _ _ _ h => h) (Or.inl ⟨by rfl, ?_⟩) ?_ ?_
          rotate_left
          · intro w'
            go_simp
            with_reducible rfl
          rotate_left
          · simp only [Act.put, List.setIfInBounds_toArray, List.set_cons_zero, List.set_cons_succ, i64_w, i32_w]
            rfl
          refine pure_ (i := 13) (N := some 92) (v := ?_) (a' := ?_) #[true, true, true, true, true, true, true, true, true, true, true, true, true, true, false, false] rfl rfl (any_of HT_.out (by kernel_rfl)) (fun _ _ _ h => h) (Or.inl ⟨by rfl, ?_⟩) ?_ ?_
          rotate_left
          · intro w'
            go_simp
            with_reducible rfl
          rotate_left
          · simp only [Act.put, List.setIfInBounds_toArray, List.set_cons_zero, List.set_cons_succ, i64_w, i32_w]
            rfl
          refine pure_ (i := 14) (N := some 93) (v := ?_) (a' := ?_) #[true, true, true, true, true, true, true, true, true, true, true, true, true, true, true, false] rfl rfl (any_of HT_.out (by kernel_rfl)) (fun _ _ _ h => h) (Or.inl ⟨by rfl, ?_⟩) ?_ ?_
          rotate_left
          · intro w'
            go_simp
            with_reducible rfl
          rotate_left
          · simp only [Act.put, List.setIfInBounds_toArray, List.set_cons_zero, List.set_cons_succ, i64_w, i32_w]
            rfl
          have hcl := hHeld.2.cell n (by omega); have hfr := hHeld.2.fro n
          refine last_ (i := 15) (N := none) #[true, true, true, true, true, true, true, true, true, true, true, true, true, true, true, true] rfl rfl (one_of HT_.out (by kernel_rfl)) (by decide) (fun K hK => ?_)
          refine skip_ (w1 := (wy.setCell ⟨w.heap.size + 1, n, none⟩ (.int .u32 (IntKind.u32.wrap (IntKind.u32.wrap (IntKind.u32.wrap (x16 + s0) + x7) + s1))))) (by rfl) rfl (by go_simp; first | done | rfl) ?_
          refine hK.out _ _ ?_
          clear hK K
          have hQ : Below (w.heap.size + 1) w2 (wy.setCell ⟨w.heap.size + 1, n, none⟩ (.int .u32 (IntKind.u32.wrap (IntKind.u32.wrap (IntKind.u32.wrap (x16 + s0) + x7) + s1)))) ∧ Rw .u32 85 (wy.setCell ⟨w.heap.size + 1, n, none⟩ (.int .u32 (IntKind.u32.wrap (IntKind.u32.wrap (IntKind.u32.wrap (x16 + s0) + x7) + s1)))) (w.heap.size + 1) (pad64 (L ++ [nextw L])) := ⟨hHeld.1.setCell (Nat.le_refl _) _, by rw [← pad64_set L _ (by have := HN.out; omega), HN.out.2, ← HV.out]; exact hHeld.2.set _ _⟩
          generalize wy.setCell _ _ = wx at hQ ⊢
          refine done_ (done_of HT_.out (by kernel_rfl)) ?_
          clear hHeld hcl hfr
          go_wp2
          go_roundw
          case rel => exact ⟨n + 1, p + 1, L ++ [nextw L], by omega, by go_num, ⟨by rw [HL.out]; rfl⟩, ⟨by have := HN.out; omega, by have := HN.out; simp; omega⟩, ⟨hQ.2⟩, ⟨hQ.1⟩⟩
          case measure => simp [intOf]; omega
        · have hlt' : decide ((n : Int) < 64) = false := by simp; omega
          have hg0 : wr.heap[w.heap.size]? = some (.cells (nums .u32 zero85).toArray 85 (0, 0)) := HS0.out.below HB.out (by omega)
          have hg1 : wr.heap[w.heap.size + 1]? = some (.cells (nums .u32 L).toArray 85 (0, 0)) := by
            have := HR.out
            unfold Rw pad64 at this
            rwa [HN.out.2, show 64 - n = 0 from by omega, List.replicate_zero, List.append_nil] at this
          have HBz := Aside0.mk (HB0.out.trans (HB.out.mono (Nat.le_succ _)))
          have hl : L = sched b 48 := by rw [HL.out, show p = 48 from by have := HN.out; omega]
          have HG0 := Aside0.mk hg0; have HG1 := Aside0.mk hg1; have HE := Aside0.mk hl
          have HS := Aside0.mk (show (nums .u32 L).toArray.size = 64 from by have := HN.out; simp [nums]; omega)
          clear hg0 hg1 hl HL HB HR
          go_wp2_with (first | (with_reducible refine op_load rfl 85 _ rfl (w.heap.size + 1) rfl 85 _ _ HG1.out Try.underlying85 rfl 64 sz85 HS.out ?_) | (refine op_store (w0 := w) w.heap.size rfl 85 (.tmp 2) (.tmp 94) rfl w.heap.size (nums .u32 L).toArray rfl rfl 85 _ HG0.out 64 sz85 HS.out (by simp [nums, zero85]) (nums_all _ _) HBz.out (Nat.le_refl _) ?_; intro wf hf1 hf2 hf3))
          refine ret_cell rfl w.heap.size rfl 85 _ _ hf1.out Try.underlying85 rfl 64 sz85 HS.out rfl ?_
          exact ⟨by rw [HE.out], hf3.out⟩
end Go.Proofs.Ytgpgblidplmchaa.Sw
namespace Go.Proofs.Ytgpgblidplmchaa.Sk
open Go.RowKit Go.Proofs.YtgpgblidplmchaaW.PrintWords Go.Proofs.YtgpgblidplmchaaW.PrintLast Go.Proofs.YtgpgblidplmchaaW.PrintMore
open Ag POct Sw
set_option linter.unusedVariables false
set_option linter.unusedSimpArgs false
set_option maxRecDepth 100000
def keyL : List Int := [1116352408,1899447441,3049323471,3921009573,961987163,1508970993,2453635748,2870763221,3624381080,310598401,607225278,1426881987,1925078388,2162078206,2614888103,3248222580,3835390401,4022224774,264347078,604807628,770255983,1249150122,1555081692,1996064986,2554220882,2821834349,2952996808,3210313671,3336571891,3584528711,113926993,338241895,666307205,773529912,1294757372,1396182291,1695183700,1986661051,2177026350,2456956037,2730485921,2820302411,3259730800,3345764771,3516065817,3600352804,4094571909,275423344,430227734,506948616,659060556,883997877,958139571,1322822218,1537002063,1747873779,1955562222,2024104815,2227730452,2361852424,2428436474,2756734187,3204031479,3329325298]
def iniL : List Int := [1779033703, 3144134277, 1013904242, 2773480762, 1359893119, 2600822924, 528734635, 1541459225]
theorem keyB : Try.prog.built 85 ((List.range 64).zip (nums .u32 keyL)) = some (nums .u32 keyL).toArray := by kernel_rfl
theorem iniB : Try.prog.built 77 ((List.range 8).zip (nums .u32 iniL)) = some (nums .u32 iniL).toArray := by kernel_rfl
set_option maxHeartbeats 4000000 in
theorem primes_calls (w : World) : Calls Try.prog 52 #[] w fun e w' => e = .returned (.agg (nums .u32 keyL).toArray) ∧ Below w.heap.size w w' := by
  have HB0 := Aside0.mk ((Below.refl w.heap.size w).alloc (Nat.le_refl _) (.cells (nums .u32 zero85).toArray 85))
  have HG0 := Aside0.mk (alloc_Rw (k := .u32) (T := 85) w zero85)
  have HS := Aside0.mk (show (nums .u32 keyL).toArray.size = 64 from rfl)
  go_enter Try.func52, Try.ntmps52
  go_wp2_with (first | (with_reducible refine op_alloc rfl 85 rfl _ z85 ?_) | (with_reducible refine op_build rfl 85 _ rfl (nums .u32 keyL).toArray (by rw [List.map_toArray]; exact keyB) ?_) | (refine op_store (w0 := w) w.heap.size rfl 85 (.tmp 0) (.tmp 1) rfl w.heap.size (nums .u32 keyL).toArray rfl rfl 85 _ HG0.out 64 sz85 HS.out (by simp [nums, zero85]) (nums_all _ _) HB0.out (Nat.le_refl _) ?_; intro wf hf1 hf2 hf3))
  refine ret_cell rfl w.heap.size rfl 85 _ _ hf1.out Try.underlying85 rfl 64 sz85 HS.out rfl ?_
  exact ⟨rfl, hf3.out⟩
/-- a running hash: the state, what waits, how many bytes there were -/
structure Hs where
  st : List Int
  wait : List Int
  n : Int
def hcells (s : Hs) : List Value := .bool true :: (nums .u32 s.st ++ (nums .u8 s.wait ++ [.int .u64 s.n]))
def Hat (w : World) (g : Nat) (s : Hs) : Prop := w.heap[g]? = some (.cells (hcells s).toArray 80 (0, 0))
def hs0 : Hs := ⟨iniL, List.replicate 64 0, 0⟩
theorem hs0B : Try.prog.built 80 [(0, .bool true), (1, .agg (nums .u32 iniL).toArray)] = some (hcells hs0).toArray := by kernel_rfl
theorem new_calls (w : World) : Calls Try.prog 44 #[] w fun e w' => e = .returned (.pointer (some ⟨w.heap.size, 0, none⟩)) ∧ Hat w' w.heap.size hs0 ∧ Below w.heap.size w w' := by
  go_enter Try.func44, Try.ntmps44
  go_wp2_with (first | (with_reducible refine op_build rfl 77 _ rfl (nums .u32 iniL).toArray (by rw [List.map_toArray]; exact iniB) ?_) | (refine op_build rfl 80 _ rfl (hcells hs0).toArray (by rw [List.map_toArray]; exact hs0B) ?_))
  go_ret
  exact ⟨rfl, heap_alloc_new w _, (Below.refl _ _).alloc (Nat.le_refl _) _⟩
theorem Hat.cell0 {w : World} {g : Nat} {s : Hs} (h : Hat w g s) : w.cell? ⟨g, 0, none⟩ = some (.bool true) := by rw [blk_cell h]; rfl
theorem none_calls (w : World) (g : Nat) (s : Hs) (h : Hat w g s) : Calls Try.prog 48 #[.pointer (some ⟨g, 0, none⟩)] w fun e w' => e = .returned (.bool false) ∧ Drawn0 w w' := by
  have h0 := h.cell0
  have hf : w.frozen? ⟨g, 0, none⟩ = false := blk_frozen h _
  clear h
  go_enter Try.func48, Try.ntmps48
  go_wp2
  go_ret
  exact ⟨rfl, Drawn0.refl _⟩
end Go.Proofs.Ytgpgblidplmchaa.Sk
namespace Go.Proofs.Ytgpgblidplmchaa.Sm
open Go.RowKit Go.Proofs.YtgpgblidplmchaaW.PrintWords Go.Proofs.YtgpgblidplmchaaW.PrintLast Go.Proofs.YtgpgblidplmchaaW.PrintMore
open Ag POct Sw Sk
set_option linter.unusedVariables false
set_option linter.unusedSimpArgs false
set_option maxRecDepth 100000
def zero77 : List Int := List.replicate 8 0
def pv (g : Nat) : Value := .pointer (some ⟨g, 0, none⟩)
def Fresh (T : TypeId) (base : Nat) (W : World) (xs : List Int) : Option Nat → Prop
  | none => True
  | some g => base ≤ g ∧ Rw .u32 T W g xs
def Ne2 : Option Nat → Option Nat → Prop
  | some a, some b => a ≠ b
  | _, _ => True
/-- what is so while the blocks are made: those that are there are new, zero, and not one *)-/
structure Inv (base : Nat) (w : World) (g : Nat) (s : Hs) (W : World) (x2 x3 x4 : Option Nat) : Prop where
  below : Below base w W
  hat : Hat W g s
  f2 : Fresh 85 base W zero85 x2
  f3 : Fresh 85 base W zero85 x3
  f4 : Fresh 77 base W zero77 x4
  n23 : Ne2 x2 x3
  n24 : Ne2 x2 x4
  n34 : Ne2 x3 x4
theorem Fresh.step {T : TypeId} {base : Nat} {W W1 : World} {xs : List Int} {x : Option Nat} (h : Fresh T base W xs x) (hb : Below W.heap.size W W1) : Fresh T base W1 xs x := by
  cases x with
  | none => trivial
  | some g => exact ⟨h.1, h.2.below hb h.2.lt⟩
theorem Fresh.ne {T : TypeId} {base : Nat} {W : World} {xs : List Int} {x : Option Nat} (h : Fresh T base W xs x) : Ne2 x (some W.heap.size) ∧ Ne2 (some W.heap.size) x := by
  cases x with
  | none => exact ⟨trivial, trivial⟩
  | some g => have := h.2.lt; exact ⟨(by show g ≠ _; omega), (by show _ ≠ g; omega)⟩
theorem Inv.step {base g : Nat} {w W W1 : World} {s : Hs} {x2 x3 x4 : Option Nat} (h : Inv base w g s W x2 x3 x4) (hb : Below W.heap.size W W1) (hB : base ≤ W.heap.size) : Inv base w g s W1 x2 x3 x4 :=
  ⟨h.below.trans (hb.mono hB), (hb.block g (blk_lt h.hat)).trans h.hat, h.f2.step hb, h.f3.step hb, h.f4.step hb, h.n23, h.n24, h.n34⟩
def mx0T : Bool × List (List Nat × List Nat) := (true, [([], []), ([], []), ([1], [1]), ([2], [2]), ([3, 0], [3]), ([], []), ([5], [5]), ([6], [6]), ([7], [7]), ([], []), ([], []), ([], []), ([9, 0, 4, 0, 9, 10, 11], [0, 9]), ([10, 4, 12, 0, 1, 2, 3, 4, 9, 10, 11, 12], [4, 10]), ([11, 8, 13, 0, 1, 2, 3, 4, 5, 6, 7, 8, 9, 10, 11, 12, 13], [8, 11])])
def mx0B : List Nat := [0, 0, 2, 6, 15, 0, 32, 96, 224, 0, 0, 0, 3615, 7711, 16383]
theorem mx0tab : rtab .any (opsOf Try.f49 0) = mx0T := by kernel_rfl
theorem mx0bits : waitsOk mx0T.2 mx0B = true := by kernel_rfl
def A (a : Act) (v11 v15 v2 v3 v4 : Value) : Act := { a with tmps := ((((a.tmps.setIfInBounds 11 v11).setIfInBounds 15 v15).setIfInBounds 2 v2).setIfInBounds 3 v3).setIfInBounds 4 v4 }
theorem A_put11 (a : Act) (v11 v15 v2 v3 v4 x : Value) : (A a v11 v15 v2 v3 v4).put (some 11) x = A a x v15 v2 v3 v4 := by
  unfold A Act.put
  dsimp only
  rw [Array.setIfInBounds_comm (i := 4) (j := 11) _ _ (by decide)]
  rw [Array.setIfInBounds_comm (i := 3) (j := 11) _ _ (by decide)]
  rw [Array.setIfInBounds_comm (i := 2) (j := 11) _ _ (by decide)]
  rw [Array.setIfInBounds_comm (i := 15) (j := 11) _ _ (by decide)]
  rw [Array.setIfInBounds_setIfInBounds]
theorem A_put15 (a : Act) (v11 v15 v2 v3 v4 x : Value) : (A a v11 v15 v2 v3 v4).put (some 15) x = A a v11 x v2 v3 v4 := by
  unfold A Act.put
  dsimp only
  rw [Array.setIfInBounds_comm (i := 4) (j := 15) _ _ (by decide)]
  rw [Array.setIfInBounds_comm (i := 3) (j := 15) _ _ (by decide)]
  rw [Array.setIfInBounds_comm (i := 2) (j := 15) _ _ (by decide)]
  rw [Array.setIfInBounds_setIfInBounds]
theorem A_put2 (a : Act) (v11 v15 v2 v3 v4 x : Value) : (A a v11 v15 v2 v3 v4).put (some 2) x = A a v11 v15 x v3 v4 := by
  unfold A Act.put
  dsimp only
  rw [Array.setIfInBounds_comm (i := 4) (j := 2) _ _ (by decide)]
  rw [Array.setIfInBounds_comm (i := 3) (j := 2) _ _ (by decide)]
  rw [Array.setIfInBounds_setIfInBounds]
theorem A_put3 (a : Act) (v11 v15 v2 v3 v4 x : Value) : (A a v11 v15 v2 v3 v4).put (some 3) x = A a v11 v15 v2 x v4 := by
  unfold A Act.put
  dsimp only
  rw [Array.setIfInBounds_comm (i := 4) (j := 3) _ _ (by decide)]
  rw [Array.setIfInBounds_setIfInBounds]
theorem A_put4 (a : Act) (v11 v15 v2 v3 v4 x : Value) : (A a v11 v15 v2 v3 v4).put (some 4) x = A a v11 v15 v2 v3 x := by
  unfold A Act.put
  dsimp only
  rw [Array.setIfInBounds_setIfInBounds]
theorem A14 (a : Act) (v11 v15 v2 v3 v4 : Value) : (A a v11 v15 v2 v3 v4).eval (.tmp 14) = a.tmps.getD 14 undef := by
  unfold A
  simp [Act.eval, Array.getD_eq_getD_getElem?, Array.getElem?_setIfInBounds]
theorem wanted_on {o : Oper} {y : Nat → Option Bool} (h : o.guard = none) : Region.wanted o y = true := by unfold Region.wanted; rw [h]

theorem Hat.cells {w : World} {g : Nat} {s : Hs} (h : Hat w g s) (hst : s.st.length = 8) (hsw : s.wait.length = 64) : True := trivial
theorem addr_add (g o j : Nat) : (⟨g, o, none⟩ : Addr).add j = ⟨g, o + j, none⟩ := by unfold Addr.add; split <;> simp_all
theorem Hat.loadst {w : World} {g : Nat} {s : Hs} (h : Hat w g s) (hst : s.st.length = 8) : (Instr.loadAt 77 (.pointer (some ⟨g, 1, none⟩))).run Try.prog w = .ok (.agg (nums .u32 s.st).toArray) w := by
  refine run_loadVar_at ⟨g, 1, none⟩ 77 (nums .u32 s.st) _ (fun j v hv => ?_) Try.underlying77 rfl (by rw [sz77, nums_length, hst])
  rw [addr_add, blk_cell h]
  have hj : j < (nums .u32 s.st).length := (List.getElem?_eq_some_iff.1 hv).1
  show (hcells s).toArray[1 + j]? = some v
  rw [List.getElem?_toArray, hcells, Nat.add_comm, List.getElem?_cons_succ, List.getElem?_append_left hj, hv]
theorem Hat.waits {w : World} {g : Nat} {s : Hs} (h : Hat w g s) (hst : s.st.length = 8) (hsw : s.wait.length = 64) (j : Nat) (hj : j < 64) : w.cell? ⟨g, 9 + j, none⟩ = some (.int .u8 (s.wait.getD j 0)) := by
  rw [blk_cell h]
  show (hcells s).toArray[9 + j]? = _
  rw [List.getElem?_toArray, hcells, show 9 + j = (8 + j) + 1 from by omega, List.getElem?_cons_succ, List.getElem?_append_right (by rw [nums_length, hst]; omega), nums_length, hst, show 8 + j - 8 = j from by omega, List.getElem?_append_left (by rw [nums_length]; omega)]
  simp [nums, List.getD_eq_getElem?_getD, List.getElem?_eq_getElem (show j < s.wait.length by omega)]
theorem Inv.new2 {base g : Nat} {w W : World} {s : Hs} {x3 x4 : Option Nat} (h : Inv base w g s W none x3 x4) (hB : base ≤ W.heap.size) : Inv base w g s (W.alloc (.cells (nums .u32 zero85).toArray 85)) (some W.heap.size) x3 x4 := by
  have h' := h.step ((Below.refl W.heap.size W).alloc (Nat.le_refl _) (.cells (nums .u32 zero85).toArray 85)) hB
  exact ⟨h'.below, h'.hat, ⟨hB, alloc_Rw W zero85⟩, h'.f3, h'.f4, h.f3.ne.2, h.f4.ne.2, h.n34⟩
theorem Inv.new3 {base g : Nat} {w W : World} {s : Hs} {x2 x4 : Option Nat} (h : Inv base w g s W x2 none x4) (hB : base ≤ W.heap.size) : Inv base w g s (W.alloc (.cells (nums .u32 zero85).toArray 85)) x2 (some W.heap.size) x4 := by
  have h' := h.step ((Below.refl W.heap.size W).alloc (Nat.le_refl _) (.cells (nums .u32 zero85).toArray 85)) hB
  exact ⟨h'.below, h'.hat, h'.f2, ⟨hB, alloc_Rw W zero85⟩, h'.f4, h.f2.ne.1, h.n24, h.f4.ne.2⟩
theorem Inv.new4 {base g : Nat} {w W : World} {s : Hs} {x2 x3 : Option Nat} (h : Inv base w g s W x2 x3 none) (hB : base ≤ W.heap.size) : Inv base w g s (W.alloc (.cells (nums .u32 zero77).toArray 77)) x2 x3 (some W.heap.size) := by
  have h' := h.step ((Below.refl W.heap.size W).alloc (Nat.le_refl _) (.cells (nums .u32 zero77).toArray 77)) hB
  exact ⟨h'.below, h'.hat, h'.f2, h'.f3, ⟨hB, alloc_Rw W zero77⟩, h.n23, h.f2.ne.1, h.f3.ne.1⟩
theorem sched_len (b : List Int) (p : Nat) : (sched b p).length = 16 + p := by
  induction p with
  | zero => simp [sched]
  | succ p ih => simp [sched, ih]; omega
theorem sched_sz (b : List Int) : (nums .u32 (sched b 48)).toArray.size = 64 := by simp [nums, sched_len]

set_option maxHeartbeats 4000000 in
theorem makers {ops : Array Oper} {Q : Exit → Act → World → Prop} {a : Act} {w : World} {g : Nat} {s : Hs} (hst : s.st.length = 8) (hsw : s.wait.length = 64) (HT_ : rtab .any ops = mx0T)
    {o0 o4 o9 o10 o11 : Oper} (h0 : ops[0]? = some o0) (h4 : ops[4]? = some o4) (h9 : ops[9]? = some o9) (h10 : ops[10]? = some o10) (h11 : ops[11]? = some o11)
    (d0 : o0.dst = some 11) (d4 : o4.dst = some 15) (d9 : o9.dst = some 2) (d10 : o10.dst = some 3) (d11 : o11.dst = some 4)
    (w0 : o0.guard = none) (w4 : o4.guard = none) (w9 : o9.guard = none) (w10 : o10.guard = none) (w11 : o11.guard = none)
    (p0 : o0.op = .call { callee := .value (.func 52), args := #[], argTypes := #[] }) (p4 : o4.op = .call { callee := .value (.func 53), args := #[.tmp 14], argTypes := #[88] })
    (p9 : o9.op = .alloc 85) (p10 : o10.op = .alloc 85) (p11 : o11.op = .alloc 77) (e14 : a.tmps.getD 14 undef = .pointer (some ⟨g, 9, none⟩)) {W0 : World} (hB0 : Below w.heap.size w W0) (hH0 : Hat W0 g s)
    (hfin : ∀ (W : World) (g2 g3 g4 : Nat), Inv w.heap.size w g s W (some g2) (some g3) (some g4) → wpAnyLast Try.prog .any ops Q (fun W_ => Below w.heap.size w W_ ∧ Hat W_ g s) [] 3 #[true, true, true, true, true, true, true, true, true, true, true, true, false, false, false] (A a (.agg (nums .u32 keyL).toArray) (.agg (nums .u32 (sched s.wait 48)).toArray) (pv g2) (pv g3) (pv g4)) W) :
    wpAnyLast Try.prog .any ops Q (fun W_ => Below w.heap.size w W_ ∧ Hat W_ g s) [] 8 #[false, true, true, true, false, true, true, true, true, false, false, false, false, false, false] (A a undef undef undef undef undef) W0 := by
  have P2111 : ∀ (W : World) (g2 g3 g4 : Nat), Inv w.heap.size w g s W (some g2) (some g3) (some g4) → wpAnyLast Try.prog .any ops Q (fun W_ => Below w.heap.size w W_ ∧ Hat W_ g s) [] 3 #[true, true, true, true, true, true, true, true, true, true, true, true, false, false, false] (A a (.agg (nums .u32 keyL).toArray) (.agg (nums .u32 (sched s.wait 48)).toArray) (pv g2) (pv g3) (pv g4)) W := by
    intro W g2 g3 g4 hI
    exact hfin W g2 g3 g4 hI
  have P1111 : ∀ (W : World) (g2 g3 g4 : Nat), Inv w.heap.size w g s W (some g2) (some g3) (some g4) → wpAnyLast Try.prog .any ops Q (fun W_ => Below w.heap.size w W_ ∧ Hat W_ g s) [] 4 #[true, true, true, true, false, true, true, true, true, true, true, true, false, false, false] (A a (.agg (nums .u32 keyL).toArray) undef (pv g2) (pv g3) (pv g4)) W := by
    intro W g2 g3 g4 hI
    refine one_ (i := 4) (N := some 15) #[true, true, true, true, true, true, true, true, true, true, true, true, false, false, false] h4 d4 (one_of HT_ (by kernel_rfl)) (by simp) (fun K hK => ?_)
    · skip
      refine goes_ Try.func53 (by kernel_rfl) rfl #[.pointer (some ⟨g, 9, none⟩)] (wanted_on w4) d4 p4 (by simp [A14, e14]) ?_
      refine (spread_calls W g s.wait (Hat.waits hI.hat hst hsw)).mono ?_
      rintro _ W1 ⟨rfl, hb⟩
      have hJ := hI.step hb hI.below.size
      refine ⟨_, rfl, ?_⟩
      refine hK.out _ _ ⟨hJ.below, hJ.hat⟩ (fun _ => ?_)
      exact norm_ (A_put15 ..) (P2111 _ g2 g3 g4 hJ)
  have P2011 : ∀ (W : World) (g3 g4 : Nat), Inv w.heap.size w g s W none (some g3) (some g4) → wpAnyLast Try.prog .any ops Q (fun W_ => Below w.heap.size w W_ ∧ Hat W_ g s) [] 4 #[true, true, true, true, true, true, true, true, true, false, true, true, false, false, false] (A a (.agg (nums .u32 keyL).toArray) (.agg (nums .u32 (sched s.wait 48)).toArray) undef (pv g3) (pv g4)) W := by
    intro W g3 g4 hI
    refine one_ (i := 9) (N := some 2) #[true, true, true, true, true, true, true, true, true, true, true, true, false, false, false] h9 d9 (one_of HT_ (by kernel_rfl)) (by simp) (fun K hK => ?_)
    · skip
      refine value_ (w1 := W.alloc (.cells (nums .u32 zero85).toArray 85)) (v := pv W.heap.size) (wanted_on w9) d9 (alloc_run W 85 p9 _ z85) ?_
      have hJ := hI.new2 hI.below.size
      refine hK.out _ _ ⟨hJ.below, hJ.hat⟩ (fun _ => ?_)
      exact norm_ (A_put2 ..) (P2111 _ W.heap.size g3 g4 hJ)
  have P2101 : ∀ (W : World) (g2 g4 : Nat), Inv w.heap.size w g s W (some g2) none (some g4) → wpAnyLast Try.prog .any ops Q (fun W_ => Below w.heap.size w W_ ∧ Hat W_ g s) [] 4 #[true, true, true, true, true, true, true, true, true, true, false, true, false, false, false] (A a (.agg (nums .u32 keyL).toArray) (.agg (nums .u32 (sched s.wait 48)).toArray) (pv g2) undef (pv g4)) W := by
    intro W g2 g4 hI
    refine one_ (i := 10) (N := some 3) #[true, true, true, true, true, true, true, true, true, true, true, true, false, false, false] h10 d10 (one_of HT_ (by kernel_rfl)) (by simp) (fun K hK => ?_)
    · skip
      refine value_ (w1 := W.alloc (.cells (nums .u32 zero85).toArray 85)) (v := pv W.heap.size) (wanted_on w10) d10 (alloc_run W 85 p10 _ z85) ?_
      have hJ := hI.new3 hI.below.size
      refine hK.out _ _ ⟨hJ.below, hJ.hat⟩ (fun _ => ?_)
      exact norm_ (A_put3 ..) (P2111 _ g2 W.heap.size g4 hJ)
  have P2110 : ∀ (W : World) (g2 g3 : Nat), Inv w.heap.size w g s W (some g2) (some g3) none → wpAnyLast Try.prog .any ops Q (fun W_ => Below w.heap.size w W_ ∧ Hat W_ g s) [] 4 #[true, true, true, true, true, true, true, true, true, true, true, false, false, false, false] (A a (.agg (nums .u32 keyL).toArray) (.agg (nums .u32 (sched s.wait 48)).toArray) (pv g2) (pv g3) undef) W := by
    intro W g2 g3 hI
    refine one_ (i := 11) (N := some 4) #[true, true, true, true, true, true, true, true, true, true, true, true, false, false, false] h11 d11 (one_of HT_ (by kernel_rfl)) (by simp) (fun K hK => ?_)
    · skip
      refine value_ (w1 := W.alloc (.cells (nums .u32 zero77).toArray 77)) (v := pv W.heap.size) (wanted_on w11) d11 (alloc_run W 77 p11 _ z77) ?_
      have hJ := hI.new4 hI.below.size
      refine hK.out _ _ ⟨hJ.below, hJ.hat⟩ (fun _ => ?_)
      exact norm_ (A_put4 ..) (P2111 _ g2 g3 W.heap.size hJ)
  have P0111 : ∀ (W : World) (g2 g3 g4 : Nat), Inv w.heap.size w g s W (some g2) (some g3) (some g4) → wpAnyLast Try.prog .any ops Q (fun W_ => Below w.heap.size w W_ ∧ Hat W_ g s) [] 5 #[false, true, true, true, false, true, true, true, true, true, true, true, false, false, false] (A a undef undef (pv g2) (pv g3) (pv g4)) W := by
    intro W g2 g3 g4 hI
    refine one_ (i := 0) (N := some 11) #[true, true, true, true, false, true, true, true, true, true, true, true, false, false, false] h0 d0 (one_of HT_ (by kernel_rfl)) (by simp) (fun K hK => ?_)
    · skip
      refine goes_ Try.func52 (by kernel_rfl) rfl #[] (wanted_on w0) d0 p0 (by simp) ?_
      refine (primes_calls W).mono ?_
      rintro _ W1 ⟨rfl, hb⟩
      have hJ := hI.step hb hI.below.size
      refine ⟨_, rfl, ?_⟩
      refine hK.out _ _ ⟨hJ.below, hJ.hat⟩ (fun _ => ?_)
      exact norm_ (A_put11 ..) (P1111 _ g2 g3 g4 hJ)
  have P1011 : ∀ (W : World) (g3 g4 : Nat), Inv w.heap.size w g s W none (some g3) (some g4) → wpAnyLast Try.prog .any ops Q (fun W_ => Below w.heap.size w W_ ∧ Hat W_ g s) [] 5 #[true, true, true, true, false, true, true, true, true, false, true, true, false, false, false] (A a (.agg (nums .u32 keyL).toArray) undef undef (pv g3) (pv g4)) W := by
    intro W g3 g4 hI
    refine two_ (i := 4) (j := 9) (Ni := some 15) (Nj := some 2) #[true, true, true, true, true, true, true, true, true, false, true, true, false, false, false] #[true, true, true, true, false, true, true, true, true, true, true, true, false, false, false] h4 h9 d4 d9 (two_of HT_ (by kernel_rfl)) (by simp) (by simp) (fun K hK => ?_) (fun K hK => ?_)
    · skip
      refine goes_ Try.func53 (by kernel_rfl) rfl #[.pointer (some ⟨g, 9, none⟩)] (wanted_on w4) d4 p4 (by simp [A14, e14]) ?_
      refine (spread_calls W g s.wait (Hat.waits hI.hat hst hsw)).mono ?_
      rintro _ W1 ⟨rfl, hb⟩
      have hJ := hI.step hb hI.below.size
      refine ⟨_, rfl, ?_⟩
      refine hK.out _ _ ⟨hJ.below, hJ.hat⟩ (fun _ => ?_)
      exact norm_ (A_put15 ..) (P2011 _ g3 g4 hJ)
    · skip
      refine value_ (w1 := W.alloc (.cells (nums .u32 zero85).toArray 85)) (v := pv W.heap.size) (wanted_on w9) d9 (alloc_run W 85 p9 _ z85) ?_
      have hJ := hI.new2 hI.below.size
      refine hK.out _ _ ⟨hJ.below, hJ.hat⟩ (fun _ => ?_)
      exact norm_ (A_put2 ..) (P1111 _ W.heap.size g3 g4 hJ)
  have P1101 : ∀ (W : World) (g2 g4 : Nat), Inv w.heap.size w g s W (some g2) none (some g4) → wpAnyLast Try.prog .any ops Q (fun W_ => Below w.heap.size w W_ ∧ Hat W_ g s) [] 5 #[true, true, true, true, false, true, true, true, true, true, false, true, false, false, false] (A a (.agg (nums .u32 keyL).toArray) undef (pv g2) undef (pv g4)) W := by
    intro W g2 g4 hI
    refine two_ (i := 4) (j := 10) (Ni := some 15) (Nj := some 3) #[true, true, true, true, true, true, true, true, true, true, false, true, false, false, false] #[true, true, true, true, false, true, true, true, true, true, true, true, false, false, false] h4 h10 d4 d10 (two_of HT_ (by kernel_rfl)) (by simp) (by simp) (fun K hK => ?_) (fun K hK => ?_)
    · skip
      refine goes_ Try.func53 (by kernel_rfl) rfl #[.pointer (some ⟨g, 9, none⟩)] (wanted_on w4) d4 p4 (by simp [A14, e14]) ?_
      refine (spread_calls W g s.wait (Hat.waits hI.hat hst hsw)).mono ?_
      rintro _ W1 ⟨rfl, hb⟩
      have hJ := hI.step hb hI.below.size
      refine ⟨_, rfl, ?_⟩
      refine hK.out _ _ ⟨hJ.below, hJ.hat⟩ (fun _ => ?_)
      exact norm_ (A_put15 ..) (P2101 _ g2 g4 hJ)
    · skip
      refine value_ (w1 := W.alloc (.cells (nums .u32 zero85).toArray 85)) (v := pv W.heap.size) (wanted_on w10) d10 (alloc_run W 85 p10 _ z85) ?_
      have hJ := hI.new3 hI.below.size
      refine hK.out _ _ ⟨hJ.below, hJ.hat⟩ (fun _ => ?_)
      exact norm_ (A_put3 ..) (P1111 _ g2 W.heap.size g4 hJ)
  have P1110 : ∀ (W : World) (g2 g3 : Nat), Inv w.heap.size w g s W (some g2) (some g3) none → wpAnyLast Try.prog .any ops Q (fun W_ => Below w.heap.size w W_ ∧ Hat W_ g s) [] 5 #[true, true, true, true, false, true, true, true, true, true, true, false, false, false, false] (A a (.agg (nums .u32 keyL).toArray) undef (pv g2) (pv g3) undef) W := by
    intro W g2 g3 hI
    refine two_ (i := 4) (j := 11) (Ni := some 15) (Nj := some 4) #[true, true, true, true, true, true, true, true, true, true, true, false, false, false, false] #[true, true, true, true, false, true, true, true, true, true, true, true, false, false, false] h4 h11 d4 d11 (two_of HT_ (by kernel_rfl)) (by simp) (by simp) (fun K hK => ?_) (fun K hK => ?_)
    · skip
      refine goes_ Try.func53 (by kernel_rfl) rfl #[.pointer (some ⟨g, 9, none⟩)] (wanted_on w4) d4 p4 (by simp [A14, e14]) ?_
      refine (spread_calls W g s.wait (Hat.waits hI.hat hst hsw)).mono ?_
      rintro _ W1 ⟨rfl, hb⟩
      have hJ := hI.step hb hI.below.size
      refine ⟨_, rfl, ?_⟩
      refine hK.out _ _ ⟨hJ.below, hJ.hat⟩ (fun _ => ?_)
      exact norm_ (A_put15 ..) (P2110 _ g2 g3 hJ)
    · skip
      refine value_ (w1 := W.alloc (.cells (nums .u32 zero77).toArray 77)) (v := pv W.heap.size) (wanted_on w11) d11 (alloc_run W 77 p11 _ z77) ?_
      have hJ := hI.new4 hI.below.size
      refine hK.out _ _ ⟨hJ.below, hJ.hat⟩ (fun _ => ?_)
      exact norm_ (A_put4 ..) (P1111 _ g2 g3 W.heap.size hJ)
  have P2001 : ∀ (W : World) (g4 : Nat), Inv w.heap.size w g s W none none (some g4) → wpAnyLast Try.prog .any ops Q (fun W_ => Below w.heap.size w W_ ∧ Hat W_ g s) [] 5 #[true, true, true, true, true, true, true, true, true, false, false, true, false, false, false] (A a (.agg (nums .u32 keyL).toArray) (.agg (nums .u32 (sched s.wait 48)).toArray) undef undef (pv g4)) W := by
    intro W g4 hI
    refine two_ (i := 9) (j := 10) (Ni := some 2) (Nj := some 3) #[true, true, true, true, true, true, true, true, true, true, false, true, false, false, false] #[true, true, true, true, true, true, true, true, true, false, true, true, false, false, false] h9 h10 d9 d10 (two_of HT_ (by kernel_rfl)) (by simp) (by simp) (fun K hK => ?_) (fun K hK => ?_)
    · skip
      refine value_ (w1 := W.alloc (.cells (nums .u32 zero85).toArray 85)) (v := pv W.heap.size) (wanted_on w9) d9 (alloc_run W 85 p9 _ z85) ?_
      have hJ := hI.new2 hI.below.size
      refine hK.out _ _ ⟨hJ.below, hJ.hat⟩ (fun _ => ?_)
      exact norm_ (A_put2 ..) (P2101 _ W.heap.size g4 hJ)
    · skip
      refine value_ (w1 := W.alloc (.cells (nums .u32 zero85).toArray 85)) (v := pv W.heap.size) (wanted_on w10) d10 (alloc_run W 85 p10 _ z85) ?_
      have hJ := hI.new3 hI.below.size
      refine hK.out _ _ ⟨hJ.below, hJ.hat⟩ (fun _ => ?_)
      exact norm_ (A_put3 ..) (P2011 _ W.heap.size g4 hJ)
  have P2010 : ∀ (W : World) (g3 : Nat), Inv w.heap.size w g s W none (some g3) none → wpAnyLast Try.prog .any ops Q (fun W_ => Below w.heap.size w W_ ∧ Hat W_ g s) [] 5 #[true, true, true, true, true, true, true, true, true, false, true, false, false, false, false] (A a (.agg (nums .u32 keyL).toArray) (.agg (nums .u32 (sched s.wait 48)).toArray) undef (pv g3) undef) W := by
    intro W g3 hI
    refine two_ (i := 9) (j := 11) (Ni := some 2) (Nj := some 4) #[true, true, true, true, true, true, true, true, true, true, true, false, false, false, false] #[true, true, true, true, true, true, true, true, true, false, true, true, false, false, false] h9 h11 d9 d11 (two_of HT_ (by kernel_rfl)) (by simp) (by simp) (fun K hK => ?_) (fun K hK => ?_)
    · skip
      refine value_ (w1 := W.alloc (.cells (nums .u32 zero85).toArray 85)) (v := pv W.heap.size) (wanted_on w9) d9 (alloc_run W 85 p9 _ z85) ?_
      have hJ := hI.new2 hI.below.size
      refine hK.out _ _ ⟨hJ.below, hJ.hat⟩ (fun _ => ?_)
      exact norm_ (A_put2 ..) (P2110 _ W.heap.size g3 hJ)
    · skip
      refine value_ (w1 := W.alloc (.cells (nums .u32 zero77).toArray 77)) (v := pv W.heap.size) (wanted_on w11) d11 (alloc_run W 77 p11 _ z77) ?_
      have hJ := hI.new4 hI.below.size
      refine hK.out _ _ ⟨hJ.below, hJ.hat⟩ (fun _ => ?_)
      exact norm_ (A_put4 ..) (P2011 _ g3 W.heap.size hJ)
  have P2100 : ∀ (W : World) (g2 : Nat), Inv w.heap.size w g s W (some g2) none none → wpAnyLast Try.prog .any ops Q (fun W_ => Below w.heap.size w W_ ∧ Hat W_ g s) [] 5 #[true, true, true, true, true, true, true, true, true, true, false, false, false, false, false] (A a (.agg (nums .u32 keyL).toArray) (.agg (nums .u32 (sched s.wait 48)).toArray) (pv g2) undef undef) W := by
    intro W g2 hI
    refine two_ (i := 10) (j := 11) (Ni := some 3) (Nj := some 4) #[true, true, true, true, true, true, true, true, true, true, true, false, false, false, false] #[true, true, true, true, true, true, true, true, true, true, false, true, false, false, false] h10 h11 d10 d11 (two_of HT_ (by kernel_rfl)) (by simp) (by simp) (fun K hK => ?_) (fun K hK => ?_)
    · skip
      refine value_ (w1 := W.alloc (.cells (nums .u32 zero85).toArray 85)) (v := pv W.heap.size) (wanted_on w10) d10 (alloc_run W 85 p10 _ z85) ?_
      have hJ := hI.new3 hI.below.size
      refine hK.out _ _ ⟨hJ.below, hJ.hat⟩ (fun _ => ?_)
      exact norm_ (A_put3 ..) (P2110 _ g2 W.heap.size hJ)
    · skip
      refine value_ (w1 := W.alloc (.cells (nums .u32 zero77).toArray 77)) (v := pv W.heap.size) (wanted_on w11) d11 (alloc_run W 77 p11 _ z77) ?_
      have hJ := hI.new4 hI.below.size
      refine hK.out _ _ ⟨hJ.below, hJ.hat⟩ (fun _ => ?_)
      exact norm_ (A_put4 ..) (P2101 _ g2 W.heap.size hJ)
  have P0011 : ∀ (W : World) (g3 g4 : Nat), Inv w.heap.size w g s W none (some g3) (some g4) → wpAnyLast Try.prog .any ops Q (fun W_ => Below w.heap.size w W_ ∧ Hat W_ g s) [] 6 #[false, true, true, true, false, true, true, true, true, false, true, true, false, false, false] (A a undef undef undef (pv g3) (pv g4)) W := by
    intro W g3 g4 hI
    refine two_ (i := 0) (j := 9) (Ni := some 11) (Nj := some 2) #[true, true, true, true, false, true, true, true, true, false, true, true, false, false, false] #[false, true, true, true, false, true, true, true, true, true, true, true, false, false, false] h0 h9 d0 d9 (two_of HT_ (by kernel_rfl)) (by simp) (by simp) (fun K hK => ?_) (fun K hK => ?_)
    · skip
      refine goes_ Try.func52 (by kernel_rfl) rfl #[] (wanted_on w0) d0 p0 (by simp) ?_
      refine (primes_calls W).mono ?_
      rintro _ W1 ⟨rfl, hb⟩
      have hJ := hI.step hb hI.below.size
      refine ⟨_, rfl, ?_⟩
      refine hK.out _ _ ⟨hJ.below, hJ.hat⟩ (fun _ => ?_)
      exact norm_ (A_put11 ..) (P1011 _ g3 g4 hJ)
    · skip
      refine value_ (w1 := W.alloc (.cells (nums .u32 zero85).toArray 85)) (v := pv W.heap.size) (wanted_on w9) d9 (alloc_run W 85 p9 _ z85) ?_
      have hJ := hI.new2 hI.below.size
      refine hK.out _ _ ⟨hJ.below, hJ.hat⟩ (fun _ => ?_)
      exact norm_ (A_put2 ..) (P0111 _ W.heap.size g3 g4 hJ)
  have P0101 : ∀ (W : World) (g2 g4 : Nat), Inv w.heap.size w g s W (some g2) none (some g4) → wpAnyLast Try.prog .any ops Q (fun W_ => Below w.heap.size w W_ ∧ Hat W_ g s) [] 6 #[false, true, true, true, false, true, true, true, true, true, false, true, false, false, false] (A a undef undef (pv g2) undef (pv g4)) W := by
    intro W g2 g4 hI
    refine two_ (i := 0) (j := 10) (Ni := some 11) (Nj := some 3) #[true, true, true, true, false, true, true, true, true, true, false, true, false, false, false] #[false, true, true, true, false, true, true, true, true, true, true, true, false, false, false] h0 h10 d0 d10 (two_of HT_ (by kernel_rfl)) (by simp) (by simp) (fun K hK => ?_) (fun K hK => ?_)
    · skip
      refine goes_ Try.func52 (by kernel_rfl) rfl #[] (wanted_on w0) d0 p0 (by simp) ?_
      refine (primes_calls W).mono ?_
      rintro _ W1 ⟨rfl, hb⟩
      have hJ := hI.step hb hI.below.size
      refine ⟨_, rfl, ?_⟩
      refine hK.out _ _ ⟨hJ.below, hJ.hat⟩ (fun _ => ?_)
      exact norm_ (A_put11 ..) (P1101 _ g2 g4 hJ)
    · skip
      refine value_ (w1 := W.alloc (.cells (nums .u32 zero85).toArray 85)) (v := pv W.heap.size) (wanted_on w10) d10 (alloc_run W 85 p10 _ z85) ?_
      have hJ := hI.new3 hI.below.size
      refine hK.out _ _ ⟨hJ.below, hJ.hat⟩ (fun _ => ?_)
      exact norm_ (A_put3 ..) (P0111 _ g2 W.heap.size g4 hJ)
  have P0110 : ∀ (W : World) (g2 g3 : Nat), Inv w.heap.size w g s W (some g2) (some g3) none → wpAnyLast Try.prog .any ops Q (fun W_ => Below w.heap.size w W_ ∧ Hat W_ g s) [] 6 #[false, true, true, true, false, true, true, true, true, true, true, false, false, false, false] (A a undef undef (pv g2) (pv g3) undef) W := by
    intro W g2 g3 hI
    refine two_ (i := 0) (j := 11) (Ni := some 11) (Nj := some 4) #[true, true, true, true, false, true, true, true, true, true, true, false, false, false, false] #[false, true, true, true, false, true, true, true, true, true, true, true, false, false, false] h0 h11 d0 d11 (two_of HT_ (by kernel_rfl)) (by simp) (by simp) (fun K hK => ?_) (fun K hK => ?_)
    · skip
      refine goes_ Try.func52 (by kernel_rfl) rfl #[] (wanted_on w0) d0 p0 (by simp) ?_
      refine (primes_calls W).mono ?_
      rintro _ W1 ⟨rfl, hb⟩
      have hJ := hI.step hb hI.below.size
      refine ⟨_, rfl, ?_⟩
      refine hK.out _ _ ⟨hJ.below, hJ.hat⟩ (fun _ => ?_)
      exact norm_ (A_put11 ..) (P1110 _ g2 g3 hJ)
    · skip
      refine value_ (w1 := W.alloc (.cells (nums .u32 zero77).toArray 77)) (v := pv W.heap.size) (wanted_on w11) d11 (alloc_run W 77 p11 _ z77) ?_
      have hJ := hI.new4 hI.below.size
      refine hK.out _ _ ⟨hJ.below, hJ.hat⟩ (fun _ => ?_)
      exact norm_ (A_put4 ..) (P0111 _ g2 g3 W.heap.size hJ)
  have P1001 : ∀ (W : World) (g4 : Nat), Inv w.heap.size w g s W none none (some g4) → wpAnyLast Try.prog .any ops Q (fun W_ => Below w.heap.size w W_ ∧ Hat W_ g s) [] 6 #[true, true, true, true, false, true, true, true, true, false, false, true, false, false, false] (A a (.agg (nums .u32 keyL).toArray) undef undef undef (pv g4)) W := by
    intro W g4 hI
    refine three_ (i := 4) (j := 9) (k := 10) (Ni := some 15) (Nj := some 2) (Nk := some 3) #[true, true, true, true, true, true, true, true, true, false, false, true, false, false, false] #[true, true, true, true, false, true, true, true, true, true, false, true, false, false, false] #[true, true, true, true, false, true, true, true, true, false, true, true, false, false, false] h4 h9 h10 d4 d9 d10 (three_of HT_ (by kernel_rfl)) (by simp) (by simp) (by simp) (fun K hK => ?_) (fun K hK => ?_) (fun K hK => ?_)
    · skip
      refine goes_ Try.func53 (by kernel_rfl) rfl #[.pointer (some ⟨g, 9, none⟩)] (wanted_on w4) d4 p4 (by simp [A14, e14]) ?_
      refine (spread_calls W g s.wait (Hat.waits hI.hat hst hsw)).mono ?_
      rintro _ W1 ⟨rfl, hb⟩
      have hJ := hI.step hb hI.below.size
      refine ⟨_, rfl, ?_⟩
      refine hK.out _ _ ⟨hJ.below, hJ.hat⟩ (fun _ => ?_)
      exact norm_ (A_put15 ..) (P2001 _ g4 hJ)
    · skip
      refine value_ (w1 := W.alloc (.cells (nums .u32 zero85).toArray 85)) (v := pv W.heap.size) (wanted_on w9) d9 (alloc_run W 85 p9 _ z85) ?_
      have hJ := hI.new2 hI.below.size
      refine hK.out _ _ ⟨hJ.below, hJ.hat⟩ (fun _ => ?_)
      exact norm_ (A_put2 ..) (P1101 _ W.heap.size g4 hJ)
    · skip
      refine value_ (w1 := W.alloc (.cells (nums .u32 zero85).toArray 85)) (v := pv W.heap.size) (wanted_on w10) d10 (alloc_run W 85 p10 _ z85) ?_
      have hJ := hI.new3 hI.below.size
      refine hK.out _ _ ⟨hJ.below, hJ.hat⟩ (fun _ => ?_)
      exact norm_ (A_put3 ..) (P1011 _ W.heap.size g4 hJ)
  have P1010 : ∀ (W : World) (g3 : Nat), Inv w.heap.size w g s W none (some g3) none → wpAnyLast Try.prog .any ops Q (fun W_ => Below w.heap.size w W_ ∧ Hat W_ g s) [] 6 #[true, true, true, true, false, true, true, true, true, false, true, false, false, false, false] (A a (.agg (nums .u32 keyL).toArray) undef undef (pv g3) undef) W := by
    intro W g3 hI
    refine three_ (i := 4) (j := 9) (k := 11) (Ni := some 15) (Nj := some 2) (Nk := some 4) #[true, true, true, true, true, true, true, true, true, false, true, false, false, false, false] #[true, true, true, true, false, true, true, true, true, true, true, false, false, false, false] #[true, true, true, true, false, true, true, true, true, false, true, true, false, false, false] h4 h9 h11 d4 d9 d11 (three_of HT_ (by kernel_rfl)) (by simp) (by simp) (by simp) (fun K hK => ?_) (fun K hK => ?_) (fun K hK => ?_)
    · skip
      refine goes_ Try.func53 (by kernel_rfl) rfl #[.pointer (some ⟨g, 9, none⟩)] (wanted_on w4) d4 p4 (by simp [A14, e14]) ?_
      refine (spread_calls W g s.wait (Hat.waits hI.hat hst hsw)).mono ?_
      rintro _ W1 ⟨rfl, hb⟩
      have hJ := hI.step hb hI.below.size
      refine ⟨_, rfl, ?_⟩
      refine hK.out _ _ ⟨hJ.below, hJ.hat⟩ (fun _ => ?_)
      exact norm_ (A_put15 ..) (P2010 _ g3 hJ)
    · skip
      refine value_ (w1 := W.alloc (.cells (nums .u32 zero85).toArray 85)) (v := pv W.heap.size) (wanted_on w9) d9 (alloc_run W 85 p9 _ z85) ?_
      have hJ := hI.new2 hI.below.size
      refine hK.out _ _ ⟨hJ.below, hJ.hat⟩ (fun _ => ?_)
      exact norm_ (A_put2 ..) (P1110 _ W.heap.size g3 hJ)
    · skip
      refine value_ (w1 := W.alloc (.cells (nums .u32 zero77).toArray 77)) (v := pv W.heap.size) (wanted_on w11) d11 (alloc_run W 77 p11 _ z77) ?_
      have hJ := hI.new4 hI.below.size
      refine hK.out _ _ ⟨hJ.below, hJ.hat⟩ (fun _ => ?_)
      exact norm_ (A_put4 ..) (P1011 _ g3 W.heap.size hJ)
  have P1100 : ∀ (W : World) (g2 : Nat), Inv w.heap.size w g s W (some g2) none none → wpAnyLast Try.prog .any ops Q (fun W_ => Below w.heap.size w W_ ∧ Hat W_ g s) [] 6 #[true, true, true, true, false, true, true, true, true, true, false, false, false, false, false] (A a (.agg (nums .u32 keyL).toArray) undef (pv g2) undef undef) W := by
    intro W g2 hI
    refine three_ (i := 4) (j := 10) (k := 11) (Ni := some 15) (Nj := some 3) (Nk := some 4) #[true, true, true, true, true, true, true, true, true, true, false, false, false, false, false] #[true, true, true, true, false, true, true, true, true, true, true, false, false, false, false] #[true, true, true, true, false, true, true, true, true, true, false, true, false, false, false] h4 h10 h11 d4 d10 d11 (three_of HT_ (by kernel_rfl)) (by simp) (by simp) (by simp) (fun K hK => ?_) (fun K hK => ?_) (fun K hK => ?_)
    · skip
      refine goes_ Try.func53 (by kernel_rfl) rfl #[.pointer (some ⟨g, 9, none⟩)] (wanted_on w4) d4 p4 (by simp [A14, e14]) ?_
      refine (spread_calls W g s.wait (Hat.waits hI.hat hst hsw)).mono ?_
      rintro _ W1 ⟨rfl, hb⟩
      have hJ := hI.step hb hI.below.size
      refine ⟨_, rfl, ?_⟩
      refine hK.out _ _ ⟨hJ.below, hJ.hat⟩ (fun _ => ?_)
      exact norm_ (A_put15 ..) (P2100 _ g2 hJ)
    · skip
      refine value_ (w1 := W.alloc (.cells (nums .u32 zero85).toArray 85)) (v := pv W.heap.size) (wanted_on w10) d10 (alloc_run W 85 p10 _ z85) ?_
      have hJ := hI.new3 hI.below.size
      refine hK.out _ _ ⟨hJ.below, hJ.hat⟩ (fun _ => ?_)
      exact norm_ (A_put3 ..) (P1110 _ g2 W.heap.size hJ)
    · skip
      refine value_ (w1 := W.alloc (.cells (nums .u32 zero77).toArray 77)) (v := pv W.heap.size) (wanted_on w11) d11 (alloc_run W 77 p11 _ z77) ?_
      have hJ := hI.new4 hI.below.size
      refine hK.out _ _ ⟨hJ.below, hJ.hat⟩ (fun _ => ?_)
      exact norm_ (A_put4 ..) (P1101 _ g2 W.heap.size hJ)
  have P2000 : ∀ (W : World) , Inv w.heap.size w g s W none none none → wpAnyLast Try.prog .any ops Q (fun W_ => Below w.heap.size w W_ ∧ Hat W_ g s) [] 6 #[true, true, true, true, true, true, true, true, true, false, false, false, false, false, false] (A a (.agg (nums .u32 keyL).toArray) (.agg (nums .u32 (sched s.wait 48)).toArray) undef undef undef) W := by
    intro W  hI
    refine three_ (i := 9) (j := 10) (k := 11) (Ni := some 2) (Nj := some 3) (Nk := some 4) #[true, true, true, true, true, true, true, true, true, true, false, false, false, false, false] #[true, true, true, true, true, true, true, true, true, false, true, false, false, false, false] #[true, true, true, true, true, true, true, true, true, false, false, true, false, false, false] h9 h10 h11 d9 d10 d11 (three_of HT_ (by kernel_rfl)) (by simp) (by simp) (by simp) (fun K hK => ?_) (fun K hK => ?_) (fun K hK => ?_)
    · skip
      refine value_ (w1 := W.alloc (.cells (nums .u32 zero85).toArray 85)) (v := pv W.heap.size) (wanted_on w9) d9 (alloc_run W 85 p9 _ z85) ?_
      have hJ := hI.new2 hI.below.size
      refine hK.out _ _ ⟨hJ.below, hJ.hat⟩ (fun _ => ?_)
      exact norm_ (A_put2 ..) (P2100 _ W.heap.size hJ)
    · skip
      refine value_ (w1 := W.alloc (.cells (nums .u32 zero85).toArray 85)) (v := pv W.heap.size) (wanted_on w10) d10 (alloc_run W 85 p10 _ z85) ?_
      have hJ := hI.new3 hI.below.size
      refine hK.out _ _ ⟨hJ.below, hJ.hat⟩ (fun _ => ?_)
      exact norm_ (A_put3 ..) (P2010 _ W.heap.size hJ)
    · skip
      refine value_ (w1 := W.alloc (.cells (nums .u32 zero77).toArray 77)) (v := pv W.heap.size) (wanted_on w11) d11 (alloc_run W 77 p11 _ z77) ?_
      have hJ := hI.new4 hI.below.size
      refine hK.out _ _ ⟨hJ.below, hJ.hat⟩ (fun _ => ?_)
      exact norm_ (A_put4 ..) (P2001 _ W.heap.size hJ)
  have P0001 : ∀ (W : World) (g4 : Nat), Inv w.heap.size w g s W none none (some g4) → wpAnyLast Try.prog .any ops Q (fun W_ => Below w.heap.size w W_ ∧ Hat W_ g s) [] 7 #[false, true, true, true, false, true, true, true, true, false, false, true, false, false, false] (A a undef undef undef undef (pv g4)) W := by
    intro W g4 hI
    refine three_ (i := 0) (j := 9) (k := 10) (Ni := some 11) (Nj := some 2) (Nk := some 3) #[true, true, true, true, false, true, true, true, true, false, false, true, false, false, false] #[false, true, true, true, false, true, true, true, true, true, false, true, false, false, false] #[false, true, true, true, false, true, true, true, true, false, true, true, false, false, false] h0 h9 h10 d0 d9 d10 (three_of HT_ (by kernel_rfl)) (by simp) (by simp) (by simp) (fun K hK => ?_) (fun K hK => ?_) (fun K hK => ?_)
    · skip
      refine goes_ Try.func52 (by kernel_rfl) rfl #[] (wanted_on w0) d0 p0 (by simp) ?_
      refine (primes_calls W).mono ?_
      rintro _ W1 ⟨rfl, hb⟩
      have hJ := hI.step hb hI.below.size
      refine ⟨_, rfl, ?_⟩
      refine hK.out _ _ ⟨hJ.below, hJ.hat⟩ (fun _ => ?_)
      exact norm_ (A_put11 ..) (P1001 _ g4 hJ)
    · skip
      refine value_ (w1 := W.alloc (.cells (nums .u32 zero85).toArray 85)) (v := pv W.heap.size) (wanted_on w9) d9 (alloc_run W 85 p9 _ z85) ?_
      have hJ := hI.new2 hI.below.size
      refine hK.out _ _ ⟨hJ.below, hJ.hat⟩ (fun _ => ?_)
      exact norm_ (A_put2 ..) (P0101 _ W.heap.size g4 hJ)
    · skip
      refine value_ (w1 := W.alloc (.cells (nums .u32 zero85).toArray 85)) (v := pv W.heap.size) (wanted_on w10) d10 (alloc_run W 85 p10 _ z85) ?_
      have hJ := hI.new3 hI.below.size
      refine hK.out _ _ ⟨hJ.below, hJ.hat⟩ (fun _ => ?_)
      exact norm_ (A_put3 ..) (P0011 _ W.heap.size g4 hJ)
  have P0010 : ∀ (W : World) (g3 : Nat), Inv w.heap.size w g s W none (some g3) none → wpAnyLast Try.prog .any ops Q (fun W_ => Below w.heap.size w W_ ∧ Hat W_ g s) [] 7 #[false, true, true, true, false, true, true, true, true, false, true, false, false, false, false] (A a undef undef undef (pv g3) undef) W := by
    intro W g3 hI
    refine three_ (i := 0) (j := 9) (k := 11) (Ni := some 11) (Nj := some 2) (Nk := some 4) #[true, true, true, true, false, true, true, true, true, false, true, false, false, false, false] #[false, true, true, true, false, true, true, true, true, true, true, false, false, false, false] #[false, true, true, true, false, true, true, true, true, false, true, true, false, false, false] h0 h9 h11 d0 d9 d11 (three_of HT_ (by kernel_rfl)) (by simp) (by simp) (by simp) (fun K hK => ?_) (fun K hK => ?_) (fun K hK => ?_)
    · skip
      refine goes_ Try.func52 (by kernel_rfl) rfl #[] (wanted_on w0) d0 p0 (by simp) ?_
      refine (primes_calls W).mono ?_
      rintro _ W1 ⟨rfl, hb⟩
      have hJ := hI.step hb hI.below.size
      refine ⟨_, rfl, ?_⟩
      refine hK.out _ _ ⟨hJ.below, hJ.hat⟩ (fun _ => ?_)
      exact norm_ (A_put11 ..) (P1010 _ g3 hJ)
    · skip
      refine value_ (w1 := W.alloc (.cells (nums .u32 zero85).toArray 85)) (v := pv W.heap.size) (wanted_on w9) d9 (alloc_run W 85 p9 _ z85) ?_
      have hJ := hI.new2 hI.below.size
      refine hK.out _ _ ⟨hJ.below, hJ.hat⟩ (fun _ => ?_)
      exact norm_ (A_put2 ..) (P0110 _ W.heap.size g3 hJ)
    · skip
      refine value_ (w1 := W.alloc (.cells (nums .u32 zero77).toArray 77)) (v := pv W.heap.size) (wanted_on w11) d11 (alloc_run W 77 p11 _ z77) ?_
      have hJ := hI.new4 hI.below.size
      refine hK.out _ _ ⟨hJ.below, hJ.hat⟩ (fun _ => ?_)
      exact norm_ (A_put4 ..) (P0011 _ g3 W.heap.size hJ)
  have P0100 : ∀ (W : World) (g2 : Nat), Inv w.heap.size w g s W (some g2) none none → wpAnyLast Try.prog .any ops Q (fun W_ => Below w.heap.size w W_ ∧ Hat W_ g s) [] 7 #[false, true, true, true, false, true, true, true, true, true, false, false, false, false, false] (A a undef undef (pv g2) undef undef) W := by
    intro W g2 hI
    refine three_ (i := 0) (j := 10) (k := 11) (Ni := some 11) (Nj := some 3) (Nk := some 4) #[true, true, true, true, false, true, true, true, true, true, false, false, false, false, false] #[false, true, true, true, false, true, true, true, true, true, true, false, false, false, false] #[false, true, true, true, false, true, true, true, true, true, false, true, false, false, false] h0 h10 h11 d0 d10 d11 (three_of HT_ (by kernel_rfl)) (by simp) (by simp) (by simp) (fun K hK => ?_) (fun K hK => ?_) (fun K hK => ?_)
    · skip
      refine goes_ Try.func52 (by kernel_rfl) rfl #[] (wanted_on w0) d0 p0 (by simp) ?_
      refine (primes_calls W).mono ?_
      rintro _ W1 ⟨rfl, hb⟩
      have hJ := hI.step hb hI.below.size
      refine ⟨_, rfl, ?_⟩
      refine hK.out _ _ ⟨hJ.below, hJ.hat⟩ (fun _ => ?_)
      exact norm_ (A_put11 ..) (P1100 _ g2 hJ)
    · skip
      refine value_ (w1 := W.alloc (.cells (nums .u32 zero85).toArray 85)) (v := pv W.heap.size) (wanted_on w10) d10 (alloc_run W 85 p10 _ z85) ?_
      have hJ := hI.new3 hI.below.size
      refine hK.out _ _ ⟨hJ.below, hJ.hat⟩ (fun _ => ?_)
      exact norm_ (A_put3 ..) (P0110 _ g2 W.heap.size hJ)
    · skip
      refine value_ (w1 := W.alloc (.cells (nums .u32 zero77).toArray 77)) (v := pv W.heap.size) (wanted_on w11) d11 (alloc_run W 77 p11 _ z77) ?_
      have hJ := hI.new4 hI.below.size
      refine hK.out _ _ ⟨hJ.below, hJ.hat⟩ (fun _ => ?_)
      exact norm_ (A_put4 ..) (P0101 _ g2 W.heap.size hJ)
  have P1000 : ∀ (W : World) , Inv w.heap.size w g s W none none none → wpAnyLast Try.prog .any ops Q (fun W_ => Below w.heap.size w W_ ∧ Hat W_ g s) [] 7 #[true, true, true, true, false, true, true, true, true, false, false, false, false, false, false] (A a (.agg (nums .u32 keyL).toArray) undef undef undef undef) W := by
    intro W  hI
    refine four_ (i := 4) (j := 9) (k := 10) (m := 11) (Ni := some 15) (Nj := some 2) (Nk := some 3) (Nm := some 4) #[true, true, true, true, true, true, true, true, true, false, false, false, false, false, false] #[true, true, true, true, false, true, true, true, true, true, false, false, false, false, false] #[true, true, true, true, false, true, true, true, true, false, true, false, false, false, false] #[true, true, true, true, false, true, true, true, true, false, false, true, false, false, false] h4 h9 h10 h11 d4 d9 d10 d11 (four_of HT_ (by kernel_rfl)) (by simp) (by simp) (by simp) (by simp) (fun K hK => ?_) (fun K hK => ?_) (fun K hK => ?_) (fun K hK => ?_)
    · skip
      refine goes_ Try.func53 (by kernel_rfl) rfl #[.pointer (some ⟨g, 9, none⟩)] (wanted_on w4) d4 p4 (by simp [A14, e14]) ?_
      refine (spread_calls W g s.wait (Hat.waits hI.hat hst hsw)).mono ?_
      rintro _ W1 ⟨rfl, hb⟩
      have hJ := hI.step hb hI.below.size
      refine ⟨_, rfl, ?_⟩
      refine hK.out _ _ ⟨hJ.below, hJ.hat⟩ (fun _ => ?_)
      exact norm_ (A_put15 ..) (P2000 _  hJ)
    · skip
      refine value_ (w1 := W.alloc (.cells (nums .u32 zero85).toArray 85)) (v := pv W.heap.size) (wanted_on w9) d9 (alloc_run W 85 p9 _ z85) ?_
      have hJ := hI.new2 hI.below.size
      refine hK.out _ _ ⟨hJ.below, hJ.hat⟩ (fun _ => ?_)
      exact norm_ (A_put2 ..) (P1100 _ W.heap.size hJ)
    · skip
      refine value_ (w1 := W.alloc (.cells (nums .u32 zero85).toArray 85)) (v := pv W.heap.size) (wanted_on w10) d10 (alloc_run W 85 p10 _ z85) ?_
      have hJ := hI.new3 hI.below.size
      refine hK.out _ _ ⟨hJ.below, hJ.hat⟩ (fun _ => ?_)
      exact norm_ (A_put3 ..) (P1010 _ W.heap.size hJ)
    · skip
      refine value_ (w1 := W.alloc (.cells (nums .u32 zero77).toArray 77)) (v := pv W.heap.size) (wanted_on w11) d11 (alloc_run W 77 p11 _ z77) ?_
      have hJ := hI.new4 hI.below.size
      refine hK.out _ _ ⟨hJ.below, hJ.hat⟩ (fun _ => ?_)
      exact norm_ (A_put4 ..) (P1001 _ W.heap.size hJ)
  have P0000 : ∀ (W : World) , Inv w.heap.size w g s W none none none → wpAnyLast Try.prog .any ops Q (fun W_ => Below w.heap.size w W_ ∧ Hat W_ g s) [] 8 #[false, true, true, true, false, true, true, true, true, false, false, false, false, false, false] (A a undef undef undef undef undef) W := by
    intro W  hI
    refine four_ (i := 0) (j := 9) (k := 10) (m := 11) (Ni := some 11) (Nj := some 2) (Nk := some 3) (Nm := some 4) #[true, true, true, true, false, true, true, true, true, false, false, false, false, false, false] #[false, true, true, true, false, true, true, true, true, true, false, false, false, false, false] #[false, true, true, true, false, true, true, true, true, false, true, false, false, false, false] #[false, true, true, true, false, true, true, true, true, false, false, true, false, false, false] h0 h9 h10 h11 d0 d9 d10 d11 (four_of HT_ (by kernel_rfl)) (by simp) (by simp) (by simp) (by simp) (fun K hK => ?_) (fun K hK => ?_) (fun K hK => ?_) (fun K hK => ?_)
    · skip
      refine goes_ Try.func52 (by kernel_rfl) rfl #[] (wanted_on w0) d0 p0 (by simp) ?_
      refine (primes_calls W).mono ?_
      rintro _ W1 ⟨rfl, hb⟩
      have hJ := hI.step hb hI.below.size
      refine ⟨_, rfl, ?_⟩
      refine hK.out _ _ ⟨hJ.below, hJ.hat⟩ (fun _ => ?_)
      exact norm_ (A_put11 ..) (P1000 _  hJ)
    · skip
      refine value_ (w1 := W.alloc (.cells (nums .u32 zero85).toArray 85)) (v := pv W.heap.size) (wanted_on w9) d9 (alloc_run W 85 p9 _ z85) ?_
      have hJ := hI.new2 hI.below.size
      refine hK.out _ _ ⟨hJ.below, hJ.hat⟩ (fun _ => ?_)
      exact norm_ (A_put2 ..) (P0100 _ W.heap.size hJ)
    · skip
      refine value_ (w1 := W.alloc (.cells (nums .u32 zero85).toArray 85)) (v := pv W.heap.size) (wanted_on w10) d10 (alloc_run W 85 p10 _ z85) ?_
      have hJ := hI.new3 hI.below.size
      refine hK.out _ _ ⟨hJ.below, hJ.hat⟩ (fun _ => ?_)
      exact norm_ (A_put3 ..) (P0010 _ W.heap.size hJ)
    · skip
      refine value_ (w1 := W.alloc (.cells (nums .u32 zero77).toArray 77)) (v := pv W.heap.size) (wanted_on w11) d11 (alloc_run W 77 p11 _ z77) ?_
      have hJ := hI.new4 hI.below.size
      refine hK.out _ _ ⟨hJ.below, hJ.hat⟩ (fun _ => ?_)
      exact norm_ (A_put4 ..) (P0001 _ W.heap.size hJ)
  exact P0000 _ ⟨hB0, hH0, trivial, trivial, trivial, trivial, trivial, trivial⟩
end Go.Proofs.Ytgpgblidplmchaa.Sm
