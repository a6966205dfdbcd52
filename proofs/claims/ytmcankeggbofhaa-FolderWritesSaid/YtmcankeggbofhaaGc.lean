/- One item off bytes: the walk of the program's item, way by way. One item off bytes: what the program's item answers. Which bytes are a folder: the walk of the program's Take. A literal of one item; an item appended. Which bytes are a folder: the walk of the program's Take, its loop. -/
import Derived.Test.YtmcankeggbofhaaGb
import Derived.Great.BuildSlice
namespace Go.Proofs.Ytmcankeggbofhaa.Iw
open Go.RowKit Go.Proofs.YtmcankeggbofhaaW.PrintWords Go.Proofs.YtmcankeggbofhaaW.PrintLast Go.Proofs.YtmcankeggbofhaaW.PrintMore
open It Nm Ag My Spc By Im
set_option linter.unusedVariables false
set_option linter.unusedSimpArgs false
set_option maxRecDepth 100000
def Fits (m : Array Value) : Prop := m.size = 35 ∧ m.all (·.oneCell') = true
theorem fits_of {x : Itm} (h : Ok x) : Fits (cellsOf x).toArray := ⟨cells_sz h, cells_all x⟩
theorem one_int (k : IntKind) (n : Int) : ∀ u ∈ (Value.int k n).cells.toList, u.oneCell' = true := by
  intro u hu
  have : u = .int k n := by simpa [Value.cells] using hu
  subst this; rfl
theorem one_str (s : ByteArray) : ∀ u ∈ (Value.string s).cells.toList, u.oneCell' = true := by
  intro u hu
  have : u = .string s := by simpa [Value.cells] using hu
  subst this; rfl
theorem time_in {tv : Int} (h0 : 0 ≤ tv) (h : decide (9223372036854775807 < tv) = false) : wrap64 tv = tv := by
  have : ¬ 9223372036854775807 < tv := of_decide_eq_false h
  exact w64_id (by omega) (by omega)
theorem load_it {W : World} {g : Nat} {x : Itm} (h : It W g x) (hok : Ok x) : (Instr.loadAt 28 (.pointer (some ⟨g, 0, none⟩))).run Try.prog W = .ok (.agg (cellsOf x).toArray) W := by
  simp only [Instr.loadAt, Instr.sureAddr, Sem.run_bind, Sem.run_pure, Result.andThen_ok, run_loadVar_row W g 28 28 _ (0, 0) _ h Try.underlying28 rfl (by rw [info28, cells_sz hok])]
theorem put_run {o : Oper} {a : Act} {W : World} {ty : TypeId} {px y : Operand} {p v : Value} {W' : World} (ho : o.op = .store ty px y) (hx : a.eval px = p) (hy : a.eval y = v) (h : (Instr.storeAt ty p v).run Try.prog W = .ok () W') : (execOp a.eval o).run Try.prog W = .ok .skip W' := by
  simp only [execOp, ho, hx, hy, Sem.run_bind, h, Result.andThen_ok, Sem.run_pure]
theorem put_kind {W : World} {g : Nat} {x : Itm} (h : It W g x) (hok : Ok x) (k : Int) : (Instr.storeAt 3 (.pointer (some ⟨g, 1, none⟩)) (.int .i64 k)).run Try.prog W = .ok () (W.setRow g (cellsOf { x with kind := k }).toArray) :=
  put_field h hok info3 (one_int .i64 k) (by show 1 + 1 ≤ 35; omega) (cells_put_kind x k)
theorem put_name {W : World} {g : Nat} {x : Itm} (h : It W g x) (hok : Ok x) (s : ByteArray) : (Instr.storeAt 9 (.pointer (some ⟨g, 0, none⟩)) (.string s)).run Try.prog W = .ok () (W.setRow g (cellsOf { x with name := s }).toArray) :=
  put_field h hok info9 (one_str s) (by show 0 + 1 ≤ 35; omega) (cells_put_name x s)
theorem put_size {W : World} {g : Nat} {x : Itm} (h : It W g x) (hok : Ok x) (n : Int) : (Instr.storeAt 2 (.pointer (some ⟨g, 34, none⟩)) (.int .i64 n)).run Try.prog W = .ok () (W.setRow g (cellsOf { x with size := n }).toArray) :=
  put_field h hok info2 (one_int .i64 n) (by show 34 + 1 ≤ 35; omega) (cells_put_size hok n)
theorem put_of {W : World} {g : Nat} {x : Itm} (h : It W g x) (hok : Ok x) (r : List Int) (hr : r.length = 32) : (Instr.storeAt 26 (.pointer (some ⟨g, 2, none⟩)) (.agg (nums .u8 r).toArray)).run Try.prog W = .ok () (W.setRow g (cellsOf { x with of := r }).toArray) := by
  have hs : (Value.agg (nums .u8 r).toArray).cells.size = 32 := by simp [Value.cells, nums, hr]
  exact put_field h hok (by rw [hs]; exact info26) (by intro u hu; have : u ∈ nums .u8 r := by simpa [Value.cells] using hu
                                                       exact Tw.nums_one .u8 r u this) (by rw [hs]; omega) (cells_put_of hok r hr)
def im11T : Bool × List (List Nat × List Nat) := (true, [([], []), ([0], [0]), ([], []), ([2], [2]), ([3], [3]), ([4], [4]), ([0, 1], []), ([6, 1, 0, 1], [1, 6]), ([0, 1, 2, 3, 4, 5, 6, 7], []), ([8, 5, 7, 0, 1, 2, 3, 4, 5, 6, 7], [5, 8])])
def im11B : List Nat := [0, 1, 0, 4, 12, 28, 3, 67, 255, 511]
theorem im11tab : rtab .any (opsOf Try.f34 11) = im11T := by kernel_rfl
theorem im11bits : waitsOk im11T.2 im11B = true := by kernel_rfl
def im17T : Bool × List (List Nat × List Nat) := (true, [([], []), ([], []), ([], []), ([1, 2], [1, 2]), ([0, 0], [0]), ([3, 4, 0, 1, 2, 3, 4], [3]), ([5, 0, 1, 2, 3, 4, 5], [])])
def im17B : List Nat := [0, 0, 0, 6, 1, 31, 63]
theorem im17tab : rtab .any (opsOf Try.f34 17) = im17T := by kernel_rfl
theorem im17bits : waitsOk im17T.2 im17B = true := by kernel_rfl

set_option maxHeartbeats 3200000 in
theorem item_empty (A : Option Addr) (c : Nat) (b : List Int) (w : World) (hr : CB w A b) (hc : b.length ≤ c) (hmx : b.length ≤ 100000) (hby : ∀ x ∈ b, 0 ≤ x ∧ x < 256) (h0 : b.length = 0) :
    Calls Try.prog 34 #[.slice A b.length c] w fun e w' => ∃ m : Array Value, Fits m ∧ e = .returned (.tuple #[.agg m, .slice none 0 0, .bool false]) ∧ Below w.heap.size w w' := by
  have HR := Aside0.mk hr
  have HC := Aside0.mk hc
  have HB := Aside0.mk (show Below w.heap.size w ((w.alloc (.cells (cellsOf item0).toArray 28)).alloc (.cells (cellsOf item0).toArray 28)) from ((Below.refl w.heap.size w).alloc (Nat.le_refl _) _).alloc (by simp) _)
  have hg5 := Aside0.mk (show It ((w.alloc (.cells (cellsOf item0).toArray 28)).alloc (.cells (cellsOf item0).toArray 28)) (w.heap.size + 1) item0 by have := heap_alloc_new (w.alloc (.cells (cellsOf item0).toArray 28)) (.cells (cellsOf item0).toArray 28); simpa [It] using this)
  have hg2 := Aside0.mk (show It ((w.alloc (.cells (cellsOf item0).toArray 28)).alloc (.cells (cellsOf item0).toArray 28)) w.heap.size item0 from (((Below.refl (w.alloc (.cells (cellsOf item0).toArray 28)).heap.size _).alloc (Nat.le_refl _) _).block _ (by simp)).trans (heap_alloc_new w _))
  have d0 : ((b.length : Int) == 0) = true := by simp [h0]
  clear hr hc hby
  go_enter Try.func34, Try.ntmps34
  go_wp2_with (first | (with_reducible refine op_alloc rfl 28 rfl _ zero28 ?_) | (refine op_load rfl 28 (.tmp 5) rfl (w.heap.size + 1) rfl 28 (cellsOf item0).toArray _ hg5.out Try.underlying28 rfl 35 info28 (cells_sz ok0) ?_) | (refine op_store (w0 := w) w.heap.size rfl 28 (.tmp 2) (.tmp 13) rfl w.heap.size (cellsOf item0).toArray rfl rfl 28 (cellsOf item0).toArray hg2.out 35 info28 (cells_sz ok0) (cells_sz ok0) (cells_all _) HB.out (Nat.le_refl _) ?_; intro wz hgz _ HBz))
  exact ret_row3 rfl w.heap.size rfl 28 (cellsOf item0).toArray _ hgz.out Try.underlying28 rfl 35 info28 (cells_sz ok0) rfl ⟨_, fits_of ok0, rfl, HBz.out⟩

set_option maxHeartbeats 3200000 in
theorem item_text (A : Option Addr) (c : Nat) (b : List Int) (w : World) (hr : CB w A b) (hc : b.length ≤ c) (hmx : b.length ≤ 100000) (hby : ∀ x ∈ b, 0 ≤ x ∧ x < 256) (c0 : Int) (r : List Int) (hb : b = c0 :: r) (lb : List Int) (n7 e7 : Int) (htx : Aside0 (POct.octet_TakeText.f 40 r = some (lb, n7, e7))) (he7 : (e7 != 0) = true) :
    Calls Try.prog 34 #[.slice A b.length c] w fun e w' => ∃ m : Array Value, Fits m ∧ e = .returned (.tuple #[.agg m, .slice none 0 0, .bool false]) ∧ Below w.heap.size w w' := by
  have HR := Aside0.mk hr
  have HC := Aside0.mk hc
  have HB := Aside0.mk (show Below w.heap.size w ((w.alloc (.cells (cellsOf item0).toArray 28)).alloc (.cells (cellsOf item0).toArray 28)) from ((Below.refl w.heap.size w).alloc (Nat.le_refl _) _).alloc (by simp) _)
  have hg5 := Aside0.mk (show It ((w.alloc (.cells (cellsOf item0).toArray 28)).alloc (.cells (cellsOf item0).toArray 28)) (w.heap.size + 1) item0 by have := heap_alloc_new (w.alloc (.cells (cellsOf item0).toArray 28)) (.cells (cellsOf item0).toArray 28); simpa [It] using this)
  have hg2 := Aside0.mk (show It ((w.alloc (.cells (cellsOf item0).toArray 28)).alloc (.cells (cellsOf item0).toArray 28)) w.heap.size item0 from (((Below.refl (w.alloc (.cells (cellsOf item0).toArray 28)).heap.size _).alloc (Nat.le_refl _) _).block _ (by simp)).trans (heap_alloc_new w _))
  have hlen : b.length = r.length + 1 := by rw [hb]; rfl
  have d0 : ((b.length : Int) == 0) = false := beq_eq_false_iff_ne.2 (by omega)
  obtain ⟨ad, hA, hcl⟩ := CB.cells (Kd.C_below hr HB.out) (by omega)
  subst hA
  have kc0 : ((w.alloc (.cells (cellsOf item0).toArray 28)).alloc (.cells (cellsOf item0).toArray 28)).cell? ad = some (.int .u8 c0) := by have := hcl 0 (.int .u8 c0) (by rw [hb]; rfl); exact this
  have hw0 : IntKind.i64.wrap c0 = c0 := by have := hby c0 (by rw [hb]; simp); rw [IntKind.wrap_i64]; omega
  obtain ⟨y1, A1, hy1, hl1, hc1_, hcut1, hC1⟩ := cut_drop (P := Try.prog) 33 Try.underlying33 POct.info5 (some ad) c b 1 (by omega) (by omega) hc
  have hy1r : y1 = r := by rw [hy1, hb]; rfl
  subst hy1r
  have HC1 := Aside0.mk hc1_
  have HLEN := Aside0.mk hlen
  have hpos : 0 < b.length := by omega
  clear hy1 hl1 hc1_ hcl hr hc hlen hb hby
  go_enter Try.func34, Try.ntmps34
  go_wp2_with (first | (with_reducible refine op_alloc rfl 28 rfl _ zero28 ?_) | (refine op_put (w0 := w) w.heap.size rfl 3 (.tmp 18) (.tmp 17) rfl (w.heap.size + 1) 1 (.int .i64 c0) item0 { item0 with kind := c0 } rfl rfl hg5.out (put_kind hg5.out ok0 c0) HB.out (by omega) ?_; intro w1 hg1 hw1 HB1))
  have hsz1 := Aside0.mk HB1.out.size
  have HG2 := Aside0.mk (show It w1 w.heap.size item0 from blk_grown hg2.out hw1.out (by simp))
  refine (POct.octet_TakeText.calls 40 A1 (c - 1) y1 lb n7 e7 w1 (hC1 w1 (Kd.C_below HR.out HB1.out)) HC1.out htx.out).mono ?_
  rintro e2 w2 ⟨v2, rfl, ho2, hb2⟩
  have HB2 := Aside0.mk (below_step HB1.out hb2); have HG5 := Aside0.mk (show It w2 (w.heap.size + 1) { item0 with kind := c0 } from (hb2.block _ (blk_lt hg1.out)).trans hg1.out); have HG2' := Aside0.mk (show It w2 w.heap.size item0 from (hb2.block _ (blk_lt HG2.out)).trans HG2.out); have HO2 := Aside0.mk ho2
  clear hb2 ho2 HG2 hg1 hw1 HB1 hg2 hg5 HB kc0
  have HO2 := Aside0.mk (Kd.R_lower HO2.out (show w.heap.size ≤ w1.heap.size from hsz1.out))
  obtain ⟨x1, hx1⟩ : ∃ x1, Aside0 (x1 = { item0 with kind := c0 }) := ⟨_, ⟨rfl⟩⟩
  have ok1 : Ok x1 := by rw [hx1.out]; exact ok0
  rw [← hx1.out] at HG5
  go_wp2_with (first | (refine op_load rfl 28 (.tmp 5) rfl (w.heap.size + 1) rfl 28 (cellsOf x1).toArray _ HG5.out Try.underlying28 rfl 35 info28 (cells_sz ok1) ?_) | (refine op_store (w0 := w) w.heap.size rfl 28 (.tmp 2) (.tmp 28) rfl w.heap.size (cellsOf x1).toArray rfl rfl 28 (cellsOf item0).toArray HG2'.out 35 info28 (cells_sz ok1) (cells_sz ok0) (cells_all _) HB2.out (Nat.le_refl _) ?_; intro wz hgz _ HBz))
  exact ret_row3 rfl w.heap.size rfl 28 (cellsOf x1).toArray _ hgz.out Try.underlying28 rfl 35 info28 (cells_sz ok1) rfl ⟨_, fits_of ok1, rfl, HBz.out⟩

set_option maxHeartbeats 3200000 in
theorem item_short (A : Option Addr) (c : Nat) (b : List Int) (w : World) (hr : CB w A b) (hc : b.length ≤ c) (hmx : b.length ≤ 100000) (hby : ∀ x ∈ b, 0 ≤ x ∧ x < 256) (c0 : Int) (r : List Int) (hb : b = c0 :: r) (lb : List Int) (n7 : Int) (htx_ : Aside0 (POct.octet_TakeText.f 40 r = some (lb, n7, 0))) (hn0 : 0 ≤ n7) (hn1 : n7 ≤ r.length) (hsh : (b.length : Int) - (1 + n7) < 32) :
    Calls Try.prog 34 #[.slice A b.length c] w fun e w' => ∃ m : Array Value, Fits m ∧ e = .returned (.tuple #[.agg m, .slice none 0 0, .bool false]) ∧ Below w.heap.size w w' := by
  obtain ⟨e7, he7⟩ : ∃ e7 : Int, e7 = 0 := ⟨0, rfl⟩
  rw [← he7] at htx_
  have hez : (e7 != 0) = false := by rw [he7]; rfl
  clear he7
  have htx := htx_
  clear htx_
  have HR := Aside0.mk hr
  have HC := Aside0.mk hc
  have HB := Aside0.mk (show Below w.heap.size w ((w.alloc (.cells (cellsOf item0).toArray 28)).alloc (.cells (cellsOf item0).toArray 28)) from ((Below.refl w.heap.size w).alloc (Nat.le_refl _) _).alloc (by simp) _)
  have hg5 := Aside0.mk (show It ((w.alloc (.cells (cellsOf item0).toArray 28)).alloc (.cells (cellsOf item0).toArray 28)) (w.heap.size + 1) item0 by have := heap_alloc_new (w.alloc (.cells (cellsOf item0).toArray 28)) (.cells (cellsOf item0).toArray 28); simpa [It] using this)
  have hg2 := Aside0.mk (show It ((w.alloc (.cells (cellsOf item0).toArray 28)).alloc (.cells (cellsOf item0).toArray 28)) w.heap.size item0 from (((Below.refl (w.alloc (.cells (cellsOf item0).toArray 28)).heap.size _).alloc (Nat.le_refl _) _).block _ (by simp)).trans (heap_alloc_new w _))
  have hlen : b.length = r.length + 1 := by rw [hb]; rfl
  have d0 : ((b.length : Int) == 0) = false := beq_eq_false_iff_ne.2 (by omega)
  obtain ⟨ad, hA, hcl⟩ := CB.cells (Kd.C_below hr HB.out) (by omega)
  subst hA
  have kc0 : ((w.alloc (.cells (cellsOf item0).toArray 28)).alloc (.cells (cellsOf item0).toArray 28)).cell? ad = some (.int .u8 c0) := by have := hcl 0 (.int .u8 c0) (by rw [hb]; rfl); exact this
  have hw0 : IntKind.i64.wrap c0 = c0 := by have := hby c0 (by rw [hb]; simp); rw [IntKind.wrap_i64]; omega
  obtain ⟨y1, A1, hy1, hl1, hc1_, hcut1, hC1⟩ := cut_drop (P := Try.prog) 33 Try.underlying33 POct.info5 (some ad) c b 1 (by omega) (by omega) hc
  have hy1r : y1 = r := by rw [hy1, hb]; rfl
  subst hy1r
  have HC1 := Aside0.mk hc1_
  have HLEN := Aside0.mk hlen
  have hpos : 0 < b.length := by omega
  clear hy1 hl1 hc1_ hcl hr hc hlen hb hby
  obtain ⟨y8, A8, hy8, hl8, hc8_, hcut8, hC8⟩ := cut_drop (P := Try.prog) 33 Try.underlying33 POct.info5 (some ad) c b (1 + n7) (by omega) (by have := HLEN.out; omega) HC.out
  have hn2 : n7 ≤ 100000 := by have := HLEN.out; omega
  have HC8 := Aside0.mk hc8_; have HY8 := Aside0.mk hy8; have HL8 := Aside0.mk hl8
  clear hy8 hl8 hc8_
  have d9 : decide ((y8.length : Int) < 32) = true := decide_eq_true (by have := HL8.out; omega)
  go_enter Try.func34, Try.ntmps34
  go_wp2_with (first | (with_reducible refine op_alloc rfl 28 rfl _ zero28 ?_) | (refine op_put (w0 := w) w.heap.size rfl 3 (.tmp 18) (.tmp 17) rfl (w.heap.size + 1) 1 (.int .i64 c0) item0 { item0 with kind := c0 } rfl rfl hg5.out (put_kind hg5.out ok0 c0) HB.out (by omega) ?_; intro w1 hg1 hw1 HB1))
  have hsz1 := Aside0.mk HB1.out.size
  have HG2 := Aside0.mk (show It w1 w.heap.size item0 from blk_grown hg2.out hw1.out (by simp))
  refine (POct.octet_TakeText.calls 40 A1 (c - 1) y1 lb n7 e7 w1 (hC1 w1 (Kd.C_below HR.out HB1.out)) HC1.out htx.out).mono ?_
  rintro e2 w2 ⟨v2, rfl, ho2, hb2⟩
  have HB2 := Aside0.mk (below_step HB1.out hb2); have HG5 := Aside0.mk (show It w2 (w.heap.size + 1) { item0 with kind := c0 } from (hb2.block _ (blk_lt hg1.out)).trans hg1.out); have HG2' := Aside0.mk (show It w2 w.heap.size item0 from (hb2.block _ (blk_lt HG2.out)).trans HG2.out); have HO2 := Aside0.mk ho2
  clear hb2 ho2 HG2 hg1 hw1 HB1 hg2 hg5 HB kc0
  have HO2 := Aside0.mk (Kd.R_lower HO2.out (show w.heap.size ≤ w1.heap.size from hsz1.out))
  obtain ⟨x1, hx1⟩ : ∃ x1, Aside0 (x1 = { item0 with kind := c0 }) := ⟨_, ⟨rfl⟩⟩
  have ok1 : Ok x1 := by rw [hx1.out]; exact ok0
  rw [← hx1.out] at HG5
  go_wp2_with (first | (refine op_load rfl 28 (.tmp 5) rfl (w.heap.size + 1) rfl 28 (cellsOf x1).toArray _ HG5.out Try.underlying28 rfl 35 info28 (cells_sz ok1) ?_) | (refine op_store (w0 := w) w.heap.size rfl 28 (.tmp 2) (.tmp 36) rfl w.heap.size (cellsOf x1).toArray rfl rfl 28 (cellsOf item0).toArray HG2'.out 35 info28 (cells_sz ok1) (cells_sz ok0) (cells_all _) HB2.out (Nat.le_refl _) ?_; intro wz hgz _ HBz))
  exact ret_row3 rfl w.heap.size rfl 28 (cellsOf x1).toArray _ hgz.out Try.underlying28 rfl 35 info28 (cells_sz ok1) rfl ⟨_, fits_of ok1, rfl, HBz.out⟩

set_option maxHeartbeats 3200000 in
theorem item_count (A : Option Addr) (c : Nat) (b : List Int) (w : World) (hr : CB w A b) (hc : b.length ≤ c) (hmx : b.length ≤ 100000) (hby : ∀ x ∈ b, 0 ≤ x ∧ x < 256) (c0 : Int) (r : List Int) (hb : b = c0 :: r) (lb : List Int) (n7 : Int) (htx_ : Aside0 (POct.octet_TakeText.f 40 r = some (lb, n7, 0))) (hn0 : 0 ≤ n7) (hn1 : n7 ≤ r.length) (hsh : 32 ≤ (b.length : Int) - (1 + n7)) (nv nk ne : Int) (htk_ : Aside0 (POct.octet_TakeCount.f 40 ((r.drop n7.toNat).drop 32) = some (nv, nk, ne))) (hne : (ne != 0) = true) :
    Calls Try.prog 34 #[.slice A b.length c] w fun e w' => ∃ m : Array Value, Fits m ∧ e = .returned (.tuple #[.agg m, .slice none 0 0, .bool false]) ∧ Below w.heap.size w w' := by
  obtain ⟨e7, he7⟩ : ∃ e7 : Int, e7 = 0 := ⟨0, rfl⟩
  rw [← he7] at htx_
  have hez : (e7 != 0) = false := by rw [he7]; rfl
  clear he7
  have htx := htx_
  clear htx_
  have HR := Aside0.mk hr
  have HC := Aside0.mk hc
  have HB := Aside0.mk (show Below w.heap.size w ((w.alloc (.cells (cellsOf item0).toArray 28)).alloc (.cells (cellsOf item0).toArray 28)) from ((Below.refl w.heap.size w).alloc (Nat.le_refl _) _).alloc (by simp) _)
  have hg5 := Aside0.mk (show It ((w.alloc (.cells (cellsOf item0).toArray 28)).alloc (.cells (cellsOf item0).toArray 28)) (w.heap.size + 1) item0 by have := heap_alloc_new (w.alloc (.cells (cellsOf item0).toArray 28)) (.cells (cellsOf item0).toArray 28); simpa [It] using this)
  have hg2 := Aside0.mk (show It ((w.alloc (.cells (cellsOf item0).toArray 28)).alloc (.cells (cellsOf item0).toArray 28)) w.heap.size item0 from (((Below.refl (w.alloc (.cells (cellsOf item0).toArray 28)).heap.size _).alloc (Nat.le_refl _) _).block _ (by simp)).trans (heap_alloc_new w _))
  have hlen : b.length = r.length + 1 := by rw [hb]; rfl
  have d0 : ((b.length : Int) == 0) = false := beq_eq_false_iff_ne.2 (by omega)
  obtain ⟨ad, hA, hcl⟩ := CB.cells (Kd.C_below hr HB.out) (by omega)
  subst hA
  have kc0 : ((w.alloc (.cells (cellsOf item0).toArray 28)).alloc (.cells (cellsOf item0).toArray 28)).cell? ad = some (.int .u8 c0) := by have := hcl 0 (.int .u8 c0) (by rw [hb]; rfl); exact this
  have hw0 : IntKind.i64.wrap c0 = c0 := by have := hby c0 (by rw [hb]; simp); rw [IntKind.wrap_i64]; omega
  obtain ⟨y1, A1, hy1, hl1, hc1_, hcut1, hC1⟩ := cut_drop (P := Try.prog) 33 Try.underlying33 POct.info5 (some ad) c b 1 (by omega) (by omega) hc
  have hy1r : y1 = r := by rw [hy1, hb]; rfl
  subst hy1r
  have HC1 := Aside0.mk hc1_
  have HLEN := Aside0.mk hlen
  have hpos : 0 < b.length := by omega
  have hbr := Aside0.mk hb
  clear hy1 hl1 hc1_ hcl hr hc hlen hb hby
  obtain ⟨y8, A8, hy8, hl8, hc8_, hcut8, hC8⟩ := cut_drop (P := Try.prog) 33 Try.underlying33 POct.info5 (some ad) c b (1 + n7) (by omega) (by have := HLEN.out; omega) HC.out
  have hn2 : n7 ≤ 100000 := by have := HLEN.out; omega
  have HC8 := Aside0.mk hc8_; have HY8 := Aside0.mk hy8; have HL8 := Aside0.mk hl8
  clear hy8 hl8 hc8_
  have d9 : decide ((y8.length : Int) < 32) = false := decide_eq_false (by have := HL8.out; omega)
  obtain ⟨z9, hz9, hl9, hc9_, hcut9, hC9⟩ := cut_take (P := Try.prog) 33 Try.underlying33 POct.info5 A8 (c - (1 + n7).toNat) y8 32 (by omega) (by have := HL8.out; omega) HC8.out
  have hz32 : Aside0 (z9.length = 32) := ⟨by omega⟩
  have HZ9 := Aside0.mk hz9
  have harr := fun (cc : Nat) => array_at (P := Try.prog) 26 32 (by kernel_rfl) A8 z9.length cc (by omega)
  clear hz9 hl9 hc9_
  obtain ⟨y12, A12, hy12, hl12, hc12_, hcut12, hC12⟩ := cut_drop (P := Try.prog) 33 Try.underlying33 POct.info5 A8 (c - (1 + n7).toNat) y8 32 (by omega) (by have := HL8.out; omega) HC8.out
  have HC12 := Aside0.mk hc12_; have HY12 := Aside0.mk hy12; have HL12 := Aside0.mk hl12
  clear hy12 hl12 hc12_
  obtain ⟨s, hs⟩ : ∃ s, Aside0 (s = strOfNums lb) := ⟨_, ⟨rfl⟩⟩
  have htk : Aside0 (POct.octet_TakeCount.f 40 y12 = some (nv, nk, ne)) := ⟨by rw [HY12.out, HY8.out, hbr.out, show (c0 :: y1).drop (1 + n7).toNat = y1.drop n7.toNat by rw [show (1 + n7).toNat = n7.toNat + 1 by omega]; rfl]; exact htk_.out⟩
  go_enter Try.func34, Try.ntmps34
  go_wp2_with (first | (with_reducible refine op_alloc rfl 28 rfl _ zero28 ?_) | (refine op_put (w0 := w) w.heap.size rfl 3 (.tmp 18) (.tmp 17) rfl (w.heap.size + 1) 1 (.int .i64 c0) item0 { item0 with kind := c0 } rfl rfl hg5.out (put_kind hg5.out ok0 c0) HB.out (by omega) ?_; intro w1 hg1 hw1 HB1))
  have hsz1 := Aside0.mk HB1.out.size
  have HG2 := Aside0.mk (show It w1 w.heap.size item0 from blk_grown hg2.out hw1.out (by simp))
  refine (POct.octet_TakeText.calls 40 A1 (c - 1) y1 lb n7 e7 w1 (hC1 w1 (Kd.C_below HR.out HB1.out)) HC1.out htx.out).mono ?_
  rintro e2 w2 ⟨v2, rfl, ho2, hb2⟩
  have HB2 := Aside0.mk (below_step HB1.out hb2); have HG5 := Aside0.mk (show It w2 (w.heap.size + 1) { item0 with kind := c0 } from (hb2.block _ (blk_lt hg1.out)).trans hg1.out); have HG2' := Aside0.mk (show It w2 w.heap.size item0 from (hb2.block _ (blk_lt HG2.out)).trans HG2.out); have HO2 := Aside0.mk ho2
  clear hb2 ho2 HG2 hg1 hw1 HB1 hg2 hg5 HB kc0
  have HO2 := Aside0.mk (Kd.R_lower HO2.out (show w.heap.size ≤ w1.heap.size from hsz1.out))
  obtain ⟨x1, hx1⟩ : ∃ x1, Aside0 (x1 = { item0 with kind := c0 }) := ⟨_, ⟨rfl⟩⟩
  have ok1 : Ok x1 := by rw [hx1.out]; exact ok0
  rw [← hx1.out] at HG5
  go_wp2_with fail
  have HOq := Aside0.mk (Kd.R_below HO2.out (below_drew1 (Below.refl _ _)))
  obtain ⟨ad8, hA8, hadc⟩ := CB.cells (hC9 _ (hC8 w2 (Kd.C_below HR.out HB2.out))) (by rw [hz32.out]; decide)
  subst hA8
  refine start_ (n := 10) (S := (fun W_ => Below w.heap.size w W_ ∧ RB W_ w.heap.size v2 lb)) (ds := []) #[false, false, false, false, false, false, false, false, false, false] (by kernel_rfl) rfl rfl (⟨below_drew1 HB2.out, HOq.out⟩) (fun hHeld => ?_); refine with_tabW im11tab im11bits (fun HT_ HW_ => ?_)
  have HG5q := Aside0.mk (show It w2.drew (w.heap.size + 1) x1 from HG5.out); have HG2q := Aside0.mk (show It w2.drew w.heap.size item0 from HG2'.out)
  generalize w2.drew = wq at hHeld HOq HG5q HG2q ⊢
  have hld : ∀ W : World, Below w.heap.size w W → (Instr.loadAt 26 (.pointer (some ad8))).run Try.prog W = .ok (.agg (nums .u8 z9).toArray) W := fun W hW => by
    obtain ⟨ad9, e9, hc9⟩ := CB.cells (hC9 _ (hC8 W (Kd.C_below HR.out hW))) (by rw [hz32.out]; decide)
    cases e9
    exact run_loadVar_at ad8 26 (nums .u8 z9) _ hc9 Try.underlying26 rfl (by rw [nums_length, hz32.out]; exact info26)
  refine pure_ (i := 0) (N := some 37) (v := ?_) (a' := ?_) #[true, false, false, false, false, false, false, false, false, false] rfl rfl (any_of HT_.out (by kernel_rfl)) (fun _ _ _ h => h) (Or.inl ⟨by rfl, ?_⟩) ?_ ?_
  rotate_left
  · intro w'
    go_simp
    with_reducible rfl
  rotate_left
  · simp only [Act.put, List.setIfInBounds_toArray, List.set_cons_zero, List.set_cons_succ, i64_w, i32_w]
    rfl
  refine take_ (i := 1) (N := some 38) (v := ?_) (a' := ?_) #[true, true, false, false, false, false, false, false, false, false] rfl rfl (take_ofW HT_.out HW_.out (by kernel_rfl)) (fun _ _ _ h => h) (Or.inl ⟨by rfl, ?_⟩) hHeld ?_ ?_
  rotate_left
  · intro w' hw'
    have hf0_ := (show (convert 33 9 v2).run Try.prog w' = .ok (.string s) w' by rw [hs.out]; exact own_string (P := Try.prog) Try.underlying33 Try.underlying5 Try.underlying9 (RB.own hw'.2))
    go_simp
    with_reducible rfl
  rotate_left
  · simp only [Act.put, List.setIfInBounds_toArray, List.set_cons_zero, List.set_cons_succ, i64_w, i32_w]
    rfl
  refine pure_ (i := 2) (N := some 39) (v := ?_) (a' := ?_) #[true, true, true, false, false, false, false, false, false, false] rfl rfl (any_of HT_.out (by kernel_rfl)) (fun _ _ _ h => h) (Or.inl ⟨by rfl, ?_⟩) ?_ ?_
  rotate_left
  · intro w'
    go_simp
    with_reducible rfl
  rotate_left
  · simp only [Act.put, List.setIfInBounds_toArray, List.set_cons_zero, List.set_cons_succ, i64_w, i32_w]
    rfl
  refine pure_ (i := 3) (N := some 40) (v := ?_) (a' := ?_) #[true, true, true, true, false, false, false, false, false, false] rfl rfl (any_of HT_.out (by kernel_rfl)) (fun _ _ _ h => h) (Or.inl ⟨by rfl, ?_⟩) ?_ ?_
  rotate_left
  · intro w'
    go_simp
    with_reducible rfl
  rotate_left
  · simp only [Act.put, List.setIfInBounds_toArray, List.set_cons_zero, List.set_cons_succ, i64_w, i32_w]
    rfl
  refine pure_ (i := 4) (N := some 41) (v := ?_) (a' := ?_) #[true, true, true, true, true, false, false, false, false, false] rfl rfl (any_of HT_.out (by kernel_rfl)) (fun _ _ _ h => h) (Or.inl ⟨by rfl, ?_⟩) ?_ ?_
  rotate_left
  · intro w'
    go_simp
    with_reducible rfl
  rotate_left
  · simp only [Act.put, List.setIfInBounds_toArray, List.set_cons_zero, List.set_cons_succ, i64_w, i32_w]
    rfl
  refine take_ (i := 5) (N := some 42) (v := (.agg (nums .u8 z9).toArray)) (a' := ?_) #[true, true, true, true, true, true, false, false, false, false] rfl rfl (take_ofW HT_.out HW_.out (by kernel_rfl)) (fun _ _ _ h => h) (Or.inl ⟨by rfl, fun w' hw' => load_run rfl rfl (hld w' hw'.1)⟩) hHeld ?_ ?_
  rotate_left
  · simp only [Act.put, List.setIfInBounds_toArray, List.set_cons_zero, List.set_cons_succ, i64_w, i32_w]
    rfl
  refine pure_ (i := 6) (N := some 43) (v := ?_) (a' := ?_) #[true, true, true, true, true, true, true, false, false, false] rfl rfl (any_of HT_.out (by kernel_rfl)) (fun _ _ _ h => h) (Or.inl ⟨by rfl, ?_⟩) ?_ ?_
  rotate_left
  · intro w'
    go_simp
    with_reducible rfl
  rotate_left
  · simp only [Act.put, List.setIfInBounds_toArray, List.set_cons_zero, List.set_cons_succ, i64_w, i32_w]
    rfl
  refine one_ (i := 7) (N := none) #[true, true, true, true, true, true, true, true, false, false] rfl rfl (one_of HT_.out (by kernel_rfl)) (by decide) (fun K hK => ?_)
  refine skip_ (by rfl) rfl (put_run rfl rfl rfl (put_name HG5q.out ok1 s)) ?_
  have HS1 := Aside0.mk (show Below w.heap.size w (wq.setRow (w.heap.size + 1) (cellsOf { x1 with name := s }).toArray) ∧ RB (wq.setRow (w.heap.size + 1) (cellsOf { x1 with name := s }).toArray) w.heap.size v2 lb from ⟨below_setRow hHeld.1 (by omega) _, rb_other hHeld.2 HG5q.out (by decide) (grown_put _ _ _)⟩)
  have N5 := Aside0.mk (it_put { x1 with name := s } HG5q.out)
  have N2 := Aside0.mk (show It (wq.setRow (w.heap.size + 1) (cellsOf { x1 with name := s }).toArray) w.heap.size item0 from blk_grown HG2q.out (grown_put _ _ _) (by simp))
  generalize wq.setRow (w.heap.size + 1) (cellsOf { x1 with name := s }).toArray = wa at HS1 N5 N2 hK ⊢
  refine hK.out _ _ HS1.out (fun hHeld => ?_)
  clear hK K HS1 HG5q HG2q
  have HG2q := N2; have HG5q := N5
  clear N2 N5
  refine pure_ (i := 8) (N := some 44) (v := ?_) (a' := ?_) #[true, true, true, true, true, true, true, true, true, false] rfl rfl (any_of HT_.out (by kernel_rfl)) (fun _ _ _ h => h) (Or.inl ⟨by rfl, ?_⟩) ?_ ?_
  rotate_left
  · intro w'
    go_simp
    with_reducible rfl
  rotate_left
  · simp only [Act.put, List.setIfInBounds_toArray, List.set_cons_zero, List.set_cons_succ, i64_w, i32_w]
    rfl
  refine one_ (i := 9) (N := none) #[true, true, true, true, true, true, true, true, true, true] rfl rfl (one_of HT_.out (by kernel_rfl)) (by decide) (fun K hK => ?_)
  refine skip_ (by rfl) rfl (put_run rfl rfl rfl (put_of HG5q.out ok1 z9 hz32.out)) ?_
  have HS1 := Aside0.mk (show Below w.heap.size w (wa.setRow (w.heap.size + 1) (cellsOf { x1 with name := s, of := z9 }).toArray) ∧ RB (wa.setRow (w.heap.size + 1) (cellsOf { x1 with name := s, of := z9 }).toArray) w.heap.size v2 lb from ⟨below_setRow hHeld.1 (by omega) _, rb_other hHeld.2 HG5q.out (by decide) (grown_put _ _ _)⟩)
  have N5 := Aside0.mk (it_put { x1 with name := s, of := z9 } HG5q.out)
  have N2 := Aside0.mk (show It (wa.setRow (w.heap.size + 1) (cellsOf { x1 with name := s, of := z9 }).toArray) w.heap.size item0 from blk_grown HG2q.out (grown_put _ _ _) (by simp))
  generalize wa.setRow (w.heap.size + 1) (cellsOf { x1 with name := s, of := z9 }).toArray = wb at HS1 N5 N2 hK ⊢
  refine hK.out _ _ HS1.out (fun hHeld => ?_)
  clear hK K HS1 HG5q HG2q
  have HG2q := N2; have HG5q := N5
  clear N2 N5
  refine done_ (done_of HT_.out (by kernel_rfl)) ?_
  clear HT_ HW_ hld hadc
  obtain ⟨x3, hx3⟩ : ∃ x3, Aside0 (x3 = ({ x1 with name := s, of := z9 } : Itm)) := ⟨_, ⟨rfl⟩⟩
  have ok3 : Ok x3 := by rw [hx3.out]; exact hz32.out
  rw [← hx3.out] at HG5q
  have HBq := Aside0.mk hHeld.1
  clear hHeld
  go_wp2_with fail
  refine (POct.octet_TakeCount.calls 40 A12 (c - (1 + n7).toNat - 32) y12 nv nk ne wb (hC12 wb (hC8 wb (Kd.C_below HR.out HBq.out))) HC12.out htk.out).mono ?_
  rintro e9 w9 ⟨rfl, hd9⟩
  have hb9 := hd9.below
  have HB9 := Aside0.mk (below_step HBq.out hb9); have HG59 := Aside0.mk (show It w9 (w.heap.size + 1) x3 from (hb9.block _ (blk_lt HG5q.out)).trans HG5q.out); have HG29 := Aside0.mk (show It w9 w.heap.size item0 from (hb9.block _ (blk_lt HG2q.out)).trans HG2q.out)
  clear hb9 hd9 HBq HG5q HG2q
  go_wp2_with (first | (refine op_load rfl 28 (.tmp 5) rfl (w.heap.size + 1) rfl 28 (cellsOf x3).toArray _ HG59.out Try.underlying28 rfl 35 info28 (cells_sz ok3) ?_) | (refine op_store (w0 := w) w.heap.size rfl 28 (.tmp 2) (.tmp 59) rfl w.heap.size (cellsOf x3).toArray rfl rfl 28 (cellsOf item0).toArray HG29.out 35 info28 (cells_sz ok3) (cells_sz ok0) (cells_all _) HB9.out (Nat.le_refl _) ?_; intro wz hgz _ HBz))
  exact ret_row3 rfl w.heap.size rfl 28 (cellsOf x3).toArray _ hgz.out Try.underlying28 rfl 35 info28 (cells_sz ok3) rfl ⟨_, fits_of ok3, rfl, HBz.out⟩

set_option maxHeartbeats 3200000 in
theorem item_big (A : Option Addr) (c : Nat) (b : List Int) (w : World) (hr : CB w A b) (hc : b.length ≤ c) (hmx : b.length ≤ 100000) (hby : ∀ x ∈ b, 0 ≤ x ∧ x < 256) (c0 : Int) (r : List Int) (hb : b = c0 :: r) (lb : List Int) (n7 : Int) (htx_ : Aside0 (POct.octet_TakeText.f 40 r = some (lb, n7, 0))) (hn0 : 0 ≤ n7) (hn1 : n7 ≤ r.length) (hsh : 32 ≤ (b.length : Int) - (1 + n7)) (nv nk ne : Int) (htk_ : Aside0 (POct.octet_TakeCount.f 40 ((r.drop n7.toNat).drop 32) = some (nv, nk, ne))) (hne : (ne != 0) = false) (hbg : decide (9223372036854775807 < nv) = true) :
    Calls Try.prog 34 #[.slice A b.length c] w fun e w' => ∃ m : Array Value, Fits m ∧ e = .returned (.tuple #[.agg m, .slice none 0 0, .bool false]) ∧ Below w.heap.size w w' := by
  obtain ⟨e7, he7⟩ : ∃ e7 : Int, e7 = 0 := ⟨0, rfl⟩
  rw [← he7] at htx_
  have hez : (e7 != 0) = false := by rw [he7]; rfl
  clear he7
  have htx := htx_
  clear htx_
  have HR := Aside0.mk hr
  have HC := Aside0.mk hc
  have HB := Aside0.mk (show Below w.heap.size w ((w.alloc (.cells (cellsOf item0).toArray 28)).alloc (.cells (cellsOf item0).toArray 28)) from ((Below.refl w.heap.size w).alloc (Nat.le_refl _) _).alloc (by simp) _)
  have hg5 := Aside0.mk (show It ((w.alloc (.cells (cellsOf item0).toArray 28)).alloc (.cells (cellsOf item0).toArray 28)) (w.heap.size + 1) item0 by have := heap_alloc_new (w.alloc (.cells (cellsOf item0).toArray 28)) (.cells (cellsOf item0).toArray 28); simpa [It] using this)
  have hg2 := Aside0.mk (show It ((w.alloc (.cells (cellsOf item0).toArray 28)).alloc (.cells (cellsOf item0).toArray 28)) w.heap.size item0 from (((Below.refl (w.alloc (.cells (cellsOf item0).toArray 28)).heap.size _).alloc (Nat.le_refl _) _).block _ (by simp)).trans (heap_alloc_new w _))
  have hlen : b.length = r.length + 1 := by rw [hb]; rfl
  have d0 : ((b.length : Int) == 0) = false := beq_eq_false_iff_ne.2 (by omega)
  obtain ⟨ad, hA, hcl⟩ := CB.cells (Kd.C_below hr HB.out) (by omega)
  subst hA
  have kc0 : ((w.alloc (.cells (cellsOf item0).toArray 28)).alloc (.cells (cellsOf item0).toArray 28)).cell? ad = some (.int .u8 c0) := by have := hcl 0 (.int .u8 c0) (by rw [hb]; rfl); exact this
  have hw0 : IntKind.i64.wrap c0 = c0 := by have := hby c0 (by rw [hb]; simp); rw [IntKind.wrap_i64]; omega
  obtain ⟨y1, A1, hy1, hl1, hc1_, hcut1, hC1⟩ := cut_drop (P := Try.prog) 33 Try.underlying33 POct.info5 (some ad) c b 1 (by omega) (by omega) hc
  have hy1r : y1 = r := by rw [hy1, hb]; rfl
  subst hy1r
  have HC1 := Aside0.mk hc1_
  have HLEN := Aside0.mk hlen
  have hpos : 0 < b.length := by omega
  have hbr := Aside0.mk hb
  clear hy1 hl1 hc1_ hcl hr hc hlen hb hby
  obtain ⟨y8, A8, hy8, hl8, hc8_, hcut8, hC8⟩ := cut_drop (P := Try.prog) 33 Try.underlying33 POct.info5 (some ad) c b (1 + n7) (by omega) (by have := HLEN.out; omega) HC.out
  have hn2 : n7 ≤ 100000 := by have := HLEN.out; omega
  have HC8 := Aside0.mk hc8_; have HY8 := Aside0.mk hy8; have HL8 := Aside0.mk hl8
  clear hy8 hl8 hc8_
  have d9 : decide ((y8.length : Int) < 32) = false := decide_eq_false (by have := HL8.out; omega)
  obtain ⟨z9, hz9, hl9, hc9_, hcut9, hC9⟩ := cut_take (P := Try.prog) 33 Try.underlying33 POct.info5 A8 (c - (1 + n7).toNat) y8 32 (by omega) (by have := HL8.out; omega) HC8.out
  have hz32 : Aside0 (z9.length = 32) := ⟨by omega⟩
  have HZ9 := Aside0.mk hz9
  have harr := fun (cc : Nat) => array_at (P := Try.prog) 26 32 (by kernel_rfl) A8 z9.length cc (by omega)
  clear hz9 hl9 hc9_
  obtain ⟨y12, A12, hy12, hl12, hc12_, hcut12, hC12⟩ := cut_drop (P := Try.prog) 33 Try.underlying33 POct.info5 A8 (c - (1 + n7).toNat) y8 32 (by omega) (by have := HL8.out; omega) HC8.out
  have HC12 := Aside0.mk hc12_; have HY12 := Aside0.mk hy12; have HL12 := Aside0.mk hl12
  clear hy12 hl12 hc12_
  obtain ⟨s, hs⟩ : ∃ s, Aside0 (s = strOfNums lb) := ⟨_, ⟨rfl⟩⟩
  have htk : Aside0 (POct.octet_TakeCount.f 40 y12 = some (nv, nk, ne)) := ⟨by rw [HY12.out, HY8.out, hbr.out, show (c0 :: y1).drop (1 + n7).toNat = y1.drop n7.toNat by rw [show (1 + n7).toNat = n7.toNat + 1 by omega]; rfl]; exact htk_.out⟩
  go_enter Try.func34, Try.ntmps34
  go_wp2_with (first | (with_reducible refine op_alloc rfl 28 rfl _ zero28 ?_) | (refine op_put (w0 := w) w.heap.size rfl 3 (.tmp 18) (.tmp 17) rfl (w.heap.size + 1) 1 (.int .i64 c0) item0 { item0 with kind := c0 } rfl rfl hg5.out (put_kind hg5.out ok0 c0) HB.out (by omega) ?_; intro w1 hg1 hw1 HB1))
  have hsz1 := Aside0.mk HB1.out.size
  have HG2 := Aside0.mk (show It w1 w.heap.size item0 from blk_grown hg2.out hw1.out (by simp))
  refine (POct.octet_TakeText.calls 40 A1 (c - 1) y1 lb n7 e7 w1 (hC1 w1 (Kd.C_below HR.out HB1.out)) HC1.out htx.out).mono ?_
  rintro e2 w2 ⟨v2, rfl, ho2, hb2⟩
  have HB2 := Aside0.mk (below_step HB1.out hb2); have HG5 := Aside0.mk (show It w2 (w.heap.size + 1) { item0 with kind := c0 } from (hb2.block _ (blk_lt hg1.out)).trans hg1.out); have HG2' := Aside0.mk (show It w2 w.heap.size item0 from (hb2.block _ (blk_lt HG2.out)).trans HG2.out); have HO2 := Aside0.mk ho2
  clear hb2 ho2 HG2 hg1 hw1 HB1 hg2 hg5 HB kc0
  have HO2 := Aside0.mk (Kd.R_lower HO2.out (show w.heap.size ≤ w1.heap.size from hsz1.out))
  obtain ⟨x1, hx1⟩ : ∃ x1, Aside0 (x1 = { item0 with kind := c0 }) := ⟨_, ⟨rfl⟩⟩
  have ok1 : Ok x1 := by rw [hx1.out]; exact ok0
  rw [← hx1.out] at HG5
  go_wp2_with fail
  have HOq := Aside0.mk (Kd.R_below HO2.out (below_drew1 (Below.refl _ _)))
  obtain ⟨ad8, hA8, hadc⟩ := CB.cells (hC9 _ (hC8 w2 (Kd.C_below HR.out HB2.out))) (by rw [hz32.out]; decide)
  subst hA8
  refine start_ (n := 10) (S := (fun W_ => Below w.heap.size w W_ ∧ RB W_ w.heap.size v2 lb)) (ds := []) #[false, false, false, false, false, false, false, false, false, false] (by kernel_rfl) rfl rfl (⟨below_drew1 HB2.out, HOq.out⟩) (fun hHeld => ?_); refine with_tabW im11tab im11bits (fun HT_ HW_ => ?_)
  have HG5q := Aside0.mk (show It w2.drew (w.heap.size + 1) x1 from HG5.out); have HG2q := Aside0.mk (show It w2.drew w.heap.size item0 from HG2'.out)
  generalize w2.drew = wq at hHeld HOq HG5q HG2q ⊢
  have hld : ∀ W : World, Below w.heap.size w W → (Instr.loadAt 26 (.pointer (some ad8))).run Try.prog W = .ok (.agg (nums .u8 z9).toArray) W := fun W hW => by
    obtain ⟨ad9, e9, hc9⟩ := CB.cells (hC9 _ (hC8 W (Kd.C_below HR.out hW))) (by rw [hz32.out]; decide)
    cases e9
    exact run_loadVar_at ad8 26 (nums .u8 z9) _ hc9 Try.underlying26 rfl (by rw [nums_length, hz32.out]; exact info26)
  refine pure_ (i := 0) (N := some 37) (v := ?_) (a' := ?_) #[true, false, false, false, false, false, false, false, false, false] rfl rfl (any_of HT_.out (by kernel_rfl)) (fun _ _ _ h => h) (Or.inl ⟨by rfl, ?_⟩) ?_ ?_
  rotate_left
  · intro w'
    go_simp
    with_reducible rfl
  rotate_left
  · simp only [Act.put, List.setIfInBounds_toArray, List.set_cons_zero, List.set_cons_succ, i64_w, i32_w]
    rfl
  refine take_ (i := 1) (N := some 38) (v := ?_) (a' := ?_) #[true, true, false, false, false, false, false, false, false, false] rfl rfl (take_ofW HT_.out HW_.out (by kernel_rfl)) (fun _ _ _ h => h) (Or.inl ⟨by rfl, ?_⟩) hHeld ?_ ?_
  rotate_left
  · intro w' hw'
    have hf0_ := (show (convert 33 9 v2).run Try.prog w' = .ok (.string s) w' by rw [hs.out]; exact own_string (P := Try.prog) Try.underlying33 Try.underlying5 Try.underlying9 (RB.own hw'.2))
    go_simp
    with_reducible rfl
  rotate_left
  · simp only [Act.put, List.setIfInBounds_toArray, List.set_cons_zero, List.set_cons_succ, i64_w, i32_w]
    rfl
  refine pure_ (i := 2) (N := some 39) (v := ?_) (a' := ?_) #[true, true, true, false, false, false, false, false, false, false] rfl rfl (any_of HT_.out (by kernel_rfl)) (fun _ _ _ h => h) (Or.inl ⟨by rfl, ?_⟩) ?_ ?_
  rotate_left
  · intro w'
    go_simp
    with_reducible rfl
  rotate_left
  · simp only [Act.put, List.setIfInBounds_toArray, List.set_cons_zero, List.set_cons_succ, i64_w, i32_w]
    rfl
  refine pure_ (i := 3) (N := some 40) (v := ?_) (a' := ?_) #[true, true, true, true, false, false, false, false, false, false] rfl rfl (any_of HT_.out (by kernel_rfl)) (fun _ _ _ h => h) (Or.inl ⟨by rfl, ?_⟩) ?_ ?_
  rotate_left
  · intro w'
    go_simp
    with_reducible rfl
  rotate_left
  · simp only [Act.put, List.setIfInBounds_toArray, List.set_cons_zero, List.set_cons_succ, i64_w, i32_w]
    rfl
  refine pure_ (i := 4) (N := some 41) (v := ?_) (a' := ?_) #[true, true, true, true, true, false, false, false, false, false] rfl rfl (any_of HT_.out (by kernel_rfl)) (fun _ _ _ h => h) (Or.inl ⟨by rfl, ?_⟩) ?_ ?_
  rotate_left
  · intro w'
    go_simp
    with_reducible rfl
  rotate_left
  · simp only [Act.put, List.setIfInBounds_toArray, List.set_cons_zero, List.set_cons_succ, i64_w, i32_w]
    rfl
  refine take_ (i := 5) (N := some 42) (v := (.agg (nums .u8 z9).toArray)) (a' := ?_) #[true, true, true, true, true, true, false, false, false, false] rfl rfl (take_ofW HT_.out HW_.out (by kernel_rfl)) (fun _ _ _ h => h) (Or.inl ⟨by rfl, fun w' hw' => load_run rfl rfl (hld w' hw'.1)⟩) hHeld ?_ ?_
  rotate_left
  · simp only [Act.put, List.setIfInBounds_toArray, List.set_cons_zero, List.set_cons_succ, i64_w, i32_w]
    rfl
  refine pure_ (i := 6) (N := some 43) (v := ?_) (a' := ?_) #[true, true, true, true, true, true, true, false, false, false] rfl rfl (any_of HT_.out (by kernel_rfl)) (fun _ _ _ h => h) (Or.inl ⟨by rfl, ?_⟩) ?_ ?_
  rotate_left
  · intro w'
    go_simp
    with_reducible rfl
  rotate_left
  · simp only [Act.put, List.setIfInBounds_toArray, List.set_cons_zero, List.set_cons_succ, i64_w, i32_w]
    rfl
  refine one_ (i := 7) (N := none) #[true, true, true, true, true, true, true, true, false, false] rfl rfl (one_of HT_.out (by kernel_rfl)) (by decide) (fun K hK => ?_)
  refine skip_ (by rfl) rfl (put_run rfl rfl rfl (put_name HG5q.out ok1 s)) ?_
  have HS1 := Aside0.mk (show Below w.heap.size w (wq.setRow (w.heap.size + 1) (cellsOf { x1 with name := s }).toArray) ∧ RB (wq.setRow (w.heap.size + 1) (cellsOf { x1 with name := s }).toArray) w.heap.size v2 lb from ⟨below_setRow hHeld.1 (by omega) _, rb_other hHeld.2 HG5q.out (by decide) (grown_put _ _ _)⟩)
  have N5 := Aside0.mk (it_put { x1 with name := s } HG5q.out)
  have N2 := Aside0.mk (show It (wq.setRow (w.heap.size + 1) (cellsOf { x1 with name := s }).toArray) w.heap.size item0 from blk_grown HG2q.out (grown_put _ _ _) (by simp))
  generalize wq.setRow (w.heap.size + 1) (cellsOf { x1 with name := s }).toArray = wa at HS1 N5 N2 hK ⊢
  refine hK.out _ _ HS1.out (fun hHeld => ?_)
  clear hK K HS1 HG5q HG2q
  have HG2q := N2; have HG5q := N5
  clear N2 N5
  refine pure_ (i := 8) (N := some 44) (v := ?_) (a' := ?_) #[true, true, true, true, true, true, true, true, true, false] rfl rfl (any_of HT_.out (by kernel_rfl)) (fun _ _ _ h => h) (Or.inl ⟨by rfl, ?_⟩) ?_ ?_
  rotate_left
  · intro w'
    go_simp
    with_reducible rfl
  rotate_left
  · simp only [Act.put, List.setIfInBounds_toArray, List.set_cons_zero, List.set_cons_succ, i64_w, i32_w]
    rfl
  refine one_ (i := 9) (N := none) #[true, true, true, true, true, true, true, true, true, true] rfl rfl (one_of HT_.out (by kernel_rfl)) (by decide) (fun K hK => ?_)
  refine skip_ (by rfl) rfl (put_run rfl rfl rfl (put_of HG5q.out ok1 z9 hz32.out)) ?_
  have HS1 := Aside0.mk (show Below w.heap.size w (wa.setRow (w.heap.size + 1) (cellsOf { x1 with name := s, of := z9 }).toArray) ∧ RB (wa.setRow (w.heap.size + 1) (cellsOf { x1 with name := s, of := z9 }).toArray) w.heap.size v2 lb from ⟨below_setRow hHeld.1 (by omega) _, rb_other hHeld.2 HG5q.out (by decide) (grown_put _ _ _)⟩)
  have N5 := Aside0.mk (it_put { x1 with name := s, of := z9 } HG5q.out)
  have N2 := Aside0.mk (show It (wa.setRow (w.heap.size + 1) (cellsOf { x1 with name := s, of := z9 }).toArray) w.heap.size item0 from blk_grown HG2q.out (grown_put _ _ _) (by simp))
  generalize wa.setRow (w.heap.size + 1) (cellsOf { x1 with name := s, of := z9 }).toArray = wb at HS1 N5 N2 hK ⊢
  refine hK.out _ _ HS1.out (fun hHeld => ?_)
  clear hK K HS1 HG5q HG2q
  have HG2q := N2; have HG5q := N5
  clear N2 N5
  refine done_ (done_of HT_.out (by kernel_rfl)) ?_
  clear HT_ HW_ hld hadc
  obtain ⟨x3, hx3⟩ : ∃ x3, Aside0 (x3 = ({ x1 with name := s, of := z9 } : Itm)) := ⟨_, ⟨rfl⟩⟩
  have ok3 : Ok x3 := by rw [hx3.out]; exact hz32.out
  rw [← hx3.out] at HG5q
  have HBq := Aside0.mk hHeld.1
  clear hHeld
  go_wp2_with fail
  refine (POct.octet_TakeCount.calls 40 A12 (c - (1 + n7).toNat - 32) y12 nv nk ne wb (hC12 wb (hC8 wb (Kd.C_below HR.out HBq.out))) HC12.out htk.out).mono ?_
  rintro e9 w9 ⟨rfl, hd9⟩
  have hb9 := hd9.below
  have HB9 := Aside0.mk (below_step HBq.out hb9); have HG59 := Aside0.mk (show It w9 (w.heap.size + 1) x3 from (hb9.block _ (blk_lt HG5q.out)).trans HG5q.out); have HG29 := Aside0.mk (show It w9 w.heap.size item0 from (hb9.block _ (blk_lt HG2q.out)).trans HG2q.out)
  clear hb9 hd9 HBq HG5q HG2q
  go_wp2_with (first | (refine op_load rfl 28 (.tmp 5) rfl (w.heap.size + 1) rfl 28 (cellsOf x3).toArray _ HG59.out Try.underlying28 rfl 35 info28 (cells_sz ok3) ?_) | (refine op_store (w0 := w) w.heap.size rfl 28 (.tmp 2) (.tmp 59) rfl w.heap.size (cellsOf x3).toArray rfl rfl 28 (cellsOf item0).toArray HG29.out 35 info28 (cells_sz ok3) (cells_sz ok0) (cells_all _) HB9.out (Nat.le_refl _) ?_; intro wz hgz _ HBz))
  exact ret_row3 rfl w.heap.size rfl 28 (cellsOf x3).toArray _ hgz.out Try.underlying28 rfl 35 info28 (cells_sz ok3) rfl ⟨_, fits_of ok3, rfl, HBz.out⟩

set_option maxHeartbeats 3200000 in
theorem item_yes (A : Option Addr) (c : Nat) (b : List Int) (w : World) (hr : CB w A b) (hc : b.length ≤ c) (hmx : b.length ≤ 100000) (hby : ∀ x ∈ b, 0 ≤ x ∧ x < 256) (c0 : Int) (r : List Int) (hb : b = c0 :: r) (lb : List Int) (n7 : Int) (htx_ : Aside0 (POct.octet_TakeText.f 40 r = some (lb, n7, 0))) (hn0 : 0 ≤ n7) (hn1 : n7 ≤ r.length) (hsh : 32 ≤ (b.length : Int) - (1 + n7)) (nv nk ne : Int) (htk_ : Aside0 (POct.octet_TakeCount.f 40 ((r.drop n7.toNat).drop 32) = some (nv, nk, ne))) (hne : (ne != 0) = false) (hbg : decide (9223372036854775807 < nv) = false) (hv0 : 0 ≤ nv) (hk0 : 0 ≤ nk) (hk1 : nk ≤ ((r.drop n7.toNat).drop 32).length) :
    Calls Try.prog 34 #[.slice A b.length c] w fun e w' => ∃ (A' : Option Addr) (c' : Nat), e = .returned (.tuple #[.agg (cellsOf ⟨strOfNums lb, c0, (r.drop n7.toNat).take 32, nv⟩).toArray, .slice A' (((r.drop n7.toNat).drop 32).drop nk.toNat).length c', .bool true]) ∧ (((r.drop n7.toNat).drop 32).drop nk.toNat).length ≤ c' ∧ (∀ W, CB W A b → CB W A' (((r.drop n7.toNat).drop 32).drop nk.toNat)) ∧ Below w.heap.size w w' := by
  have hwv : IntKind.i64.wrap nv = nv := (IntWalk.i64_left nv).trans (time_in hv0 hbg)
  have hwv2 : wrap64 nv = nv := time_in hv0 hbg
  have hk1' : nk ≤ (r.length : Int) - n7 - 32 ∨ nk ≤ 0 := by simp at hk1; omega
  obtain ⟨e7, he7⟩ : ∃ e7 : Int, e7 = 0 := ⟨0, rfl⟩
  rw [← he7] at htx_
  have hez : (e7 != 0) = false := by rw [he7]; rfl
  clear he7
  have htx := htx_
  clear htx_
  have HR := Aside0.mk hr
  have HC := Aside0.mk hc
  have HB := Aside0.mk (show Below w.heap.size w ((w.alloc (.cells (cellsOf item0).toArray 28)).alloc (.cells (cellsOf item0).toArray 28)) from ((Below.refl w.heap.size w).alloc (Nat.le_refl _) _).alloc (by simp) _)
  have hg5 := Aside0.mk (show It ((w.alloc (.cells (cellsOf item0).toArray 28)).alloc (.cells (cellsOf item0).toArray 28)) (w.heap.size + 1) item0 by have := heap_alloc_new (w.alloc (.cells (cellsOf item0).toArray 28)) (.cells (cellsOf item0).toArray 28); simpa [It] using this)
  have hg2 := Aside0.mk (show It ((w.alloc (.cells (cellsOf item0).toArray 28)).alloc (.cells (cellsOf item0).toArray 28)) w.heap.size item0 from (((Below.refl (w.alloc (.cells (cellsOf item0).toArray 28)).heap.size _).alloc (Nat.le_refl _) _).block _ (by simp)).trans (heap_alloc_new w _))
  have hlen : b.length = r.length + 1 := by rw [hb]; rfl
  have d0 : ((b.length : Int) == 0) = false := beq_eq_false_iff_ne.2 (by omega)
  obtain ⟨ad, hA, hcl⟩ := CB.cells (Kd.C_below hr HB.out) (by omega)
  subst hA
  have kc0 : ((w.alloc (.cells (cellsOf item0).toArray 28)).alloc (.cells (cellsOf item0).toArray 28)).cell? ad = some (.int .u8 c0) := by have := hcl 0 (.int .u8 c0) (by rw [hb]; rfl); exact this
  have hw0 : IntKind.i64.wrap c0 = c0 := by have := hby c0 (by rw [hb]; simp); rw [IntKind.wrap_i64]; omega
  obtain ⟨y1, A1, hy1, hl1, hc1_, hcut1, hC1⟩ := cut_drop (P := Try.prog) 33 Try.underlying33 POct.info5 (some ad) c b 1 (by omega) (by omega) hc
  have hy1r : y1 = r := by rw [hy1, hb]; rfl
  subst hy1r
  have HC1 := Aside0.mk hc1_
  have HLEN := Aside0.mk hlen
  have hpos : 0 < b.length := by omega
  have hbr := Aside0.mk hb
  clear hy1 hl1 hc1_ hcl hr hc hlen hb hby
  obtain ⟨y8, A8, hy8, hl8, hc8_, hcut8, hC8⟩ := cut_drop (P := Try.prog) 33 Try.underlying33 POct.info5 (some ad) c b (1 + n7) (by omega) (by have := HLEN.out; omega) HC.out
  have hn2 : n7 ≤ 100000 := by have := HLEN.out; omega
  have HC8 := Aside0.mk hc8_; have HY8 := Aside0.mk hy8; have HL8 := Aside0.mk hl8
  clear hy8 hl8 hc8_
  have d9 : decide ((y8.length : Int) < 32) = false := decide_eq_false (by have := HL8.out; omega)
  obtain ⟨z9, hz9, hl9, hc9_, hcut9, hC9⟩ := cut_take (P := Try.prog) 33 Try.underlying33 POct.info5 A8 (c - (1 + n7).toNat) y8 32 (by omega) (by have := HL8.out; omega) HC8.out
  have hz32 : Aside0 (z9.length = 32) := ⟨by omega⟩
  have HZ9 := Aside0.mk hz9
  have harr := fun (cc : Nat) => array_at (P := Try.prog) 26 32 (by kernel_rfl) A8 z9.length cc (by omega)
  clear hz9 hl9 hc9_
  obtain ⟨y12, A12, hy12, hl12, hc12_, hcut12, hC12⟩ := cut_drop (P := Try.prog) 33 Try.underlying33 POct.info5 A8 (c - (1 + n7).toNat) y8 32 (by omega) (by have := HL8.out; omega) HC8.out
  have HC12 := Aside0.mk hc12_; have HY12 := Aside0.mk hy12; have HL12 := Aside0.mk hl12
  clear hy12 hl12 hc12_
  obtain ⟨s, hs⟩ : ∃ s, Aside0 (s = strOfNums lb) := ⟨_, ⟨rfl⟩⟩
  have htk : Aside0 (POct.octet_TakeCount.f 40 y12 = some (nv, nk, ne)) := ⟨by rw [HY12.out, HY8.out, hbr.out, show (c0 :: y1).drop (1 + n7).toNat = y1.drop n7.toNat by rw [show (1 + n7).toNat = n7.toNat + 1 by omega]; rfl]; exact htk_.out⟩
  obtain ⟨yF, AF, hyF, hlF, hcF_, hcutF, hCF⟩ := cut_drop (P := Try.prog) 33 Try.underlying33 POct.info5 A12 (c - (1 + n7).toNat - 32) y12 nk hk0 (by have := HL12.out; have := HL8.out; have := HLEN.out; omega) HC12.out
  have HCF := Aside0.mk hcF_; have HYF := Aside0.mk hyF
  clear hyF hlF hcF_
  go_enter Try.func34, Try.ntmps34
  go_wp2_with (first | (with_reducible refine op_alloc rfl 28 rfl _ zero28 ?_) | (refine op_put (w0 := w) w.heap.size rfl 3 (.tmp 18) (.tmp 17) rfl (w.heap.size + 1) 1 (.int .i64 c0) item0 { item0 with kind := c0 } rfl rfl hg5.out (put_kind hg5.out ok0 c0) HB.out (by omega) ?_; intro w1 hg1 hw1 HB1))
  have hsz1 := Aside0.mk HB1.out.size
  have HG2 := Aside0.mk (show It w1 w.heap.size item0 from blk_grown hg2.out hw1.out (by simp))
  refine (POct.octet_TakeText.calls 40 A1 (c - 1) y1 lb n7 e7 w1 (hC1 w1 (Kd.C_below HR.out HB1.out)) HC1.out htx.out).mono ?_
  rintro e2 w2 ⟨v2, rfl, ho2, hb2⟩
  have HB2 := Aside0.mk (below_step HB1.out hb2); have HG5 := Aside0.mk (show It w2 (w.heap.size + 1) { item0 with kind := c0 } from (hb2.block _ (blk_lt hg1.out)).trans hg1.out); have HG2' := Aside0.mk (show It w2 w.heap.size item0 from (hb2.block _ (blk_lt HG2.out)).trans HG2.out); have HO2 := Aside0.mk ho2
  clear hb2 ho2 HG2 hg1 hw1 HB1 hg2 hg5 HB kc0
  have HO2 := Aside0.mk (Kd.R_lower HO2.out (show w.heap.size ≤ w1.heap.size from hsz1.out))
  obtain ⟨x1, hx1⟩ : ∃ x1, Aside0 (x1 = { item0 with kind := c0 }) := ⟨_, ⟨rfl⟩⟩
  have ok1 : Ok x1 := by rw [hx1.out]; exact ok0
  rw [← hx1.out] at HG5
  go_wp2_with fail
  have HOq := Aside0.mk (Kd.R_below HO2.out (below_drew1 (Below.refl _ _)))
  obtain ⟨ad8, hA8, hadc⟩ := CB.cells (hC9 _ (hC8 w2 (Kd.C_below HR.out HB2.out))) (by rw [hz32.out]; decide)
  subst hA8
  refine start_ (n := 10) (S := (fun W_ => Below w.heap.size w W_ ∧ RB W_ w.heap.size v2 lb)) (ds := []) #[false, false, false, false, false, false, false, false, false, false] (by kernel_rfl) rfl rfl (⟨below_drew1 HB2.out, HOq.out⟩) (fun hHeld => ?_); refine with_tabW im11tab im11bits (fun HT_ HW_ => ?_)
  have HG5q := Aside0.mk (show It w2.drew (w.heap.size + 1) x1 from HG5.out); have HG2q := Aside0.mk (show It w2.drew w.heap.size item0 from HG2'.out)
  generalize w2.drew = wq at hHeld HOq HG5q HG2q ⊢
  have hld : ∀ W : World, Below w.heap.size w W → (Instr.loadAt 26 (.pointer (some ad8))).run Try.prog W = .ok (.agg (nums .u8 z9).toArray) W := fun W hW => by
    obtain ⟨ad9, e9, hc9⟩ := CB.cells (hC9 _ (hC8 W (Kd.C_below HR.out hW))) (by rw [hz32.out]; decide)
    cases e9
    exact run_loadVar_at ad8 26 (nums .u8 z9) _ hc9 Try.underlying26 rfl (by rw [nums_length, hz32.out]; exact info26)
  refine pure_ (i := 0) (N := some 37) (v := ?_) (a' := ?_) #[true, false, false, false, false, false, false, false, false, false] rfl rfl (any_of HT_.out (by kernel_rfl)) (fun _ _ _ h => h) (Or.inl ⟨by rfl, ?_⟩) ?_ ?_
  rotate_left
  · intro w'
    go_simp
    with_reducible rfl
  rotate_left
  · simp only [Act.put, List.setIfInBounds_toArray, List.set_cons_zero, List.set_cons_succ, i64_w, i32_w]
    rfl
  refine take_ (i := 1) (N := some 38) (v := ?_) (a' := ?_) #[true, true, false, false, false, false, false, false, false, false] rfl rfl (take_ofW HT_.out HW_.out (by kernel_rfl)) (fun _ _ _ h => h) (Or.inl ⟨by rfl, ?_⟩) hHeld ?_ ?_
  rotate_left
  · intro w' hw'
    have hf0_ := (show (convert 33 9 v2).run Try.prog w' = .ok (.string s) w' by rw [hs.out]; exact own_string (P := Try.prog) Try.underlying33 Try.underlying5 Try.underlying9 (RB.own hw'.2))
    go_simp
    with_reducible rfl
  rotate_left
  · simp only [Act.put, List.setIfInBounds_toArray, List.set_cons_zero, List.set_cons_succ, i64_w, i32_w]
    rfl
  refine pure_ (i := 2) (N := some 39) (v := ?_) (a' := ?_) #[true, true, true, false, false, false, false, false, false, false] rfl rfl (any_of HT_.out (by kernel_rfl)) (fun _ _ _ h => h) (Or.inl ⟨by rfl, ?_⟩) ?_ ?_
  rotate_left
  · intro w'
    go_simp
    with_reducible rfl
  rotate_left
  · simp only [Act.put, List.setIfInBounds_toArray, List.set_cons_zero, List.set_cons_succ, i64_w, i32_w]
    rfl
  refine pure_ (i := 3) (N := some 40) (v := ?_) (a' := ?_) #[true, true, true, true, false, false, false, false, false, false] rfl rfl (any_of HT_.out (by kernel_rfl)) (fun _ _ _ h => h) (Or.inl ⟨by rfl, ?_⟩) ?_ ?_
  rotate_left
  · intro w'
    go_simp
    with_reducible rfl
  rotate_left
  · simp only [Act.put, List.setIfInBounds_toArray, List.set_cons_zero, List.set_cons_succ, i64_w, i32_w]
    rfl
  refine pure_ (i := 4) (N := some 41) (v := ?_) (a' := ?_) #[true, true, true, true, true, false, false, false, false, false] rfl rfl (any_of HT_.out (by kernel_rfl)) (fun _ _ _ h => h) (Or.inl ⟨by rfl, ?_⟩) ?_ ?_
  rotate_left
  · intro w'
    go_simp
    with_reducible rfl
  rotate_left
  · simp only [Act.put, List.setIfInBounds_toArray, List.set_cons_zero, List.set_cons_succ, i64_w, i32_w]
    rfl
  refine take_ (i := 5) (N := some 42) (v := (.agg (nums .u8 z9).toArray)) (a' := ?_) #[true, true, true, true, true, true, false, false, false, false] rfl rfl (take_ofW HT_.out HW_.out (by kernel_rfl)) (fun _ _ _ h => h) (Or.inl ⟨by rfl, fun w' hw' => load_run rfl rfl (hld w' hw'.1)⟩) hHeld ?_ ?_
  rotate_left
  · simp only [Act.put, List.setIfInBounds_toArray, List.set_cons_zero, List.set_cons_succ, i64_w, i32_w]
    rfl
  refine pure_ (i := 6) (N := some 43) (v := ?_) (a' := ?_) #[true, true, true, true, true, true, true, false, false, false] rfl rfl (any_of HT_.out (by kernel_rfl)) (fun _ _ _ h => h) (Or.inl ⟨by rfl, ?_⟩) ?_ ?_
  rotate_left
  · intro w'
    go_simp
    with_reducible rfl
  rotate_left
  · simp only [Act.put, List.setIfInBounds_toArray, List.set_cons_zero, List.set_cons_succ, i64_w, i32_w]
    rfl
  refine one_ (i := 7) (N := none) #[true, true, true, true, true, true, true, true, false, false] rfl rfl (one_of HT_.out (by kernel_rfl)) (by decide) (fun K hK => ?_)
  refine skip_ (by rfl) rfl (put_run rfl rfl rfl (put_name HG5q.out ok1 s)) ?_
  have HS1 := Aside0.mk (show Below w.heap.size w (wq.setRow (w.heap.size + 1) (cellsOf { x1 with name := s }).toArray) ∧ RB (wq.setRow (w.heap.size + 1) (cellsOf { x1 with name := s }).toArray) w.heap.size v2 lb from ⟨below_setRow hHeld.1 (by omega) _, rb_other hHeld.2 HG5q.out (by decide) (grown_put _ _ _)⟩)
  have N5 := Aside0.mk (it_put { x1 with name := s } HG5q.out)
  have N2 := Aside0.mk (show It (wq.setRow (w.heap.size + 1) (cellsOf { x1 with name := s }).toArray) w.heap.size item0 from blk_grown HG2q.out (grown_put _ _ _) (by simp))
  generalize wq.setRow (w.heap.size + 1) (cellsOf { x1 with name := s }).toArray = wa at HS1 N5 N2 hK ⊢
  refine hK.out _ _ HS1.out (fun hHeld => ?_)
  clear hK K HS1 HG5q HG2q
  have HG2q := N2; have HG5q := N5
  clear N2 N5
  refine pure_ (i := 8) (N := some 44) (v := ?_) (a' := ?_) #[true, true, true, true, true, true, true, true, true, false] rfl rfl (any_of HT_.out (by kernel_rfl)) (fun _ _ _ h => h) (Or.inl ⟨by rfl, ?_⟩) ?_ ?_
  rotate_left
  · intro w'
    go_simp
    with_reducible rfl
  rotate_left
  · simp only [Act.put, List.setIfInBounds_toArray, List.set_cons_zero, List.set_cons_succ, i64_w, i32_w]
    rfl
  refine one_ (i := 9) (N := none) #[true, true, true, true, true, true, true, true, true, true] rfl rfl (one_of HT_.out (by kernel_rfl)) (by decide) (fun K hK => ?_)
  refine skip_ (by rfl) rfl (put_run rfl rfl rfl (put_of HG5q.out ok1 z9 hz32.out)) ?_
  have HS1 := Aside0.mk (show Below w.heap.size w (wa.setRow (w.heap.size + 1) (cellsOf { x1 with name := s, of := z9 }).toArray) ∧ RB (wa.setRow (w.heap.size + 1) (cellsOf { x1 with name := s, of := z9 }).toArray) w.heap.size v2 lb from ⟨below_setRow hHeld.1 (by omega) _, rb_other hHeld.2 HG5q.out (by decide) (grown_put _ _ _)⟩)
  have N5 := Aside0.mk (it_put { x1 with name := s, of := z9 } HG5q.out)
  have N2 := Aside0.mk (show It (wa.setRow (w.heap.size + 1) (cellsOf { x1 with name := s, of := z9 }).toArray) w.heap.size item0 from blk_grown HG2q.out (grown_put _ _ _) (by simp))
  generalize wa.setRow (w.heap.size + 1) (cellsOf { x1 with name := s, of := z9 }).toArray = wb at HS1 N5 N2 hK ⊢
  refine hK.out _ _ HS1.out (fun hHeld => ?_)
  clear hK K HS1 HG5q HG2q
  have HG2q := N2; have HG5q := N5
  clear N2 N5
  refine done_ (done_of HT_.out (by kernel_rfl)) ?_
  clear HT_ HW_ hld hadc
  obtain ⟨x3, hx3⟩ : ∃ x3, Aside0 (x3 = ({ x1 with name := s, of := z9 } : Itm)) := ⟨_, ⟨rfl⟩⟩
  have ok3 : Ok x3 := by rw [hx3.out]; exact hz32.out
  rw [← hx3.out] at HG5q
  have HBq := Aside0.mk hHeld.1
  clear hHeld
  go_wp2_with fail
  refine (POct.octet_TakeCount.calls 40 A12 (c - (1 + n7).toNat - 32) y12 nv nk ne wb (hC12 wb (hC8 wb (Kd.C_below HR.out HBq.out))) HC12.out htk.out).mono ?_
  rintro e9 w9 ⟨rfl, hd9⟩
  have hb9 := hd9.below
  have HB9 := Aside0.mk (below_step HBq.out hb9); have HG59 := Aside0.mk (show It w9 (w.heap.size + 1) x3 from (hb9.block _ (blk_lt HG5q.out)).trans HG5q.out); have HG29 := Aside0.mk (show It w9 w.heap.size item0 from (hb9.block _ (blk_lt HG2q.out)).trans HG2q.out)
  clear hb9 hd9 HBq HG5q HG2q
  go_wp2_with (first | (refine op_put (w0 := w) w.heap.size rfl 2 (.tmp 62) (.tmp 61) rfl (w.heap.size + 1) 34 (.int .i64 nv) x3 { x3 with size := nv } rfl rfl HG59.out (put_size HG59.out ok3 nv) HB9.out (by omega) ?_; intro w10 hg10 hw10 HB10))
  have HG210 := Aside0.mk (show It w10 w.heap.size item0 from blk_grown HG29.out hw10.out (by simp))
  obtain ⟨x4, hx4⟩ : ∃ x4, Aside0 (x4 = ({ x3 with size := nv } : Itm)) := ⟨_, ⟨rfl⟩⟩
  have ok4 : Ok x4 := by rw [hx4.out]; exact ok3
  rw [← hx4.out] at hg10
  simp only [Act.put, List.setIfInBounds_toArray, List.set_cons_zero, List.set_cons_succ]
  refine start_ (n := 7) (S := (fun W_ => Below w.heap.size w W_ ∧ It W_ (w.heap.size + 1) x4)) (ds := []) #[false, false, false, false, false, false, false] (by kernel_rfl) rfl rfl (⟨below_drew1 HB10.out, hg10.out⟩) (fun hHeld => ?_); refine with_tabW im17tab im17bits (fun HT_ HW_ => ?_)
  have HG2q := Aside0.mk (show It w10.drew w.heap.size item0 from HG210.out)
  generalize w10.drew = wq at hHeld HG2q ⊢
  refine take_ (i := 0) (N := some 63) (v := (.agg (cellsOf x4).toArray)) (a' := ?_) #[true, false, false, false, false, false, false] rfl rfl (take_ofW HT_.out HW_.out (by kernel_rfl)) (fun _ _ _ h => h) (Or.inl ⟨by rfl, fun w' hw' => load_run rfl rfl (load_it hw'.2 ok4)⟩) hHeld ?_ ?_
  rotate_left
  · simp only [Act.put, List.setIfInBounds_toArray, List.set_cons_zero, List.set_cons_succ, i64_w, i32_w]
    rfl
  refine pure_ (i := 1) (N := some 64) (v := ?_) (a' := ?_) #[true, true, false, false, false, false, false] rfl rfl (any_of HT_.out (by kernel_rfl)) (fun _ _ _ h => h) (Or.inl ⟨by rfl, ?_⟩) ?_ ?_
  rotate_left
  · intro w'
    go_simp
    with_reducible rfl
  rotate_left
  · simp only [Act.put, List.setIfInBounds_toArray, List.set_cons_zero, List.set_cons_succ, i64_w, i32_w]
    rfl
  refine pure_ (i := 2) (N := some 65) (v := ?_) (a' := ?_) #[true, true, true, false, false, false, false] rfl rfl (any_of HT_.out (by kernel_rfl)) (fun _ _ _ h => h) (Or.inl ⟨by rfl, ?_⟩) ?_ ?_
  rotate_left
  · intro w'
    go_simp
    with_reducible rfl
  rotate_left
  · simp only [Act.put, List.setIfInBounds_toArray, List.set_cons_zero, List.set_cons_succ, i64_w, i32_w]
    rfl
  refine pure_ (i := 3) (N := some 66) (v := ?_) (a' := ?_) #[true, true, true, true, false, false, false] rfl rfl (any_of HT_.out (by kernel_rfl)) (fun _ _ _ h => h) (Or.inl ⟨by rfl, ?_⟩) ?_ ?_
  rotate_left
  · intro w'
    go_simp
    with_reducible rfl
  rotate_left
  · simp only [Act.put, List.setIfInBounds_toArray, List.set_cons_zero, List.set_cons_succ, i64_w, i32_w]
    rfl
  refine one_ (i := 4) (N := none) #[true, true, true, true, true, false, false] rfl rfl (one_of HT_.out (by kernel_rfl)) (by decide) (fun K hK => ?_)
  refine skip_ (by rfl) rfl (store_run wq 28 (.tmp 2) (.tmp 63) rfl w.heap.size (cellsOf x4).toArray rfl rfl 28 (cellsOf item0).toArray HG2q.out 35 info28 (cells_sz ok4) (cells_sz ok0) (cells_all x4)) ?_
  have HS1 := Aside0.mk (show Below w.heap.size w (wq.setRow w.heap.size (cellsOf x4).toArray) ∧ It (wq.setRow w.heap.size (cellsOf x4).toArray) (w.heap.size + 1) x4 from ⟨below_setRow hHeld.1 (Nat.le_refl _) _, blk_grown hHeld.2 (grown_put _ _ _) (by simp)⟩)
  have hgz := Aside0.mk (it_put x4 HG2q.out)
  generalize wq.setRow w.heap.size (cellsOf x4).toArray = wz at HS1 hgz hK ⊢
  refine hK.out _ _ HS1.out (fun hHeld => ?_)
  clear hK K HS1 HG2q
  refine pure_ (i := 5) (N := some 3) (v := ?_) (a' := ?_) #[true, true, true, true, true, true, false] rfl rfl (any_of HT_.out (by kernel_rfl)) (fun _ _ _ h => h) (Or.inl ⟨by rfl, ?_⟩) ?_ ?_
  rotate_left
  · intro w'
    go_simp
    with_reducible rfl
  rotate_left
  · simp only [Act.put, List.setIfInBounds_toArray, List.set_cons_zero, List.set_cons_succ, i64_w, i32_w]
    rfl
  refine pure_ (i := 6) (N := some 4) (v := ?_) (a' := ?_) #[true, true, true, true, true, true, true] rfl rfl (any_of HT_.out (by kernel_rfl)) (fun _ _ _ h => h) (Or.inl ⟨by rfl, ?_⟩) ?_ ?_
  rotate_left
  · intro w'
    go_simp
    with_reducible rfl
  rotate_left
  · simp only [Act.put, List.setIfInBounds_toArray, List.set_cons_zero, List.set_cons_succ, i64_w, i32_w]
    rfl
  refine done_ (done_of HT_.out (by kernel_rfl)) ?_
  clear HT_ HW_
  have hfin : Aside0 (x4 = ⟨strOfNums lb, c0, (y1.drop n7.toNat).take 32, nv⟩ ∧ yF = ((y1.drop n7.toNat).drop 32).drop nk.toNat) := ⟨by rw [hx4.out, hx3.out, hx1.out, hs.out, HZ9.out, HY8.out, hbr.out, show (c0 :: y1).drop (1 + n7).toNat = y1.drop n7.toNat by rw [show (1 + n7).toNat = n7.toNat + 1 by omega]; rfl]; rfl, by rw [HYF.out, HY12.out, HY8.out, hbr.out, show (c0 :: y1).drop (1 + n7).toNat = y1.drop n7.toNat by rw [show (1 + n7).toNat = n7.toNat + 1 by omega]; rfl]; rfl⟩
  go_wp2_with fail
  exact ret_row3 rfl w.heap.size rfl 28 (cellsOf x4).toArray _ hgz.out Try.underlying28 rfl 35 info28 (cells_sz ok4) rfl ⟨AF, _, by rw [← hfin.out.1, ← hfin.out.2]; rfl, by rw [← hfin.out.2]; exact HCF.out, by rw [← hfin.out.2]; exact fun W hW => hCF W (hC12 W (hC8 W hW)), hHeld.1⟩
end Go.Proofs.Ytmcankeggbofhaa.Iw
namespace Go.Proofs.Ytmcankeggbofhaa.Ip
open Go.RowKit Go.Proofs.YtmcankeggbofhaaW.PrintWords Go.Proofs.YtmcankeggbofhaaW.PrintMore
open It Nm Ag My Spc By Im Iw OctC OctD
set_option linter.unusedVariables false
set_option linter.unusedSimpArgs false
theorem takeT_bounds (l : List Int) (hb : ∀ x ∈ l, 0 ≤ x ∧ x < 256) (h : (OctD.takeT l).2.2 = 0) : 0 ≤ (OctD.takeT l).2.1 ∧ (OctD.takeT l).2.1 ≤ l.length ∧ (OctD.takeT l).1.length ≤ 65536 := by
  have hbd := take_bounds l hb 0 0 (by omega) (by simp)
  unfold OctD.takeT at h ⊢
  by_cases h0 : (OctC.take 0 0 l).2.2 = 0
  · rw [if_pos h0] at h ⊢
    obtain ⟨v, a, e, hv1, ha1, ha2, _⟩ := hbd.1 h0
    by_cases h1 : (OctC.take 0 0 l).1 > 65536
    · rw [if_pos h1] at h; simp at h
    rw [if_neg h1] at h ⊢
    by_cases h2 : (l.length : Int) - (OctC.take 0 0 l).2.1 < (OctC.take 0 0 l).1
    · rw [if_pos h2] at h; simp at h
    rw [if_neg h2]
    rw [e] at h1 h2 ⊢
    refine ⟨by simp; omega, by simp at h2 ⊢; omega, by simp; omega⟩
  · rw [if_neg h0] at h
    exact absurd h h0
theorem take_in (l : List Int) (hb : ∀ x ∈ l, 0 ≤ x ∧ x < 256) (h : (OctC.take 0 0 l).2.2 = 0) : 0 ≤ (OctC.take 0 0 l).1 ∧ 0 ≤ (OctC.take 0 0 l).2.1 ∧ (OctC.take 0 0 l).2.1 ≤ l.length ∧ (OctC.take 0 0 l).1 < 18446744073709551616 := by
  obtain ⟨v, a, e, hv1, ha1, ha2, _⟩ := (take_bounds l hb 0 0 (by omega) (by simp)).1 h
  rw [e]
  exact ⟨Int.natCast_nonneg _, Int.natCast_nonneg _, by show (a : Int) ≤ _; omega, by show (v : Int) < _; omega⟩
set_option maxHeartbeats 800000 in
theorem item_fails (A : Option Addr) (c : Nat) (b : List Int) (w : World) (hr : CB w A b) (hc : b.length ≤ c) (hmx : b.length ≤ 100000) (hby : ∀ x ∈ b, 0 ≤ x ∧ x < 256) (h : parse b = none) :
    Calls Try.prog 34 #[.slice A b.length c] w fun e w' => ∃ m : Array Value, Fits m ∧ e = .returned (.tuple #[.agg m, .slice none 0 0, .bool false]) ∧ Below w.heap.size w w' := by
  cases b with
  | nil => exact item_empty A c [] w hr hc hmx hby rfl
  | cons c0 r =>
    have hbr : ∀ x ∈ r, 0 ≤ x ∧ x < 256 := fun x hx => hby x (by simp [hx])
    have hrl : r.length ≤ 100000 := by simp at hmx; omega
    have htx := takeText_ok 40 r hbr (by omega) (by omega)
    obtain ⟨lb, n7, e7, ht⟩ : ∃ lb n7 e7, OctD.takeT r = (lb, n7, e7) := ⟨_, _, _, rfl⟩
    rw [ht] at htx
    by_cases he7 : e7 = 0
    · subst he7
      have hbn := takeT_bounds r hbr (by rw [ht])
      rw [ht] at hbn
      by_cases hsh : (r.length : Int) - n7 < 32
      · exact item_short A c (c0 :: r) w hr hc hmx hby c0 r rfl lb n7 ⟨htx⟩ hbn.1 hbn.2.1 (by simp; omega)
      · have hby2 : ∀ x ∈ (r.drop n7.toNat).drop 32, 0 ≤ x ∧ x < 256 := fun x hx => hbr x (List.mem_of_mem_drop (List.mem_of_mem_drop hx))
        have htk := takeCount_ok 40 ((r.drop n7.toNat).drop 32) hby2 (by simp; omega) (by omega)
        obtain ⟨nv, nk, ne, hk⟩ : ∃ nv nk ne, OctC.take 0 0 ((r.drop n7.toNat).drop 32) = (nv, nk, ne) := ⟨_, _, _, rfl⟩
        rw [hk] at htk
        by_cases hne : ne = 0
        · by_cases hbg : 9223372036854775807 < nv
          · exact item_big A c (c0 :: r) w hr hc hmx hby c0 r rfl lb n7 ⟨htx⟩ hbn.1 hbn.2.1 (by simp; omega) nv nk ne ⟨htk⟩ (by simp [hne]) (by simpa using hbg)
          · exfalso
            have hb0 : 0 ≤ n7 := hbn.1
            have hb1 : n7 ≤ r.length := hbn.2.1
            simp only [parse, ht] at h
            rw [if_neg (by simp), if_neg (by simp; omega)] at h
            rw [hk] at h
            simp only at h
            rw [if_neg (by rintro (h1 | h1); exact h1 hne; exact hbg h1)] at h
            exact absurd h (by simp)
        · exact item_count A c (c0 :: r) w hr hc hmx hby c0 r rfl lb n7 ⟨htx⟩ hbn.1 hbn.2.1 (by simp; omega) nv nk ne ⟨htk⟩ (by simpa using hne)
    · exact item_text A c (c0 :: r) w hr hc hmx hby c0 r rfl lb n7 e7 ⟨htx⟩ (by simpa using he7)
theorem item_gives (A : Option Addr) (c : Nat) (b : List Int) (w : World) (hr : CB w A b) (hc : b.length ≤ c) (hmx : b.length ≤ 100000) (hby : ∀ x ∈ b, 0 ≤ x ∧ x < 256) (x : Itm) (rest : List Int) (h : parse b = some (x, rest)) :
    Calls Try.prog 34 #[.slice A b.length c] w fun e w' => ∃ (A' : Option Addr) (c' : Nat), e = .returned (.tuple #[.agg (cellsOf x).toArray, .slice A' rest.length c', .bool true]) ∧ rest.length ≤ c' ∧ (∀ W, CB W A b → CB W A' rest) ∧ Below w.heap.size w w' := by
  cases b with
  | nil => simp [parse] at h
  | cons c0 r =>
    have hbr : ∀ x ∈ r, 0 ≤ x ∧ x < 256 := fun x hx => hby x (by simp [hx])
    have hrl : r.length ≤ 100000 := by simp at hmx; omega
    have htx := takeText_ok 40 r hbr (by omega) (by omega)
    obtain ⟨lb, n7, e7, ht⟩ : ∃ lb n7 e7, OctD.takeT r = (lb, n7, e7) := ⟨_, _, _, rfl⟩
    rw [ht] at htx
    simp only [parse, ht] at h
    by_cases he7 : e7 = 0
    · subst he7
      have hbn := takeT_bounds r hbr (by rw [ht])
      rw [ht] at hbn
      rw [if_neg (by simp)] at h
      by_cases hsh : (r.drop n7.toNat).length < 32
      · rw [if_pos hsh] at h; simp at h
      rw [if_neg hsh] at h
      have hby2 : ∀ x ∈ (r.drop n7.toNat).drop 32, 0 ≤ x ∧ x < 256 := fun x hx => hbr x (List.mem_of_mem_drop (List.mem_of_mem_drop hx))
      have htk := takeCount_ok 40 ((r.drop n7.toNat).drop 32) hby2 (by simp; omega) (by omega)
      obtain ⟨nv, nk, ne, hk⟩ : ∃ nv nk ne, OctC.take 0 0 ((r.drop n7.toNat).drop 32) = (nv, nk, ne) := ⟨_, _, _, rfl⟩
      rw [hk] at htk h
      simp only at h
      by_cases hbad : ne ≠ 0 ∨ 9223372036854775807 < nv
      · rw [if_pos hbad] at h; simp at h
      rw [if_neg hbad] at h
      simp only [Option.some.injEq, Prod.mk.injEq] at h
      obtain ⟨rfl, rfl⟩ := h
      have hne : ne = 0 := by
        by_cases h0 : ne = 0
        · exact h0
        · exact absurd (.inl h0) hbad
      have hin := take_in _ hby2 (by rw [hk]; exact hne)
      rw [hk] at hin
      have hbg : ¬ 9223372036854775807 < nv := fun h1 => hbad (.inr h1)
      exact item_yes A c (c0 :: r) w hr hc hmx hby c0 r rfl lb n7 ⟨htx⟩ hbn.1 hbn.2.1 (by simp at hsh ⊢; omega) nv nk ne ⟨htk⟩ (by simp [hne]) (by simpa using hbg) hin.1 hin.2.1 hin.2.2.1
    · rw [if_pos he7] at h; simp at h
theorem parse_ok (b : List Int) (hby : ∀ x ∈ b, 0 ≤ x ∧ x < 256) (x : Itm) (rest : List Int) (h : parse b = some (x, rest)) : Ok x ∧ 0 ≤ x.size ∧ x.size ≤ 9223372036854775807 ∧ (∀ y ∈ rest, y ∈ b) ∧ rest.length < b.length ∧ x.name.size ≤ 65536 := by
  cases b with
  | nil => simp [parse] at h
  | cons c0 r =>
    have hbr : ∀ x ∈ r, 0 ≤ x ∧ x < 256 := fun x hx => hby x (by simp [hx])
    obtain ⟨lb, n7, e7, ht⟩ : ∃ lb n7 e7, OctD.takeT r = (lb, n7, e7) := ⟨_, _, _, rfl⟩
    simp only [parse, ht] at h
    by_cases he7 : e7 = 0
    · subst he7
      have hbn := takeT_bounds r hbr (by rw [ht])
      rw [ht] at hbn
      rw [if_neg (by simp)] at h
      by_cases hsh : (r.drop n7.toNat).length < 32
      · rw [if_pos hsh] at h; simp at h
      rw [if_neg hsh] at h
      have hby2 : ∀ x ∈ (r.drop n7.toNat).drop 32, 0 ≤ x ∧ x < 256 := fun x hx => hbr x (List.mem_of_mem_drop (List.mem_of_mem_drop hx))
      obtain ⟨nv, nk, ne, hk⟩ : ∃ nv nk ne, OctC.take 0 0 ((r.drop n7.toNat).drop 32) = (nv, nk, ne) := ⟨_, _, _, rfl⟩
      rw [hk] at h
      simp only at h
      by_cases hbad : ne ≠ 0 ∨ 9223372036854775807 < nv
      · rw [if_pos hbad] at h; simp at h
      rw [if_neg hbad] at h
      simp only [Option.some.injEq, Prod.mk.injEq] at h
      obtain ⟨rfl, rfl⟩ := h
      have hne : ne = 0 := by
        by_cases h0 : ne = 0
        · exact h0
        · exact absurd (.inl h0) hbad
      have hin := take_in _ hby2 (by rw [hk]; exact hne)
      rw [hk] at hin
      have hbg : ¬ 9223372036854775807 < nv := fun h1 => hbad (.inr h1)
      refine ⟨by simp [Ok] at hsh ⊢; omega, hin.1, by show nv ≤ _; omega, fun y hy => ?_, by simp; omega, by rw [strOfNums_size]; exact hbn.2.2⟩
      exact List.mem_cons_of_mem _ (List.mem_of_mem_drop (List.mem_of_mem_drop (List.mem_of_mem_drop hy)))
    · rw [if_pos he7] at h; simp at h
end Go.Proofs.Ytmcankeggbofhaa.Ip
namespace Go.Proofs.Ytmcankeggbofhaa.Tk
open Go.RowKit Go.Proofs.YtmcankeggbofhaaW.PrintWords Go.Proofs.YtmcankeggbofhaaW.PrintMore
open It Nm Ag My Spc By Im Iw Ip OctC OctD
set_option linter.unusedVariables false
set_option linter.unusedSimpArgs false
set_option maxRecDepth 100000
def parseN : Nat → List Int → Option (List Itm × List Int)
  | 0, b => some ([], b)
  | n + 1, b => match parse b with
    | none => none
    | some (x, r) => (parseN n r).map fun p => (x :: p.1, p.2)
/-- the items so far, what is left, against the whole -/
def Upto (n : Nat) (b0 : List Int) (j : Nat) (acc : List Itm) (b : List Int) : Prop := acc.length = j ∧ j ≤ n ∧ parseN n b0 = (parseN (n - j) b).map (fun p => (acc ++ p.1, p.2)) ∧ (∀ x ∈ acc, Ok x ∧ 0 ≤ x.size ∧ x.size ≤ 9223372036854775807 ∧ x.name.size ≤ 65536)
theorem upto_none {n : Nat} {b0 : List Int} {j : Nat} {acc : List Itm} {b : List Int} (h : Upto n b0 j acc b) (hj : j < n) (hp : parse b = none) : parseN n b0 = none := by
  rw [h.2.2.1, show n - j = (n - j - 1) + 1 by omega, parseN, hp]
  rfl
theorem upto_some {n : Nat} {b0 : List Int} {j : Nat} {acc : List Itm} {b : List Int} (h : Upto n b0 j acc b) (hj : j < n) (hby : ∀ x ∈ b, 0 ≤ x ∧ x < 256) {x : Itm} {r : List Int} (hp : parse b = some (x, r)) : Upto n b0 (j + 1) (acc ++ [x]) r := by
  have hk := parse_ok b hby x r hp
  refine ⟨by rw [List.length_append, h.1]; rfl, by omega, ?_, ?_⟩
  · rw [h.2.2.1, show n - j = (n - (j + 1)) + 1 by omega, parseN, hp]
    simp only [Option.map_map]
    congr 1
    funext p
    simp
  · intro y hy
    rcases List.mem_append.1 hy with h1 | h1
    · exact h.2.2.2 y h1
    · rw [List.mem_singleton.1 h1]; exact ⟨hk.1, hk.2.1, hk.2.2.1, hk.2.2.2.2.2⟩
theorem upto_end {n : Nat} {b0 : List Int} {acc : List Itm} {b : List Int} (h : Upto n b0 n acc b) : parseN n b0 = some (acc, b) := by
  rw [h.2.2.1, Nat.sub_self]
  simp [parseN]
def takeOut (b : List Int) : Option (List Itm) :=
  if 4000 < b.length then none else if Lib.hasPrefix (strOfNums b).data.toList [68, 49] = false then none else
  let n := OctC.take 0 0 (b.drop 2)
  if n.2.2 ≠ 0 ∨ 64 < n.1 then none else
  match parseN n.1.toNat ((b.drop 2).drop n.2.1.toNat) with
  | none => none
  | some (l, r) => if 0 < r.length ∨ mayL l = false then none else some l
theorem pre_len {b : List Int} (h : Lib.hasPrefix (strOfNums b).data.toList [68, 49] = true) : 2 ≤ b.length := by
  have h1 : ([68, 49] : List UInt8).isPrefixOf (strOfNums b).data.toList = true := h
  have h2 := (List.isPrefixOf_iff_prefix.1 h1).length_le
  have h3 : (strOfNums b).data.toList.length = b.length := by have := strOfNums_size b; simpa using this
  rw [h3] at h2
  exact h2
theorem take_long (A : Option Addr) (c : Nat) (b : List Int) (w : World) (hr : CB w A b) (hc : b.length ≤ c) (hl : 4000 < b.length) :
    Calls Try.prog 20 #[.slice A b.length c] w fun e w' => e = .returned (.tuple #[.slice none 0 0, .int .i64 4]) ∧ Below w.heap.size w w' := by
  have d1 : decide (4000 < (b.length : Int)) = true := decide_eq_true (by omega)
  clear hr
  go_enter Try.func20, Try.ntmps20
  go_wp2_with fail
  go_ret2
  exact ⟨rfl, Below.refl _ _⟩
theorem take_other (A : Option Addr) (c : Nat) (b : List Int) (w : World) (hr : CB w A b) (hc : b.length ≤ c) (hl : b.length ≤ 4000) (hp : Lib.hasPrefix (strOfNums b).data.toList [68, 49] = false) :
    Calls Try.prog 20 #[.slice A b.length c] w fun e w' => e = .returned (.tuple #[.slice none 0 0, .int .i64 4]) ∧ Below w.heap.size w w' := by
  have d1 : decide (4000 < (b.length : Int)) = false := decide_eq_false (by omega)
  have hcv := Kd.C_string (P := Try.prog) (c := c) Try.underlying33 Try.underlying5 Try.underlying9 hr
  have HP := Aside0.mk (fun w => (Try.strings_HasPrefix (strOfNums b) ⟨#[68, 49]⟩ w))
  rw [show Lib.hasPrefix (strOfNums b).data.toList (⟨#[68, 49]⟩ : ByteArray).data.toList = false from hp] at HP
  clear hr hp
  go_enter Try.func20, Try.ntmps20
  go_wp2_with (go_at_call 32; refine (HP.out _).mono ?_; rintro e w' ⟨rfl, rfl⟩)
  go_ret2
  exact ⟨rfl, Below.refl _ _⟩
end Go.Proofs.Ytmcankeggbofhaa.Tk
namespace Go.Proofs.Ytmcankeggbofhaa.Tl
open Go.RowKit Go.Proofs.YtmcankeggbofhaaW.PrintWords Go.Proofs.YtmcankeggbofhaaW.PrintMore
open It Nm Ag My Spc By Im Iw Ip
set_option linter.unusedVariables false
set_option linter.unusedSimpArgs false
set_option maxRecDepth 100000
theorem lit_fill {base : Array Value} (hb : base.size = 35) {x : Itm} (hok : Ok x) : Instr.fill (fun i => some (i * 35, 35)) base [(0, .agg (cellsOf x).toArray)] = some (cellsOf x).toArray := by
  rw [fill_one _ _ 0 _ _ 0 35 rfl (by show (cellsOf x).toArray.size = 35; exact cells_sz hok) (by omega)]
  simp only [Instr.fill]
  congr 1
  have h35 : (cellsOf x).length = 35 := cells_len hok
  have hd : base.toList.drop 35 = [] := List.drop_of_length_le (by simp [hb])
  simp [Value.cells, h35, hb]
theorem info28z : (Try.prog.info? 28).map (fun i => (i.zero, i.size)) = some (some (.agg (cellsOf item0).toArray), 35) := by kernel_rfl
theorem info28b : (Try.prog.info? 28).map (fun i => (i.zero, i.size, i.bytes)) = some (some (.agg (cellsOf item0).toArray), 35, 64) := by kernel_rfl
theorem op_lit1 {ops : Array Oper} {rest : List Oper} {o : Oper} {a : Act} {Q : Exit → Act → World → Prop} {W : World} (hgd : o.guard = none) (y : Operand) (ho : o.op = .buildSlice 22 1 #[(0, y)]) (x : Itm) (hok : Ok x) (hy : a.eval y = .agg (cellsOf x).toArray)
    (h : wpList Try.prog ops Q rest (a.put o.dst (.slice (some ⟨W.heap.size, 0, none⟩) 1 1)) (W.alloc (.cells (cellsOf x).toArray 28))) : wpList Try.prog ops Q (o :: rest) a W := by
  obtain ⟨ie, hi, hz⟩ := Option.map_eq_some_iff.1 info28z
  simp only [Prod.mk.injEq] at hz
  refine wpList_buildSlice hgd 22 28 1 #[(0, y)] ho (cellsOf x).toArray ie _ Try.underlying22 hi hz.1 (by rw [hz.2]; decide) (by rw [hz.2]; decide) ?_ h
  rw [hz.2, Array.toList_map]
  show Instr.fill _ _ [(0, a.eval y)] = _
  rw [hy]
  exact lit_fill (by simp) hok
end Go.Proofs.Ytmcankeggbofhaa.Tl
namespace Go.Proofs.Ytmcankeggbofhaa.Tg
open Go.RowKit Go.Proofs.YtmcankeggbofhaaW.PrintWords Go.Proofs.YtmcankeggbofhaaW.PrintMore
open It Nm Ag My Spc By Im Iw Ip Tk Tl OctC OctD
set_option linter.unusedVariables false
set_option linter.unusedSimpArgs false
set_option maxRecDepth 100000
theorem below_new {W W' : World} {o : Obj} (h : (W.alloc o).grownBy W' (some W.heap.size)) : Below W.heap.size W W' :=
  ((Below.refl W.heap.size W).alloc (Nat.le_refl _) o).grown h (by simp) (fun k hk => by cases hk; exact Nat.le_refl _)
def codeT : Option (List Itm) → Int | some _ => 0 | none => 4
def listT (o : Option (List Itm)) : List Itm := o.getD []
set_option maxHeartbeats 3200000 in
theorem take_count (A : Option Addr) (c : Nat) (b : List Int) (w : World) (hr : CB w A b) (hc : b.length ≤ c) (hl : b.length ≤ 4000) (hp : Lib.hasPrefix (strOfNums b).data.toList [68, 49] = true) (nv nk ne : Int) (htk_ : Aside0 (POct.octet_TakeCount.f 40 (b.drop 2) = some (nv, nk, ne))) (bad : Bool) (h1 : (ne != 0) = bad) (h2 : bad = false → decide (64 < nv) = true) :
    Calls Try.prog 20 #[.slice A b.length c] w fun e w' => e = .returned (.tuple #[.slice none 0 0, .int .i64 4]) ∧ Below w.heap.size w w' := by
  have d1 : decide (4000 < (b.length : Int)) = false := decide_eq_false (by omega)
  have h2l := pre_len hp
  have hcv := Kd.C_string (P := Try.prog) (c := c) Try.underlying33 Try.underlying5 Try.underlying9 hr
  have HP := Aside0.mk (fun w => (Try.strings_HasPrefix (strOfNums b) ⟨#[68, 49]⟩ w))
  rw [show Lib.hasPrefix (strOfNums b).data.toList (⟨#[68, 49]⟩ : ByteArray).data.toList = true from hp] at HP
  obtain ⟨y2, A2, hy2, hl2, hc2_, hcut2, hC2⟩ := cut_drop (P := Try.prog) 33 Try.underlying33 POct.info5 A c b 2 (by omega) (by omega) hc
  have htk : Aside0 (POct.octet_TakeCount.f 40 y2 = some (nv, nk, ne)) := ⟨by rw [hy2]; exact htk_.out⟩
  have HC2 := Aside0.mk hc2_
  have HR := Aside0.mk hr
  clear hr hp hy2 hl2 hc2_ htk_
  cases bad with
  | true =>
    go_enter Try.func20, Try.ntmps20
    go_wp2_with (go_at_call 32; refine (HP.out _).mono ?_; rintro e w' ⟨rfl, hw'⟩; rw [hw']; clear hw' w')
    refine (POct.octet_TakeCount.calls 40 A2 (c - 2) y2 nv nk ne _ (hC2 _ HR.out) HC2.out htk.out).mono ?_
    rintro e1 w1 ⟨rfl, hd1⟩
    go_wp2_with fail
    go_ret2
    exact ⟨rfl, hd1.below⟩
  | false =>
    have h3 := h2 rfl
    go_enter Try.func20, Try.ntmps20
    go_wp2_with (go_at_call 32; refine (HP.out _).mono ?_; rintro e w' ⟨rfl, hw'⟩; rw [hw']; clear hw' w')
    refine (POct.octet_TakeCount.calls 40 A2 (c - 2) y2 nv nk ne _ (hC2 _ HR.out) HC2.out htk.out).mono ?_
    rintro e1 w1 ⟨rfl, hd1⟩
    go_wp2_with fail
    go_ret2
    exact ⟨rfl, hd1.below⟩

set_option maxHeartbeats 6400000 in
theorem take_go (A : Option Addr) (c : Nat) (b : List Int) (w : World) (hr : CB w A b) (hc : b.length ≤ c) (hl : b.length ≤ 4000) (hby : ∀ x ∈ b, 0 ≤ x ∧ x < 256) (hp : Lib.hasPrefix (strOfNums b).data.toList [68, 49] = true) (N : Nat) (nk : Int) (htk_ : Aside0 (POct.octet_TakeCount.f 40 (b.drop 2) = some ((N : Int), nk, 0))) (hN : N ≤ 64) (hk0 : 0 ≤ nk) (hk1 : nk ≤ (b.drop 2).length) (out : Option (List Itm)) (hout : out = match parseN N ((b.drop 2).drop nk.toNat) with | none => none | some (l, r) => if 0 < r.length ∨ mayL l = false then none else some l) :
    Calls Try.prog 20 #[.slice A b.length c] w fun e w' => ∃ v, e = .returned (.tuple #[v, .int .i64 (codeT out)]) ∧ RI w' w.heap.size v (listT out) ∧ Below w.heap.size w w' := by
  have d1 : decide (4000 < (b.length : Int)) = false := decide_eq_false (by omega)
  have h2l := pre_len hp
  have hcv := Kd.C_string (P := Try.prog) (c := c) Try.underlying33 Try.underlying5 Try.underlying9 hr
  have HP := Aside0.mk (fun w => (Try.strings_HasPrefix (strOfNums b) ⟨#[68, 49]⟩ w))
  rw [show Lib.hasPrefix (strOfNums b).data.toList (⟨#[68, 49]⟩ : ByteArray).data.toList = true from hp] at HP
  obtain ⟨y2, A2, hy2, hl2, hc2_, hcut2, hC2⟩ := cut_drop (P := Try.prog) 33 Try.underlying33 POct.info5 A c b 2 (by omega) (by omega) hc
  have hy2' : y2 = b.drop 2 := hy2
  obtain ⟨e0, he0⟩ : ∃ e0 : Int, e0 = 0 := ⟨0, rfl⟩
  rw [← he0] at htk_
  have hez : (e0 != 0) = false := by rw [he0]; rfl
  have hn64 : decide (64 < (N : Int)) = false := decide_eq_false (by omega)
  have htk : Aside0 (POct.octet_TakeCount.f 40 y2 = some ((N : Int), nk, e0)) := ⟨by rw [hy2]; exact htk_.out⟩
  have HC2 := Aside0.mk hc2_
  have HR := Aside0.mk hr
  obtain ⟨b3, A3, hb3, hl3, hc3_, hcut3, hC3⟩ := cut_drop (P := Try.prog) 33 Try.underlying33 POct.info5 A2 (c - 2) y2 nk hk0 (by rw [hy2']; exact hk1) hc2_
  have HC3 := Aside0.mk hc3_
  have hb3' : b3 = (b.drop 2).drop nk.toNat := by rw [hb3, hy2']
  rw [← hb3'] at hout
  have HOUT := Aside0.mk hout
  have HU := Aside0.mk (show Upto N b3 0 [] b3 from ⟨rfl, by omega, by simp, by simp⟩)
  have HBY := Aside0.mk (show ∀ x ∈ b3, 0 ≤ x ∧ x < 256 from fun x hx => hby x (by rw [hb3'] at hx; exact List.mem_of_mem_drop (List.mem_of_mem_drop hx)))
  have HL3 := Aside0.mk (show b3.length ≤ 4000 by rw [hb3']; simp; omega)
  have NIL := Aside0.mk (fun w' : World => (Kd.R_nil kd 28 w' w.heap.size (fun _ => True)))
  clear hr hp hy2 hl2 hc2_ htk_ hy2' he0 hb3 hl3 hc3_ hb3' hout hby
  go_enter Try.func20, Try.ntmps20
  go_wp2_with (go_at_call 32; refine (HP.out _).mono ?_; rintro e w' ⟨rfl, hw'⟩; rw [hw']; clear hw' w')
  refine (POct.octet_TakeCount.calls 40 A2 (c - 2) y2 N nk e0 _ (hC2 _ HR.out) HC2.out htk.out).mono ?_
  rintro e1 w1 ⟨rfl, hd1⟩
  have HB1 := Aside0.mk hd1.below
  clear hd1
  go_wp2_with fail
  have HCC := Aside0.mk (fun W (h : CB W A b) => hC3 W (hC2 W h))
  go_loopw [0, 7, 38] (fun vb vl u wr => ∃ (j : Nat) (acc : List Itm) (bj : List Int) (Aj : Option Addr) (cj : Nat), j ≤ N ∧ u = .int .u64 j ∧ vb = .slice Aj bj.length cj ∧ Aside0 (bj.length ≤ cj) ∧ Aside0 (∀ W, CB W A b → CB W Aj bj) ∧ Aside0 (∀ x ∈ bj, 0 ≤ x ∧ x < 256) ∧ Aside0 (bj.length ≤ 4000) ∧ Aside0 (Upto N b3 j acc bj) ∧ Aside0 (RI wr w.heap.size vl acc) ∧ Aside0 (Below w.heap.size w wr)) (fun _ _ u _ => N - (intOf u).toNat)
  case atStart => exact ⟨0, [], b3, A3, _, by omega, rfl, rfl, HC3, HCC, HBY, HL3, HU, ⟨NIL.out _⟩, HB1⟩
  case round =>
    obtain ⟨j, acc, bj, Aj, cj, hj, rfl, rfl, Hcj, HCj, Hbj, Hlj, HUj, HOj, HBj⟩ := hrel
    by_cases hlt : j < N
    · cases hpp : parse bj with
      | none =>
        have hno := Aside0.mk (show out = none by rw [HOUT.out, upto_none HUj.out hlt hpp])
        have HI := Aside0.mk (fun w h => item_fails Aj cj bj w h Hcj.out (by have := Hlj.out; omega) Hbj.out hpp)
        go_wp2_with fail
        refine (HI.out _ (HCj.out _ (Kd.C_below HR.out HBj.out))).mono ?_
        rintro e2 w2 ⟨m, hm, rfl, hb2⟩
        have HB2 := Aside0.mk (below_step HBj.out hb2)
        have HBa := Aside0.mk (HB2.out.alloc HB2.out.size (.cells (cellsOf item0).toArray 28))
        have hga := Aside0.mk (heap_alloc_new w2 (.cells (cellsOf item0).toArray 28))
        clear hb2
        go_wp2_with (first | (with_reducible refine op_alloc rfl 28 rfl _ zero28 ?_) | (refine op_store (w0 := w) w.heap.size rfl 28 (.tmp 8) (.tmp 43) rfl w2.heap.size m rfl rfl 28 (cellsOf item0).toArray hga.out 35 info28 hm.1 (cells_sz ok0) hm.2 HBa.out HB2.out.size ?_; intro w3 hg3 hw3 HB3))
        go_ret2
        exact ⟨_, by rw [hno.out]; rfl, by rw [hno.out]; exact NIL.out _, HB3.out⟩
      | some p =>
        obtain ⟨x, rr⟩ := p
        have hpk := parse_ok bj Hbj.out x rr hpp
        have hok := hpk.1
        have HI := Aside0.mk (fun w h => item_gives Aj cj bj w h Hcj.out (by have := Hlj.out; omega) Hbj.out x rr hpp)
        have HUn := Aside0.mk (upto_some HUj.out hlt Hbj.out hpp)
        have HPK := Aside0.mk hpk
        clear hpk
        go_wp2_with fail
        refine (HI.out _ (HCj.out _ (Kd.C_below HR.out HBj.out))).mono ?_
        rintro e2 w2 ⟨An, cn, rfl, hcn, hCn, hb2⟩
        have HB2 := Aside0.mk (below_step HBj.out hb2)
        have HO2 := Aside0.mk (Kd.R_below HOj.out hb2)
        have HBa := Aside0.mk (HB2.out.alloc HB2.out.size (.cells (cellsOf item0).toArray 28))
        have hga := Aside0.mk (heap_alloc_new w2 (.cells (cellsOf item0).toArray 28))
        have Hcn := Aside0.mk hcn; have HCn := Aside0.mk hCn
        clear hb2 hcn hCn
        have hwj : IntKind.u64.wrap ((j : Int) + 1) = ((j + 1 : Nat) : Int) := by rw [u64_id (by omega) (by omega)]; omega
        go_wp2_with (first | (with_reducible refine op_alloc rfl 28 rfl _ zero28 ?_) | (refine op_store (w0 := w) w.heap.size rfl 28 (.tmp 8) (.tmp 43) rfl w2.heap.size (cellsOf x).toArray rfl rfl 28 (cellsOf item0).toArray hga.out 35 info28 (cells_sz hok) (cells_sz ok0) (cells_all x) HBa.out HB2.out.size ?_; intro w3 hg3 hw3 HB3; have HO3 := Aside0.mk (Kd.R_below HO2.out (below_new hw3.out)); clear hw3 hga HBa) | (refine op_load rfl 28 (.tmp 8) rfl w2.heap.size rfl 28 (cellsOf x).toArray _ hg3.out Try.underlying28 rfl 35 info28 (cells_sz hok) ?_) | (refine op_lit1 rfl (.tmp 49) rfl x hok rfl ?_) | (at_builtin; refine Kd.R_append kd (w0 := w) w.heap.size rfl (.tmp 48) (.tmp 50) 22 28 _ 64 rfl Try.underlying22 info28b (by show (cellsOf item0).toArray.size = 35; exact cells_sz ok0) (by decide) (by decide) _ acc x (cellsOf x) (fun _ => True) (fun _ => False) rfl rfl ⟨rfl, hok⟩ (fun _ h => h.elim) (fun _ _ => trivial) HO3.out HB3.out HB3.out.size (by have := HUj.out.1; have := HUj.out.2.1; omega) ?_; intro v4 w4 ho4 hB4 hg4 _))
        go_roundw
        case rel => exact ⟨j + 1, acc ++ [x], rr, An, cn, by omega, rfl, rfl, Hcn, ⟨fun W h => HCn.out W (HCj.out W h)⟩, ⟨fun y hy => Hbj.out y (HPK.out.2.2.2.1 y hy)⟩, ⟨by have := HPK.out.2.2.2.2.1; have := Hlj.out; omega⟩, HUn, ⟨ho4⟩, ⟨hB4⟩⟩
        case measure => simp [intOf]; omega
    · obtain rfl : j = N := by omega
      have hend := upto_end HUj.out
      have HO := Aside0.mk (show out = if 0 < bj.length ∨ mayL acc = false then none else some acc by rw [HOUT.out, hend])
      obtain ⟨Av, cv, hv, hcv2, hCv⟩ := Kd.R_reads HOj.out
      subst hv
      by_cases h0 : 0 < bj.length
      · have e0' : decide (0 < (bj.length : Int)) = true := decide_eq_true (by omega)
        have hno := Aside0.mk (show out = none by rw [HO.out, if_pos (.inl h0)])
        go_wp2_with fail
        go_ret2
        exact ⟨_, by rw [hno.out]; rfl, by rw [hno.out]; exact NIL.out _, HBj.out⟩
      · have e0' : decide (0 < (bj.length : Int)) = false := decide_eq_false (by omega)
        have hz : bj.length = 0 := by omega
        go_wp2_with fail
        refine (may_calls Av cv acc _ hCv hcv2 (by have := HUj.out.1; omega)).mono ?_
        cases hm : mayL acc with
        | false =>
          rintro e5 w5 ⟨rfl, hb5⟩
          have hno := Aside0.mk (show out = none by rw [HO.out, if_pos (.inr hm)])
          go_wp2_with fail
          go_ret2
          exact ⟨_, by rw [hno.out]; rfl, by rw [hno.out]; exact NIL.out _, below_step HBj.out hb5⟩
        | true =>
          rintro e5 w5 ⟨rfl, hb5⟩
          have hyes := Aside0.mk (show out = some acc by rw [HO.out, if_neg (by rintro (h | h); exact h0 h; rw [hm] at h; cases h)])
          have HO5 := Aside0.mk (Kd.R_below HOj.out hb5)
          go_wp2_with fail
          go_ret2
          exact ⟨_, by rw [hyes.out]; rfl, by rw [hyes.out]; exact HO5.out, below_step HBj.out hb5⟩

/-- What the program's Take answers. -/
theorem take_calls (A : Option Addr) (c : Nat) (b : List Int) (w : World) (hr : CB w A b) (hc : b.length ≤ c) (hby : ∀ x ∈ b, 0 ≤ x ∧ x < 256) :
    Calls Try.prog 20 #[.slice A b.length c] w fun e w' => ∃ v, e = .returned (.tuple #[v, .int .i64 (codeT (takeOut b))]) ∧ RI w' w.heap.size v (listT (takeOut b)) ∧ Below w.heap.size w w' := by
  have fin : takeOut b = none → (Calls Try.prog 20 #[.slice A b.length c] w fun e w' => e = .returned (.tuple #[.slice none 0 0, .int .i64 4]) ∧ Below w.heap.size w w') → Calls Try.prog 20 #[.slice A b.length c] w fun e w' => ∃ v, e = .returned (.tuple #[v, .int .i64 (codeT (takeOut b))]) ∧ RI w' w.heap.size v (listT (takeOut b)) ∧ Below w.heap.size w w' := fun hn h => h.mono fun e w' ⟨he, hb⟩ => ⟨.slice none 0 0, by rw [he, hn]; rfl, by rw [hn]; exact Kd.R_nil kd 28 w' w.heap.size _, hb⟩
  by_cases hl : 4000 < b.length
  · exact fin (by unfold takeOut; rw [if_pos hl]) (take_long A c b w hr hc hl)
  cases hp : Lib.hasPrefix (strOfNums b).data.toList [68, 49] with
  | false => exact fin (by unfold takeOut; rw [if_neg hl, if_pos hp]) (take_other A c b w hr hc (by omega) hp)
  | true =>
    have hp0 : ¬ Lib.hasPrefix (strOfNums b).data.toList [68, 49] = false := by rw [hp]; simp
    have hby2 : ∀ x ∈ b.drop 2, 0 ≤ x ∧ x < 256 := fun x hx => hby x (List.mem_of_mem_drop hx)
    have htk := takeCount_ok 40 (b.drop 2) hby2 (by simp; omega) (by omega)
    obtain ⟨nv, nk, ne, hk⟩ : ∃ nv nk ne, OctC.take 0 0 (b.drop 2) = (nv, nk, ne) := ⟨_, _, _, rfl⟩
    rw [hk] at htk
    by_cases hbad : ne ≠ 0 ∨ 64 < nv
    · refine fin (by unfold takeOut; rw [if_neg hl, if_neg hp0]; simp only [hk]; rw [if_pos hbad]) ?_
      by_cases hne : ne = 0
      · exact take_count A c b w hr hc (by omega) hp nv nk ne ⟨htk⟩ false (by simp [hne]) (fun _ => decide_eq_true (by rcases hbad with h | h; exact absurd hne h; exact h))
      · exact take_count A c b w hr hc (by omega) hp nv nk ne ⟨htk⟩ true (by simpa using hne) (fun h => by cases h)
    · have hne : ne = 0 := by
        by_cases h0 : ne = 0
        · exact h0
        · exact absurd (.inl h0) hbad
      subst hne
      have hin := take_in (b.drop 2) hby2 (by rw [hk])
      rw [hk] at hin
      obtain ⟨h0, hk0, hk1, _⟩ := hin
      have hnv : ((nv.toNat : Nat) : Int) = nv := Int.toNat_of_nonneg h0
      have h64 : ¬ 64 < nv := fun h => hbad (.inr h)
      have hN : nv.toNat ≤ 64 := by omega
      have := take_go A c b w hr hc (by omega) hby hp nv.toNat nk ⟨by rw [hnv]; exact htk⟩ hN hk0 hk1 (takeOut b) (by unfold takeOut; rw [if_neg hl, if_neg hp0]; simp only [hk]; rw [if_neg hbad]; all_goals (generalize parseN nv.toNat _ = o; cases o <;> rfl))
      exact this
end Go.Proofs.Ytmcankeggbofhaa.Tg
