/- One item off bytes: the walk of the program's item, way by way. -/
import Derived.Test.YtmcankeggbofhaaIm
namespace Go.Proofs.Ytmcankeggbofhaa.Iw
open Go.RowKit Go.Proofs.YtmcankeggbofhaaW.PrintWords Go.Proofs.YtmcankeggbofhaaW.PrintLast Go.Proofs.YtmcankeggbofhaaW.PrintMore
open It Nm Ag My Spc By Im
set_option linter.unusedVariables false
set_option linter.unusedSimpArgs false
set_option maxRecDepth 100000
def Fits (m : Array Value) : Prop := m.size = 35 ∧ m.all (·.oneCell') = true
theorem fits_of {x : Itm} (h : Ok x) : Fits (cellsOf x).toArray := ⟨cells_sz h, cells_all x⟩
theorem one_int (k : IntKind) (n : Int) : ∀ u ∈ (Value.int k n).cells.toList, u.oneCell' = true := by
  intro u hu
  have : u = .int k n := by simpa [Value.cells] using hu
  subst this; rfl
theorem one_str (s : ByteArray) : ∀ u ∈ (Value.string s).cells.toList, u.oneCell' = true := by
  intro u hu
  have : u = .string s := by simpa [Value.cells] using hu
  subst this; rfl
theorem time_in {tv : Int} (h0 : 0 ≤ tv) (h : decide (9223372036854775807 < tv) = false) : wrap64 tv = tv := by
  have : ¬ 9223372036854775807 < tv := of_decide_eq_false h
  exact w64_id (by omega) (by omega)
theorem load_it {W : World} {g : Nat} {x : Itm} (h : It W g x) (hok : Ok x) : (Instr.loadAt 28 (.pointer (some ⟨g, 0, none⟩))).run Try.prog W = .ok (.agg (cellsOf x).toArray) W := by
  simp only [Instr.loadAt, Instr.sureAddr, Sem.run_bind, Sem.run_pure, Result.andThen_ok, run_loadVar_row W g 28 28 _ (0, 0) _ h Try.underlying28 rfl (by rw [info28, cells_sz hok])]
theorem put_run {o : Oper} {a : Act} {W : World} {ty : TypeId} {px y : Operand} {p v : Value} {W' : World} (ho : o.op = .store ty px y) (hx : a.eval px = p) (hy : a.eval y = v) (h : (Instr.storeAt ty p v).run Try.prog W = .ok () W') : (execOp a.eval o).run Try.prog W = .ok .skip W' := by
  simp only [execOp, ho, hx, hy, Sem.run_bind, h, Result.andThen_ok, Sem.run_pure]
theorem put_kind {W : World} {g : Nat} {x : Itm} (h : It W g x) (hok : Ok x) (k : Int) : (Instr.storeAt 3 (.pointer (some ⟨g, 1, none⟩)) (.int .i64 k)).run Try.prog W = .ok () (W.setRow g (cellsOf { x with kind := k }).toArray) :=
  put_field h hok info3 (one_int .i64 k) (by show 1 + 1 ≤ 35; omega) (cells_put_kind x k)
theorem put_name {W : World} {g : Nat} {x : Itm} (h : It W g x) (hok : Ok x) (s : ByteArray) : (Instr.storeAt 9 (.pointer (some ⟨g, 0, none⟩)) (.string s)).run Try.prog W = .ok () (W.setRow g (cellsOf { x with name := s }).toArray) :=
  put_field h hok info9 (one_str s) (by show 0 + 1 ≤ 35; omega) (cells_put_name x s)
theorem put_size {W : World} {g : Nat} {x : Itm} (h : It W g x) (hok : Ok x) (n : Int) : (Instr.storeAt 2 (.pointer (some ⟨g, 34, none⟩)) (.int .i64 n)).run Try.prog W = .ok () (W.setRow g (cellsOf { x with size := n }).toArray) :=
  put_field h hok info2 (one_int .i64 n) (by show 34 + 1 ≤ 35; omega) (cells_put_size hok n)
theorem put_of {W : World} {g : Nat} {x : Itm} (h : It W g x) (hok : Ok x) (r : List Int) (hr : r.length = 32) : (Instr.storeAt 26 (.pointer (some ⟨g, 2, none⟩)) (.agg (nums .u8 r).toArray)).run Try.prog W = .ok () (W.setRow g (cellsOf { x with of := r }).toArray) := by
  have hs : (Value.agg (nums .u8 r).toArray).cells.size = 32 := by simp [Value.cells, nums, hr]
  exact put_field h hok (by rw [hs]; exact info26) (by intro u hu; have : u ∈ nums .u8 r := by simpa [Value.cells] using hu
                                                       exact Tw.nums_one .u8 r u this) (by rw [hs]; omega) (cells_put_of hok r hr)
def im11T : Bool × List (List Nat × List Nat) := (true, [([], []), ([0], [0]), ([], []), ([2], [2]), ([3], [3]), ([4], [4]), ([0, 1], []), ([6, 1, 0, 1], [1, 6]), ([0, 1, 2, 3, 4, 5, 6, 7], []), ([8, 5, 7, 0, 1, 2, 3, 4, 5, 6, 7], [5, 8])])
def im11B : List Nat := [0, 1, 0, 4, 12, 28, 3, 67, 255, 511]
theorem im11tab : rtab .any (opsOf Try.f34 11) = im11T := by kernel_rfl
theorem im11bits : waitsOk im11T.2 im11B = true := by kernel_rfl
def im17T : Bool × List (List Nat × List Nat) := (true, [([], []), ([], []), ([], []), ([1, 2], [1, 2]), ([0, 0], [0]), ([3, 4, 0, 1, 2, 3, 4], [3]), ([5, 0, 1, 2, 3, 4, 5], [])])
def im17B : List Nat := [0, 0, 0, 6, 1, 31, 63]
theorem im17tab : rtab .any (opsOf Try.f34 17) = im17T := by kernel_rfl
theorem im17bits : waitsOk im17T.2 im17B = true := by kernel_rfl

set_option maxHeartbeats 3200000 in
theorem item_empty (A : Option Addr) (c : Nat) (b : List Int) (w : World) (hr : CB w A b) (hc : b.length ≤ c) (hmx : b.length ≤ 100000) (hby : ∀ x ∈ b, 0 ≤ x ∧ x < 256) (h0 : b.length = 0) :
    Calls Try.prog 34 #[.slice A b.length c] w fun e w' => ∃ m : Array Value, Fits m ∧ e = .returned (.tuple #[.agg m, .slice none 0 0, .bool false]) ∧ Below w.heap.size w w' := by
  have HR := Aside0.mk hr
  have HC := Aside0.mk hc
  have HB := Aside0.mk (show Below w.heap.size w ((w.alloc (.cells (cellsOf item0).toArray 28)).alloc (.cells (cellsOf item0).toArray 28)) from ((Below.refl w.heap.size w).alloc (Nat.le_refl _) _).alloc (by simp) _)
  have hg5 := Aside0.mk (show It ((w.alloc (.cells (cellsOf item0).toArray 28)).alloc (.cells (cellsOf item0).toArray 28)) (w.heap.size + 1) item0 by have := heap_alloc_new (w.alloc (.cells (cellsOf item0).toArray 28)) (.cells (cellsOf item0).toArray 28); simpa [It] using this)
  have hg2 := Aside0.mk (show It ((w.alloc (.cells (cellsOf item0).toArray 28)).alloc (.cells (cellsOf item0).toArray 28)) w.heap.size item0 from (((Below.refl (w.alloc (.cells (cellsOf item0).toArray 28)).heap.size _).alloc (Nat.le_refl _) _).block _ (by simp)).trans (heap_alloc_new w _))
  have d0 : ((b.length : Int) == 0) = true := by simp [h0]
  clear hr hc hby
  go_enter Try.func34, Try.ntmps34
  go_wp2_with (first | (with_reducible refine op_alloc rfl 28 rfl _ zero28 ?_) | (refine op_load rfl 28 (.tmp 5) rfl (w.heap.size + 1) rfl 28 (cellsOf item0).toArray _ hg5.out Try.underlying28 rfl 35 info28 (cells_sz ok0) ?_) | (refine op_store (w0 := w) w.heap.size rfl 28 (.tmp 2) (.tmp 13) rfl w.heap.size (cellsOf item0).toArray rfl rfl 28 (cellsOf item0).toArray hg2.out 35 info28 (cells_sz ok0) (cells_sz ok0) (cells_all _) HB.out (Nat.le_refl _) ?_; intro wz hgz _ HBz))
  exact ret_row3 rfl w.heap.size rfl 28 (cellsOf item0).toArray _ hgz.out Try.underlying28 rfl 35 info28 (cells_sz ok0) rfl ⟨_, fits_of ok0, rfl, HBz.out⟩

set_option maxHeartbeats 3200000 in
theorem item_text (A : Option Addr) (c : Nat) (b : List Int) (w : World) (hr : CB w A b) (hc : b.length ≤ c) (hmx : b.length ≤ 100000) (hby : ∀ x ∈ b, 0 ≤ x ∧ x < 256) (c0 : Int) (r : List Int) (hb : b = c0 :: r) (lb : List Int) (n7 e7 : Int) (htx : Aside0 (POct.octet_TakeText.f 40 r = some (lb, n7, e7))) (he7 : (e7 != 0) = true) :
    Calls Try.prog 34 #[.slice A b.length c] w fun e w' => ∃ m : Array Value, Fits m ∧ e = .returned (.tuple #[.agg m, .slice none 0 0, .bool false]) ∧ Below w.heap.size w w' := by
  have HR := Aside0.mk hr
  have HC := Aside0.mk hc
  have HB := Aside0.mk (show Below w.heap.size w ((w.alloc (.cells (cellsOf item0).toArray 28)).alloc (.cells (cellsOf item0).toArray 28)) from ((Below.refl w.heap.size w).alloc (Nat.le_refl _) _).alloc (by simp) _)
  have hg5 := Aside0.mk (show It ((w.alloc (.cells (cellsOf item0).toArray 28)).alloc (.cells (cellsOf item0).toArray 28)) (w.heap.size + 1) item0 by have := heap_alloc_new (w.alloc (.cells (cellsOf item0).toArray 28)) (.cells (cellsOf item0).toArray 28); simpa [It] using this)
  have hg2 := Aside0.mk (show It ((w.alloc (.cells (cellsOf item0).toArray 28)).alloc (.cells (cellsOf item0).toArray 28)) w.heap.size item0 from (((Below.refl (w.alloc (.cells (cellsOf item0).toArray 28)).heap.size _).alloc (Nat.le_refl _) _).block _ (by simp)).trans (heap_alloc_new w _))
  have hlen : b.length = r.length + 1 := by rw [hb]; rfl
  have d0 : ((b.length : Int) == 0) = false := beq_eq_false_iff_ne.2 (by omega)
  obtain ⟨ad, hA, hcl⟩ := CB.cells (Kd.C_below hr HB.out) (by omega)
  subst hA
  have kc0 : ((w.alloc (.cells (cellsOf item0).toArray 28)).alloc (.cells (cellsOf item0).toArray 28)).cell? ad = some (.int .u8 c0) := by have := hcl 0 (.int .u8 c0) (by rw [hb]; rfl); exact this
  have hw0 : IntKind.i64.wrap c0 = c0 := by have := hby c0 (by rw [hb]; simp); rw [IntKind.wrap_i64]; omega
  obtain ⟨y1, A1, hy1, hl1, hc1_, hcut1, hC1⟩ := cut_drop (P := Try.prog) 33 Try.underlying33 POct.info5 (some ad) c b 1 (by omega) (by omega) hc
  have hy1r : y1 = r := by rw [hy1, hb]; rfl
  subst hy1r
  have HC1 := Aside0.mk hc1_
  have HLEN := Aside0.mk hlen
  have hpos : 0 < b.length := by omega
  clear hy1 hl1 hc1_ hcl hr hc hlen hb hby
  go_enter Try.func34, Try.ntmps34
  go_wp2_with (first | (with_reducible refine op_alloc rfl 28 rfl _ zero28 ?_) | (refine op_put (w0 := w) w.heap.size rfl 3 (.tmp 18) (.tmp 17) rfl (w.heap.size + 1) 1 (.int .i64 c0) item0 { item0 with kind := c0 } rfl rfl hg5.out (put_kind hg5.out ok0 c0) HB.out (by omega) ?_; intro w1 hg1 hw1 HB1))
  have hsz1 := Aside0.mk HB1.out.size
  have HG2 := Aside0.mk (show It w1 w.heap.size item0 from blk_grown hg2.out hw1.out (by simp))
  refine (POct.octet_TakeText.calls 40 A1 (c - 1) y1 lb n7 e7 w1 (hC1 w1 (Kd.C_below HR.out HB1.out)) HC1.out htx.out).mono ?_
  rintro e2 w2 ⟨v2, rfl, ho2, hb2⟩
  have HB2 := Aside0.mk (below_step HB1.out hb2); have HG5 := Aside0.mk (show It w2 (w.heap.size + 1) { item0 with kind := c0 } from (hb2.block _ (blk_lt hg1.out)).trans hg1.out); have HG2' := Aside0.mk (show It w2 w.heap.size item0 from (hb2.block _ (blk_lt HG2.out)).trans HG2.out); have HO2 := Aside0.mk ho2
  clear hb2 ho2 HG2 hg1 hw1 HB1 hg2 hg5 HB kc0
  have HO2 := Aside0.mk (Kd.R_lower HO2.out (show w.heap.size ≤ w1.heap.size from hsz1.out))
  obtain ⟨x1, hx1⟩ : ∃ x1, Aside0 (x1 = { item0 with kind := c0 }) := ⟨_, ⟨rfl⟩⟩
  have ok1 : Ok x1 := by rw [hx1.out]; exact ok0
  rw [← hx1.out] at HG5
  go_wp2_with (first | (refine op_load rfl 28 (.tmp 5) rfl (w.heap.size + 1) rfl 28 (cellsOf x1).toArray _ HG5.out Try.underlying28 rfl 35 info28 (cells_sz ok1) ?_) | (refine op_store (w0 := w) w.heap.size rfl 28 (.tmp 2) (.tmp 28) rfl w.heap.size (cellsOf x1).toArray rfl rfl 28 (cellsOf item0).toArray HG2'.out 35 info28 (cells_sz ok1) (cells_sz ok0) (cells_all _) HB2.out (Nat.le_refl _) ?_; intro wz hgz _ HBz))
  exact ret_row3 rfl w.heap.size rfl 28 (cellsOf x1).toArray _ hgz.out Try.underlying28 rfl 35 info28 (cells_sz ok1) rfl ⟨_, fits_of ok1, rfl, HBz.out⟩

set_option maxHeartbeats 3200000 in
theorem item_short (A : Option Addr) (c : Nat) (b : List Int) (w : World) (hr : CB w A b) (hc : b.length ≤ c) (hmx : b.length ≤ 100000) (hby : ∀ x ∈ b, 0 ≤ x ∧ x < 256) (c0 : Int) (r : List Int) (hb : b = c0 :: r) (lb : List Int) (n7 : Int) (htx_ : Aside0 (POct.octet_TakeText.f 40 r = some (lb, n7, 0))) (hn0 : 0 ≤ n7) (hn1 : n7 ≤ r.length) (hsh : (b.length : Int) - (1 + n7) < 32) :
    Calls Try.prog 34 #[.slice A b.length c] w fun e w' => ∃ m : Array Value, Fits m ∧ e = .returned (.tuple #[.agg m, .slice none 0 0, .bool false]) ∧ Below w.heap.size w w' := by
  obtain ⟨e7, he7⟩ : ∃ e7 : Int, e7 = 0 := ⟨0, rfl⟩
  rw [← he7] at htx_
  have hez : (e7 != 0) = false := by rw [he7]; rfl
  clear he7
  have htx := htx_
  clear htx_
  have HR := Aside0.mk hr
  have HC := Aside0.mk hc
  have HB := Aside0.mk (show Below w.heap.size w ((w.alloc (.cells (cellsOf item0).toArray 28)).alloc (.cells (cellsOf item0).toArray 28)) from ((Below.refl w.heap.size w).alloc (Nat.le_refl _) _).alloc (by simp) _)
  have hg5 := Aside0.mk (show It ((w.alloc (.cells (cellsOf item0).toArray 28)).alloc (.cells (cellsOf item0).toArray 28)) (w.heap.size + 1) item0 by have := heap_alloc_new (w.alloc (.cells (cellsOf item0).toArray 28)) (.cells (cellsOf item0).toArray 28); simpa [It] using this)
  have hg2 := Aside0.mk (show It ((w.alloc (.cells (cellsOf item0).toArray 28)).alloc (.cells (cellsOf item0).toArray 28)) w.heap.size item0 from (((Below.refl (w.alloc (.cells (cellsOf item0).toArray 28)).heap.size _).alloc (Nat.le_refl _) _).block _ (by simp)).trans (heap_alloc_new w _))
  have hlen : b.length = r.length + 1 := by rw [hb]; rfl
  have d0 : ((b.length : Int) == 0) = false := beq_eq_false_iff_ne.2 (by omega)
  obtain ⟨ad, hA, hcl⟩ := CB.cells (Kd.C_below hr HB.out) (by omega)
  subst hA
  have kc0 : ((w.alloc (.cells (cellsOf item0).toArray 28)).alloc (.cells (cellsOf item0).toArray 28)).cell? ad = some (.int .u8 c0) := by have := hcl 0 (.int .u8 c0) (by rw [hb]; rfl); exact this
  have hw0 : IntKind.i64.wrap c0 = c0 := by have := hby c0 (by rw [hb]; simp); rw [IntKind.wrap_i64]; omega
  obtain ⟨y1, A1, hy1, hl1, hc1_, hcut1, hC1⟩ := cut_drop (P := Try.prog) 33 Try.underlying33 POct.info5 (some ad) c b 1 (by omega) (by omega) hc
  have hy1r : y1 = r := by rw [hy1, hb]; rfl
  subst hy1r
  have HC1 := Aside0.mk hc1_
  have HLEN := Aside0.mk hlen
  have hpos : 0 < b.length := by omega
  clear hy1 hl1 hc1_ hcl hr hc hlen hb hby
  obtain ⟨y8, A8, hy8, hl8, hc8_, hcut8, hC8⟩ := cut_drop (P := Try.prog) 33 Try.underlying33 POct.info5 (some ad) c b (1 + n7) (by omega) (by have := HLEN.out; omega) HC.out
  have hn2 : n7 ≤ 100000 := by have := HLEN.out; omega
  have HC8 := Aside0.mk hc8_; have HY8 := Aside0.mk hy8; have HL8 := Aside0.mk hl8
  clear hy8 hl8 hc8_
  have d9 : decide ((y8.length : Int) < 32) = true := decide_eq_true (by have := HL8.out; omega)
  go_enter Try.func34, Try.ntmps34
  go_wp2_with (first | (with_reducible refine op_alloc rfl 28 rfl _ zero28 ?_) | (refine op_put (w0 := w) w.heap.size rfl 3 (.tmp 18) (.tmp 17) rfl (w.heap.size + 1) 1 (.int .i64 c0) item0 { item0 with kind := c0 } rfl rfl hg5.out (put_kind hg5.out ok0 c0) HB.out (by omega) ?_; intro w1 hg1 hw1 HB1))
  have hsz1 := Aside0.mk HB1.out.size
  have HG2 := Aside0.mk (show It w1 w.heap.size item0 from blk_grown hg2.out hw1.out (by simp))
  refine (POct.octet_TakeText.calls 40 A1 (c - 1) y1 lb n7 e7 w1 (hC1 w1 (Kd.C_below HR.out HB1.out)) HC1.out htx.out).mono ?_
  rintro e2 w2 ⟨v2, rfl, ho2, hb2⟩
  have HB2 := Aside0.mk (below_step HB1.out hb2); have HG5 := Aside0.mk (show It w2 (w.heap.size + 1) { item0 with kind := c0 } from (hb2.block _ (blk_lt hg1.out)).trans hg1.out); have HG2' := Aside0.mk (show It w2 w.heap.size item0 from (hb2.block _ (blk_lt HG2.out)).trans HG2.out); have HO2 := Aside0.mk ho2
  clear hb2 ho2 HG2 hg1 hw1 HB1 hg2 hg5 HB kc0
  have HO2 := Aside0.mk (Kd.R_lower HO2.out (show w.heap.size ≤ w1.heap.size from hsz1.out))
  obtain ⟨x1, hx1⟩ : ∃ x1, Aside0 (x1 = { item0 with kind := c0 }) := ⟨_, ⟨rfl⟩⟩
  have ok1 : Ok x1 := by rw [hx1.out]; exact ok0
  rw [← hx1.out] at HG5
  go_wp2_with (first | (refine op_load rfl 28 (.tmp 5) rfl (w.heap.size + 1) rfl 28 (cellsOf x1).toArray _ HG5.out Try.underlying28 rfl 35 info28 (cells_sz ok1) ?_) | (refine op_store (w0 := w) w.heap.size rfl 28 (.tmp 2) (.tmp 36) rfl w.heap.size (cellsOf x1).toArray rfl rfl 28 (cellsOf item0).toArray HG2'.out 35 info28 (cells_sz ok1) (cells_sz ok0) (cells_all _) HB2.out (Nat.le_refl _) ?_; intro wz hgz _ HBz))
  exact ret_row3 rfl w.heap.size rfl 28 (cellsOf x1).toArray _ hgz.out Try.underlying28 rfl 35 info28 (cells_sz ok1) rfl ⟨_, fits_of ok1, rfl, HBz.out⟩

set_option maxHeartbeats 3200000 in
theorem item_count (A : Option Addr) (c : Nat) (b : List Int) (w : World) (hr : CB w A b) (hc : b.length ≤ c) (hmx : b.length ≤ 100000) (hby : ∀ x ∈ b, 0 ≤ x ∧ x < 256) (c0 : Int) (r : List Int) (hb : b = c0 :: r) (lb : List Int) (n7 : Int) (htx_ : Aside0 (POct.octet_TakeText.f 40 r = some (lb, n7, 0))) (hn0 : 0 ≤ n7) (hn1 : n7 ≤ r.length) (hsh : 32 ≤ (b.length : Int) - (1 + n7)) (nv nk ne : Int) (htk_ : Aside0 (POct.octet_TakeCount.f 40 ((r.drop n7.toNat).drop 32) = some (nv, nk, ne))) (hne : (ne != 0) = true) :
    Calls Try.prog 34 #[.slice A b.length c] w fun e w' => ∃ m : Array Value, Fits m ∧ e = .returned (.tuple #[.agg m, .slice none 0 0, .bool false]) ∧ Below w.heap.size w w' := by
  obtain ⟨e7, he7⟩ : ∃ e7 : Int, e7 = 0 := ⟨0, rfl⟩
  rw [← he7] at htx_
  have hez : (e7 != 0) = false := by rw [he7]; rfl
  clear he7
  have htx := htx_
  clear htx_
  have HR := Aside0.mk hr
  have HC := Aside0.mk hc
  have HB := Aside0.mk (show Below w.heap.size w ((w.alloc (.cells (cellsOf item0).toArray 28)).alloc (.cells (cellsOf item0).toArray 28)) from ((Below.refl w.heap.size w).alloc (Nat.le_refl _) _).alloc (by simp) _)
  have hg5 := Aside0.mk (show It ((w.alloc (.cells (cellsOf item0).toArray 28)).alloc (.cells (cellsOf item0).toArray 28)) (w.heap.size + 1) item0 by have := heap_alloc_new (w.alloc (.cells (cellsOf item0).toArray 28)) (.cells (cellsOf item0).toArray 28); simpa [It] using this)
  have hg2 := Aside0.mk (show It ((w.alloc (.cells (cellsOf item0).toArray 28)).alloc (.cells (cellsOf item0).toArray 28)) w.heap.size item0 from (((Below.refl (w.alloc (.cells (cellsOf item0).toArray 28)).heap.size _).alloc (Nat.le_refl _) _).block _ (by simp)).trans (heap_alloc_new w _))
  have hlen : b.length = r.length + 1 := by rw [hb]; rfl
  have d0 : ((b.length : Int) == 0) = false := beq_eq_false_iff_ne.2 (by omega)
  obtain ⟨ad, hA, hcl⟩ := CB.cells (Kd.C_below hr HB.out) (by omega)
  subst hA
  have kc0 : ((w.alloc (.cells (cellsOf item0).toArray 28)).alloc (.cells (cellsOf item0).toArray 28)).cell? ad = some (.int .u8 c0) := by have := hcl 0 (.int .u8 c0) (by rw [hb]; rfl); exact this
  have hw0 : IntKind.i64.wrap c0 = c0 := by have := hby c0 (by rw [hb]; simp); rw [IntKind.wrap_i64]; omega
  obtain ⟨y1, A1, hy1, hl1, hc1_, hcut1, hC1⟩ := cut_drop (P := Try.prog) 33 Try.underlying33 POct.info5 (some ad) c b 1 (by omega) (by omega) hc
  have hy1r : y1 = r := by rw [hy1, hb]; rfl
  subst hy1r
  have HC1 := Aside0.mk hc1_
  have HLEN := Aside0.mk hlen
  have hpos : 0 < b.length := by omega
  have hbr := Aside0.mk hb
  clear hy1 hl1 hc1_ hcl hr hc hlen hb hby
  obtain ⟨y8, A8, hy8, hl8, hc8_, hcut8, hC8⟩ := cut_drop (P := Try.prog) 33 Try.underlying33 POct.info5 (some ad) c b (1 + n7) (by omega) (by have := HLEN.out; omega) HC.out
  have hn2 : n7 ≤ 100000 := by have := HLEN.out; omega
  have HC8 := Aside0.mk hc8_; have HY8 := Aside0.mk hy8; have HL8 := Aside0.mk hl8
  clear hy8 hl8 hc8_
  have d9 : decide ((y8.length : Int) < 32) = false := decide_eq_false (by have := HL8.out; omega)
  obtain ⟨z9, hz9, hl9, hc9_, hcut9, hC9⟩ := cut_take (P := Try.prog) 33 Try.underlying33 POct.info5 A8 (c - (1 + n7).toNat) y8 32 (by omega) (by have := HL8.out; omega) HC8.out
  have hz32 : Aside0 (z9.length = 32) := ⟨by omega⟩
  have HZ9 := Aside0.mk hz9
  have harr := fun (cc : Nat) => array_at (P := Try.prog) 26 32 (by kernel_rfl) A8 z9.length cc (by omega)
  clear hz9 hl9 hc9_
  obtain ⟨y12, A12, hy12, hl12, hc12_, hcut12, hC12⟩ := cut_drop (P := Try.prog) 33 Try.underlying33 POct.info5 A8 (c - (1 + n7).toNat) y8 32 (by omega) (by have := HL8.out; omega) HC8.out
  have HC12 := Aside0.mk hc12_; have HY12 := Aside0.mk hy12; have HL12 := Aside0.mk hl12
  clear hy12 hl12 hc12_
  obtain ⟨s, hs⟩ : ∃ s, Aside0 (s = strOfNums lb) := ⟨_, ⟨rfl⟩⟩
  have htk : Aside0 (POct.octet_TakeCount.f 40 y12 = some (nv, nk, ne)) := ⟨by rw [HY12.out, HY8.out, hbr.out, show (c0 :: y1).drop (1 + n7).toNat = y1.drop n7.toNat by rw [show (1 + n7).toNat = n7.toNat + 1 by omega]; rfl]; exact htk_.out⟩
  go_enter Try.func34, Try.ntmps34
  go_wp2_with (first | (with_reducible refine op_alloc rfl 28 rfl _ zero28 ?_) | (refine op_put (w0 := w) w.heap.size rfl 3 (.tmp 18) (.tmp 17) rfl (w.heap.size + 1) 1 (.int .i64 c0) item0 { item0 with kind := c0 } rfl rfl hg5.out (put_kind hg5.out ok0 c0) HB.out (by omega) ?_; intro w1 hg1 hw1 HB1))
  have hsz1 := Aside0.mk HB1.out.size
  have HG2 := Aside0.mk (show It w1 w.heap.size item0 from blk_grown hg2.out hw1.out (by simp))
  refine (POct.octet_TakeText.calls 40 A1 (c - 1) y1 lb n7 e7 w1 (hC1 w1 (Kd.C_below HR.out HB1.out)) HC1.out htx.out).mono ?_
  rintro e2 w2 ⟨v2, rfl, ho2, hb2⟩
  have HB2 := Aside0.mk (below_step HB1.out hb2); have HG5 := Aside0.mk (show It w2 (w.heap.size + 1) { item0 with kind := c0 } from (hb2.block _ (blk_lt hg1.out)).trans hg1.out); have HG2' := Aside0.mk (show It w2 w.heap.size item0 from (hb2.block _ (blk_lt HG2.out)).trans HG2.out); have HO2 := Aside0.mk ho2
  clear hb2 ho2 HG2 hg1 hw1 HB1 hg2 hg5 HB kc0
  have HO2 := Aside0.mk (Kd.R_lower HO2.out (show w.heap.size ≤ w1.heap.size from hsz1.out))
  obtain ⟨x1, hx1⟩ : ∃ x1, Aside0 (x1 = { item0 with kind := c0 }) := ⟨_, ⟨rfl⟩⟩
  have ok1 : Ok x1 := by rw [hx1.out]; exact ok0
  rw [← hx1.out] at HG5
  go_wp2_with fail
  have HOq := Aside0.mk (Kd.R_below HO2.out (below_drew1 (Below.refl _ _)))
  obtain ⟨ad8, hA8, hadc⟩ := CB.cells (hC9 _ (hC8 w2 (Kd.C_below HR.out HB2.out))) (by rw [hz32.out]; decide)
  subst hA8
  refine start_ (n := 10) (S := (fun W_ => Below w.heap.size w W_ ∧ RB W_ w.heap.size v2 lb)) (ds := []) #[false, false, false, false, false, false, false, false, false, false] (by kernel_rfl) rfl rfl (⟨below_drew1 HB2.out, HOq.out⟩) (fun hHeld => ?_); refine with_tabW im11tab im11bits (fun HT_ HW_ => ?_)
  have HG5q := Aside0.mk (show It w2.drew (w.heap.size + 1) x1 from HG5.out); have HG2q := Aside0.mk (show It w2.drew w.heap.size item0 from HG2'.out)
  generalize w2.drew = wq at hHeld HOq HG5q HG2q ⊢
  have hld : ∀ W : World, Below w.heap.size w W → (Instr.loadAt 26 (.pointer (some ad8))).run Try.prog W = .ok (.agg (nums .u8 z9).toArray) W := fun W hW => by
    obtain ⟨ad9, e9, hc9⟩ := CB.cells (hC9 _ (hC8 W (Kd.C_below HR.out hW))) (by rw [hz32.out]; decide)
    cases e9
    exact run_loadVar_at ad8 26 (nums .u8 z9) _ hc9 Try.underlying26 rfl (by rw [nums_length, hz32.out]; exact info26)
  refine pure_ (i := 0) (N := some 37) (v := ?_) (a' := ?_) #[true, false, false, false, false, false, false, false, false, false] rfl rfl (any_of HT_.out (by kernel_rfl)) (fun _ _ _ h => h) (Or.inl ⟨by rfl, ?_⟩) ?_ ?_
  rotate_left
  · intro w'
    go_simp
    with_reducible rfl
  rotate_left
  · simp only [Act.put, List.setIfInBounds_toArray, List.set_cons_zero, List.set_cons_succ, i64_w, i32_w]
    rfl
  refine take_ (i := 1) (N := some 38) (v := ?_) (a' := ?_) #[true, true, false, false, false, false, false, false, false, false] rfl rfl (take_ofW HT_.out HW_.out (by kernel_rfl)) (fun _ _ _ h => h) (Or.inl ⟨by rfl, ?_⟩) hHeld ?_ ?_
  rotate_left
  · intro w' hw'
    have hf0_ := (show (convert 33 9 v2).run Try.prog w' = .ok (.string s) w' by rw [hs.out]; exact own_string (P := Try.prog) Try.underlying33 Try.underlying5 Try.underlying9 (RB.own hw'.2))
    go_simp
    with_reducible rfl
  rotate_left
  · simp only [Act.put, List.setIfInBounds_toArray, List.set_cons_zero, List.set_cons_succ, i64_w, i32_w]
    rfl
  refine pure_ (i := 2) (N := some 39) (v := ?_) (a' := ?_) #[true, true, true, false, false, false, false, false, false, false] rfl rfl (any_of HT_.out (by kernel_rfl)) (fun _ _ _ h => h) (Or.inl ⟨by rfl, ?_⟩) ?_ ?_
  rotate_left
  · intro w'
    go_simp
    with_reducible rfl
  rotate_left
  · simp only [Act.put, List.setIfInBounds_toArray, List.set_cons_zero, List.set_cons_succ, i64_w, i32_w]
    rfl
  refine pure_ (i := 3) (N := some 40) (v := ?_) (a' := ?_) #[true, true, true, true, false, false, false, false, false, false] rfl rfl (any_of HT_.out (by kernel_rfl)) (fun _ _ _ h => h) (Or.inl ⟨by rfl, ?_⟩) ?_ ?_
  rotate_left
  · intro w'
    go_simp
    with_reducible rfl
  rotate_left
  · simp only [Act.put, List.setIfInBounds_toArray, List.set_cons_zero, List.set_cons_succ, i64_w, i32_w]
    rfl
  refine pure_ (i := 4) (N := some 41) (v := ?_) (a' := ?_) #[true, true, true, true, true, false, false, false, false, false] rfl rfl (any_of HT_.out (by kernel_rfl)) (fun _ _ _ h => h) (Or.inl ⟨by rfl, ?_⟩) ?_ ?_
  rotate_left
  · intro w'
    go_simp
    with_reducible rfl
  rotate_left
  · simp only [Act.put, List.setIfInBounds_toArray, List.set_cons_zero, List.set_cons_succ, i64_w, i32_w]
    rfl
  refine take_ (i := 5) (N := some 42) (v := (.agg (nums .u8 z9).toArray)) (a' := ?_) #[true, true, true, true, true, true, false, false, false, false] rfl rfl (take_ofW HT_.out HW_.out (by kernel_rfl)) (fun _ _ _ h => h) (Or.inl ⟨by rfl, fun w' hw' => load_run rfl rfl (hld w' hw'.1)⟩) hHeld ?_ ?_
  rotate_left
  · simp only [Act.put, List.setIfInBounds_toArray, List.set_cons_zero, List.set_cons_succ, i64_w, i32_w]
    rfl
  refine pure_ (i := 6) (N := some 43) (v := ?_) (a' := ?_) #[true, true, true, true, true, true, true, false, false, false] rfl rfl (any_of HT_.out (by kernel_rfl)) (fun _ _ _ h => h) (Or.inl ⟨by rfl, ?_⟩) ?_ ?_
  rotate_left
  · intro w'
    go_simp
    with_reducible rfl
  rotate_left
  · simp only [Act.put, List.setIfInBounds_toArray, List.set_cons_zero, List.set_cons_succ, i64_w, i32_w]
    rfl
  refine one_ (i := 7) (N := none) #[true, true, true, true, true, true, true, true, false, false] rfl rfl (one_of HT_.out (by kernel_rfl)) (by decide) (fun K hK => ?_)
  refine skip_ (by rfl) rfl (put_run rfl rfl rfl (put_name HG5q.out ok1 s)) ?_
  have HS1 := Aside0.mk (show Below w.heap.size w (wq.setRow (w.heap.size + 1) (cellsOf { x1 with name := s }).toArray) ∧ RB (wq.setRow (w.heap.size + 1) (cellsOf { x1 with name := s }).toArray) w.heap.size v2 lb from ⟨below_setRow hHeld.1 (by omega) _, rb_other hHeld.2 HG5q.out (by decide) (grown_put _ _ _)⟩)
  have N5 := Aside0.mk (it_put { x1 with name := s } HG5q.out)
  have N2 := Aside0.mk (show It (wq.setRow (w.heap.size + 1) (cellsOf { x1 with name := s }).toArray) w.heap.size item0 from blk_grown HG2q.out (grown_put _ _ _) (by simp))
  generalize wq.setRow (w.heap.size + 1) (cellsOf { x1 with name := s }).toArray = wa at HS1 N5 N2 hK ⊢
  refine hK.out _ _ HS1.out (fun hHeld => ?_)
  clear hK K HS1 HG5q HG2q
  have HG2q := N2; have HG5q := N5
  clear N2 N5
  refine pure_ (i := 8) (N := some 44) (v := ?_) (a' := ?_) #[true, true, true, true, true, true, true, true, true, false] rfl rfl (any_of HT_.out (by kernel_rfl)) (fun _ _ _ h => h) (Or.inl ⟨by rfl, ?_⟩) ?_ ?_
  rotate_left
  · intro w'
    go_simp
    with_reducible rfl
  rotate_left
  · simp only [Act.put, List.setIfInBounds_toArray, List.set_cons_zero, List.set_cons_succ, i64_w, i32_w]
    rfl
  refine one_ (i := 9) (N := none) #[true, true, true, true, true, true, true, true, true, true] rfl rfl (one_of HT_.out (by kernel_rfl)) (by decide) (fun K hK => ?_)
  refine skip_ (by rfl) rfl (put_run rfl rfl rfl (put_of HG5q.out ok1 z9 hz32.out)) ?_
  have HS1 := Aside0.mk (show Below w.heap.size w (wa.setRow (w.heap.size + 1) (cellsOf { x1 with name := s, of := z9 }).toArray) ∧ RB (wa.setRow (w.heap.size + 1) (cellsOf { x1 with name := s, of := z9 }).toArray) w.heap.size v2 lb from ⟨below_setRow hHeld.1 (by omega) _, rb_other hHeld.2 HG5q.out (by decide) (grown_put _ _ _)⟩)
  have N5 := Aside0.mk (it_put { x1 with name := s, of := z9 } HG5q.out)
  have N2 := Aside0.mk (show It (wa.setRow (w.heap.size + 1) (cellsOf { x1 with name := s, of := z9 }).toArray) w.heap.size item0 from blk_grown HG2q.out (grown_put _ _ _) (by simp))
  generalize wa.setRow (w.heap.size + 1) (cellsOf { x1 with name := s, of := z9 }).toArray = wb at HS1 N5 N2 hK ⊢
  refine hK.out _ _ HS1.out (fun hHeld => ?_)
  clear hK K HS1 HG5q HG2q
  have HG2q := N2; have HG5q := N5
  clear N2 N5
  refine done_ (done_of HT_.out (by kernel_rfl)) ?_
  clear HT_ HW_ hld hadc
  obtain ⟨x3, hx3⟩ : ∃ x3, Aside0 (x3 = ({ x1 with name := s, of := z9 } : Itm)) := ⟨_, ⟨rfl⟩⟩
  have ok3 : Ok x3 := by rw [hx3.out]; exact hz32.out
  rw [← hx3.out] at HG5q
  have HBq := Aside0.mk hHeld.1
  clear hHeld
  go_wp2_with fail
  refine (POct.octet_TakeCount.calls 40 A12 (c - (1 + n7).toNat - 32) y12 nv nk ne wb (hC12 wb (hC8 wb (Kd.C_below HR.out HBq.out))) HC12.out htk.out).mono ?_
  rintro e9 w9 ⟨rfl, hd9⟩
  have hb9 := hd9.below
  have HB9 := Aside0.mk (below_step HBq.out hb9); have HG59 := Aside0.mk (show It w9 (w.heap.size + 1) x3 from (hb9.block _ (blk_lt HG5q.out)).trans HG5q.out); have HG29 := Aside0.mk (show It w9 w.heap.size item0 from (hb9.block _ (blk_lt HG2q.out)).trans HG2q.out)
  clear hb9 hd9 HBq HG5q HG2q
  go_wp2_with (first | (refine op_load rfl 28 (.tmp 5) rfl (w.heap.size + 1) rfl 28 (cellsOf x3).toArray _ HG59.out Try.underlying28 rfl 35 info28 (cells_sz ok3) ?_) | (refine op_store (w0 := w) w.heap.size rfl 28 (.tmp 2) (.tmp 59) rfl w.heap.size (cellsOf x3).toArray rfl rfl 28 (cellsOf item0).toArray HG29.out 35 info28 (cells_sz ok3) (cells_sz ok0) (cells_all _) HB9.out (Nat.le_refl _) ?_; intro wz hgz _ HBz))
  exact ret_row3 rfl w.heap.size rfl 28 (cellsOf x3).toArray _ hgz.out Try.underlying28 rfl 35 info28 (cells_sz ok3) rfl ⟨_, fits_of ok3, rfl, HBz.out⟩

set_option maxHeartbeats 3200000 in
theorem item_big (A : Option Addr) (c : Nat) (b : List Int) (w : World) (hr : CB w A b) (hc : b.length ≤ c) (hmx : b.length ≤ 100000) (hby : ∀ x ∈ b, 0 ≤ x ∧ x < 256) (c0 : Int) (r : List Int) (hb : b = c0 :: r) (lb : List Int) (n7 : Int) (htx_ : Aside0 (POct.octet_TakeText.f 40 r = some (lb, n7, 0))) (hn0 : 0 ≤ n7) (hn1 : n7 ≤ r.length) (hsh : 32 ≤ (b.length : Int) - (1 + n7)) (nv nk ne : Int) (htk_ : Aside0 (POct.octet_TakeCount.f 40 ((r.drop n7.toNat).drop 32) = some (nv, nk, ne))) (hne : (ne != 0) = false) (hbg : decide (9223372036854775807 < nv) = true) :
    Calls Try.prog 34 #[.slice A b.length c] w fun e w' => ∃ m : Array Value, Fits m ∧ e = .returned (.tuple #[.agg m, .slice none 0 0, .bool false]) ∧ Below w.heap.size w w' := by
  obtain ⟨e7, he7⟩ : ∃ e7 : Int, e7 = 0 := ⟨0, rfl⟩
  rw [← he7] at htx_
  have hez : (e7 != 0) = false := by rw [he7]; rfl
  clear he7
  have htx := htx_
  clear htx_
  have HR := Aside0.mk hr
  have HC := Aside0.mk hc
  have HB := Aside0.mk (show Below w.heap.size w ((w.alloc (.cells (cellsOf item0).toArray 28)).alloc (.cells (cellsOf item0).toArray 28)) from ((Below.refl w.heap.size w).alloc (Nat.le_refl _) _).alloc (by simp) _)
  have hg5 := Aside0.mk (show It ((w.alloc (.cells (cellsOf item0).toArray 28)).alloc (.cells (cellsOf item0).toArray 28)) (w.heap.size + 1) item0 by have := heap_alloc_new (w.alloc (.cells (cellsOf item0).toArray 28)) (.cells (cellsOf item0).toArray 28); simpa [It] using this)
  have hg2 := Aside0.mk (show It ((w.alloc (.cells (cellsOf item0).toArray 28)).alloc (.cells (cellsOf item0).toArray 28)) w.heap.size item0 from (((Below.refl (w.alloc (.cells (cellsOf item0).toArray 28)).heap.size _).alloc (Nat.le_refl _) _).block _ (by simp)).trans (heap_alloc_new w _))
  have hlen : b.length = r.length + 1 := by rw [hb]; rfl
  have d0 : ((b.length : Int) == 0) = false := beq_eq_false_iff_ne.2 (by omega)
  obtain ⟨ad, hA, hcl⟩ := CB.cells (Kd.C_below hr HB.out) (by omega)
  subst hA
  have kc0 : ((w.alloc (.cells (cellsOf item0).toArray 28)).alloc (.cells (cellsOf item0).toArray 28)).cell? ad = some (.int .u8 c0) := by have := hcl 0 (.int .u8 c0) (by rw [hb]; rfl); exact this
  have hw0 : IntKind.i64.wrap c0 = c0 := by have := hby c0 (by rw [hb]; simp); rw [IntKind.wrap_i64]; omega
  obtain ⟨y1, A1, hy1, hl1, hc1_, hcut1, hC1⟩ := cut_drop (P := Try.prog) 33 Try.underlying33 POct.info5 (some ad) c b 1 (by omega) (by omega) hc
  have hy1r : y1 = r := by rw [hy1, hb]; rfl
  subst hy1r
  have HC1 := Aside0.mk hc1_
  have HLEN := Aside0.mk hlen
  have hpos : 0 < b.length := by omega
  have hbr := Aside0.mk hb
  clear hy1 hl1 hc1_ hcl hr hc hlen hb hby
  obtain ⟨y8, A8, hy8, hl8, hc8_, hcut8, hC8⟩ := cut_drop (P := Try.prog) 33 Try.underlying33 POct.info5 (some ad) c b (1 + n7) (by omega) (by have := HLEN.out; omega) HC.out
  have hn2 : n7 ≤ 100000 := by have := HLEN.out; omega
  have HC8 := Aside0.mk hc8_; have HY8 := Aside0.mk hy8; have HL8 := Aside0.mk hl8
  clear hy8 hl8 hc8_
  have d9 : decide ((y8.length : Int) < 32) = false := decide_eq_false (by have := HL8.out; omega)
  obtain ⟨z9, hz9, hl9, hc9_, hcut9, hC9⟩ := cut_take (P := Try.prog) 33 Try.underlying33 POct.info5 A8 (c - (1 + n7).toNat) y8 32 (by omega) (by have := HL8.out; omega) HC8.out
  have hz32 : Aside0 (z9.length = 32) := ⟨by omega⟩
  have HZ9 := Aside0.mk hz9
  have harr := fun (cc : Nat) => array_at (P := Try.prog) 26 32 (by kernel_rfl) A8 z9.length cc (by omega)
  clear hz9 hl9 hc9_
  obtain ⟨y12, A12, hy12, hl12, hc12_, hcut12, hC12⟩ := cut_drop (P := Try.prog) 33 Try.underlying33 POct.info5 A8 (c - (1 + n7).toNat) y8 32 (by omega) (by have := HL8.out; omega) HC8.out
  have HC12 := Aside0.mk hc12_; have HY12 := Aside0.mk hy12; have HL12 := Aside0.mk hl12
  clear hy12 hl12 hc12_
  obtain ⟨s, hs⟩ : ∃ s, Aside0 (s = strOfNums lb) := ⟨_, ⟨rfl⟩⟩
  have htk : Aside0 (POct.octet_TakeCount.f 40 y12 = some (nv, nk, ne)) := ⟨by rw [HY12.out, HY8.out, hbr.out, show (c0 :: y1).drop (1 + n7).toNat = y1.drop n7.toNat by rw [show (1 + n7).toNat = n7.toNat + 1 by omega]; rfl]; exact htk_.out⟩
  go_enter Try.func34, Try.ntmps34
  go_wp2_with (first | (with_reducible refine op_alloc rfl 28 rfl _ zero28 ?_) | (refine op_put (w0 := w) w.heap.size rfl 3 (.tmp 18) (.tmp 17) rfl (w.heap.size + 1) 1 (.int .i64 c0) item0 { item0 with kind := c0 } rfl rfl hg5.out (put_kind hg5.out ok0 c0) HB.out (by omega) ?_; intro w1 hg1 hw1 HB1))
  have hsz1 := Aside0.mk HB1.out.size
  have HG2 := Aside0.mk (show It w1 w.heap.size item0 from blk_grown hg2.out hw1.out (by simp))
  refine (POct.octet_TakeText.calls 40 A1 (c - 1) y1 lb n7 e7 w1 (hC1 w1 (Kd.C_below HR.out HB1.out)) HC1.out htx.out).mono ?_
  rintro e2 w2 ⟨v2, rfl, ho2, hb2⟩
  have HB2 := Aside0.mk (below_step HB1.out hb2); have HG5 := Aside0.mk (show It w2 (w.heap.size + 1) { item0 with kind := c0 } from (hb2.block _ (blk_lt hg1.out)).trans hg1.out); have HG2' := Aside0.mk (show It w2 w.heap.size item0 from (hb2.block _ (blk_lt HG2.out)).trans HG2.out); have HO2 := Aside0.mk ho2
  clear hb2 ho2 HG2 hg1 hw1 HB1 hg2 hg5 HB kc0
  have HO2 := Aside0.mk (Kd.R_lower HO2.out (show w.heap.size ≤ w1.heap.size from hsz1.out))
  obtain ⟨x1, hx1⟩ : ∃ x1, Aside0 (x1 = { item0 with kind := c0 }) := ⟨_, ⟨rfl⟩⟩
  have ok1 : Ok x1 := by rw [hx1.out]; exact ok0
  rw [← hx1.out] at HG5
  go_wp2_with fail
  have HOq := Aside0.mk (Kd.R_below HO2.out (below_drew1 (Below.refl _ _)))
  obtain ⟨ad8, hA8, hadc⟩ := CB.cells (hC9 _ (hC8 w2 (Kd.C_below HR.out HB2.out))) (by rw [hz32.out]; decide)
  subst hA8
  refine start_ (n := 10) (S := (fun W_ => Below w.heap.size w W_ ∧ RB W_ w.heap.size v2 lb)) (ds := []) #[false, false, false, false, false, false, false, false, false, false] (by kernel_rfl) rfl rfl (⟨below_drew1 HB2.out, HOq.out⟩) (fun hHeld => ?_); refine with_tabW im11tab im11bits (fun HT_ HW_ => ?_)
  have HG5q := Aside0.mk (show It w2.drew (w.heap.size + 1) x1 from HG5.out); have HG2q := Aside0.mk (show It w2.drew w.heap.size item0 from HG2'.out)
  generalize w2.drew = wq at hHeld HOq HG5q HG2q ⊢
  have hld : ∀ W : World, Below w.heap.size w W → (Instr.loadAt 26 (.pointer (some ad8))).run Try.prog W = .ok (.agg (nums .u8 z9).toArray) W := fun W hW => by
    obtain ⟨ad9, e9, hc9⟩ := CB.cells (hC9 _ (hC8 W (Kd.C_below HR.out hW))) (by rw [hz32.out]; decide)
    cases e9
    exact run_loadVar_at ad8 26 (nums .u8 z9) _ hc9 Try.underlying26 rfl (by rw [nums_length, hz32.out]; exact info26)
  refine pure_ (i := 0) (N := some 37) (v := ?_) (a' := ?_) #[true, false, false, false, false, false, false, false, false, false] rfl rfl (any_of HT_.out (by kernel_rfl)) (fun _ _ _ h => h) (Or.inl ⟨by rfl, ?_⟩) ?_ ?_
  rotate_left
  · intro w'
    go_simp
    with_reducible rfl
  rotate_left
  · simp only [Act.put, List.setIfInBounds_toArray, List.set_cons_zero, List.set_cons_succ, i64_w, i32_w]
    rfl
  refine take_ (i := 1) (N := some 38) (v := ?_) (a' := ?_) #[true, true, false, false, false, false, false, false, false, false] rfl rfl (take_ofW HT_.out HW_.out (by kernel_rfl)) (fun _ _ _ h => h) (Or.inl ⟨by rfl, ?_⟩) hHeld ?_ ?_
  rotate_left
  · intro w' hw'
    have hf0_ := (show (convert 33 9 v2).run Try.prog w' = .ok (.string s) w' by rw [hs.out]; exact own_string (P := Try.prog) Try.underlying33 Try.underlying5 Try.underlying9 (RB.own hw'.2))
    go_simp
    with_reducible rfl
  rotate_left
  · simp only [Act.put, List.setIfInBounds_toArray, List.set_cons_zero, List.set_cons_succ, i64_w, i32_w]
    rfl
  refine pure_ (i := 2) (N := some 39) (v := ?_) (a' := ?_) #[true, true, true, false, false, false, false, false, false, false] rfl rfl (any_of HT_.out (by kernel_rfl)) (fun _ _ _ h => h) (Or.inl ⟨by rfl, ?_⟩) ?_ ?_
  rotate_left
  · intro w'
    go_simp
    with_reducible rfl
  rotate_left
  · simp only [Act.put, List.setIfInBounds_toArray, List.set_cons_zero, List.set_cons_succ, i64_w, i32_w]
    rfl
  refine pure_ (i := 3) (N := some 40) (v := ?_) (a' := ?_) #[true, true, true, true, false, false, false, false, false, false] rfl rfl (any_of HT_.out (by kernel_rfl)) (fun _ _ _ h => h) (Or.inl ⟨by rfl, ?_⟩) ?_ ?_
  rotate_left
  · intro w'
    go_simp
    with_reducible rfl
  rotate_left
  · simp only [Act.put, List.setIfInBounds_toArray, List.set_cons_zero, List.set_cons_succ, i64_w, i32_w]
    rfl
  refine pure_ (i := 4) (N := some 41) (v := ?_) (a' := ?_) #[true, true, true, true, true, false, false, false, false, false] rfl rfl (any_of HT_.out (by kernel_rfl)) (fun _ _ _ h => h) (Or.inl ⟨by rfl, ?_⟩) ?_ ?_
  rotate_left
  · intro w'
    go_simp
    with_reducible rfl
  rotate_left
  · simp only [Act.put, List.setIfInBounds_toArray, List.set_cons_zero, List.set_cons_succ, i64_w, i32_w]
    rfl
  refine take_ (i := 5) (N := some 42) (v := (.agg (nums .u8 z9).toArray)) (a' := ?_) #[true, true, true, true, true, true, false, false, false, false] rfl rfl (take_ofW HT_.out HW_.out (by kernel_rfl)) (fun _ _ _ h => h) (Or.inl ⟨by rfl, fun w' hw' => load_run rfl rfl (hld w' hw'.1)⟩) hHeld ?_ ?_
  rotate_left
  · simp only [Act.put, List.setIfInBounds_toArray, List.set_cons_zero, List.set_cons_succ, i64_w, i32_w]
    rfl
  refine pure_ (i := 6) (N := some 43) (v := ?_) (a' := ?_) #[true, true, true, true, true, true, true, false, false, false] rfl rfl (any_of HT_.out (by kernel_rfl)) (fun _ _ _ h => h) (Or.inl ⟨by rfl, ?_⟩) ?_ ?_
  rotate_left
  · intro w'
    go_simp
    with_reducible rfl
  rotate_left
  · simp only [Act.put, List.setIfInBounds_toArray, List.set_cons_zero, List.set_cons_succ, i64_w, i32_w]
    rfl
  refine one_ (i := 7) (N := none) #[true, true, true, true, true, true, true, true, false, false] rfl rfl (one_of HT_.out (by kernel_rfl)) (by decide) (fun K hK => ?_)
  refine skip_ (by rfl) rfl (put_run rfl rfl rfl (put_name HG5q.out ok1 s)) ?_
  have HS1 := Aside0.mk (show Below w.heap.size w (wq.setRow (w.heap.size + 1) (cellsOf { x1 with name := s }).toArray) ∧ RB (wq.setRow (w.heap.size + 1) (cellsOf { x1 with name := s }).toArray) w.heap.size v2 lb from ⟨below_setRow hHeld.1 (by omega) _, rb_other hHeld.2 HG5q.out (by decide) (grown_put _ _ _)⟩)
  have N5 := Aside0.mk (it_put { x1 with name := s } HG5q.out)
  have N2 := Aside0.mk (show It (wq.setRow (w.heap.size + 1) (cellsOf { x1 with name := s }).toArray) w.heap.size item0 from blk_grown HG2q.out (grown_put _ _ _) (by simp))
  generalize wq.setRow (w.heap.size + 1) (cellsOf { x1 with name := s }).toArray = wa at HS1 N5 N2 hK ⊢
  refine hK.out _ _ HS1.out (fun hHeld => ?_)
  clear hK K HS1 HG5q HG2q
  have HG2q := N2; have HG5q := N5
  clear N2 N5
  refine pure_ (i := 8) (N := some 44) (v := ?_) (a' := ?_) #[true, true, true, true, true, true, true, true, true, false] rfl rfl (any_of HT_.out (by kernel_rfl)) (fun _ _ _ h => h) (Or.inl ⟨by rfl, ?_⟩) ?_ ?_
  rotate_left
  · intro w'
    go_simp
    with_reducible rfl
  rotate_left
  · simp only [Act.put, List.setIfInBounds_toArray, List.set_cons_zero, List.set_cons_succ, i64_w, i32_w]
    rfl
  refine one_ (i := 9) (N := none) #[true, true, true, true, true, true, true, true, true, true] rfl rfl (one_of HT_.out (by kernel_rfl)) (by decide) (fun K hK => ?_)
  refine skip_ (by rfl) rfl (put_run rfl rfl rfl (put_of HG5q.out ok1 z9 hz32.out)) ?_
  have HS1 := Aside0.mk (show Below w.heap.size w (wa.setRow (w.heap.size + 1) (cellsOf { x1 with name := s, of := z9 }).toArray) ∧ RB (wa.setRow (w.heap.size + 1) (cellsOf { x1 with name := s, of := z9 }).toArray) w.heap.size v2 lb from ⟨below_setRow hHeld.1 (by omega) _, rb_other hHeld.2 HG5q.out (by decide) (grown_put _ _ _)⟩)
  have N5 := Aside0.mk (it_put { x1 with name := s, of := z9 } HG5q.out)
  have N2 := Aside0.mk (show It (wa.setRow (w.heap.size + 1) (cellsOf { x1 with name := s, of := z9 }).toArray) w.heap.size item0 from blk_grown HG2q.out (grown_put _ _ _) (by simp))
  generalize wa.setRow (w.heap.size + 1) (cellsOf { x1 with name := s, of := z9 }).toArray = wb at HS1 N5 N2 hK ⊢
  refine hK.out _ _ HS1.out (fun hHeld => ?_)
  clear hK K HS1 HG5q HG2q
  have HG2q := N2; have HG5q := N5
  clear N2 N5
  refine done_ (done_of HT_.out (by kernel_rfl)) ?_
  clear HT_ HW_ hld hadc
  obtain ⟨x3, hx3⟩ : ∃ x3, Aside0 (x3 = ({ x1 with name := s, of := z9 } : Itm)) := ⟨_, ⟨rfl⟩⟩
  have ok3 : Ok x3 := by rw [hx3.out]; exact hz32.out
  rw [← hx3.out] at HG5q
  have HBq := Aside0.mk hHeld.1
  clear hHeld
  go_wp2_with fail
  refine (POct.octet_TakeCount.calls 40 A12 (c - (1 + n7).toNat - 32) y12 nv nk ne wb (hC12 wb (hC8 wb (Kd.C_below HR.out HBq.out))) HC12.out htk.out).mono ?_
  rintro e9 w9 ⟨rfl, hd9⟩
  have hb9 := hd9.below
  have HB9 := Aside0.mk (below_step HBq.out hb9); have HG59 := Aside0.mk (show It w9 (w.heap.size + 1) x3 from (hb9.block _ (blk_lt HG5q.out)).trans HG5q.out); have HG29 := Aside0.mk (show It w9 w.heap.size item0 from (hb9.block _ (blk_lt HG2q.out)).trans HG2q.out)
  clear hb9 hd9 HBq HG5q HG2q
  go_wp2_with (first | (refine op_load rfl 28 (.tmp 5) rfl (w.heap.size + 1) rfl 28 (cellsOf x3).toArray _ HG59.out Try.underlying28 rfl 35 info28 (cells_sz ok3) ?_) | (refine op_store (w0 := w) w.heap.size rfl 28 (.tmp 2) (.tmp 59) rfl w.heap.size (cellsOf x3).toArray rfl rfl 28 (cellsOf item0).toArray HG29.out 35 info28 (cells_sz ok3) (cells_sz ok0) (cells_all _) HB9.out (Nat.le_refl _) ?_; intro wz hgz _ HBz))
  exact ret_row3 rfl w.heap.size rfl 28 (cellsOf x3).toArray _ hgz.out Try.underlying28 rfl 35 info28 (cells_sz ok3) rfl ⟨_, fits_of ok3, rfl, HBz.out⟩

set_option maxHeartbeats 3200000 in
theorem item_yes (A : Option Addr) (c : Nat) (b : List Int) (w : World) (hr : CB w A b) (hc : b.length ≤ c) (hmx : b.length ≤ 100000) (hby : ∀ x ∈ b, 0 ≤ x ∧ x < 256) (c0 : Int) (r : List Int) (hb : b = c0 :: r) (lb : List Int) (n7 : Int) (htx_ : Aside0 (POct.octet_TakeText.f 40 r = some (lb, n7, 0))) (hn0 : 0 ≤ n7) (hn1 : n7 ≤ r.length) (hsh : 32 ≤ (b.length : Int) - (1 + n7)) (nv nk ne : Int) (htk_ : Aside0 (POct.octet_TakeCount.f 40 ((r.drop n7.toNat).drop 32) = some (nv, nk, ne))) (hne : (ne != 0) = false) (hbg : decide (9223372036854775807 < nv) = false) (hv0 : 0 ≤ nv) (hk0 : 0 ≤ nk) (hk1 : nk ≤ ((r.drop n7.toNat).drop 32).length) :
    Calls Try.prog 34 #[.slice A b.length c] w fun e w' => ∃ (A' : Option Addr) (c' : Nat), e = .returned (.tuple #[.agg (cellsOf ⟨strOfNums lb, c0, (r.drop n7.toNat).take 32, nv⟩).toArray, .slice A' (((r.drop n7.toNat).drop 32).drop nk.toNat).length c', .bool true]) ∧ (((r.drop n7.toNat).drop 32).drop nk.toNat).length ≤ c' ∧ (∀ W, CB W A b → CB W A' (((r.drop n7.toNat).drop 32).drop nk.toNat)) ∧ Below w.heap.size w w' := by
  have hwv : IntKind.i64.wrap nv = nv := (IntWalk.i64_left nv).trans (time_in hv0 hbg)
  have hwv2 : wrap64 nv = nv := time_in hv0 hbg
  have hk1' : nk ≤ (r.length : Int) - n7 - 32 ∨ nk ≤ 0 := by simp at hk1; omega
  obtain ⟨e7, he7⟩ : ∃ e7 : Int, e7 = 0 := ⟨0, rfl⟩
  rw [← he7] at htx_
  have hez : (e7 != 0) = false := by rw [he7]; rfl
  clear he7
  have htx := htx_
  clear htx_
  have HR := Aside0.mk hr
  have HC := Aside0.mk hc
  have HB := Aside0.mk (show Below w.heap.size w ((w.alloc (.cells (cellsOf item0).toArray 28)).alloc (.cells (cellsOf item0).toArray 28)) from ((Below.refl w.heap.size w).alloc (Nat.le_refl _) _).alloc (by simp) _)
  have hg5 := Aside0.mk (show It ((w.alloc (.cells (cellsOf item0).toArray 28)).alloc (.cells (cellsOf item0).toArray 28)) (w.heap.size + 1) item0 by have := heap_alloc_new (w.alloc (.cells (cellsOf item0).toArray 28)) (.cells (cellsOf item0).toArray 28); simpa [It] using this)
  have hg2 := Aside0.mk (show It ((w.alloc (.cells (cellsOf item0).toArray 28)).alloc (.cells (cellsOf item0).toArray 28)) w.heap.size item0 from (((Below.refl (w.alloc (.cells (cellsOf item0).toArray 28)).heap.size _).alloc (Nat.le_refl _) _).block _ (by simp)).trans (heap_alloc_new w _))
  have hlen : b.length = r.length + 1 := by rw [hb]; rfl
  have d0 : ((b.length : Int) == 0) = false := beq_eq_false_iff_ne.2 (by omega)
  obtain ⟨ad, hA, hcl⟩ := CB.cells (Kd.C_below hr HB.out) (by omega)
  subst hA
  have kc0 : ((w.alloc (.cells (cellsOf item0).toArray 28)).alloc (.cells (cellsOf item0).toArray 28)).cell? ad = some (.int .u8 c0) := by have := hcl 0 (.int .u8 c0) (by rw [hb]; rfl); exact this
  have hw0 : IntKind.i64.wrap c0 = c0 := by have := hby c0 (by rw [hb]; simp); rw [IntKind.wrap_i64]; omega
  obtain ⟨y1, A1, hy1, hl1, hc1_, hcut1, hC1⟩ := cut_drop (P := Try.prog) 33 Try.underlying33 POct.info5 (some ad) c b 1 (by omega) (by omega) hc
  have hy1r : y1 = r := by rw [hy1, hb]; rfl
  subst hy1r
  have HC1 := Aside0.mk hc1_
  have HLEN := Aside0.mk hlen
  have hpos : 0 < b.length := by omega
  have hbr := Aside0.mk hb
  clear hy1 hl1 hc1_ hcl hr hc hlen hb hby
  obtain ⟨y8, A8, hy8, hl8, hc8_, hcut8, hC8⟩ := cut_drop (P := Try.prog) 33 Try.underlying33 POct.info5 (some ad) c b (1 + n7) (by omega) (by have := HLEN.out; omega) HC.out
  have hn2 : n7 ≤ 100000 := by have := HLEN.out; omega
  have HC8 := Aside0.mk hc8_; have HY8 := Aside0.mk hy8; have HL8 := Aside0.mk hl8
  clear hy8 hl8 hc8_
  have d9 : decide ((y8.length : Int) < 32) = false := decide_eq_false (by have := HL8.out; omega)
  obtain ⟨z9, hz9, hl9, hc9_, hcut9, hC9⟩ := cut_take (P := Try.prog) 33 Try.underlying33 POct.info5 A8 (c - (1 + n7).toNat) y8 32 (by omega) (by have := HL8.out; omega) HC8.out
  have hz32 : Aside0 (z9.length = 32) := ⟨by omega⟩
  have HZ9 := Aside0.mk hz9
  have harr := fun (cc : Nat) => array_at (P := Try.prog) 26 32 (by kernel_rfl) A8 z9.length cc (by omega)
  clear hz9 hl9 hc9_
  obtain ⟨y12, A12, hy12, hl12, hc12_, hcut12, hC12⟩ := cut_drop (P := Try.prog) 33 Try.underlying33 POct.info5 A8 (c - (1 + n7).toNat) y8 32 (by omega) (by have := HL8.out; omega) HC8.out
  have HC12 := Aside0.mk hc12_; have HY12 := Aside0.mk hy12; have HL12 := Aside0.mk hl12
  clear hy12 hl12 hc12_
  obtain ⟨s, hs⟩ : ∃ s, Aside0 (s = strOfNums lb) := ⟨_, ⟨rfl⟩⟩
  have htk : Aside0 (POct.octet_TakeCount.f 40 y12 = some (nv, nk, ne)) := ⟨by rw [HY12.out, HY8.out, hbr.out, show (c0 :: y1).drop (1 + n7).toNat = y1.drop n7.toNat by rw [show (1 + n7).toNat = n7.toNat + 1 by omega]; rfl]; exact htk_.out⟩
  obtain ⟨yF, AF, hyF, hlF, hcF_, hcutF, hCF⟩ := cut_drop (P := Try.prog) 33 Try.underlying33 POct.info5 A12 (c - (1 + n7).toNat - 32) y12 nk hk0 (by have := HL12.out; have := HL8.out; have := HLEN.out; omega) HC12.out
  have HCF := Aside0.mk hcF_; have HYF := Aside0.mk hyF
  clear hyF hlF hcF_
  go_enter Try.func34, Try.ntmps34
  go_wp2_with (first | (with_reducible refine op_alloc rfl 28 rfl _ zero28 ?_) | (refine op_put (w0 := w) w.heap.size rfl 3 (.tmp 18) (.tmp 17) rfl (w.heap.size + 1) 1 (.int .i64 c0) item0 { item0 with kind := c0 } rfl rfl hg5.out (put_kind hg5.out ok0 c0) HB.out (by omega) ?_; intro w1 hg1 hw1 HB1))
  have hsz1 := Aside0.mk HB1.out.size
  have HG2 := Aside0.mk (show It w1 w.heap.size item0 from blk_grown hg2.out hw1.out (by simp))
  refine (POct.octet_TakeText.calls 40 A1 (c - 1) y1 lb n7 e7 w1 (hC1 w1 (Kd.C_below HR.out HB1.out)) HC1.out htx.out).mono ?_
  rintro e2 w2 ⟨v2, rfl, ho2, hb2⟩
  have HB2 := Aside0.mk (below_step HB1.out hb2); have HG5 := Aside0.mk (show It w2 (w.heap.size + 1) { item0 with kind := c0 } from (hb2.block _ (blk_lt hg1.out)).trans hg1.out); have HG2' := Aside0.mk (show It w2 w.heap.size item0 from (hb2.block _ (blk_lt HG2.out)).trans HG2.out); have HO2 := Aside0.mk ho2
  clear hb2 ho2 HG2 hg1 hw1 HB1 hg2 hg5 HB kc0
  have HO2 := Aside0.mk (Kd.R_lower HO2.out (show w.heap.size ≤ w1.heap.size from hsz1.out))
  obtain ⟨x1, hx1⟩ : ∃ x1, Aside0 (x1 = { item0 with kind := c0 }) := ⟨_, ⟨rfl⟩⟩
  have ok1 : Ok x1 := by rw [hx1.out]; exact ok0
  rw [← hx1.out] at HG5
  go_wp2_with fail
  have HOq := Aside0.mk (Kd.R_below HO2.out (below_drew1 (Below.refl _ _)))
  obtain ⟨ad8, hA8, hadc⟩ := CB.cells (hC9 _ (hC8 w2 (Kd.C_below HR.out HB2.out))) (by rw [hz32.out]; decide)
  subst hA8
  refine start_ (n := 10) (S := (fun W_ => Below w.heap.size w W_ ∧ RB W_ w.heap.size v2 lb)) (ds := []) #[false, false, false, false, false, false, false, false, false, false] (by kernel_rfl) rfl rfl (⟨below_drew1 HB2.out, HOq.out⟩) (fun hHeld => ?_); refine with_tabW im11tab im11bits (fun HT_ HW_ => ?_)
  have HG5q := Aside0.mk (show It w2.drew (w.heap.size + 1) x1 from HG5.out); have HG2q := Aside0.mk (show It w2.drew w.heap.size item0 from HG2'.out)
  generalize w2.drew = wq at hHeld HOq HG5q HG2q ⊢
  have hld : ∀ W : World, Below w.heap.size w W → (Instr.loadAt 26 (.pointer (some ad8))).run Try.prog W = .ok (.agg (nums .u8 z9).toArray) W := fun W hW => by
    obtain ⟨ad9, e9, hc9⟩ := CB.cells (hC9 _ (hC8 W (Kd.C_below HR.out hW))) (by rw [hz32.out]; decide)
    cases e9
    exact run_loadVar_at ad8 26 (nums .u8 z9) _ hc9 Try.underlying26 rfl (by rw [nums_length, hz32.out]; exact info26)
  refine pure_ (i := 0) (N := some 37) (v := ?_) (a' := ?_) #[true, false, false, false, false, false, false, false, false, false] rfl rfl (any_of HT_.out (by kernel_rfl)) (fun _ _ _ h => h) (Or.inl ⟨by rfl, ?_⟩) ?_ ?_
  rotate_left
  · intro w'
    go_simp
    with_reducible rfl
  rotate_left
  · simp only [Act.put, List.setIfInBounds_toArray, List.set_cons_zero, List.set_cons_succ, i64_w, i32_w]
    rfl
  refine take_ (i := 1) (N := some 38) (v := ?_) (a' := ?_) #[true, true, false, false, false, false, false, false, false, false] rfl rfl (take_ofW HT_.out HW_.out (by kernel_rfl)) (fun _ _ _ h => h) (Or.inl ⟨by rfl, ?_⟩) hHeld ?_ ?_
  rotate_left
  · intro w' hw'
    have hf0_ := (show (convert 33 9 v2).run Try.prog w' = .ok (.string s) w' by rw [hs.out]; exact own_string (P := Try.prog) Try.underlying33 Try.underlying5 Try.underlying9 (RB.own hw'.2))
    go_simp
    with_reducible rfl
  rotate_left
  · simp only [Act.put, List.setIfInBounds_toArray, List.set_cons_zero, List.set_cons_succ, i64_w, i32_w]
    rfl
  refine pure_ (i := 2) (N := some 39) (v := ?_) (a' := ?_) #[true, true, true, false, false, false, false, false, false, false] rfl rfl (any_of HT_.out (by kernel_rfl)) (fun _ _ _ h => h) (Or.inl ⟨by rfl, ?_⟩) ?_ ?_
  rotate_left
  · intro w'
    go_simp
    with_reducible rfl
  rotate_left
  · simp only [Act.put, List.setIfInBounds_toArray, List.set_cons_zero, List.set_cons_succ, i64_w, i32_w]
    rfl
  refine pure_ (i := 3) (N := some 40) (v := ?_) (a' := ?_) #[true, true, true, true, false, false, false, false, false, false] rfl rfl (any_of HT_.out (by kernel_rfl)) (fun _ _ _ h => h) (Or.inl ⟨by rfl, ?_⟩) ?_ ?_
  rotate_left
  · intro w'
    go_simp
    with_reducible rfl
  rotate_left
  · simp only [Act.put, List.setIfInBounds_toArray, List.set_cons_zero, List.set_cons_succ, i64_w, i32_w]
    rfl
  refine pure_ (i := 4) (N := some 41) (v := ?_) (a' := ?_) #[true, true, true, true, true, false, false, false, false, false] rfl rfl (any_of HT_.out (by kernel_rfl)) (fun _ _ _ h => h) (Or.inl ⟨by rfl, ?_⟩) ?_ ?_
  rotate_left
  · intro w'
    go_simp
    with_reducible rfl
  rotate_left
  · simp only [Act.put, List.setIfInBounds_toArray, List.set_cons_zero, List.set_cons_succ, i64_w, i32_w]
    rfl
  refine take_ (i := 5) (N := some 42) (v := (.agg (nums .u8 z9).toArray)) (a' := ?_) #[true, true, true, true, true, true, false, false, false, false] rfl rfl (take_ofW HT_.out HW_.out (by kernel_rfl)) (fun _ _ _ h => h) (Or.inl ⟨by rfl, fun w' hw' => load_run rfl rfl (hld w' hw'.1)⟩) hHeld ?_ ?_
  rotate_left
  · simp only [Act.put, List.setIfInBounds_toArray, List.set_cons_zero, List.set_cons_succ, i64_w, i32_w]
    rfl
  refine pure_ (i := 6) (N := some 43) (v := ?_) (a' := ?_) #[true, true, true, true, true, true, true, false, false, false] rfl rfl (any_of HT_.out (by kernel_rfl)) (fun _ _ _ h => h) (Or.inl ⟨by rfl, ?_⟩) ?_ ?_
  rotate_left
  · intro w'
    go_simp
    with_reducible rfl
  rotate_left
  · simp only [Act.put, List.setIfInBounds_toArray, List.set_cons_zero, List.set_cons_succ, i64_w, i32_w]
    rfl
  refine one_ (i := 7) (N := none) #[true, true, true, true, true, true, true, true, false, false] rfl rfl (one_of HT_.out (by kernel_rfl)) (by decide) (fun K hK => ?_)
  refine skip_ (by rfl) rfl (put_run rfl rfl rfl (put_name HG5q.out ok1 s)) ?_
  have HS1 := Aside0.mk (show Below w.heap.size w (wq.setRow (w.heap.size + 1) (cellsOf { x1 with name := s }).toArray) ∧ RB (wq.setRow (w.heap.size + 1) (cellsOf { x1 with name := s }).toArray) w.heap.size v2 lb from ⟨below_setRow hHeld.1 (by omega) _, rb_other hHeld.2 HG5q.out (by decide) (grown_put _ _ _)⟩)
  have N5 := Aside0.mk (it_put { x1 with name := s } HG5q.out)
  have N2 := Aside0.mk (show It (wq.setRow (w.heap.size + 1) (cellsOf { x1 with name := s }).toArray) w.heap.size item0 from blk_grown HG2q.out (grown_put _ _ _) (by simp))
  generalize wq.setRow (w.heap.size + 1) (cellsOf { x1 with name := s }).toArray = wa at HS1 N5 N2 hK ⊢
  refine hK.out _ _ HS1.out (fun hHeld => ?_)
  clear hK K HS1 HG5q HG2q
  have HG2q := N2; have HG5q := N5
  clear N2 N5
  refine pure_ (i := 8) (N := some 44) (v := ?_) (a' := ?_) #[true, true, true, true, true, true, true, true, true, false] rfl rfl (any_of HT_.out (by kernel_rfl)) (fun _ _ _ h => h) (Or.inl ⟨by rfl, ?_⟩) ?_ ?_
  rotate_left
  · intro w'
    go_simp
    with_reducible rfl
  rotate_left
  · simp only [Act.put, List.setIfInBounds_toArray, List.set_cons_zero, List.set_cons_succ, i64_w, i32_w]
    rfl
  refine one_ (i := 9) (N := none) #[true, true, true, true, true, true, true, true, true, true] rfl rfl (one_of HT_.out (by kernel_rfl)) (by decide) (fun K hK => ?_)
  refine skip_ (by rfl) rfl (put_run rfl rfl rfl (put_of HG5q.out ok1 z9 hz32.out)) ?_
  have HS1 := Aside0.mk (show Below w.heap.size w (wa.setRow (w.heap.size + 1) (cellsOf { x1 with name := s, of := z9 }).toArray) ∧ RB (wa.setRow (w.heap.size + 1) (cellsOf { x1 with name := s, of := z9 }).toArray) w.heap.size v2 lb from ⟨below_setRow hHeld.1 (by omega) _, rb_other hHeld.2 HG5q.out (by decide) (grown_put _ _ _)⟩)
  have N5 := Aside0.mk (it_put { x1 with name := s, of := z9 } HG5q.out)
  have N2 := Aside0.mk (show It (wa.setRow (w.heap.size + 1) (cellsOf { x1 with name := s, of := z9 }).toArray) w.heap.size item0 from blk_grown HG2q.out (grown_put _ _ _) (by simp))
  generalize wa.setRow (w.heap.size + 1) (cellsOf { x1 with name := s, of := z9 }).toArray = wb at HS1 N5 N2 hK ⊢
  refine hK.out _ _ HS1.out (fun hHeld => ?_)
  clear hK K HS1 HG5q HG2q
  have HG2q := N2; have HG5q := N5
  clear N2 N5
  refine done_ (done_of HT_.out (by kernel_rfl)) ?_
  clear HT_ HW_ hld hadc
  obtain ⟨x3, hx3⟩ : ∃ x3, Aside0 (x3 = ({ x1 with name := s, of := z9 } : Itm)) := ⟨_, ⟨rfl⟩⟩
  have ok3 : Ok x3 := by rw [hx3.out]; exact hz32.out
  rw [← hx3.out] at HG5q
  have HBq := Aside0.mk hHeld.1
  clear hHeld
  go_wp2_with fail
  refine (POct.octet_TakeCount.calls 40 A12 (c - (1 + n7).toNat - 32) y12 nv nk ne wb (hC12 wb (hC8 wb (Kd.C_below HR.out HBq.out))) HC12.out htk.out).mono ?_
  rintro e9 w9 ⟨rfl, hd9⟩
  have hb9 := hd9.below
  have HB9 := Aside0.mk (below_step HBq.out hb9); have HG59 := Aside0.mk (show It w9 (w.heap.size + 1) x3 from (hb9.block _ (blk_lt HG5q.out)).trans HG5q.out); have HG29 := Aside0.mk (show It w9 w.heap.size item0 from (hb9.block _ (blk_lt HG2q.out)).trans HG2q.out)
  clear hb9 hd9 HBq HG5q HG2q
  go_wp2_with (first | (refine op_put (w0 := w) w.heap.size rfl 2 (.tmp 62) (.tmp 61) rfl (w.heap.size + 1) 34 (.int .i64 nv) x3 { x3 with size := nv } rfl rfl HG59.out (put_size HG59.out ok3 nv) HB9.out (by omega) ?_; intro w10 hg10 hw10 HB10))
  have HG210 := Aside0.mk (show It w10 w.heap.size item0 from blk_grown HG29.out hw10.out (by simp))
  obtain ⟨x4, hx4⟩ : ∃ x4, Aside0 (x4 = ({ x3 with size := nv } : Itm)) := ⟨_, ⟨rfl⟩⟩
  have ok4 : Ok x4 := by rw [hx4.out]; exact ok3
  rw [← hx4.out] at hg10
  simp only [Act.put, List.setIfInBounds_toArray, List.set_cons_zero, List.set_cons_succ]
  refine start_ (n := 7) (S := (fun W_ => Below w.heap.size w W_ ∧ It W_ (w.heap.size + 1) x4)) (ds := []) #[false, false, false, false, false, false, false] (by kernel_rfl) rfl rfl (⟨below_drew1 HB10.out, hg10.out⟩) (fun hHeld => ?_); refine with_tabW im17tab im17bits (fun HT_ HW_ => ?_)
  have HG2q := Aside0.mk (show It w10.drew w.heap.size item0 from HG210.out)
  generalize w10.drew = wq at hHeld HG2q ⊢
  refine take_ (i := 0) (N := some 63) (v := (.agg (cellsOf x4).toArray)) (a' := ?_) #[true, false, false, false, false, false, false] rfl rfl (take_ofW HT_.out HW_.out (by kernel_rfl)) (fun _ _ _ h => h) (Or.inl ⟨by rfl, fun w' hw' => load_run rfl rfl (load_it hw'.2 ok4)⟩) hHeld ?_ ?_
  rotate_left
  · simp only [Act.put, List.setIfInBounds_toArray, List.set_cons_zero, List.set_cons_succ, i64_w, i32_w]
    rfl
  refine pure_ (i := 1) (N := some 64) (v := ?_) (a' := ?_) #[true, true, false, false, false, false, false] rfl rfl (any_of HT_.out (by kernel_rfl)) (fun _ _ _ h => h) (Or.inl ⟨by rfl, ?_⟩) ?_ ?_
  rotate_left
  · intro w'
    go_simp
    with_reducible rfl
  rotate_left
  · simp only [Act.put, List.setIfInBounds_toArray, List.set_cons_zero, List.set_cons_succ, i64_w, i32_w]
    rfl
  refine pure_ (i := 2) (N := some 65) (v := ?_) (a' := ?_) #[true, true, true, false, false, false, false] rfl rfl (any_of HT_.out (by kernel_rfl)) (fun _ _ _ h => h) (Or.inl ⟨by rfl, ?_⟩) ?_ ?_
  rotate_left
  · intro w'
    go_simp
    with_reducible rfl
  rotate_left
  · simp only [Act.put, List.setIfInBounds_toArray, List.set_cons_zero, List.set_cons_succ, i64_w, i32_w]
    rfl
  refine pure_ (i := 3) (N := some 66) (v := ?_) (a' := ?_) #[true, true, true, true, false, false, false] rfl rfl (any_of HT_.out (by kernel_rfl)) (fun _ _ _ h => h) (Or.inl ⟨by rfl, ?_⟩) ?_ ?_
  rotate_left
  · intro w'
    go_simp
    with_reducible rfl
  rotate_left
  · simp only [Act.put, List.setIfInBounds_toArray, List.set_cons_zero, List.set_cons_succ, i64_w, i32_w]
    rfl
  refine one_ (i := 4) (N := none) #[true, true, true, true, true, false, false] rfl rfl (one_of HT_.out (by kernel_rfl)) (by decide) (fun K hK => ?_)
  refine skip_ (by rfl) rfl (store_run wq 28 (.tmp 2) (.tmp 63) rfl w.heap.size (cellsOf x4).toArray rfl rfl 28 (cellsOf item0).toArray HG2q.out 35 info28 (cells_sz ok4) (cells_sz ok0) (cells_all x4)) ?_
  have HS1 := Aside0.mk (show Below w.heap.size w (wq.setRow w.heap.size (cellsOf x4).toArray) ∧ It (wq.setRow w.heap.size (cellsOf x4).toArray) (w.heap.size + 1) x4 from ⟨below_setRow hHeld.1 (Nat.le_refl _) _, blk_grown hHeld.2 (grown_put _ _ _) (by simp)⟩)
  have hgz := Aside0.mk (it_put x4 HG2q.out)
  generalize wq.setRow w.heap.size (cellsOf x4).toArray = wz at HS1 hgz hK ⊢
  refine hK.out _ _ HS1.out (fun hHeld => ?_)
  clear hK K HS1 HG2q
  refine pure_ (i := 5) (N := some 3) (v := ?_) (a' := ?_) #[true, true, true, true, true, true, false] rfl rfl (any_of HT_.out (by kernel_rfl)) (fun _ _ _ h => h) (Or.inl ⟨by rfl, ?_⟩) ?_ ?_
  rotate_left
  · intro w'
    go_simp
    with_reducible rfl
  rotate_left
  · simp only [Act.put, List.setIfInBounds_toArray, List.set_cons_zero, List.set_cons_succ, i64_w, i32_w]
    rfl
  refine pure_ (i := 6) (N := some 4) (v := ?_) (a' := ?_) #[true, true, true, true, true, true, true] rfl rfl (any_of HT_.out (by kernel_rfl)) (fun _ _ _ h => h) (Or.inl ⟨by rfl, ?_⟩) ?_ ?_
  rotate_left
  · intro w'
    go_simp
    with_reducible rfl
  rotate_left
  · simp only [Act.put, List.setIfInBounds_toArray, List.set_cons_zero, List.set_cons_succ, i64_w, i32_w]
    rfl
  refine done_ (done_of HT_.out (by kernel_rfl)) ?_
  clear HT_ HW_
  have hfin : Aside0 (x4 = ⟨strOfNums lb, c0, (y1.drop n7.toNat).take 32, nv⟩ ∧ yF = ((y1.drop n7.toNat).drop 32).drop nk.toNat) := ⟨by rw [hx4.out, hx3.out, hx1.out, hs.out, HZ9.out, HY8.out, hbr.out, show (c0 :: y1).drop (1 + n7).toNat = y1.drop n7.toNat by rw [show (1 + n7).toNat = n7.toNat + 1 by omega]; rfl]; rfl, by rw [HYF.out, HY12.out, HY8.out, hbr.out, show (c0 :: y1).drop (1 + n7).toNat = y1.drop n7.toNat by rw [show (1 + n7).toNat = n7.toNat + 1 by omega]; rfl]; rfl⟩
  go_wp2_with fail
  exact ret_row3 rfl w.heap.size rfl 28 (cellsOf x4).toArray _ hgz.out Try.underlying28 rfl 35 info28 (cells_sz ok4) rfl ⟨AF, _, by rw [← hfin.out.1, ← hfin.out.2]; rfl, by rw [← hfin.out.2]; exact HCF.out, by rw [← hfin.out.2]; exact fun W hW => hCF W (hC12 W (hC8 W hW)), hHeld.1⟩
end Go.Proofs.Ytmcankeggbofhaa.Iw
