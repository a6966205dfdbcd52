/- Entries and identities told equal; what Head, Export and Verify answer where there is no entry; begun. -/
import Derived.Test.YtgpgblidplmchaaEu
namespace Go.Proofs.Ytgpgblidplmchaa.Eh
open Go.RowKit Go.Proofs.YtgpgblidplmchaaW.PrintWords Go.Proofs.YtgpgblidplmchaaW.PrintLast Go.Proofs.YtgpgblidplmchaaW.PrintMore
open En Ag Spc OctA OctC Eb Eg Ep Et Eu
set_option linter.unusedVariables false
set_option linter.unusedSimpArgs false
set_option maxRecDepth 100000
theorem all_range_eq : ∀ (xs ys : List Int), xs.length = ys.length → ((List.range xs.length).all fun i => xs.getD i 0 == ys.getD i 0) = (xs == ys)
  | [], [], _ => rfl
  | x :: xs, y :: ys, h => by
    have ih := all_range_eq xs ys (by simpa using h)
    rw [List.length_cons, List.range_succ_eq_map, List.all_cons, List.all_map]
    simp only [List.getD_cons_zero, Function.comp_def, List.getD_cons_succ, ih]
    simp [List.cons_beq_cons]
  | [], _ :: _, h => by simp at h
  | _ :: _, [], h => by simp at h
theorem arr_eq {P : Program} (w : World) (d : Nat) (t e : TypeId) (n : Nat) (ht : P.underlying t = some (.array n e)) (he : P.underlying e = some (.int .u8)) (hsz : ∀ w, (sizeOf e).run P w = .ok 1 w)
    (xs ys : List Int) (hx : xs.length = n) (hy : ys.length = n) :
    (Op.equalIn (d + 2) t (.agg (nums .u8 xs).toArray) (.agg (nums .u8 ys).toArray)).run P w = .ok (xs == ys) w := by
  rw [← all_range_eq xs ys (hx.trans hy.symm), hx, List.range_eq_range', Op.equalIn]
  simp only [Sem.run_bind, run_underlying ht, Result.andThen_ok, hsz, Std.Legacy.Range.forIn_eq_forIn_range', Std.Legacy.Range.size, Nat.sub_zero, Nat.add_sub_cancel, Nat.div_one]
  have hl : ∀ i ∈ List.range' 0 n 1, i < n := fun i hi => by simpa using (List.mem_range'_1.1 hi).2
  generalize List.range' 0 n 1 = l at hl ⊢
  induction l with
  | nil => simp
  | cons i l ih =>
    have hi : i < n := hl i (by simp)
    have px : (part e (nums .u8 xs).toArray (i * 1)).run P w = .ok (.int .u8 (xs.getD i 0)) w := by
      simp [part, isAgg, run_underlying he, nums, List.getD, List.getElem?_eq_getElem (show i < xs.length by omega)]
    have py : (part e (nums .u8 ys).toArray (i * 1)).run P w = .ok (.int .u8 (ys.getD i 0)) w := by
      simp [part, isAgg, run_underlying he, nums, List.getD, List.getElem?_eq_getElem (show i < ys.length by omega)]
    have pe : (Op.equalIn (d + 1) e (.int .u8 (xs.getD i 0)) (.int .u8 (ys.getD i 0))).run P w = .ok (xs.getD i 0 == ys.getD i 0) w := run_equalIn_int w d e .u8 .u8 _ _ he
    simp only [List.forIn_cons, Sem.run_bind, px, py, pe, Result.andThen_ok, List.all_cons]
    cases hb : (xs.getD i 0 == ys.getD i 0)
    · simp
    · simp only [Bool.not_true, Bool.false_eq_true, if_false, Sem.run_pure, Result.andThen_ok, Bool.true_and]
      exact ih fun j hj => hl j (by simp [hj])
theorem size5 : ∀ w, (sizeOf 5).run Try.prog w = .ok 1 w := by
  intro w
  obtain ⟨it, hi, hz⟩ := Option.map_eq_some_iff.1 POct.info5
  simp only [Prod.mk.injEq] at hz
  simp [sizeOf, typeInfo, hi, hz.2.1]
def eqE (x y : Ent) : Bool := (x.seq == y.seq) && ((x.tick == y.tick) && ((x.serial == y.serial) && ((x.ten.toList == y.ten.toList) && ((x.act == y.act) && ((x.status == y.status) && (x.of == y.of))))))
theorem eqE_iff (x y : Ent) : eqE x y = true ↔ x = y := by
  unfold eqE
  simp only [Bool.and_eq_true, beq_iff_eq]
  constructor
  · rintro ⟨h1, h2, h3, h4, h5, h6, h7⟩
    obtain ⟨a, b, c, ⟨⟨d⟩⟩, e, f, g⟩ := x
    obtain ⟨a2, b2, c2, ⟨⟨d2⟩⟩, e2, f2, g2⟩ := y
    rw [ByteArray.toList_eq, ByteArray.toList_eq] at h4
    have h4' : d = d2 := h4
    simp only at h1 h2 h3 h5 h6 h7
    subst h1 h2 h3 h4' h5 h6 h7
    rfl
  · rintro rfl; exact ⟨rfl, rfl, rfl, rfl, rfl, rfl, rfl⟩
theorem cells_of_part {x : Ent} (h : Ok x) : List.take 32 (List.drop 6 (cellsOf x)) = nums .u8 x.of := by
  unfold Ok at h
  have h32 : (nums .u8 x.of).length = 32 := by simp [nums, h]
  show List.take 32 (nums .u8 x.of) = _
  rw [List.take_of_length_le (by omega)]
theorem ent_eq (w : World) (x y : Ent) (hx : Ok x) (hy : Ok y) : (Op.equalIn 10000 27 (.agg (cellsOf x).toArray) (.agg (cellsOf y).toArray)).run Try.prog w = .ok (eqE x y) w := by
  refine eqA_of (P := Try.prog) (d := 9999) (t := 27) (xs := (cellsOf x).toArray) (ys := (cellsOf y).toArray) (w := w) Try.underlying27 (by kernel_rfl) ?_
  have p0 : ∀ z : Ent, (part 2 (cellsOf z).toArray 0).run Try.prog w = .ok (.int .i64 z.seq) w := fun z => by simp [part, isAgg, run_underlying Try.underlying2, cellsOf]
  have p1 : ∀ z : Ent, (part 2 (cellsOf z).toArray 1).run Try.prog w = .ok (.int .i64 z.tick) w := fun z => by simp [part, isAgg, run_underlying Try.underlying2, cellsOf]
  have p2 : ∀ z : Ent, (part 23 (cellsOf z).toArray 2).run Try.prog w = .ok (.int .u64 z.serial) w := fun z => by simp [part, isAgg, run_underlying Try.underlying23, cellsOf]
  have p3 : ∀ z : Ent, (part 9 (cellsOf z).toArray 3).run Try.prog w = .ok (.string z.ten) w := fun z => by simp [part, isAgg, run_underlying Try.underlying9, cellsOf]
  have p4 : ∀ z : Ent, (part 3 (cellsOf z).toArray 4).run Try.prog w = .ok (.int .i64 z.act) w := fun z => by simp [part, isAgg, run_underlying Try.underlying3, cellsOf]
  have p5 : ∀ z : Ent, (part 3 (cellsOf z).toArray 5).run Try.prog w = .ok (.int .i64 z.status) w := fun z => by simp [part, isAgg, run_underlying Try.underlying3, cellsOf]
  have p6 : ∀ z : Ent, Ok z → (part 25 (cellsOf z).toArray 6).run Try.prog w = .ok (.agg (nums .u8 z.of).toArray) w := fun z hz => by
    obtain ⟨it, hi, hq⟩ := Option.map_eq_some_iff.1 info25
    simp [part, isAgg, run_underlying Try.underlying25, sizeOf, typeInfo, hi, hq, cells_of_part hz]
  unfold eqE
  refine eqf_cons (by rfl) (p0 x) (p0 y) (run_equalIn_int w 9998 2 .i64 .i64 _ _ Try.underlying2) ?_
  refine eqf_cons (by rfl) (p1 x) (p1 y) (run_equalIn_int w 9998 2 .i64 .i64 _ _ Try.underlying2) ?_
  refine eqf_cons (by rfl) (p2 x) (p2 y) (run_equalIn_int w 9998 23 .u64 .u64 _ _ Try.underlying23) ?_
  refine eqf_cons (by rfl) (p3 x) (p3 y) (run_equalIn_string w 9998 9 _ _ Try.underlying9) ?_
  refine eqf_cons (by rfl) (p4 x) (p4 y) (run_equalIn_int w 9998 3 .i64 .i64 _ _ Try.underlying3) ?_
  refine eqf_cons (by rfl) (p5 x) (p5 y) (run_equalIn_int w 9998 3 .i64 .i64 _ _ Try.underlying3) ?_
  exact eqf_last (by rfl) (p6 x hx) (p6 y hy) (arr_eq w 9997 25 5 32 Try.underlying25 Try.underlying5 size5 x.of y.of hx hy)
theorem guard27 : Try.prog.eqGuardType Try.prog.depth 27 = false := by kernel_rfl
theorem guard25 : Try.prog.eqGuardType Try.prog.depth 25 = false := by kernel_rfl
theorem ent_eql {o : Oper} {a : Act} {W : World} {x y : Operand} {p q : Ent} (ho : o.op = .binOp .eql 27 x y 27) (hx : a.eval x = .agg (cellsOf p).toArray) (hy : a.eval y = .agg (cellsOf q).toArray) (hp : Ok p) (hq : Ok q) : (execOp a.eval o).run Try.prog W = .ok (.value (.bool (eqE p q))) W := by
  simp only [execOp, ho, hx, hy, Sem.run_bind, run_eql_struct, run_eqGuard_agg W .eql 27 x y _ _ guard27, ent_eq W p q hp hq, Result.andThen_ok, Sem.run_pure]
theorem ent_neq {o : Oper} {a : Act} {W : World} {x y : Operand} {p q : Ent} (ho : o.op = .binOp .neq 27 x y 27) (hx : a.eval x = .agg (cellsOf p).toArray) (hy : a.eval y = .agg (cellsOf q).toArray) (hp : Ok p) (hq : Ok q) : (execOp a.eval o).run Try.prog W = .ok (.value (.bool (!eqE p q))) W := by
  simp only [execOp, ho, hx, hy, Sem.run_bind, run_neq_struct, run_eqGuard_agg W .neq 27 x y _ _ guard27, ent_eq W p q hp hq, Result.andThen_ok, Sem.run_pure]
theorem id_neq {o : Oper} {a : Act} {W : World} {x y : Operand} {p q : List Int} (ho : o.op = .binOp .neq 25 x y 25) (hx : a.eval x = .agg (nums .u8 p).toArray) (hy : a.eval y = .agg (nums .u8 q).toArray) (hp : p.length = 32) (hq : q.length = 32) : (execOp a.eval o).run Try.prog W = .ok (.value (.bool (!(p == q)))) W := by
  simp only [execOp, ho, hx, hy, Sem.run_bind, run_neq_struct, run_eqGuard_agg W .neq 25 x y _ _ guard25, arr_eq W 9998 25 5 32 Try.underlying25 Try.underlying5 size5 p q hp hq, Result.andThen_ok, Sem.run_pure]
theorem id_eql {o : Oper} {a : Act} {W : World} {x y : Operand} {p q : List Int} (ho : o.op = .binOp .eql 25 x y 25) (hx : a.eval x = .agg (nums .u8 p).toArray) (hy : a.eval y = .agg (nums .u8 q).toArray) (hp : p.length = 32) (hq : q.length = 32) : (execOp a.eval o).run Try.prog W = .ok (.value (.bool (p == q))) W := by
  simp only [execOp, ho, hx, hy, Sem.run_bind, run_eql_struct, run_eqGuard_agg W .eql 25 x y _ _ guard25, arr_eq W 9998 25 5 32 Try.underlying25 Try.underlying5 size5 p q hp hq, Result.andThen_ok, Sem.run_pure]
/-- an identity in a block of its own -/
def Idb (w : World) (g : Nat) (l : List Int) : Prop := w.heap[g]? = some (.cells (nums .u8 l).toArray 25 (0, 0))
theorem id_sz {l : List Int} (h : l.length = 32) : (nums .u8 l).toArray.size = 32 := by simp [nums, h]
theorem id_all (l : List Int) : (nums .u8 l).toArray.all (·.oneCell') = true := by
  rw [Array.all_eq_true]
  intro i hi
  exact Tw.nums_one .u8 l _ (by simp)
theorem id0_len : id0.length = 32 := by simp [id0]
set_option maxHeartbeats 1600000 in
theorem head_nil (w : World) : Calls Try.prog 12 #[.slice none 0 0] w fun e w' => e = .returned (.tuple #[.agg (nums .u8 id0).toArray, .int .i64 0]) ∧ Below w.heap.size w w' := by
  have HB0 := Aside0.mk (show Below w.heap.size w ((w.alloc (.cells (nums .u8 id0).toArray 25)).alloc (.cells (nums .u8 id0).toArray 25)) from ((Below.refl w.heap.size w).alloc (Nat.le_refl _) _).alloc (by simp) _)
  have hg2 := Aside0.mk (show Idb ((w.alloc (.cells (nums .u8 id0).toArray 25)).alloc (.cells (nums .u8 id0).toArray 25)) w.heap.size id0 from (((Below.refl (w.alloc (.cells (nums .u8 id0).toArray 25)).heap.size _).alloc (Nat.le_refl _) _).block _ (by simp)).trans (heap_alloc_new w _))
  have hg6 := Aside0.mk (show Idb ((w.alloc (.cells (nums .u8 id0).toArray 25)).alloc (.cells (nums .u8 id0).toArray 25)) (w.heap.size + 1) id0 by have := heap_alloc_new (w.alloc (.cells (nums .u8 id0).toArray 25)) (.cells (nums .u8 id0).toArray 25); simpa [Idb] using this)
  go_enter Try.func12, Try.ntmps12
  go_wp2_with (first | (with_reducible refine op_alloc rfl 25 rfl _ zero25 ?_))
  go_loop [11] (fun u => u = .int .i64 0) (fun _ => 0)
  case atStart => exact rfl
  case round =>
    obtain rfl := hrel
    go_wp2_with (first | (with_reducible refine op_alloc rfl 25 rfl _ zero25 ?_))
    go_loop [22] (fun u => u = .int .i64 0) (fun _ => 0)
    case atStart => exact rfl
    case round =>
      obtain rfl := hrel
      go_wp2_with (first | (refine op_load rfl 25 (.tmp 6) rfl (w.heap.size + 1) rfl 25 (nums .u8 id0).toArray _ hg6.out Try.underlying25 rfl 32 info25 (id_sz id0_len) ?_) | (refine op_store (w0 := w) w.heap.size rfl 25 (.tmp 2) (.tmp 39) rfl w.heap.size (nums .u8 id0).toArray rfl rfl 25 (nums .u8 id0).toArray hg2.out 32 info25 (id_sz id0_len) (id_sz id0_len) (id_all _) HB0.out (Nat.le_refl _) ?_; intro wz hgz _ HBz))
      exact ret_row rfl w.heap.size rfl 25 (nums .u8 id0).toArray _ hgz.out Try.underlying25 rfl 32 info25 (id_sz id0_len) rfl ⟨rfl, HBz.out⟩
theorem lit_const (W : World) (a b : Int) (fr : Nat × Nat) : CB (W.alloc (.cells #[.int .u8 a, .int .u8 b] 5 fr)) (some ⟨W.heap.size, 0, none⟩) [a, b] := by
  refine CB.of_cells (by simp) fun j hj => ?_
  rw [cell_of_row _ _ _ _ _ _ (heap_alloc_new W _)]
  have : j = 0 ∨ j = 1 := by simp at hj; omega
  rcases this with rfl | rfl <;> rfl
def exp0 : List Int := [76, 49, 0, 0, 0, 0, 0, 0, 0, 0]
set_option maxHeartbeats 1600000 in
theorem export_nil (w : World) : Calls Try.prog 28 #[.slice none 0 0] w fun e w' => ∃ v, e = .returned (.tuple #[v, .int .i64 0]) ∧ RB w' w.heap.size v exp0 ∧ Below w.heap.size w w' := by
  have kc := fun (w : World) (C : Array Value) (n c : Nat) => Lib.run_convert_bytes_const (P := Try.prog) w 37 5 C n c Try.underlying37 Try.underlying5
  have f0 := Aside0.mk (show POct.octet_Put.f 40 [76, 49] 0 8 = some (exp0, 0) from put_int 40 [76, 49] 0 8 (by omega) (by omega) (by omega) (by omega) (by simp) (by omega))
  go_enter Try.func28, Try.ntmps28
  go_wp2_with fail
  refine (head_nil w).mono ?_
  rintro e1 w1 ⟨rfl, hb1⟩
  have HB1 := Aside0.mk hb1
  have HBa := Aside0.mk (HB1.out.alloc HB1.out.size (.cells (nums .u8 id0).toArray 25))
  have hga := Aside0.mk (heap_alloc_new w1 (.cells (nums .u8 id0).toArray 25))
  clear hb1
  go_wp2_with (first | (with_reducible refine op_alloc rfl 25 rfl _ zero25 ?_) | (refine op_store (w0 := w) w.heap.size rfl 25 (.tmp 4) (.tmp 15) rfl w1.heap.size (nums .u8 id0).toArray rfl rfl 25 (nums .u8 id0).toArray hga.out 32 info25 (id_sz id0_len) (id_sz id0_len) (id_all _) HBa.out HB1.out.size ?_; intro w2 hg2 hw2 HB2; have hl := Aside0.mk (lit_const w2 76 49 (2, 3)); have HBl := Aside0.mk (HB2.out.alloc HB2.out.size (.cells #[.int .u8 76, .int .u8 49] 5 (2, 3)))))
  refine (POct.octet_Put.calls 40 _ 2 [76, 49] 0 8 exp0 0 _ hl.out (by simp) f0.out).mono ?_
  rintro e3 w3 ⟨v3, rfl, ho3, hb3⟩
  have HB3 := Aside0.mk (below_step HBl.out hb3)
  have HO3 := Aside0.mk (Kd.R_lower ho3 HBl.out.size)
  clear ho3 hb3
  go_wp2_with fail
  go_loop [6, 31] (fun vb u => vb = v3 ∧ u = .int .i64 0) (fun _ _ => 0)
  case atStart => exact ⟨rfl, rfl⟩
  case round =>
    obtain ⟨rfl, rfl⟩ := hrel
    go_wp2_with fail
    go_ret2
    exact ⟨_, rfl, HO3.out, HB3.out⟩
set_option maxHeartbeats 3200000 in
theorem verify_none (A : Option Addr) (c : Nat) (w : World) (hr : CB w A exp0) (hc : exp0.length ≤ c) : Calls Try.prog 30 #[.slice A exp0.length c, .agg (nums .u8 id0).toArray] w fun e w' => e = .returned (.tuple #[.int .i64 0, .int .i64 0]) ∧ Below w.heap.size w w' := by
  obtain ⟨b, hb⟩ : ∃ b, Aside0 (b = exp0) := ⟨_, ⟨rfl⟩⟩
  rw [← hb.out] at hr hc ⊢
  have hln : b.length = 10 := by rw [hb.out]; rfl
  have HR := Aside0.mk hr; have HC := Aside0.mk hc
  have hA := Aside0.mk (show POct.octet_At.f 40 b 2 8 = some (0, 0) by
    have := at_ok 40 b 2 8 (by rw [hb.out]; unfold exp0; simp) (by omega) (by omega) (by omega) (by omega) (by omega)
    rw [show Spc.val 0 ((b.drop 2).take 8) = 0 by rw [hb.out]; rfl] at this
    exact this)
  have HB0 := Aside0.mk ((Below.refl w.heap.size w).alloc (Nat.le_refl _) (.cells (nums .u8 id0).toArray 25))
  have hg3 := Aside0.mk (show Idb (w.alloc (.cells (nums .u8 id0).toArray 25)) w.heap.size id0 from heap_alloc_new w _)
  obtain ⟨y2, hy2, hl2, hc2_, hcut2, hC2⟩ := cut_take (P := Try.prog) 37 Try.underlying37 POct.info5 A c b 2 (by omega) (by omega) hc
  obtain ⟨s, hs⟩ : ∃ s, Aside0 (s = strOfNums y2) := ⟨_, ⟨rfl⟩⟩
  have hcv : (convert 37 9 (.slice A y2.length c)).run Try.prog (w.alloc (.cells (nums .u8 id0).toArray 25)) = .ok (.string s) (w.alloc (.cells (nums .u8 id0).toArray 25)) := by rw [hs.out]; exact Kd.C_string (P := Try.prog) (c := c) Try.underlying37 Try.underlying5 Try.underlying9 (hC2 _ (Kd.C_below hr HB0.out))
  have hsq : (s.toList == [76, 49]) = true := by rw [hs.out, hy2, hb.out, ByteArray.toList_eq, strOfNums_data]; rfl
  obtain ⟨y10, A10, hy10, hl10, hc10_, hcut10, hC10⟩ := cut_drop (P := Try.prog) 37 Try.underlying37 POct.info5 A c b 10 (by omega) (by omega) hc
  have hz : y10.length = 0 := by omega
  have d0 : decide ((b.length : Int) < 2) = false := decide_eq_false (by omega)
  have HZ := Aside0.mk hz
  clear hr hc hy2 hl2 hc2_ hy10 hl10 hc10_ hln hz
  go_enter Try.func30, Try.ntmps30
  go_wp2_with fail
  refine (POct.octet_At.calls 40 A c b 2 8 0 0 _ (Kd.C_below HR.out HB0.out) HC.out hA.out).mono ?_
  rintro e1 w1 ⟨rfl, hd1⟩
  have hb1 := hd1.below
  have HB1 := Aside0.mk (below_step HB0.out hb1)
  have hg31 := Aside0.mk (show Idb w1 w.heap.size id0 from (hb1.block _ (blk_lt hg3.out)).trans hg3.out)
  have HBa := Aside0.mk (HB1.out.alloc HB1.out.size (.cells (nums .u8 id0).toArray 25))
  have hga := Aside0.mk (heap_alloc_new w1 (.cells (nums .u8 id0).toArray 25))
  have hgl := Aside0.mk (blk_lt hg31.out)
  have hg3a := Aside0.mk (show Idb (w1.alloc (.cells (nums .u8 id0).toArray 25)) w.heap.size id0 from (((Below.refl w1.heap.size w1).alloc (Nat.le_refl _) _).block _ hgl.out).trans hg31.out)
  clear hb1 hd1 HB0 hg3 hcv
  go_wp2_with (first | (with_reducible refine op_build rfl 25 _ rfl (nums .u8 id0).toArray (by rw [List.map_toArray]; exact built25) ?_) | (with_reducible refine op_alloc rfl 25 rfl _ zero25 ?_) | (refine op_store (w0 := w) w.heap.size rfl 25 (.tmp 9) (.tmp 31) rfl w1.heap.size (nums .u8 id0).toArray rfl rfl 25 (nums .u8 id0).toArray hga.out 32 info25 (id_sz id0_len) (id_sz id0_len) (id_all _) HBa.out HB1.out.size ?_; intro w2 hg2 hw2 HB2; have hg32 := Aside0.mk (show Idb w2 w.heap.size id0 from blk_grown hg3a.out hw2.out (by have := hgl.out; simp; omega))))
  simp only [Act.put, List.setIfInBounds_toArray, List.set_cons_zero, List.set_cons_succ]
  go_loop [0, 8] (fun vb vn => vb = .slice A10 y10.length (c - 10) ∧ vn = .int .i64 0) (fun _ _ => 0)
  case atStart => exact ⟨rfl, rfl⟩
  case round =>
    obtain ⟨rfl, rfl⟩ := hrel
    have hz := HZ.out
    go_wp2_with (first | (refine op_load rfl 25 (.tmp 9) rfl w1.heap.size rfl 25 (nums .u8 id0).toArray _ hg2.out Try.underlying25 rfl 32 info25 (id_sz id0_len) ?_) | (refine op_load rfl 25 (.tmp 3) rfl w.heap.size rfl 25 (nums .u8 id0).toArray _ hg32.out Try.underlying25 rfl 32 info25 (id_sz id0_len) ?_) | (refine Kd.event_run rfl (id_neq (x := .tmp 66) (y := .tmp 67) rfl rfl rfl id0_len id0_len) ?_))
    go_ret2
    exact ⟨rfl, HB2.out⟩
def entA : Ent := ⟨0, 0, 0, ⟨#[97]⟩, 0, 0, List.replicate 32 0⟩
theorem builtA : Try.prog.built 27 [(3, .string ⟨#[97]⟩)] = some (cellsOf entA).toArray := by kernel_rfl
theorem wfA : Wf entA := ⟨by simp [Ok, entA], by decide, by decide, by decide, by decide, fun y hy => by have := List.eq_of_mem_replicate hy; omega⟩
theorem mayA : mayE entA = true := by decide
theorem lenA : (bytesE entA).length = 61 := by
  unfold bytesE
  simp [be_length, entA, bytesOf]
set_option maxHeartbeats 3200000 in
theorem begun_calls (w : World) : Calls Try.prog 9 #[] w fun e w' => e = .returned (.bool true) ∧ Below w.heap.size w w' := by
  have HBT := Aside0.mk builtA
  have KB := Aside0.mk (fun w => bytes_yes entA w wfA mayA)
  obtain ⟨bb, hbb⟩ : ∃ bb, Aside0 (bb = bytesE entA) := ⟨_, ⟨rfl⟩⟩
  have HLN := Aside0.mk (show bb.length = 61 by rw [hbb.out]; exact lenA)
  rw [← hbb.out] at KB
  clear hbb
  obtain ⟨ca, hca⟩ : ∃ ca, Aside0 (ca = (cellsOf entA).toArray) := ⟨_, ⟨rfl⟩⟩
  rw [← hca.out] at KB HBT
  clear hca
  go_enter Try.func9, Try.ntmps9
  go_wp2_with (first | (refine op_build rfl 27 _ rfl ca (by rw [List.map_toArray]; exact HBT.out) ?_))
  refine (KB.out _).mono ?_
  rintro e1 w1 ⟨v1, rfl, ho1, hb1⟩
  obtain ⟨A1, c1, rfl, hc1, hC1⟩ := Kd.R_reads ho1
  have HB1 := Aside0.mk hb1
  clear ho1 hb1 hC1 hc1
  go_wp2_with fail
  refine (export_nil w1).mono ?_
  rintro e2 w2 ⟨v2, rfl, ho2, hb2⟩
  obtain ⟨A2, c2, rfl, hc2, hC2⟩ := Kd.R_reads ho2
  have HB2 := Aside0.mk (below_step HB1.out hb2)
  have HV := Aside0.mk (verify_none A2 c2 w2 hC2 hc2)
  obtain ⟨x0, hx0⟩ : ∃ x0, Aside0 (x0 = exp0) := ⟨_, ⟨rfl⟩⟩
  have HLX := Aside0.mk (show x0.length = 10 by rw [hx0.out]; rfl)
  rw [← hx0.out] at HV ⊢
  clear ho2 hb2 HB1 hC2 hc2 hx0
  go_wp2_with (first | (with_reducible refine op_build rfl 25 _ rfl (nums .u8 id0).toArray (by rw [List.map_toArray]; exact built25) ?_))
  refine HV.out.mono ?_
  rintro e3 w3 ⟨rfl, hb3⟩
  have HB3 := Aside0.mk (below_step HB2.out hb3)
  have h1 := HLN.out; have h2 := HLX.out
  go_wp2_with fail
  go_ret
  exact ⟨rfl, HB3.out⟩
end Go.Proofs.Ytgpgblidplmchaa.Eh
