/- A folder's bytes: the program's. A folder's bytes: the document's. An item in a block of its own: a field is stored. -/
import Derived.Test.YtmcankeggbofhaaGa
import Derived.Test.YtmcankeggbofhaaOc
import Derived.Test.YtmcankeggbofhaaWTab
import Derived.Laws.CopyRow
namespace Go.Proofs.Ytmcankeggbofhaa.By
open Go.RowKit Go.Proofs.YtmcankeggbofhaaW.PrintWords Go.Proofs.YtmcankeggbofhaaW.PrintLast Go.Proofs.YtmcankeggbofhaaW.PrintMore
open It Nm Ag My Spc
set_option linter.unusedVariables false
set_option linter.unusedSimpArgs false
set_option maxRecDepth 100000
def itemB (x : Itm) : List Int := [x.kind] ++ leb x.name.size ++ bytesOf x.name ++ x.of ++ leb x.size.toNat
def foldTo (l : List Itm) (j : Nat) : List Int := [68, 49] ++ leb l.length ++ (l.take j).flatMap itemB
def foldB (l : List Itm) : List Int := foldTo l l.length
def bytesOut (l : List Itm) : List Int × Int := if mayL l = true then (if (foldB l).length ≤ 4000 then (foldB l, 0) else ([], 2)) else ([], 1)
theorem foldTo_next (l : List Itm) (j : Nat) (h : j < l.length) : foldTo l (j + 1) = foldTo l j ++ itemB (at_ l j) := by
  unfold foldTo
  rw [List.take_succ_eq_append_getElem h, List.flatMap_append, at_get l j h]
  simp
def okI (l : List Itm) : Prop := ∀ x ∈ l, Ok x ∧ x.size ≤ 9223372036854775807
theorem may_all {l : List Itm} (h : mayL l = true) : l.length ≤ 64 ∧ ∀ j, j < l.length → stepB l j = true := by
  unfold mayL at h
  rw [Bool.and_eq_true, List.all_eq_true] at h
  exact ⟨by simpa using h.1, fun j hj => h.2 j (List.mem_range.2 hj)⟩
theorem step_item {l : List Itm} {j : Nat} (h : stepB l j = true) : okItem (at_ l j) = true := by
  unfold stepB at h; rw [Bool.and_eq_true] at h; exact h.1
theorem ok_item {x : Itm} (h : okItem x = true) : 1 ≤ x.name.size ∧ x.name.size ≤ 64 ∧ 0 ≤ x.size ∧ (x.kind = 1 ∨ x.kind = 2) ∧ okName x.name = true ∧ (x.kind = 1 ∨ x.size = 0) := by
  unfold okItem at h
  simp only [Bool.and_eq_true, Bool.not_eq_true', decide_eq_false_iff_not] at h
  obtain ⟨⟨h1, h2⟩, h3⟩ := h
  have h1' := h1
  unfold okName at h1'
  simp only [Bool.and_eq_true, decide_eq_true_eq] at h1'
  unfold kindB at h3
  simp only [Bool.or_eq_true, Bool.and_eq_true, beq_iff_eq] at h3
  refine ⟨by omega, by omega, by omega, by omega, h1, by omega⟩
theorem item_len {x : Itm} (hok : Ok x) (h : okItem x = true) (hz : x.size ≤ 9223372036854775807) : (itemB x).length ≤ 120 := by
  obtain ⟨h1, h2, h3, h4, _⟩ := ok_item h
  have a := leb_len10 (v := x.name.size) (by omega)
  have b := leb_len10 (v := x.size.toNat) (by omega)
  unfold Ok at hok
  unfold itemB
  simp [hok, bytesOf]
  omega
theorem fold_len {l : List Itm} (hl : okI l) (hm : mayL l = true) (j : Nat) (hj : j ≤ l.length) : (foldTo l j).length ≤ 20 + 120 * j := by
  induction j with
  | zero =>
    have := leb_len10 (v := l.length) (by have := (may_all hm).1; omega)
    simp [foldTo]; omega
  | succ j ih =>
    rw [foldTo_next l j (by omega), List.length_append]
    have h1 := hl (at_ l j) (by rw [at_get l j (by omega)]; exact List.getElem_mem _)
    have := item_len h1.1 (step_item ((may_all hm).2 j (by omega))) h1.2
    have := ih (by omega)
    omega
theorem lit_const (W : World) (a b : Int) (fr : Nat × Nat) : CB (W.alloc (.cells #[.int .u8 a, .int .u8 b] 5 fr)) (some ⟨W.heap.size, 0, none⟩) [a, b] := by
  refine CB.of_cells (by simp) fun j hj => ?_
  rw [cell_of_row _ _ _ _ _ _ (heap_alloc_new W _)]
  have : j = 0 ∨ j = 1 := by simp at hj; omega
  rcases this with rfl | rfl <;> rfl
theorem rb_other {W W1 : World} {base : Nat} {v : Value} {xs : List Int} {g t : Nat} {cells : Array Value} (h : RB W base v xs) (hb : W.heap[g]? = some (.cells cells t (0, 0))) (ht : (5 : Nat) ≠ t) (hg : W.grownBy W1 (some g)) : RB W1 base v xs :=
  Kd.R_mono (Kd.R_grown (Kd.R_types h hb (fun q hq => by simp [Kd.int, Kd.scalar] at hq; subst hq; exact ht)) hg (fun k hk e => hk.2 (by cases e; rfl))) (fun _ _ => trivial)
/-- append(v, ys...), v a row of the call's own; what else was written is told -/
theorem app_row2 {P : Program} {ops : Array Oper} {rest : List Oper} {o : Oper} {a : Act} {Q : Exit → Act → World → Prop} {w0 W : World} (base : Nat) (hgd : o.guard = none) (s x : Operand) (t : TypeId) (ho : o.op = .call { callee := .builtin .append, args := #[s, x], argTypes := #[t, t] })
    (ht : P.underlying t = some (.slice 5)) (hinfo : (P.info? 5).map (fun i => (i.zero, i.size, i.bytes)) = some (some (.int .u8 0), 1, 1))
    (v : Value) (xs ys : List Int) (A : Option Addr) (c : Nat) (hs : a.eval s = v) (hx : a.eval x = .slice A ys.length c)
    (HO : RB W base v xs) (HR : CB W A ys) (HB : Below base w0 W) (hbase : base ≤ W.heap.size) (hl : xs.length + ys.length ≤ 140737488355328)
    (h : ∀ (zs : List Int) (A1 : Option Addr) (c1 : Nat) (w1 : World), Aside0 (zs = xs ++ ys) → Aside0 (zs.length ≤ c1) → Aside0 (RB w1 base (.slice A1 zs.length c1) zs) → Aside0 (Below base w0 w1) → Aside0 (W.grownBy w1 v.ownBlock) → wpList P ops Q rest (a.put o.dst (.slice A1 zs.length c1)) w1) :
    wpList P ops Q (o :: rest) a W := by
  refine print_append_row base hgd s x t 5 .u8 1 ho ht hinfo (by decide) v xs ys A ys.length c hs hx HO.own (Kd.reads_of_C (enc := Value.int .u8) (d := (0 : Int)) (h1 := fun _ => rfl) HR) HB hbase (by omega) fun v1 w1 hown hB hg _ => ?_
  obtain ⟨A1, c1, rfl, hc1, _⟩ := Kd.R_reads (RB.of_own hown)
  exact h _ A1 c1 w1 ⟨rfl⟩ ⟨hc1⟩ ⟨RB.of_own hown⟩ ⟨hB⟩ ⟨hg⟩
/-- the array inside an item, read -/
theorem it_of {w : World} {g : Nat} {x : Itm} (h : It w g x) (hok : Ok x) : ReadsRow (fun y cs => cs = [Value.int .u8 y]) 1 w (some ⟨g, 2, none⟩) 32 x.of := by
  refine ⟨hok, by omega, fun _ => ⟨_, rfl, fun j p hj => ⟨[.int .u8 p], rfl, rfl, fun i u hu => ?_⟩⟩⟩
  have hi : i = 0 := by
    rcases Nat.eq_zero_or_pos i with h | h
    · exact h
    · rw [List.getElem?_eq_none (by simp; omega)] at hu; cases hu
  subst hi
  have hu' : u = .int .u8 p := by simpa using hu.symm
  subst hu'
  have hjl : j < x.of.length := (List.getElem?_eq_some_iff.1 hj).1
  have e : (⟨g, 2, none⟩ : Addr).add (j * 1 + 0) = ⟨g, 2 + j, none⟩ := by
    unfold Addr.add
    by_cases h0 : j = 0
    · subst h0; rfl
    · simp [h0]
  rw [e, blk_cell h]
  unfold Ok at hok
  have hg := (List.getElem?_eq_some_iff.1 hj).2
  simp [cellsOf, nums, Nat.add_comm 2 j, List.getElem?_append, hjl, hg]
def by9T : Bool × List (List Nat × List Nat) := (true, [([], []), ([], []), ([1], [1]), ([0, 2], [0, 2]), ([], []), ([4], [4]), ([5], [5]), ([3, 6, 3], [3, 6]), ([7, 7, 0, 1, 2, 3, 4, 5, 6, 7], [0, 7])])
def by9B : List Nat := [0, 0, 2, 7, 0, 16, 48, 127, 255]
theorem by9tab : rtab .any (opsOf Try.f14 9) = by9T := by kernel_rfl
theorem by9bits : waitsOk by9T.2 by9B = true := by kernel_rfl

set_option maxHeartbeats 6400000 in
theorem bytes_calls (A : Option Addr) (c : Nat) (l : List Itm) (w : World) (hr : CI w A l) (hc : l.length ≤ c) (hmx : l.length ≤ 9223372036854775807) (hl : okI l) :
    Calls Try.prog 14 #[.slice A l.length c] w fun e w' => ∃ v, e = .returned (.tuple #[v, .int .i64 (bytesOut l).2]) ∧ RB w' w.heap.size v (bytesOut l).1 ∧ Below w.heap.size w w' := by
  have HR := Aside0.mk hr
  have HC := Aside0.mk hc
  have nil : ∀ w' : World, RB w' w.heap.size (.slice none 0 0) [] := fun w' => RB.of_own ⟨by simp [nums], .inl ⟨rfl, rfl⟩⟩
  cases hm : mayL l with
  | false =>
    have HM := Aside0.mk hm
    have NIL := Aside0.mk nil
    clear hr hc hl hm nil
    go_enter Try.func14, Try.ntmps14
    go_wp2_with fail
    refine (may_calls A c l w HR.out HC.out hmx).mono ?_
    rw [HM.out]
    rintro e1 w1 ⟨rfl, hb1⟩
    go_wp2_with fail
    go_ret2
    have hout : bytesOut l = ([], 1) := by unfold bytesOut; rw [if_neg (by rw [HM.out]; simp)]
    exact ⟨_, by rw [hout]; rfl, by rw [hout]; exact NIL.out w1, hb1⟩
  | true =>
    obtain ⟨h64, hst⟩ := may_all hm
    have HST := Aside0.mk hst; have H64 := Aside0.mk h64; have HL := Aside0.mk hl; have HM := Aside0.mk hm
    have FL := Aside0.mk (fold_len hl hm)
    have NIL := Aside0.mk nil
    have f0 := Aside0.mk (OctC.count_ok 40 [68, 49] l.length (by omega) (by simp) (by omega))
    clear hr hc hl hm hst nil
    go_enter Try.func14, Try.ntmps14
    go_wp2_with fail
    refine (may_calls A c l w HR.out HC.out hmx).mono ?_
    rw [HM.out]
    rintro e1 w1 ⟨rfl, hb1⟩
    have HB1 := Aside0.mk hb1
    have kc := fun (w : World) (C : Array Value) (n c : Nat) => Lib.run_convert_bytes_const (P := Try.prog) w 33 5 C n c Try.underlying33 Try.underlying5
    have hk := Aside0.mk (show CB (w1.alloc (.cells #[.int .u8 68, .int .u8 49] 5 (2, 3))) (some ⟨w1.heap.size, 0, none⟩) [68, 49] from lit_const w1 68 49 (2, 3))
    have HB2 := Aside0.mk (HB1.out.alloc HB1.out.size (.cells #[.int .u8 68, .int .u8 49] 5 (2, 3)))
    have hw0 : IntKind.u64.wrap (l.length : Int) = (l.length : Int) := u64_id (by omega) (by omega)
    clear hb1
    go_wp2_with fail
    refine (POct.octet_Count.calls 40 _ 2 [68, 49] l.length _ _ hk.out (by simp) f0.out).mono ?_
    rintro e3 w3 ⟨v3, rfl, ho3, hb3⟩
    have HB3 := Aside0.mk (below_step HB2.out hb3)
    have HO3 := Aside0.mk (show RB w3 w.heap.size v3 (foldTo l 0) by unfold foldTo; simpa using Kd.R_lower ho3 HB2.out.size)
    clear hb3 ho3 hk kc HB2 HB1 hw0
    go_wp2_with fail
    go_loopw [4, 18] (fun v u wr => ∃ j : Nat, j ≤ l.length ∧ u = .int .i64 j ∧ Aside0 (RB wr w.heap.size v (foldTo l j)) ∧ Aside0 (Below w.heap.size w wr)) (fun _ u _ => l.length - (intOf u).toNat)
    case atStart => exact ⟨0, by omega, rfl, HO3, HB3⟩
    case round =>
      clear HO3 HB3
      obtain ⟨j, hj, rfl, HO, HB⟩ := hrel
      by_cases hlt : j < l.length
      · obtain ⟨ad, hA, hok, _, hld⟩ := item_at (Kd.C_below HR.out HB.out) j hlt
        subst hA
        rw [← at_get l j hlt] at hok hld
        have HLd := Aside0.mk hld
        clear hld
        have hit := ok_item (step_item (HST.out j hlt))
        have hzz := (HL.out (at_ l j) (by rw [at_get l j hlt]; exact List.getElem_mem _)).2
        have hnx := foldTo_next l j hlt
        obtain ⟨x, hx⟩ : ∃ x, Aside0 (x = at_ l j) := ⟨_, ⟨rfl⟩⟩
        rw [← hx.out] at hok HLd hit hzz hnx
        obtain ⟨zj, hzj⟩ : ∃ zj, Aside0 (zj = foldTo l j) := ⟨_, ⟨rfl⟩⟩
        have hbig0 := FL.out j (by omega)
        rw [← hzj.out] at HO hnx hbig0
        have HIT := Aside0.mk hit; have HNX := Aside0.mk hnx
        have hbig1 : Aside0 (zj.length ≤ 8000) := ⟨by omega⟩
        have hwk : IntKind.u8.wrap x.kind = x.kind := by rw [IntKind.wrap_u8]; omega
        have hws : IntKind.u64.wrap x.size = x.size := u64_id (by omega) (by omega)
        have HZZ := Aside0.mk hzz
        clear hit hnx hbig0 hzz
        have HB2 := Aside0.mk (HB.out.alloc HB.out.size (.cells (cellsOf item0).toArray 28))
        have hgz := Aside0.mk (heap_alloc_new wr (.cells (cellsOf item0).toArray 28))
        obtain ⟨A4, c4, hv4, hc4, _⟩ := Kd.R_reads HO.out
        subst hv4
        clear hc4
        obtain ⟨bs, hbs⟩ : ∃ bs, Aside0 (bs = bytesOf x.name) := ⟨_, ⟨rfl⟩⟩
        have kb := bytes_run (P := Try.prog) 9 33 Try.underlying9 Try.underlying33 Try.underlying5 x.name bs hbs.out
        go_wp2_with (first | (refine op_load_at rfl 28 (.tmp 20) rfl _ _ rfl HLd.out ?_) | (with_reducible refine op_alloc rfl 28 rfl _ zero28 ?_) | (refine op_store (w0 := w) w.heap.size rfl 28 (.tmp 6) (.tmp 21) rfl wr.heap.size (cellsOf x).toArray rfl rfl 28 (cellsOf item0).toArray hgz.out 35 info28 (cells_sz hok) (cells_sz ok0) (cells_all _) HB2.out HB.out.size ?_; intro w1 hg1 hw1 HB1; have HO1 := Aside0.mk (rb_other (Kd.R_alloc HO.out (.cells (cellsOf item0).toArray 28)) hgz.out (by decide) hw1.out); have kk := it_kind hg1.out; have hl1 := Aside0.mk (lit_reads w1 [x.kind] (by simp)); have hB1' := Aside0.mk (HB1.out.alloc HB1.out.size (.cells (nums .u8 [x.kind]).toArray 5)); have ho1' := Aside0.mk (Kd.R_alloc HO1.out (.cells (nums .u8 [x.kind]).toArray 5)); have hgi := Aside0.mk (show It (w1.alloc (.cells (nums .u8 [x.kind]).toArray 5)) wr.heap.size x from (((Below.refl w1.heap.size w1).alloc (Nat.le_refl _) _).block _ (blk_lt hg1.out)).trans hg1.out)) | (at_builtin; refine app_row2 (w0 := w) w.heap.size rfl (.tmp 22) (.tmp 26) 33 rfl Try.underlying33 POct.info5 _ zj [x.kind] _ 1 rfl rfl ho1'.out hl1.out hB1'.out hB1'.out.size (by have := hbig1.out; simp; omega) ?_; intro z1 A1 c1 w2 hz1 hc1 ho2 hB2 hg2; have HG2 := Aside0.mk (show It w2 wr.heap.size x from blk_grown hgi.out hg2.out (Kd.R_ne ho1'.out hgi.out (by decide))); have kn := it_name HG2.out; clear hg2 hgi ho1' hB1' hl1 kk HO1 hg1 hw1))
        have hz1l : Aside0 (z1.length ≤ 8001) := ⟨by rw [hz1.out]; have := hbig1.out; simp; omega⟩
        obtain ⟨z7, hz7, f7⟩ : ∃ z7, Aside0 (z7 = z1 ++ leb bs.length ++ bs) ∧ Aside0 (POct.octet_Text.f 40 z1 bs = some (z7, 0)) := ⟨_, ⟨rfl⟩, ⟨OctC.text_ok 40 z1 bs (by rw [hbs.out, bytesOf_length]; have := HIT.out.2.1; omega) (by have := hz1l.out; omega) (by omega)⟩⟩
        have hBb := Aside0.mk (bytes_below hB2.out hB2.out.size 5 x.name)
        have hw2 := Aside0.mk (bytes_below (Below.refl w2.heap.size w2) (Nat.le_refl _) 5 x.name)
        refine (POct.octet_Text.calls 40 _ _ z1 _ _ bs z7 0 _ (Kd.C_below (Kd.R_reads' ho2.out).2.2 hw2.out) hc1.out (bytes_C w2 x.name bs hbs.out (by have := HIT.out.2.1; omega)) (bytes_cap w2 x.name bs hbs.out) f7.out).mono ?_
        rintro e7 w7 ⟨v7, rfl, ho7, hb7⟩
        have HB7 := Aside0.mk (below_step hBb.out hb7)
        have HG7 := Aside0.mk (show It w7 wr.heap.size x from (hb7.block _ (blk_lt ((hw2.out.block _ (blk_lt HG2.out)).trans HG2.out))).trans ((hw2.out.block _ (blk_lt HG2.out)).trans HG2.out))
        have HO7 := Aside0.mk (Kd.R_lower ho7 hBb.out.size)
        have hb2 : bs.length = x.name.size := by rw [hbs.out, bytesOf_length]
        have hbig : Aside0 (z7.length ≤ 20000) := by
          have a1 := hz1l.out
          have a2 := HIT.out.2.1
          have a3 := leb_len10 (v := bs.length) (by omega)
          exact ⟨by rw [hz7.out]; simp; omega⟩
        clear hb2
        clear hb7 ho7 hBb hw2 HG2 hB2 ho2 hc1 kn kb
        generalize wr.heap.size = g6 at *
        go_wp2_with fail
        obtain ⟨z9, hz9, f9⟩ : ∃ z9, Aside0 (z9 = z7 ++ x.of ++ leb x.size.toNat) ∧ Aside0 (POct.octet_Count.f 40 (z7 ++ x.of) x.size = some z9) := ⟨_, ⟨rfl⟩, ⟨by
          have := OctC.count_ok 40 (z7 ++ x.of) x.size.toNat (by have := HZZ.out; have := HIT.out.2.2.1; omega) (by have := hbig.out; unfold Ok at hok; simp [hok]; omega) (by omega)
          rw [Int.toNat_of_nonneg HIT.out.2.2.1] at this
          exact this⟩⟩
        have HOq := Aside0.mk (Kd.R_below HO7.out (below_drew1 (Below.refl _ _)))
        refine start_ (n := 9) (S := (fun W_ => Below w.heap.size w W_ ∧ It W_ g6 x)) (ds := []) #[false, false, false, false, false, false, false, false, false] (by kernel_rfl) rfl rfl (⟨below_drew1 HB7.out, HG7.out⟩) (fun hHeld => ?_); refine with_tabW by9tab by9bits (fun HT_ HW_ => ?_)
        generalize w7.drew = wq at hHeld HOq ⊢
        refine pure_ (i := 0) (N := some 36) (v := ?_) (a' := ?_) #[true, false, false, false, false, false, false, false, false] rfl rfl (any_of HT_.out (by kernel_rfl)) (fun _ _ _ h => h) (Or.inl ⟨by rfl, ?_⟩) ?_ ?_
        rotate_left
        · intro w'
          go_simp
          with_reducible rfl
        rotate_left
        · simp only [Act.put, List.setIfInBounds_toArray, List.set_cons_zero, List.set_cons_succ, i64_w, i32_w]
          rfl
        refine pure_ (i := 1) (N := some 37) (v := ?_) (a' := ?_) #[true, true, false, false, false, false, false, false, false] rfl rfl (any_of HT_.out (by kernel_rfl)) (fun _ _ _ h => h) (Or.inl ⟨by rfl, ?_⟩) ?_ ?_
        rotate_left
        · intro w'
          go_simp
          with_reducible rfl
        rotate_left
        · simp only [Act.put, List.setIfInBounds_toArray, List.set_cons_zero, List.set_cons_succ, i64_w, i32_w]
          rfl
        refine pure_ (i := 2) (N := some 38) (v := ?_) (a' := ?_) #[true, true, true, false, false, false, false, false, false] rfl rfl (any_of HT_.out (by kernel_rfl)) (fun _ _ _ h => h) (Or.inl ⟨by rfl, ?_⟩) ?_ ?_
        rotate_left
        · intro w'
          go_simp
          with_reducible rfl
        rotate_left
        · simp only [Act.put, List.setIfInBounds_toArray, List.set_cons_zero, List.set_cons_succ, i64_w, i32_w]
          rfl
        refine pure_ (i := 4) (N := some 40) (v := ?_) (a' := ?_) #[true, true, true, false, true, false, false, false, false] rfl rfl (any_of HT_.out (by kernel_rfl)) (fun _ _ _ h => h) (Or.inl ⟨by rfl, ?_⟩) ?_ ?_
        rotate_left
        · intro w'
          go_simp
          with_reducible rfl
        rotate_left
        · simp only [Act.put, List.setIfInBounds_toArray, List.set_cons_zero, List.set_cons_succ, i64_w, i32_w]
          rfl
        refine take_ (i := 5) (N := some 41) (v := ?_) (a' := ?_) #[true, true, true, false, true, true, false, false, false] rfl rfl (take_ofW HT_.out HW_.out (by kernel_rfl)) (fun _ _ _ h => h) (Or.inl ⟨by rfl, ?_⟩) hHeld ?_ ?_
        rotate_left
        · intro w' hw'
          have hf0_ := it_size hw'.2 hok
          go_simp
          with_reducible rfl
        rotate_left
        · simp only [Act.put, List.setIfInBounds_toArray, List.set_cons_zero, List.set_cons_succ, i64_w, i32_w]
          rfl
        refine pure_ (i := 6) (N := some 42) (v := ?_) (a' := ?_) #[true, true, true, false, true, true, true, false, false] rfl rfl (any_of HT_.out (by kernel_rfl)) (fun _ _ _ h => h) (Or.inl ⟨by rfl, ?_⟩) ?_ ?_
        rotate_left
        · intro w'
          go_simp
          with_reducible rfl
        rotate_left
        · simp only [Act.put, List.setIfInBounds_toArray, List.set_cons_zero, List.set_cons_succ, i64_w, i32_w]
          rfl
        refine one_ (i := 3) (N := some 39) #[true, true, true, true, true, true, true, false, false] rfl rfl (one_of HT_.out (by kernel_rfl)) (by decide) (fun K hK => ?_)
        have hcr := Aside0.mk (it_of hHeld.2 hok)
        refine Kd.R_append_rows_step (Kd.int .u8) (Rr := fun y cs => cs = [Value.int .u8 y]) (w0 := w) w.heap.size (by rfl) (.tmp 36) (.tmp 38) 33 5 (.int .u8 0) 1 rfl Try.underlying33 POct.info5 rfl (by decide) (by decide) _ z7 x.of (some ⟨g6, 2, none⟩) 32 32 (fun _ => True) (fun _ => False) rfl rfl HOq.out hcr.out (fun _ _ h => h) (fun _ h => h.elim) (fun _ _ => trivial) hHeld.1 hHeld.1.size (by have := hbig.out; omega) ?_
        intro v8 w8 ho8 hB8 hg8 _
        have HG8 := Aside0.mk (show It w8 g6 x from blk_grown hHeld.2 hg8 (Kd.R_ne HOq.out hHeld.2 (by decide)))
        obtain ⟨A8, c8, rfl, hc8, hC8⟩ := Kd.R_reads ho8
        have HS1 := Aside0.mk (show Below w.heap.size w w8 ∧ It w8 g6 x from ⟨hB8, HG8.out⟩); have HC8 := Aside0.mk hC8; have Hc8 := Aside0.mk hc8
        clear ho8 hB8 hg8 hC8 hc8 HOq hcr HG8
        refine hK.out _ _ (HS1.out) (fun hHeld => ?_)
        clear hK K
        refine norm_ (a' := ?_) ?_ ?_
        rotate_left
        · show Act.put _ (some 39) _ = _
          simp only [Act.put, List.setIfInBounds_toArray, List.set_cons_zero, List.set_cons_succ, i64_w, i32_w]
          rfl
        clear HS1
        refine one_ (i := 7) (N := some 43) #[true, true, true, true, true, true, true, true, false] rfl rfl (one_of HT_.out (by kernel_rfl)) (by decide) (fun K hK => ?_)
        refine goes_ Try.func28 (by kernel_rfl) rfl #[.slice A8 (z7 ++ x.of).length c8, .int .u64 x.size] (by rfl) rfl rfl (by (try simp only [List.map_toArray, List.map_cons, List.map_nil]); first | done | rfl) ?_
        refine (POct.octet_Count.calls 40 A8 c8 (z7 ++ x.of) x.size z9 w8 HC8.out Hc8.out f9.out).mono ?_
        rintro ep w9 ⟨v9, rfl, ho9, hb9⟩
        refine ⟨_, rfl, ?_⟩
        have HS1 := Aside0.mk (show Below w.heap.size w w9 ∧ It w9 g6 x from ⟨below_step hHeld.1 hb9, (hb9.block _ (blk_lt hHeld.2)).trans hHeld.2⟩)
        have HO9 := Aside0.mk (Kd.R_lower ho9 hHeld.1.size)
        clear ho9 hb9 HC8 Hc8
        refine hK.out _ _ (HS1.out) (fun hHeld => ?_)
        clear hK K
        refine norm_ (a' := ?_) ?_ ?_
        rotate_left
        · show Act.put _ (some 43) _ = _
          simp only [Act.put, List.setIfInBounds_toArray, List.set_cons_zero, List.set_cons_succ, i64_w, i32_w]
          rfl
        clear HS1
        refine pure_ (i := 8) (N := some 4) (v := ?_) (a' := ?_) #[true, true, true, true, true, true, true, true, true] rfl rfl (any_of HT_.out (by kernel_rfl)) (fun _ _ _ h => h) (Or.inl ⟨by rfl, ?_⟩) ?_ ?_
        rotate_left
        · intro w'
          go_simp
          with_reducible rfl
        rotate_left
        · simp only [Act.put, List.setIfInBounds_toArray, List.set_cons_zero, List.set_cons_succ, i64_w, i32_w]
          rfl
        refine done_ (done_of HT_.out (by kernel_rfl)) ?_
        clear HT_ HW_
        have hfin : Aside0 (z9 = foldTo l (j + 1)) := ⟨by rw [HNX.out, hz9.out, hz7.out, hz1.out, hbs.out, bytesOf_length]; unfold itemB; simp⟩
        go_wp2_with fail
        go_roundw
        case rel => exact ⟨j + 1, by omega, by go_num, ⟨by rw [← hfin.out]; exact HO9.out⟩, ⟨hHeld.1⟩⟩
        case measure => simp [intOf]; omega
      · obtain rfl : j = l.length := by omega
        obtain ⟨A4, c4, hv4, _, _⟩ := Kd.R_reads HO.out
        subst hv4
        by_cases hlong : (foldB l).length ≤ 4000
        · have dl : decide (4000 < ((foldTo l l.length).length : Int)) = false := decide_eq_false (by unfold foldB at hlong; omega)
          go_wp2_with fail
          go_ret2
          have hout : bytesOut l = (foldB l, 0) := by unfold bytesOut; rw [if_pos HM.out, if_pos hlong]
          exact ⟨_, by rw [hout]; rfl, by rw [hout]; exact HO.out, HB.out⟩
        · have dl : decide (4000 < ((foldTo l l.length).length : Int)) = true := decide_eq_true (by unfold foldB at hlong; omega)
          go_wp2_with fail
          go_ret2
          have hout : bytesOut l = ([], 2) := by unfold bytesOut; rw [if_pos HM.out, if_neg hlong]
          exact ⟨_, by rw [hout]; rfl, by rw [hout]; exact NIL.out _, HB.out⟩
end Go.Proofs.Ytmcankeggbofhaa.By
namespace Go.Proofs.Ytmcankeggbofhaa.Rb
open Go.RowKit Go.Proofs.YtmcankeggbofhaaW.PrintWords Go.Proofs.YtmcankeggbofhaaW.PrintLast Go.Proofs.YtmcankeggbofhaaW.PrintMore
open It Nm Ag My Spc By
set_option linter.unusedVariables false
set_option linter.unusedSimpArgs false
set_option maxRecDepth 100000
theorem C_same {W W1 : World} {g off : Nat} {xs : List Int} (h : CB W (some ⟨g, off, none⟩) xs) (he : W1.heap[g]? = W.heap[g]?) : CB W1 (some ⟨g, off, none⟩) xs := by
  refine ⟨h.1, h.2.1, fun hp => ?_⟩
  obtain ⟨ad, e, hc⟩ := h.2.2 hp
  cases e
  refine ⟨_, rfl, fun j p hj => ?_⟩
  obtain ⟨c, hl, hk, hcell⟩ := hc j p hj
  refine ⟨c, hl, hk, fun i u hu => ?_⟩
  have hb : ∀ n, ((⟨g, off, none⟩ : Addr).add n).block = g := fun n => by unfold Addr.add; split <;> rfl
  have := hcell i u hu
  unfold World.cell? at this ⊢
  rw [hb] at this ⊢
  rw [he]
  exact this
theorem same_block {W W1 : World} {g : Nat} {row : Option Nat} (hg : W.grownBy W1 row) (hlt : g < W.heap.size) (hne : some g ≠ row) : W1.heap[g]? = W.heap[g]? := hg.block g hlt hne
theorem row_lt (W : World) (s : ByteArray) (hs : s.size ≤ 9223372036854775807) : W.heap.size < (Lib.bytesWorld W 5 s).heap.size := by
  unfold Lib.bytesWorld World.freeze
  rw [if_neg (by decide)]
  show _ < (Array.modify _ _ _).size
  rw [Array.size_modify]
  show W.heap.size < (W.heap.push _).size
  rw [Array.size_push]
  omega
def rb8T : Bool × List (List Nat × List Nat) := (true, [([], []), ([], []), ([1], [1]), ([2], [2]), ([3], [3]), ([0, 4], [0, 4]), ([], []), ([6], [6]), ([7], [7]), ([5, 8, 5], [5, 8]), ([9], [9]), ([10], [10]), ([10], [10]), ([11, 9, 0, 1, 2, 3, 4, 5, 6, 7, 8, 9, 10, 11], [0, 11])])
def rb8B : List Nat := [0, 0, 2, 6, 14, 31, 0, 64, 192, 511, 1023, 2047, 2047, 4095]
theorem rb8tab : rtab .any (opsOf Try.f15 8) = rb8T := by kernel_rfl
theorem rb8bits : waitsOk rb8T.2 rb8B = true := by kernel_rfl
def rb9T : Bool × List (List Nat × List Nat) := (true, [([], []), ([], []), ([1], [1]), ([0, 2], [0, 2]), ([], []), ([4], [4]), ([5], [5]), ([3, 6, 3], [3, 6]), ([7, 7, 0, 1, 2, 3, 4, 5, 6, 7], [0, 7])])
def rb9B : List Nat := [0, 0, 2, 7, 0, 16, 48, 127, 255]
theorem rb9tab : rtab .any (opsOf Try.f15 9) = rb9T := by kernel_rfl
theorem rb9bits : waitsOk rb9T.2 rb9B = true := by kernel_rfl

set_option maxHeartbeats 6400000 in
theorem ref_bytes_calls (A : Option Addr) (c : Nat) (l : List Itm) (w : World) (hr : CI w A l) (hc : l.length ≤ c) (hmx : l.length ≤ 9223372036854775807) (hl : okI l) (hnn : ∀ i, (at_ l i).name.size ≤ 4611686018427387904) :
    Calls Try.prog 15 #[.slice A l.length c] w fun e w' => ∃ v, e = .returned (.tuple #[v, .int .i64 (bytesOut l).2]) ∧ RB w' w.heap.size v (bytesOut l).1 ∧ Below w.heap.size w w' := by
  have HR := Aside0.mk hr
  have HC := Aside0.mk hc
  have nil : ∀ w' : World, RB w' w.heap.size (.slice none 0 0) [] := fun w' => RB.of_own ⟨by simp [nums], .inl ⟨rfl, rfl⟩⟩
  cases hm : mayL l with
  | false =>
    have HM := Aside0.mk hm
    have NIL := Aside0.mk nil
    clear hr hc hl hm nil
    go_enter Try.func15, Try.ntmps15
    go_wp2_with fail
    refine (Rm.ref_may_calls A c l w HR.out HC.out hmx hnn).mono ?_
    rw [HM.out]
    rintro e1 w1 ⟨rfl, hb1⟩
    go_wp2_with fail
    go_ret2
    have hout : bytesOut l = ([], 1) := by unfold bytesOut; rw [if_neg (by rw [HM.out]; simp)]
    exact ⟨_, by rw [hout]; rfl, by rw [hout]; exact NIL.out w1, hb1⟩
  | true =>
    obtain ⟨h64, hst⟩ := may_all hm
    have HST := Aside0.mk hst; have H64 := Aside0.mk h64; have HL := Aside0.mk hl; have HM := Aside0.mk hm
    have FL := Aside0.mk (fold_len hl hm)
    have NIL := Aside0.mk nil
    have f0 := Aside0.mk (RefA.ref_count_ok 40 [68, 49] l.length (by omega) (by simp) (by omega))
    clear hr hc hl hm hst nil
    go_enter Try.func15, Try.ntmps15
    go_wp2_with fail
    refine (Rm.ref_may_calls A c l w HR.out HC.out hmx hnn).mono ?_
    rw [HM.out]
    rintro e1 w1 ⟨rfl, hb1⟩
    have HB1 := Aside0.mk hb1
    have kc := fun (w : World) (C : Array Value) (n c : Nat) => Lib.run_convert_bytes_const (P := Try.prog) w 33 5 C n c Try.underlying33 Try.underlying5
    have hk := Aside0.mk (show CB (w1.alloc (.cells #[.int .u8 68, .int .u8 49] 5 (2, 3))) (some ⟨w1.heap.size, 0, none⟩) [68, 49] from lit_const w1 68 49 (2, 3))
    have HB2 := Aside0.mk (HB1.out.alloc HB1.out.size (.cells #[.int .u8 68, .int .u8 49] 5 (2, 3)))
    have hw0 : IntKind.u64.wrap (l.length : Int) = (l.length : Int) := u64_id (by omega) (by omega)
    clear hb1
    go_wp2_with fail
    refine (POct.cofferref1_Count.calls 40 _ 2 [68, 49] l.length _ _ hk.out (by simp) f0.out).mono ?_
    rintro e3 w3 ⟨v3, rfl, ho3, hb3⟩
    have HB3 := Aside0.mk (below_step HB2.out hb3)
    have HO3 := Aside0.mk (show RB w3 w.heap.size v3 (foldTo l 0) by unfold foldTo; simpa using Kd.R_lower ho3 HB2.out.size)
    clear hb3 ho3 hk kc HB2 HB1 hw0 hnn
    go_wp2_with fail
    go_loopw [4, 5] (fun v u wr => ∃ j : Nat, j ≤ l.length ∧ u = .int .i64 j ∧ Aside0 (RB wr w.heap.size v (foldTo l j)) ∧ Aside0 (Below w.heap.size w wr)) (fun _ u _ => l.length - (intOf u).toNat)
    case atStart => exact ⟨0, by omega, rfl, HO3, HB3⟩
    case round =>
      clear HO3 HB3
      obtain ⟨j, hj, rfl, HO, HB⟩ := hrel
      by_cases hlt : j < l.length
      · obtain ⟨ad, hA, hok, _, hld⟩ := item_at (Kd.C_below HR.out HB.out) j hlt
        subst hA
        rw [← at_get l j hlt] at hok hld
        have HLd := Aside0.mk hld
        clear hld
        have hit := ok_item (step_item (HST.out j hlt))
        have hzz := (HL.out (at_ l j) (by rw [at_get l j hlt]; exact List.getElem_mem _)).2
        have hnx := foldTo_next l j hlt
        obtain ⟨x, hx⟩ : ∃ x, Aside0 (x = at_ l j) := ⟨_, ⟨rfl⟩⟩
        rw [← hx.out] at hok HLd hit hzz hnx
        obtain ⟨zj, hzj⟩ : ∃ zj, Aside0 (zj = foldTo l j) := ⟨_, ⟨rfl⟩⟩
        have hbig0 := FL.out j (by omega)
        rw [← hzj.out] at HO hnx hbig0
        have HIT := Aside0.mk hit; have HNX := Aside0.mk hnx
        have hbig1 : Aside0 (zj.length ≤ 8000) := ⟨by omega⟩
        have hwk : IntKind.u8.wrap x.kind = x.kind := by rw [IntKind.wrap_u8]; omega
        have hws : IntKind.u64.wrap x.size = x.size := u64_id (by omega) (by omega)
        have HZZ := Aside0.mk hzz
        clear hit hnx hbig0 hzz
        have HB2 := Aside0.mk (HB.out.alloc HB.out.size (.cells (cellsOf item0).toArray 28))
        have hgz := Aside0.mk (heap_alloc_new wr (.cells (cellsOf item0).toArray 28))
        obtain ⟨A4, c4, hv4, hc4, _⟩ := Kd.R_reads HO.out
        subst hv4
        clear hc4
        obtain ⟨bs, hbs⟩ : ∃ bs, Aside0 (bs = bytesOf x.name) := ⟨_, ⟨rfl⟩⟩
        have KB := Aside0.mk (bytes_run (P := Try.prog) 9 33 Try.underlying9 Try.underlying33 Try.underlying5 x.name bs hbs.out)
        have hns : Aside0 (x.name.size ≤ 9223372036854775807) := ⟨by have := HIT.out.2.1; omega⟩
        go_wp2_with (first | (refine op_load_at rfl 28 (.tmp 24) rfl _ _ rfl HLd.out ?_) | (with_reducible refine op_alloc rfl 28 rfl _ zero28 ?_) | (refine op_store (w0 := w) w.heap.size rfl 28 (.tmp 6) (.tmp 25) rfl wr.heap.size (cellsOf x).toArray rfl rfl 28 (cellsOf item0).toArray hgz.out 35 info28 (cells_sz hok) (cells_sz ok0) (cells_all _) HB2.out HB.out.size ?_; intro w1 hg1 hw1 HB1; have HO1 := Aside0.mk (rb_other (Kd.R_alloc HO.out (.cells (cellsOf item0).toArray 28)) hgz.out (by decide) hw1.out)))
        simp only [Act.put, List.setIfInBounds_toArray, List.set_cons_zero, List.set_cons_succ]
        have HG1 := Aside0.mk (show It w1 wr.heap.size x from hg1.out)
        clear hg1 hw1 hgz HB2 HO HB
        generalize wr.heap.size = g6 at *
        have hb2 : bs.length = x.name.size := by rw [hbs.out, bytesOf_length]
        obtain ⟨z7, hz7, f7⟩ : ∃ z7, Aside0 (z7 = zj ++ [x.kind] ++ leb bs.length ++ bs) ∧ Aside0 (POct.cofferref1_Text.f 40 (zj ++ [x.kind]) bs = some (z7, 0)) := ⟨_, ⟨rfl⟩, ⟨RefA.ref_text_ok 40 (zj ++ [x.kind]) bs (by have := HIT.out.2.1; omega) (by have := hbig1.out; simp; omega) (by omega)⟩⟩
        have hbig : Aside0 (z7.length ≤ 20000) := by
          have a1 := hbig1.out
          have a2 := HIT.out.2.1
          have a3 := leb_len10 (v := bs.length) (by omega)
          exact ⟨by rw [hz7.out]; simp; omega⟩
        obtain ⟨z9, hz9, f9⟩ : ∃ z9, Aside0 (z9 = z7 ++ x.of ++ leb x.size.toNat) ∧ Aside0 (POct.cofferref1_Count.f 40 (z7 ++ x.of) x.size = some z9) := ⟨_, ⟨rfl⟩, ⟨by
          have := RefA.ref_count_ok 40 (z7 ++ x.of) x.size.toNat (by have := HZZ.out; have := HIT.out.2.2.1; omega) (by have := hbig.out; unfold Ok at hok; simp [hok]; omega) (by omega)
          rw [Int.toNat_of_nonneg HIT.out.2.2.1] at this
          exact this⟩⟩
        clear hb2
        have HOq := Aside0.mk (Kd.R_below HO1.out (below_drew1 (Below.refl _ _)))
        refine start_ (n := 14) (S := (fun W_ => Below w.heap.size w W_ ∧ It W_ g6 x)) (ds := []) #[false, false, false, false, false, false, false, false, false, false, false, false, false, false] (by kernel_rfl) rfl rfl (⟨below_drew1 HB1.out, HG1.out⟩) (fun hHeld => ?_); refine with_tabW rb8tab rb8bits (fun HT_ HW_ => ?_)
        generalize w1.drew = wq at hHeld HOq ⊢
        refine pure_ (i := 0) (N := some 27) (v := ?_) (a' := ?_) #[true, false, false, false, false, false, false, false, false, false, false, false, false, false] rfl rfl (any_of HT_.out (by kernel_rfl)) (fun _ _ _ h => h) (Or.inl ⟨by rfl, ?_⟩) ?_ ?_
        rotate_left
        · intro w'
          go_simp
          with_reducible rfl
        rotate_left
        · simp only [Act.put, List.setIfInBounds_toArray, List.set_cons_zero, List.set_cons_succ, i64_w, i32_w]
          rfl
        refine pure_ (i := 1) (N := some 28) (v := ?_) (a' := ?_) #[true, true, false, false, false, false, false, false, false, false, false, false, false, false] rfl rfl (any_of HT_.out (by kernel_rfl)) (fun _ _ _ h => h) (Or.inl ⟨by rfl, ?_⟩) ?_ ?_
        rotate_left
        · intro w'
          go_simp
          with_reducible rfl
        rotate_left
        · simp only [Act.put, List.setIfInBounds_toArray, List.set_cons_zero, List.set_cons_succ, i64_w, i32_w]
          rfl
        refine take_ (i := 2) (N := some 29) (v := ?_) (a' := ?_) #[true, true, true, false, false, false, false, false, false, false, false, false, false, false] rfl rfl (take_ofW HT_.out HW_.out (by kernel_rfl)) (fun _ _ _ h => h) (Or.inl ⟨by rfl, ?_⟩) hHeld ?_ ?_
        rotate_left
        · intro w' hw'
          have hf0_ := it_kind hw'.2
          go_simp
          with_reducible rfl
        rotate_left
        · simp only [Act.put, List.setIfInBounds_toArray, List.set_cons_zero, List.set_cons_succ, i64_w, i32_w]
          rfl
        refine pure_ (i := 3) (N := some 30) (v := ?_) (a' := ?_) #[true, true, true, true, false, false, false, false, false, false, false, false, false, false] rfl rfl (any_of HT_.out (by kernel_rfl)) (fun _ _ _ h => h) (Or.inl ⟨by rfl, ?_⟩) ?_ ?_
        rotate_left
        · intro w'
          go_simp
          with_reducible rfl
        rotate_left
        · simp only [Act.put, List.setIfInBounds_toArray, List.set_cons_zero, List.set_cons_succ, i64_w, i32_w]
          rfl
        refine pure_ (i := 6) (N := some 33) (v := ?_) (a' := ?_) #[true, true, true, true, false, false, true, false, false, false, false, false, false, false] rfl rfl (any_of HT_.out (by kernel_rfl)) (fun _ _ _ h => h) (Or.inl ⟨by rfl, ?_⟩) ?_ ?_
        rotate_left
        · intro w'
          go_simp
          with_reducible rfl
        rotate_left
        · simp only [Act.put, List.setIfInBounds_toArray, List.set_cons_zero, List.set_cons_succ, i64_w, i32_w]
          rfl
        refine take_ (i := 7) (N := some 34) (v := ?_) (a' := ?_) #[true, true, true, true, false, false, true, true, false, false, false, false, false, false] rfl rfl (take_ofW HT_.out HW_.out (by kernel_rfl)) (fun _ _ _ h => h) (Or.inl ⟨by rfl, ?_⟩) hHeld ?_ ?_
        rotate_left
        · intro w' hw'
          have hf0_ := it_name hw'.2
          go_simp
          with_reducible rfl
        rotate_left
        · simp only [Act.put, List.setIfInBounds_toArray, List.set_cons_zero, List.set_cons_succ, i64_w, i32_w]
          rfl
        refine join_ (σ := Value × (Option Addr × Nat) × (Option Addr × Nat)) 5 #[true, true, true, true, true, true, true, true, true, false, false, false, false, false] (fun s => [(31, s.1), (32, .slice s.2.1.1 (zj ++ [x.kind]).length s.2.1.2), (35, .slice s.2.2.1 bs.length s.2.2.2)]) (fun s w' => (Below w.heap.size w w' ∧ It w' g6 x) ∧ RB w' w.heap.size (.slice s.2.1.1 (zj ++ [x.kind]).length s.2.1.2) (zj ++ [x.kind]) ∧ (zj ++ [x.kind]).length ≤ s.2.1.2 ∧ CB w' s.2.2.1 bs ∧ bs.length ≤ s.2.2.2) ?_ ?_
        rotate_left
        · intro HJn
          refine two_ (i := 4) (j := 8) (Ni := some 31) (Nj := some 35) #[true, true, true, true, true, false, true, true, false, false, false, false, false, false] #[true, true, true, true, false, false, true, true, true, false, false, false, false, false] rfl rfl rfl rfl (two_of HT_.out (by kernel_rfl)) (by decide) (by decide) (fun K hK => ?_) (fun K hK => ?_)
          · have HS1 := Aside0.mk (show Below w.heap.size w (wq.alloc (.cells (nums .u8 [x.kind]).toArray 5)) ∧ It (wq.alloc (.cells (nums .u8 [x.kind]).toArray 5)) g6 x from ⟨hHeld.1.alloc hHeld.1.size _, (((Below.refl wq.heap.size wq).alloc (Nat.le_refl _) _).block _ (blk_lt hHeld.2)).trans hHeld.2⟩)
            have HOa := Aside0.mk (Kd.R_alloc HOq.out (.cells (nums .u8 [x.kind]).toArray 5)); have HLa := Aside0.mk (lit_reads wq [x.kind] (by simp))
            have hlt4 := Aside0.mk (fun k hk => Kd.R_lt HOq.out k hk)
            refine value_ (w1 := wq.alloc (.cells (nums .u8 [x.kind]).toArray 5)) (v := .slice (some ⟨wq.heap.size, 0, none⟩) 1 1) (by rfl) rfl (by go_simp; rfl) ?_
            generalize hga : wq.alloc (.cells (nums .u8 [x.kind]).toArray 5) = wa at HS1 HOa HLa ⊢
            generalize wq.heap.size = ga at HLa ⊢
            refine hK.out _ _ (HS1.out) (fun hHeld => ?_)
            clear hK K
            refine norm_ (a' := ?_) ?_ ?_
            rotate_left
            · show Act.put _ (some 31) _ = _
              simp only [Act.put, List.setIfInBounds_toArray, List.set_cons_zero, List.set_cons_succ, i64_w, i32_w]
              rfl
            clear HS1 hga
            refine two_ (i := 5) (j := 8) (Ni := some 32) (Nj := some 35) #[true, true, true, true, true, true, true, true, false, false, false, false, false, false] #[true, true, true, true, true, false, true, true, true, false, false, false, false, false] rfl rfl rfl rfl (two_of HT_.out (by kernel_rfl)) (by decide) (by decide) (fun K hK => ?_) (fun K hK => ?_)
            · skip
              refine Kd.R_append_rows_step (Kd.int .u8) (Rr := fun y cs => cs = [Value.int .u8 y]) (w0 := w) w.heap.size (by rfl) (.tmp 27) (.tmp 31) 33 5 (.int .u8 0) 1 rfl Try.underlying33 POct.info5 rfl (by decide) (by decide) _ zj [x.kind] _ 1 1 (fun _ => True) (fun _ => False) rfl rfl HOa.out HLa.out (fun _ _ h => h) (fun _ h => h.elim) (fun _ _ => trivial) hHeld.1 hHeld.1.size (by have := hbig1.out; omega) ?_
              intro v5 wb ho5 hB5 hg5 _
              obtain ⟨A5, c5, rfl, hc5, _⟩ := Kd.R_reads ho5
              have HS1 := Aside0.mk (show Below w.heap.size w wb ∧ It wb g6 x from ⟨hB5, blk_grown hHeld.2 hg5 (Kd.R_ne HOa.out hHeld.2 (by decide))⟩)
              have HO5 := Aside0.mk ho5; have Hc5 := Aside0.mk hc5
              clear ho5 hB5 hg5 hc5
              refine hK.out _ _ (HS1.out) (fun hHeld => ?_)
              clear hK K
              refine norm_ (a' := ?_) ?_ ?_
              rotate_left
              · show Act.put _ (some 32) _ = _
                simp only [Act.put, List.setIfInBounds_toArray, List.set_cons_zero, List.set_cons_succ, i64_w, i32_w]
                rfl
              clear HS1
              refine one_ (i := 8) (N := some 35) #[true, true, true, true, true, true, true, true, true, false, false, false, false, false] rfl rfl (one_of HT_.out (by kernel_rfl)) (by decide) (fun K hK => ?_)
              have HBb := Aside0.mk (bytes_below (Below.refl wb.heap.size wb) (Nat.le_refl _) 5 x.name)
              have HS1 := Aside0.mk (show Below w.heap.size w (Lib.bytesWorld wb 5 x.name) ∧ It (Lib.bytesWorld wb 5 x.name) g6 x from ⟨bytes_below hHeld.1 hHeld.1.size 5 x.name, (HBb.out.block _ (blk_lt hHeld.2)).trans hHeld.2⟩)
              refine value_ (w1 := Lib.bytesWorld wb 5 x.name) (v := .slice (some ⟨wb.heap.size, 0, none⟩) bs.length (grownCap wb x.name.size 0 5)) (by rfl) rfl (by have kb_ := KB.out wb; go_simp) ?_
              refine hK.out _ _ (HS1.out) (fun hHeld => ?_)
              clear hK K
              refine norm_ (a' := ?_) ?_ ?_
              rotate_left
              · show Act.put _ (some 35) _ = _
                simp only [Act.put, List.setIfInBounds_toArray, List.set_cons_zero, List.set_cons_succ, i64_w, i32_w]
                rfl
              exact norm_ (by rfl) (HJn (_, (A5, c5), (some ⟨wb.heap.size, 0, none⟩, _)) _ ⟨hHeld, Kd.R_below HO5.out HBb.out, Hc5.out, bytes_C wb x.name bs hbs.out hns.out, bytes_cap wb x.name bs hbs.out⟩)
            · have HBb := Aside0.mk (bytes_below (Below.refl wa.heap.size wa) (Nat.le_refl _) 5 x.name)
              have HS1 := Aside0.mk (show Below w.heap.size w (Lib.bytesWorld wa 5 x.name) ∧ It (Lib.bytesWorld wa 5 x.name) g6 x from ⟨bytes_below hHeld.1 hHeld.1.size 5 x.name, (HBb.out.block _ (blk_lt hHeld.2)).trans hHeld.2⟩)
              have hlta := Aside0.mk (fun k hk => Kd.R_lt HOa.out k hk); have hrl := Aside0.mk (row_lt wa x.name hns.out)
              have HOb := Aside0.mk (Kd.R_below HOa.out HBb.out); have HLb := Aside0.mk (Kd.C_below HLa.out HBb.out); have HCb := Aside0.mk (bytes_C wa x.name bs hbs.out hns.out); have Hcc := Aside0.mk (bytes_cap wa x.name bs hbs.out)
              refine value_ (w1 := Lib.bytesWorld wa 5 x.name) (v := .slice (some ⟨wa.heap.size, 0, none⟩) bs.length (grownCap wa x.name.size 0 5)) (by rfl) rfl (by have kb_ := KB.out wa; go_simp) ?_
              generalize Lib.bytesWorld wa 5 x.name = wb at HS1 HOb HLb HCb HBb hrl ⊢
              refine hK.out _ _ (HS1.out) (fun hHeld => ?_)
              clear hK K
              refine norm_ (a' := ?_) ?_ ?_
              rotate_left
              · show Act.put _ (some 35) _ = _
                simp only [Act.put, List.setIfInBounds_toArray, List.set_cons_zero, List.set_cons_succ, i64_w, i32_w]
                rfl
              clear HS1
              refine one_ (i := 5) (N := some 32) #[true, true, true, true, true, true, true, true, true, false, false, false, false, false] rfl rfl (one_of HT_.out (by kernel_rfl)) (by decide) (fun K hK => ?_)
              refine Kd.R_append_rows_step (Kd.int .u8) (Rr := fun y cs => cs = [Value.int .u8 y]) (w0 := w) w.heap.size (by rfl) (.tmp 27) (.tmp 31) 33 5 (.int .u8 0) 1 rfl Try.underlying33 POct.info5 rfl (by decide) (by decide) _ zj [x.kind] _ 1 1 (fun _ => True) (fun _ => False) rfl rfl HOb.out HLb.out (fun _ _ h => h) (fun _ h => h.elim) (fun _ _ => trivial) hHeld.1 hHeld.1.size (by have := hbig1.out; omega) ?_
              intro v5 wc ho5 hB5 hg5 _
              obtain ⟨A5, c5, rfl, hc5, _⟩ := Kd.R_reads ho5
              have HS1 := Aside0.mk (show Below w.heap.size w wc ∧ It wc g6 x from ⟨hB5, blk_grown hHeld.2 hg5 (Kd.R_ne HOb.out hHeld.2 (by decide))⟩)
              have HCc := Aside0.mk (C_same HCb.out (same_block hg5 hrl.out (fun h => by have := hlta.out _ h.symm; omega)))
              refine hK.out _ _ (HS1.out) (fun hHeld => ?_)
              clear hK K
              refine norm_ (a' := ?_) ?_ ?_
              rotate_left
              · show Act.put _ (some 32) _ = _
                simp only [Act.put, List.setIfInBounds_toArray, List.set_cons_zero, List.set_cons_succ, i64_w, i32_w]
                rfl
              exact norm_ (by rfl) (HJn (_, (A5, c5), (some ⟨wa.heap.size, 0, none⟩, _)) _ ⟨hHeld, ho5, hc5, HCc.out, Hcc.out⟩)
          · have HBb := Aside0.mk (bytes_below (Below.refl wq.heap.size wq) (Nat.le_refl _) 5 x.name)
            have HS1 := Aside0.mk (show Below w.heap.size w (Lib.bytesWorld wq 5 x.name) ∧ It (Lib.bytesWorld wq 5 x.name) g6 x from ⟨bytes_below hHeld.1 hHeld.1.size 5 x.name, (HBb.out.block _ (blk_lt hHeld.2)).trans hHeld.2⟩)
            have hlta := Aside0.mk (fun k hk => Kd.R_lt HOq.out k hk); have hrl := Aside0.mk (row_lt wq x.name hns.out)
            have HOb := Aside0.mk (Kd.R_below HOq.out HBb.out); have HCb := Aside0.mk (bytes_C wq x.name bs hbs.out hns.out); have Hcc := Aside0.mk (bytes_cap wq x.name bs hbs.out)
            refine value_ (w1 := Lib.bytesWorld wq 5 x.name) (v := .slice (some ⟨wq.heap.size, 0, none⟩) bs.length (grownCap wq x.name.size 0 5)) (by rfl) rfl (by have kb_ := KB.out wq; go_simp) ?_
            generalize Lib.bytesWorld wq 5 x.name = wb at HS1 HOb HCb HBb hrl ⊢
            refine hK.out _ _ (HS1.out) (fun hHeld => ?_)
            clear hK K
            refine norm_ (a' := ?_) ?_ ?_
            rotate_left
            · show Act.put _ (some 35) _ = _
              simp only [Act.put, List.setIfInBounds_toArray, List.set_cons_zero, List.set_cons_succ, i64_w, i32_w]
              rfl
            clear HS1
            refine one_ (i := 4) (N := some 31) #[true, true, true, true, true, false, true, true, true, false, false, false, false, false] rfl rfl (one_of HT_.out (by kernel_rfl)) (by decide) (fun K hK => ?_)
            have HS1 := Aside0.mk (show Below w.heap.size w (wb.alloc (.cells (nums .u8 [x.kind]).toArray 5)) ∧ It (wb.alloc (.cells (nums .u8 [x.kind]).toArray 5)) g6 x from ⟨hHeld.1.alloc hHeld.1.size _, (((Below.refl wb.heap.size wb).alloc (Nat.le_refl _) _).block _ (blk_lt hHeld.2)).trans hHeld.2⟩)
            have HOc := Aside0.mk (Kd.R_alloc HOb.out (.cells (nums .u8 [x.kind]).toArray 5)); have HLc := Aside0.mk (lit_reads wb [x.kind] (by simp)); have HCc := Aside0.mk (Kd.C_below HCb.out ((Below.refl wb.heap.size wb).alloc (Nat.le_refl _) (.cells (nums .u8 [x.kind]).toArray 5)))
            have hlw := Aside0.mk (Nat.lt_of_lt_of_le hrl.out (show wb.heap.size ≤ (wb.alloc (.cells (nums .u8 [x.kind]).toArray 5)).heap.size by simp))
            refine value_ (w1 := wb.alloc (.cells (nums .u8 [x.kind]).toArray 5)) (v := .slice (some ⟨wb.heap.size, 0, none⟩) 1 1) (by rfl) rfl (by go_simp; rfl) ?_
            generalize wb.alloc (.cells (nums .u8 [x.kind]).toArray 5) = wc at HS1 HOc HLc HCc hlw ⊢
            generalize wb.heap.size = gb at HLc ⊢
            refine hK.out _ _ (HS1.out) (fun hHeld => ?_)
            clear hK K
            refine norm_ (a' := ?_) ?_ ?_
            rotate_left
            · show Act.put _ (some 31) _ = _
              simp only [Act.put, List.setIfInBounds_toArray, List.set_cons_zero, List.set_cons_succ, i64_w, i32_w]
              rfl
            clear HS1
            refine one_ (i := 5) (N := some 32) #[true, true, true, true, true, true, true, true, true, false, false, false, false, false] rfl rfl (one_of HT_.out (by kernel_rfl)) (by decide) (fun K hK => ?_)
            refine Kd.R_append_rows_step (Kd.int .u8) (Rr := fun y cs => cs = [Value.int .u8 y]) (w0 := w) w.heap.size (by rfl) (.tmp 27) (.tmp 31) 33 5 (.int .u8 0) 1 rfl Try.underlying33 POct.info5 rfl (by decide) (by decide) _ zj [x.kind] _ 1 1 (fun _ => True) (fun _ => False) rfl rfl HOc.out HLc.out (fun _ _ h => h) (fun _ h => h.elim) (fun _ _ => trivial) hHeld.1 hHeld.1.size (by have := hbig1.out; omega) ?_
            intro v5 wd ho5 hB5 hg5 _
            obtain ⟨A5, c5, rfl, hc5, _⟩ := Kd.R_reads ho5
            have HS1 := Aside0.mk (show Below w.heap.size w wd ∧ It wd g6 x from ⟨hB5, blk_grown hHeld.2 hg5 (Kd.R_ne HOc.out hHeld.2 (by decide))⟩)
            have HCd := Aside0.mk (C_same HCc.out (same_block hg5 hlw.out (fun h => by have := hlta.out _ h.symm; omega)))
            refine hK.out _ _ (HS1.out) (fun hHeld => ?_)
            clear hK K
            refine norm_ (a' := ?_) ?_ ?_
            rotate_left
            · show Act.put _ (some 32) _ = _
              simp only [Act.put, List.setIfInBounds_toArray, List.set_cons_zero, List.set_cons_succ, i64_w, i32_w]
              rfl
            exact norm_ (by rfl) (HJn (_, (A5, c5), (some ⟨wq.heap.size, 0, none⟩, _)) _ ⟨hHeld, ho5, hc5, HCd.out, Hcc.out⟩)
        rintro ⟨v31, ⟨A5, c5⟩, ⟨Ab, cb⟩⟩ wj ⟨hHeld, ho5, hc5, hcb, hcc⟩
        have HO5 := Aside0.mk ho5; have Hc5 := Aside0.mk hc5; have HCb := Aside0.mk hcb; have Hcc := Aside0.mk hcc
        clear ho5 hc5 hcb hcc HOq
        refine norm_ (a' := ?_) ?_ ?_
        rotate_left
        · simp only [putAll]
          simp only [Act.put, List.setIfInBounds_toArray, List.set_cons_zero, List.set_cons_succ, i64_w, i32_w]
          rfl
        refine one_ (i := 9) (N := some 36) #[true, true, true, true, true, true, true, true, true, true, false, false, false, false] rfl rfl (one_of HT_.out (by kernel_rfl)) (by decide) (fun K hK => ?_)
        refine goes_ Try.func31 (by kernel_rfl) rfl #[.slice A5 (zj ++ [x.kind]).length c5, .slice Ab bs.length cb] (by rfl) rfl rfl (by (try simp only [List.map_toArray, List.map_cons, List.map_nil]); first | done | rfl) ?_
        refine (POct.cofferref1_Text.calls 40 A5 c5 (zj ++ [x.kind]) Ab cb bs z7 0 wj (Kd.R_reads' HO5.out).2.2 Hc5.out HCb.out Hcc.out f7.out).mono ?_
        rintro ep w7 ⟨v7, rfl, ho7, hb7⟩
        refine ⟨_, rfl, ?_⟩
        have HS1 := Aside0.mk (show Below w.heap.size w w7 ∧ It w7 g6 x from ⟨below_step hHeld.1 hb7, (hb7.block _ (blk_lt hHeld.2)).trans hHeld.2⟩)
        have HO7 := Aside0.mk (Kd.R_lower ho7 hHeld.1.size)
        clear ho7 hb7 HO5 Hc5 HCb Hcc
        refine hK.out _ _ (HS1.out) (fun hHeld => ?_)
        clear hK K
        refine norm_ (a' := ?_) ?_ ?_
        rotate_left
        · show Act.put _ (some 36) _ = _
          simp only [Act.put, List.setIfInBounds_toArray, List.set_cons_zero, List.set_cons_succ, i64_w, i32_w]
          rfl
        clear HS1
        refine pure_ (i := 10) (N := some 26) (v := ?_) (a' := ?_) #[true, true, true, true, true, true, true, true, true, true, true, false, false, false] rfl rfl (any_of HT_.out (by kernel_rfl)) (fun _ _ _ h => h) (Or.inl ⟨by rfl, ?_⟩) ?_ ?_
        rotate_left
        · intro w'
          go_simp
          with_reducible rfl
        rotate_left
        · simp only [Act.put, List.setIfInBounds_toArray, List.set_cons_zero, List.set_cons_succ, i64_w, i32_w]
          rfl
        refine pure_ (i := 11) (N := some 37) (v := ?_) (a' := ?_) #[true, true, true, true, true, true, true, true, true, true, true, true, false, false] rfl rfl (any_of HT_.out (by kernel_rfl)) (fun _ _ _ h => h) (Or.inl ⟨by rfl, ?_⟩) ?_ ?_
        rotate_left
        · intro w'
          go_simp
          with_reducible rfl
        rotate_left
        · simp only [Act.put, List.setIfInBounds_toArray, List.set_cons_zero, List.set_cons_succ, i64_w, i32_w]
          rfl
        refine pure_ (i := 12) (N := some 38) (v := ?_) (a' := ?_) #[true, true, true, true, true, true, true, true, true, true, true, true, true, false] rfl rfl (any_of HT_.out (by kernel_rfl)) (fun _ _ _ h => h) (Or.inl ⟨by rfl, ?_⟩) ?_ ?_
        rotate_left
        · intro w'
          go_simp
          with_reducible rfl
        rotate_left
        · simp only [Act.put, List.setIfInBounds_toArray, List.set_cons_zero, List.set_cons_succ, i64_w, i32_w]
          rfl
        refine pure_ (i := 13) (N := some 4) (v := ?_) (a' := ?_) #[true, true, true, true, true, true, true, true, true, true, true, true, true, true] rfl rfl (any_of HT_.out (by kernel_rfl)) (fun _ _ _ h => h) (Or.inl ⟨by rfl, ?_⟩) ?_ ?_
        rotate_left
        · intro w'
          go_simp
          with_reducible rfl
        rotate_left
        · simp only [Act.put, List.setIfInBounds_toArray, List.set_cons_zero, List.set_cons_succ, i64_w, i32_w]
          rfl
        refine done_ (done_of HT_.out (by kernel_rfl)) ?_
        clear HT_ HW_
        have HB7 := Aside0.mk hHeld.1; have HG7 := Aside0.mk hHeld.2
        clear hHeld
        go_wp2_with fail
        have HOq := Aside0.mk (Kd.R_below HO7.out (below_drew1 (Below.refl _ _)))
        refine start_ (n := 9) (S := (fun W_ => Below w.heap.size w W_ ∧ It W_ g6 x)) (ds := []) #[false, false, false, false, false, false, false, false, false] (by kernel_rfl) rfl rfl (⟨below_drew1 HB7.out, HG7.out⟩) (fun hHeld => ?_); refine with_tabW rb9tab rb9bits (fun HT_ HW_ => ?_)
        generalize w7.drew = wq at hHeld HOq ⊢
        refine pure_ (i := 0) (N := some 39) (v := ?_) (a' := ?_) #[true, false, false, false, false, false, false, false, false] rfl rfl (any_of HT_.out (by kernel_rfl)) (fun _ _ _ h => h) (Or.inl ⟨by rfl, ?_⟩) ?_ ?_
        rotate_left
        · intro w'
          go_simp
          with_reducible rfl
        rotate_left
        · simp only [Act.put, List.setIfInBounds_toArray, List.set_cons_zero, List.set_cons_succ, i64_w, i32_w]
          rfl
        refine pure_ (i := 1) (N := some 40) (v := ?_) (a' := ?_) #[true, true, false, false, false, false, false, false, false] rfl rfl (any_of HT_.out (by kernel_rfl)) (fun _ _ _ h => h) (Or.inl ⟨by rfl, ?_⟩) ?_ ?_
        rotate_left
        · intro w'
          go_simp
          with_reducible rfl
        rotate_left
        · simp only [Act.put, List.setIfInBounds_toArray, List.set_cons_zero, List.set_cons_succ, i64_w, i32_w]
          rfl
        refine pure_ (i := 2) (N := some 41) (v := ?_) (a' := ?_) #[true, true, true, false, false, false, false, false, false] rfl rfl (any_of HT_.out (by kernel_rfl)) (fun _ _ _ h => h) (Or.inl ⟨by rfl, ?_⟩) ?_ ?_
        rotate_left
        · intro w'
          go_simp
          with_reducible rfl
        rotate_left
        · simp only [Act.put, List.setIfInBounds_toArray, List.set_cons_zero, List.set_cons_succ, i64_w, i32_w]
          rfl
        refine pure_ (i := 4) (N := some 43) (v := ?_) (a' := ?_) #[true, true, true, false, true, false, false, false, false] rfl rfl (any_of HT_.out (by kernel_rfl)) (fun _ _ _ h => h) (Or.inl ⟨by rfl, ?_⟩) ?_ ?_
        rotate_left
        · intro w'
          go_simp
          with_reducible rfl
        rotate_left
        · simp only [Act.put, List.setIfInBounds_toArray, List.set_cons_zero, List.set_cons_succ, i64_w, i32_w]
          rfl
        refine take_ (i := 5) (N := some 44) (v := ?_) (a' := ?_) #[true, true, true, false, true, true, false, false, false] rfl rfl (take_ofW HT_.out HW_.out (by kernel_rfl)) (fun _ _ _ h => h) (Or.inl ⟨by rfl, ?_⟩) hHeld ?_ ?_
        rotate_left
        · intro w' hw'
          have hf0_ := it_size hw'.2 hok
          go_simp
          with_reducible rfl
        rotate_left
        · simp only [Act.put, List.setIfInBounds_toArray, List.set_cons_zero, List.set_cons_succ, i64_w, i32_w]
          rfl
        refine pure_ (i := 6) (N := some 45) (v := ?_) (a' := ?_) #[true, true, true, false, true, true, true, false, false] rfl rfl (any_of HT_.out (by kernel_rfl)) (fun _ _ _ h => h) (Or.inl ⟨by rfl, ?_⟩) ?_ ?_
        rotate_left
        · intro w'
          go_simp
          with_reducible rfl
        rotate_left
        · simp only [Act.put, List.setIfInBounds_toArray, List.set_cons_zero, List.set_cons_succ, i64_w, i32_w]
          rfl
        refine one_ (i := 3) (N := some 42) #[true, true, true, true, true, true, true, false, false] rfl rfl (one_of HT_.out (by kernel_rfl)) (by decide) (fun K hK => ?_)
        have hcr := Aside0.mk (it_of hHeld.2 hok)
        refine Kd.R_append_rows_step (Kd.int .u8) (Rr := fun y cs => cs = [Value.int .u8 y]) (w0 := w) w.heap.size (by rfl) (.tmp 39) (.tmp 41) 33 5 (.int .u8 0) 1 rfl Try.underlying33 POct.info5 rfl (by decide) (by decide) _ z7 x.of (some ⟨g6, 2, none⟩) 32 32 (fun _ => True) (fun _ => False) rfl rfl HOq.out hcr.out (fun _ _ h => h) (fun _ h => h.elim) (fun _ _ => trivial) hHeld.1 hHeld.1.size (by have := hbig.out; omega) ?_
        intro v8 w8 ho8 hB8 hg8 _
        have HG8 := Aside0.mk (show It w8 g6 x from blk_grown hHeld.2 hg8 (Kd.R_ne HOq.out hHeld.2 (by decide)))
        obtain ⟨A8, c8, rfl, hc8, hC8⟩ := Kd.R_reads ho8
        have HS1 := Aside0.mk (show Below w.heap.size w w8 ∧ It w8 g6 x from ⟨hB8, HG8.out⟩); have HC8 := Aside0.mk hC8; have Hc8 := Aside0.mk hc8
        clear ho8 hB8 hg8 hC8 hc8 HOq hcr HG8
        refine hK.out _ _ (HS1.out) (fun hHeld => ?_)
        clear hK K
        refine norm_ (a' := ?_) ?_ ?_
        rotate_left
        · show Act.put _ (some 42) _ = _
          simp only [Act.put, List.setIfInBounds_toArray, List.set_cons_zero, List.set_cons_succ, i64_w, i32_w]
          rfl
        clear HS1
        refine one_ (i := 7) (N := some 46) #[true, true, true, true, true, true, true, true, false] rfl rfl (one_of HT_.out (by kernel_rfl)) (by decide) (fun K hK => ?_)
        refine goes_ Try.func30 (by kernel_rfl) rfl #[.slice A8 (z7 ++ x.of).length c8, .int .u64 x.size] (by rfl) rfl rfl (by (try simp only [List.map_toArray, List.map_cons, List.map_nil]); first | done | rfl) ?_
        refine (POct.cofferref1_Count.calls 40 A8 c8 (z7 ++ x.of) x.size z9 w8 HC8.out Hc8.out f9.out).mono ?_
        rintro ep w9 ⟨v9, rfl, ho9, hb9⟩
        refine ⟨_, rfl, ?_⟩
        have HS1 := Aside0.mk (show Below w.heap.size w w9 ∧ It w9 g6 x from ⟨below_step hHeld.1 hb9, (hb9.block _ (blk_lt hHeld.2)).trans hHeld.2⟩)
        have HO9 := Aside0.mk (Kd.R_lower ho9 hHeld.1.size)
        clear ho9 hb9 HC8 Hc8
        refine hK.out _ _ (HS1.out) (fun hHeld => ?_)
        clear hK K
        refine norm_ (a' := ?_) ?_ ?_
        rotate_left
        · show Act.put _ (some 46) _ = _
          simp only [Act.put, List.setIfInBounds_toArray, List.set_cons_zero, List.set_cons_succ, i64_w, i32_w]
          rfl
        clear HS1
        refine pure_ (i := 8) (N := some 4) (v := ?_) (a' := ?_) #[true, true, true, true, true, true, true, true, true] rfl rfl (any_of HT_.out (by kernel_rfl)) (fun _ _ _ h => h) (Or.inl ⟨by rfl, ?_⟩) ?_ ?_
        rotate_left
        · intro w'
          go_simp
          with_reducible rfl
        rotate_left
        · simp only [Act.put, List.setIfInBounds_toArray, List.set_cons_zero, List.set_cons_succ, i64_w, i32_w]
          rfl
        refine done_ (done_of HT_.out (by kernel_rfl)) ?_
        clear HT_ HW_
        have hfin : Aside0 (z9 = foldTo l (j + 1)) := ⟨by rw [HNX.out, hz9.out, hz7.out, hbs.out, bytesOf_length]; unfold itemB; simp⟩
        go_wp2_with fail
        go_roundw
        case rel => exact ⟨j + 1, by omega, by go_num, ⟨by rw [← hfin.out]; exact HO9.out⟩, ⟨hHeld.1⟩⟩
        case measure => simp [intOf]; omega
      · obtain rfl : j = l.length := by omega
        obtain ⟨A4, c4, hv4, _, _⟩ := Kd.R_reads HO.out
        subst hv4
        by_cases hlong : (foldB l).length ≤ 4000
        · have dl : decide (4000 < ((foldTo l l.length).length : Int)) = false := decide_eq_false (by unfold foldB at hlong; omega)
          go_wp2_with fail
          go_ret2
          have hout : bytesOut l = (foldB l, 0) := by unfold bytesOut; rw [if_pos HM.out, if_pos hlong]
          exact ⟨_, by rw [hout]; rfl, by rw [hout]; exact HO.out, HB.out⟩
        · have dl : decide (4000 < ((foldTo l l.length).length : Int)) = true := decide_eq_true (by unfold foldB at hlong; omega)
          go_wp2_with fail
          go_ret2
          have hout : bytesOut l = ([], 2) := by unfold bytesOut; rw [if_pos HM.out, if_neg hlong]
          exact ⟨_, by rw [hout]; rfl, by rw [hout]; exact NIL.out _, HB.out⟩
end Go.Proofs.Ytmcankeggbofhaa.Rb
namespace Go.Proofs.Ytmcankeggbofhaa.Im
open Go.RowKit Go.Proofs.YtmcankeggbofhaaW.PrintWords Go.Proofs.YtmcankeggbofhaaW.PrintLast Go.Proofs.YtmcankeggbofhaaW.PrintMore
open It Nm Ag My Spc By
set_option linter.unusedVariables false
set_option linter.unusedSimpArgs false
theorem put_field {W : World} {g o : Nat} {ty : TypeId} {v : Value} {x x' : Itm} (h : It W g x) (hok : Ok x) (hi : (Try.prog.info? ty).map (·.size) = some v.cells.size) (h1 : ∀ u ∈ v.cells.toList, u.oneCell' = true) (hfit : o + v.cells.size ≤ 35)
    (he : (cellsOf x).take o ++ v.cells.toList ++ (cellsOf x).drop (o + v.cells.size) = cellsOf x') :
    (Instr.storeAt ty (.pointer (some ⟨g, o, none⟩)) v).run Try.prog W = .ok () (W.setRow g (cellsOf x').toArray) := by
  have hr := run_storeCells_at Try.prog g o 28 v.cells.toList 0 (cellsOf x).toArray W h (by rw [cells_sz hok]; simpa using hfit) h1
  simp only [Nat.add_zero, Array.length_toList] at hr
  rw [he] at hr
  obtain ⟨i, hq, hs⟩ := Option.map_eq_some_iff.1 hi
  simp only [Instr.storeAt, Instr.sureAddr, Sem.run_bind, Sem.run_pure, Result.andThen_ok, storeVar]
  simp [sizeOf, typeInfo, hq, hs, hr]
theorem it_put {W : World} {g : Nat} {x : Itm} (x' : Itm) (h : It W g x) : It (W.setRow g (cellsOf x').toArray) g x' := setRow_heap W g _ _ 28 (0, 0) h
theorem grown_put (W : World) (g : Nat) (cs : Array Value) : W.grownBy (W.setRow g cs) (some g) := ⟨rfl, rfl, rfl, by simp, fun k hk hne => setRow_other W g k cs (fun e => hne (by rw [e]))⟩
theorem cells_put_kind (x : Itm) (k : Int) : (cellsOf x).take 1 ++ (Value.int .i64 k).cells.toList ++ (cellsOf x).drop (1 + (Value.int .i64 k).cells.size) = cellsOf { x with kind := k } := rfl
theorem cells_put_name (x : Itm) (s : ByteArray) : (cellsOf x).take 0 ++ (Value.string s).cells.toList ++ (cellsOf x).drop (0 + (Value.string s).cells.size) = cellsOf { x with name := s } := rfl
theorem cells_put_size {x : Itm} (hok : Ok x) (n : Int) : (cellsOf x).take 34 ++ (Value.int .i64 n).cells.toList ++ (cellsOf x).drop (34 + (Value.int .i64 n).cells.size) = cellsOf { x with size := n } := by
  unfold Ok at hok
  have h1 : (cellsOf x).take 34 = Value.string x.name :: Value.int .i64 x.kind :: nums .u8 x.of := by
    unfold cellsOf
    rw [← List.cons_append, ← List.cons_append, List.take_append_of_le_length (by simp [nums, hok]), List.take_of_length_le (by simp [nums, hok])]
  have h2 : (cellsOf x).drop 35 = [] := List.drop_of_length_le (by rw [cells_len hok]; omega)
  show (cellsOf x).take 34 ++ [Value.int .i64 n] ++ (cellsOf x).drop 35 = _
  rw [h1, h2]
  simp [cellsOf]
theorem cells_put_of {x : Itm} (hok : Ok x) (r : List Int) (hr : r.length = 32) : (cellsOf x).take 2 ++ (Value.agg (nums .u8 r).toArray).cells.toList ++ (cellsOf x).drop (2 + (Value.agg (nums .u8 r).toArray).cells.size) = cellsOf { x with of := r } := by
  unfold Ok at hok
  have hs : (Value.agg (nums .u8 r).toArray).cells.size = 32 := by simp [Value.cells, nums, hr]
  rw [hs]
  have h1 : (cellsOf x).drop 34 = [Value.int .i64 x.size] := by
    unfold cellsOf
    rw [← List.cons_append, ← List.cons_append, List.drop_append]
    simp [nums, hok]
  show (cellsOf x).take 2 ++ nums .u8 r ++ (cellsOf x).drop 34 = _
  rw [h1]
  simp [cellsOf]
theorem info3 : (Try.prog.info? 3).map (·.size) = some 1 := by kernel_rfl
theorem info2 : (Try.prog.info? 2).map (·.size) = some 1 := by kernel_rfl
theorem info9 : (Try.prog.info? 9).map (·.size) = some 1 := by kernel_rfl
theorem info26 : (Try.prog.info? 26).map (·.size) = some 32 := by kernel_rfl
section
variable {ops : Array Oper} {rest : List Oper} {o : Oper} {a : Act} {Q : Exit → Act → World → Prop}
theorem op_put {w0 W : World} (B : Nat) (hgd : o.guard = none) (ty : TypeId) (px y : Operand) (ho : o.op = .store ty px y) (g off : Nat) (v : Value) (x x' : Itm) (hx : a.eval px = .pointer (some ⟨g, off, none⟩)) (hy : a.eval y = v)
    (h : It W g x) (hrun : (Instr.storeAt ty (.pointer (some ⟨g, off, none⟩)) v).run Try.prog W = .ok () (W.setRow g (cellsOf x').toArray)) (HB : Below B w0 W) (hBg : B ≤ g)
    (hk : ∀ w1 : World, Aside0 (It w1 g x') → Aside0 (W.grownBy w1 (some g)) → Aside0 (Below B w0 w1) → wpList Try.prog ops Q rest (a.put o.dst undef) w1) : wpList Try.prog ops Q (o :: rest) a W := by
  refine wpList_plain hgd fun K hK => ?_
  unfold Oper.wp execOp
  simp only [ho, hx, hy, hrun, Sem.run_bind, Result.andThen_ok, Sem.run_pure]
  exact hK _ _ (hk _ ⟨it_put x' h⟩ ⟨grown_put W g _⟩ ⟨below_setRow HB hBg _⟩)
end
/-- the function hands back a struct that lies in memory, and two values -/
theorem ret_row3 {P : Program} {fn : Func} {R : Ending → World → Prop} {a : Act} {w : World} {p u u2 : Tmp} {ty : TypeId} (hres : fn.results = #[.cell p ty, .tmp u, .tmp u2]) (g : Nat) (hp : a.tmps.getD p undef = .pointer (some ⟨g, 0, none⟩)) (t : TypeId) (cs : Array Value) (d : TypeDesc) (hg : w.heap[g]? = some (.cells cs t (0, 0)))
    (hu : P.underlying ty = some d) (hd : (match d with | .struct _ | .array _ _ => true | _ => false) = true) (n : Nat) (hi : (P.info? ty).map (·.size) = some n) (hn : cs.size = n) (hdef : a.defers = []) (h : R (.returned (.tuple #[.agg cs, a.tmps.getD u undef, a.tmps.getD u2 undef])) w) : bodyPost P fn R .ret a w := by
  refine bodyPost_ret ?_ hdef h
  have hr : (results fn a.tmps).run P w = ((asAddr (a.tmps.getD p undef)).run P w).andThen fun b w₁ => ((loadVar ty b).run P w₁).andThen fun v w₂ => .ok (.tuple #[v, a.tmps.getD u undef, a.tmps.getD u2 undef]) w₂ := by
    simp only [results, hres]
    simp [Sem.run_bind, Result.andThen]
  rw [hr, hp]
  simp only [asAddr, Sem.run_pure, Result.andThen_ok, run_loadVar_row w g t ty cs (0, 0) d hg hu hd (by rw [hi, hn])]

/-- what stands at the beginning of bytes, read as an item -/
def parse (b : List Int) : Option (Itm × List Int) :=
  match b with
  | [] => none
  | c :: r =>
    let t := OctD.takeT r
    if t.2.2 ≠ 0 then none else
    let b1 := r.drop t.2.1.toNat
    if b1.length < 32 then none else
    let b2 := b1.drop 32
    let n := OctC.take 0 0 b2
    if n.2.2 ≠ 0 ∨ 9223372036854775807 < n.1 then none else
    some (⟨strOfNums t.1, c, b1.take 32, n.1⟩, b2.drop n.2.1.toNat)
end Go.Proofs.Ytmcankeggbofhaa.Im
