/- The law AuditEntries, walked. -/
import Derived.Test.YtgpgblidplmchaaLd
import Derived.Test.YtgpgblidplmchaaLb
namespace Go.Proofs.Ytgpgblidplmchaa.Le
open Go.RowKit Go.Proofs.YtgpgblidplmchaaW.PrintWords Go.Proofs.YtgpgblidplmchaaW.PrintLast Go.Proofs.YtgpgblidplmchaaW.PrintMore
open Ag En Eb Eh Ek Lb Lk Spw
set_option linter.unusedVariables false
set_option linter.unusedSimpArgs false
set_option maxRecDepth 100000
theorem load_id {W : World} {g : Nat} {l : List Int} (h : Idb W g l) (hl : l.length = 32) : (Instr.loadAt 25 (.pointer (some ⟨g, 0, none⟩))).run Try.prog W = .ok (.agg (nums .u8 l).toArray) W := by
  simp only [Instr.loadAt, Instr.sureAddr, Sem.run_bind, Sem.run_pure, Result.andThen_ok, run_loadVar_row W g 25 25 _ (0, 0) _ h Try.underlying25 rfl (by rw [info25, id_sz hl])]
theorem id_neq_same {o : Oper} {a : Act} {W : World} {x y : Operand} {p : List Int} (ho : o.op = .binOp .neq 25 x y 25) (hx : a.eval x = .agg (nums .u8 p).toArray) (hy : a.eval y = .agg (nums .u8 p).toArray) (hp : p.length = 32) : (execOp a.eval o).run Try.prog W = .ok (.value (.bool false)) W := by
  have := id_neq (W := W) ho hx hy hp hp
  simpa using this
structure P0 (w W : World) (g2 g3 : Nat) (x : Ent) (hd : List Int) : Prop where
  below : Below w.heap.size w W
  ent : It W g2 x
  id : Idb W g3 hd
  ne : w.heap.size ≤ g2 ∧ w.heap.size ≤ g3
theorem P0.step {w W W2 : World} {g2 g3 : Nat} {x : Ent} {hd : List Int} (h : P0 w W g2 g3 x hd) (hb : Below W.heap.size W W2) : P0 w W2 g2 g3 x hd :=
  ⟨h.below.trans (hb.mono h.below.size), (hb.block _ (blk_lt h.ent)).trans h.ent, (hb.block _ (blk_lt h.id)).trans h.id, h.ne⟩
theorem P0.start (w : World) (x : Ent) (hd : List Int) : P0 w ((w.alloc (.cells (cellsOf x).toArray 27)).alloc (.cells (nums .u8 hd).toArray 25)) w.heap.size (w.heap.size + 1) x hd := by
  have e1 := Sw.size_alloc w (.cells (cellsOf x).toArray 27)
  generalize hA : w.alloc (.cells (cellsOf x).toArray 27) = A at e1 ⊢
  have a0 : It A w.heap.size x := by rw [← hA]; exact heap_alloc_new w _
  have bA : Below w.heap.size w A := by rw [← hA]; exact (Below.refl _ _).alloc (Nat.le_refl _) _
  have bB : Below A.heap.size A (A.alloc (.cells (nums .u8 hd).toArray 25)) := (Below.refl _ _).alloc (Nat.le_refl _) _
  refine ⟨bA.trans (bB.mono (by omega)), (bB.block _ (by omega)).trans a0, ?_, Nat.le_refl _, by omega⟩
  rw [← e1]
  exact heap_alloc_new A _
structure P2 (w W : World) (g2 g10 g12 g3 B c6 : Nat) (x : Ent) (lk bb hd : List Int) (A6 A8 : Option Addr) : Prop where
  all : Below w.heap.size w W ∧ It W g2 x ∧ Idb W g10 lk ∧ Idb W g12 lk ∧ CB W A6 bb ∧ CB W A8 bb ∧ Idb W g3 hd ∧ RB W B (.slice A6 bb.length c6) bb
theorem P2.step {w W W2 : World} {g2 g10 g12 g3 B c6 : Nat} {x : Ent} {lk bb hd : List Int} {A6 A8 : Option Addr} (h : Below w.heap.size w W ∧ It W g2 x ∧ Idb W g10 lk ∧ Idb W g12 lk ∧ CB W A6 bb ∧ CB W A8 bb ∧ Idb W g3 hd ∧ RB W B (.slice A6 bb.length c6) bb) (hb : Below W.heap.size W W2) :
    Below w.heap.size w W2 ∧ It W2 g2 x ∧ Idb W2 g10 lk ∧ Idb W2 g12 lk ∧ CB W2 A6 bb ∧ CB W2 A8 bb ∧ Idb W2 g3 hd ∧ RB W2 B (.slice A6 bb.length c6) bb :=
  ⟨h.1.trans (hb.mono h.1.size), (hb.block _ (blk_lt h.2.1)).trans h.2.1, (hb.block _ (blk_lt h.2.2.1)).trans h.2.2.1, (hb.block _ (blk_lt h.2.2.2.1)).trans h.2.2.2.1, Kd.C_below h.2.2.2.2.1 hb, Kd.C_below h.2.2.2.2.2.1 hb, (hb.block _ (blk_lt h.2.2.2.2.2.2.1)).trans h.2.2.2.2.2.2.1, Kd.R_below h.2.2.2.2.2.2.2 hb⟩
theorem P2.drew {w W : World} {g2 g10 g12 g3 B c6 : Nat} {x : Ent} {lk bb hd : List Int} {A6 A8 : Option Addr} (h : P2 w W g2 g10 g12 g3 B c6 x lk bb hd A6 A8) : Below w.heap.size w W.drew ∧ It W.drew g2 x ∧ Idb W.drew g10 lk ∧ Idb W.drew g12 lk ∧ CB W.drew A6 bb ∧ CB W.drew A8 bb ∧ Idb W.drew g3 hd ∧ RB W.drew B (.slice A6 bb.length c6) bb :=
  P2.step h.all (below_drew1 (Below.refl _ _))
def en12T : Bool × List (List Nat × List Nat) := (true, [([], []), ([], []), ([0, 1], [0, 1]), ([2], [2]), ([3], [3]), ([3], [3]), ([4, 5, 3], [3, 4, 5]), ([3, 6], [3, 6]), ([7, 3], [7]), ([8], [8]), ([9, 8], [8, 9]), ([8], [8]), ([11, 8], [8, 11]), ([10, 12, 8], [8, 10, 12]), ([8, 13], [8, 13]), ([14, 8], [14]), ([15], [15]), ([15], [15]), ([16, 17, 15], [15, 16, 17]), ([15, 18], [15, 18]), ([19, 15], [19]), ([20], [20]), ([21, 20, 20], [20, 21]), ([20], [20]), ([23, 22, 20], [20, 23]), ([22, 24, 20], [20, 22, 24]), ([20, 25], [20, 25])])
def en12B : List Nat := [0, 0, 3, 7, 15, 15, 63, 127, 255, 511, 1023, 511, 2559, 8191, 16383, 32767, 65535, 65535, 262143, 524287, 1048575, 2097151, 4194303, 2097151, 16777215, 33554431, 67108863]
theorem en12tab : rtab .any (opsOf Try.f4 12) = en12T := by kernel_rfl
theorem en12bits : waitsOk en12T.2 en12B = true := by kernel_rfl
set_option maxHeartbeats 6400000 in
theorem entries_walk0 (x : Ent) (hd : List Int) (w : World) (hx : Wf x) (hh : hd.length = 32) (hby : By hd) :
    Calls Try.prog 4 #[.agg (cellsOf x).toArray, .agg (nums .u8 hd).toArray] w fun e w' => e = .returned (.bool true) ∧ Below w.heap.size w w' := by
  have HX := Aside0.mk hx; have HOK := Aside0.mk hx.1; have HH := Aside0.mk hh; have HBY := Aside0.mk hby
  have HCZ := Aside0.mk (cells_sz hx.1)
  have HIZ := Aside0.mk (id_sz hh)
  have HS0 := Aside0.mk (P0.start w x hd)
  have HLI := Aside0.mk (fun W => light_calls (some ⟨W.heap.size, 0, none⟩) 1 [x] 1 _ (ce_lit W hx.1) (by simp))
  obtain ⟨lb, hlb⟩ : ∃ lb, lightB [x] 1 = lb := ⟨_, rfl⟩
  rw [hlb] at HLI
  obtain ⟨mb, hmb⟩ : ∃ mb, mayE x = mb := ⟨_, rfl⟩
  have HMB := Aside0.mk hmb
  clear hx hh hby hlb hmb
  go_enter Try.func4, Try.ntmps4
  go_upto_region 1 with (fail)
  generalize (w.alloc (.cells (cellsOf x).toArray 27)).alloc (.cells (nums .u8 hd).toArray 25) = W1 at HS0 ⊢
  generalize w.heap.size + 1 = g3 at HS0 ⊢
  generalize w.heap.size = g2 at HS0 ⊢
  go_upto_region 3 with (((with_reducible refine (begun_calls _).mono ?_); rintro _ w1 ⟨rfl, hb1⟩))
  have HS1 := Aside0.mk (HS0.out.step hb1)
  have HE1 := Aside0.mk (show w1.heap[g2]? = some (.cells (cellsOf x).toArray 27 (0, 0)) from HS1.out.ent)
  have HS2 := Aside0.mk (HS1.out.step ((Below.refl w1.heap.size w1).alloc (Nat.le_refl _) (.cells (cellsOf x).toArray 27)))
  clear hb1 HS0
  cases lb with
  | false =>
    go_wp2_with (first | (with_reducible refine op_load rfl 27 _ rfl g2 rfl 27 _ _ HE1.out Try.underlying27 rfl 38 info27 HCZ.out ?_) | (refine op_lit1 rfl (.tmp 16) rfl x HOK.out rfl ?_) | (go_at_call 10; refine (HLI.out w1).mono ?_; rintro _ w2 ⟨rfl, hb2⟩))
    go_ret
    exact ⟨rfl, (HS2.out.step hb2).below⟩
  | true =>
    go_upto_region 5 with (first | (with_reducible refine op_load rfl 27 _ rfl g2 rfl 27 _ _ HE1.out Try.underlying27 rfl 38 info27 HCZ.out ?_) | (refine op_lit1 rfl (.tmp 16) rfl x HOK.out rfl ?_) | (go_at_call 10; refine (HLI.out w1).mono ?_; rintro _ w2 ⟨rfl, hb2⟩))
    have HS3 := Aside0.mk (HS2.out.step hb2)
    clear hb2 HE1 HS2 HS1 HLI
    go_wp2
    go_loopw [5] (fun v wr => ∃ n : Nat, n ≤ 2 ∧ v = .int .i64 n ∧ Aside0 (P0 w wr g2 g3 x hd)) (fun v _ => 2 - (intOf v).toNat)
    case atStart => exact ⟨0, by decide, rfl, HS3⟩
    case round =>
      clear HS3
      obtain ⟨n, hn, rfl, HS0⟩ := hrel
      by_cases hlt : n < 2
      rotate_left
      · go_wp2
        go_ret
        exact ⟨rfl, HS0.out.below⟩
      have hlt' : decide ((n : Int) < 2) = true := by simp; omega
      obtain ⟨bb, hbb⟩ : ∃ bb, (bytesOut x).1 = bb := ⟨_, rfl⟩
      obtain ⟨be_, hbe⟩ : ∃ b, (bytesOut x).2 = b := ⟨_, rfl⟩
      obtain ⟨lk, hlk⟩ : ∃ b, (linkOut hd x).1 = b := ⟨_, rfl⟩
      obtain ⟨le, hle⟩ : ∃ b, (linkOut hd x).2 = b := ⟨_, rfl⟩
      have HLK := Aside0.mk (show lk.length = 32 from by rw [← hlk]; exact link_len _ _)
      have HLZ := Aside0.mk (id_sz HLK.out)
      have HE0 := Aside0.mk (show wr.heap[g2]? = some (.cells (cellsOf x).toArray 27 (0, 0)) from HS0.out.ent)
      have HBA := Aside0.mk (hbb ▸ hbe ▸ fun W => bytes_calls x W HX.out)
      have HBR := Aside0.mk (hbb ▸ hbe ▸ fun W => Erb.ref_bytes_calls x W HX.out)
      have HLA := Aside0.mk (hlk ▸ hle ▸ fun W => link_calls hd x W HX.out HH.out HBY.out)
      have HLR := Aside0.mk (hlk ▸ hle ▸ fun W => ref_link_calls hd x W HX.out HH.out HBY.out)
      clear hbb hbe hlk hle
      go_upto_region 9 with (first | (with_reducible refine op_load rfl 27 _ rfl g2 rfl 27 _ _ HE0.out Try.underlying27 rfl 38 info27 HCZ.out ?_) | ((with_reducible refine (HBA.out _).mono ?_); rintro _ wa ⟨va, rfl, hra, hba⟩; obtain ⟨A6, c6, rfl, hc6, hC6⟩ := Kd.R_reads hra))
      have HSa := Aside0.mk (HS0.out.step hba)
      have HRa := Aside0.mk hra; have HCa := Aside0.mk hC6; have Hca := Aside0.mk hc6
      have HEa := Aside0.mk (show wa.heap[g2]? = some (.cells (cellsOf x).toArray 27 (0, 0)) from HSa.out.ent)
      have HLa := Aside0.mk (show w.heap.size ≤ wr.heap.size from HS0.out.below.size)
      clear hra hba hC6 hc6 HE0 HS0
      go_upto_region 10 with (first | (with_reducible refine op_load rfl 27 _ rfl g2 rfl 27 _ _ HEa.out Try.underlying27 rfl 38 info27 HCZ.out ?_) | ((with_reducible refine (HBR.out _).mono ?_); rintro _ wb ⟨vb, rfl, hrb, hbb⟩; obtain ⟨A8, c8, rfl, hc8, hC8⟩ := Kd.R_reads hrb))
      have HSb := Aside0.mk (HSa.out.step hbb)
      have HRb := Aside0.mk (Kd.R_below HRa.out hbb)
      have HC6b := Aside0.mk (Kd.C_below HCa.out hbb); have HC8b := Aside0.mk hC8
      have HEb := Aside0.mk (show wb.heap[g2]? = some (.cells (cellsOf x).toArray 27 (0, 0)) from HSb.out.ent)
      have HIb := Aside0.mk (show wb.heap[g3]? = some (.cells (nums .u8 hd).toArray 25 (0, 0)) from HSb.out.id)
      clear hrb hbb hC8 hc8 HEa HSa HRa HCa
      go_upto_region 11 with (first
        | (with_reducible refine op_load rfl 27 _ rfl g2 rfl 27 _ _ HEb.out Try.underlying27 rfl 38 info27 HCZ.out ?_)
        | (with_reducible refine op_load rfl 25 _ rfl g3 rfl 25 _ _ HIb.out Try.underlying25 rfl 32 info25 HIZ.out ?_)
        | ((with_reducible refine (HLA.out _).mono ?_); rintro _ wc ⟨rfl, hbc⟩; have HSc := Aside0.mk (HSb.out.step hbc); have HRc := Aside0.mk (Kd.R_below HRb.out hbc); have HC6c := Aside0.mk (Kd.C_below HC6b.out hbc); have HC8c := Aside0.mk (Kd.C_below HC8b.out hbc); obtain ⟨g10, hg10⟩ : ∃ g, wc.heap.size = g := ⟨_, rfl⟩; have HG10 := Aside0.mk hg10; have HN10 := Aside0.mk (hg10 ▸ heap_alloc_new wc (.cells (nums .u8 id0).toArray 25) : (wc.alloc (.cells (nums .u8 id0).toArray 25)).heap[g10]? = some (.cells (nums .u8 id0).toArray 25 (0, 0))); have HL10 := Aside0.mk (hg10 ▸ HSc.out.below.size); clear hg10 hbc HSb HRb HC6b HC8b)
        | ((with_reducible refine op_alloc rfl 25 rfl _ zero25 ?_); simp only [HG10.out])
        | ((with_reducible refine op_store (w0 := wc) (o := ⟨none, .store 25 (.tmp 10) (.tmp 38), _, _, _, _⟩) g10 ?_ 25 (.tmp 10) (.tmp 38) ?_ g10 (nums .u8 lk).toArray ?_ ?_ 25 _ HN10.out 32 info25 HLZ.out (id_sz id0_len) (id_all _) ((Below.refl _ _).alloc (by rw [HG10.out]; exact Nat.le_refl _) _) (Nat.le_refl _) ?_); rfl; rfl; rfl; rfl; intro wd h1 h2 h3))
      have HBd := Aside0.mk (show Below wc.heap.size wc wd from by rw [HG10.out]; exact h3.out)
      have HSd := Aside0.mk (HSc.out.step HBd.out)
      have HRd := Aside0.mk (Kd.R_below HRc.out HBd.out); have HC6d := Aside0.mk (Kd.C_below HC6c.out HBd.out); have HC8d := Aside0.mk (Kd.C_below HC8c.out HBd.out)
      have HI10 := Aside0.mk (show Idb wd g10 lk from h1.out)
      have HEd := Aside0.mk (show wd.heap[g2]? = some (.cells (cellsOf x).toArray 27 (0, 0)) from HSd.out.ent)
      have HId := Aside0.mk (show wd.heap[g3]? = some (.cells (nums .u8 hd).toArray 25 (0, 0)) from HSd.out.id)
      clear h1 h2 h3 HSc HRc HC6c HC8c HG10 HN10 HL10 HBd HEb HIb
      go_upto_region 12 with (first
        | (with_reducible refine op_load rfl 27 _ rfl g2 rfl 27 _ _ HEd.out Try.underlying27 rfl 38 info27 HCZ.out ?_)
        | (with_reducible refine op_load rfl 25 _ rfl g3 rfl 25 _ _ HId.out Try.underlying25 rfl 32 info25 HIZ.out ?_)
        | ((with_reducible refine (HLR.out _).mono ?_); rintro _ we ⟨rfl, hbe⟩; have HSe := Aside0.mk (HSd.out.step hbe); have HRe := Aside0.mk (Kd.R_below HRd.out hbe); have HC6e := Aside0.mk (Kd.C_below HC6d.out hbe); have HC8e := Aside0.mk (Kd.C_below HC8d.out hbe); have HI10e := Aside0.mk (show Idb we g10 lk from (hbe.block _ (blk_lt HI10.out)).trans HI10.out); obtain ⟨g12, hg12⟩ : ∃ g, we.heap.size = g := ⟨_, rfl⟩; have HG12 := Aside0.mk hg12; have HN12 := Aside0.mk (hg12 ▸ heap_alloc_new we (.cells (nums .u8 id0).toArray 25) : (we.alloc (.cells (nums .u8 id0).toArray 25)).heap[g12]? = some (.cells (nums .u8 id0).toArray 25 (0, 0))); clear hg12 hbe HSd HRd HC6d HC8d HI10)
        | ((with_reducible refine op_alloc rfl 25 rfl _ zero25 ?_); simp only [HG12.out])
        | ((with_reducible refine op_store (w0 := we) (o := ⟨none, .store 25 (.tmp 12) (.tmp 44), _, _, _, _⟩) g12 ?_ 25 (.tmp 12) (.tmp 44) ?_ g12 (nums .u8 lk).toArray ?_ ?_ 25 _ HN12.out 32 info25 HLZ.out (id_sz id0_len) (id_all _) ((Below.refl _ _).alloc (by rw [HG12.out]; exact Nat.le_refl _) _) (Nat.le_refl _) ?_); rfl; rfl; rfl; rfl; intro wf h1 h2 h3))
      have HBf := Aside0.mk (show Below we.heap.size we wf from by rw [HG12.out]; exact h3.out)
      have HSf := Aside0.mk (HSe.out.step HBf.out)
      have HRf := Aside0.mk (Kd.R_below HRe.out HBf.out)
      have HS := Aside0.mk (P2.mk ⟨HSf.out.below, HSf.out.ent, (HBf.out.block _ (blk_lt HI10e.out)).trans HI10e.out, h1.out, Kd.C_below HC6e.out HBf.out, Kd.C_below HC8e.out HBf.out, HSf.out.id, HRf.out⟩ : P2 w wf g2 g10 g12 g3 wr.heap.size c6 x lk bb hd A6 A8)
      have HIf := Aside0.mk HSf.out
      clear h1 h2 h3 HSe HRe HC6e HC8e HI10e HG12 HN12 HBf HEd HId
      refine start_ (n := 27) (S := (fun W_ => Below w.heap.size w W_ ∧ It W_ g2 x ∧ Idb W_ g10 lk ∧ Idb W_ g12 lk ∧ CB W_ A6 bb ∧ CB W_ A8 bb ∧ Idb W_ g3 hd ∧ RB W_ wr.heap.size (.slice A6 bb.length c6) bb)) (ds := []) #[false, false, false, false, false, false, false, false, false, false, false, false, false, false, false, false, false, false, false, false, false, false, false, false, false, false, false] (by kernel_rfl) rfl rfl (HS.out.drew) (fun hHeld => ?_); refine with_tabW en12tab en12bits (fun HT_ HW_ => ?_)
      generalize World.drew _ = wq at hHeld ⊢
      refine pure_ (i := 0) (N := some 46) (v := ?_) (a' := ?_) #[true, false, false, false, false, false, false, false, false, false, false, false, false, false, false, false, false, false, false, false, false, false, false, false, false, false, false] rfl rfl (any_of HT_.out (by kernel_rfl)) (fun _ _ _ h => h) (Or.inl ⟨by rfl, ?_⟩) ?_ ?_
      rotate_left
      · intro w'
        go_simp
        with_reducible rfl
      rotate_left
      · simp only [Act.put, List.setIfInBounds_toArray, List.set_cons_zero, List.set_cons_succ, i64_w, i32_w]
        rfl
      refine pure_ (i := 1) (N := some 47) (v := ?_) (a' := ?_) #[true, true, false, false, false, false, false, false, false, false, false, false, false, false, false, false, false, false, false, false, false, false, false, false, false, false, false] rfl rfl (any_of HT_.out (by kernel_rfl)) (fun _ _ _ h => h) (Or.inl ⟨by rfl, ?_⟩) ?_ ?_
      rotate_left
      · intro w'
        go_simp
        with_reducible rfl
      rotate_left
      · simp only [Act.put, List.setIfInBounds_toArray, List.set_cons_zero, List.set_cons_succ, i64_w, i32_w]
        rfl
      refine pure_ (i := 2) (N := some 48) (v := ?_) (a' := ?_) #[true, true, true, false, false, false, false, false, false, false, false, false, false, false, false, false, false, false, false, false, false, false, false, false, false, false, false] rfl rfl (any_of HT_.out (by kernel_rfl)) (fun _ _ _ h => h) (Or.inl ⟨by rfl, ?_⟩) ?_ ?_
      rotate_left
      · intro w'
        go_simp
        with_reducible rfl
      rotate_left
      · simp only [Act.put, List.setIfInBounds_toArray, List.set_cons_zero, List.set_cons_succ, i64_w, i32_w]
        rfl
      refine pure_ (i := 3) (N := some 49) (v := ?_) (a' := ?_) #[true, true, true, true, false, false, false, false, false, false, false, false, false, false, false, false, false, false, false, false, false, false, false, false, false, false, false] rfl rfl (any_of HT_.out (by kernel_rfl)) (fun _ _ _ h => h) (Or.inl ⟨by rfl, ?_⟩) ?_ ?_
      rotate_left
      · intro w'
        go_simp
        with_reducible rfl
      rotate_left
      · simp only [Act.put, List.setIfInBounds_toArray, List.set_cons_zero, List.set_cons_succ, i64_w, i32_w]
        rfl
      refine pure_ (i := 4) (N := some 50) (v := ?_) (a' := ?_) #[true, true, true, true, true, false, false, false, false, false, false, false, false, false, false, false, false, false, false, false, false, false, false, false, false, false, false] rfl rfl (any_of HT_.out (by kernel_rfl)) (fun _ _ _ h => h) (Or.inl ⟨by rfl, ?_⟩) ?_ ?_
      rotate_left
      · intro w'
        go_simp
        with_reducible rfl
      rotate_left
      · simp only [Act.put, List.setIfInBounds_toArray, List.set_cons_zero, List.set_cons_succ, i64_w, i32_w]
        rfl
      refine pure_ (i := 5) (N := some 51) (v := ?_) (a' := ?_) #[true, true, true, true, true, true, false, false, false, false, false, false, false, false, false, false, false, false, false, false, false, false, false, false, false, false, false] rfl rfl (any_of HT_.out (by kernel_rfl)) (fun _ _ _ h => h) (Or.inl ⟨by rfl, ?_⟩) ?_ ?_
      rotate_left
      · intro w'
        go_simp
        with_reducible rfl
      rotate_left
      · simp only [Act.put, List.setIfInBounds_toArray, List.set_cons_zero, List.set_cons_succ, i64_w, i32_w]
        rfl
      refine pure_ (i := 6) (N := some 52) (v := ?_) (a' := ?_) #[true, true, true, true, true, true, true, false, false, false, false, false, false, false, false, false, false, false, false, false, false, false, false, false, false, false, false] rfl rfl (any_of HT_.out (by kernel_rfl)) (fun _ _ _ h => h) (Or.inl ⟨by rfl, ?_⟩) ?_ ?_
      rotate_left
      · intro w'
        go_simp
        with_reducible rfl
      rotate_left
      · simp only [Act.put, List.setIfInBounds_toArray, List.set_cons_zero, List.set_cons_succ, i64_w, i32_w]
        rfl
      refine pure_ (i := 7) (N := some 53) (v := ?_) (a' := ?_) #[true, true, true, true, true, true, true, true, false, false, false, false, false, false, false, false, false, false, false, false, false, false, false, false, false, false, false] rfl rfl (any_of HT_.out (by kernel_rfl)) (fun _ _ _ h => h) (Or.inl ⟨by rfl, ?_⟩) ?_ ?_
      rotate_left
      · intro w'
        go_simp
        with_reducible rfl
      rotate_left
      · simp only [Act.put, List.setIfInBounds_toArray, List.set_cons_zero, List.set_cons_succ, i64_w, i32_w]
        rfl
      refine pure_ (i := 8) (N := some 54) (v := ?_) (a' := ?_) #[true, true, true, true, true, true, true, true, true, false, false, false, false, false, false, false, false, false, false, false, false, false, false, false, false, false, false] rfl rfl (any_of HT_.out (by kernel_rfl)) (fun _ _ _ h => h) (Or.inl ⟨by rfl, ?_⟩) ?_ ?_
      rotate_left
      · intro w'
        go_simp
        with_reducible rfl
      rotate_left
      · simp only [Act.put, List.setIfInBounds_toArray, List.set_cons_zero, List.set_cons_succ, i64_w, i32_w]
        rfl
      refine pure_ (i := 9) (N := some 55) (v := ?_) (a' := ?_) #[true, true, true, true, true, true, true, true, true, true, false, false, false, false, false, false, false, false, false, false, false, false, false, false, false, false, false] rfl rfl (any_of HT_.out (by kernel_rfl)) (fun _ _ _ h => h) (Or.inl ⟨by rfl, ?_⟩) ?_ ?_
      rotate_left
      · intro w'
        go_simp
        with_reducible rfl
      rotate_left
      · simp only [Act.put, List.setIfInBounds_toArray, List.set_cons_zero, List.set_cons_succ, i64_w, i32_w]
        rfl
      refine take_ (i := 10) (N := some 56) (v := ?_) (a' := ?_) #[true, true, true, true, true, true, true, true, true, true, true, false, false, false, false, false, false, false, false, false, false, false, false, false, false, false, false] rfl rfl (take_ofW HT_.out HW_.out (by kernel_rfl)) (fun _ _ _ h => h) (Or.inl ⟨by rfl, ?_⟩) hHeld ?_ ?_
      rotate_left
      · intro w' hw'
        have hf0_ := Kd.C_string (c := c6) Try.underlying37 Try.underlying5 Try.underlying9 hw'.2.2.2.2.1
        go_simp
        with_reducible rfl
      rotate_left
      · simp only [Act.put, List.setIfInBounds_toArray, List.set_cons_zero, List.set_cons_succ, i64_w, i32_w]
        rfl
      refine pure_ (i := 11) (N := some 57) (v := ?_) (a' := ?_) #[true, true, true, true, true, true, true, true, true, true, true, true, false, false, false, false, false, false, false, false, false, false, false, false, false, false, false] rfl rfl (any_of HT_.out (by kernel_rfl)) (fun _ _ _ h => h) (Or.inl ⟨by rfl, ?_⟩) ?_ ?_
      rotate_left
      · intro w'
        go_simp
        with_reducible rfl
      rotate_left
      · simp only [Act.put, List.setIfInBounds_toArray, List.set_cons_zero, List.set_cons_succ, i64_w, i32_w]
        rfl
      refine take_ (i := 12) (N := some 58) (v := ?_) (a' := ?_) #[true, true, true, true, true, true, true, true, true, true, true, true, true, false, false, false, false, false, false, false, false, false, false, false, false, false, false] rfl rfl (take_ofW HT_.out HW_.out (by kernel_rfl)) (fun _ _ _ h => h) (Or.inl ⟨by rfl, ?_⟩) hHeld ?_ ?_
      rotate_left
      · intro w' hw'
        have hf0_ := Kd.C_string (c := c8) Try.underlying37 Try.underlying5 Try.underlying9 hw'.2.2.2.2.2.1
        go_simp
        with_reducible rfl
      rotate_left
      · simp only [Act.put, List.setIfInBounds_toArray, List.set_cons_zero, List.set_cons_succ, i64_w, i32_w]
        rfl
      refine pure_ (i := 13) (N := some 59) (v := ?_) (a' := ?_) #[true, true, true, true, true, true, true, true, true, true, true, true, true, true, false, false, false, false, false, false, false, false, false, false, false, false, false] rfl rfl (any_of HT_.out (by kernel_rfl)) (fun _ _ _ h => h) (Or.inl ⟨by rfl, ?_⟩) ?_ ?_
      rotate_left
      · intro w'
        go_simp
        with_reducible rfl
      rotate_left
      · simp only [Act.put, List.setIfInBounds_toArray, List.set_cons_zero, List.set_cons_succ, i64_w, i32_w]
        rfl
      refine pure_ (i := 14) (N := some 60) (v := ?_) (a' := ?_) #[true, true, true, true, true, true, true, true, true, true, true, true, true, true, true, false, false, false, false, false, false, false, false, false, false, false, false] rfl rfl (any_of HT_.out (by kernel_rfl)) (fun _ _ _ h => h) (Or.inl ⟨by rfl, ?_⟩) ?_ ?_
      rotate_left
      · intro w'
        go_simp
        with_reducible rfl
      rotate_left
      · simp only [Act.put, List.setIfInBounds_toArray, List.set_cons_zero, List.set_cons_succ, i64_w, i32_w]
        rfl
      refine pure_ (i := 15) (N := some 61) (v := ?_) (a' := ?_) #[true, true, true, true, true, true, true, true, true, true, true, true, true, true, true, true, false, false, false, false, false, false, false, false, false, false, false] rfl rfl (any_of HT_.out (by kernel_rfl)) (fun _ _ _ h => h) (Or.inl ⟨by rfl, ?_⟩) ?_ ?_
      rotate_left
      · intro w'
        go_simp
        with_reducible rfl
      rotate_left
      · simp only [Act.put, List.setIfInBounds_toArray, List.set_cons_zero, List.set_cons_succ, i64_w, i32_w]
        rfl
      refine take_ (i := 16) (N := some 62) (v := (.agg (nums .u8 lk).toArray)) (a' := ?_) #[true, true, true, true, true, true, true, true, true, true, true, true, true, true, true, true, true, false, false, false, false, false, false, false, false, false, false] rfl rfl (take_ofW HT_.out HW_.out (by kernel_rfl)) (fun _ _ _ h => h) (Or.inl ⟨by rfl, fun w' hw' => load_run rfl rfl (load_id hw'.2.2.1 HLK.out)⟩) hHeld ?_ ?_
      rotate_left
      · simp only [Act.put, List.setIfInBounds_toArray, List.set_cons_zero, List.set_cons_succ, i64_w, i32_w]
        rfl
      refine take_ (i := 17) (N := some 63) (v := (.agg (nums .u8 lk).toArray)) (a' := ?_) #[true, true, true, true, true, true, true, true, true, true, true, true, true, true, true, true, true, true, false, false, false, false, false, false, false, false, false] rfl rfl (take_ofW HT_.out HW_.out (by kernel_rfl)) (fun _ _ _ h => h) (Or.inl ⟨by rfl, fun w' hw' => load_run rfl rfl (load_id hw'.2.2.2.1 HLK.out)⟩) hHeld ?_ ?_
      rotate_left
      · simp only [Act.put, List.setIfInBounds_toArray, List.set_cons_zero, List.set_cons_succ, i64_w, i32_w]
        rfl
      refine pure_ (i := 18) (N := some 64) (v := (.bool false)) (a' := ?_) #[true, true, true, true, true, true, true, true, true, true, true, true, true, true, true, true, true, true, true, false, false, false, false, false, false, false, false] rfl rfl (any_of HT_.out (by kernel_rfl)) (fun _ _ _ h => h) (Or.inl ⟨by rfl, fun w' => id_neq_same rfl rfl rfl HLK.out⟩) ?_ ?_
      rotate_left
      · simp only [Act.put, List.setIfInBounds_toArray, List.set_cons_zero, List.set_cons_succ, i64_w, i32_w]
        rfl
      refine pure_ (i := 19) (N := some 65) (v := ?_) (a' := ?_) #[true, true, true, true, true, true, true, true, true, true, true, true, true, true, true, true, true, true, true, true, false, false, false, false, false, false, false] rfl rfl (any_of HT_.out (by kernel_rfl)) (fun _ _ _ h => h) (Or.inl ⟨by rfl, ?_⟩) ?_ ?_
      rotate_left
      · intro w'
        go_simp
        with_reducible rfl
      rotate_left
      · simp only [Act.put, List.setIfInBounds_toArray, List.set_cons_zero, List.set_cons_succ, i64_w, i32_w]
        rfl
      refine pure_ (i := 20) (N := some 66) (v := ?_) (a' := ?_) #[true, true, true, true, true, true, true, true, true, true, true, true, true, true, true, true, true, true, true, true, true, false, false, false, false, false, false] rfl rfl (any_of HT_.out (by kernel_rfl)) (fun _ _ _ h => h) (Or.inl ⟨by rfl, ?_⟩) ?_ ?_
      rotate_left
      · intro w'
        go_simp
        with_reducible rfl
      rotate_left
      · simp only [Act.put, List.setIfInBounds_toArray, List.set_cons_zero, List.set_cons_succ, i64_w, i32_w]
        rfl
      refine take_ (i := 21) (N := some 67) (v := (.agg (cellsOf x).toArray)) (a' := ?_) #[true, true, true, true, true, true, true, true, true, true, true, true, true, true, true, true, true, true, true, true, true, true, false, false, false, false, false] rfl rfl (take_ofW HT_.out HW_.out (by kernel_rfl)) (fun _ _ _ h => h) (Or.inl ⟨by rfl, fun w' hw' => load_run rfl rfl (load_it hw'.2.1 HOK.out)⟩) hHeld ?_ ?_
      rotate_left
      · simp only [Act.put, List.setIfInBounds_toArray, List.set_cons_zero, List.set_cons_succ, i64_w, i32_w]
        rfl
      refine take_ (i := 23) (N := some 69) (v := (.agg (cellsOf x).toArray)) (a' := ?_) #[true, true, true, true, true, true, true, true, true, true, true, true, true, true, true, true, true, true, true, true, true, true, false, true, false, false, false] rfl rfl (take_ofW HT_.out HW_.out (by kernel_rfl)) (fun _ _ _ h => h) (Or.inl ⟨by rfl, fun w' hw' => load_run rfl rfl (load_it hw'.2.1 HOK.out)⟩) hHeld ?_ ?_
      rotate_left
      · simp only [Act.put, List.setIfInBounds_toArray, List.set_cons_zero, List.set_cons_succ, i64_w, i32_w]
        rfl
      refine one_ (i := 22) (N := some 68) #[true, true, true, true, true, true, true, true, true, true, true, true, true, true, true, true, true, true, true, true, true, true, true, true, false, false, false] rfl rfl (one_of HT_.out (by kernel_rfl)) (by decide) (fun K hK => ?_)
      refine goes_ Try.func20 (by kernel_rfl) rfl #[.agg (cellsOf x).toArray] (by rfl) rfl rfl (by (try simp only [List.map_toArray, List.map_cons, List.map_nil]); first | done | rfl) ?_
      refine (may_calls x _ HOK.out).mono ?_
      rw [HMB.out]
      rintro ep w22 ⟨rfl, hb⟩; refine ⟨_, rfl, ?_⟩
      have HS1 := Aside0.mk (P2.step hHeld hb)
      clear hb
      refine hK.out _ _ (HS1.out) (fun hHeld => ?_)
      clear hK K
      refine norm_ (a' := ?_) ?_ ?_
      rotate_left
      · show Act.put _ (some 68) _ = _
        simp only [Act.put, List.setIfInBounds_toArray, List.set_cons_zero, List.set_cons_succ, i64_w, i32_w]
        rfl
      clear HS1
      refine one_ (i := 24) (N := some 70) #[true, true, true, true, true, true, true, true, true, true, true, true, true, true, true, true, true, true, true, true, true, true, true, true, true, false, false] rfl rfl (one_of HT_.out (by kernel_rfl)) (by decide) (fun K hK => ?_)
      refine goes_ Try.func21 (by kernel_rfl) rfl #[.agg (cellsOf x).toArray] (by rfl) rfl rfl (by (try simp only [List.map_toArray, List.map_cons, List.map_nil]); first | done | rfl) ?_
      refine (ref_may_calls x _ HOK.out).mono ?_
      rw [HMB.out]
      rintro ep w24 ⟨rfl, hb⟩; refine ⟨_, rfl, ?_⟩
      have HS1 := Aside0.mk (P2.step hHeld hb)
      clear hb
      refine hK.out _ _ (HS1.out) (fun hHeld => ?_)
      clear hK K
      refine norm_ (a' := ?_) ?_ ?_
      rotate_left
      · show Act.put _ (some 70) _ = _
        simp only [Act.put, List.setIfInBounds_toArray, List.set_cons_zero, List.set_cons_succ, i64_w, i32_w]
        rfl
      clear HS1
      refine pure_ (i := 25) (N := some 71) (v := ?_) (a' := ?_) #[true, true, true, true, true, true, true, true, true, true, true, true, true, true, true, true, true, true, true, true, true, true, true, true, true, true, false] rfl rfl (any_of HT_.out (by kernel_rfl)) (fun _ _ _ h => h) (Or.inl ⟨by rfl, ?_⟩) ?_ ?_
      rotate_left
      · intro w'
        go_simp
        with_reducible rfl
      rotate_left
      · simp only [Act.put, List.setIfInBounds_toArray, List.set_cons_zero, List.set_cons_succ, i64_w, i32_w]
        rfl
      refine pure_ (i := 26) (N := some 72) (v := ?_) (a' := ?_) #[true, true, true, true, true, true, true, true, true, true, true, true, true, true, true, true, true, true, true, true, true, true, true, true, true, true, true] rfl rfl (any_of HT_.out (by kernel_rfl)) (fun _ _ _ h => h) (Or.inl ⟨by rfl, ?_⟩) ?_ ?_
      rotate_left
      · intro w'
        go_simp
        with_reducible rfl
      rotate_left
      · simp only [Act.put, List.setIfInBounds_toArray, List.set_cons_zero, List.set_cons_succ, i64_w, i32_w]
        rfl
      refine done_ (done_of HT_.out (by kernel_rfl)) ?_
      clear HT_ HW_
      have HF := Aside0.mk (⟨hHeld.1, hHeld.2.1, hHeld.2.2.2.2.2.2.1, HSf.out.ne⟩ : P0 w w24 g2 g3 x hd)
      have HRR := Aside0.mk hHeld.2.2.2.2.2.2.2
      clear hHeld HSf HRf HS HIf
      go_wp2_with (((with_reducible refine (Tw.spoil_calls (.slice A6 bb.length c6) bb _ wr.heap.size (fun _ => True) HRR.out).mono ?_); rintro _ wz ⟨rfl, hgz⟩))
      have HZ := Aside0.mk (P0.mk (HF.out.below.grown hgz HF.out.below.size (fun k hk => Nat.le_trans HLa.out (own_base HRR.out.own k hk))) (blk_grown HF.out.ent hgz (Kd.R_ne HRR.out HF.out.ent (by decide))) (blk_grown HF.out.id hgz (Kd.R_ne HRR.out HF.out.id (by decide))) HF.out.ne : P0 w wz g2 g3 x hd)
      clear hgz HF HRR
      go_roundw
      case rel => exact ⟨n + 1, by omega, by go_num, HZ⟩
      case measure => simp [intOf]; omega
theorem entries_walk (x : Ent) (hd : List Int) (w : World) (hx : Wf x) (hh : hd.length = 32) (hby : By hd) :
    Calls Try.prog 4 #[.agg (cellsOf x).toArray, .agg (nums .u8 hd).toArray] w fun e w' => e = .returned (.bool true) ∧ Below w.heap.size w w' := entries_walk0 x hd w hx hh hby
end Go.Proofs.Ytgpgblidplmchaa.Le
