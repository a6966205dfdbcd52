/- The walk of the law AuditBack. -/
import Derived.Test.YtgpgblidplmchaaEk
import Derived.Great.BuildSlice
import Derived.OpenShut
import Derived.Test.YtgpgblidplmchaaIo
namespace Go.Proofs.Ytgpgblidplmchaa.Lb
open Go.RowKit Go.Proofs.YtgpgblidplmchaaW.PrintWords Go.Proofs.YtgpgblidplmchaaW.PrintLast Go.Proofs.YtgpgblidplmchaaW.PrintMore
open En Ag Spc OctA OctC Eb Eg Ep Et Eu Eh Ek
set_option linter.unusedVariables false
set_option linter.unusedSimpArgs false
set_option maxRecDepth 100000
theorem lit_fill {base : Array Value} (hb : base.size = 38) {x : Ent} (hok : Ok x) : Instr.fill (fun i => some (i * 38, 38)) base [(0, .agg (cellsOf x).toArray)] = some (cellsOf x).toArray := by
  rw [fill_one _ _ 0 _ _ 0 38 rfl (by show (cellsOf x).toArray.size = 38; exact cells_sz hok) (by omega)]
  simp only [Instr.fill]
  congr 1
  have h38 : (cellsOf x).length = 38 := cells_len hok
  have hd : base.toList.drop 38 = [] := List.drop_of_length_le (by simp [hb])
  simp [Value.cells, h38, hb]
theorem info27z : (Try.prog.info? 27).map (fun i => (i.zero, i.size)) = some (some (.agg (cellsOf ent0).toArray), 38) := by kernel_rfl
theorem op_lit1 {ops : Array Oper} {rest : List Oper} {o : Oper} {a : Act} {Q : Exit → Act → World → Prop} {W : World} (hgd : o.guard = none) (y : Operand) (ho : o.op = .buildSlice 22 1 #[(0, y)]) (x : Ent) (hok : Ok x) (hy : a.eval y = .agg (cellsOf x).toArray)
    (h : wpList Try.prog ops Q rest (a.put o.dst (.slice (some ⟨W.heap.size, 0, none⟩) 1 1)) (W.alloc (.cells (cellsOf x).toArray 27))) : wpList Try.prog ops Q (o :: rest) a W := by
  obtain ⟨ie, hi, hz⟩ := Option.map_eq_some_iff.1 info27z
  simp only [Prod.mk.injEq] at hz
  refine wpList_buildSlice hgd 22 27 1 #[(0, y)] ho (cellsOf x).toArray ie _ Try.underlying22 hi hz.1 (by rw [hz.2]; decide) (by rw [hz.2]; decide) ?_ h
  rw [hz.2, Array.toList_map]
  show Instr.fill _ _ [(0, a.eval y)] = _
  rw [hy]
  exact lit_fill (by simp) hok
theorem ce_lit (W : World) {x : Ent} (hok : Ok x) : CE (W.alloc (.cells (cellsOf x).toArray 27)) (some ⟨W.heap.size, 0, none⟩) [x] := by
  refine ⟨rfl, by simp, fun _ => ⟨_, rfl, fun j p hj => ?_⟩⟩
  have hj0 : j = 0 := by
    rcases Nat.eq_zero_or_pos j with h | h
    · exact h
    · rw [List.getElem?_eq_none (by simp; omega)] at hj; cases hj
  subst hj0
  obtain rfl : x = p := by simpa using hj
  refine ⟨cellsOf x, cells_len hok, ⟨rfl, hok⟩, fun i u hu => ?_⟩
  have e : (⟨W.heap.size, 0, none⟩ : Addr).add (0 * kd.sz + i) = ⟨W.heap.size, i, none⟩ := by
    rw [Nat.zero_mul, Nat.zero_add]
    unfold Addr.add
    by_cases h0 : i = 0
    · subst h0; rfl
    · simp [h0]
  rw [e, blk_cell (heap_alloc_new W _)]
  simpa using hu
theorem place_ok (k : Int) (n : Nat) (hn : 0 < n) (h1 : n ≤ 1000000) : ∃ j : Nat, j < n ∧ POct.cofferlaw0_Place.f k n = some (j : Int) := by
  have hb1 : Int.tmod k n < n := Int.tmod_lt_of_pos k (by omega)
  have hb0 : -(n : Int) < Int.tmod k n := by
    have := Int.lt_tmod_of_pos k (b := (n : Int)) (by omega)
    exact this
  unfold POct.cofferlaw0_Place.f
  rw [if_neg (by omega), if_neg (by omega)]
  by_cases h : Int.tmod k n < 0
  · rw [if_pos h]
    refine ⟨(Int.tmod k n + n).toNat, by omega, ?_⟩
    rw [w64_id (by omega) (by omega)]
    congr 1; omega
  · rw [if_neg h]
    refine ⟨(Int.tmod k n).toNat, by omega, ?_⟩
    congr 1; omega
set_option maxHeartbeats 6400000 in
theorem back_walk0 (x : Ent) (A : Option Addr) (c : Nat) (rest : List Int) (cut : Int) (w : World) (hx : Wf x) (hr : CB w A rest) (hc : rest.length ≤ c) (hby : ∀ y ∈ rest, 0 ≤ y ∧ y < 256) :
    Calls Try.prog 6 #[.agg (cellsOf x).toArray, .slice A rest.length c, .int .i64 cut] w fun e w' => e = .returned (.bool true) ∧ Below w.heap.size w w' := by
  have HR := Aside0.mk hr; have HC := Aside0.mk hc
  have hok := hx.1
  have HB0 := Aside0.mk ((Below.refl w.heap.size w).alloc (Nat.le_refl _) (.cells (cellsOf x).toArray 27))
  have HG0 := Aside0.mk (show It (w.alloc (.cells (cellsOf x).toArray 27)) w.heap.size x from heap_alloc_new w _)
  have HLI := Aside0.mk (fun W => light_calls (some ⟨W.heap.size, 0, none⟩) 1 [x] 1 _ (ce_lit W hok) (by simp))
  have HMY := Aside0.mk (fun W => may_calls x W hok)
  have HX := Aside0.mk hx; have HBY := Aside0.mk hby
  obtain ⟨lb, hlb⟩ : ∃ lb, lightB [x] 1 = lb := ⟨_, rfl⟩
  rw [hlb] at HLI
  clear hr hc hx hby hlb
  cases lb with
  | false =>
    go_enter Try.func6, Try.ntmps6
    go_wp2_with fail
    refine (begun_calls _).mono ?_
    rintro e1 w1 ⟨rfl, hb1⟩
    have HB1 := Aside0.mk (below_step HB0.out hb1)
    have HG1 := Aside0.mk (show It w1 w.heap.size x from (hb1.block _ (blk_lt HG0.out)).trans HG0.out)
    have HBl := Aside0.mk (HB1.out.alloc HB1.out.size (.cells (cellsOf x).toArray 27))
    clear hb1
    go_wp2_with (first | (refine op_load rfl 27 (.tmp 3) rfl w.heap.size rfl 27 (cellsOf x).toArray _ HG1.out Try.underlying27 rfl 38 info27 (cells_sz hok) ?_) | (refine op_lit1 rfl (.tmp 18) rfl x hok rfl ?_))
    refine (HLI.out w1).mono ?_
    rintro e2 w2 ⟨rfl, hb2⟩
    have HB2 := Aside0.mk (below_step HBl.out hb2)
    go_wp2_with fail
    go_ret
    exact ⟨rfl, HB2.out⟩
  | true =>
    obtain ⟨mb, hmb⟩ : ∃ mb, mayE x = mb := ⟨_, rfl⟩
    rw [hmb] at HMY
    cases mb with
    | false =>
      clear hmb
      go_enter Try.func6, Try.ntmps6
      go_wp2_with fail
      refine (begun_calls _).mono ?_
      rintro e1 w1 ⟨rfl, hb1⟩
      have HB1 := Aside0.mk (below_step HB0.out hb1)
      have HG1 := Aside0.mk (show It w1 w.heap.size x from (hb1.block _ (blk_lt HG0.out)).trans HG0.out)
      have HBl := Aside0.mk (HB1.out.alloc HB1.out.size (.cells (cellsOf x).toArray 27))
      have HGl := Aside0.mk (show It (w1.alloc (.cells (cellsOf x).toArray 27)) w.heap.size x from (((Below.refl w1.heap.size w1).alloc (Nat.le_refl _) _).block _ (blk_lt HG1.out)).trans HG1.out)
      clear hb1
      go_wp2_with (first | (refine op_load rfl 27 (.tmp 3) rfl w.heap.size rfl 27 (cellsOf x).toArray _ HG1.out Try.underlying27 rfl 38 info27 (cells_sz hok) ?_) | (refine op_lit1 rfl (.tmp 18) rfl x hok rfl ?_))
      refine (HLI.out w1).mono ?_
      rintro e2 w2 ⟨rfl, hb2⟩
      have HB2 := Aside0.mk (below_step HBl.out hb2)
      have HG2 := Aside0.mk (show It w2 w.heap.size x from (hb2.block _ (blk_lt HGl.out)).trans HGl.out)
      clear hb2
      go_wp2_with (first | (refine event_on rfl (load_run (x := .tmp 3) rfl rfl (load_it HG2.out hok)) ?_))
      refine (HMY.out _).mono ?_
      rintro e3 w3 ⟨rfl, hb3⟩
      have HB3 := Aside0.mk (below_step HB2.out hb3)
      go_wp2_with fail
      go_ret
      exact ⟨rfl, HB3.out⟩
    | true =>
      by_cases hlr : rest.length ≤ 1024
      · have dl : decide (1024 < (rest.length : Int)) = false := decide_eq_false (by omega)
        have hlen := bytesE_len hok
        have hbb := bytesE_byte HX.out hmb
        have hten := (may_parts hmb).2.2.2.2.2.2
        have HBS := Aside0.mk (fun W => bytes_yes x W HX.out hmb)
        have t1 := take_whole HX.out hmb rest
        have t2 := fun k hk => take_cut HX.out hmb k hk
        obtain ⟨bb, hb⟩ : ∃ bb, Aside0 (bb = bytesE x) := ⟨_, ⟨rfl⟩⟩
        rw [← hb.out] at HBS t1 t2 hlen hbb
        obtain ⟨k, hk, hpl⟩ := place_ok cut bb.length (by omega) (by omega)
        have HLN := Aside0.mk (show bb.length ≤ 100 by omega)
        have HT1 := Aside0.mk (fun A c W h hc => take_calls A c (bb ++ rest) W h hc (by rw [List.length_append]; omega) (fun y hy => by rcases List.mem_append.1 hy with h | h; exact hbb y h; exact HBY.out y h))
        rw [t1] at HT1
        have HT2 := Aside0.mk (fun A c W h hc => take_calls A c (bb.take k) W h hc (by rw [List.length_take]; omega) (fun y hy => hbb y (List.mem_of_mem_take hy)))
        rw [t2 k hk] at HT2
        have HPL := Aside0.mk hpl; have HK := Aside0.mk hk; have HLR := Aside0.mk hlr
        have HE := Aside0.mk ((eqE_iff x x).2 rfl)
        clear hmb hlen hbb hten t1 t2 hb hk hpl hlr
        go_enter Try.func6, Try.ntmps6
        go_wp2_with fail
        refine (begun_calls _).mono ?_
        rintro e1 w1 ⟨rfl, hb1⟩
        have HB1 := Aside0.mk (below_step HB0.out hb1)
        have HG1 := Aside0.mk (show It w1 w.heap.size x from (hb1.block _ (blk_lt HG0.out)).trans HG0.out)
        have HBl := Aside0.mk (HB1.out.alloc HB1.out.size (.cells (cellsOf x).toArray 27))
        have HGl := Aside0.mk (show It (w1.alloc (.cells (cellsOf x).toArray 27)) w.heap.size x from (((Below.refl w1.heap.size w1).alloc (Nat.le_refl _) _).block _ (blk_lt HG1.out)).trans HG1.out)
        clear hb1
        go_wp2_with (first | (refine op_load rfl 27 (.tmp 3) rfl w.heap.size rfl 27 (cellsOf x).toArray _ HG1.out Try.underlying27 rfl 38 info27 (cells_sz hok) ?_) | (refine op_lit1 rfl (.tmp 18) rfl x hok rfl ?_))
        refine (HLI.out w1).mono ?_
        rintro e2 w2 ⟨rfl, hb2⟩
        have HB2 := Aside0.mk (below_step HBl.out hb2)
        have HG2 := Aside0.mk (show It w2 w.heap.size x from (hb2.block _ (blk_lt HGl.out)).trans HGl.out)
        clear hb2 HBl HGl HB1 HG1 HB0 HG0
        go_wp2_with (first | (refine event_on rfl (load_run (x := .tmp 3) rfl rfl (load_it HG2.out hok)) ?_))
        refine (HMY.out _).mono ?_
        rintro e3 w3 ⟨rfl, hb3⟩
        have HB3 := Aside0.mk (below_step HB2.out hb3)
        have HG3 := Aside0.mk (show It w3 w.heap.size x from (hb3.block _ (blk_lt HG2.out)).trans HG2.out)
        clear hb3 HB2 HG2
        go_wp2_with (first | (refine op_load rfl 27 (.tmp 3) rfl w.heap.size rfl 27 (cellsOf x).toArray _ HG3.out Try.underlying27 rfl 38 info27 (cells_sz hok) ?_))
        refine (HBS.out _).mono ?_
        rintro e4 w4 ⟨v4, rfl, ho4, hb4⟩
        obtain ⟨A4, c4, rfl, hc4, hC4⟩ := Kd.R_reads ho4
        have HB4 := Aside0.mk (below_step HB3.out hb4)
        have HG4 := Aside0.mk (show It w4 w.heap.size x from (hb4.block _ (blk_lt HG3.out)).trans HG3.out)
        have HC4 := Aside0.mk hC4; have Hc4 := Aside0.mk hc4
        clear hb4 HB3 HG3 ho4 hC4 hc4
        have hL6 := Aside0.mk (lit_row w4 w4.heap.size [] (Nat.le_refl _) (by simp))
        have hB6 := Aside0.mk ((Below.refl w4.heap.size w4).alloc (Nat.le_refl _) (.cells (nums .u8 []).toArray 5))
        have HC6b := Aside0.mk (Kd.C_below HC4.out hB6.out)
        go_wp2_with (first | (at_builtin; refine app_row (w0 := w4) w4.heap.size rfl (.tmp 40) (.tmp 41) 37 rfl Try.underlying37 POct.info5 _ [] bb A4 c4 rfl rfl hL6.out HC6b.out hB6.out hB6.out.size (by have := HLN.out; simp; omega) ?_; intro z1 B1 d1 w7 hz1 hd1 ho1 HB7; clear hL6 hB6 HC6b; have HR7 := Aside0.mk (Kd.C_below HR.out (below_step HB4.out HB7.out))) | (at_builtin; refine app_row (w0 := w4) w4.heap.size rfl (.tmp 42) (.tmp 43) 37 rfl Try.underlying37 POct.info5 _ z1 rest A c rfl rfl ho1.out HR7.out HB7.out HB7.out.size (by rw [hz1.out]; have := HLN.out; have := HLR.out; simp; omega) ?_; intro z2 B2 d2 w8 hz2 hd2 ho2 HB8; clear ho1 HB7 HR7))
        have hz : Aside0 (z2 = bb ++ rest) := ⟨by rw [hz2.out, hz1.out]; rfl⟩
        rw [← hz.out] at HT1
        have HC8 := Aside0.mk (Kd.R_reads' ho2.out).2.2
        have HB9 := Aside0.mk (below_step HB4.out HB8.out)
        have HG8 := Aside0.mk (show It w8 w.heap.size x from (HB8.out.block _ (blk_lt HG4.out)).trans HG4.out)
        have HC48 := Aside0.mk (Kd.C_below HC4.out HB8.out)
        clear hz1 hz2 hd1 ho2 HC4 HB4 HB8 HG4 hz
        refine (HT1.out B2 d2 w8 HC8.out hd2.out).mono ?_
        rintro e9 w9 ⟨rfl, hb9⟩
        have HB10 := Aside0.mk (below_step HB9.out hb9)
        have HG9 := Aside0.mk (show It w9 w.heap.size x from (hb9.block _ (blk_lt HG8.out)).trans HG8.out)
        have HC49 := Aside0.mk (Kd.C_below HC48.out hb9)
        clear hb9 HB9 HC8 HG8 HC48
        have HBa := Aside0.mk (HB10.out.alloc HB10.out.size (.cells (cellsOf ent0).toArray 27))
        have hga := Aside0.mk (heap_alloc_new w9 (.cells (cellsOf ent0).toArray 27))
        go_wp2_with (first | (with_reducible refine op_alloc rfl 27 rfl _ zero27 ?_) | (with_reducible refine op_store (w0 := w) w.heap.size rfl 27 (.tmp 10) (.tmp 46) rfl w9.heap.size (cellsOf x).toArray rfl rfl 27 (cellsOf ent0).toArray hga.out 38 info27 (cells_sz hok) (cells_sz ok0) (cells_all _) HBa.out HB10.out.size ?_; intro w10 hg10 hw10 HB11))
        have hb10 := below_new hw10.out
        have HG10 := Aside0.mk (show It w10 w.heap.size x from (hb10.block _ (blk_lt HG9.out)).trans HG9.out)
        have HC10 := Aside0.mk (Kd.C_below HC49.out hb10)
        obtain ⟨g10, hg10e⟩ : ∃ g10, Aside0 (g10 = w9.heap.size) := ⟨_, ⟨rfl⟩⟩
        rw [← hg10e.out] at hg10 ⊢
        clear hga HBa HC49 HG9 hw10 hb10 hg10e HB10
        refine (POct.cofferlaw0_Place.calls cut bb.length k w10 HPL.out).mono ?_
        rintro e11 w11 ⟨rfl, hd11⟩
        have hb11 := hd11.below
        have HB12 := Aside0.mk (below_step HB11.out hb11)
        have HG11 := Aside0.mk (show It w11 w.heap.size x from (hb11.block _ (blk_lt HG10.out)).trans HG10.out)
        have HX11 := Aside0.mk (show It w11 g10 x from (hb11.block _ (blk_lt hg10.out)).trans hg10.out)
        have HC11 := Aside0.mk (Kd.C_below HC10.out hb11)
        clear hb11 hd11 HB11 HG10 hg10 HC10
        obtain ⟨ys, hys, hyl, hyc, hcut, hyC⟩ := cut_take (P := Try.prog) 37 Try.underlying37 POct.info5 A4 c4 bb (k : Int) (by omega) (by have := HK.out; omega) Hc4.out
        have hys2 : ys = bb.take k := by rw [hys]; rfl
        have HCy := Aside0.mk (hyC w11 HC11.out); have Hyc := Aside0.mk hyc
        rw [← hys2] at HT2
        clear hys hyC hys2 hyc hyl
        go_wp2_with fail
        refine (HT2.out A4 c4 w11 HCy.out Hyc.out).mono ?_
        rintro e12 w12 ⟨rfl, hb12⟩
        have HB13 := Aside0.mk (below_step HB12.out hb12)
        have HG12 := Aside0.mk (show It w12 w.heap.size x from (hb12.block _ (blk_lt HG11.out)).trans HG11.out)
        have HX12 := Aside0.mk (show It w12 g10 x from (hb12.block _ (blk_lt HX11.out)).trans HX11.out)
        clear hb12 HB12 HG11 HX11 HCy HC11 hcut
        have HBa := Aside0.mk (HB13.out.alloc HB13.out.size (.cells (cellsOf ent0).toArray 27))
        have hga := Aside0.mk (heap_alloc_new w12 (.cells (cellsOf ent0).toArray 27))
        go_wp2_with (first | (with_reducible refine op_alloc rfl 27 rfl _ zero27 ?_) | (refine op_store (w0 := w) w.heap.size rfl 27 (.tmp 13) (.tmp 56) rfl w12.heap.size (cellsOf ent0).toArray rfl rfl 27 (cellsOf ent0).toArray hga.out 38 info27 (cells_sz ok0) (cells_sz ok0) (cells_all _) HBa.out HB13.out.size ?_; intro w13 hg13 hw13 HB14; have hb13 := below_new hw13.out; have HG13 := Aside0.mk (show It w13 w.heap.size x from (hb13.block _ (blk_lt HG12.out)).trans HG12.out); have HX13 := Aside0.mk (show It w13 g10 x from (hb13.block _ (blk_lt HX12.out)).trans HX12.out); clear hb13 hw13 hga HBa HG12 HX12 hg13) | (refine event_on rfl (load_run (x := .tmp 10) rfl rfl (load_it HX13.out hok)) ?_) | (refine event_on rfl (load_run (x := .tmp 3) rfl rfl (load_it HG13.out hok)) ?_) | (refine event_on rfl (ent_eql (x := .tmp 70) (y := .tmp 71) (p := x) (q := x) rfl rfl rfl hok hok) ?_; rw [HE.out]))
        go_ret
        exact ⟨rfl, HB14.out⟩
      · have dl : decide (1024 < (rest.length : Int)) = true := decide_eq_true (by omega)
        clear hmb
        go_enter Try.func6, Try.ntmps6
        go_wp2_with fail
        refine (begun_calls _).mono ?_
        rintro e1 w1 ⟨rfl, hb1⟩
        have HB1 := Aside0.mk (below_step HB0.out hb1)
        have HG1 := Aside0.mk (show It w1 w.heap.size x from (hb1.block _ (blk_lt HG0.out)).trans HG0.out)
        have HBl := Aside0.mk (HB1.out.alloc HB1.out.size (.cells (cellsOf x).toArray 27))
        have HGl := Aside0.mk (show It (w1.alloc (.cells (cellsOf x).toArray 27)) w.heap.size x from (((Below.refl w1.heap.size w1).alloc (Nat.le_refl _) _).block _ (blk_lt HG1.out)).trans HG1.out)
        clear hb1
        go_wp2_with (first | (refine op_load rfl 27 (.tmp 3) rfl w.heap.size rfl 27 (cellsOf x).toArray _ HG1.out Try.underlying27 rfl 38 info27 (cells_sz hok) ?_) | (refine op_lit1 rfl (.tmp 18) rfl x hok rfl ?_))
        refine (HLI.out w1).mono ?_
        rintro e2 w2 ⟨rfl, hb2⟩
        have HB2 := Aside0.mk (below_step HBl.out hb2)
        have HG2 := Aside0.mk (show It w2 w.heap.size x from (hb2.block _ (blk_lt HGl.out)).trans HGl.out)
        clear hb2
        go_wp2_with (first | (refine event_on rfl (load_run (x := .tmp 3) rfl rfl (load_it HG2.out hok)) ?_))
        refine (HMY.out _).mono ?_
        rintro e3 w3 ⟨rfl, hb3⟩
        have HB3 := Aside0.mk (below_step HB2.out hb3)
        go_wp2_with fail
        go_ret
        exact ⟨rfl, HB3.out⟩
theorem back_walk (x : Ent) (a1 : Option Addr) (len1 cap1 : Nat) (z1 : List Int) (cut : Int) (w : World) (wa : Wf x)
    (w1 : (a1 = none ∧ len1 = 0 ∧ cap1 = 0 ∧ z1 = []) ∨ ∃ x, a1 = some x ∧ len1 ≤ cap1 ∧ cap1 ≤ maxLen ∧ z1.length = cap1 ∧ (∀ i, i < z1.length → w.cell? (x.add i) = some (.int .u8 (z1.getD i 0))) ∧ ∀ n ∈ z1, (Lit.int .u8 n).wf = true)
    (y1 : len1 * 1 ≤ 140737488351232) (_ : (Lit.int .i64 cut).wf = true) :
    Calls Try.prog 6 #[.agg (cellsOf x).toArray, .slice a1 len1 cap1, .int .i64 cut] w fun e w' => e = .returned (.bool true) ∧ Below w.heap.size w w' := by
  obtain ⟨l0, rfl, hr0, hm0, hw0, hc0⟩ := ReadsInt.ofRowC w1
  exact back_walk0 x a1 cap1 l0 cut w wa (Kd.C_of_reads (d := (0 : Int)) (h1 := fun _ => rfl) hr0) hc0 (fun x hx => by have := bounds_u8 (hw0 x hx); omega)
end Go.Proofs.Ytgpgblidplmchaa.Lb
