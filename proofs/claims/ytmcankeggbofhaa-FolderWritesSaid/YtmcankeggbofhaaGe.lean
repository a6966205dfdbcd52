/- Which bytes are a folder: the walk of the document's Take. What the document's Take answers; two lists of items, the same. Items, lists of items: told equal. A list of items that comes in, opened. -/
import Derived.Test.YtmcankeggbofhaaGd
import Derived.Test.YtmcankeggbofhaaOc
import Derived.Test.YtmcankeggbofhaaWEqStruct
import Derived.OpenShut
import Derived.ChangeArms
import Derived.Deep.Strs
import Derived.WideShapes
namespace Go.Proofs.Ytmcankeggbofhaa.Ru
open Go.RowKit Go.Proofs.YtmcankeggbofhaaW.PrintWords Go.Proofs.YtmcankeggbofhaaW.PrintLast Go.Proofs.YtmcankeggbofhaaW.PrintMore
open It Nm Ag My Spc By Im Iw Ip Tk Tl Tg OctC OctD Fp Fq Rt RefB
set_option linter.unusedVariables false
set_option linter.unusedSimpArgs false
set_option maxRecDepth 100000
theorem last_of {b : List Int} {o : Option (List Itm × List Int)} (h : o = none) : refLast b o = none := by rw [h]; rfl
theorem parse_short (b : List Int) (h : b.length ≤ 1) : parse b = none := by
  cases b with
  | nil => rfl
  | cons c r =>
    cases r with
    | nil => rfl
    | cons _ _ => simp at h
theorem takeT_err (r : List Int) (h : (OctD.takeT r).2.2 ≠ 0) : (OctD.takeT r).2.1 = 0 := by
  unfold OctD.takeT at h ⊢
  by_cases h0 : (OctC.take 0 0 r).2.2 = 0
  · rw [if_pos h0] at h ⊢
    by_cases h1 : (OctC.take 0 0 r).1 > 65536
    · rw [if_pos h1]
    rw [if_neg h1] at h ⊢
    by_cases h2 : (r.length : Int) - (OctC.take 0 0 r).2.1 < (OctC.take 0 0 r).1
    · rw [if_pos h2]
    rw [if_neg h2] at h
    simp at h
  · rw [if_neg h0]
theorem parse_text (c0 : Int) (r : List Int) (h : (OctD.takeT r).2.2 ≠ 0) : parse (c0 :: r) = none := by
  simp only [parse]
  rw [if_pos h]
theorem parse_few (c0 : Int) (r lb : List Int) (m : Nat) (ht : OctD.takeT r = (lb, (m : Int), 0)) (h : (r.drop m).length < 32) : parse (c0 :: r) = none := by
  simp only [parse, ht]
  rw [if_neg (by simp), Int.toNat_natCast, if_pos h]
theorem parse_count (c0 : Int) (r lb : List Int) (m : Nat) (ht : OctD.takeT r = (lb, (m : Int), 0)) (h : ¬ (r.drop m).length < 32) (nv nk ne : Int) (hk : OctC.take 0 0 ((r.drop m).drop 32) = (nv, nk, ne)) (hb : ne ≠ 0 ∨ 9223372036854775807 < nv) : parse (c0 :: r) = none := by
  simp only [parse, ht]
  rw [if_neg (by simp), Int.toNat_natCast, if_neg h, hk]
  simp only
  rw [if_pos hb]
theorem parse_all (c0 : Int) (r lb : List Int) (m : Nat) (ht : OctD.takeT r = (lb, (m : Int), 0)) (h : ¬ (r.drop m).length < 32) (nv : Int) (mk : Nat) (hk : OctC.take 0 0 ((r.drop m).drop 32) = (nv, (mk : Int), 0)) (hb : ¬ 9223372036854775807 < nv) : parse (c0 :: r) = some (⟨strOfNums lb, c0, (r.drop m).take 32, nv⟩, ((r.drop m).drop 32).drop mk) := by
  simp only [parse, ht]
  rw [if_neg (by simp), Int.toNat_natCast, if_neg h, hk]
  simp only
  rw [if_neg (by rintro (h1 | h1); exact h1 rfl; exact hb h1), Int.toNat_natCast]
theorem cb_cell {w : World} {ad : Addr} {xs : List Int} (h : CB w (some ad) xs) : ∀ j v, (nums .u8 xs)[j]? = some v → w.cell? (ad.add j) = some v := by
  intro j v hj
  have hp : 0 < xs.length := by
    rcases Nat.eq_zero_or_pos xs.length with h0 | h0
    · have := List.eq_nil_of_length_eq_zero h0
      subst this
      simp [nums] at hj
    · exact h0
  obtain ⟨ad', e, hc⟩ := CB.cells h hp
  cases e
  exact hc j v hj
theorem builtk (c0 : Int) : Try.prog.built 28 [(1, .int .i64 c0)] = some (cellsOf { item0 with kind := c0 }).toArray := by kernel_rfl
theorem str_ne {x y : List Int} (hx : ∀ a ∈ x, 0 ≤ a ∧ a < 256) (hy : ∀ a ∈ y, 0 ≤ a ∧ a < 256) (h : x ≠ y) : ((strOfNums x).toList == (strOfNums y).toList) = false := by
  rw [beq_eq_false_iff_ne, ByteArray.toList_eq, ByteArray.toList_eq, strOfNums_data, strOfNums_data]
  intro he
  apply h
  have h1 := bytesOf_str x hx
  have h2 := bytesOf_str y hy
  unfold bytesOf at h1 h2
  rw [strOfNums_data] at h1 h2
  rw [← h1, ← h2, he]
def rt15T : Bool × List (List Nat × List Nat) := (true, [([], []), ([0], [0]), ([], []), ([], []), ([], []), ([4], [4]), ([2, 3, 5], [2, 3, 5]), ([6], [6]), ([7], [7]), ([0, 1], []), ([9, 1, 0, 1], [1, 9]), ([0, 1, 2, 3, 4, 5, 6, 7, 8, 9, 10], []), ([11, 8, 10, 0, 1, 2, 3, 4, 5, 6, 7, 8, 9, 10], [8, 11])])
def rt15B : List Nat := [0, 1, 0, 0, 0, 16, 60, 124, 252, 3, 515, 2047, 4095]
theorem rt15tab : rtab .any (opsOf Try.f21 15) = rt15T := by kernel_rfl
theorem rt15bits : waitsOk rt15T.2 rt15B = true := by kernel_rfl
set_option maxHeartbeats 25600000 in
theorem ref_take_go (ad : Addr) (c : Nat) (b : List Int) (w : World) (hr : CB w (some ad) b) (hc : b.length ≤ c) (hl : b.length ≤ 8192) (hby : ∀ x ∈ b, 0 ≤ x ∧ x < 256) (N : Nat) (hh : refHead b) (hN : b.getD 2 0 = N) (out : Option (List Itm)) (hout : out = refLast b (parseN N (b.drop 3))) :
    Calls Try.prog 21 #[.slice (some ad) b.length c] w fun e w' => ∃ v, e = .returned (.tuple #[v, .int .i64 (codeT out)]) ∧ RI w' w.heap.size v (listT out) ∧ Below w.heap.size w w' := by
  obtain ⟨h3, h0, h1, h2⟩ := hh
  have hN64 : N ≤ 64 := by omega
  have HR := Aside0.mk hr; have HC := Aside0.mk hc; have HBY := Aside0.mk hby; have HOUT := Aside0.mk hout
  have HCL := Aside0.mk (fun W (h : CB W (some ad) b) => cb_cell h)
  have g0 : (nums .u8 b)[0]? = some (.int .u8 68) := by
    have : b[0]? = some 68 := by rw [List.getElem?_eq_getElem (by omega)]; rw [List.getD_eq_getElem?_getD, List.getElem?_eq_getElem (by omega)] at h0; rw [← h0]; rfl
    simp [nums, this]
  have g1 : (nums .u8 b)[1]? = some (.int .u8 49) := by
    have : b[1]? = some 49 := by rw [List.getElem?_eq_getElem (by omega)]; rw [List.getD_eq_getElem?_getD, List.getElem?_eq_getElem (by omega)] at h1; rw [← h1]; rfl
    simp [nums, this]
  have g2 : (nums .u8 b)[2]? = some (.int .u8 N) := by
    have : b[2]? = some (N : Int) := by rw [List.getElem?_eq_getElem (by omega)]; rw [List.getD_eq_getElem?_getD, List.getElem?_eq_getElem (by omega)] at hN; rw [← hN]; rfl
    simp [nums, this]
  have HG2 := Aside0.mk g2
  have k0 : w.cell? ad = some (.int .u8 68) := cb_cell hr 0 _ g0
  have k1 : w.cell? { block := ad.block, off := ad.off + 1 } = some (.int .u8 49) := cb_cell hr 1 _ g1
  have k2 : w.cell? { block := ad.block, off := ad.off + 2 } = some (.int .u8 N) := cb_cell hr 2 _ g2
  have d1 : decide ((b.length : Int) < 3) = false := decide_eq_false (by omega)
  have d2 : decide (64 < (N : Int)) = false := decide_eq_false (by omega)
  have hwN : IntKind.i64.wrap (N : Int) = (N : Int) := by rw [IntKind.wrap_i64]; omega
  have HU := Aside0.mk (show Upto N (b.drop 3) 0 [] (b.drop 3) from ⟨rfl, by omega, by simp, by simp⟩)
  have NIL := Aside0.mk (fun w' : World => (Kd.R_nil kd 28 w' w.heap.size (fun _ => True)))
  clear hr hc hby hout h0 h1 h2 hN g0 g1 g2
  go_enter Try.func21, Try.ntmps21
  go_wp2_with fail
  go_loopw [4, 5, 6] (fun vl va vj wr => ∃ (j : Nat) (acc : List Itm) (a : Nat), j ≤ N ∧ vj = .int .i64 j ∧ va = .int .i64 a ∧ 3 ≤ a ∧ a ≤ b.length ∧ Aside0 (Upto N (b.drop 3) j acc (b.drop a)) ∧ Aside0 (RI wr w.heap.size vl acc) ∧ Aside0 (Below w.heap.size w wr)) (fun _ _ vj _ => N - (intOf vj).toNat)
  case atStart => exact ⟨0, [], 3, by omega, rfl, rfl, by omega, h3, HU, ⟨NIL.out _⟩, ⟨Below.refl _ _⟩⟩
  case round =>
    obtain ⟨j, acc, a, hj, rfl, rfl, ha3, hal, HUj, HOj, HBj⟩ := hrel
    have kN : wr.cell? { block := ad.block, off := ad.off + 2 } = some (.int .u8 N) := HCL.out wr (Kd.C_below HR.out HBj.out) 2 _ HG2.out
    by_cases hlt : j < N
    · have dj : decide ((j : Int) < N) = true := decide_eq_true (by omega)
      have HRr := Aside0.mk (Kd.C_below HR.out HBj.out)
      by_cases hs8 : b.length < a + 2
      · skip
        have d8 : decide ((b.length : Int) < (a : Int) + 2) = true := decide_eq_true (by omega)
        have hno := Aside0.mk (show out = none by rw [HOUT.out]; exact last_of (upto_none HUj.out hlt (parse_short _ (by simp; omega))))
        go_wp2_with fail
        go_ret2
        exact ⟨_, by rw [hno.out]; rfl, by rw [hno.out]; exact NIL.out _, HBj.out⟩
      · skip
        have d8 : decide ((b.length : Int) < (a : Int) + 2) = false := decide_eq_false (by omega)
        obtain ⟨c0, r, hbr⟩ : ∃ c0 r, b.drop a = c0 :: r := by
                  cases hq : b.drop a with
                  | nil => have := congrArg List.length hq; simp at this; omega
                  | cons c0 r => exact ⟨c0, r, rfl⟩
        have hr1 : b.drop (a + 1) = r := by rw [← List.drop_drop, hbr]; rfl
        have hrl : (r.length : Int) = b.length - a - 1 := by have := congrArg List.length hbr; simp at this; omega
        have hc0 : 0 ≤ c0 ∧ c0 < 256 := HBY.out c0 (List.mem_of_mem_drop (by rw [hbr]; simp))
        have hbr' : ∀ x ∈ r, 0 ≤ x ∧ x < 256 := fun x hx => HBY.out x (List.mem_of_mem_drop (by rw [hbr]; simp [hx]))
        have hba : b[a]? = some c0 := by
                  have := congrArg (fun l => l[0]?) hbr
                  simpa using this
        have kca : wr.cell? (ad.add a) = some (.int .u8 c0) := HCL.out wr HRr.out a _ (by simp [nums, hba])
        have hw0 : IntKind.i64.wrap c0 = c0 := by rw [IntKind.wrap_i64]; omega
        have HB0 := Aside0.mk ((Below.refl wr.heap.size wr).alloc (Nat.le_refl _) (.cells (cellsOf item0).toArray 28))
        have hga := Aside0.mk (heap_alloc_new wr (.cells (cellsOf item0).toArray 28))
        have HBLD := Aside0.mk (builtk c0)
        obtain ⟨y1, A1, hy1, hl1, hc1_, hcut1, hC1⟩ := cut_drop (P := Try.prog) 33 Try.underlying33 POct.info5 (some ad) c b ((a : Int) + 1) (by omega) (by omega) HC.out
        have hy1r : y1 = r := by rw [hy1, show ((a : Int) + 1).toNat = a + 1 by omega]; exact hr1
        subst hy1r
        have HC1 := Aside0.mk hc1_
        have HBR := Aside0.mk hbr; have HRL := Aside0.mk hrl; have HBR' := Aside0.mk hbr'
        clear hy1 hl1 hc1_ hbr hrl hbr'
        have htx_ := ref_takeText_ok 40 y1 HBR'.out (by have := HRL.out; omega) (by omega)
        obtain ⟨lb, n7, e7, ht⟩ : ∃ lb n7 e7, OctD.takeT y1 = (lb, n7, e7) := ⟨_, _, _, rfl⟩
        rw [ht] at htx_
        by_cases he7 : e7 = 0
        · skip
          subst he7
          have hbn := takeT_bounds y1 HBR'.out (by rw [ht])
          rw [ht] at hbn
          obtain ⟨m7, rfl⟩ := Int.eq_ofNat_of_zero_le hbn.1
          have hm7 : (m7 : Int) ≤ y1.length := hbn.2.1
          have hm7' : (m7 : Int) ≤ 10000 := by have := HRL.out; omega
          obtain ⟨e7, he7⟩ : ∃ e7 : Int, e7 = 0 := ⟨0, rfl⟩
          have hez : (e7 != 0) = false := by rw [he7]; rfl
          rw [← he7] at htx_
          have HT := Aside0.mk ht
          clear hbn ht he7
          by_cases hs9 : (b.length : Int) < (a : Int) + 1 + m7 + 32
          · skip
            have d9 : decide ((b.length : Int) < (a : Int) + 1 + m7 + 32) = true := decide_eq_true (by have := HRL.out; omega)
            have hno := Aside0.mk (show out = none by rw [HOUT.out]; exact last_of (upto_none HUj.out hlt (by rw [HBR.out]; exact parse_few c0 y1 lb m7 HT.out (by have := HRL.out; simp; omega))))
            have htx := Aside0.mk htx_
            clear htx_
            go_wp2_with (first | (with_reducible refine op_build rfl 28 _ rfl (cellsOf ({ item0 with kind := c0 } : Itm)).toArray (by rw [List.map_toArray]; exact HBLD.out) ?_) | (with_reducible refine op_alloc rfl 28 rfl _ zero28 ?_) | (refine op_store (w0 := wr) wr.heap.size rfl 28 (.tmp 7) (.tmp 53) rfl wr.heap.size (cellsOf ({ item0 with kind := c0 } : Itm)).toArray rfl rfl 28 (cellsOf item0).toArray hga.out 35 info28 (cells_sz ok0) (cells_sz ok0) (cells_all _) HB0.out (Nat.le_refl _) ?_; intro w1 hg1 hw1 HB1))
            have hsz1 := Aside0.mk HB1.out.size
            refine (POct.cofferref1_TakeText.calls 40 A1 (c - ((a : Int) + 1).toNat) y1 lb m7 e7 w1 (hC1 w1 (Kd.C_below HRr.out HB1.out)) HC1.out htx.out).mono ?_
            rintro e2 w2 ⟨v2, rfl, ho2, hb2⟩
            obtain ⟨x1, hx1⟩ : ∃ x1, Aside0 (x1 = ({ item0 with kind := c0 } : Itm)) := ⟨_, ⟨rfl⟩⟩
            have ok1 : Ok x1 := by rw [hx1.out]; exact ok0
            have HB2 := Aside0.mk (below_step HB1.out hb2); have HG5 := Aside0.mk (show It w2 wr.heap.size x1 from hx1.out ▸ (hb2.block _ (blk_lt hg1.out)).trans hg1.out); have HO2 := Aside0.mk (Kd.R_lower ho2 (show wr.heap.size ≤ w1.heap.size from hsz1.out))
            have HGT : Aside0 (∀ k_, Value.ownBlock v2 = some k_ → k_ ≠ wr.heap.size) := ⟨fun k_ hk he => by have h1_ := Kd.R_base ho2 k_ hk; have h2_ := blk_lt hg1.out; omega⟩
            clear hb2 ho2 hg1 hw1 HB1 HB0 hga HBLD kca
            go_wp2_with fail
            go_ret2
            exact ⟨_, by rw [hno.out]; rfl, by rw [hno.out]; exact NIL.out _, below_step HBj.out HB2.out⟩
          · skip
            have hw32 : wrap64 ((a : Int) + 1 + m7 + 32) = (a : Int) + 1 + m7 + 32 := w64_id (by omega) (by have := HRL.out; omega)
            have d9 : decide ((b.length : Int) < (a : Int) + 1 + m7 + 32) = false := decide_eq_false (by have := HRL.out; omega)
            obtain ⟨z9, A9, hz9, hl9, hc9_, hcut9, hC9⟩ := cut_mid (P := Try.prog) 33 Try.underlying33 POct.info5 (some ad) c b ((a : Int) + 1 + m7) ((a : Int) + 1 + m7 + 32) (by omega) (by omega) (by have := HRL.out; omega) HC.out
            have hz32 : Aside0 (z9.length = 32) := ⟨by omega⟩
            have HZ9 : Aside0 (z9 = (y1.drop m7).take 32) := ⟨by rw [hz9, show ((a : Int) + 1 + m7 + 32).toNat = a + 1 + m7 + 32 by omega, show ((a : Int) + 1 + m7).toNat = a + 1 + m7 by omega, ← hr1, List.drop_drop, List.drop_take]; congr 1; omega⟩
            have harr := fun (cc : Nat) => array_at (P := Try.prog) 26 32 (by kernel_rfl) A9 z9.length cc (by have := hz32.out; omega)
            clear hz9 hl9 hc9_
            obtain ⟨y12, A12, hy12, hl12, hc12_, hcut12, hC12⟩ := cut_drop (P := Try.prog) 33 Try.underlying33 POct.info5 (some ad) c b ((a : Int) + 1 + m7 + 32) (by omega) (by have := HRL.out; omega) HC.out
            have HC12 := Aside0.mk hc12_; have HY12 : Aside0 (y12 = (y1.drop m7).drop 32) := ⟨by rw [hy12, show ((a : Int) + 1 + m7 + 32).toNat = a + 1 + m7 + 32 by omega, ← hr1, List.drop_drop, List.drop_drop]; rfl⟩; have HL12 := Aside0.mk hl12
            clear hy12 hl12 hc12_
            have hb12 : ∀ x ∈ y12, 0 ≤ x ∧ x < 256 := fun x hx => HBR'.out x (List.mem_of_mem_drop (List.mem_of_mem_drop (by rw [← HY12.out]; exact hx)))
            have htk_ := ref_takeCount_ok 40 y12 hb12 (by have := HL12.out; omega) (by omega)
            obtain ⟨nv, nk, ne, hk⟩ : ∃ nv nk ne, OctC.take 0 0 y12 = (nv, nk, ne) := ⟨_, _, _, rfl⟩
            rw [hk] at htk_
            have htk := Aside0.mk htk_; have HB12 := Aside0.mk hb12
            clear htk_ hb12
            obtain ⟨s, hs⟩ : ∃ s, Aside0 (s = strOfNums lb) := ⟨_, ⟨rfl⟩⟩
            by_cases hne : ne = 0
            · by_cases hbg : 9223372036854775807 < nv
              · skip
                have hcz : (ne != 0) = false := by simp [hne]
                have hcb : decide (9223372036854775807 < nv) = true := decide_eq_true hbg
                have hno := Aside0.mk (show out = none by rw [HOUT.out]; exact last_of (upto_none HUj.out hlt (by rw [HBR.out]; exact parse_count c0 y1 lb m7 HT.out (by have := HRL.out; simp; omega) nv nk ne (by rw [← HY12.out]; exact hk) (.inr hbg))))
                clear hne hbg hk
                have htx := Aside0.mk htx_
                clear htx_
                go_wp2_with (first | (with_reducible refine op_build rfl 28 _ rfl (cellsOf ({ item0 with kind := c0 } : Itm)).toArray (by rw [List.map_toArray]; exact HBLD.out) ?_) | (with_reducible refine op_alloc rfl 28 rfl _ zero28 ?_) | (refine op_store (w0 := wr) wr.heap.size rfl 28 (.tmp 7) (.tmp 53) rfl wr.heap.size (cellsOf ({ item0 with kind := c0 } : Itm)).toArray rfl rfl 28 (cellsOf item0).toArray hga.out 35 info28 (cells_sz ok0) (cells_sz ok0) (cells_all _) HB0.out (Nat.le_refl _) ?_; intro w1 hg1 hw1 HB1))
                have hsz1 := Aside0.mk HB1.out.size
                refine (POct.cofferref1_TakeText.calls 40 A1 (c - ((a : Int) + 1).toNat) y1 lb m7 e7 w1 (hC1 w1 (Kd.C_below HRr.out HB1.out)) HC1.out htx.out).mono ?_
                rintro e2 w2 ⟨v2, rfl, ho2, hb2⟩
                obtain ⟨x1, hx1⟩ : ∃ x1, Aside0 (x1 = ({ item0 with kind := c0 } : Itm)) := ⟨_, ⟨rfl⟩⟩
                have ok1 : Ok x1 := by rw [hx1.out]; exact ok0
                have HB2 := Aside0.mk (below_step HB1.out hb2); have HG5 := Aside0.mk (show It w2 wr.heap.size x1 from hx1.out ▸ (hb2.block _ (blk_lt hg1.out)).trans hg1.out); have HO2 := Aside0.mk (Kd.R_lower ho2 (show wr.heap.size ≤ w1.heap.size from hsz1.out))
                have HGT : Aside0 (∀ k_, Value.ownBlock v2 = some k_ → k_ ≠ wr.heap.size) := ⟨fun k_ hk he => by have h1_ := Kd.R_base ho2 k_ hk; have h2_ := blk_lt hg1.out; omega⟩
                clear hb2 ho2 hg1 hw1 HB1 HB0 hga HBLD kca
                go_wp2_with fail
                have HOq := Aside0.mk (Kd.R_below HO2.out (below_drew1 (Below.refl _ _)))
                obtain ⟨ad8, hA8, hadc⟩ := CB.cells (hC9 w2 (Kd.C_below HRr.out HB2.out)) (by rw [hz32.out]; decide)
                subst hA8
                refine start_ (n := 13) (S := (fun W_ => Below wr.heap.size wr W_ ∧ RB W_ wr.heap.size v2 lb)) (ds := []) #[false, false, false, false, false, false, false, false, false, false, false, false, false] (by kernel_rfl) rfl rfl (⟨below_drew1 HB2.out, HOq.out⟩) (fun hHeld => ?_); refine with_tabW rt15tab rt15bits (fun HT_ HW_ => ?_)
                have HG5q := Aside0.mk (show It w2.drew wr.heap.size x1 from HG5.out)
                generalize w2.drew = wq at hHeld HOq HG5q ⊢
                have hld : ∀ W : World, Below wr.heap.size wr W → (Instr.loadAt 26 (.pointer (some ad8))).run Try.prog W = .ok (.agg (nums .u8 z9).toArray) W := fun W hW => by
                                  obtain ⟨ad9, e9, hc9⟩ := CB.cells (hC9 W (Kd.C_below HRr.out hW)) (by rw [hz32.out]; decide)
                                  cases e9
                                  exact run_loadVar_at ad8 26 (nums .u8 z9) _ hc9 Try.underlying26 rfl (by rw [nums_length, hz32.out]; exact info26)
                refine pure_ (i := 0) (N := some 76) (v := ?_) (a' := ?_) #[true, false, false, false, false, false, false, false, false, false, false, false, false] rfl rfl (any_of HT_.out (by kernel_rfl)) (fun _ _ _ h => h) (Or.inl ⟨by rfl, ?_⟩) ?_ ?_
                rotate_left
                · intro w'
                  go_simp
                  with_reducible rfl
                rotate_left
                · simp only [Act.put, List.setIfInBounds_toArray, List.set_cons_zero, List.set_cons_succ, i64_w, i32_w]
                  rfl
                refine take_ (i := 1) (N := some 77) (v := ?_) (a' := ?_) #[true, true, false, false, false, false, false, false, false, false, false, false, false] rfl rfl (take_ofW HT_.out HW_.out (by kernel_rfl)) (fun _ _ _ h => h) (Or.inl ⟨by rfl, ?_⟩) hHeld ?_ ?_
                rotate_left
                · intro w' hw'
                  have hf0_ := (show (convert 33 9 v2).run Try.prog w' = .ok (.string s) w' by rw [hs.out]; exact own_string (P := Try.prog) Try.underlying33 Try.underlying5 Try.underlying9 (RB.own hw'.2))
                  go_simp
                  with_reducible rfl
                rotate_left
                · simp only [Act.put, List.setIfInBounds_toArray, List.set_cons_zero, List.set_cons_succ, i64_w, i32_w]
                  rfl
                refine pure_ (i := 2) (N := some 78) (v := ?_) (a' := ?_) #[true, true, true, false, false, false, false, false, false, false, false, false, false] rfl rfl (any_of HT_.out (by kernel_rfl)) (fun _ _ _ h => h) (Or.inl ⟨by rfl, ?_⟩) ?_ ?_
                rotate_left
                · intro w'
                  go_simp
                  with_reducible rfl
                rotate_left
                · simp only [Act.put, List.setIfInBounds_toArray, List.set_cons_zero, List.set_cons_succ, i64_w, i32_w]
                  rfl
                refine pure_ (i := 3) (N := some 79) (v := ?_) (a' := ?_) #[true, true, true, true, false, false, false, false, false, false, false, false, false] rfl rfl (any_of HT_.out (by kernel_rfl)) (fun _ _ _ h => h) (Or.inl ⟨by rfl, ?_⟩) ?_ ?_
                rotate_left
                · intro w'
                  go_simp
                  with_reducible rfl
                rotate_left
                · simp only [Act.put, List.setIfInBounds_toArray, List.set_cons_zero, List.set_cons_succ, i64_w, i32_w]
                  rfl
                refine pure_ (i := 4) (N := some 80) (v := ?_) (a' := ?_) #[true, true, true, true, true, false, false, false, false, false, false, false, false] rfl rfl (any_of HT_.out (by kernel_rfl)) (fun _ _ _ h => h) (Or.inl ⟨by rfl, ?_⟩) ?_ ?_
                rotate_left
                · intro w'
                  go_simp
                  with_reducible rfl
                rotate_left
                · simp only [Act.put, List.setIfInBounds_toArray, List.set_cons_zero, List.set_cons_succ, i64_w, i32_w]
                  rfl
                refine pure_ (i := 5) (N := some 81) (v := ?_) (a' := ?_) #[true, true, true, true, true, true, false, false, false, false, false, false, false] rfl rfl (any_of HT_.out (by kernel_rfl)) (fun _ _ _ h => h) (Or.inl ⟨by rfl, ?_⟩) ?_ ?_
                rotate_left
                · intro w'
                  go_simp
                  with_reducible rfl
                rotate_left
                · simp only [Act.put, List.setIfInBounds_toArray, List.set_cons_zero, List.set_cons_succ, i64_w, i32_w]
                  rfl
                refine pure_ (i := 6) (N := some 82) (v := ?_) (a' := ?_) #[true, true, true, true, true, true, true, false, false, false, false, false, false] rfl rfl (any_of HT_.out (by kernel_rfl)) (fun _ _ _ h => h) (Or.inl ⟨by rfl, ?_⟩) ?_ ?_
                rotate_left
                · intro w'
                  go_simp
                  with_reducible rfl
                rotate_left
                · simp only [Act.put, List.setIfInBounds_toArray, List.set_cons_zero, List.set_cons_succ, i64_w, i32_w]
                  rfl
                refine pure_ (i := 7) (N := some 83) (v := ?_) (a' := ?_) #[true, true, true, true, true, true, true, true, false, false, false, false, false] rfl rfl (any_of HT_.out (by kernel_rfl)) (fun _ _ _ h => h) (Or.inl ⟨by rfl, ?_⟩) ?_ ?_
                rotate_left
                · intro w'
                  go_simp
                  with_reducible rfl
                rotate_left
                · simp only [Act.put, List.setIfInBounds_toArray, List.set_cons_zero, List.set_cons_succ, i64_w, i32_w]
                  rfl
                refine take_ (i := 8) (N := some 84) (v := (.agg (nums .u8 z9).toArray)) (a' := ?_) #[true, true, true, true, true, true, true, true, true, false, false, false, false] rfl rfl (take_ofW HT_.out HW_.out (by kernel_rfl)) (fun _ _ _ h => h) (Or.inl ⟨by rfl, fun w' hw' => load_run rfl rfl (hld w' hw'.1)⟩) hHeld ?_ ?_
                rotate_left
                · simp only [Act.put, List.setIfInBounds_toArray, List.set_cons_zero, List.set_cons_succ, i64_w, i32_w]
                  rfl
                refine pure_ (i := 9) (N := some 85) (v := ?_) (a' := ?_) #[true, true, true, true, true, true, true, true, true, true, false, false, false] rfl rfl (any_of HT_.out (by kernel_rfl)) (fun _ _ _ h => h) (Or.inl ⟨by rfl, ?_⟩) ?_ ?_
                rotate_left
                · intro w'
                  go_simp
                  with_reducible rfl
                rotate_left
                · simp only [Act.put, List.setIfInBounds_toArray, List.set_cons_zero, List.set_cons_succ, i64_w, i32_w]
                  rfl
                refine one_ (i := 10) (N := none) #[true, true, true, true, true, true, true, true, true, true, true, false, false] rfl rfl (one_of HT_.out (by kernel_rfl)) (by decide) (fun K hK => ?_)
                refine skip_ (by rfl) rfl (put_run rfl rfl rfl (put_name HG5q.out ok1 s)) ?_
                have HS1 := Aside0.mk (show Below wr.heap.size wr (wq.setRow wr.heap.size (cellsOf { x1 with name := s }).toArray) ∧ RB (wq.setRow wr.heap.size (cellsOf { x1 with name := s }).toArray) wr.heap.size v2 lb from ⟨below_setRow hHeld.1 (Nat.le_refl _) _, rb_other hHeld.2 HG5q.out (by decide) (grown_put _ _ _)⟩)
                have N5 := Aside0.mk (it_put { x1 with name := s } HG5q.out)
                generalize wq.setRow wr.heap.size (cellsOf { x1 with name := s }).toArray = wa at HS1 N5 hK ⊢
                refine hK.out _ _ HS1.out (fun hHeld => ?_)
                clear hK K HS1 HG5q
                have HG5q := N5
                clear N5
                refine pure_ (i := 11) (N := some 86) (v := ?_) (a' := ?_) #[true, true, true, true, true, true, true, true, true, true, true, true, false] rfl rfl (any_of HT_.out (by kernel_rfl)) (fun _ _ _ h => h) (Or.inl ⟨by rfl, ?_⟩) ?_ ?_
                rotate_left
                · intro w'
                  go_simp
                  with_reducible rfl
                rotate_left
                · simp only [Act.put, List.setIfInBounds_toArray, List.set_cons_zero, List.set_cons_succ, i64_w, i32_w]
                  rfl
                refine one_ (i := 12) (N := none) #[true, true, true, true, true, true, true, true, true, true, true, true, true] rfl rfl (one_of HT_.out (by kernel_rfl)) (by decide) (fun K hK => ?_)
                refine skip_ (by rfl) rfl (put_run rfl rfl rfl (put_of HG5q.out ok1 z9 hz32.out)) ?_
                have HS1 := Aside0.mk (show Below wr.heap.size wr (wa.setRow wr.heap.size (cellsOf { x1 with name := s, of := z9 }).toArray) ∧ RB (wa.setRow wr.heap.size (cellsOf { x1 with name := s, of := z9 }).toArray) wr.heap.size v2 lb from ⟨below_setRow hHeld.1 (Nat.le_refl _) _, rb_other hHeld.2 HG5q.out (by decide) (grown_put _ _ _)⟩)
                have N5 := Aside0.mk (it_put { x1 with name := s, of := z9 } HG5q.out)
                generalize wa.setRow wr.heap.size (cellsOf { x1 with name := s, of := z9 }).toArray = wb at HS1 N5 hK ⊢
                refine hK.out _ _ HS1.out (fun hHeld => ?_)
                clear hK K HS1 HG5q
                have HG5q := N5
                clear N5
                refine done_ (done_of HT_.out (by kernel_rfl)) ?_
                clear HT_ HW_ hld hadc
                obtain ⟨x3, hx3⟩ : ∃ x3, Aside0 (x3 = ({ x1 with name := s, of := z9 } : Itm)) := ⟨_, ⟨rfl⟩⟩
                have ok3 : Ok x3 := by rw [hx3.out]; exact hz32.out
                rw [← hx3.out] at HG5q
                have HBq := Aside0.mk hHeld.1
                clear hHeld
                go_wp2_with fail
                refine (POct.cofferref1_TakeCount.calls 40 A12 (c - ((a : Int) + 1 + m7 + 32).toNat) y12 nv nk ne wb (hC12 wb (Kd.C_below HRr.out HBq.out)) HC12.out htk.out).mono ?_
                rintro e9 w9 ⟨rfl, hd9⟩
                have hb9 := hd9.below
                have HB9 := Aside0.mk (below_step HBq.out hb9); have HG59 := Aside0.mk (show It w9 wr.heap.size x3 from (hb9.block _ (blk_lt HG5q.out)).trans HG5q.out)
                clear hb9 hd9 HBq HG5q
                go_wp2_with fail
                go_ret2
                exact ⟨_, by rw [hno.out]; rfl, by rw [hno.out]; exact NIL.out _, below_step HBj.out HB9.out⟩
              · skip
                have hcz : (ne != 0) = false := by simp [hne]
                have hcb : decide (9223372036854775807 < nv) = false := decide_eq_false hbg
                have hin := take_in y12 HB12.out (by rw [hk]; exact hne)
                rw [hk] at hin
                obtain ⟨hv0, hk0_, hk1_, _⟩ := hin
                obtain ⟨mk, rfl⟩ := Int.eq_ofNat_of_zero_le hk0_
                have hk1 : (mk : Int) ≤ b.length - (a + 1 + m7 + 32) := by have := HL12.out; simp at hk1_; omega
                have hwv : IntKind.i64.wrap nv = nv := (IntWalk.i64_left nv).trans (time_in hv0 hcb)
                have hwv2 : wrap64 nv = nv := time_in hv0 hcb
                have HP := Aside0.mk (show parse (b.drop a) = some (⟨strOfNums lb, c0, z9, nv⟩, b.drop (a + 1 + m7 + 32 + mk)) by rw [HBR.out, parse_all c0 y1 lb m7 HT.out (by have := HRL.out; simp; omega) nv mk (by rw [← HY12.out, hk, hne]) hbg, HZ9.out, ← hr1]; simp only [List.drop_drop])
                have HUn := Aside0.mk (upto_some HUj.out hlt (fun x hx => HBY.out x (List.mem_of_mem_drop hx)) HP.out)
                clear hv0 hk0_ hk1_ hne hbg hk
                have htx := Aside0.mk htx_
                clear htx_
                go_wp2_with (first | (with_reducible refine op_build rfl 28 _ rfl (cellsOf ({ item0 with kind := c0 } : Itm)).toArray (by rw [List.map_toArray]; exact HBLD.out) ?_) | (with_reducible refine op_alloc rfl 28 rfl _ zero28 ?_) | (refine op_store (w0 := wr) wr.heap.size rfl 28 (.tmp 7) (.tmp 53) rfl wr.heap.size (cellsOf ({ item0 with kind := c0 } : Itm)).toArray rfl rfl 28 (cellsOf item0).toArray hga.out 35 info28 (cells_sz ok0) (cells_sz ok0) (cells_all _) HB0.out (Nat.le_refl _) ?_; intro w1 hg1 hw1 HB1))
                have hsz1 := Aside0.mk HB1.out.size
                refine (POct.cofferref1_TakeText.calls 40 A1 (c - ((a : Int) + 1).toNat) y1 lb m7 e7 w1 (hC1 w1 (Kd.C_below HRr.out HB1.out)) HC1.out htx.out).mono ?_
                rintro e2 w2 ⟨v2, rfl, ho2, hb2⟩
                obtain ⟨x1, hx1⟩ : ∃ x1, Aside0 (x1 = ({ item0 with kind := c0 } : Itm)) := ⟨_, ⟨rfl⟩⟩
                have ok1 : Ok x1 := by rw [hx1.out]; exact ok0
                have HB2 := Aside0.mk (below_step HB1.out hb2); have HG5 := Aside0.mk (show It w2 wr.heap.size x1 from hx1.out ▸ (hb2.block _ (blk_lt hg1.out)).trans hg1.out); have HO2 := Aside0.mk (Kd.R_lower ho2 (show wr.heap.size ≤ w1.heap.size from hsz1.out))
                have HGT : Aside0 (∀ k_, Value.ownBlock v2 = some k_ → k_ ≠ wr.heap.size) := ⟨fun k_ hk he => by have h1_ := Kd.R_base ho2 k_ hk; have h2_ := blk_lt hg1.out; omega⟩
                clear hb2 ho2 hg1 hw1 HB1 HB0 hga HBLD kca
                go_wp2_with fail
                have HOq := Aside0.mk (Kd.R_below HO2.out (below_drew1 (Below.refl _ _)))
                obtain ⟨ad8, hA8, hadc⟩ := CB.cells (hC9 w2 (Kd.C_below HRr.out HB2.out)) (by rw [hz32.out]; decide)
                subst hA8
                refine start_ (n := 13) (S := (fun W_ => Below wr.heap.size wr W_ ∧ RB W_ wr.heap.size v2 lb)) (ds := []) #[false, false, false, false, false, false, false, false, false, false, false, false, false] (by kernel_rfl) rfl rfl (⟨below_drew1 HB2.out, HOq.out⟩) (fun hHeld => ?_); refine with_tabW rt15tab rt15bits (fun HT_ HW_ => ?_)
                have HG5q := Aside0.mk (show It w2.drew wr.heap.size x1 from HG5.out)
                generalize w2.drew = wq at hHeld HOq HG5q ⊢
                have hld : ∀ W : World, Below wr.heap.size wr W → (Instr.loadAt 26 (.pointer (some ad8))).run Try.prog W = .ok (.agg (nums .u8 z9).toArray) W := fun W hW => by
                                  obtain ⟨ad9, e9, hc9⟩ := CB.cells (hC9 W (Kd.C_below HRr.out hW)) (by rw [hz32.out]; decide)
                                  cases e9
                                  exact run_loadVar_at ad8 26 (nums .u8 z9) _ hc9 Try.underlying26 rfl (by rw [nums_length, hz32.out]; exact info26)
                refine pure_ (i := 0) (N := some 76) (v := ?_) (a' := ?_) #[true, false, false, false, false, false, false, false, false, false, false, false, false] rfl rfl (any_of HT_.out (by kernel_rfl)) (fun _ _ _ h => h) (Or.inl ⟨by rfl, ?_⟩) ?_ ?_
                rotate_left
                · intro w'
                  go_simp
                  with_reducible rfl
                rotate_left
                · simp only [Act.put, List.setIfInBounds_toArray, List.set_cons_zero, List.set_cons_succ, i64_w, i32_w]
                  rfl
                refine take_ (i := 1) (N := some 77) (v := ?_) (a' := ?_) #[true, true, false, false, false, false, false, false, false, false, false, false, false] rfl rfl (take_ofW HT_.out HW_.out (by kernel_rfl)) (fun _ _ _ h => h) (Or.inl ⟨by rfl, ?_⟩) hHeld ?_ ?_
                rotate_left
                · intro w' hw'
                  have hf0_ := (show (convert 33 9 v2).run Try.prog w' = .ok (.string s) w' by rw [hs.out]; exact own_string (P := Try.prog) Try.underlying33 Try.underlying5 Try.underlying9 (RB.own hw'.2))
                  go_simp
                  with_reducible rfl
                rotate_left
                · simp only [Act.put, List.setIfInBounds_toArray, List.set_cons_zero, List.set_cons_succ, i64_w, i32_w]
                  rfl
                refine pure_ (i := 2) (N := some 78) (v := ?_) (a' := ?_) #[true, true, true, false, false, false, false, false, false, false, false, false, false] rfl rfl (any_of HT_.out (by kernel_rfl)) (fun _ _ _ h => h) (Or.inl ⟨by rfl, ?_⟩) ?_ ?_
                rotate_left
                · intro w'
                  go_simp
                  with_reducible rfl
                rotate_left
                · simp only [Act.put, List.setIfInBounds_toArray, List.set_cons_zero, List.set_cons_succ, i64_w, i32_w]
                  rfl
                refine pure_ (i := 3) (N := some 79) (v := ?_) (a' := ?_) #[true, true, true, true, false, false, false, false, false, false, false, false, false] rfl rfl (any_of HT_.out (by kernel_rfl)) (fun _ _ _ h => h) (Or.inl ⟨by rfl, ?_⟩) ?_ ?_
                rotate_left
                · intro w'
                  go_simp
                  with_reducible rfl
                rotate_left
                · simp only [Act.put, List.setIfInBounds_toArray, List.set_cons_zero, List.set_cons_succ, i64_w, i32_w]
                  rfl
                refine pure_ (i := 4) (N := some 80) (v := ?_) (a' := ?_) #[true, true, true, true, true, false, false, false, false, false, false, false, false] rfl rfl (any_of HT_.out (by kernel_rfl)) (fun _ _ _ h => h) (Or.inl ⟨by rfl, ?_⟩) ?_ ?_
                rotate_left
                · intro w'
                  go_simp
                  with_reducible rfl
                rotate_left
                · simp only [Act.put, List.setIfInBounds_toArray, List.set_cons_zero, List.set_cons_succ, i64_w, i32_w]
                  rfl
                refine pure_ (i := 5) (N := some 81) (v := ?_) (a' := ?_) #[true, true, true, true, true, true, false, false, false, false, false, false, false] rfl rfl (any_of HT_.out (by kernel_rfl)) (fun _ _ _ h => h) (Or.inl ⟨by rfl, ?_⟩) ?_ ?_
                rotate_left
                · intro w'
                  go_simp
                  with_reducible rfl
                rotate_left
                · simp only [Act.put, List.setIfInBounds_toArray, List.set_cons_zero, List.set_cons_succ, i64_w, i32_w]
                  rfl
                refine pure_ (i := 6) (N := some 82) (v := ?_) (a' := ?_) #[true, true, true, true, true, true, true, false, false, false, false, false, false] rfl rfl (any_of HT_.out (by kernel_rfl)) (fun _ _ _ h => h) (Or.inl ⟨by rfl, ?_⟩) ?_ ?_
                rotate_left
                · intro w'
                  go_simp
                  with_reducible rfl
                rotate_left
                · simp only [Act.put, List.setIfInBounds_toArray, List.set_cons_zero, List.set_cons_succ, i64_w, i32_w]
                  rfl
                refine pure_ (i := 7) (N := some 83) (v := ?_) (a' := ?_) #[true, true, true, true, true, true, true, true, false, false, false, false, false] rfl rfl (any_of HT_.out (by kernel_rfl)) (fun _ _ _ h => h) (Or.inl ⟨by rfl, ?_⟩) ?_ ?_
                rotate_left
                · intro w'
                  go_simp
                  with_reducible rfl
                rotate_left
                · simp only [Act.put, List.setIfInBounds_toArray, List.set_cons_zero, List.set_cons_succ, i64_w, i32_w]
                  rfl
                refine take_ (i := 8) (N := some 84) (v := (.agg (nums .u8 z9).toArray)) (a' := ?_) #[true, true, true, true, true, true, true, true, true, false, false, false, false] rfl rfl (take_ofW HT_.out HW_.out (by kernel_rfl)) (fun _ _ _ h => h) (Or.inl ⟨by rfl, fun w' hw' => load_run rfl rfl (hld w' hw'.1)⟩) hHeld ?_ ?_
                rotate_left
                · simp only [Act.put, List.setIfInBounds_toArray, List.set_cons_zero, List.set_cons_succ, i64_w, i32_w]
                  rfl
                refine pure_ (i := 9) (N := some 85) (v := ?_) (a' := ?_) #[true, true, true, true, true, true, true, true, true, true, false, false, false] rfl rfl (any_of HT_.out (by kernel_rfl)) (fun _ _ _ h => h) (Or.inl ⟨by rfl, ?_⟩) ?_ ?_
                rotate_left
                · intro w'
                  go_simp
                  with_reducible rfl
                rotate_left
                · simp only [Act.put, List.setIfInBounds_toArray, List.set_cons_zero, List.set_cons_succ, i64_w, i32_w]
                  rfl
                refine one_ (i := 10) (N := none) #[true, true, true, true, true, true, true, true, true, true, true, false, false] rfl rfl (one_of HT_.out (by kernel_rfl)) (by decide) (fun K hK => ?_)
                refine skip_ (by rfl) rfl (put_run rfl rfl rfl (put_name HG5q.out ok1 s)) ?_
                have HS1 := Aside0.mk (show Below wr.heap.size wr (wq.setRow wr.heap.size (cellsOf { x1 with name := s }).toArray) ∧ RB (wq.setRow wr.heap.size (cellsOf { x1 with name := s }).toArray) wr.heap.size v2 lb from ⟨below_setRow hHeld.1 (Nat.le_refl _) _, rb_other hHeld.2 HG5q.out (by decide) (grown_put _ _ _)⟩)
                have N5 := Aside0.mk (it_put { x1 with name := s } HG5q.out)
                generalize wq.setRow wr.heap.size (cellsOf { x1 with name := s }).toArray = wa at HS1 N5 hK ⊢
                refine hK.out _ _ HS1.out (fun hHeld => ?_)
                clear hK K HS1 HG5q
                have HG5q := N5
                clear N5
                refine pure_ (i := 11) (N := some 86) (v := ?_) (a' := ?_) #[true, true, true, true, true, true, true, true, true, true, true, true, false] rfl rfl (any_of HT_.out (by kernel_rfl)) (fun _ _ _ h => h) (Or.inl ⟨by rfl, ?_⟩) ?_ ?_
                rotate_left
                · intro w'
                  go_simp
                  with_reducible rfl
                rotate_left
                · simp only [Act.put, List.setIfInBounds_toArray, List.set_cons_zero, List.set_cons_succ, i64_w, i32_w]
                  rfl
                refine one_ (i := 12) (N := none) #[true, true, true, true, true, true, true, true, true, true, true, true, true] rfl rfl (one_of HT_.out (by kernel_rfl)) (by decide) (fun K hK => ?_)
                refine skip_ (by rfl) rfl (put_run rfl rfl rfl (put_of HG5q.out ok1 z9 hz32.out)) ?_
                have HS1 := Aside0.mk (show Below wr.heap.size wr (wa.setRow wr.heap.size (cellsOf { x1 with name := s, of := z9 }).toArray) ∧ RB (wa.setRow wr.heap.size (cellsOf { x1 with name := s, of := z9 }).toArray) wr.heap.size v2 lb from ⟨below_setRow hHeld.1 (Nat.le_refl _) _, rb_other hHeld.2 HG5q.out (by decide) (grown_put _ _ _)⟩)
                have N5 := Aside0.mk (it_put { x1 with name := s, of := z9 } HG5q.out)
                generalize wa.setRow wr.heap.size (cellsOf { x1 with name := s, of := z9 }).toArray = wb at HS1 N5 hK ⊢
                refine hK.out _ _ HS1.out (fun hHeld => ?_)
                clear hK K HS1 HG5q
                have HG5q := N5
                clear N5
                refine done_ (done_of HT_.out (by kernel_rfl)) ?_
                clear HT_ HW_ hld hadc
                obtain ⟨x3, hx3⟩ : ∃ x3, Aside0 (x3 = ({ x1 with name := s, of := z9 } : Itm)) := ⟨_, ⟨rfl⟩⟩
                have ok3 : Ok x3 := by rw [hx3.out]; exact hz32.out
                rw [← hx3.out] at HG5q
                have HBq := Aside0.mk hHeld.1
                clear hHeld
                go_wp2_with fail
                refine (POct.cofferref1_TakeCount.calls 40 A12 (c - ((a : Int) + 1 + m7 + 32).toNat) y12 nv mk ne wb (hC12 wb (Kd.C_below HRr.out HBq.out)) HC12.out htk.out).mono ?_
                rintro e9 w9 ⟨rfl, hd9⟩
                have hb9 := hd9.below
                have HB9 := Aside0.mk (below_step HBq.out hb9); have HG59 := Aside0.mk (show It w9 wr.heap.size x3 from (hb9.block _ (blk_lt HG5q.out)).trans HG5q.out)
                clear hb9 hd9 HBq HG5q
                go_wp2_with (first | (refine op_put (w0 := wr) wr.heap.size rfl 2 (.tmp 104) (.tmp 103) rfl wr.heap.size 34 (.int .i64 nv) x3 { x3 with size := nv } rfl rfl HG59.out (put_size HG59.out ok3 nv) HB9.out (Nat.le_refl _) ?_; intro w10 hg10 hw10 HB10; obtain ⟨x4, hx4⟩ : ∃ x4, Aside0 (x4 = ({ x3 with size := nv } : Itm)) := ⟨_, ⟨rfl⟩⟩; have ok4 : Ok x4 := (by rw [hx4.out]; exact ok3); rw [← hx4.out] at hg10; have HO3 := Aside0.mk (Kd.R_below HOj.out HB10.out); have HBw := Aside0.mk (below_step HBj.out HB10.out)) | (refine op_load rfl 28 (.tmp 7) rfl wr.heap.size rfl 28 (cellsOf x4).toArray _ hg10.out Try.underlying28 rfl 35 info28 (cells_sz ok4) ?_) | (refine op_lit1 rfl (.tmp 110) rfl x4 ok4 rfl ?_) | (at_builtin; refine Kd.R_append kd (w0 := w) w.heap.size rfl (.tmp 109) (.tmp 111) 22 28 _ 64 rfl Try.underlying22 info28b (by show (cellsOf item0).toArray.size = 35; exact cells_sz ok0) (by decide) (by decide) _ acc x4 (cellsOf x4) (fun _ => True) (fun _ => False) rfl rfl ⟨rfl, ok4⟩ (fun _ h => h.elim) (fun _ _ => trivial) HO3.out HBw.out HBw.out.size (by have := HUj.out.1; have := HUj.out.2.1; omega) ?_; intro v4 w4 ho4 hB4 hg4 _))
                have hx : x4 = ⟨strOfNums lb, c0, z9, nv⟩ := by rw [hx4.out, hx3.out, hx1.out, hs.out]
                go_roundw
                case rel => exact ⟨j + 1, acc ++ [x4], a + 1 + m7 + 32 + mk, by omega, by go_num, by go_num, by omega, by omega, by rw [hx]; exact HUn, ⟨ho4⟩, ⟨hB4⟩⟩
                case measure => simp [intOf]; omega
            · skip
              have hcz : (ne != 0) = true := by simpa using hne
              have hno := Aside0.mk (show out = none by rw [HOUT.out]; exact last_of (upto_none HUj.out hlt (by rw [HBR.out]; exact parse_count c0 y1 lb m7 HT.out (by have := HRL.out; simp; omega) nv nk ne (by rw [← HY12.out]; exact hk) (.inl hne))))
              clear hne hk
              have htx := Aside0.mk htx_
              clear htx_
              go_wp2_with (first | (with_reducible refine op_build rfl 28 _ rfl (cellsOf ({ item0 with kind := c0 } : Itm)).toArray (by rw [List.map_toArray]; exact HBLD.out) ?_) | (with_reducible refine op_alloc rfl 28 rfl _ zero28 ?_) | (refine op_store (w0 := wr) wr.heap.size rfl 28 (.tmp 7) (.tmp 53) rfl wr.heap.size (cellsOf ({ item0 with kind := c0 } : Itm)).toArray rfl rfl 28 (cellsOf item0).toArray hga.out 35 info28 (cells_sz ok0) (cells_sz ok0) (cells_all _) HB0.out (Nat.le_refl _) ?_; intro w1 hg1 hw1 HB1))
              have hsz1 := Aside0.mk HB1.out.size
              refine (POct.cofferref1_TakeText.calls 40 A1 (c - ((a : Int) + 1).toNat) y1 lb m7 e7 w1 (hC1 w1 (Kd.C_below HRr.out HB1.out)) HC1.out htx.out).mono ?_
              rintro e2 w2 ⟨v2, rfl, ho2, hb2⟩
              obtain ⟨x1, hx1⟩ : ∃ x1, Aside0 (x1 = ({ item0 with kind := c0 } : Itm)) := ⟨_, ⟨rfl⟩⟩
              have ok1 : Ok x1 := by rw [hx1.out]; exact ok0
              have HB2 := Aside0.mk (below_step HB1.out hb2); have HG5 := Aside0.mk (show It w2 wr.heap.size x1 from hx1.out ▸ (hb2.block _ (blk_lt hg1.out)).trans hg1.out); have HO2 := Aside0.mk (Kd.R_lower ho2 (show wr.heap.size ≤ w1.heap.size from hsz1.out))
              have HGT : Aside0 (∀ k_, Value.ownBlock v2 = some k_ → k_ ≠ wr.heap.size) := ⟨fun k_ hk he => by have h1_ := Kd.R_base ho2 k_ hk; have h2_ := blk_lt hg1.out; omega⟩
              clear hb2 ho2 hg1 hw1 HB1 HB0 hga HBLD kca
              go_wp2_with fail
              have HOq := Aside0.mk (Kd.R_below HO2.out (below_drew1 (Below.refl _ _)))
              obtain ⟨ad8, hA8, hadc⟩ := CB.cells (hC9 w2 (Kd.C_below HRr.out HB2.out)) (by rw [hz32.out]; decide)
              subst hA8
              refine start_ (n := 13) (S := (fun W_ => Below wr.heap.size wr W_ ∧ RB W_ wr.heap.size v2 lb)) (ds := []) #[false, false, false, false, false, false, false, false, false, false, false, false, false] (by kernel_rfl) rfl rfl (⟨below_drew1 HB2.out, HOq.out⟩) (fun hHeld => ?_); refine with_tabW rt15tab rt15bits (fun HT_ HW_ => ?_)
              have HG5q := Aside0.mk (show It w2.drew wr.heap.size x1 from HG5.out)
              generalize w2.drew = wq at hHeld HOq HG5q ⊢
              have hld : ∀ W : World, Below wr.heap.size wr W → (Instr.loadAt 26 (.pointer (some ad8))).run Try.prog W = .ok (.agg (nums .u8 z9).toArray) W := fun W hW => by
                              obtain ⟨ad9, e9, hc9⟩ := CB.cells (hC9 W (Kd.C_below HRr.out hW)) (by rw [hz32.out]; decide)
                              cases e9
                              exact run_loadVar_at ad8 26 (nums .u8 z9) _ hc9 Try.underlying26 rfl (by rw [nums_length, hz32.out]; exact info26)
              refine pure_ (i := 0) (N := some 76) (v := ?_) (a' := ?_) #[true, false, false, false, false, false, false, false, false, false, false, false, false] rfl rfl (any_of HT_.out (by kernel_rfl)) (fun _ _ _ h => h) (Or.inl ⟨by rfl, ?_⟩) ?_ ?_
              rotate_left
              · intro w'
                go_simp
                with_reducible rfl
              rotate_left
              · simp only [Act.put, List.setIfInBounds_toArray, List.set_cons_zero, List.set_cons_succ, i64_w, i32_w]
                rfl
              refine take_ (i := 1) (N := some 77) (v := ?_) (a' := ?_) #[true, true, false, false, false, false, false, false, false, false, false, false, false] rfl rfl (take_ofW HT_.out HW_.out (by kernel_rfl)) (fun _ _ _ h => h) (Or.inl ⟨by rfl, ?_⟩) hHeld ?_ ?_
              rotate_left
              · intro w' hw'
                have hf0_ := (show (convert 33 9 v2).run Try.prog w' = .ok (.string s) w' by rw [hs.out]; exact own_string (P := Try.prog) Try.underlying33 Try.underlying5 Try.underlying9 (RB.own hw'.2))
                go_simp
                with_reducible rfl
              rotate_left
              · simp only [Act.put, List.setIfInBounds_toArray, List.set_cons_zero, List.set_cons_succ, i64_w, i32_w]
                rfl
              refine pure_ (i := 2) (N := some 78) (v := ?_) (a' := ?_) #[true, true, true, false, false, false, false, false, false, false, false, false, false] rfl rfl (any_of HT_.out (by kernel_rfl)) (fun _ _ _ h => h) (Or.inl ⟨by rfl, ?_⟩) ?_ ?_
              rotate_left
              · intro w'
                go_simp
                with_reducible rfl
              rotate_left
              · simp only [Act.put, List.setIfInBounds_toArray, List.set_cons_zero, List.set_cons_succ, i64_w, i32_w]
                rfl
              refine pure_ (i := 3) (N := some 79) (v := ?_) (a' := ?_) #[true, true, true, true, false, false, false, false, false, false, false, false, false] rfl rfl (any_of HT_.out (by kernel_rfl)) (fun _ _ _ h => h) (Or.inl ⟨by rfl, ?_⟩) ?_ ?_
              rotate_left
              · intro w'
                go_simp
                with_reducible rfl
              rotate_left
              · simp only [Act.put, List.setIfInBounds_toArray, List.set_cons_zero, List.set_cons_succ, i64_w, i32_w]
                rfl
              refine pure_ (i := 4) (N := some 80) (v := ?_) (a' := ?_) #[true, true, true, true, true, false, false, false, false, false, false, false, false] rfl rfl (any_of HT_.out (by kernel_rfl)) (fun _ _ _ h => h) (Or.inl ⟨by rfl, ?_⟩) ?_ ?_
              rotate_left
              · intro w'
                go_simp
                with_reducible rfl
              rotate_left
              · simp only [Act.put, List.setIfInBounds_toArray, List.set_cons_zero, List.set_cons_succ, i64_w, i32_w]
                rfl
              refine pure_ (i := 5) (N := some 81) (v := ?_) (a' := ?_) #[true, true, true, true, true, true, false, false, false, false, false, false, false] rfl rfl (any_of HT_.out (by kernel_rfl)) (fun _ _ _ h => h) (Or.inl ⟨by rfl, ?_⟩) ?_ ?_
              rotate_left
              · intro w'
                go_simp
                with_reducible rfl
              rotate_left
              · simp only [Act.put, List.setIfInBounds_toArray, List.set_cons_zero, List.set_cons_succ, i64_w, i32_w]
                rfl
              refine pure_ (i := 6) (N := some 82) (v := ?_) (a' := ?_) #[true, true, true, true, true, true, true, false, false, false, false, false, false] rfl rfl (any_of HT_.out (by kernel_rfl)) (fun _ _ _ h => h) (Or.inl ⟨by rfl, ?_⟩) ?_ ?_
              rotate_left
              · intro w'
                go_simp
                with_reducible rfl
              rotate_left
              · simp only [Act.put, List.setIfInBounds_toArray, List.set_cons_zero, List.set_cons_succ, i64_w, i32_w]
                rfl
              refine pure_ (i := 7) (N := some 83) (v := ?_) (a' := ?_) #[true, true, true, true, true, true, true, true, false, false, false, false, false] rfl rfl (any_of HT_.out (by kernel_rfl)) (fun _ _ _ h => h) (Or.inl ⟨by rfl, ?_⟩) ?_ ?_
              rotate_left
              · intro w'
                go_simp
                with_reducible rfl
              rotate_left
              · simp only [Act.put, List.setIfInBounds_toArray, List.set_cons_zero, List.set_cons_succ, i64_w, i32_w]
                rfl
              refine take_ (i := 8) (N := some 84) (v := (.agg (nums .u8 z9).toArray)) (a' := ?_) #[true, true, true, true, true, true, true, true, true, false, false, false, false] rfl rfl (take_ofW HT_.out HW_.out (by kernel_rfl)) (fun _ _ _ h => h) (Or.inl ⟨by rfl, fun w' hw' => load_run rfl rfl (hld w' hw'.1)⟩) hHeld ?_ ?_
              rotate_left
              · simp only [Act.put, List.setIfInBounds_toArray, List.set_cons_zero, List.set_cons_succ, i64_w, i32_w]
                rfl
              refine pure_ (i := 9) (N := some 85) (v := ?_) (a' := ?_) #[true, true, true, true, true, true, true, true, true, true, false, false, false] rfl rfl (any_of HT_.out (by kernel_rfl)) (fun _ _ _ h => h) (Or.inl ⟨by rfl, ?_⟩) ?_ ?_
              rotate_left
              · intro w'
                go_simp
                with_reducible rfl
              rotate_left
              · simp only [Act.put, List.setIfInBounds_toArray, List.set_cons_zero, List.set_cons_succ, i64_w, i32_w]
                rfl
              refine one_ (i := 10) (N := none) #[true, true, true, true, true, true, true, true, true, true, true, false, false] rfl rfl (one_of HT_.out (by kernel_rfl)) (by decide) (fun K hK => ?_)
              refine skip_ (by rfl) rfl (put_run rfl rfl rfl (put_name HG5q.out ok1 s)) ?_
              have HS1 := Aside0.mk (show Below wr.heap.size wr (wq.setRow wr.heap.size (cellsOf { x1 with name := s }).toArray) ∧ RB (wq.setRow wr.heap.size (cellsOf { x1 with name := s }).toArray) wr.heap.size v2 lb from ⟨below_setRow hHeld.1 (Nat.le_refl _) _, rb_other hHeld.2 HG5q.out (by decide) (grown_put _ _ _)⟩)
              have N5 := Aside0.mk (it_put { x1 with name := s } HG5q.out)
              generalize wq.setRow wr.heap.size (cellsOf { x1 with name := s }).toArray = wa at HS1 N5 hK ⊢
              refine hK.out _ _ HS1.out (fun hHeld => ?_)
              clear hK K HS1 HG5q
              have HG5q := N5
              clear N5
              refine pure_ (i := 11) (N := some 86) (v := ?_) (a' := ?_) #[true, true, true, true, true, true, true, true, true, true, true, true, false] rfl rfl (any_of HT_.out (by kernel_rfl)) (fun _ _ _ h => h) (Or.inl ⟨by rfl, ?_⟩) ?_ ?_
              rotate_left
              · intro w'
                go_simp
                with_reducible rfl
              rotate_left
              · simp only [Act.put, List.setIfInBounds_toArray, List.set_cons_zero, List.set_cons_succ, i64_w, i32_w]
                rfl
              refine one_ (i := 12) (N := none) #[true, true, true, true, true, true, true, true, true, true, true, true, true] rfl rfl (one_of HT_.out (by kernel_rfl)) (by decide) (fun K hK => ?_)
              refine skip_ (by rfl) rfl (put_run rfl rfl rfl (put_of HG5q.out ok1 z9 hz32.out)) ?_
              have HS1 := Aside0.mk (show Below wr.heap.size wr (wa.setRow wr.heap.size (cellsOf { x1 with name := s, of := z9 }).toArray) ∧ RB (wa.setRow wr.heap.size (cellsOf { x1 with name := s, of := z9 }).toArray) wr.heap.size v2 lb from ⟨below_setRow hHeld.1 (Nat.le_refl _) _, rb_other hHeld.2 HG5q.out (by decide) (grown_put _ _ _)⟩)
              have N5 := Aside0.mk (it_put { x1 with name := s, of := z9 } HG5q.out)
              generalize wa.setRow wr.heap.size (cellsOf { x1 with name := s, of := z9 }).toArray = wb at HS1 N5 hK ⊢
              refine hK.out _ _ HS1.out (fun hHeld => ?_)
              clear hK K HS1 HG5q
              have HG5q := N5
              clear N5
              refine done_ (done_of HT_.out (by kernel_rfl)) ?_
              clear HT_ HW_ hld hadc
              obtain ⟨x3, hx3⟩ : ∃ x3, Aside0 (x3 = ({ x1 with name := s, of := z9 } : Itm)) := ⟨_, ⟨rfl⟩⟩
              have ok3 : Ok x3 := by rw [hx3.out]; exact hz32.out
              rw [← hx3.out] at HG5q
              have HBq := Aside0.mk hHeld.1
              clear hHeld
              go_wp2_with fail
              refine (POct.cofferref1_TakeCount.calls 40 A12 (c - ((a : Int) + 1 + m7 + 32).toNat) y12 nv nk ne wb (hC12 wb (Kd.C_below HRr.out HBq.out)) HC12.out htk.out).mono ?_
              rintro e9 w9 ⟨rfl, hd9⟩
              have hb9 := hd9.below
              have HB9 := Aside0.mk (below_step HBq.out hb9); have HG59 := Aside0.mk (show It w9 wr.heap.size x3 from (hb9.block _ (blk_lt HG5q.out)).trans HG5q.out)
              clear hb9 hd9 HBq HG5q
              go_wp2_with fail
              go_ret2
              exact ⟨_, by rw [hno.out]; rfl, by rw [hno.out]; exact NIL.out _, below_step HBj.out HB9.out⟩
        · skip
          have hn7 := takeT_err y1 (by rw [ht]; exact he7)
          rw [ht] at hn7
          have hn7' : n7 = 0 := hn7
          subst hn7'
          have hez : (e7 != 0) = true := by simpa using he7
          have hno := Aside0.mk (show out = none by rw [HOUT.out]; exact last_of (upto_none HUj.out hlt (by rw [HBR.out]; exact parse_text c0 y1 (by rw [ht]; exact he7))))
          clear he7 hn7 ht
          have htx := Aside0.mk htx_
          clear htx_
          go_wp2_with (first | (with_reducible refine op_build rfl 28 _ rfl (cellsOf ({ item0 with kind := c0 } : Itm)).toArray (by rw [List.map_toArray]; exact HBLD.out) ?_) | (with_reducible refine op_alloc rfl 28 rfl _ zero28 ?_) | (refine op_store (w0 := wr) wr.heap.size rfl 28 (.tmp 7) (.tmp 53) rfl wr.heap.size (cellsOf ({ item0 with kind := c0 } : Itm)).toArray rfl rfl 28 (cellsOf item0).toArray hga.out 35 info28 (cells_sz ok0) (cells_sz ok0) (cells_all _) HB0.out (Nat.le_refl _) ?_; intro w1 hg1 hw1 HB1))
          have hsz1 := Aside0.mk HB1.out.size
          refine (POct.cofferref1_TakeText.calls 40 A1 (c - ((a : Int) + 1).toNat) y1 lb 0 e7 w1 (hC1 w1 (Kd.C_below HRr.out HB1.out)) HC1.out htx.out).mono ?_
          rintro e2 w2 ⟨v2, rfl, ho2, hb2⟩
          obtain ⟨x1, hx1⟩ : ∃ x1, Aside0 (x1 = ({ item0 with kind := c0 } : Itm)) := ⟨_, ⟨rfl⟩⟩
          have ok1 : Ok x1 := by rw [hx1.out]; exact ok0
          have HB2 := Aside0.mk (below_step HB1.out hb2); have HG5 := Aside0.mk (show It w2 wr.heap.size x1 from hx1.out ▸ (hb2.block _ (blk_lt hg1.out)).trans hg1.out); have HO2 := Aside0.mk (Kd.R_lower ho2 (show wr.heap.size ≤ w1.heap.size from hsz1.out))
          have HGT : Aside0 (∀ k_, Value.ownBlock v2 = some k_ → k_ ≠ wr.heap.size) := ⟨fun k_ hk he => by have h1_ := Kd.R_base ho2 k_ hk; have h2_ := blk_lt hg1.out; omega⟩
          clear hb2 ho2 hg1 hw1 HB1 HB0 hga HBLD kca
          go_wp2_with fail
          go_ret2
          exact ⟨_, by rw [hno.out]; rfl, by rw [hno.out]; exact NIL.out _, below_step HBj.out HB2.out⟩
    · obtain rfl : j = N := by omega
      have dj : decide ((j : Int) < j) = false := decide_eq_false (by omega)
      have hend := upto_end HUj.out
      have HO := Aside0.mk (show out = refLast b (some (acc, b.drop a)) by rw [HOUT.out, hend])
      obtain ⟨Av, cv, hv, hcv2, hCv⟩ := Kd.R_reads HOj.out
      subst hv
      have hok : okI acc := fun x hx => ⟨(HUj.out.2.2.2 x hx).1, (HUj.out.2.2.2 x hx).2.2.1⟩
      have hnn : ∀ i, (at_ acc i).name.size ≤ 4611686018427387904 := by
        intro i
        by_cases hi : i < acc.length
        · rw [at_get acc i hi]; have := (HUj.out.2.2.2 _ (List.getElem_mem hi)).2.2.2; omega
        · unfold at_; rw [List.getD_eq_getElem?_getD, List.getElem?_eq_none (by omega)]; show ByteArray.empty.size ≤ _; rw [ByteArray.size_empty]; omega
      have KB := Rb.ref_bytes_calls Av cv acc wr hCv hcv2 (by have := HUj.out.1; omega) hok hnn
      obtain ⟨zb, ze, hz⟩ : ∃ zb ze, bytesOut acc = (zb, ze) := ⟨_, _, rfl⟩
      rw [hz] at KB
      have hzb : ze = 0 → ∀ x ∈ zb, 0 ≤ x ∧ x < 256 := by
        intro h0
        have hbi : bytI acc := fun x hx y hy => HBY.out y (List.mem_of_mem_drop (by rw [(parseN_just _ _ (fun z hz => HBY.out z (List.mem_of_mem_drop hz)) _ _ hend).1]; exact List.mem_append_left _ (List.mem_flatMap.2 ⟨x, hx, by unfold itemB; simp [hy]⟩)))
        unfold bytesOut at hz
        by_cases hm : mayL acc = true
        · rw [if_pos hm] at hz
          by_cases hf : (foldB acc).length ≤ 4000
          · rw [if_pos hf] at hz
            cases hz
            exact foldB_byte hm hok hbi
          · rw [if_neg hf] at hz; cases hz; exact absurd h0 (by decide)
        · rw [if_neg hm] at hz; cases hz; exact absurd h0 (by decide)
      have KB' := Aside0.mk KB
      clear KB hok hnn hCv
      by_cases hze : ze = 0
      · have hez : (ze != 0) = false := by simp [hze]
        have hzby := Aside0.mk (hzb hze)
        clear hzb
        by_cases hq : zb = b
        · have hyes := Aside0.mk (show out = some acc by rw [HO.out]; simp only [refLast]; rw [hz, if_pos ⟨hze, hq⟩])
          have hqq : ((strOfNums zb).toList == (strOfNums b).toList) = true := by rw [hq]; simp
          clear hze hq hz
          go_wp2_with fail
          refine KB'.out.mono ?_
          rintro e5 w5 ⟨v5, rfl, ho5, hb5⟩
          have hcva := own_string (P := Try.prog) Try.underlying33 Try.underlying5 Try.underlying9 (RB.own ho5)
          have hcvb := Kd.C_string (P := Try.prog) (c := c) Try.underlying33 Try.underlying5 Try.underlying9 (Kd.C_below HR.out (below_step HBj.out hb5))
          have HO5 := Aside0.mk (Kd.R_below HOj.out hb5)
          have HB5 := Aside0.mk (below_step HBj.out hb5)
          clear ho5 hb5
          go_wp2_with fail
          go_ret2
          exact ⟨_, by rw [hyes.out]; rfl, by rw [hyes.out]; exact HO5.out, HB5.out⟩
        · have hno := Aside0.mk (show out = none by rw [HO.out]; simp only [refLast]; rw [hz, if_neg (fun h => hq h.2)])
          have hqq : ((strOfNums zb).toList == (strOfNums b).toList) = false := str_ne hzby.out HBY.out hq
          clear hze hq hz
          go_wp2_with fail
          refine KB'.out.mono ?_
          rintro e5 w5 ⟨v5, rfl, ho5, hb5⟩
          have hcva := own_string (P := Try.prog) Try.underlying33 Try.underlying5 Try.underlying9 (RB.own ho5)
          have hcvb := Kd.C_string (P := Try.prog) (c := c) Try.underlying33 Try.underlying5 Try.underlying9 (Kd.C_below HR.out (below_step HBj.out hb5))
          have HB5 := Aside0.mk (below_step HBj.out hb5)
          clear ho5 hb5
          go_wp2_with fail
          go_ret2
          exact ⟨_, by rw [hno.out]; rfl, by rw [hno.out]; exact NIL.out _, HB5.out⟩
      · have hez : (ze != 0) = true := by simpa using hze
        have hno := Aside0.mk (show out = none by rw [HO.out]; simp only [refLast]; rw [hz, if_neg (fun h => hze h.1)])
        clear hze hz hzb
        go_wp2_with fail
        refine KB'.out.mono ?_
        rintro e5 w5 ⟨v5, rfl, ho5, hb5⟩
        have HB5 := Aside0.mk (below_step HBj.out hb5)
        clear ho5 hb5
        go_wp2_with fail
        go_ret2
        exact ⟨_, by rw [hno.out]; rfl, by rw [hno.out]; exact NIL.out _, HB5.out⟩
end Go.Proofs.Ytmcankeggbofhaa.Ru
namespace Go.Proofs.Ytmcankeggbofhaa.Rv
open Go.RowKit Go.Proofs.YtmcankeggbofhaaW.PrintWords Go.Proofs.YtmcankeggbofhaaW.PrintLast Go.Proofs.YtmcankeggbofhaaW.PrintMore
open It Nm Ag My Spc By Im Iw Ip Tk Tl Tg OctC OctD Fp Fq Rt RefB Ru
set_option linter.unusedVariables false
set_option linter.unusedSimpArgs false
set_option maxRecDepth 100000
set_option maxHeartbeats 1600000 in
theorem ref_take_head (A : Option Addr) (c : Nat) (b : List Int) (w : World) (hr : CB w A b) (hc : b.length ≤ c) (hby : ∀ x ∈ b, 0 ≤ x ∧ x < 256) (h : ¬ refHead b) :
    Calls Try.prog 21 #[.slice A b.length c] w fun e w' => e = .returned (.tuple #[.slice none 0 0, .int .i64 4]) ∧ Below w.heap.size w w' := by
  by_cases h3 : 3 ≤ b.length
  · have d1 : decide ((b.length : Int) < 3) = false := decide_eq_false (by omega)
    obtain ⟨ad, rfl, hcl⟩ := CB.cells hr (by omega)
    obtain ⟨x0, x1, x2, r, hb⟩ : ∃ x0 x1 x2 r, b = x0 :: x1 :: x2 :: r := by
      match b, h3 with
      | x0 :: x1 :: x2 :: r, _ => exact ⟨x0, x1, x2, r, rfl⟩
    have k0 : w.cell? ad = some (.int .u8 x0) := hcl 0 _ (by rw [hb]; rfl)
    have k1 : w.cell? { block := ad.block, off := ad.off + 1 } = some (.int .u8 x1) := hcl 1 _ (by rw [hb]; rfl)
    have k2 : w.cell? { block := ad.block, off := ad.off + 2 } = some (.int .u8 x2) := hcl 2 _ (by rw [hb]; rfl)
    have hlen : 3 ≤ b.length := h3
    by_cases h0 : x0 = 68
    · have e0 : (x0 != 68) = false := by simp [h0]
      by_cases h1 : x1 = 49
      · have e1 : (x1 != 49) = false := by simp [h1]
        have e2 : decide (64 < x2) = true := by
          by_cases h2 : x2 ≤ 64
          · exfalso; apply h; rw [hb]; exact ⟨by simp, h0, h1, h2⟩
          · exact decide_eq_true (by omega)
        clear h hby hr hc hcl hb h0 h1
        go_enter Try.func21, Try.ntmps21
        go_wp2_with fail
        go_ret2
        exact ⟨rfl, Below.refl _ _⟩
      · have e1 : (x1 != 49) = true := by simpa using h1
        clear h hby hr hc hcl hb h0 h1
        go_enter Try.func21, Try.ntmps21
        go_wp2_with fail
        go_ret2
        exact ⟨rfl, Below.refl _ _⟩
    · have e0 : (x0 != 68) = true := by simpa using h0
      clear h hby hr hc hcl hb h0
      go_enter Try.func21, Try.ntmps21
      go_wp2_with fail
      go_ret2
      exact ⟨rfl, Below.refl _ _⟩
  · have d1 : decide ((b.length : Int) < 3) = true := decide_eq_true (by omega)
    clear h hr hby
    go_enter Try.func21, Try.ntmps21
    go_wp2_with fail
    go_ret2
    exact ⟨rfl, Below.refl _ _⟩
theorem ref_take_calls (A : Option Addr) (c : Nat) (b : List Int) (w : World) (hr : CB w A b) (hc : b.length ≤ c) (hl : b.length ≤ 8192) (hby : ∀ x ∈ b, 0 ≤ x ∧ x < 256) :
    Calls Try.prog 21 #[.slice A b.length c] w fun e w' => ∃ v, e = .returned (.tuple #[v, .int .i64 (codeT (takeOut b))]) ∧ RI w' w.heap.size v (listT (takeOut b)) ∧ Below w.heap.size w w' := by
  by_cases h : refHead b
  · obtain ⟨ad, rfl, _⟩ := CB.cells hr (by have := h.1; omega)
    have h2 : 0 ≤ b.getD 2 0 := (hby _ (by rw [List.getD_eq_getElem?_getD, List.getElem?_eq_getElem (by have := h.1; omega)]; exact List.getElem_mem _)).1
    exact ref_take_go ad c b w hr hc hl hby (b.getD 2 0).toNat h (Int.toNat_of_nonneg h2).symm _ (last_eq b hby h)
  · rw [last_none b hby h]
    exact (ref_take_head A c b w hr hc hby h).mono fun e w' ⟨he, hb⟩ => ⟨.slice none 0 0, he, Kd.R_nil kd 28 w' w.heap.size _, hb⟩
end Go.Proofs.Ytmcankeggbofhaa.Rv
namespace Go.Proofs.Ytmcankeggbofhaa.Ie
open Go.RowKit Go.Proofs.YtmcankeggbofhaaW.PrintWords Go.Proofs.YtmcankeggbofhaaW.PrintLast Go.Proofs.YtmcankeggbofhaaW.PrintMore
open It Nm Ag My Spc By Im Iw Ip Tk Tl Tg
set_option linter.unusedVariables false
set_option linter.unusedSimpArgs false
set_option maxRecDepth 100000
theorem all_range_eq : ∀ (xs ys : List Int), xs.length = ys.length → ((List.range xs.length).all fun i => xs.getD i 0 == ys.getD i 0) = (xs == ys)
  | [], [], _ => rfl
  | x :: xs, y :: ys, h => by
    have ih := all_range_eq xs ys (by simpa using h)
    rw [List.length_cons, List.range_succ_eq_map, List.all_cons, List.all_map]
    simp only [List.getD_cons_zero, Function.comp_def, List.getD_cons_succ, ih]
    simp [List.cons_beq_cons]
  | [], _ :: _, h => by simp at h
  | _ :: _, [], h => by simp at h
theorem arr_eq {P : Program} (w : World) (d : Nat) (t e : TypeId) (n : Nat) (ht : P.underlying t = some (.array n e)) (he : P.underlying e = some (.int .u8)) (hsz : ∀ w, (sizeOf e).run P w = .ok 1 w)
    (xs ys : List Int) (hx : xs.length = n) (hy : ys.length = n) :
    (Op.equalIn (d + 2) t (.agg (nums .u8 xs).toArray) (.agg (nums .u8 ys).toArray)).run P w = .ok (xs == ys) w := by
  rw [← all_range_eq xs ys (hx.trans hy.symm), hx, List.range_eq_range', Op.equalIn]
  simp only [Sem.run_bind, run_underlying ht, Result.andThen_ok, hsz, Std.Legacy.Range.forIn_eq_forIn_range', Std.Legacy.Range.size, Nat.sub_zero, Nat.add_sub_cancel, Nat.div_one]
  have hl : ∀ i ∈ List.range' 0 n 1, i < n := fun i hi => by simpa using (List.mem_range'_1.1 hi).2
  generalize List.range' 0 n 1 = l at hl ⊢
  induction l with
  | nil => simp
  | cons i l ih =>
    have hi : i < n := hl i (by simp)
    have px : (part e (nums .u8 xs).toArray (i * 1)).run P w = .ok (.int .u8 (xs.getD i 0)) w := by
      simp [part, isAgg, run_underlying he, nums, List.getD, List.getElem?_eq_getElem (show i < xs.length by omega)]
    have py : (part e (nums .u8 ys).toArray (i * 1)).run P w = .ok (.int .u8 (ys.getD i 0)) w := by
      simp [part, isAgg, run_underlying he, nums, List.getD, List.getElem?_eq_getElem (show i < ys.length by omega)]
    have pe : (Op.equalIn (d + 1) e (.int .u8 (xs.getD i 0)) (.int .u8 (ys.getD i 0))).run P w = .ok (xs.getD i 0 == ys.getD i 0) w := run_equalIn_int w d e .u8 .u8 _ _ he
    simp only [List.forIn_cons, Sem.run_bind, px, py, pe, Result.andThen_ok, List.all_cons]
    cases hb : (xs.getD i 0 == ys.getD i 0)
    · simp
    · simp only [Bool.not_true, Bool.false_eq_true, if_false, Sem.run_pure, Result.andThen_ok, Bool.true_and]
      exact ih fun j hj => hl j (by simp [hj])
def eqI (x y : Itm) : Bool := (x.name.toList == y.name.toList) && ((x.kind == y.kind) && ((x.of == y.of) && (x.size == y.size)))
theorem eqI_iff (x y : Itm) : eqI x y = true ↔ x = y := by
  unfold eqI
  simp only [Bool.and_eq_true, beq_iff_eq]
  constructor
  · rintro ⟨h1, h2, h3, h4⟩
    obtain ⟨⟨⟨a⟩⟩, k, o, s⟩ := x
    obtain ⟨⟨⟨b⟩⟩, k2, o2, s2⟩ := y
    rw [ByteArray.toList_eq, ByteArray.toList_eq] at h1
    have h1' : a = b := h1
    simp only at h2 h3 h4
    subst h1' h2 h3 h4
    rfl
  · rintro rfl; exact ⟨rfl, rfl, rfl, rfl⟩
instance : DecidableEq Itm := fun x y => decidable_of_iff _ (eqI_iff x y)
theorem cells_of_part {x : Itm} (h : Ok x) : List.take 32 (List.drop 2 (cellsOf x)) = nums .u8 x.of := by
  unfold Ok at h
  have h32 : (nums .u8 x.of).length = 32 := by simp [nums, h]
  have : cellsOf x = [Value.string x.name, Value.int .i64 x.kind] ++ (nums .u8 x.of ++ [Value.int .i64 x.size]) := rfl
  rw [this]
  simp [List.take_append, h32]
theorem item_eq (w : World) (x y : Itm) (hx : Ok x) (hy : Ok y) : (Op.equalIn 10000 28 (.agg (cellsOf x).toArray) (.agg (cellsOf y).toArray)).run Try.prog w = .ok (eqI x y) w := by
  refine eqA_of (P := Try.prog) (d := 9999) (t := 28) (xs := (cellsOf x).toArray) (ys := (cellsOf y).toArray) (w := w) Try.underlying28 (by kernel_rfl) ?_
  have p0 : ∀ z : Itm, (part 9 (cellsOf z).toArray 0).run Try.prog w = .ok (.string z.name) w := fun z => by simp [part, isAgg, run_underlying Try.underlying9, cellsOf]
  have p1 : ∀ z : Itm, (part 3 (cellsOf z).toArray 1).run Try.prog w = .ok (.int .i64 z.kind) w := fun z => by simp [part, isAgg, run_underlying Try.underlying3, cellsOf]
  have p2 : ∀ z : Itm, Ok z → (part 26 (cellsOf z).toArray 2).run Try.prog w = .ok (.agg (nums .u8 z.of).toArray) w := fun z hz => by
    obtain ⟨it, hi, hq⟩ := Option.map_eq_some_iff.1 info26
    simp [part, isAgg, run_underlying Try.underlying26, sizeOf, typeInfo, hi, hq, cells_of_part hz]
  have p3 : ∀ z : Itm, Ok z → (part 2 (cellsOf z).toArray 34).run Try.prog w = .ok (.int .i64 z.size) w := fun z hz => by simp [part, isAgg, run_underlying Try.underlying2, cells_size hz]
  unfold eqI
  refine eqf_cons (by rfl) (p0 x) (p0 y) (run_equalIn_string w 9998 9 _ _ Try.underlying9) ?_
  refine eqf_cons (by rfl) (p1 x) (p1 y) (run_equalIn_int w 9998 3 .i64 .i64 _ _ Try.underlying3) ?_
  refine eqf_cons (by rfl) (p2 x hx) (p2 y hy) (arr_eq w 9997 26 5 32 Try.underlying26 Try.underlying5 ?_ x.of y.of hx hy) ?_
  · intro w
    obtain ⟨it, hi, hz⟩ := Option.map_eq_some_iff.1 POct.info5
    simp only [Prod.mk.injEq] at hz
    simp [sizeOf, typeInfo, hi, hz.2.1]
  exact eqf_last (by rfl) (p3 x hx) (p3 y hy) (run_equalIn_int w 9998 2 .i64 .i64 _ _ Try.underlying2)
theorem guard28 : Try.prog.eqGuardType Try.prog.depth 28 = false := by kernel_rfl
theorem neq_run {o : Oper} {a : Act} {W : World} {x y : Operand} {p q : Itm} (ho : o.op = .binOp .neq 28 x y 28) (hx : a.eval x = .agg (cellsOf p).toArray) (hy : a.eval y = .agg (cellsOf q).toArray) (hp : Ok p) (hq : Ok q) : (execOp a.eval o).run Try.prog W = .ok (.value (.bool (!eqI p q))) W := by
  simp only [execOp, ho, hx, hy, Sem.run_bind, run_neq_struct, run_eqGuard_agg W .neq 28 x y _ _ guard28, item_eq W p q hp hq, Result.andThen_ok, Sem.run_pure]
/-- two lists, the same -/
def eqL (l m : List Itm) : Bool := decide (l = m)
def al6T : Bool × List (List Nat × List Nat) := (true, [([], []), ([], []), ([0, 1], [0, 1]), ([2], [2]), ([], []), ([], []), ([4, 5], [4, 5]), ([6], [6]), ([3, 7], [3, 7])])
def al6B : List Nat := [0, 0, 3, 7, 0, 0, 48, 112, 255]
theorem al6tab : rtab .any (opsOf Try.f17 6) = al6T := by kernel_rfl
theorem al6bits : waitsOk al6T.2 al6B = true := by kernel_rfl
set_option maxHeartbeats 3200000 in
theorem alike_calls (A B : Option Addr) (c d : Nat) (l m : List Itm) (w : World) (hr : CI w A l) (hs : CI w B m) (hc : l.length ≤ c) (hd : m.length ≤ d) :
    Calls Try.prog 17 #[.slice A l.length c, .slice B m.length d] w fun e w' => e = .returned (.bool (eqL l m)) ∧ Below w.heap.size w w' := by
  have HR := Aside0.mk hr
  have HS := Aside0.mk hs
  have hmx := hr.2.1
  have hmx2 := hs.2.1
  by_cases hl : l.length = m.length
  · have d1 : ((l.length : Int) != (m.length : Int)) = false := by simp [hl]
    clear hr hs
    go_enter Try.func17, Try.ntmps17
    go_wp2_with fail
    go_loopw [5] (fun u wr => ∃ j : Nat, j ≤ l.length ∧ u = .int .i64 j ∧ Aside0 (∀ i (h1 : i < l.length), i < j → l[i] = m[i]'(by omega)) ∧ Aside0 (Below w.heap.size w wr)) (fun u _ => l.length - (intOf u).toNat)
    case atStart => exact ⟨0, by omega, rfl, ⟨fun i h1 hi => absurd hi (by omega)⟩, ⟨Below.refl _ _⟩⟩
    case round =>
      obtain ⟨j, hj, rfl, HJ, HBj⟩ := hrel
      by_cases hlt : j < l.length
      · have hlt2 : j < m.length := by omega
        obtain ⟨ad, hA, hok, _, _⟩ := item_at (Kd.C_below HR.out HBj.out) j hlt
        obtain ⟨bd, hB, hok2, _, _⟩ := item_at (Kd.C_below HS.out HBj.out) j hlt2
        subst hA hB
        have HLa := Aside0.mk (fun W (hW : Below w.heap.size w W) => (by obtain ⟨a', e', _, _, h⟩ := item_at (Kd.C_below HR.out hW) j hlt; cases e'; exact h : (Instr.loadAt 28 (.pointer (some (ad.add (j * 35))))).run Try.prog W = .ok (.agg (cellsOf l[j]).toArray) W))
        have HLb := Aside0.mk (fun W (hW : Below w.heap.size w W) => (by obtain ⟨a', e', _, _, h⟩ := item_at (Kd.C_below HS.out hW) j hlt2; cases e'; exact h : (Instr.loadAt 28 (.pointer (some (bd.add (j * 35))))).run Try.prog W = .ok (.agg (cellsOf m[j]).toArray) W))
        have hp := Aside0.mk hok; have hq := Aside0.mk hok2
        have HX : Aside0 (eqI l[j] m[j] = decide (l[j] = m[j])) := ⟨by rw [Bool.eq_iff_iff, eqI_iff]; simp⟩
        have HEQ := Aside0.mk (fun (h : l[j] = m[j]) i (h1 : i < l.length) (h2 : i < j + 1) => (by
          rcases Nat.lt_or_ge i j with h3 | h3
          · exact HJ.out i h1 h3
          · obtain rfl : i = j := by omega
            exact h : l[i] = m[i]'(by omega)))
        have HNE := Aside0.mk (fun (h : ¬ l[j] = m[j]) => (by unfold eqL; rw [decide_eq_false_iff_not]; intro e; apply h; simp only [e] : eqL l m = false))
        clear hok hok2
        generalize hpe : l[j] = p at HLa HX HEQ HNE hp
        generalize hqe : m[j] = q at HLb HX HEQ HNE hq
        clear hpe hqe
        go_wp2_with fail
        · skip
          refine start_ (n := 9) (S := (fun W_ => Below w.heap.size w W_)) (ds := []) #[false, false, false, false, false, false, false, false, false] (by kernel_rfl) rfl rfl (below_drew1 HBj.out) (fun hHeld => ?_); refine with_tabW al6tab al6bits (fun HT_ HW_ => ?_)
          generalize wr.drew = wq at hHeld ⊢
          refine pure_ (i := 0) (N := some 17) (v := ?_) (a' := ?_) #[true, false, false, false, false, false, false, false, false] rfl rfl (any_of HT_.out (by kernel_rfl)) (fun _ _ _ h => h) (Or.inl ⟨by rfl, ?_⟩) ?_ ?_
          rotate_left
          · intro w'
            go_simp
            with_reducible rfl
          rotate_left
          · simp only [Act.put, List.setIfInBounds_toArray, List.set_cons_zero, List.set_cons_succ, i64_w, i32_w]
            rfl
          refine pure_ (i := 1) (N := some 18) (v := ?_) (a' := ?_) #[true, true, false, false, false, false, false, false, false] rfl rfl (any_of HT_.out (by kernel_rfl)) (fun _ _ _ h => h) (Or.inl ⟨by rfl, ?_⟩) ?_ ?_
          rotate_left
          · intro w'
            go_simp
            with_reducible rfl
          rotate_left
          · simp only [Act.put, List.setIfInBounds_toArray, List.set_cons_zero, List.set_cons_succ, i64_w, i32_w]
            rfl
          refine pure_ (i := 2) (N := some 19) (v := ?_) (a' := ?_) #[true, true, true, false, false, false, false, false, false] rfl rfl (any_of HT_.out (by kernel_rfl)) (fun _ _ _ h => h) (Or.inl ⟨by rfl, ?_⟩) ?_ ?_
          rotate_left
          · intro w'
            go_simp
            with_reducible rfl
          rotate_left
          · simp only [Act.put, List.setIfInBounds_toArray, List.set_cons_zero, List.set_cons_succ, i64_w, i32_w]
            rfl
          refine take_ (i := 3) (N := some 20) (v := (.agg (cellsOf p).toArray)) (a' := ?_) #[true, true, true, true, false, false, false, false, false] rfl rfl (take_ofW HT_.out HW_.out (by kernel_rfl)) (fun _ _ _ h => h) (Or.inl ⟨by rfl, fun w' hw' => load_run rfl rfl (HLa.out w' hw')⟩) hHeld ?_ ?_
          rotate_left
          · simp only [Act.put, List.setIfInBounds_toArray, List.set_cons_zero, List.set_cons_succ, i64_w, i32_w]
            rfl
          refine pure_ (i := 4) (N := some 21) (v := ?_) (a' := ?_) #[true, true, true, true, true, false, false, false, false] rfl rfl (any_of HT_.out (by kernel_rfl)) (fun _ _ _ h => h) (Or.inl ⟨by rfl, ?_⟩) ?_ ?_
          rotate_left
          · intro w'
            go_simp
            with_reducible rfl
          rotate_left
          · simp only [Act.put, List.setIfInBounds_toArray, List.set_cons_zero, List.set_cons_succ, i64_w, i32_w]
            rfl
          refine pure_ (i := 5) (N := some 22) (v := ?_) (a' := ?_) #[true, true, true, true, true, true, false, false, false] rfl rfl (any_of HT_.out (by kernel_rfl)) (fun _ _ _ h => h) (Or.inl ⟨by rfl, ?_⟩) ?_ ?_
          rotate_left
          · intro w'
            go_simp
            with_reducible rfl
          rotate_left
          · simp only [Act.put, List.setIfInBounds_toArray, List.set_cons_zero, List.set_cons_succ, i64_w, i32_w]
            rfl
          refine pure_ (i := 6) (N := some 23) (v := ?_) (a' := ?_) #[true, true, true, true, true, true, true, false, false] rfl rfl (any_of HT_.out (by kernel_rfl)) (fun _ _ _ h => h) (Or.inl ⟨by rfl, ?_⟩) ?_ ?_
          rotate_left
          · intro w'
            go_simp
            with_reducible rfl
          rotate_left
          · simp only [Act.put, List.setIfInBounds_toArray, List.set_cons_zero, List.set_cons_succ, i64_w, i32_w]
            rfl
          refine take_ (i := 7) (N := some 24) (v := (.agg (cellsOf q).toArray)) (a' := ?_) #[true, true, true, true, true, true, true, true, false] rfl rfl (take_ofW HT_.out HW_.out (by kernel_rfl)) (fun _ _ _ h => h) (Or.inl ⟨by rfl, fun w' hw' => load_run rfl rfl (HLb.out w' hw')⟩) hHeld ?_ ?_
          rotate_left
          · simp only [Act.put, List.setIfInBounds_toArray, List.set_cons_zero, List.set_cons_succ, i64_w, i32_w]
            rfl
          refine pure_ (i := 8) (N := some 25) (v := (.bool (!eqI p q))) (a' := ?_) #[true, true, true, true, true, true, true, true, true] rfl rfl (any_of HT_.out (by kernel_rfl)) (fun _ _ _ h => h) (Or.inl ⟨by rfl, fun w' => neq_run rfl rfl rfl hp.out hq.out⟩) ?_ ?_
          rotate_left
          · simp only [Act.put, List.setIfInBounds_toArray, List.set_cons_zero, List.set_cons_succ, i64_w, i32_w]
            rfl
          refine done_ (done_of HT_.out (by kernel_rfl)) ?_
          clear HT_ HW_
          have HBq := Aside0.mk hHeld
          clear hHeld
          by_cases hpq : p = q
          · have hb : eqI p q = true := by rw [HX.out]; exact decide_eq_true hpq
            simp only [hb]
            go_wp2_with fail
            go_roundw
            case rel => exact ⟨j + 1, by omega, by go_num, ⟨HEQ.out hpq⟩, HBq⟩
            case measure => simp [intOf]; omega
          · have hb : eqI p q = false := by rw [HX.out]; exact decide_eq_false hpq
            have hno := Aside0.mk (HNE.out hpq)
            simp only [hb]
            go_wp2_with fail
            go_ret
            exact ⟨by rw [hno.out]; rfl, HBq.out⟩
      · obtain rfl : j = l.length := by omega
        have hyes : Aside0 (eqL l m = true) := ⟨by unfold eqL; exact decide_eq_true (List.ext_getElem hl (fun i h1 h2 => HJ.out i h1 h1))⟩
        go_wp2_with fail
        go_ret
        exact ⟨by rw [hyes.out]; rfl, HBj.out⟩
  · have d1 : ((l.length : Int) != (m.length : Int)) = true := by rw [bne_iff_ne]; omega
    have hno : Aside0 (eqL l m = false) := ⟨by unfold eqL; rw [decide_eq_false_iff_not]; rintro rfl; exact hl rfl⟩
    clear hr hs
    go_enter Try.func17, Try.ntmps17
    go_wp2_with fail
    go_ret
    exact ⟨by rw [hno.out]; rfl, Below.refl _ _⟩
end Go.Proofs.Ytmcankeggbofhaa.Ie
namespace Go.Proofs.Ytmcankeggbofhaa.Io
open Go.RowKit Go.ChangeShapes Go.WideShapes Go.Deep
open It My By Fq Ag Go.Proofs.YtmcankeggbofhaaW.PrintWords
set_option linter.unusedVariables false
set_option linter.unusedSimpArgs false
def numOf : Option Value → Int | some (.int _ n) => n | _ => 0
section
variable {H : Type} {enc : TypeId × Value → H} {W : World} {base : Nat} {spare : Nat → Bool} {held : Bool}
theorem trod_item {fuel : Nat} {cs : List Value} {x : DataW H × List MemPlace} (h : DataW.trod enc Try.prog W base spare held fuel 28 cs = some x) :
    ∃ it : Itm, cs = cellsOf it ∧ Ok it ∧ (∀ y ∈ it.of, 0 ≤ y ∧ y < 256) ∧ it.size ≤ 9223372036854775807 ∧ it.name.size ≤ maxLen := by
  have c28 : Try.prog.cellsOf 28 = 35 := by kernel_rfl
  have c26 : Try.prog.cellsOf 26 = 32 := by kernel_rfl
  have c5 : Try.prog.cellsOf 5 = 1 := by kernel_rfl
  have c2 : Try.prog.cellsOf 2 = 1 := by kernel_rfl
  have c3 : Try.prog.cellsOf 3 = 1 := by kernel_rfl
  have c9 : Try.prog.cellsOf 9 = 1 := by kernel_rfl
  obtain ⟨ys, n, _, _, hlen, hyl, hf⟩ := DataW.trod_struct Try.underlying28 h
  rw [c28] at hlen
  have sm : ∀ (i : Nat) (a : DataW H × List MemPlace), i < ys.length → ys[i]? = some (ys[i]!) := fun i a hi => by rw [List.getElem?_eq_getElem hi, List.getElem!_eq_getElem?_getD, List.getElem?_eq_getElem hi]; rfl
  have hyl4 : ys.length = 4 := hyl
  have h0 : DataW.trod enc Try.prog W base spare held n 9 ((cs.drop 0).take (Try.prog.cellsOf 9)) = ys[0]? := hf 0 _ rfl
  have h1 : DataW.trod enc Try.prog W base spare held n 3 ((cs.drop 1).take (Try.prog.cellsOf 3)) = ys[1]? := hf 1 _ rfl
  have h2 : DataW.trod enc Try.prog W base spare held n 26 ((cs.drop 2).take (Try.prog.cellsOf 26)) = ys[2]? := hf 2 _ rfl
  have h3 : DataW.trod enc Try.prog W base spare held n 2 ((cs.drop 34).take (Try.prog.cellsOf 2)) = ys[3]? := hf 3 _ rfl
  rw [List.getElem?_eq_getElem (by omega)] at h0 h1 h2 h3
  rw [c9] at h0; rw [c3] at h1; rw [c26] at h2; rw [c2] at h3
  obtain ⟨xs, m, _, _, _, hxl, hi⟩ := DataW.trod_array (n := 32) (e := 5) (by kernel_rfl) h2
  obtain ⟨s, hs, _, hms⟩ := DataW.trod_string Try.underlying9 h0
  obtain ⟨k, hk, _, hwk⟩ := DataW.trod_int Try.underlying3 h1
  obtain ⟨z, hz, _, hwz⟩ := DataW.trod_int Try.underlying2 h3
  have hat : ∀ i, i < 32 → ∃ k : Int, cs[2 + i]? = some (.int .u8 k) ∧ (Lit.int .u8 k).wf = true := by
    intro i hi32
    have h := hi i hi32
    rw [c5, List.getElem?_eq_getElem (by omega)] at h
    obtain ⟨k, hk, _, hw⟩ := DataW.trod_int Try.underlying5 h
    refine ⟨k, ?_, hw⟩
    have := congrArg (·[0]?) hk
    simp [List.getElem?_take, List.getElem?_drop] at this
    have h2 := this.2
    simpa using h2
  refine ⟨⟨s, k, (List.range 32).map fun i => numOf cs[2 + i]?, z⟩, ?_, by simp [Ok], ?_, ?_, hms⟩
  · apply List.ext_getElem?
    intro i
    unfold cellsOf
    have e0 : cs[0]? = some (.string s) := by have := congrArg (·[0]?) hs; simpa using this
    have e1 : cs[1]? = some (.int .i64 k) := by have := congrArg (·[0]?) hk; simpa using this
    have e34 : cs[34]? = some (.int .i64 z) := by have := congrArg (·[0]?) hz; simpa using this
    rcases i with _ | i
    · exact e0
    rcases i with _ | i
    · exact e1
    by_cases h32 : i < 32
    · obtain ⟨k', hk', _⟩ := hat i h32
      rw [show i + 1 + 1 = 2 + i by omega, hk']
      have hlen : i < (nums .u8 ((List.range 32).map fun i => numOf cs[2 + i]?)).length := by simpa [nums] using h32
      rw [show 2 + i = i + 1 + 1 by omega, List.getElem?_cons_succ, List.getElem?_cons_succ, List.getElem?_append_left hlen]
      unfold nums
      rw [List.getElem?_map, List.getElem?_map, List.getElem?_range h32, Option.map_some, Option.map_some, hk']
      rfl
    · by_cases h33 : i = 32
      · subst h33
        rw [show 32 + 1 + 1 = 34 from rfl, e34]
        simp [nums]
      · rw [List.getElem?_eq_none (by omega), List.getElem?_eq_none (by simp [nums]; omega)]
  · intro x hx
    obtain ⟨i, hi, rfl⟩ := List.mem_map.1 hx
    obtain ⟨k', hk', hw⟩ := hat i (List.mem_range.1 hi)
    rw [hk']
    have := bounds_u8 hw
    show 0 ≤ k' ∧ k' < 256
    omega
  · have := bounds_i64 hwz
    show z ≤ _
    omega
theorem open_items {rr : Reach} {b0 : Nat} {v : Value} {d : DataW H} {p : List MemPlace} (hv : Value.okWide Try.prog W rr b0 22 v) (h : DataW.Trod enc Try.prog W base (fun _ => true) held 22 v d p) :
    ∃ (A : Option Addr) (c : Nat) (l : List Itm), v = .slice A l.length c ∧ CI W A l ∧ l.length ≤ c ∧ l.length ≤ 9223372036854775807 ∧ okI l ∧ bytI l := by
  obtain ⟨A, len, cap, rfl⟩ := okWide_slice Try.underlying22 hv
  obtain ⟨fuel, hf⟩ := h
  have c28 : Try.prog.cellsOf 28 = 35 := by kernel_rfl
  rcases open_slice Try.underlying22 hf with ⟨hcs, _⟩ | ⟨a, n, cp, m, k, D, Pl, hcs, _, hl, hm, hmm, _, hx⟩
  · simp [Value.cells] at hcs
    obtain ⟨rfl, rfl, rfl⟩ := hcs
    refine ⟨none, 0, [], rfl, ⟨rfl, by simp, fun h => by simp at h⟩, by simp, by simp, fun x hx => by simp at hx, fun x hx => by simp at hx⟩
  · simp [Value.cells] at hcs
    obtain ⟨rfl, rfl, rfl⟩ := hcs
    simp only [if_true] at hmm
    subst hmm
    simp only [c28] at hx
    obtain ⟨f, hff⟩ : ∃ f : Nat → Itm, ∀ i, i < m → (Ok (f i) ∧ (∀ y ∈ (f i).of, 0 ≤ y ∧ y < 256) ∧ (f i).size ≤ 9223372036854775807 ∧ (f i).name.size ≤ maxLen) ∧ ∀ j u, (cellsOf (f i))[j]? = some u → W.cell? (a.add (i * 35 + j)) = some u := by
      refine ⟨fun i => if hi : i < m then (trod_item (hx i hi).choose_spec.2).choose else item0, fun i hi => ?_⟩
      simp only [dif_pos hi]
      have hs := (hx i hi).choose_spec
      obtain ⟨h1, h2⟩ := (trod_item hs.2).choose_spec
      refine ⟨h2, fun j u hj => ?_⟩
      rw [← h1] at hj
      have h3 := hs.1
      obtain ⟨_, hln, hat⟩ := World.cells?_some h3
      have hjl : j < 35 := by
        rcases Nat.lt_or_ge j 35 with h | h
        · exact h
        · rw [List.getElem?_eq_none (by omega)] at hj; cases hj
      rw [← Go.Deep.add_add, hat j hjl, hj]
    have hget : ∀ i, i < len → ((List.range len).map f)[i]? = some (f i) := fun i hi => by rw [List.getElem?_map, List.getElem?_range hi]; rfl
    have hmx : len ≤ 9223372036854775807 := by simp only [maxLen] at hm; omega
    refine ⟨some a, m, (List.range len).map f, by simp, ⟨rfl, by simpa using hmx, fun _ => ⟨a, rfl, fun j p hj => ?_⟩⟩, by simpa using hl, by simpa using hmx, fun x hx' => ?_, fun x hx' => ?_⟩
    · have hjl : j < len := by
        rcases Nat.lt_or_ge j len with h | h
        · exact h
        · rw [List.getElem?_eq_none (by simpa using h)] at hj; cases hj
      rw [hget j hjl] at hj
      obtain rfl := Option.some.inj hj
      have := hff j (by omega)
      exact ⟨cellsOf (f j), cells_len this.1.1, ⟨rfl, this.1.1⟩, this.2⟩
    · obtain ⟨i, hi, rfl⟩ := List.mem_map.1 hx'
      have := (hff i (by have := List.mem_range.1 hi; omega)).1
      exact ⟨this.1, this.2.2.1⟩
    · obtain ⟨i, hi, rfl⟩ := List.mem_map.1 hx'
      exact (hff i (by have := List.mem_range.1 hi; omega)).1.2.1
end
end Go.Proofs.Ytmcankeggbofhaa.Io
