/- An entry's bytes: the document's. The next head: the program's Link, the document's. -/
import Derived.Test.YtgpgblidplmchaaEb
import Derived.Test.YtgpgblidplmchaaEk
import Derived.Test.YtgpgblidplmchaaSa
import Derived.Test.YtgpgblidplmchaaRefA
import Derived.Test.YtgpgblidplmchaaSd
namespace Go.Proofs.Ytgpgblidplmchaa.Erb
open Go.RowKit Go.Proofs.YtgpgblidplmchaaW.PrintWords Go.Proofs.YtgpgblidplmchaaW.PrintLast Go.Proofs.YtgpgblidplmchaaW.PrintMore
open En Ag Spc OctA OctC Eb Ek
set_option linter.unusedVariables false
set_option linter.unusedSimpArgs false
set_option maxRecDepth 100000
theorem eight_f (v : Int) (h0 : 0 ≤ v) (h1 : v < 18446744073709551616) : POct.cofferref1_Eight.f 40 v = some (be 8 v.toNat) := by
  obtain ⟨n, rfl⟩ := Int.eq_ofNat_of_zero_le h0
  unfold POct.cofferref1_Eight.f
  have := RefA.ref_put_ok 40 [] n 8 (by omega) (by omega) (by omega) (by simp) (by omega)
  rw [if_pos (by omega)] at this
  have e : POct.cofferref1_Put.f 40 [] (n : Int) 8 = some ([] ++ be 8 n, 0) := this
  rw [e]
  simp
theorem C_same {W W1 : World} {g off : Nat} {xs : List Int} (h : CB W (some ⟨g, off, none⟩) xs) (he : W1.heap[g]? = W.heap[g]?) : CB W1 (some ⟨g, off, none⟩) xs := by
  refine ⟨h.1, h.2.1, fun hp => ?_⟩
  obtain ⟨ad, e, hc⟩ := h.2.2 hp
  cases e
  refine ⟨_, rfl, fun j p hj => ?_⟩
  obtain ⟨c, hl, hk, hcell⟩ := hc j p hj
  refine ⟨c, hl, hk, fun i u hu => ?_⟩
  have hb : ∀ n, ((⟨g, off, none⟩ : Addr).add n).block = g := fun n => by unfold Addr.add; split <;> rfl
  have := hcell i u hu
  unfold World.cell? at this ⊢
  rw [hb] at this ⊢
  rw [he]
  exact this
theorem same_block {W W1 : World} {g : Nat} {row : Option Nat} (hg : W.grownBy W1 row) (hlt : g < W.heap.size) (hne : some g ≠ row) : W1.heap[g]? = W.heap[g]? := hg.block g hlt hne
theorem str_step {P : Program} {ops : Array Oper} {o : Oper} {a : Act} {Q : Exit → Act → World → Prop} {Kc : Act → World → Prop} {w0 W : World} (base : Nat) (hw : Region.wanted o (yielded ops a.tmps) = true) (s x : Operand) (t u : TypeId)
    (ho : o.op = .call { callee := .builtin .append, args := #[s, x], argTypes := #[t, u] }) (ht : P.underlying t = some (.slice 5)) (hu : P.underlying u = some .string) (hinfo : (P.info? 5).map (fun i => (i.zero, i.size, i.bytes)) = some (some (.int .u8 0), 1, 1))
    (v : Value) (xs : List Int) (y : ByteArray) (hs : a.eval s = v) (hx : a.eval x = .string y) (HO : RB W base v xs) (HB : Below base w0 W) (hbase : base ≤ W.heap.size) (hl : xs.length + y.size ≤ 140737488355328)
    (h : ∀ v1 w1, RB w1 base v1 (xs ++ bytesOf y) → Below base w0 w1 → W.grownBy w1 v.ownBlock → Kc (a.put o.dst v1) w1) :
    if Region.wanted o (yielded ops a.tmps) = true then Oper.wp P o a W Kc Q else Kc (a.put o.dst undef) W := by
  obtain ⟨i0, hi, hzz⟩ := Option.map_eq_some_iff.1 hinfo
  simp only [Prod.mk.injEq] at hzz
  obtain ⟨hz0, hz1, hz2⟩ := hzz
  rw [if_pos hw]
  obtain ⟨v', w', hr, h2, h3, _⟩ := Lib.run_append_own_string (P := P) W base t u o.type 5 i0 ht hu hi hz0 hz1 hz2 v xs.length (nums .u8 xs) HO.own y (by simp only [maxLen]; omega) hl hbase
  have hl2 : (xs ++ bytesOf y).length = xs.length + y.size := by rw [List.length_append, bytesOf_length]
  have hc : nums .u8 (xs ++ bytesOf y) = nums .u8 xs ++ Lib.strCells y := by
    rw [nums_append]
    congr 1
    simp [nums, bytesOf, Lib.strCells]
  have HO2 : RB w' base v' (xs ++ bytesOf y) := RB.of_own (by rw [hl2, hc]; exact h2)
  unfold Oper.wp execOp
  simp only [ho, resolve, invoke, builtin, Sem.run_bind, Sem.run_pure, Result.andThen_ok, List.map_toArray, List.map_cons, List.map_nil, hs, hx, hr]
  exact h v' w' HO2 (HB.grown h3 hbase (own_base HO.own)) h3
theorem fin_eq (x : Ent) (ha0 : 0 ≤ x.act) (ha1 : x.act ≤ 255) (hu0 : 0 ≤ x.status) (hu1 : x.status ≤ 999) : be 8 x.seq.toNat ++ be 8 x.tick.toNat ++ be 8 x.serial.toNat ++ [(x.ten.size : Int)] ++ bytesOf x.ten ++ [x.act, x.status / 256, x.status % 256] ++ x.of = bytesE x := by
  obtain ⟨a, hA⟩ := Int.eq_ofNat_of_zero_le ha0
  obtain ⟨u, hU⟩ := Int.eq_ofNat_of_zero_le hu0
  have e1 : be 1 x.act.toNat = [x.act] := by rw [hA]; simp [be]; omega
  have e2 : be 2 x.status.toNat = [x.status / 256, x.status % 256] := by rw [hU]; simp [be]; omega
  unfold bytesE
  rw [e1, e2]
  simp
def rb3T : Bool × List (List Nat × List Nat) := (true, [([], []), ([0], [0]), ([1], [1]), ([2], [2]), ([], []), ([4], [4]), ([5], [5]), ([6, 3], [6]), ([3, 7, 7], [3, 7]), ([8, 8, 0, 1, 2, 3, 4, 5, 6, 7, 8], [8])])
def rb3B : List Nat := [0, 1, 3, 7, 0, 16, 48, 127, 255, 511]
theorem rb3tab : rtab .any (opsOf Try.f17 3) = rb3T := by kernel_rfl
theorem rb3bits : waitsOk rb3T.2 rb3B = true := by kernel_rfl
def rb4T : Bool × List (List Nat × List Nat) := (true, [([], []), ([], []), ([1], [1]), ([2], [2]), ([0, 3, 3], [0, 3]), ([], []), ([5], [5]), ([6], [6]), ([7], [7]), ([8], [8]), ([4, 9, 4], [4, 9]), ([10, 10, 0, 1, 2, 3, 4, 5, 6, 7, 8, 9, 10], [0, 10])])
def rb4B : List Nat := [0, 0, 2, 6, 15, 0, 32, 96, 224, 480, 1023, 2047]
theorem rb4tab : rtab .any (opsOf Try.f17 4) = rb4T := by kernel_rfl
theorem rb4bits : waitsOk rb4T.2 rb4B = true := by kernel_rfl
def rb5T : Bool × List (List Nat × List Nat) := (true, [([], []), ([], []), ([1], [1]), ([0, 2], [0, 2]), ([], []), ([4], [4]), ([5], [5]), ([], []), ([7], [7]), ([8], [8]), ([9], [9]), ([], []), ([11], [11]), ([12], [12]), ([13], [13]), ([6, 10, 14], [6, 10, 14]), ([3, 15, 3], [3, 15]), ([16, 16, 0, 1, 2, 3, 4, 5, 6, 7, 8, 9, 10, 11, 12, 13, 14, 15, 16], [0, 16])])
def rb5B : List Nat := [0, 0, 2, 7, 0, 16, 48, 0, 128, 384, 896, 0, 2048, 6144, 14336, 32752, 65535, 131071]
theorem rb5tab : rtab .any (opsOf Try.f17 5) = rb5T := by kernel_rfl
theorem rb5bits : waitsOk rb5T.2 rb5B = true := by kernel_rfl
set_option maxHeartbeats 3200000 in
theorem ref_bytes_yes (x : Ent) (w : World) (hx : Wf x) (hm : mayE x = true) :
    Calls Try.prog 17 #[.agg (cellsOf x).toArray] w fun e w' => ∃ v, e = .returned (.tuple #[v, .int .i64 0]) ∧ RB w' w.heap.size v (bytesE x) ∧ Below w.heap.size w w' := by
  obtain ⟨hok, hs1, ht1, hr0, hr1, _⟩ := hx
  obtain ⟨hs0, ht0, ha0, ha1, hu0, hu1, hten⟩ := may_parts hm
  have HOK := Aside0.mk (show x.of.length = 32 from hok)
  have hws : IntKind.u64.wrap x.seq = x.seq := u64_id (by omega) (by omega)
  have hwt : IntKind.u64.wrap x.tick = x.tick := u64_id (by omega) (by omega)
  have hwa : IntKind.u8.wrap x.act = x.act := by simp only [IntKind.wrap_u8']; omega
  have hwn : IntKind.u8.wrap (x.ten.size : Int) = (x.ten.size : Int) := by simp only [IntKind.wrap_u8']; omega
  obtain ⟨sq, hsq⟩ : ∃ q, x.status / 256 = q := ⟨_, rfl⟩
  obtain ⟨sr, hsr⟩ : ∃ q, x.status % 256 = q := ⟨_, rfl⟩
  have e1 : Int.tdiv x.status 256 = sq := by rw [Int.tdiv_eq_ediv_of_nonneg (by omega)]; omega
  have e2 : wrap64 sq = sq := by unfold wrap64; omega
  have e3 : IntKind.u8.wrap sq = sq := by simp only [IntKind.wrap_u8']; omega
  have e4 : Int.tmod x.status 256 = sr := by rw [Int.tmod_eq_emod_of_nonneg (by omega)]; omega
  have e5 : IntKind.u8.wrap sr = sr := by simp only [IntKind.wrap_u8']; omega
  obtain ⟨z1, hz1⟩ : ∃ z, be 8 x.seq.toNat = z := ⟨_, rfl⟩
  obtain ⟨z2, hz2⟩ : ∃ z, be 8 x.tick.toNat = z := ⟨_, rfl⟩
  obtain ⟨z3, hz3⟩ : ∃ z, be 8 x.serial.toNat = z := ⟨_, rfl⟩
  have f1 := Aside0.mk (hz1 ▸ eight_f x.seq (by omega) (by omega))
  have f2 := Aside0.mk (hz2 ▸ eight_f x.tick (by omega) (by omega))
  have f3 := Aside0.mk (hz3 ▸ eight_f x.serial (by omega) (by omega))
  obtain ⟨zc, hzc⟩ : ∃ z, z1 ++ z2 = z := ⟨_, rfl⟩
  obtain ⟨zq, hzq⟩ : ∃ z, zc ++ z3 = z := ⟨_, rfl⟩
  obtain ⟨zd, hzd⟩ : ∃ z, zq ++ [(x.ten.size : Int)] = z := ⟨_, rfl⟩
  obtain ⟨zt, hzt⟩ : ∃ z, zd ++ bytesOf x.ten = z := ⟨_, rfl⟩
  obtain ⟨z7, hz7⟩ : ∃ z, zt ++ [x.act, sq, sr] = z := ⟨_, rfl⟩
  have HLS := Aside0.mk (show z1.length = 8 ∧ z2.length = 8 ∧ z3.length = 8 ∧ zc.length = 16 ∧ zq.length = 24 ∧ zd.length = 25 ∧ zt.length = 25 + x.ten.size ∧ z7.length = 28 + x.ten.size ∧ x.ten.size ≤ 16 from by
    have a1 : z1.length = 8 := by rw [← hz1]; exact be_length _ _
    have a2 : z2.length = 8 := by rw [← hz2]; exact be_length _ _
    have a3 : z3.length = 8 := by rw [← hz3]; exact be_length _ _
    have a4 : zc.length = 16 := by rw [← hzc]; simp; omega
    have a5 : zq.length = 24 := by rw [← hzq]; simp; omega
    have a6 : zd.length = 25 := by rw [← hzd]; simp; omega
    have a7 : zt.length = 25 + x.ten.size := by rw [← hzt]; simp [bytesOf_length]; omega
    have a8 : z7.length = 28 + x.ten.size := by rw [← hz7]; simp; omega
    exact ⟨a1, a2, a3, a4, a5, a6, a7, a8, hten⟩)
  have HZC := Aside0.mk hzc; have HZQ := Aside0.mk hzq; have HZD := Aside0.mk hzd; have HZT := Aside0.mk hzt; have HZ7 := Aside0.mk hz7
  have HFIN := Aside0.mk (show z1 ++ z2 ++ z3 ++ [(x.ten.size : Int)] ++ bytesOf x.ten ++ [x.act, sq, sr] ++ x.of = bytesE x from by rw [← hz1, ← hz2, ← hz3, ← hsq, ← hsr]; exact fin_eq x ha0 ha1 hu0 hu1)
  have HG0 := Aside0.mk (show It (w.alloc (.cells (cellsOf x).toArray 27)) w.heap.size x from heap_alloc_new w _)
  have HB0 := Aside0.mk ((Below.refl w.heap.size w).alloc (Nat.le_refl _) (.cells (cellsOf x).toArray 27))
  have HM := Aside0.mk hm
  clear hs0 hs1 ht0 ht1 hr0 hr1 ha0 ha1 hu0 hu1 hten hm hz1 hz2 hz3 hsq hsr hzc hzq hzd hzt hz7
  go_enter Try.func17, Try.ntmps17
  go_wp2_with (first | (refine op_load rfl 27 (.tmp 1) rfl w.heap.size rfl 27 (cellsOf x).toArray _ HG0.out Try.underlying27 rfl 38 info27 (cells_sz hok) ?_))
  refine (ref_may_calls x _ hok).mono ?_
  rw [HM.out]
  rintro e1_ w1 ⟨rfl, hb1⟩
  have HB1 := Aside0.mk (below_step HB0.out hb1)
  have HG1 := Aside0.mk (show It w1 w.heap.size x from (hb1.block _ (blk_lt HG0.out)).trans HG0.out)
  clear hb1 HB0 HG0
  go_wp2_with fail
  generalize hg1 : w.heap.size = g1 at HG1 ⊢
  have HGE := Aside0.mk hg1
  clear hg1
  refine start_ (n := 10) (S := (fun W_ => Below w.heap.size w W_ ∧ It W_ g1 x)) (ds := []) #[false, false, false, false, false, false, false, false, false, false] (by kernel_rfl) rfl rfl (⟨below_drew1 HB1.out, HG1.out⟩) (fun hHeld => ?_); refine with_tabW rb3tab rb3bits (fun HT_ HW_ => ?_)
  generalize w1.drew = wq at hHeld ⊢
  refine pure_ (i := 0) (N := some 8) (v := ?_) (a' := ?_) #[true, false, false, false, false, false, false, false, false, false] rfl rfl (any_of HT_.out (by kernel_rfl)) (fun _ _ _ h => h) (Or.inl ⟨by rfl, ?_⟩) ?_ ?_
  rotate_left
  · intro w'
    go_simp
    with_reducible rfl
  rotate_left
  · simp only [Act.put, List.setIfInBounds_toArray, List.set_cons_zero, List.set_cons_succ, i64_w, i32_w]
    rfl
  refine take_ (i := 1) (N := some 9) (v := ?_) (a' := ?_) #[true, true, false, false, false, false, false, false, false, false] rfl rfl (take_ofW HT_.out HW_.out (by kernel_rfl)) (fun _ _ _ h => h) (Or.inl ⟨by rfl, ?_⟩) hHeld ?_ ?_
  rotate_left
  · intro w' hw'
    have hf0_ := it_cell hw'.2 0 _ rfl
    go_simp
    with_reducible rfl
  rotate_left
  · simp only [Act.put, List.setIfInBounds_toArray, List.set_cons_zero, List.set_cons_succ, i64_w, i32_w]
    rfl
  refine pure_ (i := 2) (N := some 10) (v := ?_) (a' := ?_) #[true, true, true, false, false, false, false, false, false, false] rfl rfl (any_of HT_.out (by kernel_rfl)) (fun _ _ _ h => h) (Or.inl ⟨by rfl, ?_⟩) ?_ ?_
  rotate_left
  · intro w'
    go_simp
    with_reducible rfl
  rotate_left
  · simp only [Act.put, List.setIfInBounds_toArray, List.set_cons_zero, List.set_cons_succ, i64_w, i32_w]
    rfl
  refine pure_ (i := 4) (N := some 12) (v := ?_) (a' := ?_) #[true, true, true, false, true, false, false, false, false, false] rfl rfl (any_of HT_.out (by kernel_rfl)) (fun _ _ _ h => h) (Or.inl ⟨by rfl, ?_⟩) ?_ ?_
  rotate_left
  · intro w'
    go_simp
    with_reducible rfl
  rotate_left
  · simp only [Act.put, List.setIfInBounds_toArray, List.set_cons_zero, List.set_cons_succ, i64_w, i32_w]
    rfl
  refine take_ (i := 5) (N := some 13) (v := ?_) (a' := ?_) #[true, true, true, false, true, true, false, false, false, false] rfl rfl (take_ofW HT_.out HW_.out (by kernel_rfl)) (fun _ _ _ h => h) (Or.inl ⟨by rfl, ?_⟩) hHeld ?_ ?_
  rotate_left
  · intro w' hw'
    have hf0_ := it_cell hw'.2 1 _ rfl
    go_simp
    with_reducible rfl
  rotate_left
  · simp only [Act.put, List.setIfInBounds_toArray, List.set_cons_zero, List.set_cons_succ, i64_w, i32_w]
    rfl
  refine pure_ (i := 6) (N := some 14) (v := ?_) (a' := ?_) #[true, true, true, false, true, true, true, false, false, false] rfl rfl (any_of HT_.out (by kernel_rfl)) (fun _ _ _ h => h) (Or.inl ⟨by rfl, ?_⟩) ?_ ?_
  rotate_left
  · intro w'
    go_simp
    with_reducible rfl
  rotate_left
  · simp only [Act.put, List.setIfInBounds_toArray, List.set_cons_zero, List.set_cons_succ, i64_w, i32_w]
    rfl
  refine one_ (i := 3) (N := some 11) #[true, true, true, true, true, true, true, false, false, false] rfl rfl (one_of HT_.out (by kernel_rfl)) (by decide) (fun K hK => ?_)
  refine goes_ Try.func35 (by kernel_rfl) rfl #[.int .u64 x.seq] (by rfl) rfl rfl (by (try simp only [List.map_toArray, List.map_cons, List.map_nil]); first | done | rfl) ?_
  refine (POct.cofferref1_Eight.calls 40 x.seq z1 _ f1.out).mono ?_
  rintro ep wa ⟨vwa, rfl, ho, hb⟩; refine ⟨_, rfl, ?_⟩
  obtain ⟨Awa, cwa, rfl, hc, hC⟩ := Kd.R_reads ho
  have HS1 := Aside0.mk (show Below w.heap.size w wa ∧ It wa g1 x from ⟨below_step hHeld.1 hb, (hb.block _ (blk_lt hHeld.2)).trans hHeld.2⟩)
  have HOwa := Aside0.mk (Kd.R_lower ho hHeld.1.size); have HCwa := Aside0.mk hC; have HB_wa := Aside0.mk hb
  clear ho hb hc hC
  refine hK.out _ _ (HS1.out) (fun hHeld => ?_)
  clear hK K
  refine norm_ (a' := ?_) ?_ ?_
  rotate_left
  · show Act.put _ (some 11) _ = _
    simp only [Act.put, List.setIfInBounds_toArray, List.set_cons_zero, List.set_cons_succ, i64_w, i32_w]
    rfl
  clear HS1
  refine one_ (i := 7) (N := some 15) #[true, true, true, true, true, true, true, true, false, false] rfl rfl (one_of HT_.out (by kernel_rfl)) (by decide) (fun K hK => ?_)
  refine goes_ Try.func35 (by kernel_rfl) rfl #[.int .u64 x.tick] (by rfl) rfl rfl (by (try simp only [List.map_toArray, List.map_cons, List.map_nil]); first | done | rfl) ?_
  refine (POct.cofferref1_Eight.calls 40 x.tick z2 _ f2.out).mono ?_
  rintro ep wb ⟨vwb, rfl, ho, hb⟩; refine ⟨_, rfl, ?_⟩
  obtain ⟨Awb, cwb, rfl, hc, hC⟩ := Kd.R_reads ho
  have HS1 := Aside0.mk (show Below w.heap.size w wb ∧ It wb g1 x from ⟨below_step hHeld.1 hb, (hb.block _ (blk_lt hHeld.2)).trans hHeld.2⟩)
  have HOwb := Aside0.mk (Kd.R_lower ho hHeld.1.size); have HCwb := Aside0.mk hC; have HB_wb := Aside0.mk hb
  have HOw := Aside0.mk (Kd.R_below HOwa.out HB_wb.out)
  clear ho hb hc hC HB_wa HOwa HCwa
  refine hK.out _ _ (HS1.out) (fun hHeld => ?_)
  clear hK K
  refine norm_ (a' := ?_) ?_ ?_
  rotate_left
  · show Act.put _ (some 15) _ = _
    simp only [Act.put, List.setIfInBounds_toArray, List.set_cons_zero, List.set_cons_succ, i64_w, i32_w]
    rfl
  clear HS1
  refine one_ (i := 8) (N := some 16) #[true, true, true, true, true, true, true, true, true, false] rfl rfl (one_of HT_.out (by kernel_rfl)) (by decide) (fun K hK => ?_)
  refine Kd.R_append_rows_step (Kd.int .u8) (Rr := fun y cs => cs = [Value.int .u8 y]) (w0 := w) w.heap.size (by rfl) (.tmp 11) (.tmp 15) 37 5 (.int .u8 0) 1 rfl Try.underlying37 POct.info5 rfl (by decide) (by decide) _ z1 z2 Awb z2.length cwb (fun _ => True) (fun _ => False) rfl rfl HOw.out HCwb.out (fun _ _ h => h) (fun _ h => h.elim) (fun _ _ => trivial) hHeld.1 hHeld.1.size (by have := HLS.out; omega) ?_
  intro v5 wc ho5 hB5 hg5 _
  rw [HZC.out] at ho5
  obtain ⟨A5, c5, rfl, hc5, _⟩ := Kd.R_reads ho5
  have HS1 := Aside0.mk (show Below w.heap.size w wc ∧ It wc g1 x from ⟨hB5, blk_grown hHeld.2 hg5 (Kd.R_ne HOw.out hHeld.2 (by decide))⟩)
  have HO5 := Aside0.mk ho5; clear ho5 hB5 hg5 hc5 HB_wb HOwb HCwb HOw
  refine hK.out _ _ (HS1.out) (fun hHeld => ?_)
  clear hK K
  refine norm_ (a' := ?_) ?_ ?_
  rotate_left
  · show Act.put _ (some 16) _ = _
    simp only [Act.put, List.setIfInBounds_toArray, List.set_cons_zero, List.set_cons_succ, i64_w, i32_w]
    rfl
  clear HS1
  refine pure_ (i := 9) (N := some 4) (v := ?_) (a' := ?_) #[true, true, true, true, true, true, true, true, true, true] rfl rfl (any_of HT_.out (by kernel_rfl)) (fun _ _ _ h => h) (Or.inl ⟨by rfl, ?_⟩) ?_ ?_
  rotate_left
  · intro w'
    go_simp
    with_reducible rfl
  rotate_left
  · simp only [Act.put, List.setIfInBounds_toArray, List.set_cons_zero, List.set_cons_succ, i64_w, i32_w]
    rfl
  refine done_ (done_of HT_.out (by kernel_rfl)) ?_
  clear HT_ HW_
  have HB5 := Aside0.mk hHeld.1; have HG5 := Aside0.mk hHeld.2; clear hHeld
  go_wp2_with fail
  have HOq := Aside0.mk (Kd.R_below HO5.out (below_drew1 (Below.refl _ _)))
  refine start_ (n := 12) (S := (fun W_ => Below w.heap.size w W_ ∧ It W_ g1 x)) (ds := []) #[false, false, false, false, false, false, false, false, false, false, false, false] (by kernel_rfl) rfl rfl (⟨below_drew1 HB5.out, HG5.out⟩) (fun hHeld => ?_); refine with_tabW rb4tab rb4bits (fun HT_ HW_ => ?_)
  generalize wc.drew = wq at hHeld HOq ⊢
  refine pure_ (i := 0) (N := some 17) (v := ?_) (a' := ?_) #[true, false, false, false, false, false, false, false, false, false, false, false] rfl rfl (any_of HT_.out (by kernel_rfl)) (fun _ _ _ h => h) (Or.inl ⟨by rfl, ?_⟩) ?_ ?_
  rotate_left
  · intro w'
    go_simp
    with_reducible rfl
  rotate_left
  · simp only [Act.put, List.setIfInBounds_toArray, List.set_cons_zero, List.set_cons_succ, i64_w, i32_w]
    rfl
  refine pure_ (i := 1) (N := some 18) (v := ?_) (a' := ?_) #[true, true, false, false, false, false, false, false, false, false, false, false] rfl rfl (any_of HT_.out (by kernel_rfl)) (fun _ _ _ h => h) (Or.inl ⟨by rfl, ?_⟩) ?_ ?_
  rotate_left
  · intro w'
    go_simp
    with_reducible rfl
  rotate_left
  · simp only [Act.put, List.setIfInBounds_toArray, List.set_cons_zero, List.set_cons_succ, i64_w, i32_w]
    rfl
  refine take_ (i := 2) (N := some 19) (v := ?_) (a' := ?_) #[true, true, true, false, false, false, false, false, false, false, false, false] rfl rfl (take_ofW HT_.out HW_.out (by kernel_rfl)) (fun _ _ _ h => h) (Or.inl ⟨by rfl, ?_⟩) hHeld ?_ ?_
  rotate_left
  · intro w' hw'
    have hf0_ := it_cell hw'.2 2 _ rfl
    go_simp
    with_reducible rfl
  rotate_left
  · simp only [Act.put, List.setIfInBounds_toArray, List.set_cons_zero, List.set_cons_succ, i64_w, i32_w]
    rfl
  refine pure_ (i := 5) (N := some 22) (v := ?_) (a' := ?_) #[true, true, true, false, false, true, false, false, false, false, false, false] rfl rfl (any_of HT_.out (by kernel_rfl)) (fun _ _ _ h => h) (Or.inl ⟨by rfl, ?_⟩) ?_ ?_
  rotate_left
  · intro w'
    go_simp
    with_reducible rfl
  rotate_left
  · simp only [Act.put, List.setIfInBounds_toArray, List.set_cons_zero, List.set_cons_succ, i64_w, i32_w]
    rfl
  refine take_ (i := 6) (N := some 23) (v := ?_) (a' := ?_) #[true, true, true, false, false, true, true, false, false, false, false, false] rfl rfl (take_ofW HT_.out HW_.out (by kernel_rfl)) (fun _ _ _ h => h) (Or.inl ⟨by rfl, ?_⟩) hHeld ?_ ?_
  rotate_left
  · intro w' hw'
    have hf0_ := it_cell hw'.2 3 _ rfl
    go_simp
    with_reducible rfl
  rotate_left
  · simp only [Act.put, List.setIfInBounds_toArray, List.set_cons_zero, List.set_cons_succ, i64_w, i32_w]
    rfl
  refine pure_ (i := 7) (N := some 24) (v := ?_) (a' := ?_) #[true, true, true, false, false, true, true, true, false, false, false, false] rfl rfl (any_of HT_.out (by kernel_rfl)) (fun _ _ _ h => h) (Or.inl ⟨by rfl, ?_⟩) ?_ ?_
  rotate_left
  · intro w'
    go_simp
    with_reducible rfl
  rotate_left
  · simp only [Act.put, List.setIfInBounds_toArray, List.set_cons_zero, List.set_cons_succ, i64_w, i32_w]
    rfl
  refine pure_ (i := 8) (N := some 25) (v := ?_) (a' := ?_) #[true, true, true, false, false, true, true, true, true, false, false, false] rfl rfl (any_of HT_.out (by kernel_rfl)) (fun _ _ _ h => h) (Or.inl ⟨by rfl, ?_⟩) ?_ ?_
  rotate_left
  · intro w'
    go_simp
    with_reducible rfl
  rotate_left
  · simp only [Act.put, List.setIfInBounds_toArray, List.set_cons_zero, List.set_cons_succ, i64_w, i32_w]
    rfl
  refine join_ (σ := (Option Addr × Nat) × (Option Addr × Nat) × Nat) 2 #[true, true, true, true, true, true, true, true, true, true, false, false] (fun s => [(20, .slice s.1.1 z3.length s.1.2), (21, .slice s.2.1.1 zq.length s.2.1.2), (26, .slice (some ⟨s.2.2, 0, none⟩) 1 1)]) (fun s w' => (Below w.heap.size w w' ∧ It w' g1 x) ∧ RB w' w.heap.size (.slice s.2.1.1 zq.length s.2.1.2) zq ∧ CB w' (some ⟨s.2.2, 0, none⟩) [(x.ten.size : Int)]) ?_ ?_
  rotate_left
  · intro HJn
    refine two_ (i := 3) (j := 9) (Ni := some 20) (Nj := some 26) #[true, true, true, true, false, true, true, true, true, false, false, false] #[true, true, true, false, false, true, true, true, true, true, false, false] rfl rfl rfl rfl (two_of HT_.out (by kernel_rfl)) (by decide) (by decide) (fun K hK => ?_) (fun K hK => ?_)
    · skip
      refine goes_ Try.func35 (by kernel_rfl) rfl #[.int .u64 x.serial] (by rfl) rfl rfl (by (try simp only [List.map_toArray, List.map_cons, List.map_nil]); first | done | rfl) ?_
      refine (POct.cofferref1_Eight.calls 40 x.serial z3 _ f3.out).mono ?_
      rintro ep wd ⟨v3, rfl, ho, hb⟩; refine ⟨_, rfl, ?_⟩
      obtain ⟨A3, c3, rfl, hc, hC⟩ := Kd.R_reads ho
      have HS1 := Aside0.mk (show Below w.heap.size w wd ∧ It wd g1 x from ⟨below_step hHeld.1 hb, (hb.block _ (blk_lt hHeld.2)).trans hHeld.2⟩); have HC3 := Aside0.mk hC; have HB3 := Aside0.mk hb
      have HOd := Aside0.mk (Kd.R_below HOq.out hb)
      clear ho hb hc hC
      refine hK.out _ _ (HS1.out) (fun hHeld => ?_)
      clear hK K
      refine norm_ (a' := ?_) ?_ ?_
      rotate_left
      · show Act.put _ (some 20) _ = _
        simp only [Act.put, List.setIfInBounds_toArray, List.set_cons_zero, List.set_cons_succ, i64_w, i32_w]
        rfl
      clear HS1
      refine two_ (i := 4) (j := 9) (Ni := some 21) (Nj := some 26) #[true, true, true, true, true, true, true, true, true, false, false, false] #[true, true, true, true, false, true, true, true, true, true, false, false] rfl rfl rfl rfl (two_of HT_.out (by kernel_rfl)) (by decide) (by decide) (fun K hK => ?_) (fun K hK => ?_)
      · skip
        refine Kd.R_append_rows_step (Kd.int .u8) (Rr := fun y cs => cs = [Value.int .u8 y]) (w0 := w) w.heap.size (by rfl) (.tmp 17) (.tmp 20) 37 5 (.int .u8 0) 1 rfl Try.underlying37 POct.info5 rfl (by decide) (by decide) _ zc z3 A3 z3.length c3 (fun _ => True) (fun _ => False) rfl rfl HOd.out HC3.out (fun _ _ h => h) (fun _ h => h.elim) (fun _ _ => trivial) hHeld.1 hHeld.1.size (by have := HLS.out; omega) ?_
        intro v4 we ho4 hB4 hg4 hat4
        rw [HZQ.out] at ho4
        obtain ⟨A4, c4, rfl, hc4, _⟩ := Kd.R_reads ho4
        have HS1 := Aside0.mk (show Below w.heap.size w we ∧ It we g1 x from ⟨hB4, blk_grown hHeld.2 hg4 (Kd.R_ne HOd.out hHeld.2 (by decide))⟩)
        have HO4 := Aside0.mk ho4
        refine hK.out _ _ (HS1.out) (fun hHeld => ?_)
        clear hK K
        refine norm_ (a' := ?_) ?_ ?_
        rotate_left
        · show Act.put _ (some 21) _ = _
          simp only [Act.put, List.setIfInBounds_toArray, List.set_cons_zero, List.set_cons_succ, i64_w, i32_w]
          rfl
        clear HS1
        refine one_ (i := 9) (N := some 26) #[true, true, true, true, true, true, true, true, true, true, false, false] rfl rfl (one_of HT_.out (by kernel_rfl)) (by decide) (fun K hK => ?_)
        have HBn := Aside0.mk ((Below.refl we.heap.size we).alloc (Nat.le_refl _) (.cells (nums .u8 [(x.ten.size : Int)]).toArray 5))
        have HS1 := Aside0.mk (show Below w.heap.size w (we.alloc (.cells (nums .u8 [(x.ten.size : Int)]).toArray 5)) ∧ It (we.alloc (.cells (nums .u8 [(x.ten.size : Int)]).toArray 5)) g1 x from ⟨hHeld.1.alloc hHeld.1.size _, (HBn.out.block _ (blk_lt hHeld.2)).trans hHeld.2⟩)
        have HLn := Aside0.mk (lit_reads we [(x.ten.size : Int)] (by simp)); have hlg := Aside0.mk (show we.heap.size < (we.alloc (.cells (nums .u8 [(x.ten.size : Int)]).toArray 5)).heap.size from by rw [Sw.size_alloc]; omega)
        have HOf := Aside0.mk (Kd.R_below HO4.out HBn.out)
        refine value_ (w1 := we.alloc (.cells (nums .u8 [(x.ten.size : Int)]).toArray 5)) (v := .slice (some ⟨we.heap.size, 0, none⟩) 1 1) (by rfl) rfl (by go_simp; rfl) ?_
        generalize we.alloc (.cells (nums .u8 [(x.ten.size : Int)]).toArray 5) = wf at HS1 HLn hlg HBn HOf ⊢
        have hge := Aside0.mk (fun k (hk : k < we.heap.size) => Nat.ne_of_lt hk)
        generalize hgg : we.heap.size = gb at HLn hlg hge ⊢
        refine hK.out _ _ (HS1.out) (fun hHeld => ?_)
        clear hK K
        refine norm_ (a' := ?_) ?_ ?_
        rotate_left
        · show Act.put _ (some 26) _ = _
          simp only [Act.put, List.setIfInBounds_toArray, List.set_cons_zero, List.set_cons_succ, i64_w, i32_w]
          rfl
        exact norm_ (by rfl) (HJn ((A3, c3), (A4, c4), gb) _ ⟨hHeld, HOf.out, HLn.out⟩)
      · have hltd := Aside0.mk (fun k hk => Kd.R_lt HOd.out k hk)
        have HBn := Aside0.mk ((Below.refl wd.heap.size wd).alloc (Nat.le_refl _) (.cells (nums .u8 [(x.ten.size : Int)]).toArray 5))
        have HS1 := Aside0.mk (show Below w.heap.size w (wd.alloc (.cells (nums .u8 [(x.ten.size : Int)]).toArray 5)) ∧ It (wd.alloc (.cells (nums .u8 [(x.ten.size : Int)]).toArray 5)) g1 x from ⟨hHeld.1.alloc hHeld.1.size _, (HBn.out.block _ (blk_lt hHeld.2)).trans hHeld.2⟩)
        have HLn := Aside0.mk (lit_reads wd [(x.ten.size : Int)] (by simp)); have hlg := Aside0.mk (show wd.heap.size < (wd.alloc (.cells (nums .u8 [(x.ten.size : Int)]).toArray 5)).heap.size from by rw [Sw.size_alloc]; omega)
        have HOe := Aside0.mk (Kd.R_below HOd.out HBn.out)
        refine value_ (w1 := wd.alloc (.cells (nums .u8 [(x.ten.size : Int)]).toArray 5)) (v := .slice (some ⟨wd.heap.size, 0, none⟩) 1 1) (by rfl) rfl (by go_simp; rfl) ?_
        generalize wd.alloc (.cells (nums .u8 [(x.ten.size : Int)]).toArray 5) = we at HS1 HLn hlg HBn HOe ⊢
        have hge := Aside0.mk (fun k (hk : k < wd.heap.size) => Nat.ne_of_lt hk)
        generalize hgg : wd.heap.size = gb at HLn hlg hge ⊢
        have HC3e := Aside0.mk (Kd.C_below HC3.out HBn.out)
        refine hK.out _ _ (HS1.out) (fun hHeld => ?_)
        clear hK K
        refine norm_ (a' := ?_) ?_ ?_
        rotate_left
        · show Act.put _ (some 26) _ = _
          simp only [Act.put, List.setIfInBounds_toArray, List.set_cons_zero, List.set_cons_succ, i64_w, i32_w]
          rfl
        clear HS1
        refine one_ (i := 4) (N := some 21) #[true, true, true, true, true, true, true, true, true, true, false, false] rfl rfl (one_of HT_.out (by kernel_rfl)) (by decide) (fun K hK => ?_)
        refine Kd.R_append_rows_step (Kd.int .u8) (Rr := fun y cs => cs = [Value.int .u8 y]) (w0 := w) w.heap.size (by rfl) (.tmp 17) (.tmp 20) 37 5 (.int .u8 0) 1 rfl Try.underlying37 POct.info5 rfl (by decide) (by decide) _ zc z3 A3 z3.length c3 (fun _ => True) (fun _ => False) rfl rfl HOe.out HC3e.out (fun _ _ h => h) (fun _ h => h.elim) (fun _ _ => trivial) hHeld.1 hHeld.1.size (by have := HLS.out; omega) ?_
        intro v4 wf ho4 hB4 hg4 hat4
        rw [HZQ.out] at ho4
        obtain ⟨A4, c4, rfl, hc4, _⟩ := Kd.R_reads ho4
        have HS1 := Aside0.mk (show Below w.heap.size w wf ∧ It wf g1 x from ⟨hB4, blk_grown hHeld.2 hg4 (Kd.R_ne HOe.out hHeld.2 (by decide))⟩)
        have HLf := Aside0.mk (C_same HLn.out (same_block hg4 hlg.out (fun h => by have := hltd.out _ h.symm; rw [hgg] at this; omega)))
        refine hK.out _ _ (HS1.out) (fun hHeld => ?_)
        clear hK K
        refine norm_ (a' := ?_) ?_ ?_
        rotate_left
        · show Act.put _ (some 21) _ = _
          simp only [Act.put, List.setIfInBounds_toArray, List.set_cons_zero, List.set_cons_succ, i64_w, i32_w]
          rfl
        exact norm_ (by rfl) (HJn ((A3, c3), (A4, c4), gb) _ ⟨hHeld, ho4, HLf.out⟩)
    · have hltq := Aside0.mk (fun k hk => Kd.R_lt HOq.out k hk)
      have HBn := Aside0.mk ((Below.refl wq.heap.size wq).alloc (Nat.le_refl _) (.cells (nums .u8 [(x.ten.size : Int)]).toArray 5))
      have HS1 := Aside0.mk (show Below w.heap.size w (wq.alloc (.cells (nums .u8 [(x.ten.size : Int)]).toArray 5)) ∧ It (wq.alloc (.cells (nums .u8 [(x.ten.size : Int)]).toArray 5)) g1 x from ⟨hHeld.1.alloc hHeld.1.size _, (HBn.out.block _ (blk_lt hHeld.2)).trans hHeld.2⟩)
      have HLn := Aside0.mk (lit_reads wq [(x.ten.size : Int)] (by simp)); have hlg := Aside0.mk (show wq.heap.size < (wq.alloc (.cells (nums .u8 [(x.ten.size : Int)]).toArray 5)).heap.size from by rw [Sw.size_alloc]; omega)
      have HOd := Aside0.mk (Kd.R_below HOq.out HBn.out)
      refine value_ (w1 := wq.alloc (.cells (nums .u8 [(x.ten.size : Int)]).toArray 5)) (v := .slice (some ⟨wq.heap.size, 0, none⟩) 1 1) (by rfl) rfl (by go_simp; rfl) ?_
      generalize wq.alloc (.cells (nums .u8 [(x.ten.size : Int)]).toArray 5) = wd at HS1 HLn hlg HBn HOd ⊢
      have hge := Aside0.mk (fun k (hk : k < wq.heap.size) => Nat.ne_of_lt hk)
      generalize hgg : wq.heap.size = gb at HLn hlg hge ⊢
      refine hK.out _ _ (HS1.out) (fun hHeld => ?_)
      clear hK K
      refine norm_ (a' := ?_) ?_ ?_
      rotate_left
      · show Act.put _ (some 26) _ = _
        simp only [Act.put, List.setIfInBounds_toArray, List.set_cons_zero, List.set_cons_succ, i64_w, i32_w]
        rfl
      clear HS1
      refine one_ (i := 3) (N := some 20) #[true, true, true, true, false, true, true, true, true, true, false, false] rfl rfl (one_of HT_.out (by kernel_rfl)) (by decide) (fun K hK => ?_)
      refine goes_ Try.func35 (by kernel_rfl) rfl #[.int .u64 x.serial] (by rfl) rfl rfl (by (try simp only [List.map_toArray, List.map_cons, List.map_nil]); first | done | rfl) ?_
      refine (POct.cofferref1_Eight.calls 40 x.serial z3 _ f3.out).mono ?_
      rintro ep we ⟨v3, rfl, ho, hb⟩; refine ⟨_, rfl, ?_⟩
      obtain ⟨A3, c3, rfl, hc, hC⟩ := Kd.R_reads ho
      have HS1 := Aside0.mk (show Below w.heap.size w we ∧ It we g1 x from ⟨below_step hHeld.1 hb, (hb.block _ (blk_lt hHeld.2)).trans hHeld.2⟩); have HC3 := Aside0.mk hC; have HB3 := Aside0.mk hb
      have HOe := Aside0.mk (Kd.R_below HOd.out hb)
      have HLe := Aside0.mk (Kd.C_below HLn.out hb)
      clear ho hb hc hC
      have hlg2 := Aside0.mk (Nat.lt_of_lt_of_le hlg.out HB3.out.size)
      refine hK.out _ _ (HS1.out) (fun hHeld => ?_)
      clear hK K
      refine norm_ (a' := ?_) ?_ ?_
      rotate_left
      · show Act.put _ (some 20) _ = _
        simp only [Act.put, List.setIfInBounds_toArray, List.set_cons_zero, List.set_cons_succ, i64_w, i32_w]
        rfl
      clear HS1
      refine one_ (i := 4) (N := some 21) #[true, true, true, true, true, true, true, true, true, true, false, false] rfl rfl (one_of HT_.out (by kernel_rfl)) (by decide) (fun K hK => ?_)
      refine Kd.R_append_rows_step (Kd.int .u8) (Rr := fun y cs => cs = [Value.int .u8 y]) (w0 := w) w.heap.size (by rfl) (.tmp 17) (.tmp 20) 37 5 (.int .u8 0) 1 rfl Try.underlying37 POct.info5 rfl (by decide) (by decide) _ zc z3 A3 z3.length c3 (fun _ => True) (fun _ => False) rfl rfl HOe.out HC3.out (fun _ _ h => h) (fun _ h => h.elim) (fun _ _ => trivial) hHeld.1 hHeld.1.size (by have := HLS.out; omega) ?_
      intro v4 wf ho4 hB4 hg4 hat4
      rw [HZQ.out] at ho4
      obtain ⟨A4, c4, rfl, hc4, _⟩ := Kd.R_reads ho4
      have HS1 := Aside0.mk (show Below w.heap.size w wf ∧ It wf g1 x from ⟨hB4, blk_grown hHeld.2 hg4 (Kd.R_ne HOe.out hHeld.2 (by decide))⟩)
      have HLf := Aside0.mk (C_same HLe.out (same_block hg4 hlg2.out (fun h => by have := hltq.out _ h.symm; rw [hgg] at this; omega)))
      refine hK.out _ _ (HS1.out) (fun hHeld => ?_)
      clear hK K
      refine norm_ (a' := ?_) ?_ ?_
      rotate_left
      · show Act.put _ (some 21) _ = _
        simp only [Act.put, List.setIfInBounds_toArray, List.set_cons_zero, List.set_cons_succ, i64_w, i32_w]
        rfl
      exact norm_ (by rfl) (HJn ((A3, c3), (A4, c4), gb) _ ⟨hHeld, ho4, HLf.out⟩)
  rintro ⟨⟨A3, c3⟩, ⟨A4, c4⟩, gb⟩ wj ⟨hHeld, ho4, hcl⟩
  have HO4 := Aside0.mk ho4; have HCl := Aside0.mk hcl; clear ho4 hcl HOq HO5 HB5 HG5
  refine norm_ (a' := ?_) ?_ ?_
  rotate_left
  · simp only [putAll]
    simp only [Act.put, List.setIfInBounds_toArray, List.set_cons_zero, List.set_cons_succ, i64_w, i32_w]
    rfl
  refine one_ (i := 10) (N := some 27) #[true, true, true, true, true, true, true, true, true, true, true, false] rfl rfl (one_of HT_.out (by kernel_rfl)) (by decide) (fun K hK => ?_)
  refine Kd.R_append_rows_step (Kd.int .u8) (Rr := fun y cs => cs = [Value.int .u8 y]) (w0 := w) w.heap.size (by rfl) (.tmp 21) (.tmp 26) 37 5 (.int .u8 0) 1 rfl Try.underlying37 POct.info5 rfl (by decide) (by decide) _ zq [(x.ten.size : Int)] (some ⟨gb, 0, none⟩) 1 1 (fun _ => True) (fun _ => False) rfl rfl HO4.out HCl.out (fun _ _ h => h) (fun _ h => h.elim) (fun _ _ => trivial) hHeld.1 hHeld.1.size (by have := HLS.out; omega) ?_
  intro v5 wk ho5 hB5 hg5 _
  rw [HZD.out] at ho5
  obtain ⟨A5, c5, rfl, hc5, _⟩ := Kd.R_reads ho5
  have HS1 := Aside0.mk (show Below w.heap.size w wk ∧ It wk g1 x from ⟨hB5, blk_grown hHeld.2 hg5 (Kd.R_ne HO4.out hHeld.2 (by decide))⟩)
  have HO6 := Aside0.mk ho5; clear ho5 hB5 hg5 hc5 HO4 HCl
  refine hK.out _ _ (HS1.out) (fun hHeld => ?_)
  clear hK K
  refine norm_ (a' := ?_) ?_ ?_
  rotate_left
  · show Act.put _ (some 27) _ = _
    simp only [Act.put, List.setIfInBounds_toArray, List.set_cons_zero, List.set_cons_succ, i64_w, i32_w]
    rfl
  clear HS1
  refine pure_ (i := 11) (N := some 4) (v := ?_) (a' := ?_) #[true, true, true, true, true, true, true, true, true, true, true, true] rfl rfl (any_of HT_.out (by kernel_rfl)) (fun _ _ _ h => h) (Or.inl ⟨by rfl, ?_⟩) ?_ ?_
  rotate_left
  · intro w'
    go_simp
    with_reducible rfl
  rotate_left
  · simp only [Act.put, List.setIfInBounds_toArray, List.set_cons_zero, List.set_cons_succ, i64_w, i32_w]
    rfl
  refine done_ (done_of HT_.out (by kernel_rfl)) ?_
  clear HT_ HW_
  have HB6 := Aside0.mk hHeld.1; have HG6 := Aside0.mk hHeld.2; clear hHeld
  go_wp2_with fail
  have HOq := Aside0.mk (Kd.R_below HO6.out (below_drew1 (Below.refl _ _)))
  refine start_ (n := 18) (S := (fun W_ => Below w.heap.size w W_ ∧ It W_ g1 x)) (ds := []) #[false, false, false, false, false, false, false, false, false, false, false, false, false, false, false, false, false, false] (by kernel_rfl) rfl rfl (⟨below_drew1 HB6.out, HG6.out⟩) (fun hHeld => ?_); refine with_tabW rb5tab rb5bits (fun HT_ HW_ => ?_)
  generalize wk.drew = wq at hHeld HOq ⊢
  refine pure_ (i := 0) (N := some 28) (v := ?_) (a' := ?_) #[true, false, false, false, false, false, false, false, false, false, false, false, false, false, false, false, false, false] rfl rfl (any_of HT_.out (by kernel_rfl)) (fun _ _ _ h => h) (Or.inl ⟨by rfl, ?_⟩) ?_ ?_
  rotate_left
  · intro w'
    go_simp
    with_reducible rfl
  rotate_left
  · simp only [Act.put, List.setIfInBounds_toArray, List.set_cons_zero, List.set_cons_succ, i64_w, i32_w]
    rfl
  refine pure_ (i := 1) (N := some 29) (v := ?_) (a' := ?_) #[true, true, false, false, false, false, false, false, false, false, false, false, false, false, false, false, false, false] rfl rfl (any_of HT_.out (by kernel_rfl)) (fun _ _ _ h => h) (Or.inl ⟨by rfl, ?_⟩) ?_ ?_
  rotate_left
  · intro w'
    go_simp
    with_reducible rfl
  rotate_left
  · simp only [Act.put, List.setIfInBounds_toArray, List.set_cons_zero, List.set_cons_succ, i64_w, i32_w]
    rfl
  refine take_ (i := 2) (N := some 30) (v := ?_) (a' := ?_) #[true, true, true, false, false, false, false, false, false, false, false, false, false, false, false, false, false, false] rfl rfl (take_ofW HT_.out HW_.out (by kernel_rfl)) (fun _ _ _ h => h) (Or.inl ⟨by rfl, ?_⟩) hHeld ?_ ?_
  rotate_left
  · intro w' hw'
    have hf0_ := it_cell hw'.2 3 _ rfl
    go_simp
    with_reducible rfl
  rotate_left
  · simp only [Act.put, List.setIfInBounds_toArray, List.set_cons_zero, List.set_cons_succ, i64_w, i32_w]
    rfl
  refine pure_ (i := 4) (N := some 32) (v := ?_) (a' := ?_) #[true, true, true, false, true, false, false, false, false, false, false, false, false, false, false, false, false, false] rfl rfl (any_of HT_.out (by kernel_rfl)) (fun _ _ _ h => h) (Or.inl ⟨by rfl, ?_⟩) ?_ ?_
  rotate_left
  · intro w'
    go_simp
    with_reducible rfl
  rotate_left
  · simp only [Act.put, List.setIfInBounds_toArray, List.set_cons_zero, List.set_cons_succ, i64_w, i32_w]
    rfl
  refine take_ (i := 5) (N := some 33) (v := ?_) (a' := ?_) #[true, true, true, false, true, true, false, false, false, false, false, false, false, false, false, false, false, false] rfl rfl (take_ofW HT_.out HW_.out (by kernel_rfl)) (fun _ _ _ h => h) (Or.inl ⟨by rfl, ?_⟩) hHeld ?_ ?_
  rotate_left
  · intro w' hw'
    have hf0_ := it_cell hw'.2 4 _ rfl
    go_simp
    with_reducible rfl
  rotate_left
  · simp only [Act.put, List.setIfInBounds_toArray, List.set_cons_zero, List.set_cons_succ, i64_w, i32_w]
    rfl
  refine pure_ (i := 6) (N := some 34) (v := ?_) (a' := ?_) #[true, true, true, false, true, true, true, false, false, false, false, false, false, false, false, false, false, false] rfl rfl (any_of HT_.out (by kernel_rfl)) (fun _ _ _ h => h) (Or.inl ⟨by rfl, ?_⟩) ?_ ?_
  rotate_left
  · intro w'
    go_simp
    with_reducible rfl
  rotate_left
  · simp only [Act.put, List.setIfInBounds_toArray, List.set_cons_zero, List.set_cons_succ, i64_w, i32_w]
    rfl
  refine pure_ (i := 7) (N := some 35) (v := ?_) (a' := ?_) #[true, true, true, false, true, true, true, true, false, false, false, false, false, false, false, false, false, false] rfl rfl (any_of HT_.out (by kernel_rfl)) (fun _ _ _ h => h) (Or.inl ⟨by rfl, ?_⟩) ?_ ?_
  rotate_left
  · intro w'
    go_simp
    with_reducible rfl
  rotate_left
  · simp only [Act.put, List.setIfInBounds_toArray, List.set_cons_zero, List.set_cons_succ, i64_w, i32_w]
    rfl
  refine take_ (i := 8) (N := some 36) (v := ?_) (a' := ?_) #[true, true, true, false, true, true, true, true, true, false, false, false, false, false, false, false, false, false] rfl rfl (take_ofW HT_.out HW_.out (by kernel_rfl)) (fun _ _ _ h => h) (Or.inl ⟨by rfl, ?_⟩) hHeld ?_ ?_
  rotate_left
  · intro w' hw'
    have hf0_ := it_cell hw'.2 5 _ rfl
    go_simp
    with_reducible rfl
  rotate_left
  · simp only [Act.put, List.setIfInBounds_toArray, List.set_cons_zero, List.set_cons_succ, i64_w, i32_w]
    rfl
  refine pure_ (i := 9) (N := some 37) (v := ?_) (a' := ?_) #[true, true, true, false, true, true, true, true, true, true, false, false, false, false, false, false, false, false] rfl rfl (any_of HT_.out (by kernel_rfl)) (fun _ _ _ h => h) (Or.inl ⟨by rfl, ?_⟩) ?_ ?_
  rotate_left
  · intro w'
    go_simp
    with_reducible rfl
  rotate_left
  · simp only [Act.put, List.setIfInBounds_toArray, List.set_cons_zero, List.set_cons_succ, i64_w, i32_w]
    rfl
  refine pure_ (i := 10) (N := some 38) (v := ?_) (a' := ?_) #[true, true, true, false, true, true, true, true, true, true, true, false, false, false, false, false, false, false] rfl rfl (any_of HT_.out (by kernel_rfl)) (fun _ _ _ h => h) (Or.inl ⟨by rfl, ?_⟩) ?_ ?_
  rotate_left
  · intro w'
    go_simp
    with_reducible rfl
  rotate_left
  · simp only [Act.put, List.setIfInBounds_toArray, List.set_cons_zero, List.set_cons_succ, i64_w, i32_w]
    rfl
  refine pure_ (i := 11) (N := some 39) (v := ?_) (a' := ?_) #[true, true, true, false, true, true, true, true, true, true, true, true, false, false, false, false, false, false] rfl rfl (any_of HT_.out (by kernel_rfl)) (fun _ _ _ h => h) (Or.inl ⟨by rfl, ?_⟩) ?_ ?_
  rotate_left
  · intro w'
    go_simp
    with_reducible rfl
  rotate_left
  · simp only [Act.put, List.setIfInBounds_toArray, List.set_cons_zero, List.set_cons_succ, i64_w, i32_w]
    rfl
  refine take_ (i := 12) (N := some 40) (v := ?_) (a' := ?_) #[true, true, true, false, true, true, true, true, true, true, true, true, true, false, false, false, false, false] rfl rfl (take_ofW HT_.out HW_.out (by kernel_rfl)) (fun _ _ _ h => h) (Or.inl ⟨by rfl, ?_⟩) hHeld ?_ ?_
  rotate_left
  · intro w' hw'
    have hf0_ := it_cell hw'.2 5 _ rfl
    go_simp
    with_reducible rfl
  rotate_left
  · simp only [Act.put, List.setIfInBounds_toArray, List.set_cons_zero, List.set_cons_succ, i64_w, i32_w]
    rfl
  refine pure_ (i := 13) (N := some 41) (v := ?_) (a' := ?_) #[true, true, true, false, true, true, true, true, true, true, true, true, true, true, false, false, false, false] rfl rfl (any_of HT_.out (by kernel_rfl)) (fun _ _ _ h => h) (Or.inl ⟨by rfl, ?_⟩) ?_ ?_
  rotate_left
  · intro w'
    go_simp
    with_reducible rfl
  rotate_left
  · simp only [Act.put, List.setIfInBounds_toArray, List.set_cons_zero, List.set_cons_succ, i64_w, i32_w]
    rfl
  refine pure_ (i := 14) (N := some 42) (v := ?_) (a' := ?_) #[true, true, true, false, true, true, true, true, true, true, true, true, true, true, true, false, false, false] rfl rfl (any_of HT_.out (by kernel_rfl)) (fun _ _ _ h => h) (Or.inl ⟨by rfl, ?_⟩) ?_ ?_
  rotate_left
  · intro w'
    go_simp
    with_reducible rfl
  rotate_left
  · simp only [Act.put, List.setIfInBounds_toArray, List.set_cons_zero, List.set_cons_succ, i64_w, i32_w]
    rfl
  refine join_ (σ := (Option Addr × Nat) × Nat) 2 #[true, true, true, true, true, true, true, true, true, true, true, true, true, true, true, true, false, false] (fun s => [(31, .slice s.1.1 zt.length s.1.2), (43, .slice (some ⟨s.2, 0, none⟩) 3 3)]) (fun s w' => (Below w.heap.size w w' ∧ It w' g1 x) ∧ RB w' w.heap.size (.slice s.1.1 zt.length s.1.2) zt ∧ CB w' (some ⟨s.2, 0, none⟩) [x.act, sq, sr]) ?_ ?_
  rotate_left
  · intro HJn
    refine two_ (i := 3) (j := 15) (Ni := some 31) (Nj := some 43) #[true, true, true, true, true, true, true, true, true, true, true, true, true, true, true, false, false, false] #[true, true, true, false, true, true, true, true, true, true, true, true, true, true, true, true, false, false] rfl rfl rfl rfl (two_of HT_.out (by kernel_rfl)) (by decide) (by decide) (fun K hK => ?_) (fun K hK => ?_)
    · skip
      refine str_step (w0 := w) w.heap.size (by rfl) (.tmp 28) (.tmp 30) 37 9 rfl Try.underlying37 Try.underlying9 POct.info5 _ zd x.ten rfl rfl HOq.out hHeld.1 hHeld.1.size (by have := HLS.out; omega) ?_
      intro v4 we ho4 hB4 hg4
      rw [HZT.out] at ho4
      obtain ⟨A4, c4, rfl, hc4, _⟩ := Kd.R_reads ho4
      have HS1 := Aside0.mk (show Below w.heap.size w we ∧ It we g1 x from ⟨hB4, blk_grown hHeld.2 hg4 (Kd.R_ne HOq.out hHeld.2 (by decide))⟩)
      have HO4 := Aside0.mk ho4
      refine hK.out _ _ (HS1.out) (fun hHeld => ?_)
      clear hK K
      refine norm_ (a' := ?_) ?_ ?_
      rotate_left
      · show Act.put _ (some 31) _ = _
        simp only [Act.put, List.setIfInBounds_toArray, List.set_cons_zero, List.set_cons_succ, i64_w, i32_w]
        rfl
      clear HS1
      refine one_ (i := 15) (N := some 43) #[true, true, true, true, true, true, true, true, true, true, true, true, true, true, true, true, false, false] rfl rfl (one_of HT_.out (by kernel_rfl)) (by decide) (fun K hK => ?_)
      have HBn := Aside0.mk ((Below.refl we.heap.size we).alloc (Nat.le_refl _) (.cells (nums .u8 [x.act, sq, sr]).toArray 5))
      have HS1 := Aside0.mk (show Below w.heap.size w (we.alloc (.cells (nums .u8 [x.act, sq, sr]).toArray 5)) ∧ It (we.alloc (.cells (nums .u8 [x.act, sq, sr]).toArray 5)) g1 x from ⟨hHeld.1.alloc hHeld.1.size _, (HBn.out.block _ (blk_lt hHeld.2)).trans hHeld.2⟩)
      have HLn := Aside0.mk (lit_reads we [x.act, sq, sr] (by simp)); have hlg := Aside0.mk (show we.heap.size < (we.alloc (.cells (nums .u8 [x.act, sq, sr]).toArray 5)).heap.size from by rw [Sw.size_alloc]; omega)
      have HOf := Aside0.mk (Kd.R_below HO4.out HBn.out)
      refine value_ (w1 := we.alloc (.cells (nums .u8 [x.act, sq, sr]).toArray 5)) (v := .slice (some ⟨we.heap.size, 0, none⟩) 3 3) (by rfl) rfl (by go_simp; rfl) ?_
      generalize we.alloc (.cells (nums .u8 [x.act, sq, sr]).toArray 5) = wf at HS1 HLn hlg HBn HOf ⊢
      have hge := Aside0.mk (fun k (hk : k < we.heap.size) => Nat.ne_of_lt hk)
      generalize hgg : we.heap.size = gb at HLn hlg hge ⊢
      refine hK.out _ _ (HS1.out) (fun hHeld => ?_)
      clear hK K
      refine norm_ (a' := ?_) ?_ ?_
      rotate_left
      · show Act.put _ (some 43) _ = _
        simp only [Act.put, List.setIfInBounds_toArray, List.set_cons_zero, List.set_cons_succ, i64_w, i32_w]
        rfl
      exact norm_ (by rfl) (HJn ((A4, c4), gb) _ ⟨hHeld, HOf.out, HLn.out⟩)
    · have hltd := Aside0.mk (fun k hk => Kd.R_lt HOq.out k hk)
      have HBn := Aside0.mk ((Below.refl wq.heap.size wq).alloc (Nat.le_refl _) (.cells (nums .u8 [x.act, sq, sr]).toArray 5))
      have HS1 := Aside0.mk (show Below w.heap.size w (wq.alloc (.cells (nums .u8 [x.act, sq, sr]).toArray 5)) ∧ It (wq.alloc (.cells (nums .u8 [x.act, sq, sr]).toArray 5)) g1 x from ⟨hHeld.1.alloc hHeld.1.size _, (HBn.out.block _ (blk_lt hHeld.2)).trans hHeld.2⟩)
      have HLn := Aside0.mk (lit_reads wq [x.act, sq, sr] (by simp)); have hlg := Aside0.mk (show wq.heap.size < (wq.alloc (.cells (nums .u8 [x.act, sq, sr]).toArray 5)).heap.size from by rw [Sw.size_alloc]; omega)
      have HOe := Aside0.mk (Kd.R_below HOq.out HBn.out)
      refine value_ (w1 := wq.alloc (.cells (nums .u8 [x.act, sq, sr]).toArray 5)) (v := .slice (some ⟨wq.heap.size, 0, none⟩) 3 3) (by rfl) rfl (by go_simp; rfl) ?_
      generalize wq.alloc (.cells (nums .u8 [x.act, sq, sr]).toArray 5) = we at HS1 HLn hlg HBn HOe ⊢
      have hge := Aside0.mk (fun k (hk : k < wq.heap.size) => Nat.ne_of_lt hk)
      generalize hgg : wq.heap.size = gb at HLn hlg hge ⊢
      refine hK.out _ _ (HS1.out) (fun hHeld => ?_)
      clear hK K
      refine norm_ (a' := ?_) ?_ ?_
      rotate_left
      · show Act.put _ (some 43) _ = _
        simp only [Act.put, List.setIfInBounds_toArray, List.set_cons_zero, List.set_cons_succ, i64_w, i32_w]
        rfl
      clear HS1
      refine one_ (i := 3) (N := some 31) #[true, true, true, true, true, true, true, true, true, true, true, true, true, true, true, true, false, false] rfl rfl (one_of HT_.out (by kernel_rfl)) (by decide) (fun K hK => ?_)
      refine str_step (w0 := w) w.heap.size (by rfl) (.tmp 28) (.tmp 30) 37 9 rfl Try.underlying37 Try.underlying9 POct.info5 _ zd x.ten rfl rfl HOe.out hHeld.1 hHeld.1.size (by have := HLS.out; omega) ?_
      intro v4 wf ho4 hB4 hg4
      rw [HZT.out] at ho4
      obtain ⟨A4, c4, rfl, hc4, _⟩ := Kd.R_reads ho4
      have HS1 := Aside0.mk (show Below w.heap.size w wf ∧ It wf g1 x from ⟨hB4, blk_grown hHeld.2 hg4 (Kd.R_ne HOe.out hHeld.2 (by decide))⟩)
      have HLf := Aside0.mk (C_same HLn.out (same_block hg4 hlg.out (fun h => by have := hltd.out _ h.symm; rw [hgg] at this; omega)))
      refine hK.out _ _ (HS1.out) (fun hHeld => ?_)
      clear hK K
      refine norm_ (a' := ?_) ?_ ?_
      rotate_left
      · show Act.put _ (some 31) _ = _
        simp only [Act.put, List.setIfInBounds_toArray, List.set_cons_zero, List.set_cons_succ, i64_w, i32_w]
        rfl
      exact norm_ (by rfl) (HJn ((A4, c4), gb) _ ⟨hHeld, ho4, HLf.out⟩)
  rintro ⟨⟨A4, c4⟩, gb⟩ wj ⟨hHeld, ho4, hcl⟩
  have HO4 := Aside0.mk ho4; have HCl := Aside0.mk hcl; clear ho4 hcl HOq HO6 HB6 HG6
  refine norm_ (a' := ?_) ?_ ?_
  rotate_left
  · simp only [putAll]
    simp only [Act.put, List.setIfInBounds_toArray, List.set_cons_zero, List.set_cons_succ, i64_w, i32_w]
    rfl
  refine one_ (i := 16) (N := some 44) #[true, true, true, true, true, true, true, true, true, true, true, true, true, true, true, true, true, false] rfl rfl (one_of HT_.out (by kernel_rfl)) (by decide) (fun K hK => ?_)
  refine Kd.R_append_rows_step (Kd.int .u8) (Rr := fun y cs => cs = [Value.int .u8 y]) (w0 := w) w.heap.size (by rfl) (.tmp 31) (.tmp 43) 37 5 (.int .u8 0) 1 rfl Try.underlying37 POct.info5 rfl (by decide) (by decide) _ zt [x.act, sq, sr] (some ⟨gb, 0, none⟩) 3 3 (fun _ => True) (fun _ => False) rfl rfl HO4.out HCl.out (fun _ _ h => h) (fun _ h => h.elim) (fun _ _ => trivial) hHeld.1 hHeld.1.size (by have := HLS.out; omega) ?_
  intro v5 wm ho5 hB5 hg5 _
  rw [HZ7.out] at ho5
  obtain ⟨A5, c5, rfl, hc5, _⟩ := Kd.R_reads ho5
  have HS1 := Aside0.mk (show Below w.heap.size w wm ∧ It wm g1 x from ⟨hB5, blk_grown hHeld.2 hg5 (Kd.R_ne HO4.out hHeld.2 (by decide))⟩)
  have HO7 := Aside0.mk ho5; clear ho5 hB5 hg5 hc5 HO4 HCl
  refine hK.out _ _ (HS1.out) (fun hHeld => ?_)
  clear hK K
  refine norm_ (a' := ?_) ?_ ?_
  rotate_left
  · show Act.put _ (some 44) _ = _
    simp only [Act.put, List.setIfInBounds_toArray, List.set_cons_zero, List.set_cons_succ, i64_w, i32_w]
    rfl
  clear HS1
  refine pure_ (i := 17) (N := some 4) (v := ?_) (a' := ?_) #[true, true, true, true, true, true, true, true, true, true, true, true, true, true, true, true, true, true] rfl rfl (any_of HT_.out (by kernel_rfl)) (fun _ _ _ h => h) (Or.inl ⟨by rfl, ?_⟩) ?_ ?_
  rotate_left
  · intro w'
    go_simp
    with_reducible rfl
  rotate_left
  · simp only [Act.put, List.setIfInBounds_toArray, List.set_cons_zero, List.set_cons_succ, i64_w, i32_w]
    rfl
  refine done_ (done_of HT_.out (by kernel_rfl)) ?_
  clear HT_ HW_
  have HB7 := Aside0.mk hHeld.1; have HG7 := Aside0.mk hHeld.2; clear hHeld
  have HCo := Aside0.mk (of_read HG7.out HOK.out)
  go_wp2_with (at_builtin; refine app_row (w0 := w) w.heap.size rfl (.tmp 45) (.tmp 47) 37 rfl Try.underlying37 POct.info5 _ z7 x.of (some ⟨g1, 6, none⟩) 32 rfl (by rw [show x.of.length = 32 from HOK.out]; rfl) HO7.out HCo.out HB7.out HB7.out.size (by have := HLS.out; rw [show x.of.length = 32 from HOK.out]; omega) ?_; intro zs A8 c8 w8 hzs hc8 HO8 HB8)
  go_ret2
  have hfin : zs = bytesE x := by
    rw [hzs.out, ← HZ7.out, ← HZT.out, ← HZD.out, ← HZQ.out, ← HZC.out]
    exact HFIN.out
  exact ⟨_, by rfl, by rw [← hfin]; exact HO8.out, HB8.out⟩
theorem ref_bytes_no (x : Ent) (w : World) (hok : Ok x) (hm : mayE x = false) :
    Calls Try.prog 17 #[.agg (cellsOf x).toArray] w fun e w' => e = .returned (.tuple #[.slice none 0 0, .int .i64 1]) ∧ Below w.heap.size w w' := by
  have HB0 := Aside0.mk ((Below.refl w.heap.size w).alloc (Nat.le_refl _) (.cells (cellsOf x).toArray 27))
  have HG0 := Aside0.mk (show It (w.alloc (.cells (cellsOf x).toArray 27)) w.heap.size x from heap_alloc_new w _)
  have HM := Aside0.mk hm
  clear hm
  go_enter Try.func17, Try.ntmps17
  go_wp2_with (first | (refine op_load rfl 27 (.tmp 1) rfl w.heap.size rfl 27 (cellsOf x).toArray _ HG0.out Try.underlying27 rfl 38 info27 (cells_sz hok) ?_))
  refine (ref_may_calls x _ hok).mono ?_
  rw [HM.out]
  rintro e1 w1 ⟨rfl, hb1⟩
  have HB1 := Aside0.mk (below_step HB0.out hb1)
  go_wp2_with fail
  go_ret2
  exact ⟨rfl, HB1.out⟩
/-- What the document's Bytes answers. -/
theorem ref_bytes_calls (x : Ent) (w : World) (hx : Wf x) :
    Calls Try.prog 17 #[.agg (cellsOf x).toArray] w fun e w' => ∃ v, e = .returned (.tuple #[v, .int .i64 (bytesOut x).2]) ∧ RB w' w.heap.size v (bytesOut x).1 ∧ Below w.heap.size w w' := by
  by_cases hm : mayE x = true
  · rw [show bytesOut x = (bytesE x, 0) by unfold bytesOut; rw [if_pos hm]]
    exact ref_bytes_yes x w hx hm
  · have hm' : mayE x = false := by simpa using hm
    rw [show bytesOut x = ([], 1) by unfold bytesOut; rw [if_neg hm]]
    exact (ref_bytes_no x w hx.1 hm').mono fun e w' h => ⟨_, h.1, RB.of_own ⟨by simp [nums], .inl ⟨rfl, rfl⟩⟩, h.2⟩
end Go.Proofs.Ytgpgblidplmchaa.Erb
namespace Go.Proofs.Ytgpgblidplmchaa.Lk
open Go.RowKit Go.Proofs.YtgpgblidplmchaaW.PrintWords Go.Proofs.YtgpgblidplmchaaW.PrintLast Go.Proofs.YtgpgblidplmchaaW.PrintMore
open Ag En Eb Ek Eh Spw Srs Sof
set_option linter.unusedVariables false
set_option linter.unusedSimpArgs false
set_option maxRecDepth 100000
def linkOut (hd : List Int) (x : Ent) : List Int × Int := if mayE x = true then (refB (hd ++ bytesE x), 0) else (id0, 1)
theorem refB_len (bs : List Int) : (refB bs).length = 32 := by unfold refB; exact Ssm.outB_len _
theorem refB_by (bs : List Int) : By (refB bs) := by
  intro y hy
  unfold refB Ssm.outB at hy
  obtain ⟨q, _, rfl⟩ := List.mem_map.1 hy
  omega
theorem id0_by : By id0 := fun y hy => by rw [List.eq_of_mem_replicate hy]; omega
theorem link_len (hd : List Int) (x : Ent) : (linkOut hd x).1.length = 32 := by unfold linkOut; split; exact refB_len _; exact id0_len
theorem link_by (hd : List Int) (x : Ent) : By (linkOut hd x).1 := by unfold linkOut; split; exact refB_by _; exact id0_by
theorem id_slice (g : Nat) (W : World) : (Instr.sliceAt 25 (.pointer (some ⟨g, 0, none⟩)) none none none).run Try.prog W = .ok (.slice (some ⟨g, 0, none⟩) 32 32) W := by
  have hu : Try.prog.underlying 25 = some (.array 32 5) := by kernel_rfl
  obtain ⟨i5, hi5, hs5⟩ : ∃ i, Try.prog.info? 5 = some i ∧ i.size = 1 := ⟨_, rfl, rfl⟩
  simp only [Instr.sliceAt, Sem.run_bind, run_underlying hu, Result.andThen_ok, Instr.sureAddr, Sem.run_pure, Instr.sliceBounds, Option.isSome_none, Bool.false_eq_true, if_false]
  simp [sizeOf, typeInfo, hi5, hs5, Sem.run_bind, Result.andThen, Sm.addr_add]
theorem idb_cb {W : World} {g : Nat} {l : List Int} (h : Idb W g l) (hl : l.length = 32) : CB W (some ⟨g, 0, none⟩) l :=
  CB.of_block h (by omega) fun j hj => by simp [nums, List.getElem?_eq_getElem hj, List.getD_eq_getElem?_getD]
theorem cell_new (W : World) (u v : Value) (t : TypeId) : (W.alloc (.cells #[u, v] t)).cell? ⟨W.heap.size, 0, none⟩ = some u ∧ (W.alloc (.cells #[u, v] t)).cell? ⟨W.heap.size, 1, none⟩ = some v := by
  have h := heap_alloc_new W (.cells #[u, v] t)
  exact ⟨by rw [blk_cell h]; rfl, by rw [blk_cell h]; rfl⟩
theorem of2 (W : World) (g c : Nat) (A : Option Addr) (hd ys : List Int) (hh : hd.length = 32) (hx : Idb W g hd) (hy : CB W A ys) (hc : ys.length ≤ c) (hl : ys.length < 1000000000) :
    Calls Try.prog 36 #[.slice (some ⟨W.heap.size, 0, none⟩) 2 2] (W.alloc (.cells #[.slice (some ⟨g, 0, none⟩) 32 32, .slice A ys.length c] 37)) fun e w' => e = .returned (.agg (nums .u8 (refB (hd ++ ys))).toArray) ∧ Below W.heap.size W w' := by
  have hb := (Below.refl W.heap.size W).alloc (Nat.le_refl _) (.cells #[.slice (some ⟨g, 0, none⟩) 32 32, .slice A ys.length c] 37)
  obtain ⟨h0, h1⟩ := cell_new W (.slice (some ⟨g, 0, none⟩) 32 32) (.slice A ys.length c) 37
  refine (of_calls _ W.heap.size (some ⟨g, 0, none⟩) A 32 c hd ys (by rw [hh]; exact h0) h1 (Kd.C_below (idb_cb hx hh) hb) (Kd.C_below hy hb) (by omega) hc (by omega)).mono ?_
  rintro _ w' ⟨rfl, h⟩
  exact ⟨by rw [← List.length_append, Seq.sum_is], hb.trans (h.mono hb.size)⟩
theorem refof2 (W : World) (g c : Nat) (A : Option Addr) (hd ys : List Int) (hh : hd.length = 32) (hx : Idb W g hd) (hy : CB W A ys) (hbx : By hd) (hby : By ys) (hl : ys.length < 1000000000) :
    Calls Try.prog 37 #[.slice (some ⟨W.heap.size, 0, none⟩) 2 2] (W.alloc (.cells #[.slice (some ⟨g, 0, none⟩) 32 32, .slice A ys.length c] 37)) fun e w' => e = .returned (.agg (nums .u8 (refB (hd ++ ys))).toArray) ∧ Below W.heap.size W w' := by
  have hb := (Below.refl W.heap.size W).alloc (Nat.le_refl _) (.cells #[.slice (some ⟨g, 0, none⟩) 32 32, .slice A ys.length c] 37)
  obtain ⟨h0, h1⟩ := cell_new W (.slice (some ⟨g, 0, none⟩) 32 32) (.slice A ys.length c) 37
  refine (Sro.refof_calls _ W.heap.size (some ⟨g, 0, none⟩) A 32 c hd ys (by rw [hh]; exact h0) h1 (Kd.C_below (idb_cb hx hh) hb) (Kd.C_below hy hb) hbx hby (by omega)).mono ?_
  rintro _ w' ⟨rfl, h⟩
  exact ⟨rfl, hb.trans (h.mono hb.size)⟩
structure L0 (w W : World) (g0 g1 g2 : Nat) (hd : List Int) (x : Ent) : Prop where
  below : Below w.heap.size w W
  h0 : Idb W g0 hd
  h1 : It W g1 x
  h2 : Idb W g2 id0
  ne : g0 < g1 ∧ g1 < g2 ∧ w.heap.size ≤ g0
theorem L0.start (w : World) (hd : List Int) (x : Ent) : L0 w (((w.alloc (.cells (nums .u8 hd).toArray 25)).alloc (.cells (cellsOf x).toArray 27)).alloc (.cells (nums .u8 id0).toArray 25)) w.heap.size (w.heap.size + 1) (w.heap.size + 1 + 1) hd x := by
  have e1 := Sw.size_alloc w (.cells (nums .u8 hd).toArray 25)
  generalize hA : w.alloc (.cells (nums .u8 hd).toArray 25) = A at e1 ⊢
  have e2 := Sw.size_alloc A (.cells (cellsOf x).toArray 27)
  generalize hB : A.alloc (.cells (cellsOf x).toArray 27) = B at e2 ⊢
  have a0 : Idb A w.heap.size hd := by rw [← hA]; exact heap_alloc_new w _
  have b1 : It B (w.heap.size + 1) x := by rw [← hB, ← e1]; exact heap_alloc_new A _
  have bA : Below w.heap.size w A := by rw [← hA]; exact (Below.refl _ _).alloc (Nat.le_refl _) _
  have bB : Below A.heap.size A B := by rw [← hB]; exact (Below.refl _ _).alloc (Nat.le_refl _) _
  have bC : Below B.heap.size B (B.alloc (.cells (nums .u8 id0).toArray 25)) := (Below.refl _ _).alloc (Nat.le_refl _) _
  refine ⟨(bA.trans (bB.mono (by omega))).trans (bC.mono (by omega)), (bC.block _ (by omega)).trans ((bB.block _ (by omega)).trans a0), (bC.block _ (by omega)).trans b1, ?_, by omega, by omega, Nat.le_refl _⟩
  rw [← e1, ← e2]
  exact heap_alloc_new B _
theorem L0.step {w W W2 : World} {g0 g1 g2 : Nat} {hd : List Int} {x : Ent} (h : L0 w W g0 g1 g2 hd x) (hb : Below W.heap.size W W2) : L0 w W2 g0 g1 g2 hd x :=
  ⟨h.below.trans (hb.mono h.below.size), (hb.block _ (blk_lt h.h0)).trans h.h0, (hb.block _ (blk_lt h.h1)).trans h.h1, (hb.block _ (blk_lt h.h2)).trans h.h2, h.ne⟩
set_option maxHeartbeats 1000000 in
theorem link_calls (hd : List Int) (x : Ent) (w : World) (hx : Wf x) (hh : hd.length = 32) (hby : By hd) :
    Calls Try.prog 18 #[.agg (nums .u8 hd).toArray, .agg (cellsOf x).toArray] w fun e w' => e = .returned (.tuple #[.agg (nums .u8 (linkOut hd x).1).toArray, .int .i64 (linkOut hd x).2]) ∧ Below w.heap.size w w' := by
  have HX := Aside0.mk (⟨hx, hh, hby⟩ : Wf x ∧ hd.length = 32 ∧ By hd)
  have HCZ := Aside0.mk (cells_sz hx.1)
  have HOK := Aside0.mk hx.1
  have HIZ := Aside0.mk (id_sz id0_len)
  have HS0 := Aside0.mk (L0.start w hd x)
  clear hx hh hby
  go_enter Try.func18, Try.ntmps18
  go_upto_region 1 with (first | (with_reducible refine op_alloc rfl 25 rfl _ zero25 ?_))
  generalize ((w.alloc (.cells (nums .u8 hd).toArray 25)).alloc (.cells (cellsOf x).toArray 27)).alloc (.cells (nums .u8 id0).toArray 25) = W1 at HS0 ⊢
  generalize w.heap.size + 1 + 1 = g2 at HS0 ⊢
  generalize w.heap.size + 1 = g1 at HS0 ⊢
  generalize w.heap.size = g0 at HS0 ⊢
  have HE := Aside0.mk (show W1.heap[g1]? = some (.cells (cellsOf x).toArray 27 (0, 0)) from HS0.out.h1)
  by_cases hm : mayE x = true
  · have HM := Aside0.mk hm
    have HLO := Aside0.mk (show linkOut hd x = (refB (hd ++ bytesE x), 0) from by unfold linkOut; rw [if_pos hm])
    clear hm
    go_upto_region 2 with (first
      | (with_reducible refine op_load rfl 27 _ rfl g1 rfl 27 _ _ HE.out Try.underlying27 rfl 38 info27 HCZ.out ?_)
      | ((with_reducible refine (bytes_yes x _ HX.out.1 HM.out).mono ?_); rintro _ W2 ⟨v, rfl, hr2, hb2⟩; obtain ⟨A2, c2, rfl, hc2, hC2⟩ := Kd.R_reads hr2))
    have HS2 := Aside0.mk (HS0.out.step hb2)
    have HC2 := Aside0.mk hC2; have Hc2 := Aside0.mk hc2
    have hsl := id_slice g0
    have HBL := Aside0.mk (show (bytesE x).length < 1000000000 from by rw [bytesE_len HX.out.1.1]; have := (may_parts HM.out).2.2.2.2.2.2; omega)
    have HBB := Aside0.mk (show By (bytesE x) from bytesE_byte HX.out.1 HM.out)
    have HRZ := Aside0.mk (id_sz (refB_len (hd ++ bytesE x)))
    clear hr2 hb2 hC2 hc2 HS0 HE
    go_wp2_with (first
      | ((with_reducible refine (of2 _ g0 c2 A2 hd (bytesE x) HX.out.2.1 HS2.out.h0 HC2.out Hc2.out HBL.out).mono ?_); rintro _ W3 ⟨rfl, hb3⟩; have HS3 := Aside0.mk (HS2.out.step hb3); have HO3 := Aside0.mk (show W3.heap[g2]? = some (.cells (nums .u8 id0).toArray 25 (0, 0)) from HS3.out.h2); have HL3 := Aside0.mk (show w.heap.size ≤ g2 from by have := HS3.out.ne; omega))
      | ((with_reducible refine op_store (w0 := w) (o := ⟨none, .store 25 (.tmp 4) (.tmp 20), _, _, _, _⟩) w.heap.size ?_ 25 (.tmp 4) (.tmp 20) ?_ g2 (nums .u8 (refB (hd ++ bytesE x))).toArray ?_ ?_ 25 _ HO3.out 32 info25 HRZ.out HIZ.out (id_all _) HS3.out.below HL3.out ?_); rfl; rfl; rfl; rfl; intro wf hf1 hf2 hf3))
    refine ret_row rfl g2 rfl 25 _ _ hf1.out Try.underlying25 rfl 32 info25 HRZ.out rfl ?_
    exact ⟨by rw [HLO.out]; rfl, hf3.out⟩
  · have hm' : mayE x = false := by simpa using hm
    have HM := Aside0.mk hm'
    have HLO := Aside0.mk (show linkOut hd x = (id0, 1) from by unfold linkOut; rw [if_neg hm])
    clear hm hm'
    go_wp2_with (first
      | (with_reducible refine op_load rfl 27 _ rfl g1 rfl 27 _ _ HE.out Try.underlying27 rfl 38 info27 HCZ.out ?_)
      | (with_reducible refine op_build rfl 25 _ rfl (nums .u8 id0).toArray (by simp only [List.map_toArray, List.map_nil]; exact built25) ?_)
      | ((with_reducible refine (bytes_no x _ HOK.out HM.out).mono ?_); rintro _ W2 ⟨rfl, hb2⟩; have HS2 := Aside0.mk (HS0.out.step hb2); have HO3 := Aside0.mk (show W2.heap[g2]? = some (.cells (nums .u8 id0).toArray 25 (0, 0)) from HS2.out.h2); have HL3 := Aside0.mk (show w.heap.size ≤ g2 from by have := HS2.out.ne; omega))
      | ((with_reducible refine op_store (w0 := w) (o := ⟨none, .store 25 (.tmp 4) (.tmp 15), _, _, _, _⟩) w.heap.size ?_ 25 (.tmp 4) (.tmp 15) ?_ g2 (nums .u8 id0).toArray ?_ ?_ 25 _ HO3.out 32 info25 HIZ.out HIZ.out (id_all _) HS2.out.below HL3.out ?_); rfl; rfl; rfl; rfl; intro wf hf1 hf2 hf3))
    refine ret_row rfl g2 rfl 25 _ _ hf1.out Try.underlying25 rfl 32 info25 HIZ.out rfl ?_
    exact ⟨by rw [HLO.out]; rfl, hf3.out⟩
set_option maxHeartbeats 1000000 in
theorem ref_link_calls (hd : List Int) (x : Ent) (w : World) (hx : Wf x) (hh : hd.length = 32) (hby : By hd) :
    Calls Try.prog 19 #[.agg (nums .u8 hd).toArray, .agg (cellsOf x).toArray] w fun e w' => e = .returned (.tuple #[.agg (nums .u8 (linkOut hd x).1).toArray, .int .i64 (linkOut hd x).2]) ∧ Below w.heap.size w w' := by
  have HX := Aside0.mk (⟨hx, hh, hby⟩ : Wf x ∧ hd.length = 32 ∧ By hd)
  have HCZ := Aside0.mk (cells_sz hx.1)
  have HOK := Aside0.mk hx.1
  have HIZ := Aside0.mk (id_sz id0_len)
  have HS0 := Aside0.mk (L0.start w hd x)
  clear hx hh hby
  go_enter Try.func19, Try.ntmps19
  go_upto_region 1 with (first | (with_reducible refine op_alloc rfl 25 rfl _ zero25 ?_))
  generalize ((w.alloc (.cells (nums .u8 hd).toArray 25)).alloc (.cells (cellsOf x).toArray 27)).alloc (.cells (nums .u8 id0).toArray 25) = W1 at HS0 ⊢
  generalize w.heap.size + 1 + 1 = g2 at HS0 ⊢
  generalize w.heap.size + 1 = g1 at HS0 ⊢
  generalize w.heap.size = g0 at HS0 ⊢
  have HE := Aside0.mk (show W1.heap[g1]? = some (.cells (cellsOf x).toArray 27 (0, 0)) from HS0.out.h1)
  by_cases hm : mayE x = true
  · have HM := Aside0.mk hm
    have HLO := Aside0.mk (show linkOut hd x = (refB (hd ++ bytesE x), 0) from by unfold linkOut; rw [if_pos hm])
    clear hm
    go_upto_region 2 with (first
      | (with_reducible refine op_load rfl 27 _ rfl g1 rfl 27 _ _ HE.out Try.underlying27 rfl 38 info27 HCZ.out ?_)
      | ((with_reducible refine (Erb.ref_bytes_yes x _ HX.out.1 HM.out).mono ?_); rintro _ W2 ⟨v, rfl, hr2, hb2⟩; obtain ⟨A2, c2, rfl, hc2, hC2⟩ := Kd.R_reads hr2))
    have HS2 := Aside0.mk (HS0.out.step hb2)
    have HC2 := Aside0.mk hC2; have Hc2 := Aside0.mk hc2
    have hsl := id_slice g0
    have HBL := Aside0.mk (show (bytesE x).length < 1000000000 from by rw [bytesE_len HX.out.1.1]; have := (may_parts HM.out).2.2.2.2.2.2; omega)
    have HBB := Aside0.mk (show By (bytesE x) from bytesE_byte HX.out.1 HM.out)
    have HRZ := Aside0.mk (id_sz (refB_len (hd ++ bytesE x)))
    clear hr2 hb2 hC2 hc2 HS0 HE
    go_wp2_with (first
      | ((with_reducible refine (refof2 _ g0 c2 A2 hd (bytesE x) HX.out.2.1 HS2.out.h0 HC2.out HX.out.2.2 HBB.out HBL.out).mono ?_); rintro _ W3 ⟨rfl, hb3⟩; have HS3 := Aside0.mk (HS2.out.step hb3); have HO3 := Aside0.mk (show W3.heap[g2]? = some (.cells (nums .u8 id0).toArray 25 (0, 0)) from HS3.out.h2); have HL3 := Aside0.mk (show w.heap.size ≤ g2 from by have := HS3.out.ne; omega))
      | ((with_reducible refine op_store (w0 := w) (o := ⟨none, .store 25 (.tmp 4) (.tmp 20), _, _, _, _⟩) w.heap.size ?_ 25 (.tmp 4) (.tmp 20) ?_ g2 (nums .u8 (refB (hd ++ bytesE x))).toArray ?_ ?_ 25 _ HO3.out 32 info25 HRZ.out HIZ.out (id_all _) HS3.out.below HL3.out ?_); rfl; rfl; rfl; rfl; intro wf hf1 hf2 hf3))
    refine ret_row rfl g2 rfl 25 _ _ hf1.out Try.underlying25 rfl 32 info25 HRZ.out rfl ?_
    exact ⟨by rw [HLO.out]; rfl, hf3.out⟩
  · have hm' : mayE x = false := by simpa using hm
    have HM := Aside0.mk hm'
    have HLO := Aside0.mk (show linkOut hd x = (id0, 1) from by unfold linkOut; rw [if_neg hm])
    clear hm hm'
    go_wp2_with (first
      | (with_reducible refine op_load rfl 27 _ rfl g1 rfl 27 _ _ HE.out Try.underlying27 rfl 38 info27 HCZ.out ?_)
      | (with_reducible refine op_build rfl 25 _ rfl (nums .u8 id0).toArray (by simp only [List.map_toArray, List.map_nil]; exact built25) ?_)
      | ((with_reducible refine (Erb.ref_bytes_no x _ HOK.out HM.out).mono ?_); rintro _ W2 ⟨rfl, hb2⟩; have HS2 := Aside0.mk (HS0.out.step hb2); have HO3 := Aside0.mk (show W2.heap[g2]? = some (.cells (nums .u8 id0).toArray 25 (0, 0)) from HS2.out.h2); have HL3 := Aside0.mk (show w.heap.size ≤ g2 from by have := HS2.out.ne; omega))
      | ((with_reducible refine op_store (w0 := w) (o := ⟨none, .store 25 (.tmp 4) (.tmp 15), _, _, _, _⟩) w.heap.size ?_ 25 (.tmp 4) (.tmp 15) ?_ g2 (nums .u8 id0).toArray ?_ ?_ 25 _ HO3.out 32 info25 HIZ.out HIZ.out (id_all _) HS2.out.below HL3.out ?_); rfl; rfl; rfl; rfl; intro wf hf1 hf2 hf3))
    refine ret_row rfl g2 rfl 25 _ _ hf1.out Try.underlying25 rfl 32 info25 HIZ.out rfl ?_
    exact ⟨by rw [HLO.out]; rfl, hf3.out⟩
end Go.Proofs.Ytgpgblidplmchaa.Lk
