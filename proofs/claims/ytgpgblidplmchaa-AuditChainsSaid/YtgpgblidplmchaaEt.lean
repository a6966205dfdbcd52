/- Which entry stands at bytes' beginning: the walk of the program's Take. -/
import Derived.Test.YtgpgblidplmchaaEp
namespace Go.Proofs.Ytgpgblidplmchaa.Et
open Go.RowKit Go.Proofs.YtgpgblidplmchaaW.PrintWords Go.Proofs.YtgpgblidplmchaaW.PrintLast Go.Proofs.YtgpgblidplmchaaW.PrintMore
open En Ag Spc OctA OctC Eb Eg Ep
set_option linter.unusedVariables false
set_option linter.unusedSimpArgs false
set_option maxRecDepth 100000
theorem wraps (m : Nat) (y0 y1 y2 : Int) (hm : m ≤ 100) (h0 : 0 ≤ y0 ∧ y0 < 256) (h1 : 0 ≤ y1 ∧ y1 < 256) (h2 : 0 ≤ y2 ∧ y2 < 256) :
    IntKind.i64.wrap y0 = y0 ∧ IntKind.i64.wrap y1 = y1 ∧ IntKind.i64.wrap y2 = y2 ∧ wrap64 (y1 * 256) = y1 * 256 ∧ IntKind.i64.wrap (y1 * 256) = y1 * 256 ∧ Go.bits .or .i64 (y1 * 256) y2 = y1 * 256 + y2 ∧ ((m : Int) + 1).toNat = m + 1 ∧ wrap64 ((m : Int) + 1) = (m : Int) + 1 ∧ ((m : Int) + 2).toNat = m + 2 ∧ wrap64 ((m : Int) + 2) = (m : Int) + 2 := by
  refine ⟨?_, ?_, ?_, w64_id (by omega) (by omega), ?_, or_i64 y1 y2 h1 h2, by omega, w64_id (by omega) (by omega), by omega, w64_id (by omega) (by omega)⟩
  all_goals
    rw [IntKind.wrap_i64]
    omega
/-- three numbers in a block -/
def Trip (w : World) (g : Nat) (a b c : Int) : Prop := w.heap[g]? = some (.cells #[.int .u64 a, .int .u64 b, .int .u64 c] 65 (0, 0))
theorem trip_cell0 {w : World} {g : Nat} {a b c : Int} (h : Trip w g a b c) : w.cell? ⟨g, 0, none⟩ = some (.int .u64 a) := by rw [blk_cell h]; rfl
theorem trip_cell1 {w : World} {g : Nat} {a b c : Int} (h : Trip w g a b c) : w.cell? ⟨g, 1, none⟩ = some (.int .u64 b) := by rw [blk_cell h]; rfl
theorem trip_cell2 {w : World} {g : Nat} {a b c : Int} (h : Trip w g a b c) : w.cell? ⟨g, 2, none⟩ = some (.int .u64 c) := by rw [blk_cell h]; rfl
theorem zero65 : (Try.prog.info? 65).map (·.zero) = some (some (.agg #[.int .u64 0, .int .u64 0, .int .u64 0])) := by kernel_rfl
theorem builtv (a b c : Int) (s : ByteArray) : Try.prog.built 27 [(0, .int .i64 a), (1, .int .i64 b), (2, .int .u64 c), (3, .string s)] = some (cellsOf ⟨a, b, c, s, 0, 0, List.replicate 32 0⟩).toArray := by kernel_rfl
theorem okv (a b c : Int) (s : ByteArray) : Ok ⟨a, b, c, s, 0, 0, List.replicate 32 0⟩ := by simp [Ok]
def tk15T : Bool × List (List Nat × List Nat) := (true, [([], []), ([0], [0]), ([1], [1]), ([], []), ([3], [3]), ([4], [4]), ([], []), ([6], [6]), ([], []), ([], []), ([8, 9], [8, 9]), ([10], [10]), ([2, 5, 7, 11], [2, 5, 7, 11]), ([], []), ([13, 12, 0, 1, 2, 3, 4, 5, 6, 7, 8, 9, 10, 11, 12, 13], [12, 13])])
def tk15B : List Nat := [0, 1, 3, 0, 8, 24, 0, 64, 0, 0, 768, 1792, 4095, 0, 16383]
theorem tk15tab : rtab .any (opsOf Try.f24 15) = tk15T := by kernel_rfl
theorem tk15bits : waitsOk tk15T.2 tk15B = true := by kernel_rfl
def tk16T : Bool × List (List Nat × List Nat) := (true, [([], []), ([], []), ([0, 1], [0, 1]), ([2], [2]), ([3], [3]), ([], []), ([], []), ([6], [6]), ([5, 7], [5, 7]), ([8], [8]), ([9], [9]), ([10], [10]), ([], []), ([], []), ([13], [13]), ([12, 14], [12, 14]), ([15], [15]), ([16], [16]), ([11, 17], [11, 17]), ([0, 1, 2, 3, 4], []), ([19, 4, 0, 1, 2, 3, 4], [4, 19]), ([0, 1, 2, 3, 4, 5, 6, 7, 8, 9, 10, 11, 12, 13, 14, 15, 16, 17, 18, 19, 20], []), ([21, 18, 20, 0, 1, 2, 3, 4, 5, 6, 7, 8, 9, 10, 11, 12, 13, 14, 15, 16, 17, 18, 19, 20], [18, 21])])
def tk16B : List Nat := [0, 0, 3, 7, 15, 0, 0, 64, 224, 480, 992, 2016, 0, 0, 8192, 28672, 61440, 126976, 262112, 31, 524319, 2097151, 4194303]
theorem tk16tab : rtab .any (opsOf Try.f24 16) = tk16T := by kernel_rfl
theorem tk16bits : waitsOk tk16T.2 tk16B = true := by kernel_rfl
set_option maxHeartbeats 1600000 in
theorem take_syntax (A : Option Addr) (c : Nat) (b : List Int) (w : World) (hr : CB w A b) (hc : b.length ≤ c) (hl : b.length ≤ 1000000) (hby : ∀ x ∈ b, 0 ≤ x ∧ x < 256) (hb : beginsB b = false) :
    Calls Try.prog 24 #[.slice A b.length c] w fun e w' => e = .returned (.tuple #[.agg (cellsOf ent0).toArray, .int .i64 0, .int .i64 4]) ∧ Below w.heap.size w w' := by
  have HR := Aside0.mk hr; have HC := Aside0.mk hc; have HBY := Aside0.mk hby
  have HB0 := Aside0.mk ((Below.refl w.heap.size w).alloc (Nat.le_refl _) (.cells (cellsOf ent0).toArray 27))
  have HG0 := Aside0.mk (show It (w.alloc (.cells (cellsOf ent0).toArray 27)) w.heap.size ent0 from heap_alloc_new w _)
  have HBG := Aside0.mk (fun W h => begins_calls A c b W h hc hl hby)
  rw [hb] at HBG
  clear hr hc hby hb
  go_enter Try.func24, Try.ntmps24
  go_wp2_with (first | (with_reducible refine op_alloc rfl 27 rfl _ zero27 ?_))
  refine (HBG.out _ (Kd.C_below HR.out HB0.out)).mono ?_
  rintro e1 w1 ⟨rfl, hb1⟩
  have HB1 := Aside0.mk (below_step HB0.out hb1)
  have HG1 := Aside0.mk (show It w1 w.heap.size ent0 from (hb1.block _ (blk_lt HG0.out)).trans HG0.out)
  clear hb1 HB0 HG0 HBG
  go_wp2_with (first | (with_reducible refine op_build rfl 27 _ rfl (cellsOf ent0).toArray (by rw [List.map_toArray]; exact built00) ?_) | (refine op_store (w0 := w) w.heap.size rfl 27 (.tmp 2) (.tmp 13) rfl w.heap.size (cellsOf ent0).toArray rfl rfl 27 (cellsOf ent0).toArray HG1.out 38 info27 (cells_sz ok0) (cells_sz ok0) (cells_all _) HB1.out (Nat.le_refl _) ?_; intro wz hgz _ HBz))
  exact ret_row3 rfl w.heap.size rfl 27 (cellsOf ent0).toArray _ hgz.out Try.underlying27 rfl 38 info27 (cells_sz ok0) rfl ⟨rfl, HBz.out⟩
set_option maxHeartbeats 1600000 in
theorem take_short1 (A : Option Addr) (c : Nat) (b : List Int) (w : World) (hr : CB w A b) (hc : b.length ≤ c) (hl : b.length ≤ 1000000) (hby : ∀ x ∈ b, 0 ≤ x ∧ x < 256) (hb : beginsB b = true) (h24 : b.length ≤ 24) :
    Calls Try.prog 24 #[.slice A b.length c] w fun e w' => e = .returned (.tuple #[.agg (cellsOf ent0).toArray, .int .i64 0, .int .i64 3]) ∧ Below w.heap.size w w' := by
  have HR := Aside0.mk hr; have HC := Aside0.mk hc; have HBY := Aside0.mk hby
  have HB0 := Aside0.mk ((Below.refl w.heap.size w).alloc (Nat.le_refl _) (.cells (cellsOf ent0).toArray 27))
  have HG0 := Aside0.mk (show It (w.alloc (.cells (cellsOf ent0).toArray 27)) w.heap.size ent0 from heap_alloc_new w _)
  have HBG := Aside0.mk (fun W h => begins_calls A c b W h hc hl hby)
  rw [hb] at HBG
  have d1 : decide ((b.length : Int) ≤ 24) = true := decide_eq_true (by omega)
  clear hr hc hby hb
  go_enter Try.func24, Try.ntmps24
  go_wp2_with (first | (with_reducible refine op_alloc rfl 27 rfl _ zero27 ?_))
  refine (HBG.out _ (Kd.C_below HR.out HB0.out)).mono ?_
  rintro e1 w1 ⟨rfl, hb1⟩
  have HB1 := Aside0.mk (below_step HB0.out hb1)
  have HG1 := Aside0.mk (show It w1 w.heap.size ent0 from (hb1.block _ (blk_lt HG0.out)).trans HG0.out)
  clear hb1 HB0 HG0 HBG
  go_wp2_with (first | (with_reducible refine op_build rfl 27 _ rfl (cellsOf ent0).toArray (by rw [List.map_toArray]; exact built00) ?_) | (refine op_store (w0 := w) w.heap.size rfl 27 (.tmp 2) (.tmp 17) rfl w.heap.size (cellsOf ent0).toArray rfl rfl 27 (cellsOf ent0).toArray HG1.out 38 info27 (cells_sz ok0) (cells_sz ok0) (cells_all _) HB1.out (Nat.le_refl _) ?_; intro wz hgz _ HBz))
  exact ret_row3 rfl w.heap.size rfl 27 (cellsOf ent0).toArray _ hgz.out Try.underlying27 rfl 38 info27 (cells_sz ok0) rfl ⟨rfl, HBz.out⟩
set_option maxHeartbeats 1600000 in
theorem take_short2 (A : Option Addr) (c : Nat) (b : List Int) (w : World) (hr : CB w A b) (hc : b.length ≤ c) (hl : b.length ≤ 1000000) (hby : ∀ x ∈ b, 0 ≤ x ∧ x < 256) (hb : beginsB b = true) (h24 : 24 < b.length) (hsh : b.length < 60 + lenN b) :
    Calls Try.prog 24 #[.slice A b.length c] w fun e w' => e = .returned (.tuple #[.agg (cellsOf ent0).toArray, .int .i64 0, .int .i64 3]) ∧ Below w.heap.size w w' := by
  have HR := Aside0.mk hr; have HC := Aside0.mk hc; have HBY := Aside0.mk hby
  have HB0 := Aside0.mk ((Below.refl w.heap.size w).alloc (Nat.le_refl _) (.cells (cellsOf ent0).toArray 27))
  have HG0 := Aside0.mk (show It (w.alloc (.cells (cellsOf ent0).toArray 27)) w.heap.size ent0 from heap_alloc_new w _)
  have HBG := Aside0.mk (fun W h => begins_calls A c b W h hc hl hby)
  rw [hb] at HBG
  have d1 : decide ((b.length : Int) ≤ 24) = false := decide_eq_false (by omega)
  obtain ⟨ad, rfl, _⟩ := CB.cells hr (by omega)
  obtain ⟨p0, p8, p24, _⟩ := begins_parts hb (by omega)
  have hb24 := get_byte hby 24 (by omega)
  obtain ⟨x, hx⟩ := Int.eq_ofNat_of_zero_le hb24.1
  have HK := Aside0.mk (fun W (h : CB W (some ad) b) => (show W.cell? { block := ad.block, off := ad.off + 24 } = some (.int .u8 x) by have := cb_at h 24 (by omega); rw [hx] at this; exact this))
  have hln : lenN b = x := by unfold lenN; rw [hx, Int.toNat_natCast]
  have hx16 : x ≤ 16 := by rw [hx] at p24; omega
  have hw24 : IntKind.i64.wrap (x : Int) = (x : Int) := by rw [IntKind.wrap_i64]; omega
  obtain ⟨m, hm⟩ : ∃ m : Nat, 25 + x = m := ⟨_, rfl⟩
  have hmi : 25 + (x : Int) = (m : Int) := by omega
  have hm100 : m ≤ 100 := by omega
  have d2 : decide ((b.length : Int) < (m : Int) + 3 + 32) = true := decide_eq_true (by omega)
  clear hr hc hby hb hb24 hx p0 p8 p24 hsh
  go_enter Try.func24, Try.ntmps24
  go_wp2_with (first | (with_reducible refine op_alloc rfl 27 rfl _ zero27 ?_))
  refine (HBG.out _ (Kd.C_below HR.out HB0.out)).mono ?_
  rintro e1 w1 ⟨rfl, hb1⟩
  have HB1 := Aside0.mk (below_step HB0.out hb1)
  have HG1 := Aside0.mk (show It w1 w.heap.size ent0 from (hb1.block _ (blk_lt HG0.out)).trans HG0.out)
  clear hb1 HB0 HG0 HBG
  have k24 := HK.out w1 (Kd.C_below HR.out HB1.out)
  go_wp2_with (first | (with_reducible refine op_build rfl 27 _ rfl (cellsOf ent0).toArray (by rw [List.map_toArray]; exact built00) ?_) | (refine op_store (w0 := w) w.heap.size rfl 27 (.tmp 2) (.tmp 30) rfl w.heap.size (cellsOf ent0).toArray rfl rfl 27 (cellsOf ent0).toArray HG1.out 38 info27 (cells_sz ok0) (cells_sz ok0) (cells_all _) HB1.out (Nat.le_refl _) ?_; intro wz hgz _ HBz))
  exact ret_row3 rfl w.heap.size rfl 27 (cellsOf ent0).toArray _ hgz.out Try.underlying27 rfl 38 info27 (cells_sz ok0) rfl ⟨rfl, HBz.out⟩
set_option maxHeartbeats 12800000 in
theorem take_yes (A : Option Addr) (c : Nat) (b : List Int) (w : World) (hr : CB w A b) (hc : b.length ≤ c) (hl : b.length ≤ 1000000) (hby : ∀ x ∈ b, 0 ≤ x ∧ x < 256) (hb : beginsB b = true) (h24 : 24 < b.length) (hsh : 60 + lenN b ≤ b.length) :
    Calls Try.prog 24 #[.slice A b.length c] w fun e w' => e = .returned (.tuple #[.agg (cellsOf (entAt b (lenN b))).toArray, .int .i64 (60 + lenN b : Nat), .int .i64 0]) ∧ Below w.heap.size w w' := by
  have HR := Aside0.mk hr; have HC := Aside0.mk hc; have HBY := Aside0.mk hby
  have HB0 := Aside0.mk ((Below.refl w.heap.size w).alloc (Nat.le_refl _) (.cells (cellsOf ent0).toArray 27))
  have HG0 := Aside0.mk (show It (w.alloc (.cells (cellsOf ent0).toArray 27)) w.heap.size ent0 from heap_alloc_new w _)
  have HBG := Aside0.mk (fun W h => begins_calls A c b W h hc hl hby)
  rw [hb] at HBG
  have d1 : decide ((b.length : Int) ≤ 24) = false := decide_eq_false (by omega)
  obtain ⟨ad, rfl, _⟩ := CB.cells hr (by omega)
  obtain ⟨p0, p8, p24, _⟩ := begins_parts hb (by omega)
  have hb24 := get_byte hby 24 (by omega)
  obtain ⟨x, hx⟩ := Int.eq_ofNat_of_zero_le hb24.1
  have HK := Aside0.mk (fun W (h : CB W (some ad) b) => (show W.cell? { block := ad.block, off := ad.off + 24 } = some (.int .u8 x) by have := cb_at h 24 (by omega); rw [hx] at this; exact this))
  have hln : lenN b = x := by unfold lenN; rw [hx, Int.toNat_natCast]
  have hx16 : x ≤ 16 := by rw [hx] at p24; omega
  have hw24 : IntKind.i64.wrap (x : Int) = (x : Int) := by rw [IntKind.wrap_i64]; omega
  obtain ⟨m, hm⟩ : ∃ m : Nat, 25 + x = m := ⟨_, rfl⟩
  have hmi : 25 + (x : Int) = (m : Int) := by omega
  have hm100 : m ≤ 100 := by omega
  have d2 : decide ((b.length : Int) < (m : Int) + 3 + 32) = false := decide_eq_false (by omega)
  have hml : m + 35 ≤ b.length := by omega
  have hv : ∀ i, i + 8 ≤ b.length → ((b.drop i).take 8).length = 8 ∧ ∀ y ∈ (b.drop i).take 8, 0 ≤ y ∧ y < 256 := fun i hi => ⟨by simp; omega, fun y hy => hby y (List.mem_of_mem_drop (List.mem_of_mem_take hy))⟩
  obtain ⟨v0, hv0⟩ : ∃ v0 : Int, Aside0 (v0 = (Spc.val 0 ((b.drop 0).take 8) : Nat)) := ⟨_, ⟨rfl⟩⟩
  obtain ⟨v1, hv1⟩ : ∃ v1 : Int, Aside0 (v1 = (Spc.val 0 ((b.drop 8).take 8) : Nat)) := ⟨_, ⟨rfl⟩⟩
  obtain ⟨v2, hv2⟩ : ∃ v2 : Int, Aside0 (v2 = (Spc.val 0 ((b.drop 16).take 8) : Nat)) := ⟨_, ⟨rfl⟩⟩
  have b0 : 0 ≤ v0 ∧ v0 < 9223372036854775808 := by
    have := val_small (hv 0 (by omega)).1 (hv 0 (by omega)).2 (by rw [List.getD_eq_getElem?_getD] at p0 ⊢; simpa using p0)
    rw [hv0.out]; omega
  have b1 : 0 ≤ v1 ∧ v1 < 9223372036854775808 := by
    have := val_small (hv 8 (by omega)).1 (hv 8 (by omega)).2 (by rw [List.getD_eq_getElem?_getD] at p8 ⊢; simpa using p8)
    rw [hv1.out]; omega
  have hA0 := Aside0.mk (show POct.octet_At.f 40 b 0 8 = some (v0, 0) by rw [hv0.out]; exact at_ok 40 b 0 8 hby (by omega) (by omega) (by omega) (by omega) (by omega))
  have hA1 := Aside0.mk (show POct.octet_At.f 40 b 8 8 = some (v1, 0) by rw [hv1.out]; exact at_ok 40 b 8 8 hby (by omega) (by omega) (by omega) (by omega) (by omega))
  have hA2 := Aside0.mk (show POct.octet_At.f 40 b 16 8 = some (v2, 0) by rw [hv2.out]; exact at_ok 40 b 16 8 hby (by omega) (by omega) (by omega) (by omega) (by omega))
  have hws0 : IntKind.i64.wrap v0 = v0 := by rw [IntKind.wrap_i64]; omega
  have hws1 : IntKind.i64.wrap v1 = v1 := by rw [IntKind.wrap_i64]; omega
  have hwt0 : wrap64 v0 = v0 := w64_id (by omega) (by omega)
  have hwt1 : wrap64 v1 = v1 := w64_id (by omega) (by omega)
  -- the name
  obtain ⟨z9, A9, hz9, hl9, hc9_, hcut9, hC9⟩ := cut_mid (P := Try.prog) 37 Try.underlying37 POct.info5 (some ad) c b 25 (m : Int) (by omega) (by omega) (by omega) hc
  obtain ⟨s, hs⟩ : ∃ s, Aside0 (s = strOfNums z9) := ⟨_, ⟨rfl⟩⟩
  have HCV := Aside0.mk (fun W (hW : Below w.heap.size w W) => (show (convert 37 9 (.slice A9 z9.length (c - 25))).run Try.prog W = .ok (.string s) W by rw [hs.out]; exact Kd.C_string (P := Try.prog) (c := c - (25 : Int).toNat) Try.underlying37 Try.underlying5 Try.underlying9 (hC9 W (Kd.C_below HR.out hW))))
  -- the identity
  obtain ⟨zi, Ai, hzi, hli, hci_, hcuti, hCi⟩ := cut_mid (P := Try.prog) 37 Try.underlying37 POct.info5 (some ad) c b ((m : Int) + 3) ((m : Int) + 3 + 32) (by omega) (by omega) (by omega) hc
  have hzi32 : Aside0 (zi.length = 32) := ⟨by omega⟩
  have harr := fun (cc : Nat) => array_at (P := Try.prog) 25 32 (by kernel_rfl) Ai zi.length cc (by omega)
  obtain ⟨y0, hy0⟩ : ∃ y0, b.getD m 0 = y0 := ⟨_, rfl⟩
  obtain ⟨y1, hy1⟩ : ∃ y1, b.getD (m + 1) 0 = y1 := ⟨_, rfl⟩
  obtain ⟨y2, hy2⟩ : ∃ y2, b.getD (m + 2) 0 = y2 := ⟨_, rfl⟩
  have hyb0 := get_byte hby m (by omega); have hyb1 := get_byte hby (m + 1) (by omega); have hyb2 := get_byte hby (m + 2) (by omega)
  rw [hy0] at hyb0; rw [hy1] at hyb1; rw [hy2] at hyb2
  have HCC := Aside0.mk (And.intro (fun W (hW : Below w.heap.size w W) => (show W.cell? (ad.add m) = some (.int .u8 y0) by have := cb_at (Kd.C_below HR.out hW) m (by omega); rw [hy0] at this; exact this)) (And.intro (fun W (hW : Below w.heap.size w W) => (show W.cell? { block := ad.block, off := ad.off + (m + 1) } = some (.int .u8 y1) by have := cb_at (Kd.C_below HR.out hW) (m + 1) (by omega); rw [hy1] at this; exact this)) (fun W (hW : Below w.heap.size w W) => (show W.cell? { block := ad.block, off := ad.off + (m + 2) } = some (.int .u8 y2) by have := cb_at (Kd.C_below HR.out hW) (m + 2) (by omega); rw [hy2] at this; exact this))))
  have hzi2 : zi = (b.drop (25 + x + 3)).take 32 := by
    rw [hzi, show ((m : Int) + 3 + 32).toNat = 25 + x + 3 + 32 by omega, show ((m : Int) + 3).toNat = 25 + x + 3 by omega, List.drop_take]
    congr 1; omega
  have HFIN : Aside0 (entAt b (lenN b) = ⟨v0, v1, v2, s, y0, y1 * 256 + y2, zi⟩) := ⟨by
    unfold entAt
    rw [hln, hv0.out, hv1.out, hv2.out, hs.out, hz9, hzi2, ← hy0, ← hy1, ← hy2, Int.toNat_natCast, ← hm]
    rfl⟩
  have HQ := Aside0.mk (wraps m y0 y1 y2 hm100 hyb0 hyb1 hyb2)
  have HN : Aside0 (((60 + lenN b : Nat) : Int) = (m : Int) + 3 + 32) := ⟨by rw [hln]; omega⟩
  clear hr hc hby hb hb24 hx p0 p8 p24 hsh hv b0 b1 hz9 hl9 hc9_ hzi hzi2 hli hci_ hy0 hy1 hy2 hyb0 hyb1 hyb2 hln
  go_enter Try.func24, Try.ntmps24
  go_wp2_with (first | (with_reducible refine op_alloc rfl 27 rfl _ zero27 ?_))
  refine (HBG.out _ (Kd.C_below HR.out HB0.out)).mono ?_
  rintro e1 w1 ⟨rfl, hb1⟩
  have HB1 := Aside0.mk (below_step HB0.out hb1)
  have HG1 := Aside0.mk (show It w1 w.heap.size ent0 from (hb1.block _ (blk_lt HG0.out)).trans HG0.out)
  clear hb1 HB0 HG0 HBG
  have k24 := HK.out w1 (Kd.C_below HR.out HB1.out)
  have HT1 := Aside0.mk (show Trip (w1.alloc (.cells #[.int .u64 0, .int .u64 0, .int .u64 0] 65)) w1.heap.size 0 0 0 from heap_alloc_new w1 _)
  have HBt := Aside0.mk (HB1.out.alloc HB1.out.size (.cells #[.int .u64 0, .int .u64 0, .int .u64 0] 65))
  have HGt := Aside0.mk (show It (w1.alloc (.cells #[.int .u64 0, .int .u64 0, .int .u64 0] 65)) w.heap.size ent0 from (((Below.refl w1.heap.size w1).alloc (Nat.le_refl _) _).block _ (blk_lt HG1.out)).trans HG1.out)
  have hgl := Aside0.mk (blk_lt HG1.out)
  go_wp2_with (first | (with_reducible refine op_alloc rfl 65 rfl _ zero65 ?_))
  obtain ⟨g7, hg7⟩ : ∃ g7, Aside0 (g7 = w1.heap.size) := ⟨_, ⟨rfl⟩⟩
  rw [← hg7.out] at HT1 hgl ⊢
  generalize w1.alloc (.cells #[.int .u64 0, .int .u64 0, .int .u64 0] 65) = w2 at HT1 HBt HGt ⊢
  clear hg7 HB1 HG1 k24
  go_loopw [31] (fun u wr => ∃ j : Nat, j ≤ 3 ∧ u = .int .i64 j ∧ Aside0 (Trip wr g7 (if 0 < j then v0 else 0) (if 1 < j then v1 else 0) (if 2 < j then v2 else 0)) ∧ Aside0 (Below w.heap.size w wr) ∧ Aside0 (It wr w.heap.size ent0)) (fun u _ => 3 - (intOf u).toNat)
  case atStart => exact ⟨0, by omega, rfl, HT1, HBt, HGt⟩
  case round =>
    clear HT1 HBt HGt
    obtain ⟨j, hj, rfl, HT, HB, HG⟩ := hrel
    obtain rfl | rfl | rfl | rfl : j = 0 ∨ j = 1 ∨ j = 2 ∨ j = 3 := by omega
    · have HT0 := Aside0.mk (show Trip wr g7 0 0 0 from HT.out)
      go_wp2_with fail
      refine (POct.octet_At.calls 40 (some ad) c b 0 8 v0 0 wr (Kd.C_below HR.out HB.out) HC.out hA0.out).mono ?_
      rintro e3 w3 ⟨rfl, hd3⟩
      have hb3 := hd3.below
      have HB3 := Aside0.mk (below_step HB.out hb3)
      have HT3 := Aside0.mk (show Trip w3 g7 0 0 0 from (hb3.block _ (blk_lt HT0.out)).trans HT0.out)
      have HG3 := Aside0.mk (show It w3 w.heap.size ent0 from (hb3.block _ (blk_lt HG.out)).trans HG.out)
      have hcell := trip_cell0 HT3.out
      have hfr := blk_frozen HT3.out 0
      clear hb3 hd3 HT HT0 HB HG
      go_wp2_with fail
      go_roundw
      case rel => exact ⟨0 + 1, by omega, by go_num, ⟨blk_set HT3.out 0 _⟩, ⟨HB3.out.setCell (p := ⟨g7, 0, none⟩) (Nat.le_of_lt hgl.out) _⟩, ⟨(Below.heap_setCell w3 ⟨g7, 0, none⟩ _ _ (by have := hgl.out; simp; omega)).trans HG3.out⟩⟩
      case measure => simp [intOf]
    · have HT0 := Aside0.mk (show Trip wr g7 v0 0 0 from HT.out)
      go_wp2_with fail
      refine (POct.octet_At.calls 40 (some ad) c b 8 8 v1 0 wr (Kd.C_below HR.out HB.out) HC.out hA1.out).mono ?_
      rintro e3 w3 ⟨rfl, hd3⟩
      have hb3 := hd3.below
      have HB3 := Aside0.mk (below_step HB.out hb3)
      have HT3 := Aside0.mk (show Trip w3 g7 v0 0 0 from (hb3.block _ (blk_lt HT0.out)).trans HT0.out)
      have HG3 := Aside0.mk (show It w3 w.heap.size ent0 from (hb3.block _ (blk_lt HG.out)).trans HG.out)
      have hcell := trip_cell1 HT3.out
      have hfr := blk_frozen HT3.out 1
      clear hb3 hd3 HT HT0 HB HG
      go_wp2_with fail
      go_roundw
      case rel => exact ⟨1 + 1, by omega, by go_num, ⟨blk_set HT3.out 1 _⟩, ⟨HB3.out.setCell (p := ⟨g7, 1, none⟩) (Nat.le_of_lt hgl.out) _⟩, ⟨(Below.heap_setCell w3 ⟨g7, 1, none⟩ _ _ (by have := hgl.out; simp; omega)).trans HG3.out⟩⟩
      case measure => simp [intOf]
    · have HT0 := Aside0.mk (show Trip wr g7 v0 v1 0 from HT.out)
      go_wp2_with fail
      refine (POct.octet_At.calls 40 (some ad) c b 16 8 v2 0 wr (Kd.C_below HR.out HB.out) HC.out hA2.out).mono ?_
      rintro e3 w3 ⟨rfl, hd3⟩
      have hb3 := hd3.below
      have HB3 := Aside0.mk (below_step HB.out hb3)
      have HT3 := Aside0.mk (show Trip w3 g7 v0 v1 0 from (hb3.block _ (blk_lt HT0.out)).trans HT0.out)
      have HG3 := Aside0.mk (show It w3 w.heap.size ent0 from (hb3.block _ (blk_lt HG.out)).trans HG.out)
      have hcell := trip_cell2 HT3.out
      have hfr := blk_frozen HT3.out 2
      clear hb3 hd3 HT HT0 HB HG
      go_wp2_with fail
      go_roundw
      case rel => exact ⟨2 + 1, by omega, by go_num, ⟨blk_set HT3.out 2 _⟩, ⟨HB3.out.setCell (p := ⟨g7, 2, none⟩) (Nat.le_of_lt hgl.out) _⟩, ⟨(Below.heap_setCell w3 ⟨g7, 2, none⟩ _ _ (by have := hgl.out; simp; omega)).trans HG3.out⟩⟩
      case measure => simp [intOf]
    · have HT3 := Aside0.mk (show Trip wr.drew g7 v0 v1 v2 from HT.out)
      have HG' := Aside0.mk (show It wr.drew w.heap.size ent0 from HG.out)
      clear HT HG
      have HG := HG'
      clear HG'
      have hmlt : m < b.length := by omega
      have hml2 : 0 ≤ (m : Int) + 1 := by omega
      have hml3 : (m : Int) + 1 < (b.length : Int) := by omega
      have hml4 : 0 ≤ (m : Int) + 2 := by omega
      have hml5 : (m : Int) + 2 < (b.length : Int) := by omega
      go_upto_region 15 with (fail)
      generalize hwt : wr = wt at HT3 HB HG ⊢
      clear hwt
      refine start_ (n := 15) (S := (fun W_ => Below w.heap.size w W_ ∧ (Trip W_ g7 v0 v1 v2 ∧ It W_ w.heap.size ent0))) (ds := []) #[false, false, false, false, false, false, false, false, false, false, false, false, false, false, false] (by kernel_rfl) rfl rfl (⟨below_drew1 HB.out, HT3.out, HG.out⟩) (fun hHeld => ?_); refine with_tabW tk15tab tk15bits (fun HT_ HW_ => ?_)
      generalize wt.drew = wq at hHeld ⊢
      refine pure_ (i := 0) (N := some 44) (v := ?_) (a' := ?_) #[true, false, false, false, false, false, false, false, false, false, false, false, false, false, false] rfl rfl (any_of HT_.out (by kernel_rfl)) (fun _ _ _ h => h) (Or.inl ⟨by rfl, ?_⟩) ?_ ?_
      rotate_left
      · intro w'
        go_simp
        with_reducible rfl
      rotate_left
      · simp only [Act.put, List.setIfInBounds_toArray, List.set_cons_zero, List.set_cons_succ, i64_w, i32_w]
        rfl
      refine take_ (i := 1) (N := some 45) (v := ?_) (a' := ?_) #[true, true, false, false, false, false, false, false, false, false, false, false, false, false, false] rfl rfl (take_ofW HT_.out HW_.out (by kernel_rfl)) (fun _ _ _ h => h) (Or.inl ⟨by rfl, ?_⟩) hHeld ?_ ?_
      rotate_left
      · intro w' hw'
        have hf0_ := trip_cell0 hw'.2.1
        go_simp
        with_reducible rfl
      rotate_left
      · simp only [Act.put, List.setIfInBounds_toArray, List.set_cons_zero, List.set_cons_succ, i64_w, i32_w]
        rfl
      refine pure_ (i := 2) (N := some 46) (v := ?_) (a' := ?_) #[true, true, true, false, false, false, false, false, false, false, false, false, false, false, false] rfl rfl (any_of HT_.out (by kernel_rfl)) (fun _ _ _ h => h) (Or.inl ⟨by rfl, ?_⟩) ?_ ?_
      rotate_left
      · intro w'
        go_simp
        with_reducible rfl
      rotate_left
      · simp only [Act.put, List.setIfInBounds_toArray, List.set_cons_zero, List.set_cons_succ, i64_w, i32_w]
        rfl
      refine pure_ (i := 3) (N := some 47) (v := ?_) (a' := ?_) #[true, true, true, true, false, false, false, false, false, false, false, false, false, false, false] rfl rfl (any_of HT_.out (by kernel_rfl)) (fun _ _ _ h => h) (Or.inl ⟨by rfl, ?_⟩) ?_ ?_
      rotate_left
      · intro w'
        go_simp
        with_reducible rfl
      rotate_left
      · simp only [Act.put, List.setIfInBounds_toArray, List.set_cons_zero, List.set_cons_succ, i64_w, i32_w]
        rfl
      refine take_ (i := 4) (N := some 48) (v := ?_) (a' := ?_) #[true, true, true, true, true, false, false, false, false, false, false, false, false, false, false] rfl rfl (take_ofW HT_.out HW_.out (by kernel_rfl)) (fun _ _ _ h => h) (Or.inl ⟨by rfl, ?_⟩) hHeld ?_ ?_
      rotate_left
      · intro w' hw'
        have hf0_ := trip_cell1 hw'.2.1
        go_simp
        with_reducible rfl
      rotate_left
      · simp only [Act.put, List.setIfInBounds_toArray, List.set_cons_zero, List.set_cons_succ, i64_w, i32_w]
        rfl
      refine pure_ (i := 5) (N := some 49) (v := ?_) (a' := ?_) #[true, true, true, true, true, true, false, false, false, false, false, false, false, false, false] rfl rfl (any_of HT_.out (by kernel_rfl)) (fun _ _ _ h => h) (Or.inl ⟨by rfl, ?_⟩) ?_ ?_
      rotate_left
      · intro w'
        go_simp
        with_reducible rfl
      rotate_left
      · simp only [Act.put, List.setIfInBounds_toArray, List.set_cons_zero, List.set_cons_succ, i64_w, i32_w]
        rfl
      refine pure_ (i := 6) (N := some 50) (v := ?_) (a' := ?_) #[true, true, true, true, true, true, true, false, false, false, false, false, false, false, false] rfl rfl (any_of HT_.out (by kernel_rfl)) (fun _ _ _ h => h) (Or.inl ⟨by rfl, ?_⟩) ?_ ?_
      rotate_left
      · intro w'
        go_simp
        with_reducible rfl
      rotate_left
      · simp only [Act.put, List.setIfInBounds_toArray, List.set_cons_zero, List.set_cons_succ, i64_w, i32_w]
        rfl
      refine take_ (i := 7) (N := some 51) (v := ?_) (a' := ?_) #[true, true, true, true, true, true, true, true, false, false, false, false, false, false, false] rfl rfl (take_ofW HT_.out HW_.out (by kernel_rfl)) (fun _ _ _ h => h) (Or.inl ⟨by rfl, ?_⟩) hHeld ?_ ?_
      rotate_left
      · intro w' hw'
        have hf0_ := trip_cell2 hw'.2.1
        go_simp
        with_reducible rfl
      rotate_left
      · simp only [Act.put, List.setIfInBounds_toArray, List.set_cons_zero, List.set_cons_succ, i64_w, i32_w]
        rfl
      refine pure_ (i := 8) (N := some 52) (v := ?_) (a' := ?_) #[true, true, true, true, true, true, true, true, true, false, false, false, false, false, false] rfl rfl (any_of HT_.out (by kernel_rfl)) (fun _ _ _ h => h) (Or.inl ⟨by rfl, ?_⟩) ?_ ?_
      rotate_left
      · intro w'
        go_simp
        with_reducible rfl
      rotate_left
      · simp only [Act.put, List.setIfInBounds_toArray, List.set_cons_zero, List.set_cons_succ, i64_w, i32_w]
        rfl
      refine pure_ (i := 9) (N := some 53) (v := ?_) (a' := ?_) #[true, true, true, true, true, true, true, true, true, true, false, false, false, false, false] rfl rfl (any_of HT_.out (by kernel_rfl)) (fun _ _ _ h => h) (Or.inl ⟨by rfl, ?_⟩) ?_ ?_
      rotate_left
      · intro w'
        go_simp
        with_reducible rfl
      rotate_left
      · simp only [Act.put, List.setIfInBounds_toArray, List.set_cons_zero, List.set_cons_succ, i64_w, i32_w]
        rfl
      refine pure_ (i := 10) (N := some 54) (v := ?_) (a' := ?_) #[true, true, true, true, true, true, true, true, true, true, true, false, false, false, false] rfl rfl (any_of HT_.out (by kernel_rfl)) (fun _ _ _ h => h) (Or.inl ⟨by rfl, ?_⟩) ?_ ?_
      rotate_left
      · intro w'
        go_simp
        with_reducible rfl
      rotate_left
      · simp only [Act.put, List.setIfInBounds_toArray, List.set_cons_zero, List.set_cons_succ, i64_w, i32_w]
        rfl
      refine take_ (i := 11) (N := some 55) (v := ?_) (a' := ?_) #[true, true, true, true, true, true, true, true, true, true, true, true, false, false, false] rfl rfl (take_ofW HT_.out HW_.out (by kernel_rfl)) (fun _ _ _ h => h) (Or.inl ⟨by rfl, ?_⟩) hHeld ?_ ?_
      rotate_left
      · intro w' hw'
        have hf0_ := HCV.out w' hw'.1
        go_simp
        with_reducible rfl
      rotate_left
      · simp only [Act.put, List.setIfInBounds_toArray, List.set_cons_zero, List.set_cons_succ, i64_w, i32_w]
        rfl
      refine pure_ (i := 12) (N := some 56) (v := (.agg (cellsOf (⟨v0, v1, v2, s, 0, 0, List.replicate 32 0⟩ : Ent)).toArray)) (a' := ?_) #[true, true, true, true, true, true, true, true, true, true, true, true, true, false, false] rfl rfl (any_of HT_.out (by kernel_rfl)) (fun _ _ _ h => h) (Or.inl ⟨by rfl, fun w' => build_run (ps := #[(0, .int .i64 v0), (1, .int .i64 v1), (2, .int .u64 v2), (3, .string s)]) rfl (by rw [List.map_toArray]; rfl) (builtv v0 v1 v2 s)⟩) ?_ ?_
      rotate_left
      · simp only [Act.put, List.setIfInBounds_toArray, List.set_cons_zero, List.set_cons_succ, i64_w, i32_w]
        rfl
      refine one_ (i := 13) (N := some 9) #[true, true, true, true, true, true, true, true, true, true, true, true, true, true, false] rfl rfl (one_of HT_.out (by kernel_rfl)) (by decide) (fun K hK => ?_)
      refine value_ (by rfl) rfl (alloc_run wq 27 rfl _ zero27) ?_
      have hgq := Aside0.mk (show It (wq.alloc (.cells (cellsOf ent0).toArray 27)) wq.heap.size ent0 from heap_alloc_new wq _)
      have HS1 := Aside0.mk (show Below w.heap.size w (wq.alloc (.cells (cellsOf ent0).toArray 27)) ∧ (Trip (wq.alloc (.cells (cellsOf ent0).toArray 27)) g7 v0 v1 v2 ∧ It (wq.alloc (.cells (cellsOf ent0).toArray 27)) w.heap.size ent0) from ⟨hHeld.1.alloc hHeld.1.size _, (((Below.refl wq.heap.size wq).alloc (Nat.le_refl _) _).block _ (blk_lt hHeld.2.1)).trans hHeld.2.1, (((Below.refl wq.heap.size wq).alloc (Nat.le_refl _) _).block _ (blk_lt hHeld.2.2)).trans hHeld.2.2⟩)
      obtain ⟨g9, hg9⟩ : ∃ g9, Aside0 (g9 = wq.heap.size) := ⟨_, ⟨rfl⟩⟩
      have hg9l : Aside0 (w.heap.size < g9 ∧ g7 < g9) := ⟨by rw [hg9.out]; exact ⟨blk_lt hHeld.2.2, blk_lt hHeld.2.1⟩⟩
      rw [← hg9.out] at hgq ⊢
      generalize wq.alloc (.cells (cellsOf ent0).toArray 27) = wa at HS1 hgq hK ⊢
      refine hK.out _ _ (HS1.out) (fun hHeld => ?_)
      clear hK K
      refine norm_ (a' := ?_) ?_ ?_
      rotate_left
      · show Act.put _ (some 9) _ = _
        simp only [Act.put, List.setIfInBounds_toArray, List.set_cons_zero, List.set_cons_succ, i64_w, i32_w]
        rfl
      clear HS1
      refine one_ (i := 14) (N := none) #[true, true, true, true, true, true, true, true, true, true, true, true, true, true, true] rfl rfl (one_of HT_.out (by kernel_rfl)) (by decide) (fun K hK => ?_)
      refine skip_ (by rfl) rfl (store_run wa 27 (.tmp 9) (.tmp 56) rfl g9 (cellsOf (⟨v0, v1, v2, s, 0, 0, List.replicate 32 0⟩ : Ent)).toArray rfl rfl 27 (cellsOf ent0).toArray hgq.out 38 info27 (cells_sz (okv v0 v1 v2 s)) (cells_sz ok0) (cells_all _)) ?_
      have HS1 := Aside0.mk (show Below w.heap.size w (wa.setRow g9 (cellsOf (⟨v0, v1, v2, s, 0, 0, List.replicate 32 0⟩ : Ent)).toArray) ∧ (Trip (wa.setRow g9 (cellsOf (⟨v0, v1, v2, s, 0, 0, List.replicate 32 0⟩ : Ent)).toArray) g7 v0 v1 v2 ∧ It (wa.setRow g9 (cellsOf (⟨v0, v1, v2, s, 0, 0, List.replicate 32 0⟩ : Ent)).toArray) w.heap.size ent0) from ⟨below_setRow hHeld.1 (Nat.le_of_lt hg9l.out.1) _, blk_grown hHeld.2.1 (grown_put _ _ _) (by have := hg9l.out.2; simp; omega), blk_grown hHeld.2.2 (grown_put _ _ _) (by have := hg9l.out.1; simp; omega)⟩)
      have hgx := Aside0.mk (it_put (⟨v0, v1, v2, s, 0, 0, List.replicate 32 0⟩ : Ent) hgq.out)
      generalize wa.setRow g9 (cellsOf (⟨v0, v1, v2, s, 0, 0, List.replicate 32 0⟩ : Ent)).toArray = wb at HS1 hgx hK ⊢
      refine hK.out _ _ HS1.out (fun hHeld => ?_)
      clear hK K HS1 hgq
      refine done_ (done_of HT_.out (by kernel_rfl)) ?_
      clear HT_ HW_
      have HBb := Aside0.mk hHeld.1; have HGb := Aside0.mk hHeld.2.2
      clear hHeld HT3 HG HB
      obtain ⟨x1, hx1⟩ : ∃ x1, Aside0 (x1 = (⟨v0, v1, v2, s, 0, 0, List.replicate 32 0⟩ : Ent)) := ⟨_, ⟨rfl⟩⟩
      have ok1 : Ok x1 := by rw [hx1.out]; exact okv v0 v1 v2 s
      rw [← hx1.out] at hgx
      go_upto_region 16 with (fail)
      obtain ⟨hq0, hq1, hq2, hq3, hq4, hor, hmt, hmw, hmt2, hmw2⟩ := HQ.out
      have hgx' := Aside0.mk (show It wb.drew g9 x1 from hgx.out)
      clear hgx
      have hgx := hgx'
      clear hgx'
      refine start_ (n := 23) (S := (fun W_ => Below w.heap.size w W_ ∧ It W_ w.heap.size ent0)) (ds := []) #[false, false, false, false, false, false, false, false, false, false, false, false, false, false, false, false, false, false, false, false, false, false, false] (by kernel_rfl) rfl rfl (⟨below_drew1 HBb.out, HGb.out⟩) (fun hHeld => ?_); refine with_tabW tk16tab tk16bits (fun HT_ HW_ => ?_)
      generalize wb.drew = wr at hHeld hgx ⊢
      refine pure_ (i := 0) (N := some 57) (v := ?_) (a' := ?_) #[true, false, false, false, false, false, false, false, false, false, false, false, false, false, false, false, false, false, false, false, false, false, false] rfl rfl (any_of HT_.out (by kernel_rfl)) (fun _ _ _ h => h) (Or.inl ⟨by rfl, ?_⟩) ?_ ?_
      rotate_left
      · intro w'
        go_simp
        with_reducible rfl
      rotate_left
      · simp only [Act.put, List.setIfInBounds_toArray, List.set_cons_zero, List.set_cons_succ, i64_w, i32_w]
        rfl
      refine pure_ (i := 1) (N := some 58) (v := ?_) (a' := ?_) #[true, true, false, false, false, false, false, false, false, false, false, false, false, false, false, false, false, false, false, false, false, false, false] rfl rfl (any_of HT_.out (by kernel_rfl)) (fun _ _ _ h => h) (Or.inl ⟨by rfl, ?_⟩) ?_ ?_
      rotate_left
      · intro w'
        go_simp
        with_reducible rfl
      rotate_left
      · simp only [Act.put, List.setIfInBounds_toArray, List.set_cons_zero, List.set_cons_succ, i64_w, i32_w]
        rfl
      refine pure_ (i := 2) (N := some 59) (v := ?_) (a' := ?_) #[true, true, true, false, false, false, false, false, false, false, false, false, false, false, false, false, false, false, false, false, false, false, false] rfl rfl (any_of HT_.out (by kernel_rfl)) (fun _ _ _ h => h) (Or.inl ⟨by rfl, ?_⟩) ?_ ?_
      rotate_left
      · intro w'
        go_simp
        with_reducible rfl
      rotate_left
      · simp only [Act.put, List.setIfInBounds_toArray, List.set_cons_zero, List.set_cons_succ, i64_w, i32_w]
        rfl
      refine take_ (i := 3) (N := some 60) (v := ?_) (a' := ?_) #[true, true, true, true, false, false, false, false, false, false, false, false, false, false, false, false, false, false, false, false, false, false, false] rfl rfl (take_ofW HT_.out HW_.out (by kernel_rfl)) (fun _ _ _ h => h) (Or.inl ⟨by rfl, ?_⟩) hHeld ?_ ?_
      rotate_left
      · intro w' hw'
        have hf0_ := HCC.out.1 w' hw'.1
        go_simp
        with_reducible rfl
      rotate_left
      · simp only [Act.put, List.setIfInBounds_toArray, List.set_cons_zero, List.set_cons_succ, i64_w, i32_w]
        rfl
      refine pure_ (i := 4) (N := some 61) (v := ?_) (a' := ?_) #[true, true, true, true, true, false, false, false, false, false, false, false, false, false, false, false, false, false, false, false, false, false, false] rfl rfl (any_of HT_.out (by kernel_rfl)) (fun _ _ _ h => h) (Or.inl ⟨by rfl, ?_⟩) ?_ ?_
      rotate_left
      · intro w'
        go_simp
        with_reducible rfl
      rotate_left
      · simp only [Act.put, List.setIfInBounds_toArray, List.set_cons_zero, List.set_cons_succ, i64_w, i32_w]
        rfl
      refine pure_ (i := 5) (N := some 62) (v := ?_) (a' := ?_) #[true, true, true, true, true, true, false, false, false, false, false, false, false, false, false, false, false, false, false, false, false, false, false] rfl rfl (any_of HT_.out (by kernel_rfl)) (fun _ _ _ h => h) (Or.inl ⟨by rfl, ?_⟩) ?_ ?_
      rotate_left
      · intro w'
        go_simp
        with_reducible rfl
      rotate_left
      · simp only [Act.put, List.setIfInBounds_toArray, List.set_cons_zero, List.set_cons_succ, i64_w, i32_w]
        rfl
      refine pure_ (i := 6) (N := some 63) (v := ?_) (a' := ?_) #[true, true, true, true, true, true, true, false, false, false, false, false, false, false, false, false, false, false, false, false, false, false, false] rfl rfl (any_of HT_.out (by kernel_rfl)) (fun _ _ _ h => h) (Or.inl ⟨by rfl, ?_⟩) ?_ ?_
      rotate_left
      · intro w'
        go_simp
        with_reducible rfl
      rotate_left
      · simp only [Act.put, List.setIfInBounds_toArray, List.set_cons_zero, List.set_cons_succ, i64_w, i32_w]
        rfl
      refine pure_ (i := 7) (N := some 64) (v := ?_) (a' := ?_) #[true, true, true, true, true, true, true, true, false, false, false, false, false, false, false, false, false, false, false, false, false, false, false] rfl rfl (any_of HT_.out (by kernel_rfl)) (fun _ _ _ h => h) (Or.inl ⟨by rfl, ?_⟩) ?_ ?_
      rotate_left
      · intro w'
        go_simp
        with_reducible rfl
      rotate_left
      · simp only [Act.put, List.setIfInBounds_toArray, List.set_cons_zero, List.set_cons_succ, i64_w, i32_w]
        rfl
      refine pure_ (i := 8) (N := some 65) (v := ?_) (a' := ?_) #[true, true, true, true, true, true, true, true, true, false, false, false, false, false, false, false, false, false, false, false, false, false, false] rfl rfl (any_of HT_.out (by kernel_rfl)) (fun _ _ _ h => h) (Or.inl ⟨by rfl, ?_⟩) ?_ ?_
      rotate_left
      · intro w'
        go_simp
        with_reducible rfl
      rotate_left
      · simp only [Act.put, List.setIfInBounds_toArray, List.set_cons_zero, List.set_cons_succ, i64_w, i32_w]
        rfl
      refine take_ (i := 9) (N := some 66) (v := ?_) (a' := ?_) #[true, true, true, true, true, true, true, true, true, true, false, false, false, false, false, false, false, false, false, false, false, false, false] rfl rfl (take_ofW HT_.out HW_.out (by kernel_rfl)) (fun _ _ _ h => h) (Or.inl ⟨by rfl, ?_⟩) hHeld ?_ ?_
      rotate_left
      · intro w' hw'
        have hf0_ := HCC.out.2.1 w' hw'.1
        go_simp
        with_reducible rfl
      rotate_left
      · simp only [Act.put, List.setIfInBounds_toArray, List.set_cons_zero, List.set_cons_succ, i64_w, i32_w]
        rfl
      refine pure_ (i := 10) (N := some 67) (v := ?_) (a' := ?_) #[true, true, true, true, true, true, true, true, true, true, true, false, false, false, false, false, false, false, false, false, false, false, false] rfl rfl (any_of HT_.out (by kernel_rfl)) (fun _ _ _ h => h) (Or.inl ⟨by rfl, ?_⟩) ?_ ?_
      rotate_left
      · intro w'
        go_simp
        with_reducible rfl
      rotate_left
      · simp only [Act.put, List.setIfInBounds_toArray, List.set_cons_zero, List.set_cons_succ, i64_w, i32_w]
        rfl
      refine pure_ (i := 11) (N := some 68) (v := ?_) (a' := ?_) #[true, true, true, true, true, true, true, true, true, true, true, true, false, false, false, false, false, false, false, false, false, false, false] rfl rfl (any_of HT_.out (by kernel_rfl)) (fun _ _ _ h => h) (Or.inl ⟨by rfl, ?_⟩) ?_ ?_
      rotate_left
      · intro w'
        go_simp
        with_reducible rfl
      rotate_left
      · simp only [Act.put, List.setIfInBounds_toArray, List.set_cons_zero, List.set_cons_succ, i64_w, i32_w]
        rfl
      refine pure_ (i := 12) (N := some 69) (v := ?_) (a' := ?_) #[true, true, true, true, true, true, true, true, true, true, true, true, true, false, false, false, false, false, false, false, false, false, false] rfl rfl (any_of HT_.out (by kernel_rfl)) (fun _ _ _ h => h) (Or.inl ⟨by rfl, ?_⟩) ?_ ?_
      rotate_left
      · intro w'
        go_simp
        with_reducible rfl
      rotate_left
      · simp only [Act.put, List.setIfInBounds_toArray, List.set_cons_zero, List.set_cons_succ, i64_w, i32_w]
        rfl
      refine pure_ (i := 13) (N := some 70) (v := ?_) (a' := ?_) #[true, true, true, true, true, true, true, true, true, true, true, true, true, true, false, false, false, false, false, false, false, false, false] rfl rfl (any_of HT_.out (by kernel_rfl)) (fun _ _ _ h => h) (Or.inl ⟨by rfl, ?_⟩) ?_ ?_
      rotate_left
      · intro w'
        go_simp
        with_reducible rfl
      rotate_left
      · simp only [Act.put, List.setIfInBounds_toArray, List.set_cons_zero, List.set_cons_succ, i64_w, i32_w]
        rfl
      refine pure_ (i := 14) (N := some 71) (v := ?_) (a' := ?_) #[true, true, true, true, true, true, true, true, true, true, true, true, true, true, true, false, false, false, false, false, false, false, false] rfl rfl (any_of HT_.out (by kernel_rfl)) (fun _ _ _ h => h) (Or.inl ⟨by rfl, ?_⟩) ?_ ?_
      rotate_left
      · intro w'
        go_simp
        with_reducible rfl
      rotate_left
      · simp only [Act.put, List.setIfInBounds_toArray, List.set_cons_zero, List.set_cons_succ, i64_w, i32_w]
        rfl
      refine pure_ (i := 15) (N := some 72) (v := ?_) (a' := ?_) #[true, true, true, true, true, true, true, true, true, true, true, true, true, true, true, true, false, false, false, false, false, false, false] rfl rfl (any_of HT_.out (by kernel_rfl)) (fun _ _ _ h => h) (Or.inl ⟨by rfl, ?_⟩) ?_ ?_
      rotate_left
      · intro w'
        go_simp
        with_reducible rfl
      rotate_left
      · simp only [Act.put, List.setIfInBounds_toArray, List.set_cons_zero, List.set_cons_succ, i64_w, i32_w]
        rfl
      refine take_ (i := 16) (N := some 73) (v := ?_) (a' := ?_) #[true, true, true, true, true, true, true, true, true, true, true, true, true, true, true, true, true, false, false, false, false, false, false] rfl rfl (take_ofW HT_.out HW_.out (by kernel_rfl)) (fun _ _ _ h => h) (Or.inl ⟨by rfl, ?_⟩) hHeld ?_ ?_
      rotate_left
      · intro w' hw'
        have hf0_ := HCC.out.2.2 w' hw'.1
        go_simp
        with_reducible rfl
      rotate_left
      · simp only [Act.put, List.setIfInBounds_toArray, List.set_cons_zero, List.set_cons_succ, i64_w, i32_w]
        rfl
      refine pure_ (i := 17) (N := some 74) (v := ?_) (a' := ?_) #[true, true, true, true, true, true, true, true, true, true, true, true, true, true, true, true, true, true, false, false, false, false, false] rfl rfl (any_of HT_.out (by kernel_rfl)) (fun _ _ _ h => h) (Or.inl ⟨by rfl, ?_⟩) ?_ ?_
      rotate_left
      · intro w'
        go_simp
        with_reducible rfl
      rotate_left
      · simp only [Act.put, List.setIfInBounds_toArray, List.set_cons_zero, List.set_cons_succ, i64_w, i32_w]
        rfl
      refine pure_ (i := 18) (N := some 75) (v := ?_) (a' := ?_) #[true, true, true, true, true, true, true, true, true, true, true, true, true, true, true, true, true, true, true, false, false, false, false] rfl rfl (any_of HT_.out (by kernel_rfl)) (fun _ _ _ h => h) (Or.inl ⟨by rfl, ?_⟩) ?_ ?_
      rotate_left
      · intro w'
        go_simp
        with_reducible rfl
      rotate_left
      · simp only [Act.put, List.setIfInBounds_toArray, List.set_cons_zero, List.set_cons_succ, i64_w, i32_w]
        rfl
      refine pure_ (i := 19) (N := some 76) (v := ?_) (a' := ?_) #[true, true, true, true, true, true, true, true, true, true, true, true, true, true, true, true, true, true, true, true, false, false, false] rfl rfl (any_of HT_.out (by kernel_rfl)) (fun _ _ _ h => h) (Or.inl ⟨by rfl, ?_⟩) ?_ ?_
      rotate_left
      · intro w'
        go_simp
        with_reducible rfl
      rotate_left
      · simp only [Act.put, List.setIfInBounds_toArray, List.set_cons_zero, List.set_cons_succ, i64_w, i32_w]
        rfl
      refine one_ (i := 20) (N := none) #[true, true, true, true, true, true, true, true, true, true, true, true, true, true, true, true, true, true, true, true, true, false, false] rfl rfl (one_of HT_.out (by kernel_rfl)) (by decide) (fun K hK => ?_)
      refine skip_ (by rfl) rfl (put_run rfl rfl rfl (put_act hgx.out ok1 y0)) ?_
      have HS1 := Aside0.mk (show Below w.heap.size w (wr.setRow g9 (cellsOf { x1 with act := y0 }).toArray) ∧ It (wr.setRow g9 (cellsOf { x1 with act := y0 }).toArray) w.heap.size ent0 from ⟨below_setRow hHeld.1 (Nat.le_of_lt hg9l.out.1) _, blk_grown hHeld.2 (grown_put _ _ _) (by have := hg9l.out.1; simp; omega)⟩)
      have N5 := Aside0.mk (it_put { x1 with act := y0 } hgx.out)
      generalize wr.setRow g9 (cellsOf { x1 with act := y0 }).toArray = wc at HS1 N5 hK ⊢
      refine hK.out _ _ HS1.out (fun hHeld => ?_)
      clear hK K HS1 hgx
      have hgx := N5
      clear N5
      refine pure_ (i := 21) (N := some 77) (v := ?_) (a' := ?_) #[true, true, true, true, true, true, true, true, true, true, true, true, true, true, true, true, true, true, true, true, true, true, false] rfl rfl (any_of HT_.out (by kernel_rfl)) (fun _ _ _ h => h) (Or.inl ⟨by rfl, ?_⟩) ?_ ?_
      rotate_left
      · intro w'
        go_simp
        with_reducible rfl
      rotate_left
      · simp only [Act.put, List.setIfInBounds_toArray, List.set_cons_zero, List.set_cons_succ, i64_w, i32_w]
        rfl
      refine one_ (i := 22) (N := none) #[true, true, true, true, true, true, true, true, true, true, true, true, true, true, true, true, true, true, true, true, true, true, true] rfl rfl (one_of HT_.out (by kernel_rfl)) (by decide) (fun K hK => ?_)
      refine skip_ (by rfl) rfl (put_run rfl rfl rfl (put_status hgx.out ok1 (y1 * 256 + y2))) ?_
      have HS1 := Aside0.mk (show Below w.heap.size w (wc.setRow g9 (cellsOf { x1 with act := y0, status := y1 * 256 + y2 }).toArray) ∧ It (wc.setRow g9 (cellsOf { x1 with act := y0, status := y1 * 256 + y2 }).toArray) w.heap.size ent0 from ⟨below_setRow hHeld.1 (Nat.le_of_lt hg9l.out.1) _, blk_grown hHeld.2 (grown_put _ _ _) (by have := hg9l.out.1; simp; omega)⟩)
      have N5 := Aside0.mk (it_put { x1 with act := y0, status := y1 * 256 + y2 } hgx.out)
      generalize wc.setRow g9 (cellsOf { x1 with act := y0, status := y1 * 256 + y2 }).toArray = wd at HS1 N5 hK ⊢
      refine hK.out _ _ HS1.out (fun hHeld => ?_)
      clear hK K HS1 hgx
      have hgx := N5
      clear N5
      refine done_ (done_of HT_.out (by kernel_rfl)) ?_
      clear HT_ HW_
      have HBd := Aside0.mk hHeld.1; have HGd := Aside0.mk hHeld.2
      clear hHeld HBb HGb HCC
      obtain ⟨x3, hx3⟩ : ∃ x3, Aside0 (x3 = ({ x1 with act := y0, status := y1 * 256 + y2 } : Ent)) := ⟨_, ⟨rfl⟩⟩
      have ok3 : Ok x3 := by rw [hx3.out]; exact ok1
      rw [← hx3.out] at hgx
      clear hq0 hq1 hq2 hq3 hq4 hor hmt hmw hmt2 hmw2 hml2 hml3 hml4 hml5
      obtain ⟨adi, hAi, hadi⟩ := CB.cells (hCi wd (Kd.C_below HR.out HBd.out)) (by rw [hzi32.out]; decide)
      subst hAi
      have HLI := Aside0.mk (run_loadVar_at (P := Try.prog) (w := wd) adi 25 (nums .u8 zi) _ hadi Try.underlying25 rfl (by rw [nums_length, hzi32.out]; exact info25))
      clear hadi
      go_wp2_with (first | (refine op_load_at rfl 25 (.tmp 83) rfl _ _ rfl HLI.out ?_) | (refine op_put (w0 := w) w.heap.size rfl 25 (.tmp 85) (.tmp 84) rfl g9 6 (.agg (nums .u8 zi).toArray) x3 { x3 with of := zi } rfl rfl hgx.out (put_of hgx.out ok3 zi hzi32.out) HBd.out (Nat.le_of_lt hg9l.out.1) ?_; intro we hge hwe HBe; obtain ⟨x4, hx4⟩ : ∃ x4, Aside0 (x4 = ({ x3 with of := zi } : Ent)) := ⟨_, ⟨rfl⟩⟩; have ok4 : Ok x4 := (by rw [hx4.out]; exact hzi32.out); rw [← hx4.out] at hge; have HGe := Aside0.mk (show It we w.heap.size ent0 from blk_grown HGd.out hwe.out (by have := hg9l.out.1; simp; omega))) | (refine op_load rfl 27 (.tmp 9) rfl g9 rfl 27 (cellsOf x4).toArray _ hge.out Try.underlying27 rfl 38 info27 (cells_sz ok4) ?_) | (refine op_store (w0 := w) w.heap.size rfl 27 (.tmp 2) (.tmp 86) rfl w.heap.size (cellsOf x4).toArray rfl rfl 27 (cellsOf ent0).toArray HGe.out 38 info27 (cells_sz ok4) (cells_sz ok0) (cells_all _) HBe.out (Nat.le_refl _) ?_; intro wz hgz _ HBz))
      have hfin : x4 = entAt b (lenN b) := by rw [HFIN.out, hx4.out, hx3.out, hx1.out]
      exact ret_row3 rfl w.heap.size rfl 27 (cellsOf x4).toArray _ hgz.out Try.underlying27 rfl 38 info27 (cells_sz ok4) rfl ⟨by rw [← hfin, HN.out]; rfl, HBz.out⟩
/-- What the program's Take answers. -/
theorem take_calls (A : Option Addr) (c : Nat) (b : List Int) (w : World) (hr : CB w A b) (hc : b.length ≤ c) (hl : b.length ≤ 1000000) (hby : ∀ x ∈ b, 0 ≤ x ∧ x < 256) :
    Calls Try.prog 24 #[.slice A b.length c] w fun e w' => e = .returned (.tuple #[.agg (cellsOf (takeOut b).1).toArray, .int .i64 (takeOut b).2.1, .int .i64 (takeOut b).2.2]) ∧ Below w.heap.size w w' := by
  unfold takeOut
  by_cases hb : beginsB b = false
  · rw [if_pos hb]; exact take_syntax A c b w hr hc hl hby hb
  rw [if_neg hb]
  have hb' : beginsB b = true := by simpa using hb
  by_cases h24 : b.length ≤ 24
  · rw [if_pos h24]; exact take_short1 A c b w hr hc hl hby hb' h24
  rw [if_neg h24]
  by_cases hsh : b.length < 60 + lenN b
  · rw [if_pos hsh]; exact take_short2 A c b w hr hc hl hby hb' (by omega) hsh
  rw [if_neg hsh]
  have := take_yes A c b w hr hc hl hby hb' (by omega) (by omega)
  simpa using this
end Go.Proofs.Ytgpgblidplmchaa.Et
