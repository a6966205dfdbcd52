/- Which entry stands at bytes' beginning: the walk of the document's Take. -/
import Derived.Test.YtgpgblidplmchaaEt
namespace Go.Proofs.Ytgpgblidplmchaa.Eu
open Go.RowKit Go.Proofs.YtgpgblidplmchaaW.PrintWords Go.Proofs.YtgpgblidplmchaaW.PrintLast Go.Proofs.YtgpgblidplmchaaW.PrintMore
open En Ag Spc OctA OctC Eb Eg Ep Et RefB
set_option linter.unusedVariables false
set_option linter.unusedSimpArgs false
set_option maxRecDepth 100000
theorem builtw32 (a b c : Int) (s : ByteArray) (d e : Int) (x0 x1 x2 x3 x4 x5 x6 x7 x8 x9 x10 x11 x12 x13 x14 x15 x16 x17 x18 x19 x20 x21 x22 x23 x24 x25 x26 x27 x28 x29 x30 x31 : Int) : Try.prog.built 27 [(0, .int .i64 a), (1, .int .i64 b), (2, .int .u64 c), (3, .string s), (4, .int .i64 d), (5, .int .i64 e), (6, .agg (nums .u8 [x0, x1, x2, x3, x4, x5, x6, x7, x8, x9, x10, x11, x12, x13, x14, x15, x16, x17, x18, x19, x20, x21, x22, x23, x24, x25, x26, x27, x28, x29, x30, x31]).toArray)] = some (cellsOf ⟨a, b, c, s, d, e, [x0, x1, x2, x3, x4, x5, x6, x7, x8, x9, x10, x11, x12, x13, x14, x15, x16, x17, x18, x19, x20, x21, x22, x23, x24, x25, x26, x27, x28, x29, x30, x31]⟩).toArray := by kernel_rfl
theorem builtw (a b c : Int) (s : ByteArray) (d e : Int) (l : List Int) (hl : l.length = 32) : Try.prog.built 27 [(0, .int .i64 a), (1, .int .i64 b), (2, .int .u64 c), (3, .string s), (4, .int .i64 d), (5, .int .i64 e), (6, .agg (nums .u8 l).toArray)] = some (cellsOf ⟨a, b, c, s, d, e, l⟩).toArray := by
  match l, hl with
  | [x0, x1, x2, x3, x4, x5, x6, x7, x8, x9, x10, x11, x12, x13, x14, x15, x16, x17, x18, x19, x20, x21, x22, x23, x24, x25, x26, x27, x28, x29, x30, x31], _ => exact builtw32 a b c s d e x0 x1 x2 x3 x4 x5 x6 x7 x8 x9 x10 x11 x12 x13 x14 x15 x16 x17 x18 x19 x20 x21 x22 x23 x24 x25 x26 x27 x28 x29 x30 x31
def rk12T : Bool × List (List Nat × List Nat) := (true, [([], []), ([], []), ([1], [1]), ([0, 2], [0, 2]), ([3], [3]), ([4], [4]), ([5], [5]), ([], []), ([], []), ([7, 8], [7, 8]), ([9], [9]), ([10], [10]), ([6, 11], [6, 11]), ([12], [12]), ([13, 0, 1, 2, 3, 4, 5, 6, 7, 8, 9, 10, 11, 12, 13], [13])])
def rk12B : List Nat := [0, 0, 2, 7, 15, 31, 63, 0, 0, 384, 896, 1920, 4095, 8191, 16383]
theorem rk12tab : rtab .any (opsOf Try.f25 12) = rk12T := by kernel_rfl
theorem rk12bits : waitsOk rk12T.2 rk12B = true := by kernel_rfl
def rk22T : Bool × List (List Nat × List Nat) := (true, [([], []), ([0], [0]), ([], []), ([2], [2]), ([], []), ([], []), ([], []), ([5, 6], [5, 6]), ([7], [7]), ([], []), ([], []), ([9, 10], [9, 10]), ([11], [11]), ([12], [12]), ([], []), ([], []), ([15], [15]), ([14, 16], [14, 16]), ([17], [17]), ([18], [18]), ([19], [19]), ([], []), ([], []), ([22], [22]), ([21, 23], [21, 23]), ([24], [24]), ([25], [25]), ([20, 26], [20, 26]), ([], []), ([], []), ([29], [29]), ([], []), ([31], [31]), ([28, 30, 32], [28, 30, 32]), ([33], [33]), ([34], [34]), ([1, 3, 4, 8, 13, 27, 35], [1, 3, 4, 8, 13, 27, 35]), ([], []), ([37, 36, 0, 1, 2, 3, 4, 5, 6, 7, 8, 9, 10, 11, 12, 13, 14, 15, 16, 17, 18, 19, 20, 21, 22, 23, 24, 25, 26, 27, 28, 29, 30, 31, 32, 33, 34, 35, 36, 37], [36, 37])])
def rk22B : List Nat := [0, 1, 0, 4, 0, 0, 0, 96, 224, 0, 0, 1536, 3584, 7680, 0, 0, 32768, 114688, 245760, 507904, 1032192, 0, 0, 4194304, 14680064, 31457280, 65011712, 134201344, 0, 0, 536870912, 0, 2147483648, 8321499136, 16911433728, 34091302912, 68719476735, 0, 274877906943]
theorem rk22tab : rtab .any (opsOf Try.f25 22) = rk22T := by kernel_rfl
theorem rk22bits : waitsOk rk22T.2 rk22B = true := by kernel_rfl
/-- nothing is wrong ahead of i -/
def Good (b : List Int) (i : Nat) : Prop := (0 < i → b.getD 0 0 ≤ 127) ∧ (8 < i → b.getD 8 0 ≤ 127) ∧ (24 < i → b.getD 24 0 ≤ 16 ∧ i ≤ 59 + lenN b ∧ (26 + lenN b < i → b.getD (26 + lenN b) 0 ≤ 3) ∧ (27 + lenN b < i → b.getD (26 + lenN b) 0 * 256 + b.getD (27 + lenN b) 0 ≤ 999))
theorem good_sign {b : List Int} {n : Nat} (h : Good b n) (hv : b.getD n 0 ≤ 127) (hn : n = 0 ∨ n = 8) : Good b (n + 1) := by
  obtain ⟨h0, h8, _⟩ := h
  rcases hn with rfl | rfl
  · exact ⟨fun _ => hv, fun h => absurd h (by omega), fun h => absurd h (by omega)⟩
  · exact ⟨fun _ => h0 (by omega), fun _ => hv, fun h => absurd h (by omega)⟩
theorem good_low {b : List Int} {i : Nat} (h : Good b i) (h0 : i ≠ 0) (h8 : i ≠ 8) (hi : i < 24) : Good b (i + 1) := ⟨fun _ => h.1 (by omega), fun _ => h.2.1 (by omega), fun h => absurd h (by omega)⟩
theorem good_24 {b : List Int} (h : Good b 24) (h16 : b.getD 24 0 ≤ 16) : Good b 25 := ⟨fun _ => h.1 (by omega), fun _ => h.2.1 (by omega), fun _ => ⟨h16, by omega, fun h => absurd h (by omega), fun h => absurd h (by omega)⟩⟩
theorem good_high {b : List Int} {i : Nat} (h : Good b i) (hi : 24 < i) (h59 : i ≠ 59 + lenN b) (h26 : i = 26 + lenN b → b.getD (26 + lenN b) 0 ≤ 3) (h27 : i = 27 + lenN b → b.getD (26 + lenN b) 0 * 256 + b.getD (27 + lenN b) 0 ≤ 999) : Good b (i + 1) := by
  obtain ⟨h0, h8, h24⟩ := h
  obtain ⟨a1, a2, a3, a4⟩ := h24 hi
  refine ⟨fun _ => h0 (by omega), fun _ => h8 (by omega), fun _ => ⟨a1, by omega, fun h => ?_, fun h => ?_⟩⟩
  · by_cases he : i = 26 + lenN b
    · exact h26 he
    · exact a3 (by omega)
  · by_cases he : i = 27 + lenN b
    · exact h27 he
    · exact a4 (by omega)
theorem good_begins {b : List Int} (h : Good b b.length) : beginsB b = true := by
  obtain ⟨h0, h8, h24⟩ := h
  have n0 : ∀ i, (i < b.length → b.getD i 0 ≤ 127) → bad b i = false := fun i hi => by
    unfold bad
    by_cases hlt : i < b.length
    · rw [decide_eq_false (p := 127 < b.getD i 0) (by have := hi hlt; omega), Bool.and_false]
    · rw [decide_eq_false hlt]; rfl
  unfold beginsB
  rw [n0 0 h0, n0 8 h8]
  simp only [Bool.or_false, Bool.false_eq_true, if_false]
  by_cases hl : b.length ≤ 24
  · rw [if_pos hl]
  obtain ⟨a1, a2, a3, a4⟩ := h24 (by omega)
  rw [if_neg hl, if_neg (by omega)]
  show stat b (26 + lenN b) = true
  unfold stat
  by_cases he : b.length = 26 + lenN b + 1
  · rw [if_pos he]; exact decide_eq_true (a3 (by omega))
  rw [if_neg he]
  by_cases hg : 26 + lenN b + 1 < b.length
  · rw [if_pos hg]
    have := a4 (by omega)
    rw [show 26 + lenN b + 1 = 27 + lenN b by omega]
    exact decide_eq_true this
  · rw [if_neg hg]
theorem good_full {b : List Int} (h : Good b (59 + lenN b)) (hl : 59 + lenN b < b.length) : beginsB b = true := by
  obtain ⟨h0, h8, h24⟩ := h
  obtain ⟨a1, a2, a3, a4⟩ := h24 (by omega)
  unfold beginsB
  have n0 : ∀ i, b.getD i 0 ≤ 127 → bad b i = false := fun i hi => by
    unfold bad
    rw [decide_eq_false (p := 127 < b.getD i 0) (by omega), Bool.and_false]
  rw [n0 0 (h0 (by omega)), n0 8 (h8 (by omega))]
  simp only [Bool.or_false, Bool.false_eq_true, if_false]
  rw [if_neg (by omega), if_neg (by omega)]
  show stat b (26 + lenN b) = true
  unfold stat
  rw [if_neg (by omega), if_pos (by omega)]
  have := a4 (by omega)
  rw [show 26 + lenN b + 1 = 27 + lenN b by omega]
  exact decide_eq_true this
theorem bad_24 {b : List Int} (hl : 24 < b.length) (h : 16 < b.getD 24 0) : beginsB b = false := by
  unfold beginsB
  by_cases h0 : (bad b 0 || bad b 8) = true
  · rw [if_pos h0]
  · rw [if_neg h0, if_neg (by omega), if_pos h]
theorem bad_26 {b : List Int} (hby : ∀ x ∈ b, 0 ≤ x ∧ x < 256) (hl : 26 + lenN b < b.length) (h : 3 < b.getD (26 + lenN b) 0) : beginsB b = false := by
  unfold beginsB
  by_cases h0 : (bad b 0 || bad b 8) = true
  · rw [if_pos h0]
  rw [if_neg h0, if_neg (by omega)]
  by_cases h1 : 16 < b.getD 24 0
  · rw [if_pos h1]
  rw [if_neg h1]
  show stat b (26 + lenN b) = false
  unfold stat
  by_cases he : b.length = 26 + lenN b + 1
  · rw [if_pos he]; exact decide_eq_false (by omega)
  · have := get_byte hby (26 + lenN b + 1) (by omega)
    rw [if_neg he, if_pos (by omega)]; exact decide_eq_false (by omega)
theorem bad_27 {b : List Int} (hl : 27 + lenN b < b.length) (h : 999 < b.getD (26 + lenN b) 0 * 256 + b.getD (27 + lenN b) 0) : beginsB b = false := by
  unfold beginsB
  by_cases h0 : (bad b 0 || bad b 8) = true
  · rw [if_pos h0]
  rw [if_neg h0, if_neg (by omega)]
  by_cases h1 : 16 < b.getD 24 0
  · rw [if_pos h1]
  rw [if_neg h1]
  show stat b (26 + lenN b) = false
  unfold stat
  rw [if_neg (by omega), if_pos (by omega), show 26 + lenN b + 1 = 27 + lenN b by omega]
  exact decide_eq_false (by omega)
theorem three (b : List Int) (hby : ∀ x ∈ b, 0 ≤ x ∧ x < 256) (hl : 24 < b.length) (hmx : b.length ≤ 1000000) (p0 : b.getD 0 0 ≤ 127) (p8 : b.getD 8 0 ≤ 127) :
    ∃ v0 v1 v2 : Int, (0 ≤ v0 ∧ v0 < 9223372036854775808) ∧ (0 ≤ v1 ∧ v1 < 9223372036854775808) ∧ POct.cofferref1_At.f 40 b 0 8 = some (v0, 0) ∧ POct.cofferref1_At.f 40 b 8 8 = some (v1, 0) ∧ POct.cofferref1_At.f 40 b 16 8 = some (v2, 0) ∧ ((Spc.val 0 (b.take 8) : Nat) : Int) = v0 ∧ ((Spc.val 0 ((b.drop 8).take 8) : Nat) : Int) = v1 ∧ ((Spc.val 0 ((b.drop 16).take 8) : Nat) : Int) = v2 := by
  have hv : ∀ i, i + 8 ≤ b.length → ((b.drop i).take 8).length = 8 ∧ ∀ y ∈ (b.drop i).take 8, 0 ≤ y ∧ y < 256 := fun i hi => ⟨by simp; omega, fun y hy => hby y (List.mem_of_mem_drop (List.mem_of_mem_take hy))⟩
  have b0 := val_small (hv 0 (by omega)).1 (hv 0 (by omega)).2 (by rw [List.getD_eq_getElem?_getD] at p0 ⊢; simpa using p0)
  have b1 := val_small (hv 8 (by omega)).1 (hv 8 (by omega)).2 (by rw [List.getD_eq_getElem?_getD] at p8 ⊢; simpa using p8)
  rw [List.drop_zero] at b0
  have a0 := ref_at_ok 40 b 0 8 hby (by omega) (by omega) (by omega) (by omega) (by omega)
  rw [List.drop_zero] at a0
  exact ⟨_, _, _, by omega, by omega, a0, ref_at_ok 40 b 8 8 hby (by omega) (by omega) (by omega) (by omega) (by omega), ref_at_ok 40 b 16 8 hby (by omega) (by omega) (by omega) (by omega) (by omega), rfl, rfl, rfl⟩
theorem wraps2 {v0 v1 : Int} (b0 : 0 ≤ v0 ∧ v0 < 9223372036854775808) (b1 : 0 ≤ v1 ∧ v1 < 9223372036854775808) : IntKind.i64.wrap v0 = v0 ∧ IntKind.i64.wrap v1 = v1 ∧ wrap64 v0 = v0 ∧ wrap64 v1 = v1 := by
  refine ⟨?_, ?_, w64_id (by omega) (by omega), w64_id (by omega) (by omega)⟩
  all_goals
    rw [IntKind.wrap_i64]
    omega
theorem wraps22 (m : Nat) (y0 y1 y2 : Int) (hm : m ≤ 100) (h0 : 0 ≤ y0 ∧ y0 < 256) (h1 : 0 ≤ y1 ∧ y1 < 256) (h2 : 0 ≤ y2 ∧ y2 < 256) :
    IntKind.i64.wrap y0 = y0 ∧ IntKind.i64.wrap y1 = y1 ∧ IntKind.i64.wrap y2 = y2 ∧ wrap64 (y1 * 256) = y1 * 256 ∧ IntKind.i64.wrap (y1 * 256) = y1 * 256 ∧ wrap64 (y1 * 256 + y2) = y1 * 256 + y2 ∧ ((m : Int) + 1).toNat = m + 1 ∧ wrap64 ((m : Int) + 1) = (m : Int) + 1 ∧ ((m : Int) + 2).toNat = m + 2 ∧ wrap64 ((m : Int) + 2) = (m : Int) + 2 ∧ wrap64 ((m : Int) + 3) = (m : Int) + 3 ∧ wrap64 ((m : Int) + 35) = (m : Int) + 35 := by
  refine ⟨?_, ?_, ?_, w64_id (by omega) (by omega), ?_, w64_id (by omega) (by omega), by omega, w64_id (by omega) (by omega), by omega, w64_id (by omega) (by omega), w64_id (by omega) (by omega), w64_id (by omega) (by omega)⟩
  all_goals
    rw [IntKind.wrap_i64]
    omega
theorem wraps27 (i m : Nat) (y0 y1 : Int) (hm : i = m + 1) (hi : i ≤ 1000000) (h0 : 0 ≤ y0 ∧ y0 < 256) (h1 : 0 ≤ y1 ∧ y1 < 256) :
    IntKind.i64.wrap y0 = y0 ∧ IntKind.i64.wrap y1 = y1 ∧ wrap64 (y0 * 256) = y0 * 256 ∧ wrap64 (y0 * 256 + y1) = y0 * 256 + y1 ∧ wrap64 ((i : Int) - 1) = (m : Int) ∧ IntKind.i64.wrap ((i : Int) - 1) = (m : Int) := by
  refine ⟨?_, ?_, w64_id (by omega) (by omega), w64_id (by omega) (by omega), ?_, ?_⟩
  · rw [IntKind.wrap_i64]; omega
  · rw [IntKind.wrap_i64]; omega
  · rw [w64_id (by omega) (by omega)]; omega
  · rw [IntKind.wrap_i64]; omega
set_option maxHeartbeats 25600000 in
theorem ref_take_calls (A : Option Addr) (c : Nat) (b : List Int) (w : World) (hr : CB w A b) (hc : b.length ≤ c) (hl : b.length ≤ 1000000) (hby : ∀ x ∈ b, 0 ≤ x ∧ x < 256) :
    Calls Try.prog 25 #[.slice A b.length c] w fun e w' => e = .returned (.tuple #[.agg (cellsOf (takeOut b).1).toArray, .int .i64 (takeOut b).2.1, .int .i64 (takeOut b).2.2]) ∧ Below w.heap.size w w' := by
  have HR := Aside0.mk hr; have HC := Aside0.mk hc; have HBY := Aside0.mk hby
  have HB0 := Aside0.mk ((Below.refl w.heap.size w).alloc (Nat.le_refl _) (.cells (cellsOf ent0).toArray 27))
  have HG0 := Aside0.mk (show It (w.alloc (.cells (cellsOf ent0).toArray 27)) w.heap.size ent0 from heap_alloc_new w _)
  have HAT : Aside0 (∀ i, i < b.length → ∃ ad, A = some ad) := ⟨fun i hi => by obtain ⟨ad, h, _⟩ := CB.cells hr (by omega); exact ⟨ad, h⟩⟩
  obtain ⟨x, hxl⟩ : ∃ x : Nat, lenN b = x := ⟨_, rfl⟩
  have HX := Aside0.mk hxl
  have HXB : Aside0 (24 < b.length → b.getD 24 0 = (x : Int)) := ⟨fun h => by have := get_byte hby 24 h; rw [← hxl]; unfold lenN; omega⟩
  clear hr hc hby hxl
  go_enter Try.func25, Try.ntmps25
  go_wp2_with (first | (with_reducible refine op_alloc rfl 27 rfl _ zero27 ?_))
  go_loopw [5, 6] (fun un u wr => ∃ (i : Nat), i ≤ b.length ∧ u = .int .i64 i ∧ un = .int .i64 (if i ≤ 24 then (0 : Int) else (x : Int)) ∧ Aside0 (Good b i) ∧ Aside0 (Below w.heap.size w wr) ∧ Aside0 (It wr w.heap.size ent0)) (fun _ u _ => b.length - (intOf u).toNat)
  case atStart => exact ⟨0, by omega, rfl, rfl, ⟨⟨fun h => absurd h (by omega), fun h => absurd h (by omega), fun h => absurd h (by omega)⟩⟩, HB0, HG0⟩
  case round =>
    clear HB0 HG0
    obtain ⟨i, hi, rfl, hun, HGD, HBj, HGj⟩ := hrel
    obtain ⟨nv, hnv⟩ : ∃ nv : Int, nv = (if i ≤ 24 then (0 : Int) else (x : Int)) := ⟨_, rfl⟩
    rw [← hnv] at hun
    subst hun
    by_cases hlt : i < b.length
    · obtain ⟨ad, rfl⟩ := HAT.out i hlt
      have hx100 : 24 < i → x ≤ 16 := fun h => by have h1 := (HGD.out.2.2 h).1; rw [HXB.out (by omega)] at h1; omega
      by_cases h0 : i = 0
      · subst h0
        obtain ⟨y, hy⟩ : ∃ y, b.getD 0 0 = y := ⟨_, rfl⟩
        have kc : wr.cell? ad = some (.int .u8 y) := by have := cb_at (Kd.C_below HR.out HBj.out) 0 hlt; rw [hy] at this; exact this
        have hnv0 : nv = 0 := by rw [hnv, if_pos (by omega)]
        subst hnv0
        by_cases hbd : 127 < y
        · have dy : decide (128 ≤ y) = true := decide_eq_true (by omega)
          have hbad : bad b 0 = true := by unfold bad; rw [hy, decide_eq_true hlt, decide_eq_true hbd]; rfl
          clear hy hbd hnv
          have HV : Aside0 (takeOut b = (ent0, 0, 4)) := ⟨by unfold takeOut; rw [if_pos (by unfold beginsB; rw [if_pos (by rw [hbad]; simp)])]⟩
          go_wp2_with (first | (with_reducible refine op_build rfl 27 _ rfl (cellsOf ent0).toArray (by rw [List.map_toArray]; exact built00) ?_) | (refine op_store (w0 := w) w.heap.size rfl 27 (.tmp 2) (.tmp 80) rfl w.heap.size (cellsOf ent0).toArray rfl rfl 27 (cellsOf ent0).toArray HGj.out 38 info27 (cells_sz ok0) (cells_sz ok0) (cells_all _) HBj.out (Nat.le_refl _) ?_; intro wz hgz _ HBz))
          exact ret_row3 rfl w.heap.size rfl 27 (cellsOf ent0).toArray _ hgz.out Try.underlying27 rfl 38 info27 (cells_sz ok0) rfl ⟨by rw [HV.out]; rfl, HBz.out⟩
        · have dy : decide (128 ≤ y) = false := decide_eq_false (by omega)
          have HG2 := Aside0.mk (good_sign HGD.out (n := 0) (by rw [hy]; omega) (by omega))
          clear hy hbd hnv
          go_wp2_with fail
          go_roundw
          case rel => exact ⟨1, by omega, by go_num, by simp, HG2, HBj, HGj⟩
          case measure => simp [intOf]; omega
      by_cases h8 : i = 8
      · subst h8
        obtain ⟨y, hy⟩ : ∃ y, b.getD 8 0 = y := ⟨_, rfl⟩
        have kc : wr.cell? { block := ad.block, off := ad.off + 8 } = some (.int .u8 y) := by have := cb_at (Kd.C_below HR.out HBj.out) 8 hlt; rw [hy] at this; exact this
        have hnv0 : nv = 0 := by rw [hnv, if_pos (by omega)]
        subst hnv0
        by_cases hbd : 127 < y
        · have dy : decide (128 ≤ y) = true := decide_eq_true (by omega)
          have hbad : bad b 8 = true := by unfold bad; rw [hy, decide_eq_true hlt, decide_eq_true hbd]; rfl
          clear hy hbd hnv
          have HV : Aside0 (takeOut b = (ent0, 0, 4)) := ⟨by unfold takeOut; rw [if_pos (by unfold beginsB; rw [if_pos (by rw [hbad]; simp)])]⟩
          go_wp2_with (first | (with_reducible refine op_build rfl 27 _ rfl (cellsOf ent0).toArray (by rw [List.map_toArray]; exact built00) ?_) | (refine op_store (w0 := w) w.heap.size rfl 27 (.tmp 2) (.tmp 80) rfl w.heap.size (cellsOf ent0).toArray rfl rfl 27 (cellsOf ent0).toArray HGj.out 38 info27 (cells_sz ok0) (cells_sz ok0) (cells_all _) HBj.out (Nat.le_refl _) ?_; intro wz hgz _ HBz))
          exact ret_row3 rfl w.heap.size rfl 27 (cellsOf ent0).toArray _ hgz.out Try.underlying27 rfl 38 info27 (cells_sz ok0) rfl ⟨by rw [HV.out]; rfl, HBz.out⟩
        · have dy : decide (128 ≤ y) = false := decide_eq_false (by omega)
          have HG2 := Aside0.mk (good_sign HGD.out (n := 8) (by rw [hy]; omega) (by omega))
          clear hy hbd hnv
          go_wp2_with fail
          go_roundw
          case rel => exact ⟨9, by omega, by go_num, by simp, HG2, HBj, HGj⟩
          case measure => simp [intOf]; omega
      by_cases h24 : i = 24
      · subst h24
        obtain ⟨y, hy⟩ : ∃ y, b.getD 24 0 = y := ⟨_, rfl⟩
        have kc : wr.cell? { block := ad.block, off := ad.off + 24 } = some (.int .u8 y) := by have := cb_at (Kd.C_below HR.out HBj.out) 24 hlt; rw [hy] at this; exact this
        have hyx : y = (x : Int) := by rw [← hy]; exact HXB.out hlt
        subst hyx
        have hnv0 : nv = 0 := by rw [hnv, if_pos (by omega)]
        subst hnv0
        have hwx : IntKind.i64.wrap (x : Int) = (x : Int) := by have := get_byte HBY.out 24 hlt; rw [hy] at this; rw [IntKind.wrap_i64]; omega
        have hx256 : x < 256 := by have := get_byte HBY.out 24 hlt; rw [hy] at this; omega
        have e26 : ((24 : Int) == 26 + (x : Int)) = false := beq_eq_false_iff_ne.2 (by omega)
        have e27 : ((24 : Int) == 27 + (x : Int)) = false := beq_eq_false_iff_ne.2 (by omega)
        by_cases hbd : 16 < (x : Int)
        · have dy : decide (16 < (x : Int)) = true := decide_eq_true hbd
          have hbad := bad_24 hlt (by rw [hy]; exact hbd)
          clear hy hbd hnv hx100
          have HV : Aside0 (takeOut b = (ent0, 0, 4)) := ⟨by unfold takeOut; rw [if_pos (hbad)]⟩
          go_wp2_with (first | (with_reducible refine op_build rfl 27 _ rfl (cellsOf ent0).toArray (by rw [List.map_toArray]; exact built00) ?_) | (refine op_store (w0 := w) w.heap.size rfl 27 (.tmp 2) (.tmp 80) rfl w.heap.size (cellsOf ent0).toArray rfl rfl 27 (cellsOf ent0).toArray HGj.out 38 info27 (cells_sz ok0) (cells_sz ok0) (cells_all _) HBj.out (Nat.le_refl _) ?_; intro wz hgz _ HBz))
          exact ret_row3 rfl w.heap.size rfl 27 (cellsOf ent0).toArray _ hgz.out Try.underlying27 rfl 38 info27 (cells_sz ok0) rfl ⟨by rw [HV.out]; rfl, HBz.out⟩
        · have dy : decide (16 < (x : Int)) = false := decide_eq_false hbd
          have HG2 := Aside0.mk (good_24 HGD.out (by rw [hy]; omega))
          clear hy hbd hnv hx100
          go_wp2_with fail
          go_roundw
          case rel => exact ⟨25, by omega, by go_num, by simp, HG2, HBj, HGj⟩
          case measure => simp [intOf]; omega
      have e0 : ((i : Int) == 0) = false := beq_eq_false_iff_ne.2 (by omega)
      have e8 : ((i : Int) == 8) = false := beq_eq_false_iff_ne.2 (by omega)
      have e24 : ((i : Int) == 24) = false := beq_eq_false_iff_ne.2 (by omega)
      by_cases hlow : i < 24
      · have hnv0 : nv = 0 := by rw [hnv, if_pos (by omega)]
        subst hnv0
        have e26 : ((i : Int) == 26) = false := beq_eq_false_iff_ne.2 (by omega)
        have e27 : ((i : Int) == 27) = false := beq_eq_false_iff_ne.2 (by omega)
        have g24 : decide (24 < (i : Int)) = false := decide_eq_false (by omega)
        have HG2 := Aside0.mk (good_low HGD.out h0 h8 hlow)
        clear hnv
        go_wp2_with fail
        go_roundw
        case rel => exact ⟨i + 1, by omega, by go_num, by rw [if_pos (by omega)], HG2, HBj, HGj⟩
        case measure => simp [intOf]; omega
      have hnvx : nv = (x : Int) := by rw [hnv, if_neg (by omega)]
      subst hnvx
      have hx16 := hx100 (by omega)
      have g24 : decide (24 < (i : Int)) = true := decide_eq_true (by omega)
      have g25 : decide (25 < (i : Int)) = true ∨ i = 25 := by by_cases h : i = 25; exact .inr h; exact .inl (decide_eq_true (by omega))
      clear hnv
      by_cases h26 : i = 26 + x
      · have e26 : ((i : Int) == 26 + (x : Int)) = true := by rw [beq_iff_eq]; omega
        have e27 : ((i : Int) == 27 + (x : Int)) = false := beq_eq_false_iff_ne.2 (by omega)
        have e59 : ((i : Int) == 59 + (x : Int)) = false := beq_eq_false_iff_ne.2 (by omega)
        have kc : wr.cell? (ad.add i) = some (.int .u8 (b.getD i 0)) := cb_at (Kd.C_below HR.out HBj.out) i hlt
        obtain ⟨y, hy⟩ : ∃ y, b.getD i 0 = y := ⟨_, rfl⟩
        rw [hy] at kc
        by_cases hbd : 3 < y
        · have dy : decide (3 < y) = true := decide_eq_true hbd
          have hbad := bad_26 HBY.out (by rw [HX.out]; omega) (by rw [HX.out, ← h26, hy]; exact hbd)
          clear hy hbd hx100 g25 h26
          have HV : Aside0 (takeOut b = (ent0, 0, 4)) := ⟨by unfold takeOut; rw [if_pos (hbad)]⟩
          go_wp2_with (first | (with_reducible refine op_build rfl 27 _ rfl (cellsOf ent0).toArray (by rw [List.map_toArray]; exact built00) ?_) | (refine op_store (w0 := w) w.heap.size rfl 27 (.tmp 2) (.tmp 80) rfl w.heap.size (cellsOf ent0).toArray rfl rfl 27 (cellsOf ent0).toArray HGj.out 38 info27 (cells_sz ok0) (cells_sz ok0) (cells_all _) HBj.out (Nat.le_refl _) ?_; intro wz hgz _ HBz))
          exact ret_row3 rfl w.heap.size rfl 27 (cellsOf ent0).toArray _ hgz.out Try.underlying27 rfl 38 info27 (cells_sz ok0) rfl ⟨by rw [HV.out]; rfl, HBz.out⟩
        · have dy : decide (3 < y) = false := decide_eq_false hbd
          have HG2 := Aside0.mk (good_high HGD.out (by omega) (by rw [HX.out]; omega) (fun h => by rw [HX.out, ← h26, hy]; omega) (fun h => absurd h (by rw [HX.out]; omega)))
          clear hy hbd hx100 g25 h26
          go_wp2_with fail
          go_roundw
          case rel => exact ⟨i + 1, by omega, by go_num, by rw [if_neg (by omega)], HG2, HBj, HGj⟩
          case measure => simp [intOf]; omega
      have e26 : ((i : Int) == 26 + (x : Int)) = false := beq_eq_false_iff_ne.2 (by omega)
      by_cases h27 : i = 27 + x
      · have e27 : ((i : Int) == 27 + (x : Int)) = true := by rw [beq_iff_eq]; omega
        have e59 : ((i : Int) == 59 + (x : Int)) = false := beq_eq_false_iff_ne.2 (by omega)
        have g25' : decide (25 < (i : Int)) = true := decide_eq_true (by omega)
        obtain ⟨m, hm⟩ : ∃ m : Nat, i = m + 1 := ⟨26 + x, by omega⟩
        have hm26 : m = 26 + x := by omega
        obtain ⟨y0, hy0⟩ : ∃ y0, b.getD m 0 = y0 := ⟨_, rfl⟩
        obtain ⟨y1, hy1⟩ : ∃ y1, b.getD i 0 = y1 := ⟨_, rfl⟩
        have hb0 := get_byte HBY.out m (by omega); have hb1 := get_byte HBY.out i hlt
        rw [hy0] at hb0; rw [hy1] at hb1
        have HF := Aside0.mk (And.intro (fun W (hW : Below w.heap.size w W) => (show W.cell? (ad.add m) = some (.int .u8 y0) by have := cb_at (Kd.C_below HR.out hW) m (by omega); rw [hy0] at this; exact this)) (fun W (hW : Below w.heap.size w W) => (show W.cell? (ad.add i) = some (.int .u8 y1) by have := cb_at (Kd.C_below HR.out hW) i hlt; rw [hy1] at this; exact this)))
        have HQ := Aside0.mk (wraps27 i m y0 y1 hm (by omega) hb0 hb1)
        have HCMB : Aside0 (b.getD (26 + lenN b) 0 * 256 + b.getD (27 + lenN b) 0 = y0 * 256 + y1) := ⟨by rw [HX.out, ← h27, ← hm26, hy0, hy1]⟩
        have hmlt : m < b.length := by omega
        have HLT := Aside0.mk (show 27 + lenN b < b.length by rw [HX.out]; omega)
        have H27 := Aside0.mk h27
        clear hy0 hy1 hb0 hb1 hx100 g25 hm26 hm h26 h27
        go_upto_region 12 with (fail)
        obtain ⟨hq0, hq1, hq2, hq3, hq4, hq5⟩ := HQ.out
        refine start_ (n := 15) (S := (fun W_ => Below w.heap.size w W_ ∧ It W_ w.heap.size ent0)) (ds := []) #[false, false, false, false, false, false, false, false, false, false, false, false, false, false, false] (by kernel_rfl) rfl rfl (⟨below_drew1 HBj.out, HGj.out⟩) (fun hHeld => ?_); refine with_tabW rk12tab rk12bits (fun HT_ HW_ => ?_)
        generalize wr.drew = wq at hHeld ⊢
        refine pure_ (i := 0) (N := some 65) (v := ?_) (a' := ?_) #[true, false, false, false, false, false, false, false, false, false, false, false, false, false, false] rfl rfl (any_of HT_.out (by kernel_rfl)) (fun _ _ _ h => h) (Or.inl ⟨by rfl, ?_⟩) ?_ ?_
        rotate_left
        · intro w'
          go_simp
          with_reducible rfl
        rotate_left
        · simp only [Act.put, List.setIfInBounds_toArray, List.set_cons_zero, List.set_cons_succ, i64_w, i32_w]
          rfl
        refine pure_ (i := 1) (N := some 66) (v := ?_) (a' := ?_) #[true, true, false, false, false, false, false, false, false, false, false, false, false, false, false] rfl rfl (any_of HT_.out (by kernel_rfl)) (fun _ _ _ h => h) (Or.inl ⟨by rfl, ?_⟩) ?_ ?_
        rotate_left
        · intro w'
          go_simp
          with_reducible rfl
        rotate_left
        · simp only [Act.put, List.setIfInBounds_toArray, List.set_cons_zero, List.set_cons_succ, i64_w, i32_w]
          rfl
        refine pure_ (i := 2) (N := some 67) (v := ?_) (a' := ?_) #[true, true, true, false, false, false, false, false, false, false, false, false, false, false, false] rfl rfl (any_of HT_.out (by kernel_rfl)) (fun _ _ _ h => h) (Or.inl ⟨by rfl, ?_⟩) ?_ ?_
        rotate_left
        · intro w'
          go_simp
          with_reducible rfl
        rotate_left
        · simp only [Act.put, List.setIfInBounds_toArray, List.set_cons_zero, List.set_cons_succ, i64_w, i32_w]
          rfl
        refine pure_ (i := 3) (N := some 68) (v := ?_) (a' := ?_) #[true, true, true, true, false, false, false, false, false, false, false, false, false, false, false] rfl rfl (any_of HT_.out (by kernel_rfl)) (fun _ _ _ h => h) (Or.inl ⟨by rfl, ?_⟩) ?_ ?_
        rotate_left
        · intro w'
          go_simp
          with_reducible rfl
        rotate_left
        · simp only [Act.put, List.setIfInBounds_toArray, List.set_cons_zero, List.set_cons_succ, i64_w, i32_w]
          rfl
        refine take_ (i := 4) (N := some 69) (v := ?_) (a' := ?_) #[true, true, true, true, true, false, false, false, false, false, false, false, false, false, false] rfl rfl (take_ofW HT_.out HW_.out (by kernel_rfl)) (fun _ _ _ h => h) (Or.inl ⟨by rfl, ?_⟩) hHeld ?_ ?_
        rotate_left
        · intro w' hw'
          have hf0_ := HF.out.1 w' hw'.1
          go_simp
          with_reducible rfl
        rotate_left
        · simp only [Act.put, List.setIfInBounds_toArray, List.set_cons_zero, List.set_cons_succ, i64_w, i32_w]
          rfl
        refine pure_ (i := 5) (N := some 70) (v := ?_) (a' := ?_) #[true, true, true, true, true, true, false, false, false, false, false, false, false, false, false] rfl rfl (any_of HT_.out (by kernel_rfl)) (fun _ _ _ h => h) (Or.inl ⟨by rfl, ?_⟩) ?_ ?_
        rotate_left
        · intro w'
          go_simp
          with_reducible rfl
        rotate_left
        · simp only [Act.put, List.setIfInBounds_toArray, List.set_cons_zero, List.set_cons_succ, i64_w, i32_w]
          rfl
        refine pure_ (i := 6) (N := some 71) (v := ?_) (a' := ?_) #[true, true, true, true, true, true, true, false, false, false, false, false, false, false, false] rfl rfl (any_of HT_.out (by kernel_rfl)) (fun _ _ _ h => h) (Or.inl ⟨by rfl, ?_⟩) ?_ ?_
        rotate_left
        · intro w'
          go_simp
          with_reducible rfl
        rotate_left
        · simp only [Act.put, List.setIfInBounds_toArray, List.set_cons_zero, List.set_cons_succ, i64_w, i32_w]
          rfl
        refine pure_ (i := 7) (N := some 72) (v := ?_) (a' := ?_) #[true, true, true, true, true, true, true, true, false, false, false, false, false, false, false] rfl rfl (any_of HT_.out (by kernel_rfl)) (fun _ _ _ h => h) (Or.inl ⟨by rfl, ?_⟩) ?_ ?_
        rotate_left
        · intro w'
          go_simp
          with_reducible rfl
        rotate_left
        · simp only [Act.put, List.setIfInBounds_toArray, List.set_cons_zero, List.set_cons_succ, i64_w, i32_w]
          rfl
        refine pure_ (i := 8) (N := some 73) (v := ?_) (a' := ?_) #[true, true, true, true, true, true, true, true, true, false, false, false, false, false, false] rfl rfl (any_of HT_.out (by kernel_rfl)) (fun _ _ _ h => h) (Or.inl ⟨by rfl, ?_⟩) ?_ ?_
        rotate_left
        · intro w'
          go_simp
          with_reducible rfl
        rotate_left
        · simp only [Act.put, List.setIfInBounds_toArray, List.set_cons_zero, List.set_cons_succ, i64_w, i32_w]
          rfl
        refine pure_ (i := 9) (N := some 74) (v := ?_) (a' := ?_) #[true, true, true, true, true, true, true, true, true, true, false, false, false, false, false] rfl rfl (any_of HT_.out (by kernel_rfl)) (fun _ _ _ h => h) (Or.inl ⟨by rfl, ?_⟩) ?_ ?_
        rotate_left
        · intro w'
          go_simp
          with_reducible rfl
        rotate_left
        · simp only [Act.put, List.setIfInBounds_toArray, List.set_cons_zero, List.set_cons_succ, i64_w, i32_w]
          rfl
        refine take_ (i := 10) (N := some 75) (v := ?_) (a' := ?_) #[true, true, true, true, true, true, true, true, true, true, true, false, false, false, false] rfl rfl (take_ofW HT_.out HW_.out (by kernel_rfl)) (fun _ _ _ h => h) (Or.inl ⟨by rfl, ?_⟩) hHeld ?_ ?_
        rotate_left
        · intro w' hw'
          have hf0_ := HF.out.2 w' hw'.1
          go_simp
          with_reducible rfl
        rotate_left
        · simp only [Act.put, List.setIfInBounds_toArray, List.set_cons_zero, List.set_cons_succ, i64_w, i32_w]
          rfl
        refine pure_ (i := 11) (N := some 76) (v := ?_) (a' := ?_) #[true, true, true, true, true, true, true, true, true, true, true, true, false, false, false] rfl rfl (any_of HT_.out (by kernel_rfl)) (fun _ _ _ h => h) (Or.inl ⟨by rfl, ?_⟩) ?_ ?_
        rotate_left
        · intro w'
          go_simp
          with_reducible rfl
        rotate_left
        · simp only [Act.put, List.setIfInBounds_toArray, List.set_cons_zero, List.set_cons_succ, i64_w, i32_w]
          rfl
        refine pure_ (i := 12) (N := some 77) (v := ?_) (a' := ?_) #[true, true, true, true, true, true, true, true, true, true, true, true, true, false, false] rfl rfl (any_of HT_.out (by kernel_rfl)) (fun _ _ _ h => h) (Or.inl ⟨by rfl, ?_⟩) ?_ ?_
        rotate_left
        · intro w'
          go_simp
          with_reducible rfl
        rotate_left
        · simp only [Act.put, List.setIfInBounds_toArray, List.set_cons_zero, List.set_cons_succ, i64_w, i32_w]
          rfl
        refine pure_ (i := 13) (N := some 78) (v := ?_) (a' := ?_) #[true, true, true, true, true, true, true, true, true, true, true, true, true, true, false] rfl rfl (any_of HT_.out (by kernel_rfl)) (fun _ _ _ h => h) (Or.inl ⟨by rfl, ?_⟩) ?_ ?_
        rotate_left
        · intro w'
          go_simp
          with_reducible rfl
        rotate_left
        · simp only [Act.put, List.setIfInBounds_toArray, List.set_cons_zero, List.set_cons_succ, i64_w, i32_w]
          rfl
        refine pure_ (i := 14) (N := some 7) (v := ?_) (a' := ?_) #[true, true, true, true, true, true, true, true, true, true, true, true, true, true, true] rfl rfl (any_of HT_.out (by kernel_rfl)) (fun _ _ _ h => h) (Or.inl ⟨by rfl, ?_⟩) ?_ ?_
        rotate_left
        · intro w'
          go_simp
          with_reducible rfl
        rotate_left
        · simp only [Act.put, List.setIfInBounds_toArray, List.set_cons_zero, List.set_cons_succ, i64_w, i32_w]
          rfl
        refine done_ (done_of HT_.out (by kernel_rfl)) ?_
        clear HT_ HW_
        have HBq := Aside0.mk hHeld.1; have HGq := Aside0.mk hHeld.2
        clear hHeld HBj HGj HF
        clear hq0 hq1 hq2 hq3 hq4 hq5
        by_cases hbd : 999 < y0 * 256 + y1
        · have dy : decide (999 < y0 * 256 + y1) = true := decide_eq_true hbd
          have hbad := bad_27 HLT.out (by rw [HCMB.out]; exact hbd)
          simp only [dy]
          clear hbd dy
          have HV : Aside0 (takeOut b = (ent0, 0, 4)) := ⟨by unfold takeOut; rw [if_pos (hbad)]⟩
          go_wp2_with (first | (with_reducible refine op_build rfl 27 _ rfl (cellsOf ent0).toArray (by rw [List.map_toArray]; exact built00) ?_) | (refine op_store (w0 := w) w.heap.size rfl 27 (.tmp 2) (.tmp 80) rfl w.heap.size (cellsOf ent0).toArray rfl rfl 27 (cellsOf ent0).toArray HGq.out 38 info27 (cells_sz ok0) (cells_sz ok0) (cells_all _) HBq.out (Nat.le_refl _) ?_; intro wz hgz _ HBz))
          exact ret_row3 rfl w.heap.size rfl 27 (cellsOf ent0).toArray _ hgz.out Try.underlying27 rfl 38 info27 (cells_sz ok0) rfl ⟨by rw [HV.out]; rfl, HBz.out⟩
        · have dy : decide (999 < y0 * 256 + y1) = false := decide_eq_false hbd
          have HG2 := Aside0.mk (good_high HGD.out (by omega) (by rw [HX.out]; have := H27.out; omega) (fun h => absurd h (by rw [HX.out]; have := H27.out; omega)) (fun h => by rw [HCMB.out]; omega))
          simp only [dy]
          clear hbd dy
          go_wp2_with fail
          go_roundw
          case rel => exact ⟨i + 1, by omega, by go_num, by rw [if_neg (by omega)], HG2, HBq, HGq⟩
          case measure => simp [intOf]; omega
      have e27 : ((i : Int) == 27 + (x : Int)) = false := beq_eq_false_iff_ne.2 (by omega)
      by_cases h59 : i = 59 + x
      · have e59 : ((i : Int) == 59 + (x : Int)) = true := by rw [beq_iff_eq]; omega
        have HGF := Aside0.mk (good_full (b := b) (by rw [HX.out, ← h59]; exact HGD.out) (by rw [HX.out]; omega))
        have hml : x + 60 ≤ b.length := by omega
        have hp := begins_parts HGF.out (by omega)
        obtain ⟨m, hm⟩ : ∃ m : Nat, 25 + x = m := ⟨_, rfl⟩
        have hmi : 25 + (x : Int) = (m : Int) := by omega
        have hm100 : m ≤ 100 := by omega
        have HTO : Aside0 (takeOut b = (entAt b x, (m : Int) + 35, 0)) := ⟨by unfold takeOut; rw [if_neg (by rw [HGF.out]; simp), if_neg (by omega), if_neg (by rw [HX.out]; omega), HX.out]; congr 2; omega⟩
        have d1 : decide ((b.length : Int) < 25) = false := decide_eq_false (by omega)
        have d2 : decide ((b.length : Int) < 60 + (x : Int)) = false := decide_eq_false (by omega)
        obtain ⟨v0, v1, v2, b0, b1, hA0_, hA1_, hA2_, hv0, hv1, hv2⟩ := three b HBY.out (by omega) hl hp.1 hp.2.1
        have hA0 := Aside0.mk hA0_; have hA1 := Aside0.mk hA1_; have hA2 := Aside0.mk hA2_
        obtain ⟨hws0, hws1, hwt0, hwt1⟩ := wraps2 b0 b1
        obtain ⟨z9, A9, hz9, hl9, hc9_, hcut9, hC9⟩ := cut_mid (P := Try.prog) 37 Try.underlying37 POct.info5 (some ad) c b 25 (m : Int) (by omega) (by omega) (by omega) HC.out
        obtain ⟨s, hs⟩ : ∃ s, Aside0 (s = strOfNums z9) := ⟨_, ⟨rfl⟩⟩
        have HCV := Aside0.mk (fun W (hW : Below w.heap.size w W) => (show (convert 37 9 (.slice A9 z9.length (c - 25))).run Try.prog W = .ok (.string s) W by rw [hs.out]; exact Kd.C_string (P := Try.prog) (c := c - 25) Try.underlying37 Try.underlying5 Try.underlying9 (hC9 W (Kd.C_below HR.out hW))))
        obtain ⟨zi, Ai, hzi, hli, hci_, hcuti, hCi⟩ := cut_mid (P := Try.prog) 37 Try.underlying37 POct.info5 (some ad) c b ((m : Int) + 3) ((m : Int) + 35) (by omega) (by omega) (by omega) HC.out
        have hzi32 : Aside0 (zi.length = 32) := ⟨by omega⟩
        have harr := fun (cc : Nat) => array_at (P := Try.prog) 25 32 (by kernel_rfl) Ai zi.length cc (by omega)
        obtain ⟨adi, hAi, _⟩ := CB.cells (hCi wr (Kd.C_below HR.out HBj.out)) (by rw [hzi32.out]; decide)
        subst hAi
        have HLI := Aside0.mk (fun W (hW : Below w.heap.size w W) => (by obtain ⟨a', e', h⟩ := CB.cells (hCi W (Kd.C_below HR.out hW)) (by rw [hzi32.out]; decide); cases e'; exact run_loadVar_at (P := Try.prog) (w := W) adi 25 (nums .u8 zi) _ h Try.underlying25 rfl (by rw [nums_length, hzi32.out]; exact info25) : (Instr.loadAt 25 (.pointer (some adi))).run Try.prog W = .ok (.agg (nums .u8 zi).toArray) W))
        obtain ⟨y0, hy0⟩ : ∃ y0, b.getD m 0 = y0 := ⟨_, rfl⟩
        obtain ⟨y1, hy1⟩ : ∃ y1, b.getD (m + 1) 0 = y1 := ⟨_, rfl⟩
        obtain ⟨y2, hy2⟩ : ∃ y2, b.getD (m + 2) 0 = y2 := ⟨_, rfl⟩
        have hyb0 := get_byte HBY.out m (by omega); have hyb1 := get_byte HBY.out (m + 1) (by omega); have hyb2 := get_byte HBY.out (m + 2) (by omega)
        rw [hy0] at hyb0; rw [hy1] at hyb1; rw [hy2] at hyb2
        have HCC := Aside0.mk (And.intro (fun W (hW : Below w.heap.size w W) => (show W.cell? (ad.add m) = some (.int .u8 y0) by have := cb_at (Kd.C_below HR.out hW) m (by omega); rw [hy0] at this; exact this)) (And.intro (fun W (hW : Below w.heap.size w W) => (show W.cell? { block := ad.block, off := ad.off + (m + 1) } = some (.int .u8 y1) by have := cb_at (Kd.C_below HR.out hW) (m + 1) (by omega); rw [hy1] at this; exact this)) (fun W (hW : Below w.heap.size w W) => (show W.cell? { block := ad.block, off := ad.off + (m + 2) } = some (.int .u8 y2) by have := cb_at (Kd.C_below HR.out hW) (m + 2) (by omega); rw [hy2] at this; exact this))))
        have hzi2 : zi = (b.drop (25 + x + 3)).take 32 := by
          rw [hzi, show ((m : Int) + 35).toNat = 25 + x + 35 by omega, show ((m : Int) + 3).toNat = 25 + x + 3 by omega, List.drop_take]
          congr 1; omega
        have HFIN : Aside0 (entAt b x = ⟨v0, v1, v2, s, y0, y1 * 256 + y2, zi⟩) := ⟨by
          unfold entAt
          rw [hv0, hv1, hv2, hs.out, hz9, hzi2, ← hy0, ← hy1, ← hy2, Int.toNat_natCast, ← hm]
          rfl⟩
        have HQ := Aside0.mk (wraps22 m y0 y1 y2 hm100 hyb0 hyb1 hyb2)
        have hmlt : m < b.length := by omega
        have hml2 : 0 ≤ (m : Int) + 1 := by omega
        have hml3 : (m : Int) + 1 < (b.length : Int) := by omega
        have hml4 : 0 ≤ (m : Int) + 2 := by omega
        have hml5 : (m : Int) + 2 < (b.length : Int) := by omega
        clear hz9 hl9 hc9_ hzi hzi2 hli hci_ hy0 hy1 hy2 hyb0 hyb1 hyb2 hp b0 b1 hA0_ hA1_ hA2_ hv0 hv1 hv2 g25 hx100 h59 HGF
        go_wp2_with fail
        refine (POct.cofferref1_At.calls 40 (some ad) c b 0 8 v0 0 wr (Kd.C_below HR.out HBj.out) HC.out hA0.out).mono ?_
        rintro e0 w0 ⟨rfl, hd⟩
        have hb := hd.below
        have HBn := Aside0.mk (below_step HBj.out hb)
        have HGn := Aside0.mk (show It w0 w.heap.size ent0 from (hb.block _ (blk_lt HGj.out)).trans HGj.out)
        clear hb hd HBj HGj
        have HBj := HBn; have HGj := HGn
        clear HBn HGn
        try clear hun_
        generalize hwe : w0 = wr at HBj HGj ⊢
        clear hwe
        go_wp2_with fail
        refine (POct.cofferref1_At.calls 40 (some ad) c b 8 8 v1 0 wr (Kd.C_below HR.out HBj.out) HC.out hA1.out).mono ?_
        rintro e1 w1 ⟨rfl, hd⟩
        have hb := hd.below
        have HBn := Aside0.mk (below_step HBj.out hb)
        have HGn := Aside0.mk (show It w1 w.heap.size ent0 from (hb.block _ (blk_lt HGj.out)).trans HGj.out)
        clear hb hd HBj HGj
        have HBj := HBn; have HGj := HGn
        clear HBn HGn
        try clear hun_
        generalize hwe : w1 = wr at HBj HGj ⊢
        clear hwe
        go_wp2_with fail
        refine (POct.cofferref1_At.calls 40 (some ad) c b 16 8 v2 0 wr (Kd.C_below HR.out HBj.out) HC.out hA2.out).mono ?_
        rintro e2 w2 ⟨rfl, hd⟩
        have hb := hd.below
        have HBn := Aside0.mk (below_step HBj.out hb)
        have HGn := Aside0.mk (show It w2 w.heap.size ent0 from (hb.block _ (blk_lt HGj.out)).trans HGj.out)
        clear hb hd HBj HGj
        have HBj := HBn; have HGj := HGn
        clear HBn HGn
        try clear hun_
        generalize hwe : w2 = wr at HBj HGj ⊢
        clear hwe
        go_upto_region 22 with (fail)
        obtain ⟨hq0, hq1, hq2, hq3, hq4, hq5, hmt, hmw, hmt2, hmw2, hmw3, hmw35⟩ := HQ.out
        refine start_ (n := 39) (S := (fun W_ => Below w.heap.size w W_ ∧ It W_ w.heap.size ent0)) (ds := []) #[false, false, false, false, false, false, false, false, false, false, false, false, false, false, false, false, false, false, false, false, false, false, false, false, false, false, false, false, false, false, false, false, false, false, false, false, false, false, false] (by kernel_rfl) rfl rfl (⟨below_drew1 HBj.out, HGj.out⟩) (fun hHeld => ?_); refine with_tabW rk22tab rk22bits (fun HT_ HW_ => ?_)
        generalize wr.drew = wq at hHeld ⊢
        refine pure_ (i := 0) (N := some 117) (v := ?_) (a' := ?_) #[true, false, false, false, false, false, false, false, false, false, false, false, false, false, false, false, false, false, false, false, false, false, false, false, false, false, false, false, false, false, false, false, false, false, false, false, false, false, false] rfl rfl (any_of HT_.out (by kernel_rfl)) (fun _ _ _ h => h) (Or.inl ⟨by rfl, ?_⟩) ?_ ?_
        rotate_left
        · intro w'
          go_simp
          with_reducible rfl
        rotate_left
        · simp only [Act.put, List.setIfInBounds_toArray, List.set_cons_zero, List.set_cons_succ, i64_w, i32_w]
          rfl
        refine pure_ (i := 1) (N := some 118) (v := ?_) (a' := ?_) #[true, true, false, false, false, false, false, false, false, false, false, false, false, false, false, false, false, false, false, false, false, false, false, false, false, false, false, false, false, false, false, false, false, false, false, false, false, false, false] rfl rfl (any_of HT_.out (by kernel_rfl)) (fun _ _ _ h => h) (Or.inl ⟨by rfl, ?_⟩) ?_ ?_
        rotate_left
        · intro w'
          go_simp
          with_reducible rfl
        rotate_left
        · simp only [Act.put, List.setIfInBounds_toArray, List.set_cons_zero, List.set_cons_succ, i64_w, i32_w]
          rfl
        refine pure_ (i := 2) (N := some 119) (v := ?_) (a' := ?_) #[true, true, true, false, false, false, false, false, false, false, false, false, false, false, false, false, false, false, false, false, false, false, false, false, false, false, false, false, false, false, false, false, false, false, false, false, false, false, false] rfl rfl (any_of HT_.out (by kernel_rfl)) (fun _ _ _ h => h) (Or.inl ⟨by rfl, ?_⟩) ?_ ?_
        rotate_left
        · intro w'
          go_simp
          with_reducible rfl
        rotate_left
        · simp only [Act.put, List.setIfInBounds_toArray, List.set_cons_zero, List.set_cons_succ, i64_w, i32_w]
          rfl
        refine pure_ (i := 3) (N := some 120) (v := ?_) (a' := ?_) #[true, true, true, true, false, false, false, false, false, false, false, false, false, false, false, false, false, false, false, false, false, false, false, false, false, false, false, false, false, false, false, false, false, false, false, false, false, false, false] rfl rfl (any_of HT_.out (by kernel_rfl)) (fun _ _ _ h => h) (Or.inl ⟨by rfl, ?_⟩) ?_ ?_
        rotate_left
        · intro w'
          go_simp
          with_reducible rfl
        rotate_left
        · simp only [Act.put, List.setIfInBounds_toArray, List.set_cons_zero, List.set_cons_succ, i64_w, i32_w]
          rfl
        refine pure_ (i := 4) (N := some 121) (v := ?_) (a' := ?_) #[true, true, true, true, true, false, false, false, false, false, false, false, false, false, false, false, false, false, false, false, false, false, false, false, false, false, false, false, false, false, false, false, false, false, false, false, false, false, false] rfl rfl (any_of HT_.out (by kernel_rfl)) (fun _ _ _ h => h) (Or.inl ⟨by rfl, ?_⟩) ?_ ?_
        rotate_left
        · intro w'
          go_simp
          with_reducible rfl
        rotate_left
        · simp only [Act.put, List.setIfInBounds_toArray, List.set_cons_zero, List.set_cons_succ, i64_w, i32_w]
          rfl
        refine pure_ (i := 5) (N := some 122) (v := ?_) (a' := ?_) #[true, true, true, true, true, true, false, false, false, false, false, false, false, false, false, false, false, false, false, false, false, false, false, false, false, false, false, false, false, false, false, false, false, false, false, false, false, false, false] rfl rfl (any_of HT_.out (by kernel_rfl)) (fun _ _ _ h => h) (Or.inl ⟨by rfl, ?_⟩) ?_ ?_
        rotate_left
        · intro w'
          go_simp
          with_reducible rfl
        rotate_left
        · simp only [Act.put, List.setIfInBounds_toArray, List.set_cons_zero, List.set_cons_succ, i64_w, i32_w]
          rfl
        refine pure_ (i := 6) (N := some 123) (v := ?_) (a' := ?_) #[true, true, true, true, true, true, true, false, false, false, false, false, false, false, false, false, false, false, false, false, false, false, false, false, false, false, false, false, false, false, false, false, false, false, false, false, false, false, false] rfl rfl (any_of HT_.out (by kernel_rfl)) (fun _ _ _ h => h) (Or.inl ⟨by rfl, ?_⟩) ?_ ?_
        rotate_left
        · intro w'
          go_simp
          with_reducible rfl
        rotate_left
        · simp only [Act.put, List.setIfInBounds_toArray, List.set_cons_zero, List.set_cons_succ, i64_w, i32_w]
          rfl
        refine pure_ (i := 7) (N := some 124) (v := ?_) (a' := ?_) #[true, true, true, true, true, true, true, true, false, false, false, false, false, false, false, false, false, false, false, false, false, false, false, false, false, false, false, false, false, false, false, false, false, false, false, false, false, false, false] rfl rfl (any_of HT_.out (by kernel_rfl)) (fun _ _ _ h => h) (Or.inl ⟨by rfl, ?_⟩) ?_ ?_
        rotate_left
        · intro w'
          go_simp
          with_reducible rfl
        rotate_left
        · simp only [Act.put, List.setIfInBounds_toArray, List.set_cons_zero, List.set_cons_succ, i64_w, i32_w]
          rfl
        refine take_ (i := 8) (N := some 125) (v := ?_) (a' := ?_) #[true, true, true, true, true, true, true, true, true, false, false, false, false, false, false, false, false, false, false, false, false, false, false, false, false, false, false, false, false, false, false, false, false, false, false, false, false, false, false] rfl rfl (take_ofW HT_.out HW_.out (by kernel_rfl)) (fun _ _ _ h => h) (Or.inl ⟨by rfl, ?_⟩) hHeld ?_ ?_
        rotate_left
        · intro w' hw'
          have hf0_ := HCV.out w' hw'.1
          go_simp
          with_reducible rfl
        rotate_left
        · simp only [Act.put, List.setIfInBounds_toArray, List.set_cons_zero, List.set_cons_succ, i64_w, i32_w]
          rfl
        refine pure_ (i := 9) (N := some 126) (v := ?_) (a' := ?_) #[true, true, true, true, true, true, true, true, true, true, false, false, false, false, false, false, false, false, false, false, false, false, false, false, false, false, false, false, false, false, false, false, false, false, false, false, false, false, false] rfl rfl (any_of HT_.out (by kernel_rfl)) (fun _ _ _ h => h) (Or.inl ⟨by rfl, ?_⟩) ?_ ?_
        rotate_left
        · intro w'
          go_simp
          with_reducible rfl
        rotate_left
        · simp only [Act.put, List.setIfInBounds_toArray, List.set_cons_zero, List.set_cons_succ, i64_w, i32_w]
          rfl
        refine pure_ (i := 10) (N := some 127) (v := ?_) (a' := ?_) #[true, true, true, true, true, true, true, true, true, true, true, false, false, false, false, false, false, false, false, false, false, false, false, false, false, false, false, false, false, false, false, false, false, false, false, false, false, false, false] rfl rfl (any_of HT_.out (by kernel_rfl)) (fun _ _ _ h => h) (Or.inl ⟨by rfl, ?_⟩) ?_ ?_
        rotate_left
        · intro w'
          go_simp
          with_reducible rfl
        rotate_left
        · simp only [Act.put, List.setIfInBounds_toArray, List.set_cons_zero, List.set_cons_succ, i64_w, i32_w]
          rfl
        refine pure_ (i := 11) (N := some 128) (v := ?_) (a' := ?_) #[true, true, true, true, true, true, true, true, true, true, true, true, false, false, false, false, false, false, false, false, false, false, false, false, false, false, false, false, false, false, false, false, false, false, false, false, false, false, false] rfl rfl (any_of HT_.out (by kernel_rfl)) (fun _ _ _ h => h) (Or.inl ⟨by rfl, ?_⟩) ?_ ?_
        rotate_left
        · intro w'
          go_simp
          with_reducible rfl
        rotate_left
        · simp only [Act.put, List.setIfInBounds_toArray, List.set_cons_zero, List.set_cons_succ, i64_w, i32_w]
          rfl
        refine take_ (i := 12) (N := some 129) (v := ?_) (a' := ?_) #[true, true, true, true, true, true, true, true, true, true, true, true, true, false, false, false, false, false, false, false, false, false, false, false, false, false, false, false, false, false, false, false, false, false, false, false, false, false, false] rfl rfl (take_ofW HT_.out HW_.out (by kernel_rfl)) (fun _ _ _ h => h) (Or.inl ⟨by rfl, ?_⟩) hHeld ?_ ?_
        rotate_left
        · intro w' hw'
          have hf0_ := HCC.out.1 w' hw'.1
          go_simp
          with_reducible rfl
        rotate_left
        · simp only [Act.put, List.setIfInBounds_toArray, List.set_cons_zero, List.set_cons_succ, i64_w, i32_w]
          rfl
        refine pure_ (i := 13) (N := some 130) (v := ?_) (a' := ?_) #[true, true, true, true, true, true, true, true, true, true, true, true, true, true, false, false, false, false, false, false, false, false, false, false, false, false, false, false, false, false, false, false, false, false, false, false, false, false, false] rfl rfl (any_of HT_.out (by kernel_rfl)) (fun _ _ _ h => h) (Or.inl ⟨by rfl, ?_⟩) ?_ ?_
        rotate_left
        · intro w'
          go_simp
          with_reducible rfl
        rotate_left
        · simp only [Act.put, List.setIfInBounds_toArray, List.set_cons_zero, List.set_cons_succ, i64_w, i32_w]
          rfl
        refine pure_ (i := 14) (N := some 131) (v := ?_) (a' := ?_) #[true, true, true, true, true, true, true, true, true, true, true, true, true, true, true, false, false, false, false, false, false, false, false, false, false, false, false, false, false, false, false, false, false, false, false, false, false, false, false] rfl rfl (any_of HT_.out (by kernel_rfl)) (fun _ _ _ h => h) (Or.inl ⟨by rfl, ?_⟩) ?_ ?_
        rotate_left
        · intro w'
          go_simp
          with_reducible rfl
        rotate_left
        · simp only [Act.put, List.setIfInBounds_toArray, List.set_cons_zero, List.set_cons_succ, i64_w, i32_w]
          rfl
        refine pure_ (i := 15) (N := some 132) (v := ?_) (a' := ?_) #[true, true, true, true, true, true, true, true, true, true, true, true, true, true, true, true, false, false, false, false, false, false, false, false, false, false, false, false, false, false, false, false, false, false, false, false, false, false, false] rfl rfl (any_of HT_.out (by kernel_rfl)) (fun _ _ _ h => h) (Or.inl ⟨by rfl, ?_⟩) ?_ ?_
        rotate_left
        · intro w'
          go_simp
          with_reducible rfl
        rotate_left
        · simp only [Act.put, List.setIfInBounds_toArray, List.set_cons_zero, List.set_cons_succ, i64_w, i32_w]
          rfl
        refine pure_ (i := 16) (N := some 133) (v := ?_) (a' := ?_) #[true, true, true, true, true, true, true, true, true, true, true, true, true, true, true, true, true, false, false, false, false, false, false, false, false, false, false, false, false, false, false, false, false, false, false, false, false, false, false] rfl rfl (any_of HT_.out (by kernel_rfl)) (fun _ _ _ h => h) (Or.inl ⟨by rfl, ?_⟩) ?_ ?_
        rotate_left
        · intro w'
          go_simp
          with_reducible rfl
        rotate_left
        · simp only [Act.put, List.setIfInBounds_toArray, List.set_cons_zero, List.set_cons_succ, i64_w, i32_w]
          rfl
        refine pure_ (i := 17) (N := some 134) (v := ?_) (a' := ?_) #[true, true, true, true, true, true, true, true, true, true, true, true, true, true, true, true, true, true, false, false, false, false, false, false, false, false, false, false, false, false, false, false, false, false, false, false, false, false, false] rfl rfl (any_of HT_.out (by kernel_rfl)) (fun _ _ _ h => h) (Or.inl ⟨by rfl, ?_⟩) ?_ ?_
        rotate_left
        · intro w'
          go_simp
          with_reducible rfl
        rotate_left
        · simp only [Act.put, List.setIfInBounds_toArray, List.set_cons_zero, List.set_cons_succ, i64_w, i32_w]
          rfl
        refine take_ (i := 18) (N := some 135) (v := ?_) (a' := ?_) #[true, true, true, true, true, true, true, true, true, true, true, true, true, true, true, true, true, true, true, false, false, false, false, false, false, false, false, false, false, false, false, false, false, false, false, false, false, false, false] rfl rfl (take_ofW HT_.out HW_.out (by kernel_rfl)) (fun _ _ _ h => h) (Or.inl ⟨by rfl, ?_⟩) hHeld ?_ ?_
        rotate_left
        · intro w' hw'
          have hf0_ := HCC.out.2.1 w' hw'.1
          go_simp
          with_reducible rfl
        rotate_left
        · simp only [Act.put, List.setIfInBounds_toArray, List.set_cons_zero, List.set_cons_succ, i64_w, i32_w]
          rfl
        refine pure_ (i := 19) (N := some 136) (v := ?_) (a' := ?_) #[true, true, true, true, true, true, true, true, true, true, true, true, true, true, true, true, true, true, true, true, false, false, false, false, false, false, false, false, false, false, false, false, false, false, false, false, false, false, false] rfl rfl (any_of HT_.out (by kernel_rfl)) (fun _ _ _ h => h) (Or.inl ⟨by rfl, ?_⟩) ?_ ?_
        rotate_left
        · intro w'
          go_simp
          with_reducible rfl
        rotate_left
        · simp only [Act.put, List.setIfInBounds_toArray, List.set_cons_zero, List.set_cons_succ, i64_w, i32_w]
          rfl
        refine pure_ (i := 20) (N := some 137) (v := ?_) (a' := ?_) #[true, true, true, true, true, true, true, true, true, true, true, true, true, true, true, true, true, true, true, true, true, false, false, false, false, false, false, false, false, false, false, false, false, false, false, false, false, false, false] rfl rfl (any_of HT_.out (by kernel_rfl)) (fun _ _ _ h => h) (Or.inl ⟨by rfl, ?_⟩) ?_ ?_
        rotate_left
        · intro w'
          go_simp
          with_reducible rfl
        rotate_left
        · simp only [Act.put, List.setIfInBounds_toArray, List.set_cons_zero, List.set_cons_succ, i64_w, i32_w]
          rfl
        refine pure_ (i := 21) (N := some 138) (v := ?_) (a' := ?_) #[true, true, true, true, true, true, true, true, true, true, true, true, true, true, true, true, true, true, true, true, true, true, false, false, false, false, false, false, false, false, false, false, false, false, false, false, false, false, false] rfl rfl (any_of HT_.out (by kernel_rfl)) (fun _ _ _ h => h) (Or.inl ⟨by rfl, ?_⟩) ?_ ?_
        rotate_left
        · intro w'
          go_simp
          with_reducible rfl
        rotate_left
        · simp only [Act.put, List.setIfInBounds_toArray, List.set_cons_zero, List.set_cons_succ, i64_w, i32_w]
          rfl
        refine pure_ (i := 22) (N := some 139) (v := ?_) (a' := ?_) #[true, true, true, true, true, true, true, true, true, true, true, true, true, true, true, true, true, true, true, true, true, true, true, false, false, false, false, false, false, false, false, false, false, false, false, false, false, false, false] rfl rfl (any_of HT_.out (by kernel_rfl)) (fun _ _ _ h => h) (Or.inl ⟨by rfl, ?_⟩) ?_ ?_
        rotate_left
        · intro w'
          go_simp
          with_reducible rfl
        rotate_left
        · simp only [Act.put, List.setIfInBounds_toArray, List.set_cons_zero, List.set_cons_succ, i64_w, i32_w]
          rfl
        refine pure_ (i := 23) (N := some 140) (v := ?_) (a' := ?_) #[true, true, true, true, true, true, true, true, true, true, true, true, true, true, true, true, true, true, true, true, true, true, true, true, false, false, false, false, false, false, false, false, false, false, false, false, false, false, false] rfl rfl (any_of HT_.out (by kernel_rfl)) (fun _ _ _ h => h) (Or.inl ⟨by rfl, ?_⟩) ?_ ?_
        rotate_left
        · intro w'
          go_simp
          with_reducible rfl
        rotate_left
        · simp only [Act.put, List.setIfInBounds_toArray, List.set_cons_zero, List.set_cons_succ, i64_w, i32_w]
          rfl
        refine pure_ (i := 24) (N := some 141) (v := ?_) (a' := ?_) #[true, true, true, true, true, true, true, true, true, true, true, true, true, true, true, true, true, true, true, true, true, true, true, true, true, false, false, false, false, false, false, false, false, false, false, false, false, false, false] rfl rfl (any_of HT_.out (by kernel_rfl)) (fun _ _ _ h => h) (Or.inl ⟨by rfl, ?_⟩) ?_ ?_
        rotate_left
        · intro w'
          go_simp
          with_reducible rfl
        rotate_left
        · simp only [Act.put, List.setIfInBounds_toArray, List.set_cons_zero, List.set_cons_succ, i64_w, i32_w]
          rfl
        refine take_ (i := 25) (N := some 142) (v := ?_) (a' := ?_) #[true, true, true, true, true, true, true, true, true, true, true, true, true, true, true, true, true, true, true, true, true, true, true, true, true, true, false, false, false, false, false, false, false, false, false, false, false, false, false] rfl rfl (take_ofW HT_.out HW_.out (by kernel_rfl)) (fun _ _ _ h => h) (Or.inl ⟨by rfl, ?_⟩) hHeld ?_ ?_
        rotate_left
        · intro w' hw'
          have hf0_ := HCC.out.2.2 w' hw'.1
          go_simp
          with_reducible rfl
        rotate_left
        · simp only [Act.put, List.setIfInBounds_toArray, List.set_cons_zero, List.set_cons_succ, i64_w, i32_w]
          rfl
        refine pure_ (i := 26) (N := some 143) (v := ?_) (a' := ?_) #[true, true, true, true, true, true, true, true, true, true, true, true, true, true, true, true, true, true, true, true, true, true, true, true, true, true, true, false, false, false, false, false, false, false, false, false, false, false, false] rfl rfl (any_of HT_.out (by kernel_rfl)) (fun _ _ _ h => h) (Or.inl ⟨by rfl, ?_⟩) ?_ ?_
        rotate_left
        · intro w'
          go_simp
          with_reducible rfl
        rotate_left
        · simp only [Act.put, List.setIfInBounds_toArray, List.set_cons_zero, List.set_cons_succ, i64_w, i32_w]
          rfl
        refine pure_ (i := 27) (N := some 144) (v := ?_) (a' := ?_) #[true, true, true, true, true, true, true, true, true, true, true, true, true, true, true, true, true, true, true, true, true, true, true, true, true, true, true, true, false, false, false, false, false, false, false, false, false, false, false] rfl rfl (any_of HT_.out (by kernel_rfl)) (fun _ _ _ h => h) (Or.inl ⟨by rfl, ?_⟩) ?_ ?_
        rotate_left
        · intro w'
          go_simp
          with_reducible rfl
        rotate_left
        · simp only [Act.put, List.setIfInBounds_toArray, List.set_cons_zero, List.set_cons_succ, i64_w, i32_w]
          rfl
        refine pure_ (i := 28) (N := some 145) (v := ?_) (a' := ?_) #[true, true, true, true, true, true, true, true, true, true, true, true, true, true, true, true, true, true, true, true, true, true, true, true, true, true, true, true, true, false, false, false, false, false, false, false, false, false, false] rfl rfl (any_of HT_.out (by kernel_rfl)) (fun _ _ _ h => h) (Or.inl ⟨by rfl, ?_⟩) ?_ ?_
        rotate_left
        · intro w'
          go_simp
          with_reducible rfl
        rotate_left
        · simp only [Act.put, List.setIfInBounds_toArray, List.set_cons_zero, List.set_cons_succ, i64_w, i32_w]
          rfl
        refine pure_ (i := 29) (N := some 146) (v := ?_) (a' := ?_) #[true, true, true, true, true, true, true, true, true, true, true, true, true, true, true, true, true, true, true, true, true, true, true, true, true, true, true, true, true, true, false, false, false, false, false, false, false, false, false] rfl rfl (any_of HT_.out (by kernel_rfl)) (fun _ _ _ h => h) (Or.inl ⟨by rfl, ?_⟩) ?_ ?_
        rotate_left
        · intro w'
          go_simp
          with_reducible rfl
        rotate_left
        · simp only [Act.put, List.setIfInBounds_toArray, List.set_cons_zero, List.set_cons_succ, i64_w, i32_w]
          rfl
        refine pure_ (i := 30) (N := some 147) (v := ?_) (a' := ?_) #[true, true, true, true, true, true, true, true, true, true, true, true, true, true, true, true, true, true, true, true, true, true, true, true, true, true, true, true, true, true, true, false, false, false, false, false, false, false, false] rfl rfl (any_of HT_.out (by kernel_rfl)) (fun _ _ _ h => h) (Or.inl ⟨by rfl, ?_⟩) ?_ ?_
        rotate_left
        · intro w'
          go_simp
          with_reducible rfl
        rotate_left
        · simp only [Act.put, List.setIfInBounds_toArray, List.set_cons_zero, List.set_cons_succ, i64_w, i32_w]
          rfl
        refine pure_ (i := 31) (N := some 148) (v := ?_) (a' := ?_) #[true, true, true, true, true, true, true, true, true, true, true, true, true, true, true, true, true, true, true, true, true, true, true, true, true, true, true, true, true, true, true, true, false, false, false, false, false, false, false] rfl rfl (any_of HT_.out (by kernel_rfl)) (fun _ _ _ h => h) (Or.inl ⟨by rfl, ?_⟩) ?_ ?_
        rotate_left
        · intro w'
          go_simp
          with_reducible rfl
        rotate_left
        · simp only [Act.put, List.setIfInBounds_toArray, List.set_cons_zero, List.set_cons_succ, i64_w, i32_w]
          rfl
        refine pure_ (i := 32) (N := some 149) (v := ?_) (a' := ?_) #[true, true, true, true, true, true, true, true, true, true, true, true, true, true, true, true, true, true, true, true, true, true, true, true, true, true, true, true, true, true, true, true, true, false, false, false, false, false, false] rfl rfl (any_of HT_.out (by kernel_rfl)) (fun _ _ _ h => h) (Or.inl ⟨by rfl, ?_⟩) ?_ ?_
        rotate_left
        · intro w'
          go_simp
          with_reducible rfl
        rotate_left
        · simp only [Act.put, List.setIfInBounds_toArray, List.set_cons_zero, List.set_cons_succ, i64_w, i32_w]
          rfl
        refine pure_ (i := 33) (N := some 150) (v := ?_) (a' := ?_) #[true, true, true, true, true, true, true, true, true, true, true, true, true, true, true, true, true, true, true, true, true, true, true, true, true, true, true, true, true, true, true, true, true, true, false, false, false, false, false] rfl rfl (any_of HT_.out (by kernel_rfl)) (fun _ _ _ h => h) (Or.inl ⟨by rfl, ?_⟩) ?_ ?_
        rotate_left
        · intro w'
          go_simp
          with_reducible rfl
        rotate_left
        · simp only [Act.put, List.setIfInBounds_toArray, List.set_cons_zero, List.set_cons_succ, i64_w, i32_w]
          rfl
        refine pure_ (i := 34) (N := some 151) (v := ?_) (a' := ?_) #[true, true, true, true, true, true, true, true, true, true, true, true, true, true, true, true, true, true, true, true, true, true, true, true, true, true, true, true, true, true, true, true, true, true, true, false, false, false, false] rfl rfl (any_of HT_.out (by kernel_rfl)) (fun _ _ _ h => h) (Or.inl ⟨by rfl, ?_⟩) ?_ ?_
        rotate_left
        · intro w'
          go_simp
          with_reducible rfl
        rotate_left
        · simp only [Act.put, List.setIfInBounds_toArray, List.set_cons_zero, List.set_cons_succ, i64_w, i32_w]
          rfl
        refine take_ (i := 35) (N := some 152) (v := (.agg (nums .u8 zi).toArray)) (a' := ?_) #[true, true, true, true, true, true, true, true, true, true, true, true, true, true, true, true, true, true, true, true, true, true, true, true, true, true, true, true, true, true, true, true, true, true, true, true, false, false, false] rfl rfl (take_ofW HT_.out HW_.out (by kernel_rfl)) (fun _ _ _ h => h) (Or.inl ⟨by rfl, fun w' hw' => load_run rfl rfl (HLI.out w' hw'.1)⟩) hHeld ?_ ?_
        rotate_left
        · simp only [Act.put, List.setIfInBounds_toArray, List.set_cons_zero, List.set_cons_succ, i64_w, i32_w]
          rfl
        refine pure_ (i := 36) (N := some 153) (v := (.agg (cellsOf (⟨v0, v1, v2, s, y0, wrap64 (y1 * 256 + y2), zi⟩ : Ent)).toArray)) (a' := ?_) #[true, true, true, true, true, true, true, true, true, true, true, true, true, true, true, true, true, true, true, true, true, true, true, true, true, true, true, true, true, true, true, true, true, true, true, true, true, false, false] rfl rfl (any_of HT_.out (by kernel_rfl)) (fun _ _ _ h => h) (Or.inl ⟨by rfl, fun w' => build_run (ps := #[(0, .int .i64 v0), (1, .int .i64 v1), (2, .int .u64 v2), (3, .string s), (4, .int .i64 y0), (5, .int .i64 (wrap64 (y1 * 256 + y2))), (6, .agg (nums .u8 zi).toArray)]) rfl (by rw [List.map_toArray]; rfl) (builtw v0 v1 v2 s y0 (wrap64 (y1 * 256 + y2)) zi hzi32.out)⟩) ?_ ?_
        rotate_left
        · simp only [Act.put, List.setIfInBounds_toArray, List.set_cons_zero, List.set_cons_succ, i64_w, i32_w]
          rfl
        refine one_ (i := 37) (N := some 15) #[true, true, true, true, true, true, true, true, true, true, true, true, true, true, true, true, true, true, true, true, true, true, true, true, true, true, true, true, true, true, true, true, true, true, true, true, true, true, false] rfl rfl (one_of HT_.out (by kernel_rfl)) (by decide) (fun K hK => ?_)
        refine value_ (by rfl) rfl (alloc_run wq 27 rfl _ zero27) ?_
        have hgq := Aside0.mk (show It (wq.alloc (.cells (cellsOf ent0).toArray 27)) wq.heap.size ent0 from heap_alloc_new wq _)
        have HS1 := Aside0.mk (show Below w.heap.size w (wq.alloc (.cells (cellsOf ent0).toArray 27)) ∧ It (wq.alloc (.cells (cellsOf ent0).toArray 27)) w.heap.size ent0 from ⟨hHeld.1.alloc hHeld.1.size _, (((Below.refl wq.heap.size wq).alloc (Nat.le_refl _) _).block _ (blk_lt hHeld.2)).trans hHeld.2⟩)
        obtain ⟨g9, hg9⟩ : ∃ g9, Aside0 (g9 = wq.heap.size) := ⟨_, ⟨rfl⟩⟩
        have hg9l : Aside0 (w.heap.size < g9) := ⟨by rw [hg9.out]; exact blk_lt hHeld.2⟩
        rw [← hg9.out] at hgq ⊢
        generalize wq.alloc (.cells (cellsOf ent0).toArray 27) = wa at HS1 hgq hK ⊢
        refine hK.out _ _ (HS1.out) (fun hHeld => ?_)
        clear hK K
        refine norm_ (a' := ?_) ?_ ?_
        rotate_left
        · show Act.put _ (some 15) _ = _
          simp only [Act.put, List.setIfInBounds_toArray, List.set_cons_zero, List.set_cons_succ, i64_w, i32_w]
          rfl
        clear HS1
        refine one_ (i := 38) (N := none) #[true, true, true, true, true, true, true, true, true, true, true, true, true, true, true, true, true, true, true, true, true, true, true, true, true, true, true, true, true, true, true, true, true, true, true, true, true, true, true] rfl rfl (one_of HT_.out (by kernel_rfl)) (by decide) (fun K hK => ?_)
        refine skip_ (by rfl) rfl (store_run wa 27 (.tmp 15) (.tmp 153) rfl g9 (cellsOf (⟨v0, v1, v2, s, y0, wrap64 (y1 * 256 + y2), zi⟩ : Ent)).toArray rfl rfl 27 (cellsOf ent0).toArray hgq.out 38 info27 (cells_sz hzi32.out) (cells_sz ok0) (cells_all _)) ?_
        have HS1 := Aside0.mk (show Below w.heap.size w (wa.setRow g9 (cellsOf (⟨v0, v1, v2, s, y0, wrap64 (y1 * 256 + y2), zi⟩ : Ent)).toArray) ∧ It (wa.setRow g9 (cellsOf (⟨v0, v1, v2, s, y0, wrap64 (y1 * 256 + y2), zi⟩ : Ent)).toArray) w.heap.size ent0 from ⟨below_setRow hHeld.1 (Nat.le_of_lt hg9l.out) _, blk_grown hHeld.2 (grown_put _ _ _) (by have := hg9l.out; simp; omega)⟩)
        have hgx := Aside0.mk (it_put (⟨v0, v1, v2, s, y0, wrap64 (y1 * 256 + y2), zi⟩ : Ent) hgq.out)
        generalize wa.setRow g9 (cellsOf (⟨v0, v1, v2, s, y0, wrap64 (y1 * 256 + y2), zi⟩ : Ent)).toArray = wb at HS1 hgx hK ⊢
        refine hK.out _ _ HS1.out (fun hHeld => ?_)
        clear hK K HS1 hgq
        refine done_ (done_of HT_.out (by kernel_rfl)) ?_
        clear HT_ HW_
        have HBb := Aside0.mk hHeld.1; have HGb := Aside0.mk hHeld.2
        clear hHeld HBj HGj
        obtain ⟨x1, hx1⟩ : ∃ x1, Aside0 (x1 = (⟨v0, v1, v2, s, y0, wrap64 (y1 * 256 + y2), zi⟩ : Ent)) := ⟨_, ⟨rfl⟩⟩
        have ok1 : Ok x1 := by rw [hx1.out]; exact hzi32.out
        rw [← hx1.out] at hgx
        clear hq0 hq1 hq2 hq3 hq4 hq5 hmt hmw hmt2 hmw2 hmw3 hmw35
        go_wp2_with (first | (refine op_load rfl 27 (.tmp 15) rfl g9 rfl 27 (cellsOf x1).toArray _ hgx.out Try.underlying27 rfl 38 info27 (cells_sz ok1) ?_) | (refine op_store (w0 := w) w.heap.size rfl 27 (.tmp 2) (.tmp 154) rfl w.heap.size (cellsOf x1).toArray rfl rfl 27 (cellsOf ent0).toArray HGb.out 38 info27 (cells_sz ok1) (cells_sz ok0) (cells_all _) HBb.out (Nat.le_refl _) ?_; intro wz hgz _ HBz))
        have hfin : x1 = entAt b x := by rw [HFIN.out, hx1.out, HQ.out.2.2.2.2.2.1]
        exact ret_row3 rfl w.heap.size rfl 27 (cellsOf x1).toArray _ hgz.out Try.underlying27 rfl 38 info27 (cells_sz ok1) rfl ⟨by rw [HTO.out, ← hfin]; rfl, HBz.out⟩
      have e59 : ((i : Int) == 59 + (x : Int)) = false := beq_eq_false_iff_ne.2 (by omega)
      have HG2 := Aside0.mk (good_high HGD.out (by omega) (by rw [HX.out]; exact h59) (fun h => absurd h (by rw [HX.out]; exact h26)) (fun h => absurd h (by rw [HX.out]; exact h27)))
      clear g25 hx100
      go_wp2_with fail
      go_roundw
      case rel => exact ⟨i + 1, by omega, by go_num, by rw [if_neg (by omega)], HG2, HBj, HGj⟩
      case measure => simp [intOf]; omega
    · obtain rfl : i = b.length := by omega
      have hbg := good_begins HGD.out
      have hshort : b.length < 60 + x := by
        by_cases h : b.length ≤ 24
        · omega
        · have := (HGD.out.2.2 (by omega)).2.1; rw [HX.out] at this; omega
      have HV : Aside0 (takeOut b = (ent0, 0, 3)) := ⟨by
        unfold takeOut
        rw [if_neg (by rw [hbg]; simp)]
        by_cases h : b.length ≤ 24
        · rw [if_pos h]
        · rw [if_neg h, if_pos (by rw [HX.out]; omega)]⟩
      clear hbg
      by_cases h25 : b.length < 25
      · have d1 : decide ((b.length : Int) < 25) = true := decide_eq_true (by omega)
        go_wp2_with (first | (with_reducible refine op_build rfl 27 _ rfl (cellsOf ent0).toArray (by rw [List.map_toArray]; exact built00) ?_) | (refine op_store (w0 := w) w.heap.size rfl 27 (.tmp 2) (.tmp 99) rfl w.heap.size (cellsOf ent0).toArray rfl rfl 27 (cellsOf ent0).toArray HGj.out 38 info27 (cells_sz ok0) (cells_sz ok0) (cells_all _) HBj.out (Nat.le_refl _) ?_; intro wz hgz _ HBz))
        exact ret_row3 rfl w.heap.size rfl 27 (cellsOf ent0).toArray _ hgz.out Try.underlying27 rfl 38 info27 (cells_sz ok0) rfl ⟨by rw [HV.out]; rfl, HBz.out⟩
      · have d1 : decide ((b.length : Int) < 25) = false := decide_eq_false (by omega)
        have hnvx : nv = (x : Int) := by rw [hnv, if_neg (by omega)]
        subst hnvx
        have hx16 : x ≤ 16 := by have h1 := (HGD.out.2.2 (by omega)).1; rw [HXB.out (by omega)] at h1; omega
        have d2 : decide ((b.length : Int) < 60 + (x : Int)) = true := decide_eq_true (by omega)
        clear hnv
        go_wp2_with (first | (with_reducible refine op_build rfl 27 _ rfl (cellsOf ent0).toArray (by rw [List.map_toArray]; exact built00) ?_) | (refine op_store (w0 := w) w.heap.size rfl 27 (.tmp 2) (.tmp 99) rfl w.heap.size (cellsOf ent0).toArray rfl rfl 27 (cellsOf ent0).toArray HGj.out 38 info27 (cells_sz ok0) (cells_sz ok0) (cells_all _) HBj.out (Nat.le_refl _) ?_; intro wz hgz _ HBz))
        exact ret_row3 rfl w.heap.size rfl 27 (cellsOf ent0).toArray _ hgz.out Try.underlying27 rfl 38 info27 (cells_sz ok0) rfl ⟨by rw [HV.out]; rfl, HBz.out⟩
end Go.Proofs.Ytgpgblidplmchaa.Eu
