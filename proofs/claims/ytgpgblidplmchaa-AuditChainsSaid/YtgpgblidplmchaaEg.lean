/- Does some entry begin so? The program's begins. -/
import Derived.Test.YtgpgblidplmchaaEb
namespace Go.Proofs.Ytgpgblidplmchaa.Eg
open Go.RowKit Go.Proofs.YtgpgblidplmchaaW.PrintWords Go.Proofs.YtgpgblidplmchaaW.PrintLast Go.Proofs.YtgpgblidplmchaaW.PrintMore
open En Ag Spc OctA OctC Eb
set_option linter.unusedVariables false
set_option linter.unusedSimpArgs false
set_option maxRecDepth 100000
def bad (b : List Int) (i : Nat) : Bool := decide (i < b.length) && decide (127 < b.getD i 0)
def stat (b : List Int) (m : Nat) : Bool := if b.length = m + 1 then decide (b.getD m 0 ≤ 3) else if m + 1 < b.length then decide (b.getD m 0 * 256 + b.getD (m + 1) 0 ≤ 999) else true
def beginsB (b : List Int) : Bool := if (bad b 0 || bad b 8) = true then false else if b.length ≤ 24 then true else if 16 < b.getD 24 0 then false else stat b (26 + (b.getD 24 0).toNat)
theorem cb_at {w : World} {ad : Addr} {xs : List Int} (h : CB w (some ad) xs) (i : Nat) (hi : i < xs.length) : w.cell? (ad.add i) = some (.int .u8 (xs.getD i 0)) := by
  obtain ⟨ad', e, hc⟩ := CB.cells h (by omega)
  cases e
  exact hc i _ (by simp [nums, List.getElem?_eq_getElem hi, List.getD_eq_getElem?_getD])
theorem or_i64 (x y : Int) (hx : 0 ≤ x ∧ x < 256) (hy : 0 ≤ y ∧ y < 256) : Go.bits .or .i64 (x * 256) y = x * 256 + y := by
  obtain ⟨v, rfl⟩ := Int.eq_ofNat_of_zero_le hx.1
  obtain ⟨c, rfl⟩ := Int.eq_ofNat_of_zero_le hy.1
  have h : Go.bits .or .i64 ((v * 256 : Nat) : Int) (c : Int) = ((v * 256 ||| c : Nat) : Int) := by
    have hx : v * 256 ||| c < 2 ^ 32 := Nat.or_lt_two_pow (by omega) (by omega)
    show IntKind.i64.wrap ((BitVec.ofInt 64 ((v * 256 : Nat) : Int) ||| BitVec.ofInt 64 (c : Int)).toNat : Int) = _
    rw [BitVec.toNat_or, ofInt_u64 _ (by omega), ofInt_u64 _ (by omega), IntKind.wrap_i64]
    omega
  rw [show ((v * 256 : Nat) : Int) = (v : Int) * 256 by omega] at h
  rw [h]
  have h3 : v * 256 = 2 ^ 8 * v := by omega
  rw [h3, ← Nat.two_pow_add_eq_or_of_lt (by omega : c < 2 ^ 8)]
  omega
theorem idx0 {o : Oper} {a : Act} {W : World} (ho : o.op = .index 75 (.tmp 6) (.tmp 7)) (hx : a.eval (.tmp 6) = .agg #[.int .i64 0, .int .i64 8]) (hy : a.eval (.tmp 7) = .int .i64 0) : (execOp a.eval o).run Try.prog W = .ok (.value (.int .i64 0)) W := by
  obtain ⟨it, hi, hz⟩ := Option.map_eq_some_iff.1 (show (Try.prog.info? 3).map (·.size) = some 1 by kernel_rfl)
  simp only [execOp, ho, hx, hy, Instr.index]
  simp [asIntOf, run_underlying Try.underlying75, part, isAgg, run_underlying Try.underlying3, sizeOf, typeInfo, hi, hz]
theorem idx1 {o : Oper} {a : Act} {W : World} (ho : o.op = .index 75 (.tmp 6) (.tmp 7)) (hx : a.eval (.tmp 6) = .agg #[.int .i64 0, .int .i64 8]) (hy : a.eval (.tmp 7) = .int .i64 1) : (execOp a.eval o).run Try.prog W = .ok (.value (.int .i64 8)) W := by
  obtain ⟨it, hi, hz⟩ := Option.map_eq_some_iff.1 (show (Try.prog.info? 3).map (·.size) = some 1 by kernel_rfl)
  simp only [execOp, ho, hx, hy, Instr.index]
  simp [asIntOf, run_underlying Try.underlying75, part, isAgg, run_underlying Try.underlying3, sizeOf, typeInfo, hi, hz]
def bg15T : Bool × List (List Nat × List Nat) := (true, [([], []), ([], []), ([0, 1], [0, 1]), ([2], [2]), ([3], [3]), ([4], [4]), ([], []), ([], []), ([7], [7]), ([6, 8], [6, 8]), ([9], [9]), ([10], [10]), ([5, 11], [5, 11]), ([12], [12]), ([13, 0, 1, 2, 3, 4, 5, 6, 7, 8, 9, 10, 11, 12, 13], [13])])
def bg15B : List Nat := [0, 0, 3, 7, 15, 31, 0, 0, 128, 448, 960, 1984, 4095, 8191, 16383]
theorem bg15tab : rtab .any (opsOf Try.f38 15) = bg15T := by kernel_rfl
theorem bg15bits : waitsOk bg15T.2 bg15B = true := by kernel_rfl
theorem get_byte {b : List Int} (hby : ∀ x ∈ b, 0 ≤ x ∧ x < 256) (i : Nat) (hi : i < b.length) : 0 ≤ b.getD i 0 ∧ b.getD i 0 < 256 := by
  rw [List.getD_eq_getElem?_getD, List.getElem?_eq_getElem hi]
  exact hby _ (List.getElem_mem hi)
set_option maxHeartbeats 6400000 in
/-- behind the two signs -/
theorem begins_calls (A : Option Addr) (c : Nat) (b : List Int) (w : World) (hr : CB w A b) (hc : b.length ≤ c) (hl : b.length ≤ 1000000) (hby : ∀ x ∈ b, 0 ≤ x ∧ x < 256) :
    Calls Try.prog 38 #[.slice A b.length c] w fun e w' => e = .returned (.bool (beginsB b)) ∧ Below w.heap.size w w' := by
  have HR := Aside0.mk hr
  have HBY := Aside0.mk hby
  have HAT : Aside0 (∀ i, i < b.length → ∃ ad, A = some ad) := ⟨fun i hi => by obtain ⟨ad, h, _⟩ := CB.cells hr (by omega); exact ⟨ad, h⟩⟩
  clear hr hby
  go_enter Try.func38, Try.ntmps38
  go_wp2_with fail
  go_loop [7] (fun u => ∃ j : Nat, j ≤ 2 ∧ u = .int .i64 j ∧ Aside0 (1 ≤ j → bad b 0 = false) ∧ Aside0 (2 ≤ j → bad b 8 = false)) (fun u => 2 - (intOf u).toNat)
  case atStart => exact ⟨0, by omega, rfl, ⟨fun h => absurd h (by omega)⟩, ⟨fun h => absurd h (by omega)⟩⟩
  case round =>
    obtain ⟨j, hj, rfl, H0, H8⟩ := hrel
    obtain rfl | rfl | rfl : j = 0 ∨ j = 1 ∨ j = 2 := by omega
    · by_cases h0 : 0 < b.length
      · obtain ⟨ad, rfl⟩ := HAT.out 0 h0
        have k0 : w.cell? ad = some (.int .u8 (b.getD 0 0)) := cb_at HR.out 0 h0
        have d0 : decide (0 < (b.length : Int)) = true := decide_eq_true (by omega)
        obtain ⟨x0, hx0⟩ : ∃ x0, b.getD 0 0 = x0 := ⟨_, rfl⟩
        rw [hx0] at k0
        by_cases h1 : 127 < x0
        · have d1 : decide (127 < x0) = true := decide_eq_true h1
          have HV : Aside0 (beginsB b = false) := ⟨by unfold beginsB bad; rw [hx0, decide_eq_true h0, d1]; rfl⟩
          clear h1 hx0
          go_wp2_with (refine Kd.event_run rfl (idx0 rfl rfl rfl) ?_)
          go_ret
          exact ⟨by rw [HV.out]; rfl, Below.refl _ _⟩
        · have d1 : decide (127 < x0) = false := decide_eq_false h1
          have HV : Aside0 (bad b 0 = false) := ⟨by unfold bad; rw [hx0, d1, Bool.and_false]⟩
          clear h1 hx0
          go_wp2_with (refine Kd.event_run rfl (idx0 rfl rfl rfl) ?_)
          go_round
          case rel => exact ⟨1, by omega, by go_num, ⟨fun _ => HV.out⟩, ⟨fun h => absurd h (by omega)⟩⟩
          case measure => simp [intOf]
      · have d0 : decide (0 < (b.length : Int)) = false := decide_eq_false (by omega)
        have HV : Aside0 (bad b 0 = false) := ⟨by unfold bad; rw [decide_eq_false h0]; rfl⟩
        go_wp2_with (refine Kd.event_run rfl (idx0 rfl rfl rfl) ?_)
        go_round
        case rel => exact ⟨1, by omega, by go_num, ⟨fun _ => HV.out⟩, ⟨fun h => absurd h (by omega)⟩⟩
        case measure => simp [intOf]
    · have H0' := Aside0.mk (H0.out (by omega))
      clear H0
      by_cases h0 : 8 < b.length
      · obtain ⟨ad, rfl⟩ := HAT.out 8 h0
        have k0 : w.cell? { block := ad.block, off := ad.off + 8 } = some (.int .u8 (b.getD 8 0)) := cb_at HR.out 8 h0
        have d0 : decide (8 < (b.length : Int)) = true := decide_eq_true (by omega)
        obtain ⟨x0, hx0⟩ : ∃ x0, b.getD 8 0 = x0 := ⟨_, rfl⟩
        rw [hx0] at k0
        by_cases h1 : 127 < x0
        · have d1 : decide (127 < x0) = true := decide_eq_true h1
          have HV : Aside0 (beginsB b = false) := ⟨by unfold beginsB; rw [H0'.out]; unfold bad; rw [hx0, decide_eq_true h0, d1]; rfl⟩
          clear h1 hx0
          go_wp2_with (refine Kd.event_run rfl (idx1 rfl rfl rfl) ?_)
          go_ret
          exact ⟨by rw [HV.out]; rfl, Below.refl _ _⟩
        · have d1 : decide (127 < x0) = false := decide_eq_false h1
          have HV : Aside0 (bad b 8 = false) := ⟨by unfold bad; rw [hx0, d1, Bool.and_false]⟩
          clear h1 hx0
          go_wp2_with (refine Kd.event_run rfl (idx1 rfl rfl rfl) ?_)
          go_round
          case rel => exact ⟨2, by omega, by go_num, ⟨fun _ => H0'.out⟩, ⟨fun _ => HV.out⟩⟩
          case measure => simp [intOf]
      · have d0 : decide (8 < (b.length : Int)) = false := decide_eq_false (by omega)
        have HV : Aside0 (bad b 8 = false) := ⟨by unfold bad; rw [decide_eq_false h0]; rfl⟩
        go_wp2_with (refine Kd.event_run rfl (idx1 rfl rfl rfl) ?_)
        go_round
        case rel => exact ⟨2, by omega, by go_num, ⟨fun _ => H0'.out⟩, ⟨fun _ => HV.out⟩⟩
        case measure => simp [intOf]
    · have HS : Aside0 (beginsB b = if b.length ≤ 24 then true else if 16 < b.getD 24 0 then false else stat b (26 + (b.getD 24 0).toNat)) := ⟨by unfold beginsB; rw [H0.out (by omega), H8.out (by omega)]; rfl⟩
      clear H0 H8
      by_cases h24 : b.length ≤ 24
      · have d0 : decide ((b.length : Int) ≤ 24) = true := decide_eq_true (by omega)
        have HV : Aside0 (beginsB b = true) := ⟨by rw [HS.out, if_pos h24]⟩
        go_wp2_with fail
        go_ret
        exact ⟨by rw [HV.out]; rfl, Below.refl _ _⟩
      · obtain ⟨ad, rfl⟩ := HAT.out 24 (by omega)
        have d0 : decide ((b.length : Int) ≤ 24) = false := decide_eq_false (by omega)
        have hb24 := get_byte HBY.out 24 (by omega)
        obtain ⟨x, hx⟩ := Int.eq_ofNat_of_zero_le hb24.1
        have k24 : w.cell? { block := ad.block, off := ad.off + 24 } = some (.int .u8 (b.getD 24 0)) := cb_at HR.out 24 (by omega)
        rw [hx] at k24 HS hb24
        have HS2 : Aside0 (beginsB b = if 16 < (x : Int) then false else stat b (26 + x)) := ⟨by rw [HS.out, if_neg h24, Int.toNat_natCast]⟩
        clear HS hx
        by_cases h16 : 16 < (x : Int)
        · have d16 : decide (16 < (x : Int)) = true := decide_eq_true h16
          have HV : Aside0 (beginsB b = false) := ⟨by rw [HS2.out, if_pos h16]⟩
          clear h16
          go_wp2_with fail
          go_ret
          exact ⟨by rw [HV.out]; rfl, Below.refl _ _⟩
        have d16 : decide (16 < (x : Int)) = false := decide_eq_false h16
        have hw24 : IntKind.i64.wrap (x : Int) = (x : Int) := by rw [IntKind.wrap_i64]; omega
        obtain ⟨m, hm⟩ : ∃ m : Nat, 26 + x = m := ⟨_, rfl⟩
        have hmi : 26 + (x : Int) = (m : Int) := by omega
        have hm100 : m ≤ 100 := by omega
        have HS3 : Aside0 (beginsB b = stat b m) := ⟨by rw [HS2.out, if_neg h16, hm]⟩
        clear HS2 h16 hm
        by_cases he : b.length = m + 1
        · have de : ((b.length : Int) == (m : Int) + 1) = true := by rw [beq_iff_eq]; omega
          have km : w.cell? (ad.add m) = some (.int .u8 (b.getD m 0)) := cb_at HR.out m (by omega)
          have hlt : m < b.length := by omega
          have HV : Aside0 (beginsB b = decide (b.getD m 0 ≤ 3)) := ⟨by rw [HS3.out]; unfold stat; rw [if_pos he]⟩
          generalize b.getD m 0 = y at km HV
          clear he
          go_wp2_with fail
          go_ret
          exact ⟨by rw [HV.out]; rfl, Below.refl _ _⟩
        · have de : ((b.length : Int) == (m : Int) + 1) = false := beq_eq_false_iff_ne.2 (by omega)
          by_cases hg : m + 1 < b.length
          · have dg : decide ((m : Int) + 1 < (b.length : Int)) = true := decide_eq_true (by omega)
            have hx0 := get_byte HBY.out m (by omega)
            have hy0 := get_byte HBY.out (m + 1) (by omega)
            have km := cb_at HR.out m (by omega)
            have kn : w.cell? { block := ad.block, off := ad.off + (m + 1) } = some (.int .u8 (b.getD (m + 1) 0)) := cb_at HR.out (m + 1) (by omega)
            have HV : Aside0 (beginsB b = decide (b.getD m 0 * 256 + b.getD (m + 1) 0 ≤ 999)) := ⟨by rw [HS3.out]; unfold stat; rw [if_neg he, if_pos hg]⟩
            generalize b.getD m 0 = y0 at km HV hx0
            generalize b.getD (m + 1) 0 = y1 at kn HV hy0
            have HF := Aside0.mk (And.intro (fun W (hW : Below w.heap.size w W) => (hW.cell (World.block_lt_of_cell? w _ km)).trans km) (fun W (hW : Below w.heap.size w W) => (hW.cell (World.block_lt_of_cell? w _ kn)).trans kn))
            have HX0 := Aside0.mk hx0; have HY0 := Aside0.mk hy0
            clear hx0 hy0
            clear km kn he
            go_upto_region 15 with (fail)
            have hx0 := HX0.out; have hy0 := HY0.out; have hmlt : m < b.length := by omega
            have hml2 : 0 ≤ (m : Int) + 1 := by omega
            have hml3 : (m : Int) + 1 < (b.length : Int) := by omega
            have hw0 : IntKind.i64.wrap y0 = y0 := by rw [IntKind.wrap_i64]; omega
            have hw1 : IntKind.i64.wrap y1 = y1 := by rw [IntKind.wrap_i64]; omega
            have hw2 : wrap64 (y0 * 256) = y0 * 256 := w64_id (by omega) (by omega)
            have hw3 : IntKind.i64.wrap (y0 * 256) = y0 * 256 := by rw [IntKind.wrap_i64]; omega
            have hor := or_i64 y0 y1 hx0 hy0
            have hmt : ((m : Int) + 1).toNat = m + 1 := by omega
            have hmw : wrap64 ((m : Int) + 1) = (m : Int) + 1 := w64_id (by omega) (by omega)
            refine start_ (n := 15) (S := (fun W_ => Below w.heap.size w W_)) (ds := []) #[false, false, false, false, false, false, false, false, false, false, false, false, false, false, false] (by kernel_rfl) rfl rfl (below_drew1 (Below.refl _ _)) (fun hHeld => ?_); refine with_tabW bg15tab bg15bits (fun HT_ HW_ => ?_)
            generalize w.drew = wq at hHeld ⊢
            refine pure_ (i := 0) (N := some 51) (v := ?_) (a' := ?_) #[true, false, false, false, false, false, false, false, false, false, false, false, false, false, false] rfl rfl (any_of HT_.out (by kernel_rfl)) (fun _ _ _ h => h) (Or.inl ⟨by rfl, ?_⟩) ?_ ?_
            rotate_left
            · intro w'
              go_simp
              with_reducible rfl
            rotate_left
            · simp only [Act.put, List.setIfInBounds_toArray, List.set_cons_zero, List.set_cons_succ, i64_w, i32_w]
              rfl
            refine pure_ (i := 1) (N := some 52) (v := ?_) (a' := ?_) #[true, true, false, false, false, false, false, false, false, false, false, false, false, false, false] rfl rfl (any_of HT_.out (by kernel_rfl)) (fun _ _ _ h => h) (Or.inl ⟨by rfl, ?_⟩) ?_ ?_
            rotate_left
            · intro w'
              go_simp
              with_reducible rfl
            rotate_left
            · simp only [Act.put, List.setIfInBounds_toArray, List.set_cons_zero, List.set_cons_succ, i64_w, i32_w]
              rfl
            refine pure_ (i := 2) (N := some 53) (v := ?_) (a' := ?_) #[true, true, true, false, false, false, false, false, false, false, false, false, false, false, false] rfl rfl (any_of HT_.out (by kernel_rfl)) (fun _ _ _ h => h) (Or.inl ⟨by rfl, ?_⟩) ?_ ?_
            rotate_left
            · intro w'
              go_simp
              with_reducible rfl
            rotate_left
            · simp only [Act.put, List.setIfInBounds_toArray, List.set_cons_zero, List.set_cons_succ, i64_w, i32_w]
              rfl
            refine take_ (i := 3) (N := some 54) (v := ?_) (a' := ?_) #[true, true, true, true, false, false, false, false, false, false, false, false, false, false, false] rfl rfl (take_ofW HT_.out HW_.out (by kernel_rfl)) (fun _ _ _ h => h) (Or.inl ⟨by rfl, ?_⟩) hHeld ?_ ?_
            rotate_left
            · intro w' hw'
              have hf0_ := HF.out.1 w' hw'
              go_simp
              with_reducible rfl
            rotate_left
            · simp only [Act.put, List.setIfInBounds_toArray, List.set_cons_zero, List.set_cons_succ, i64_w, i32_w]
              rfl
            refine pure_ (i := 4) (N := some 55) (v := ?_) (a' := ?_) #[true, true, true, true, true, false, false, false, false, false, false, false, false, false, false] rfl rfl (any_of HT_.out (by kernel_rfl)) (fun _ _ _ h => h) (Or.inl ⟨by rfl, ?_⟩) ?_ ?_
            rotate_left
            · intro w'
              go_simp
              with_reducible rfl
            rotate_left
            · simp only [Act.put, List.setIfInBounds_toArray, List.set_cons_zero, List.set_cons_succ, i64_w, i32_w]
              rfl
            refine pure_ (i := 5) (N := some 56) (v := ?_) (a' := ?_) #[true, true, true, true, true, true, false, false, false, false, false, false, false, false, false] rfl rfl (any_of HT_.out (by kernel_rfl)) (fun _ _ _ h => h) (Or.inl ⟨by rfl, ?_⟩) ?_ ?_
            rotate_left
            · intro w'
              go_simp
              with_reducible rfl
            rotate_left
            · simp only [Act.put, List.setIfInBounds_toArray, List.set_cons_zero, List.set_cons_succ, i64_w, i32_w]
              rfl
            refine pure_ (i := 6) (N := some 57) (v := ?_) (a' := ?_) #[true, true, true, true, true, true, true, false, false, false, false, false, false, false, false] rfl rfl (any_of HT_.out (by kernel_rfl)) (fun _ _ _ h => h) (Or.inl ⟨by rfl, ?_⟩) ?_ ?_
            rotate_left
            · intro w'
              go_simp
              with_reducible rfl
            rotate_left
            · simp only [Act.put, List.setIfInBounds_toArray, List.set_cons_zero, List.set_cons_succ, i64_w, i32_w]
              rfl
            refine pure_ (i := 7) (N := some 58) (v := ?_) (a' := ?_) #[true, true, true, true, true, true, true, true, false, false, false, false, false, false, false] rfl rfl (any_of HT_.out (by kernel_rfl)) (fun _ _ _ h => h) (Or.inl ⟨by rfl, ?_⟩) ?_ ?_
            rotate_left
            · intro w'
              go_simp
              with_reducible rfl
            rotate_left
            · simp only [Act.put, List.setIfInBounds_toArray, List.set_cons_zero, List.set_cons_succ, i64_w, i32_w]
              rfl
            refine pure_ (i := 8) (N := some 59) (v := ?_) (a' := ?_) #[true, true, true, true, true, true, true, true, true, false, false, false, false, false, false] rfl rfl (any_of HT_.out (by kernel_rfl)) (fun _ _ _ h => h) (Or.inl ⟨by rfl, ?_⟩) ?_ ?_
            rotate_left
            · intro w'
              go_simp
              with_reducible rfl
            rotate_left
            · simp only [Act.put, List.setIfInBounds_toArray, List.set_cons_zero, List.set_cons_succ, i64_w, i32_w]
              rfl
            refine pure_ (i := 9) (N := some 60) (v := ?_) (a' := ?_) #[true, true, true, true, true, true, true, true, true, true, false, false, false, false, false] rfl rfl (any_of HT_.out (by kernel_rfl)) (fun _ _ _ h => h) (Or.inl ⟨by rfl, ?_⟩) ?_ ?_
            rotate_left
            · intro w'
              go_simp
              with_reducible rfl
            rotate_left
            · simp only [Act.put, List.setIfInBounds_toArray, List.set_cons_zero, List.set_cons_succ, i64_w, i32_w]
              rfl
            refine take_ (i := 10) (N := some 61) (v := ?_) (a' := ?_) #[true, true, true, true, true, true, true, true, true, true, true, false, false, false, false] rfl rfl (take_ofW HT_.out HW_.out (by kernel_rfl)) (fun _ _ _ h => h) (Or.inl ⟨by rfl, ?_⟩) hHeld ?_ ?_
            rotate_left
            · intro w' hw'
              have hf0_ := HF.out.2 w' hw'
              go_simp
              with_reducible rfl
            rotate_left
            · simp only [Act.put, List.setIfInBounds_toArray, List.set_cons_zero, List.set_cons_succ, i64_w, i32_w]
              rfl
            refine pure_ (i := 11) (N := some 62) (v := ?_) (a' := ?_) #[true, true, true, true, true, true, true, true, true, true, true, true, false, false, false] rfl rfl (any_of HT_.out (by kernel_rfl)) (fun _ _ _ h => h) (Or.inl ⟨by rfl, ?_⟩) ?_ ?_
            rotate_left
            · intro w'
              go_simp
              with_reducible rfl
            rotate_left
            · simp only [Act.put, List.setIfInBounds_toArray, List.set_cons_zero, List.set_cons_succ, i64_w, i32_w]
              rfl
            refine pure_ (i := 12) (N := some 63) (v := ?_) (a' := ?_) #[true, true, true, true, true, true, true, true, true, true, true, true, true, false, false] rfl rfl (any_of HT_.out (by kernel_rfl)) (fun _ _ _ h => h) (Or.inl ⟨by rfl, ?_⟩) ?_ ?_
            rotate_left
            · intro w'
              go_simp
              with_reducible rfl
            rotate_left
            · simp only [Act.put, List.setIfInBounds_toArray, List.set_cons_zero, List.set_cons_succ, i64_w, i32_w]
              rfl
            refine pure_ (i := 13) (N := some 64) (v := ?_) (a' := ?_) #[true, true, true, true, true, true, true, true, true, true, true, true, true, true, false] rfl rfl (any_of HT_.out (by kernel_rfl)) (fun _ _ _ h => h) (Or.inl ⟨by rfl, ?_⟩) ?_ ?_
            rotate_left
            · intro w'
              go_simp
              with_reducible rfl
            rotate_left
            · simp only [Act.put, List.setIfInBounds_toArray, List.set_cons_zero, List.set_cons_succ, i64_w, i32_w]
              rfl
            refine pure_ (i := 14) (N := some 2) (v := ?_) (a' := ?_) #[true, true, true, true, true, true, true, true, true, true, true, true, true, true, true] rfl rfl (any_of HT_.out (by kernel_rfl)) (fun _ _ _ h => h) (Or.inl ⟨by rfl, ?_⟩) ?_ ?_
            rotate_left
            · intro w'
              go_simp
              with_reducible rfl
            rotate_left
            · simp only [Act.put, List.setIfInBounds_toArray, List.set_cons_zero, List.set_cons_succ, i64_w, i32_w]
              rfl
            refine done_ (done_of HT_.out (by kernel_rfl)) ?_
            clear HT_ HW_
            have HBq := Aside0.mk hHeld
            clear hHeld
            go_wp2_with fail
            go_ret
            exact ⟨by rw [HV.out]; rfl, HBq.out⟩
          · have dg : decide ((m : Int) + 1 < (b.length : Int)) = false := decide_eq_false (by omega)
            have HV : Aside0 (beginsB b = true) := ⟨by rw [HS3.out]; unfold stat; rw [if_neg he, if_neg hg]⟩
            clear he hg
            go_wp2_with fail
            go_ret
            exact ⟨by rw [HV.out]; rfl, Below.refl _ _⟩
end Go.Proofs.Ytgpgblidplmchaa.Eg
