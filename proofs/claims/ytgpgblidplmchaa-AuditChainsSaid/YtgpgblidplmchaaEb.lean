/- An entry's bytes: the program's. -/
import Derived.Test.YtgpgblidplmchaaEn
import Derived.Test.YtgpgblidplmchaaOctC
namespace Go.Proofs.Ytgpgblidplmchaa.Eb
open Go.RowKit Go.Proofs.YtgpgblidplmchaaW.PrintWords Go.Proofs.YtgpgblidplmchaaW.PrintLast Go.Proofs.YtgpgblidplmchaaW.PrintMore
open En Ag Spc OctA OctC
set_option linter.unusedVariables false
set_option linter.unusedSimpArgs false
set_option maxRecDepth 100000
def bytesE (x : Ent) : List Int := be 8 x.seq.toNat ++ (be 8 x.tick.toNat ++ (be 8 x.serial.toNat ++ ((x.ten.size : Int) :: (bytesOf x.ten ++ (be 1 x.act.toNat ++ (be 2 x.status.toNat ++ x.of))))))
def bytesOut (x : Ent) : List Int × Int := if mayE x = true then (bytesE x, 0) else ([], 1)
/-- numbers that the type lets be -/
def Wf (x : Ent) : Prop := Ok x ∧ x.seq ≤ 9223372036854775807 ∧ x.tick ≤ 9223372036854775807 ∧ 0 ≤ x.serial ∧ x.serial < 18446744073709551616 ∧ ∀ y ∈ x.of, 0 ≤ y ∧ y < 256
theorem may_parts {x : Ent} (h : mayE x = true) : 0 ≤ x.seq ∧ 0 ≤ x.tick ∧ 0 ≤ x.act ∧ x.act ≤ 255 ∧ 0 ≤ x.status ∧ x.status ≤ 999 ∧ x.ten.size ≤ 16 := by
  unfold mayE at h
  simp only [Bool.and_eq_true, decide_eq_true_eq] at h
  obtain ⟨h1, h2, h3, h4, h5, h6, h7⟩ := h
  exact ⟨h1, h2, h3, h4, h5, h6, by omega⟩
theorem put_int (k : Nat) (l : List Int) (v : Int) (n : Nat) (h0 : 0 ≤ v) (hv : v < 18446744073709551616 ∧ v.toNat < 256 ^ n) (hn : 1 ≤ n) (hn8 : n ≤ 8) (hl : l.length ≤ 130000000000000) (hk : 12 ≤ k) :
    POct.octet_Put.f k l v n = some (l ++ be n v.toNat, 0) := by
  have := put_ok k l v.toNat n (by omega) hn hn8 hl hk
  rw [Int.toNat_of_nonneg h0, if_pos hv.2] at this
  exact this
theorem len_text {z z' bs : List Int} {n m : Nat} (h : z' = z ++ leb bs.length ++ bs) (hl : z.length ≤ n) (hb : bs.length ≤ 16) (hm : n + 27 ≤ m) : z'.length ≤ m := by
  have h2 := leb_len10 (v := bs.length) (by omega)
  rw [h]; simp; omega
theorem of_read {w : World} {g : Nat} {x : Ent} (h : It w g x) (hok : Ok x) : CB w (some ⟨g, 6, none⟩) x.of := by
  unfold Ok at hok
  refine CB.of_block h (by omega) fun j hj => ?_
  rw [List.getElem?_toArray]
  show (cellsOf x)[6 + j]? = _
  rw [show 6 + j = j + 6 by omega]
  show (nums .u8 x.of)[j]? = _
  simp [nums, List.getElem?_eq_getElem hj, List.getD_eq_getElem?_getD]
set_option maxHeartbeats 6400000 in
theorem bytes_yes (x : Ent) (w : World) (hx : Wf x) (hm : mayE x = true) :
    Calls Try.prog 16 #[.agg (cellsOf x).toArray] w fun e w' => ∃ v, e = .returned (.tuple #[v, .int .i64 0]) ∧ RB w' w.heap.size v (bytesE x) ∧ Below w.heap.size w w' := by
  obtain ⟨hok, hs1, ht1, hr0, hr1, _⟩ := hx
  obtain ⟨hs0, ht0, ha0, ha1, hu0, hu1, hten⟩ := may_parts hm
  have HV := Aside0.mk (show (0 ≤ x.seq ∧ x.seq < 18446744073709551616 ∧ x.seq.toNat < 256 ^ 8) ∧ (0 ≤ x.tick ∧ x.tick < 18446744073709551616 ∧ x.tick.toNat < 256 ^ 8) ∧ (0 ≤ x.serial ∧ x.serial < 18446744073709551616 ∧ x.serial.toNat < 256 ^ 8) ∧ (0 ≤ x.act ∧ x.act < 18446744073709551616 ∧ x.act.toNat < 256 ^ 1) ∧ (0 ≤ x.status ∧ x.status < 18446744073709551616 ∧ x.status.toNat < 256 ^ 2) ∧ x.ten.size ≤ 16 from ⟨⟨hs0, by omega, by omega⟩, ⟨ht0, by omega, by omega⟩, ⟨hr0, hr1, by omega⟩, ⟨ha0, by omega, by omega⟩, ⟨hu0, by omega, by omega⟩, hten⟩)
  have hws : IntKind.u64.wrap x.seq = x.seq := u64_id (by omega) (by omega)
  have hwt : IntKind.u64.wrap x.tick = x.tick := u64_id (by omega) (by omega)
  have hwa : IntKind.u64.wrap x.act = x.act := u64_id (by omega) (by omega)
  have hwu : IntKind.u64.wrap x.status = x.status := u64_id (by omega) (by omega)
  have HB0 := Aside0.mk ((Below.refl w.heap.size w).alloc (Nat.le_refl _) (.cells (cellsOf x).toArray 27))
  have HG0 := Aside0.mk (show It (w.alloc (.cells (cellsOf x).toArray 27)) w.heap.size x from heap_alloc_new w _)
  have HM := Aside0.mk hm
  clear hs0 hs1 ht0 ht1 hr0 hr1 ha0 ha1 hu0 hu1 hten hm
  go_enter Try.func16, Try.ntmps16
  go_wp2_with (first | (refine op_load rfl 27 (.tmp 1) rfl w.heap.size rfl 27 (cellsOf x).toArray _ HG0.out Try.underlying27 rfl 38 info27 (cells_sz hok) ?_))
  refine (may_calls x _ hok).mono ?_
  rw [HM.out]
  rintro e1 w1 ⟨rfl, hb1⟩
  have HB1 := Aside0.mk (below_step HB0.out hb1)
  have HG1 := Aside0.mk (show It w1 w.heap.size x from (hb1.block _ (blk_lt HG0.out)).trans HG0.out)
  clear hb1 HB0 HG0
  have HC1 := Aside0.mk (show CB w1 none [] from ⟨rfl, by simp, fun h => absurd h (by simp)⟩)
  obtain ⟨z1, hz1⟩ : ∃ z1 : List Int, Aside0 (z1 = []) := ⟨_, ⟨rfl⟩⟩
  have hl1 : Aside0 (z1.length ≤ 0) := ⟨by rw [hz1.out]; simp⟩
  have kf := it_cell HG1.out 0 _ rfl
  obtain ⟨z2, hz2, f2⟩ : ∃ z, Aside0 (z = [] ++ be 8 x.seq.toNat) ∧ Aside0 (POct.octet_Put.f 40 [] x.seq 8 = some (z, 0)) := ⟨_, ⟨rfl⟩, ⟨put_int 40 [] x.seq 8 (by have := HV.out; omega) (by have := HV.out; omega) (by omega) (by omega) (by simp) (by omega)⟩⟩
  have hl2 : Aside0 (z2.length ≤ 8) := ⟨by rw [hz2.out]; simp [be_length]⟩
  go_wp2_with fail
  refine (POct.octet_Put.calls 40 none 0 [] x.seq 8 z2 0 _ HC1.out (by simp) f2.out).mono ?_
  rintro e2 w2 ⟨v2, rfl, ho, hb⟩
  have HB2 := Aside0.mk (below_step HB1.out hb)
  have HG2 := Aside0.mk (show It w2 w.heap.size x from (hb.block _ (blk_lt HG1.out)).trans HG1.out)
  have HO2 := Aside0.mk (Kd.R_lower ho HB1.out.size)
  obtain ⟨A2, c2, rfl, hc, hC⟩ := Kd.R_reads ho
  have HC2 := Aside0.mk hC; have Hc2 := Aside0.mk hc
  clear hC hc ho hb kf HB1 HG1 HC1
  have kf := it_cell HG2.out 1 _ rfl
  obtain ⟨z3, hz3, f3⟩ : ∃ z, Aside0 (z = z2 ++ be 8 x.tick.toNat) ∧ Aside0 (POct.octet_Put.f 40 z2 x.tick 8 = some (z, 0)) := ⟨_, ⟨rfl⟩, ⟨put_int 40 z2 x.tick 8 (by have := HV.out; omega) (by have := HV.out; omega) (by omega) (by omega) (by have := hl2.out; omega) (by omega)⟩⟩
  have hl3 : Aside0 (z3.length ≤ 16) := ⟨by rw [hz3.out]; have h1 := hl2.out; simp [be_length]; omega⟩
  go_wp2_with fail
  refine (POct.octet_Put.calls 40 A2 c2 z2 x.tick 8 z3 0 _ HC2.out Hc2.out f3.out).mono ?_
  rintro e3 w3 ⟨v3, rfl, ho, hb⟩
  have HB3 := Aside0.mk (below_step HB2.out hb)
  have HG3 := Aside0.mk (show It w3 w.heap.size x from (hb.block _ (blk_lt HG2.out)).trans HG2.out)
  have HO3 := Aside0.mk (Kd.R_lower ho HB2.out.size)
  obtain ⟨A3, c3, rfl, hc, hC⟩ := Kd.R_reads ho
  have HC3 := Aside0.mk hC; have Hc3 := Aside0.mk hc
  clear hC hc ho hb kf HB2 HG2 HC2 HO2 Hc2
  have kf := it_cell HG3.out 2 _ rfl
  obtain ⟨z4, hz4, f4⟩ : ∃ z, Aside0 (z = z3 ++ be 8 x.serial.toNat) ∧ Aside0 (POct.octet_Put.f 40 z3 x.serial 8 = some (z, 0)) := ⟨_, ⟨rfl⟩, ⟨put_int 40 z3 x.serial 8 (by have := HV.out; omega) (by have := HV.out; omega) (by omega) (by omega) (by have := hl3.out; omega) (by omega)⟩⟩
  have hl4 : Aside0 (z4.length ≤ 24) := ⟨by rw [hz4.out]; have h1 := hl3.out; simp [be_length]; omega⟩
  go_wp2_with fail
  refine (POct.octet_Put.calls 40 A3 c3 z3 x.serial 8 z4 0 _ HC3.out Hc3.out f4.out).mono ?_
  rintro e4 w4 ⟨v4, rfl, ho, hb⟩
  have HB4 := Aside0.mk (below_step HB3.out hb)
  have HG4 := Aside0.mk (show It w4 w.heap.size x from (hb.block _ (blk_lt HG3.out)).trans HG3.out)
  have HO4 := Aside0.mk (Kd.R_lower ho HB3.out.size)
  obtain ⟨A4, c4, rfl, hc, hC⟩ := Kd.R_reads ho
  have HC4 := Aside0.mk hC; have Hc4 := Aside0.mk hc
  clear hC hc ho hb kf HB3 HG3 HC3 HO3 Hc3
  have kf := it_cell HG4.out 3 _ rfl
  obtain ⟨bs, hbs⟩ : ∃ bs, Aside0 (bs = bytesOf x.ten) := ⟨_, ⟨rfl⟩⟩
  have kb := bytes_run (P := Try.prog) 9 37 Try.underlying9 Try.underlying37 Try.underlying5 x.ten bs hbs.out
  obtain ⟨z5, hz5, f5⟩ : ∃ z, Aside0 (z = z4 ++ leb bs.length ++ bs) ∧ Aside0 (POct.octet_Text.f 40 z4 bs = some (z, 0)) := ⟨_, ⟨rfl⟩, ⟨OctC.text_ok 40 z4 bs (by rw [hbs.out, bytesOf_length]; have := HV.out.2.2.2.2.2; omega) (by have := hl4.out; omega) (by omega)⟩⟩
  have hl5 : Aside0 (z5.length ≤ 51) := ⟨len_text hz5.out hl4.out (by rw [hbs.out, bytesOf_length]; have := HV.out.2.2.2.2.2; omega) (by omega)⟩
  have hw_ := Aside0.mk (bytes_below (Below.refl w4.heap.size w4) (Nat.le_refl _) 5 x.ten)
  have hBb := Aside0.mk (below_step HB4.out hw_.out)
  have HGb := Aside0.mk (show It (Lib.bytesWorld w4 5 x.ten) w.heap.size x from (hw_.out.block _ (blk_lt HG4.out)).trans HG4.out)
  go_wp2_with fail
  refine (POct.octet_Text.calls 40 A4 c4 z4 _ _ bs z5 0 _ (Kd.C_below HC4.out hw_.out) Hc4.out (bytes_C w4 x.ten bs hbs.out (by have := HV.out.2.2.2.2.2; omega)) (bytes_cap w4 x.ten bs hbs.out) f5.out).mono ?_
  rintro e5 w5 ⟨v5, rfl, ho, hb⟩
  have HB5 := Aside0.mk (below_step hBb.out hb)
  have HG5 := Aside0.mk (show It w5 w.heap.size x from (hb.block _ (blk_lt HGb.out)).trans HGb.out)
  have HO5 := Aside0.mk (Kd.R_lower ho hBb.out.size)
  obtain ⟨A5, c5, rfl, hc, hC⟩ := Kd.R_reads ho
  have HC5 := Aside0.mk hC; have Hc5 := Aside0.mk hc
  clear hC hc ho hb kf HB4 HG4 HC4 HO4 Hc4 kb hw_ hBb HGb
  have kf := it_cell HG5.out 4 _ rfl
  obtain ⟨z6, hz6, f6⟩ : ∃ z, Aside0 (z = z5 ++ be 1 x.act.toNat) ∧ Aside0 (POct.octet_Put.f 40 z5 x.act 1 = some (z, 0)) := ⟨_, ⟨rfl⟩, ⟨put_int 40 z5 x.act 1 (by have := HV.out; omega) (by have := HV.out; omega) (by omega) (by omega) (by have := hl5.out; omega) (by omega)⟩⟩
  have hl6 : Aside0 (z6.length ≤ 52) := ⟨by rw [hz6.out]; have h1 := hl5.out; simp [be_length]; omega⟩
  go_wp2_with fail
  refine (POct.octet_Put.calls 40 A5 c5 z5 x.act 1 z6 0 _ HC5.out Hc5.out f6.out).mono ?_
  rintro e6 w6 ⟨v6, rfl, ho, hb⟩
  have HB6 := Aside0.mk (below_step HB5.out hb)
  have HG6 := Aside0.mk (show It w6 w.heap.size x from (hb.block _ (blk_lt HG5.out)).trans HG5.out)
  have HO6 := Aside0.mk (Kd.R_lower ho HB5.out.size)
  obtain ⟨A6, c6, rfl, hc, hC⟩ := Kd.R_reads ho
  have HC6 := Aside0.mk hC; have Hc6 := Aside0.mk hc
  clear hC hc ho hb kf HB5 HG5 HC5 HO5 Hc5
  have kf := it_cell HG6.out 5 _ rfl
  obtain ⟨z7, hz7, f7⟩ : ∃ z, Aside0 (z = z6 ++ be 2 x.status.toNat) ∧ Aside0 (POct.octet_Put.f 40 z6 x.status 2 = some (z, 0)) := ⟨_, ⟨rfl⟩, ⟨put_int 40 z6 x.status 2 (by have := HV.out; omega) (by have := HV.out; omega) (by omega) (by omega) (by have := hl6.out; omega) (by omega)⟩⟩
  have hl7 : Aside0 (z7.length ≤ 54) := ⟨by rw [hz7.out]; have h1 := hl6.out; simp [be_length]; omega⟩
  go_wp2_with fail
  refine (POct.octet_Put.calls 40 A6 c6 z6 x.status 2 z7 0 _ HC6.out Hc6.out f7.out).mono ?_
  rintro e7 w7 ⟨v7, rfl, ho, hb⟩
  have HB7 := Aside0.mk (below_step HB6.out hb)
  have HG7 := Aside0.mk (show It w7 w.heap.size x from (hb.block _ (blk_lt HG6.out)).trans HG6.out)
  have HO7 := Aside0.mk (Kd.R_lower ho HB6.out.size)
  obtain ⟨A7, c7, rfl, hc, hC⟩ := Kd.R_reads ho
  have HC7 := Aside0.mk hC; have Hc7 := Aside0.mk hc
  clear hC hc ho hb kf HB6 HG6 HC6 HO6 Hc6
  have HCo := Aside0.mk (of_read HG7.out hok)
  go_wp2_with (at_builtin; refine app_row (w0 := w) w.heap.size rfl (.tmp 55) (.tmp 57) 37 rfl Try.underlying37 POct.info5 _ z7 x.of (some ⟨w.heap.size, 6, none⟩) 32 rfl (by rw [show x.of.length = 32 from hok]; rfl) HO7.out HCo.out HB7.out HB7.out.size (by have := hl7.out; rw [show x.of.length = 32 from hok]; omega) ?_; intro zs A8 c8 w8 hzs hc8 HO8 HB8)
  go_ret2
  have hfin : zs = bytesE x := by
    rw [hzs.out, hz7.out, hz6.out, hz5.out, hz4.out, hz3.out, hz2.out, hbs.out, bytesOf_length]
    unfold bytesE
    rw [leb_small (by have := HV.out.2.2.2.2.2; omega)]
    simp
  exact ⟨_, by rfl, by rw [← hfin]; exact HO8.out, HB8.out⟩
set_option maxHeartbeats 3200000 in
theorem bytes_no (x : Ent) (w : World) (hok : Ok x) (hm : mayE x = false) :
    Calls Try.prog 16 #[.agg (cellsOf x).toArray] w fun e w' => e = .returned (.tuple #[.slice none 0 0, .int .i64 1]) ∧ Below w.heap.size w w' := by
  have HB0 := Aside0.mk ((Below.refl w.heap.size w).alloc (Nat.le_refl _) (.cells (cellsOf x).toArray 27))
  have HG0 := Aside0.mk (show It (w.alloc (.cells (cellsOf x).toArray 27)) w.heap.size x from heap_alloc_new w _)
  have HM := Aside0.mk hm
  clear hm
  go_enter Try.func16, Try.ntmps16
  go_wp2_with (first | (refine op_load rfl 27 (.tmp 1) rfl w.heap.size rfl 27 (cellsOf x).toArray _ HG0.out Try.underlying27 rfl 38 info27 (cells_sz hok) ?_))
  refine (may_calls x _ hok).mono ?_
  rw [HM.out]
  rintro e1 w1 ⟨rfl, hb1⟩
  have HB1 := Aside0.mk (below_step HB0.out hb1)
  go_wp2_with fail
  go_ret2
  exact ⟨rfl, HB1.out⟩
/-- What the program's Bytes answers. -/
theorem bytes_calls (x : Ent) (w : World) (hx : Wf x) :
    Calls Try.prog 16 #[.agg (cellsOf x).toArray] w fun e w' => ∃ v, e = .returned (.tuple #[v, .int .i64 (bytesOut x).2]) ∧ RB w' w.heap.size v (bytesOut x).1 ∧ Below w.heap.size w w' := by
  by_cases hm : mayE x = true
  · rw [show bytesOut x = (bytesE x, 0) by unfold bytesOut; rw [if_pos hm]]
    exact bytes_yes x w hx hm
  · have hm' : mayE x = false := by simpa using hm
    rw [show bytesOut x = ([], 1) by unfold bytesOut; rw [if_neg hm]]
    exact (bytes_no x w hx.1 hm').mono fun e w' h => ⟨_, h.1, RB.of_own ⟨by simp [nums], .inl ⟨rfl, rfl⟩⟩, h.2⟩
end Go.Proofs.Ytgpgblidplmchaa.Eb
