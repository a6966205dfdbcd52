/- The walk of the law SnapBack. -/
import Derived.Test.YtdalckmbmcenbaaSwr
namespace Go.Proofs.Ytdalckmbmcenbaa.Sbk
open Go.RowKit Go.Proofs.YtdalckmbmcenbaaW.PrintWords Go.Proofs.YtdalckmbmcenbaaW.PrintLast Go.Proofs.YtdalckmbmcenbaaW.PrintMore
open Sn Ag Spc Sb St Sr Sp Se Sw Tw Swr
set_option linter.unusedVariables false
set_option linter.unusedSimpArgs false
set_option maxRecDepth 100000

theorem take_not (b : List Int) (hby : ∀ x ∈ b, 0 ≤ x ∧ x < 256) (hmx : b.length ≤ 100000) (h : ¬ isB b) :
    ∃ m : Array Value, m.size = 34 ∧ m.all (·.oneCell') = true ∧ ∀ (A : Option Addr) (c : Nat) (w : World), CB w A b → b.length ≤ c → Calls Try.prog 13 #[.slice A b.length c] w fun e' w' => e' = .returned (.tuple #[.agg m, .int .i64 4]) ∧ Below w.heap.size w w' := by
  obtain ⟨r, t, s, e, hr, _, hn, hp, _⟩ := both b hby hmx
  rw [hn h] at hp
  exact ⟨man r t s, man_size r t s hr, man_all r t s, hp⟩
theorem cut_not (r : List Int) (t : Int) (s : ByteArray) (hr : r.length = 32) (hm : mayB t s = true) (k : Nat) (hk : k < (manB r t s).length) : ¬ isB ((manB r t s).take k) := by
  intro h
  have h1 := isB_at h
  have h2 := manB_at r t s hr hm
  have h3 := manB_len r t s hr hm
  have h4 := h.1
  rw [List.length_take] at h1 h4
  rw [List.getElem?_take, if_pos (by omega), h2] at h1
  simp at h1
  omega
theorem more_not (r : List Int) (t : Int) (s : ByteArray) (hr : r.length = 32) (hm : mayB t s = true) (x : Int) : ¬ isB (manB r t s ++ [x]) := by
  intro h
  have h1 := isB_at h
  have h2 := manB_at r t s hr hm
  have h3 := manB_len r t s hr hm
  rw [List.getElem?_append_left (by omega), h2] at h1
  simp at h1
  omega
theorem place_ok (k : Int) (n : Nat) (hn : 0 < n) (h1 : n ≤ 1000000) : ∃ j : Nat, j < n ∧ POct.cofferlaw0_Place.f k n = some (j : Int) := by
  have hb1 : Int.tmod k n < n := Int.tmod_lt_of_pos k (by omega)
  have hb0 : -(n : Int) < Int.tmod k n := by
    have := Int.lt_tmod_of_pos k (b := (n : Int)) (by omega)
    exact this
  unfold POct.cofferlaw0_Place.f
  rw [if_neg (by omega), if_neg (by omega)]
  by_cases h : Int.tmod k n < 0
  · rw [if_pos h]
    refine ⟨(Int.tmod k n + n).toNat, by omega, ?_⟩
    rw [w64_id (by omega) (by omega)]
    congr 1; omega
  · rw [if_neg h]
    refine ⟨(Int.tmod k n).toNat, by omega, ?_⟩
    congr 1; omega

theorem below_new {W W' : World} {o : Obj} (h : (W.alloc o).grownBy W' (some W.heap.size)) : Below W.heap.size W W' :=
  ((Below.refl W.heap.size W).alloc (Nat.le_refl _) o).grown h (by simp) (fun k hk => by cases hk; exact Nat.le_refl _)

set_option maxHeartbeats 3200000 in
theorem back_walk0 (l : List Int) (t : Int) (s : ByteArray) (cut more : Int) (w : World) (hl : l.length = 32) (hlb : ∀ x ∈ l, 0 ≤ x ∧ x < 256) (ht : t ≤ 9223372036854775807) (hs : s.size ≤ 9223372036854775807) (hmo : 0 ≤ more ∧ more < 256) :
    Calls Try.prog 5 #[.agg (man l t s), .int .i64 cut, .int .u8 more] w fun e w' => e = .returned (.bool true) ∧ Below w.heap.size w w' := by
  have hg0 := Aside0.mk (heap_alloc_new w (.cells (man l t s) 25))
  have HB0 := Aside0.mk ((Below.refl w.heap.size w).alloc (Nat.le_refl _) (.cells (man l t s) 25))
  have H34 := Aside0.mk (man_size l t s hl)
  have KL : ∀ W : World, Aside0 (W.heap[w.heap.size]? = some (.cells (man l t s) 25 (0, 0))) → W.cell? ⟨w.heap.size, 33, none⟩ = some (.string s) := fun W h => by rw [blk_cell h.out, man_label l t s hl]
  by_cases hsl : s.size ≤ 1024
  · have hl' : decide (1024 < (s.size : Int)) = false := by simp; omega
    cases hm : mayB t s with
    | false =>
      have H7 := Aside0.mk (fun w => bytes_no l t s w hl hs hm)
      have HM1 := Aside0.mk (fun w => may_calls l t s w hl hs)
      rw [hm] at HM1
      clear hl hlb ht hs hsl hm hmo
      go_enter Try.func5, Try.ntmps5
      go_wp2_with fail
      refine (begun_calls _).mono ?_
      rintro e0 w0 ⟨rfl, hb0⟩
      have HB := Aside0.mk (below_step HB0.out hb0)
      have hg := Aside0.mk ((hb0.block _ (blk_lt hg0.out)).trans hg0.out)
      have k33 := KL w0 hg
      clear hb0 HB0 hg0
      go_wp2_with (first | (with_reducible refine op_load rfl 25 (.tmp 3) rfl w.heap.size rfl 25 (man l t s) _ hg.out Try.underlying25 rfl 34 info25 H34.out ?_))
      clear k33 KL
      refine (H7.out _).mono ?_
      rintro e1 w1 ⟨rfl, hb1⟩
      have HB1 := Aside0.mk (below_step HB.out hb1)
      have hg1 := Aside0.mk ((hb1.block _ (blk_lt hg.out)).trans hg.out)
      clear hb1 HB hg
      go_wp2_with (first | (refine op_load_on rfl 25 (.tmp 3) rfl w.heap.size rfl 25 (man l t s) _ hg1.out Try.underlying25 rfl 34 info25 H34.out ?_))
      refine (HM1.out _).mono ?_
      rintro e2 w2 ⟨rfl, hb2⟩
      have HB2 := Aside0.mk (below_step HB1.out hb2)
      go_wp2_with fail
      go_ret
      exact ⟨rfl, HB2.out⟩
    | true =>
      have hln := manB_len l t s hl hm
      have h64 := (may_parts hm).2.1
      have hbb := manB_bytes l hlb t s
      obtain ⟨bb, hb⟩ : ∃ bb, Aside0 (bb = manB l t s) := ⟨_, ⟨rfl⟩⟩
      have H7 := Aside0.mk (fun w => bytes_yes l t s w hl ht hm)
      have HT := Aside0.mk (fun A c w => take_man l t s hl ht hm hlb A c w)
      obtain ⟨k, hk, hpl⟩ := place_ok cut (manB l t s).length (by omega) (by omega)
      obtain ⟨m1, hm1, ha1, hT1⟩ := take_not ((manB l t s).take k) (fun x hx => hbb x (List.mem_of_mem_take hx)) (by rw [List.length_take]; omega) (cut_not l t s hl hm k hk)
      obtain ⟨m2, hm2, ha2, hT2⟩ := take_not (manB l t s ++ [more]) (fun x hx => by rcases List.mem_append.1 hx with h | h; exact hbb x h; rw [List.mem_singleton.1 h]; exact hmo) (by rw [List.length_append]; simp; omega) (more_not l t s hl hm more)
      have HA := Aside0.mk (man_all l t s)
      rw [← hb.out] at H7 HT hk hpl hT1 hT2 hln
      have HT1 := Aside0.mk hT1; have HT2 := Aside0.mk hT2; have Hm1 := Aside0.mk hm1; have Hm2 := Aside0.mk hm2; have Ha1 := Aside0.mk ha1; have Ha2 := Aside0.mk ha2; have HPL := Aside0.mk hpl; have HK := Aside0.mk hk
      have HLN := Aside0.mk (show bb.length ≤ 200 by omega)
      have hself := Aside0.mk (man_self l t s hl)
      clear hl hlb ht hs hsl hm hmo hln h64 hbb hT1 hT2 hm1 hm2 ha1 ha2 hpl hk
      go_enter Try.func5, Try.ntmps5
      go_wp2_with fail
      refine (begun_calls _).mono ?_
      rintro e0 w0 ⟨rfl, hb0⟩
      have HB := Aside0.mk (below_step HB0.out hb0)
      have hg := Aside0.mk ((hb0.block _ (blk_lt hg0.out)).trans hg0.out)
      have k33 := KL w0 hg
      clear hb0 HB0 hg0
      go_wp2_with (first | (with_reducible refine op_load rfl 25 (.tmp 3) rfl w.heap.size rfl 25 (man l t s) _ hg.out Try.underlying25 rfl 34 info25 H34.out ?_))
      clear k33 KL
      refine (H7.out _).mono ?_
      rintro e1 w1 ⟨v1, rfl, ho1, hb1⟩
      obtain ⟨A1, c1, rfl, hc1, hC1⟩ := Kd.R_reads ho1
      have HB1 := Aside0.mk (below_step HB.out hb1)
      have hg1 := Aside0.mk ((hb1.block _ (blk_lt hg.out)).trans hg.out)
      have HC1 := Aside0.mk hC1; have Hc1 := Aside0.mk hc1
      clear hb1 HB hg ho1 hC1 hc1
      go_wp2_with fail
      refine (HT.out A1 c1 w1 HC1.out Hc1.out).mono ?_
      rintro e2 w2 ⟨rfl, hb2⟩
      have HB2 := Aside0.mk (below_step HB1.out hb2)
      have hg2 := Aside0.mk ((hb2.block _ (blk_lt hg1.out)).trans hg1.out)
      have HC2 := Aside0.mk (Kd.C_below HC1.out hb2)
      clear hb2 HB1 hg1 HC1
      have HBa := Aside0.mk (HB2.out.alloc HB2.out.size (.cells man0 25))
      have hga := Aside0.mk (heap_alloc_new w2 (.cells man0 25))
      go_wp2_with (first | (with_reducible refine op_alloc rfl 25 rfl man0 zero25 ?_) | (with_reducible refine op_store (w0 := w) w.heap.size rfl 25 (.tmp 9) (.tmp 39) rfl w2.heap.size (man l t s) rfl rfl 25 man0 hga.out 34 info25 H34.out man0_size HA.out HBa.out HB2.out.size ?_; intro w3 hg9 hw3 HB3))
      have hb3 := below_new hw3.out
      have hg3 := Aside0.mk ((hb3.block _ (blk_lt hg2.out)).trans hg2.out)
      have hC3 := Aside0.mk (Kd.C_below HC2.out hb3)
      clear hga HBa HC2 hg2 hw3 hb3
      obtain ⟨g9, hg9e⟩ : ∃ g9, Aside0 (g9 = w2.heap.size) := ⟨_, ⟨rfl⟩⟩
      rw [← hg9e.out] at hg9 ⊢
      clear hg9e HB2
      refine (POct.cofferlaw0_Place.calls cut bb.length k w3 HPL.out).mono ?_
      rintro e4 w4 ⟨rfl, hd4⟩
      have hb4 := hd4.below
      have HB4 := Aside0.mk (below_step HB3.out hb4)
      have hg4 := Aside0.mk ((hb4.block _ (blk_lt hg3.out)).trans hg3.out)
      have hg94 := Aside0.mk ((hb4.block _ (blk_lt hg9.out)).trans hg9.out)
      have HC4 := Aside0.mk (Kd.C_below hC3.out hb4)
      clear hb4 hd4 HB3 hg3 hg9 hC3
      obtain ⟨ys, hys, hyl, hyc, hcut, hyC⟩ := cut_take (P := Try.prog) 27 Try.underlying27 POct.info5 A1 c1 bb (k : Int) (by omega) (by have := HK.out; omega) Hc1.out
      have hys2 : ys = bb.take k := by rw [hys]; rfl
      have HCy := Aside0.mk (hyC w4 HC4.out); have Hyc := Aside0.mk hyc
      rw [← hys2] at HT1
      clear hys hyC hys2 hyc hyl
      go_wp2_with fail
      refine (HT1.out A1 c1 w4 HCy.out Hyc.out).mono ?_
      rintro e5 w5 ⟨rfl, hb5⟩
      have HB5 := Aside0.mk (below_step HB4.out hb5)
      have hg5 := Aside0.mk ((hb5.block _ (blk_lt hg4.out)).trans hg4.out)
      have hg95 := Aside0.mk ((hb5.block _ (blk_lt hg94.out)).trans hg94.out)
      have HC5 := Aside0.mk (Kd.C_below HC4.out hb5)
      clear hb5 HB4 hg4 hg94 HC4 HCy hcut
      have HBa := Aside0.mk (HB5.out.alloc HB5.out.size (.cells man0 25))
      have hga := Aside0.mk (heap_alloc_new w5 (.cells man0 25))
      go_wp2_with (first | (with_reducible refine op_alloc rfl 25 rfl man0 zero25 ?_) | (with_reducible refine op_store (w0 := w) w.heap.size rfl 25 (.tmp 11) (.tmp 49) rfl w5.heap.size m1 rfl rfl 25 man0 hga.out 34 info25 Hm1.out man0_size Ha1.out HBa.out HB5.out.size ?_; intro w6 hg6 hw6 HB6; have hb6 := below_new hw6.out; have hgm6 := Aside0.mk ((hb6.block _ (blk_lt hg5.out)).trans hg5.out); have hg96 := Aside0.mk ((hb6.block _ (blk_lt hg95.out)).trans hg95.out); have HC6 := Aside0.mk (Kd.C_below HC5.out hb6); clear hga hb6 HBa hw6 hg5 hg95 HC5 hg6; have hL6 := Aside0.mk (lit_row w6 w6.heap.size [] (Nat.le_refl _) (by simp)); have hB6 := Aside0.mk ((Below.refl w6.heap.size w6).alloc (Nat.le_refl _) (.cells (nums .u8 []).toArray 5)); have HC6b := Aside0.mk (Kd.C_below HC6.out hB6.out)) | (at_builtin; refine app_row (w0 := w6) w6.heap.size rfl (.tmp 52) (.tmp 53) 27 rfl Try.underlying27 POct.info5 _ [] bb A1 c1 rfl rfl hL6.out HC6b.out hB6.out hB6.out.size (by have := HLN.out; simp; omega) ?_; intro z1 B1 d1 w7 hz1 hd1 ho1 HB7; clear hL6 hB6 HC6b; have hl7 := Aside0.mk (lit_reads w7 [more] (by simp)); have hB7 := Aside0.mk (HB7.out.alloc HB7.out.size (.cells (nums .u8 [more]).toArray 5)); have ho7 := Aside0.mk (Kd.R_alloc ho1.out (.cells (nums .u8 [more]).toArray 5))) | (at_builtin; refine app_row (w0 := w6) w6.heap.size rfl (.tmp 54) (.tmp 56) 27 rfl Try.underlying27 POct.info5 _ z1 [more] _ 1 rfl rfl ho7.out hl7.out hB7.out hB7.out.size (by rw [hz1.out]; have := HLN.out; simp; omega) ?_; intro z2 B2 d2 w8 hz2 hd2 ho2 HB8; clear hl7 hB7 ho7 ho1 HB7))
      have hz : Aside0 (z2 = bb ++ [more]) := ⟨by rw [hz2.out, hz1.out]; rfl⟩
      rw [← hz.out] at HT2
      obtain ⟨B3, d3, heq, hd3, hC3⟩ := Kd.R_reads ho2.out
      have HC8 := Aside0.mk (show CB w8 B2 z2 by cases heq; exact hC3)
      have HB9 := Aside0.mk (below_step HB6.out HB8.out)
      have hgm8 := Aside0.mk ((HB8.out.block _ (blk_lt hgm6.out)).trans hgm6.out)
      have hg98 := Aside0.mk ((HB8.out.block _ (blk_lt hg96.out)).trans hg96.out)
      clear hz1 hz2 hd1 ho2 heq hd3 hC3 HC6 HB6 HB8 hgm6 hg96 hz
      refine (HT2.out B2 d2 w8 HC8.out hd2.out).mono ?_
      rintro e9 w9 ⟨rfl, hb9⟩
      have HB10 := Aside0.mk (below_step HB9.out hb9)
      have hgm9 := Aside0.mk ((hb9.block _ (blk_lt hgm8.out)).trans hgm8.out)
      have hg99 := Aside0.mk ((hb9.block _ (blk_lt hg98.out)).trans hg98.out)
      clear hb9 HB9 hgm8 hg98 HC8
      have HBa := Aside0.mk (HB10.out.alloc HB10.out.size (.cells man0 25))
      have hga := Aside0.mk (heap_alloc_new w9 (.cells man0 25))
      go_wp2_with (first | (with_reducible refine op_alloc rfl 25 rfl man0 zero25 ?_) | (with_reducible refine op_store (w0 := w) w.heap.size rfl 25 (.tmp 13) (.tmp 59) rfl w9.heap.size m2 rfl rfl 25 man0 hga.out 34 info25 Hm2.out man0_size Ha2.out HBa.out HB10.out.size ?_; intro w10 hg10 hw10 HB11; have hb10 := below_new hw10.out; have hgm10 := Aside0.mk ((hb10.block _ (blk_lt hgm9.out)).trans hgm9.out); have hg910 := Aside0.mk ((hb10.block _ (blk_lt hg99.out)).trans hg99.out); clear hga hb10 HBa hw10 hg99 hgm9 hg10; have hsf := hself.out) | (refine op_load_on rfl 25 (.tmp 9) rfl g9 rfl 25 (man l t s) _ hg910.out Try.underlying25 rfl 34 info25 H34.out ?_) | (refine op_load_on rfl 25 (.tmp 3) rfl w.heap.size rfl 25 (man l t s) _ hgm10.out Try.underlying25 rfl 34 info25 H34.out ?_))
      go_ret
      exact ⟨rfl, HB11.out⟩
  · have hl' : decide (1024 < (s.size : Int)) = true := by simp; omega
    go_enter Try.func5, Try.ntmps5
    go_wp2_with fail
    refine (begun_calls _).mono ?_
    rintro e0 w0 ⟨rfl, hb0⟩
    have HB := Aside0.mk (below_step HB0.out hb0)
    have hg := Aside0.mk ((hb0.block _ (blk_lt hg0.out)).trans hg0.out)
    have k33 := KL w0 hg
    clear hb0 HB0 hg0
    go_wp2_with fail
    go_ret
    exact ⟨rfl, HB.out⟩

theorem back_walk (l : List Int) (t : Int) (s : ByteArray) (cut more : Int) (w : World) (wa : l.length = 32) (wb : ∀ x ∈ l, (Lit.int .u8 x).wf = true) (wc : (Lit.int .i64 t).wf = true) (wd : s.size ≤ maxLen) (w1 : (Lit.int .i64 cut).wf = true) (w2 : (Lit.int .u8 more).wf = true) :
    Calls Try.prog 5 #[.agg (man l t s), .int .i64 cut, .int .u8 more] w fun e w' => e = .returned (.bool true) ∧ Below w.heap.size w w' :=
  back_walk0 l t s cut more w wa (fun x hx => by have := bounds_u8 (wb x hx); omega) (bounds_i64 wc).2 (by simpa [maxLen] using wd) (by have := bounds_u8 w2; omega)
end Go.Proofs.Ytdalckmbmcenbaa.Sbk
