/- The walk of the law FolderBack. -/
import Derived.Test.YtmcankeggbofhaaLr
import Derived.Test.YtmcankeggbofhaaGe
import Derived.Test.YtmcankeggbofhaaGa
namespace Go.Proofs.Ytmcankeggbofhaa.Lb
open Go.RowKit Go.Proofs.YtmcankeggbofhaaW.PrintWords Go.Proofs.YtmcankeggbofhaaW.PrintLast Go.Proofs.YtmcankeggbofhaaW.PrintMore
open It Nm Ag My Spc By Im Iw Ip Tk Tl Tg Ie Bg Rv Tw Lr Fp Fq OctC
set_option linter.unusedVariables false
set_option linter.unusedSimpArgs false
set_option maxRecDepth 100000
theorem place_ok (k : Int) (n : Nat) (hn : 0 < n) (h1 : n ≤ 1000000) : ∃ j : Nat, j < n ∧ POct.cofferlaw0_Place.f k n = some (j : Int) := by
  have hb1 : Int.tmod k n < n := Int.tmod_lt_of_pos k (by omega)
  have hb0 : -(n : Int) < Int.tmod k n := by
    have := Int.lt_tmod_of_pos k (b := (n : Int)) (by omega)
    exact this
  unfold POct.cofferlaw0_Place.f
  rw [if_neg (by omega), if_neg (by omega)]
  by_cases h : Int.tmod k n < 0
  · rw [if_pos h]
    refine ⟨(Int.tmod k n + n).toNat, by omega, ?_⟩
    rw [w64_id (by omega) (by omega)]
    congr 1; omega
  · rw [if_neg h]
    refine ⟨(Int.tmod k n).toNat, by omega, ?_⟩
    congr 1; omega
/-- what stands behind a folder spoils it -/
theorem takeOut_more {b : List Int} (hb : ∀ x ∈ b, 0 ≤ x ∧ x < 256) {l : List Itm} (h : takeOut b = some l) {r : List Int} (hr : ∀ x ∈ r, 0 ≤ x ∧ x < 256) (hp : 0 < r.length) : takeOut (b ++ r) = none := by
  obtain ⟨hm, hf, _, ho⟩ := takeOut_some b hb l h
  have h64 := (may_all hm).1
  have hbr : ∀ x ∈ b ++ r, 0 ≤ x ∧ x < 256 := fun x hx => by rcases List.mem_append.1 hx with h | h; exact hb x h; exact hr x h
  have e : b ++ r = [68, 49] ++ (leb l.length ++ (l.flatMap itemB ++ r)) := by rw [← hf]; unfold foldB foldTo; rw [List.take_length]; simp
  have hk := take_leb l.length 0 0 (l.flatMap itemB ++ r) (by simp; omega) (.inl rfl)
  simp only [Nat.pow_zero, Nat.mul_one, Nat.zero_add] at hk
  have hd : (b ++ r).drop 2 = leb l.length ++ (l.flatMap itemB ++ r) := by rw [e]; rfl
  have hpp : Lib.hasPrefix (strOfNums (b ++ r)).data.toList [68, 49] = true := (pre_eq _ hbr).2 (by rw [e]; rfl)
  unfold takeOut
  by_cases hl : 4000 < (b ++ r).length
  · rw [if_pos hl]
  rw [if_neg hl, if_neg (by rw [hpp]; simp), hd]
  simp only [hk]
  rw [if_neg (by rintro (h1 | h1); exact h1 rfl; omega)]
  rw [Int.toNat_natCast, Int.toNat_natCast, List.drop_left, parseN_items l r (may_items hm ho)]
  simp only
  rw [if_pos (.inl hp)]
theorem takeOut_cut {b : List Int} (hb : ∀ x ∈ b, 0 ≤ x ∧ x < 256) {l : List Itm} (h : takeOut b = some l) {k : Nat} (hk : k < b.length) : takeOut (b.take k) = none := by
  cases h1 : takeOut (b.take k) with
  | none => rfl
  | some l' =>
    have h2 := takeOut_more (fun x hx => hb x (List.mem_of_mem_take hx)) h1 (r := b.drop k) (fun x hx => hb x (List.mem_of_mem_drop hx)) (by simp; omega)
    rw [List.take_append_drop, h] at h2
    cases h2
theorem light_false {l : List Itm} (w : World) (A : Option Addr) (c : Nat) (hr : CI w A l) (hc : l.length ≤ c) : Calls Try.prog 10 #[.slice A l.length c] w fun e w' => e = .returned (.bool (Li.lightB l)) ∧ Below w.heap.size w w' :=
  (Li.light_calls A c l w hr hc hr.2.1).mono fun e w' h => ⟨h.1, h.2.below⟩
set_option maxHeartbeats 6400000 in
theorem back_walk (A : Option Addr) (c : Nat) (l : List Itm) (cut more : Int) (w : World) (hr : CI w A l) (hc : l.length ≤ c) (hok : okI l) (hbi : bytI l) (hmo : 0 ≤ more ∧ more < 256) :
    Calls Try.prog 7 #[.slice A l.length c, .int .i64 cut, .int .u8 more] w fun e w' => e = .returned (.bool true) ∧ Below w.heap.size w w' := by
  have HR := Aside0.mk hr; have HC := Aside0.mk hc
  have HLI := Aside0.mk (fun w h => light_false (l := l) w A c h hc)
  have HBY := Aside0.mk (fun w h => bytes_calls A c l w h hc hr.2.1 hok)
  cases hli : Li.lightB l with
  | false =>
    rw [hli] at HLI
    clear hr hc hok hbi hmo hli
    go_enter Try.func7, Try.ntmps7
    go_wp2_with fail
    refine (begun_calls _).mono ?_
    rintro e0 w0 ⟨rfl, hb0⟩
    go_wp2_with fail
    refine (HLI.out _ (Kd.C_below HR.out hb0)).mono ?_
    rintro e1 w1 ⟨rfl, hb1⟩
    have HB1 := Aside0.mk (below_step hb0 hb1)
    go_wp2_with fail
    go_ret
    exact ⟨rfl, HB1.out⟩
  | true =>
    rw [hli] at HLI
    by_cases hbo : (bytesOut l).2 = 0
    · have hm : mayL l = true := by
        unfold bytesOut at hbo
        by_cases hm : mayL l = true
        · exact hm
        · rw [if_neg hm] at hbo; simp at hbo
      have hlen : (foldB l).length ≤ 4000 := by
        unfold bytesOut at hbo
        rw [if_pos hm] at hbo
        by_cases hl : (foldB l).length ≤ 4000
        · exact hl
        · rw [if_neg hl] at hbo; simp at hbo
      have hout : bytesOut l = (foldB l, 0) := by unfold bytesOut; rw [if_pos hm, if_pos hlen]
      rw [hout] at HBY
      have hbb := foldB_byte hm hok hbi
      have htk := takeOut_fold hm hok hbi hlen
      have hpos : 0 < (foldB l).length := by unfold foldB foldTo; simp
      obtain ⟨bb, hb⟩ : ∃ bb, Aside0 (bb = foldB l) := ⟨_, ⟨rfl⟩⟩
      rw [← hb.out] at HBY hbb htk hpos hlen
      obtain ⟨k, hk, hpl⟩ := place_ok cut bb.length hpos (by omega)
      have t1 := takeOut_cut hbb htk hk
      have t2 := takeOut_more hbb htk (r := [more]) (fun x hx => by rw [List.mem_singleton.1 hx]; exact hmo) (by simp)
      have HT0 := Aside0.mk (fun A c w h hc => take_calls A c bb w h hc hbb)
      rw [htk] at HT0
      have HT1 := Aside0.mk (fun A c w h hc => take_calls A c (bb.take k) w h hc (fun x hx => hbb x (List.mem_of_mem_take hx)))
      rw [t1] at HT1
      have HT2 := Aside0.mk (fun A c w h hc => take_calls A c (bb ++ [more]) w h hc (fun x hx => by rcases List.mem_append.1 hx with h | h; exact hbb x h; rw [List.mem_singleton.1 h]; exact hmo))
      rw [t2] at HT2
      have HPL := Aside0.mk hpl; have HK := Aside0.mk hk; have HLN := Aside0.mk hlen
      clear hr hc hok hbi hmo hli hbo hm hlen hout hbb htk hpos hb hpl hk t1 t2
      go_enter Try.func7, Try.ntmps7
      go_wp2_with fail
      refine (begun_calls _).mono ?_
      rintro e0 w0 ⟨rfl, hb0⟩
      have HB0 := Aside0.mk hb0
      clear hb0
      go_wp2_with fail
      refine (HLI.out _ (Kd.C_below HR.out HB0.out)).mono ?_
      rintro e1 w1 ⟨rfl, hb1⟩
      have HB1 := Aside0.mk (below_step HB0.out hb1)
      clear hb1 HB0
      go_wp2_with fail
      refine (HBY.out _ (Kd.C_below HR.out HB1.out)).mono ?_
      rintro e2 w2 ⟨v2, rfl, ho2, hb2⟩
      obtain ⟨A2, c2, rfl, hc2, hC2⟩ := Kd.R_reads ho2
      have HB2 := Aside0.mk (below_step HB1.out hb2)
      have HC2 := Aside0.mk hC2; have Hc2 := Aside0.mk hc2
      clear hb2 HB1 ho2 hC2 hc2
      go_wp2_with fail
      refine (HT0.out A2 c2 w2 HC2.out Hc2.out).mono ?_
      rintro e3 w3 ⟨v3, rfl, ho3, hb3⟩
      have HO3 := Aside0.mk (show RI w3 w2.heap.size v3 l from ho3)
      have HB3 := Aside0.mk (below_step HB2.out hb3)
      have HC3 := Aside0.mk (Kd.C_below HC2.out hb3)
      clear hb3 HB2 ho3 HC2
      go_wp2_with fail
      refine (POct.cofferlaw0_Place.calls cut bb.length k w3 HPL.out).mono ?_
      rintro e4 w4 ⟨rfl, hd4⟩
      have hb4 := hd4.below
      have HB4 := Aside0.mk (below_step HB3.out hb4)
      have HC4 := Aside0.mk (Kd.C_below HC3.out hb4)
      have HO4 := Aside0.mk (Kd.R_below HO3.out hb4)
      clear hb4 hd4 HB3 HC3 HO3
      obtain ⟨ys, hys, hyl, hyc, hcut, hyC⟩ := cut_take (P := Try.prog) 33 Try.underlying33 POct.info5 A2 c2 bb (k : Int) (by omega) (by have := HK.out; omega) Hc2.out
      have hys2 : ys = bb.take k := by rw [hys]; rfl
      have HCy := Aside0.mk (hyC w4 HC4.out); have Hyc := Aside0.mk hyc
      rw [← hys2] at HT1
      clear hys hyC hys2 hyc hyl
      go_wp2_with fail
      refine (HT1.out A2 c2 w4 HCy.out Hyc.out).mono ?_
      rintro e5 w5 ⟨v5, rfl, _, hb5⟩
      have HB5 := Aside0.mk (below_step HB4.out hb5)
      have HC5 := Aside0.mk (Kd.C_below HC4.out hb5)
      have HO5 := Aside0.mk (Kd.R_below HO4.out hb5)
      clear hb5 HB4 HC4 HCy hcut HO4
      have hL6 := Aside0.mk (lit_row w5 w5.heap.size [] (Nat.le_refl _) (by simp))
      have hB6 := Aside0.mk ((Below.refl w5.heap.size w5).alloc (Nat.le_refl _) (.cells (nums .u8 []).toArray 5))
      have HC6b := Aside0.mk (Kd.C_below HC5.out hB6.out)
      go_wp2_with (first | (at_builtin; refine app_row (w0 := w5) w5.heap.size rfl (.tmp 46) (.tmp 47) 33 rfl Try.underlying33 POct.info5 _ [] bb A2 c2 rfl rfl hL6.out HC6b.out hB6.out hB6.out.size (by have := HLN.out; simp; omega) ?_; intro z1 B1 d1 w7 hz1 hd1 ho1 HB7; clear hL6 hB6 HC6b; have hl7 := Aside0.mk (lit_reads w7 [more] (by simp)); have hB7 := Aside0.mk (HB7.out.alloc HB7.out.size (.cells (nums .u8 [more]).toArray 5)); have ho7 := Aside0.mk (Kd.R_alloc ho1.out (.cells (nums .u8 [more]).toArray 5))) | (at_builtin; refine app_row (w0 := w5) w5.heap.size rfl (.tmp 48) (.tmp 50) 33 rfl Try.underlying33 POct.info5 _ z1 [more] _ 1 rfl rfl ho7.out hl7.out hB7.out hB7.out.size (by rw [hz1.out]; have := HLN.out; simp; omega) ?_; intro z2 B2 d2 w8 hz2 hd2 ho2 HB8; clear hl7 hB7 ho7 ho1 HB7))
      have hz : Aside0 (z2 = bb ++ [more]) := ⟨by rw [hz2.out, hz1.out]; rfl⟩
      rw [← hz.out] at HT2
      obtain ⟨B3, d3, heq, hd3, hC3⟩ := Kd.R_reads ho2.out
      have HC8 := Aside0.mk (show CB w8 B2 z2 by cases heq; exact hC3)
      have HB9 := Aside0.mk (below_step HB5.out HB8.out)
      have HO8 := Aside0.mk (Kd.R_below HO5.out HB8.out)
      clear hz1 hz2 hd1 ho2 heq hd3 hC3 HC5 HB5 HB8 HO5 hz
      refine (HT2.out B2 d2 w8 HC8.out hd2.out).mono ?_
      rintro e9 w9 ⟨v9, rfl, _, hb9⟩
      have HB10 := Aside0.mk (below_step HB9.out hb9)
      obtain ⟨A9, c9, rfl, hc9, hC9⟩ := Kd.R_reads (Kd.R_below HO8.out hb9)
      have HA := Aside0.mk (alike_same A A9 c c9 l w9 (Kd.C_below HR.out HB10.out) hC9 HC.out hc9)
      clear hb9 HB9 HC8 HO8 hC9
      go_wp2_with fail
      refine HA.out.mono ?_
      rintro e11 w11 ⟨rfl, hb11⟩
      have HB11 := Aside0.mk (below_step HB10.out hb11)
      go_wp2_with fail
      go_ret
      exact ⟨rfl, HB11.out⟩
    · have hz : (bytesOut l).1 = [] := by
        unfold bytesOut at hbo ⊢
        by_cases hm : mayL l = true
        · rw [if_pos hm] at hbo ⊢
          by_cases hl : (foldB l).length ≤ 4000
          · rw [if_pos hl] at hbo; simp at hbo
          · rw [if_neg hl]
        · rw [if_neg hm]
      rw [hz] at HBY
      obtain ⟨ne, hne⟩ : ∃ ne, Aside0 (ne = (bytesOut l).2) := ⟨_, ⟨rfl⟩⟩
      rw [← hne.out] at HBY hbo
      have hnz : (ne != 0) = true := by simpa using hbo
      clear hr hc hok hbi hmo hli hbo hz hne
      go_enter Try.func7, Try.ntmps7
      go_wp2_with fail
      refine (begun_calls _).mono ?_
      rintro e0 w0 ⟨rfl, hb0⟩
      have HB0 := Aside0.mk hb0
      clear hb0
      go_wp2_with fail
      refine (HLI.out _ (Kd.C_below HR.out HB0.out)).mono ?_
      rintro e1 w1 ⟨rfl, hb1⟩
      have HB1 := Aside0.mk (below_step HB0.out hb1)
      clear hb1 HB0
      go_wp2_with fail
      refine (HBY.out _ (Kd.C_below HR.out HB1.out)).mono ?_
      rintro e2 w2 ⟨v2, rfl, ho2, hb2⟩
      obtain ⟨A2, c2, rfl, hc2, hC2⟩ := Kd.R_reads ho2
      have HB2 := Aside0.mk (below_step HB1.out hb2)
      clear hb2 HB1 ho2 hC2
      simp only [List.length_nil]
      go_wp2_with fail
      go_ret
      exact ⟨rfl, HB2.out⟩
theorem back_walk2 (A : Option Addr) (c : Nat) (l : List Itm) (cut more : Int) (w : World) (hr : CI w A l) (hc : l.length ≤ c) (hok : okI l) (hbi : bytI l) (_ : (Lit.int .i64 cut).wf = true) (w2 : (Lit.int .u8 more).wf = true) :
    Calls Try.prog 7 #[.slice A l.length c, .int .i64 cut, .int .u8 more] w fun e w' => e = .returned (.bool true) ∧ Below w.heap.size w w' :=
  back_walk A c l cut more w hr hc hok hbi (by have := bounds_u8 w2; omega)
end Go.Proofs.Ytmcankeggbofhaa.Lb
