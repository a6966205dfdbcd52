/- The walk of the law OctetReads: two rounds over a twin. -/
import Derived.Test.YtcddgokfdnjhaaaRefB
import Derived.Test.YtcddgokfdnjhaaaTw
import Derived.OpenShut
namespace Go.Proofs.Ytcddgokfdnjhaaa.Reads
open Go.RowKit Go.Proofs.YtcddgokfdnjhaaaW.PrintWords Go.Proofs.YtcddgokfdnjhaaaW.PrintLast Go.Proofs.YtcddgokfdnjhaaaW.PrintMore
open Tw
set_option linter.unusedVariables false
set_option linter.unusedSimpArgs false

theorem agree (xs : List Int) (hb : ∀ x ∈ xs, 0 ≤ x ∧ x < 256) (hl : xs.length ≤ 131072) (i n : Int) (h1 : i ≤ 9223372036854775807) :
    ∃ (x e v k g : Int) (s : List Int) (j p : Int), POct.octet_At.f 40 xs i n = some (x, e) ∧ PRef.cofferref1_At.f 40 xs i n = some (x, e) ∧ POct.octet_TakeCount.f 40 xs = some (v, k, g) ∧ PRef.cofferref1_TakeCount.f 40 xs = some (v, k, g) ∧
      POct.octet_TakeText.f 40 xs = some (s, j, p) ∧ PRef.cofferref1_TakeText.f 40 xs = some (s, j, p) := by
  have t1 := OctC.takeCount_ok 40 xs hb (by omega) (by omega)
  have t2 := RefB.ref_takeCount_ok 40 xs hb (by omega) (by omega)
  have t3 := OctD.takeText_ok 40 xs hb (by omega) (by omega)
  have t4 := RefB.ref_takeText_ok 40 xs hb (by omega) (by omega)
  have key : ∃ x e : Int, POct.octet_At.f 40 xs i n = some (x, e) ∧ PRef.cofferref1_At.f 40 xs i n = some (x, e) := by
    by_cases h : n < 1 ∨ 8 < n ∨ i < 0
    · exact ⟨0, 1, OctA.at_arg 40 xs i n h (by omega), RefB.ref_at_arg 40 xs i n h (by omega)⟩
    · by_cases h2 : (xs.length : Int) < i + n
      · exact ⟨0, 3, OctA.at_short 40 xs i n (by omega) (by omega) (by omega) (by omega) h2 (by omega), RefB.ref_at_short 40 xs i n (by omega) (by omega) (by omega) (by omega) h2 (by omega)⟩
      · obtain ⟨i, rfl⟩ := Int.eq_ofNat_of_zero_le (show 0 ≤ i by omega)
        obtain ⟨n, rfl⟩ := Int.eq_ofNat_of_zero_le (show 0 ≤ n by omega)
        exact ⟨_, 0, OctA.at_ok 40 xs i n hb (by omega) (by omega) (by omega) (by omega) (by omega), RefB.ref_at_ok 40 xs i n hb (by omega) (by omega) (by omega) (by omega) (by omega)⟩
  obtain ⟨x, e, k1, k2⟩ := key
  exact ⟨x, e, _, _, _, _, _, _, k1, k2, t1, t2, t3, t4⟩

set_option maxHeartbeats 3200000 in
set_option maxRecDepth 100000 in
theorem walk0 (A : Option Addr) (c : Nat) (xs : List Int) (at_ n : Int) (w : World) (hr : Kd.C (Kd.int .u8) w A xs.length xs) (hc : xs.length ≤ c) (hb : ∀ x ∈ xs, 0 ≤ x ∧ x < 256) (h1 : at_ ≤ 9223372036854775807) :
    Calls Try.prog 9 #[.slice A xs.length c, .int .i64 at_, .int .i64 n] w fun e w' => e = .returned (.bool true) ∧ Below w.heap.size w w' := by
  have HR := Aside0.mk hr
  have HC := Aside0.mk hc
  clear hr hc
  by_cases hl : xs.length ≤ 131072
  · obtain ⟨x, e, v, k, g, s, j, p, f1, f2, f3, f4, f5, f6⟩ := agree xs hb hl at_ n h1
    have F1 := Aside0.mk f1; have F2 := Aside0.mk f2; have F3 := Aside0.mk f3; have F4 := Aside0.mk f4; have F5 := Aside0.mk f5; have F6 := Aside0.mk f6
    clear f1 f2 f3 f4 f5 f6 hb
    have hl' : decide (131072 < (xs.length : Int)) = false := by simp; omega
    go_enter Try.func9, Try.ntmps9
    go_wp2_with fail
    refine (POct.cofferlaw1_begun.calls 40 true _ (OctA.begun_ok 40 (by omega))).mono ?_
    rintro e1 w1 ⟨rfl, hb1⟩
    have HB := Aside0.mk hb1
    clear hb1
    go_wp2_with fail
    refine (twin_calls A c xs w1 (Kd.C_below HR.out HB.out) HC.out (by omega)).mono ?_
    rintro e2 w2 ⟨rfl, ht, hb2⟩
    have HT_gt := Aside0.mk ht
    have HB2 := Aside0.mk (below_step HB.out hb2)
    generalize w1.heap.size = gt at *
    clear HB ht hb2
    have HB := HB2
    clear HB2
    go_wp2_with fail
    go_loopw [8] (fun v wr => ∃ n : Nat, n ≤ 2 ∧ v = .int .i64 n ∧ Aside0 (Tw.Twin wr gt xs) ∧ Aside0 (Below w.heap.size w wr)) (fun v _ => 2 - (intOf v).toNat)
    case atStart => exact ⟨0, by omega, rfl, HT_gt, HB⟩
    case round =>
      clear HT_gt HB
      obtain ⟨m, hm, rfl, HT_gt, HB⟩ := hrel
      by_cases hlt : m < 2
      · skip
        go_wp2_with fail
        refine (POct.octet_At.calls 40 _ _ xs at_ n x e wr (HT_gt.out.C (by omega)) (by omega) F1.out).mono ?_
        rintro e101 w101 ⟨rfl, hd⟩
        have hb := hd.below
        have n0_ := Aside0.mk (below_step HB.out hb)
        have n1_ := Aside0.mk (HT_gt.out.below hb HT_gt.out.lt)
        clear HB HT_gt
        have HB := n0_
        have HT_gt := n1_
        clear n0_ n1_
        clear hb hd
        go_wp2_with fail
        refine (PRef.cofferref1_At.calls 40 _ _ xs at_ n x e w101 (Kd.C_below HR.out HB.out) HC.out F2.out).mono ?_
        rintro e102 w102 ⟨rfl, hd⟩
        have hb := hd.below
        have n0_ := Aside0.mk (below_step HB.out hb)
        have n1_ := Aside0.mk (HT_gt.out.below hb HT_gt.out.lt)
        clear HB HT_gt
        have HB := n0_
        have HT_gt := n1_
        clear n0_ n1_
        clear hb hd
        go_wp2_with fail
        refine (POct.octet_TakeCount.calls 40 _ _ xs v k g w102 (HT_gt.out.C (by omega)) (by omega) F3.out).mono ?_
        rintro e103 w103 ⟨rfl, hd⟩
        have hb := hd.below
        have n0_ := Aside0.mk (below_step HB.out hb)
        have n1_ := Aside0.mk (HT_gt.out.below hb HT_gt.out.lt)
        clear HB HT_gt
        have HB := n0_
        have HT_gt := n1_
        clear n0_ n1_
        clear hb hd
        go_wp2_with fail
        refine (PRef.cofferref1_TakeCount.calls 40 _ _ xs v k g w103 (Kd.C_below HR.out HB.out) HC.out F4.out).mono ?_
        rintro e104 w104 ⟨rfl, hd⟩
        have hb := hd.below
        have n0_ := Aside0.mk (below_step HB.out hb)
        have n1_ := Aside0.mk (HT_gt.out.below hb HT_gt.out.lt)
        clear HB HT_gt
        have HB := n0_
        have HT_gt := n1_
        clear n0_ n1_
        clear hb hd
        go_wp2_with fail
        refine (POct.octet_TakeText.calls 40 _ _ xs s j p w104 (HT_gt.out.C (by omega)) (by omega) F5.out).mono ?_
        rintro e105 w105 ⟨v105, rfl, ho, hb⟩
        have HNe_gt_105 : Aside0 (some gt ≠ v105.ownBlock) := ⟨fun he => by have h1_ := Kd.R_base ho gt he.symm; have h2_ := HT_gt.out.lt; omega⟩
        have HBa105 : Aside0 (∀ k_, v105.ownBlock = some k_ → w.heap.size ≤ k_) := ⟨fun k_ hk => by have h1_ := Kd.R_base ho k_ hk; have h2_ := HB.out.size; omega⟩
        have n0_ := Aside0.mk (below_step HB.out hb)
        have n1_ := Aside0.mk (HT_gt.out.below hb HT_gt.out.lt)
        clear HB HT_gt
        have HB := n0_
        have HT_gt := n1_
        clear n0_ n1_
        have HO105 := Aside0.mk ho
        clear ho hb
        go_wp2_with fail
        refine (PRef.cofferref1_TakeText.calls 40 _ _ xs s j p w105 (Kd.C_below HR.out HB.out) HC.out F6.out).mono ?_
        rintro e106 w106 ⟨v106, rfl, ho, hb⟩
        have n0_ := Aside0.mk (below_step HB.out hb)
        have n1_ := Aside0.mk (HT_gt.out.below hb HT_gt.out.lt)
        have n2_ := Aside0.mk (Kd.R_below HO105.out hb)
        clear HB HT_gt HO105
        have HB := n0_
        have HT_gt := n1_
        have HO105 := n2_
        clear n0_ n1_ n2_
        have HO106 := Aside0.mk ho
        clear ho hb
        have hcv105 := own_string (P := Try.prog) Try.underlying23 Try.underlying5 Try.underlying9 (Kd.own_of_R HO105.out)
        have hcv106 := own_string (P := Try.prog) Try.underlying23 Try.underlying5 Try.underlying9 (Kd.own_of_R HO106.out)
        go_wp2_with fail
        refine (kept_calls A c gt xs w106 (Kd.C_below HR.out HB.out) HC.out (by omega) HT_gt.out).mono ?_
        rintro e107 w107 ⟨rfl, hd⟩
        have hb := hd.below
        have n0_ := Aside0.mk (below_step HB.out hb)
        have n1_ := Aside0.mk (HT_gt.out.below hb HT_gt.out.lt)
        have n2_ := Aside0.mk (Kd.R_below HO105.out hb)
        have n3_ := Aside0.mk (Kd.R_below HO106.out hb)
        clear HB HT_gt HO105 HO106
        have HB := n0_
        have HT_gt := n1_
        have HO105 := n2_
        have HO106 := n3_
        clear n0_ n1_ n2_ n3_
        clear hb hd
        clear hcv105 hcv106
        clear HO106
        go_wp2_with fail
        refine (spoil_calls v105 s w107 _ _ HO105.out).mono ?_
        rintro e108 w108 ⟨rfl, hg⟩
        have n0_ := Aside0.mk (HB.out.grown hg HB.out.size HBa105.out)
        have n1_ := Aside0.mk (HT_gt.out.grown hg HNe_gt_105.out)
        clear HB HT_gt
        have HB := n0_
        have HT_gt := n1_
        clear n0_ n1_
        clear hg HO105
        go_wp2_with fail
        go_roundw
        case rel => exact ⟨m + 1, by omega, by go_num, HT_gt, HB⟩
        case measure => simp [intOf]; omega
      · obtain rfl : m = 2 := by omega
        go_wp2_with fail
        go_ret
        exact ⟨rfl, HB.out⟩
  · have hl' : decide (131072 < (xs.length : Int)) = true := by simp; omega
    go_enter Try.func9, Try.ntmps9
    go_wp2_with fail
    refine (POct.cofferlaw1_begun.calls 40 true _ (OctA.begun_ok 40 (by omega))).mono ?_
    rintro e1 w1 ⟨rfl, hb1⟩
    go_wp2_with fail
    go_ret
    exact ⟨rfl, hb1⟩

theorem walk (a0 : Option Addr) (len0 cap0 : Nat) (z0 : List Int) (a1 : Int) (a2 : Int) (w : World)
    (w0 : (a0 = none ∧ len0 = 0 ∧ cap0 = 0 ∧ z0 = []) ∨ ∃ x, a0 = some x ∧ len0 ≤ cap0 ∧ cap0 ≤ maxLen ∧ z0.length = cap0 ∧ (∀ i, i < z0.length → w.cell? (x.add i) = some (.int .u8 (z0.getD i 0))) ∧ ∀ n ∈ z0, (Lit.int .u8 n).wf = true)
    (y0 : len0 * 1 ≤ 140737488351232) (w1 : (Lit.int .i64 a1).wf = true) (w2 : (Lit.int .i64 a2).wf = true) :
    Calls Try.prog 9 #[.slice a0 len0 cap0, .int .i64 a1, .int .i64 a2] w fun e w' => e = .returned (.bool true) ∧ Below w.heap.size w w' := by
  obtain ⟨l0, rfl, hr0, hm0, hw0, hc0⟩ := ReadsInt.ofRowC w0
  have hb := bounds_i64 w1
  exact walk0 a0 cap0 l0 a1 a2 w (Kd.C_of_reads (d := (0 : Int)) (h1 := fun _ => rfl) hr0) hc0 (fun x hx => by have := bounds_u8 (hw0 x hx); omega) hb.2
end Go.Proofs.Ytcddgokfdnjhaaa.Reads
