/- The walk of the law OctetBits: two rounds over a twin. -/
import Derived.Test.YtcddgokfdnjhaaaRefC
import Derived.Test.YtcddgokfdnjhaaaTw
import Derived.OpenShut
namespace Go.Proofs.Ytcddgokfdnjhaaa.Bits
open Go.RowKit Go.Proofs.YtcddgokfdnjhaaaW.PrintWords Go.Proofs.YtcddgokfdnjhaaaW.PrintLast Go.Proofs.YtcddgokfdnjhaaaW.PrintMore
open Tw
set_option linter.unusedVariables false
set_option linter.unusedSimpArgs false

theorem agree (xs : List Int) (hb : ∀ x ∈ xs, 0 ≤ x ∧ x < 256) (hl : xs.length ≤ 65536) (i : Int) (h0 : -9223372036854775808 ≤ i) (h1 : i ≤ 9223372036854775807) (on : Bool) :
    ∃ (p : Bool) (e : Int) (m : List Int) (g : Int), POct.octet_Bit.f xs i = some (p, e) ∧ PRef.cofferref1_Bit.f 40 xs i = some (p, e) ∧ POct.octet_SetBit.f 40 xs i on = some (m, g) ∧ PRef.cofferref1_SetBit.f 40 xs i on = some (m, g) := by
  by_cases h : i < 0 ∨ (xs.length : Int) ≤ i / 8
  · exact ⟨false, 1, [], 1, RefC.bit_arg xs i h, RefC.ref_bit_arg 40 xs i h h1 (by omega), RefC.set_arg 40 xs i on h (by omega), RefC.ref_set_arg 40 xs i on h h1 (by omega)⟩
  · obtain ⟨i, rfl⟩ := Int.eq_ofNat_of_zero_le (show 0 ≤ i by omega)
    exact ⟨_, 0, _, 0, OctB.bit_ok xs hb i (by omega) (by omega), RefC.ref_bit_ok 40 xs hb i (by omega) (by omega) (by omega) (by omega),
      OctB.set_ok 40 xs hb i on (by omega) (by omega) (by omega) (by omega), RefC.ref_set_ok 40 xs hb i on (by omega) (by omega) (by omega) (by omega)⟩

set_option maxHeartbeats 1600000 in
theorem walk0 (A : Option Addr) (c : Nat) (xs : List Int) (i : Int) (on : Bool) (w : World) (hr : Kd.C (Kd.int .u8) w A xs.length xs) (hc : xs.length ≤ c) (hb : ∀ x ∈ xs, 0 ≤ x ∧ x < 256) (h0 : -9223372036854775808 ≤ i) (h1 : i ≤ 9223372036854775807) :
    Calls Try.prog 7 #[.slice A xs.length c, .int .i64 i, .bool on] w fun e w' => e = .returned (.bool true) ∧ Below w.heap.size w w' := by
  have HR := Aside0.mk hr
  have HC := Aside0.mk hc
  clear hr hc
  by_cases hl : xs.length ≤ 65536
  · obtain ⟨p, e, m, g, f1, f2, f3, f4⟩ := agree xs hb hl i h0 h1 on
    have F1 := Aside0.mk f1; have F2 := Aside0.mk f2; have F3 := Aside0.mk f3; have F4 := Aside0.mk f4
    clear f1 f2 f3 f4 hb
    have hl' : decide (65536 < (xs.length : Int)) = false := by simp; omega
    go_enter Try.func7, Try.ntmps7
    go_wp2_with fail
    refine (POct.cofferlaw1_begun.calls 40 true _ (OctA.begun_ok 40 (by omega))).mono ?_
    rintro e1 w1 ⟨rfl, hb1⟩
    have HB := Aside0.mk hb1
    clear hb1
    go_wp2_with fail
    refine (twin_calls A c xs w1 (Kd.C_below HR.out HB.out) HC.out (by omega)).mono ?_
    rintro e2 w2 ⟨rfl, ht, hb2⟩
    have HT := Aside0.mk ht
    have HB2 := Aside0.mk (below_step HB.out hb2)
    have hg : w1.heap.size < w2.heap.size := ht.lt
    generalize w1.heap.size = gt at *
    clear HB ht hb2
    have HB := HB2
    clear HB2
    go_wp2_with fail
    go_loopw [8] (fun v wr => ∃ n : Nat, n ≤ 2 ∧ v = .int .i64 n ∧ Aside0 (Tw.Twin wr gt xs) ∧ Aside0 (Below w.heap.size w wr)) (fun v _ => 2 - (intOf v).toNat)
    case atStart => exact ⟨0, by omega, rfl, HT, HB⟩
    case round =>
      clear HT HB hg
      obtain ⟨n, hn, rfl, HT, HB⟩ := hrel
      by_cases hlt : n < 2
      · go_wp2_with fail
        refine (POct.octet_Bit.calls _ _ xs i p e wr (HT.out.C (by omega)) (by omega) F1.out).mono ?_
        rintro e3 w3 ⟨rfl, hd3⟩
        have hb3 := hd3.below
        have n0_ := Aside0.mk (HT.out.below hb3 HT.out.lt)
        have n1_ := Aside0.mk (below_step HB.out hb3)
        clear HT HB hb3 hd3
        have HT := n0_; have HB := n1_
        clear n0_ n1_
        go_wp2_with fail
        refine (PRef.cofferref1_Bit.calls 40 _ _ xs i p e w3 (Kd.C_below HR.out HB.out) HC.out F2.out).mono ?_
        rintro e4 w4 ⟨rfl, hd4⟩
        have hb4 := hd4.below
        have n0_ := Aside0.mk (HT.out.below hb4 HT.out.lt)
        have n1_ := Aside0.mk (below_step HB.out hb4)
        clear HT HB hb4 hd4
        have HT := n0_; have HB := n1_
        clear n0_ n1_
        go_wp2_with fail
        refine (POct.octet_SetBit.calls 40 _ _ xs i on m g w4 (HT.out.C (by omega)) (by omega) F3.out).mono ?_
        rintro e5 w5 ⟨v5, rfl, ho5, hb5⟩
        have n0_ := Aside0.mk (HT.out.below hb5 HT.out.lt)
        have n1_ := Aside0.mk (below_step HB.out hb5)
        have hgt : gt < w4.heap.size := HT.out.lt
        have HO5 := Aside0.mk ho5
        have hne5 : Aside0 (some gt ≠ v5.ownBlock) := ⟨fun he => by have := Kd.R_base ho5 gt he.symm; omega⟩
        have hB5 : Aside0 (∀ k, v5.ownBlock = some k → w.heap.size ≤ k) := ⟨fun k hk => by have h1_ := Kd.R_base ho5 k hk; have h2_ := HB.out.size; omega⟩
        clear HT HB hb5 ho5 hgt
        have HT := n0_; have HB := n1_
        clear n0_ n1_
        go_wp2_with fail
        refine (PRef.cofferref1_SetBit.calls 40 _ _ xs i on m g w5 (Kd.C_below HR.out HB.out) HC.out F4.out).mono ?_
        rintro e6 w6 ⟨v6, rfl, ho6, hb6⟩
        have n0_ := Aside0.mk (HT.out.below hb6 HT.out.lt)
        have n1_ := Aside0.mk (below_step HB.out hb6)
        have n2_ := Aside0.mk (Kd.R_below HO5.out hb6)
        have HO6 := Aside0.mk ho6
        clear HT HB HO5 hb6 ho6
        have HT := n0_; have HB := n1_; have HO5 := n2_
        clear n0_ n1_ n2_
        have hcv1 := own_string (P := Try.prog) Try.underlying23 Try.underlying5 Try.underlying9 (Kd.own_of_R HO5.out)
        have hcv2 := own_string (P := Try.prog) Try.underlying23 Try.underlying5 Try.underlying9 (Kd.own_of_R HO6.out)
        go_wp2_with fail
        refine (kept_calls A c gt xs w6 (Kd.C_below HR.out HB.out) HC.out (by omega) HT.out).mono ?_
        rintro e7 w7 ⟨rfl, hd7⟩
        have hb7 := hd7.below
        have n0_ := Aside0.mk (HT.out.below hb7 HT.out.lt)
        have n1_ := Aside0.mk (below_step HB.out hb7)
        have n2_ := Aside0.mk (Kd.R_below HO5.out hb7)
        clear HT HB HO5 hb7 hd7 hcv1 hcv2 HO6
        have HT := n0_; have HB := n1_; have HO5 := n2_
        clear n0_ n1_ n2_
        go_wp2_with fail
        refine (spoil_calls v5 m w7 _ _ HO5.out).mono ?_
        rintro e8 w8 ⟨rfl, hg8⟩
        have n0_ := Aside0.mk (HT.out.grown hg8 hne5.out)
        have n1_ := Aside0.mk (HB.out.grown hg8 HB.out.size hB5.out)
        clear HT HB HO5 hg8
        have HT := n0_; have HB := n1_
        clear n0_ n1_
        go_wp2_with fail
        go_roundw
        case rel => exact ⟨n + 1, by omega, by go_num, HT, HB⟩
        case measure => simp [intOf]; omega
      · obtain rfl : n = 2 := by omega
        go_wp2_with fail
        go_ret
        exact ⟨rfl, HB.out⟩
  · have hl' : decide (65536 < (xs.length : Int)) = true := by simp; omega
    go_enter Try.func7, Try.ntmps7
    go_wp2_with fail
    refine (POct.cofferlaw1_begun.calls 40 true _ (OctA.begun_ok 40 (by omega))).mono ?_
    rintro e1 w1 ⟨rfl, hb1⟩
    go_wp2_with fail
    go_ret
    exact ⟨rfl, hb1⟩
theorem walk (a0 : Option Addr) (len0 cap0 : Nat) (z0 : List Int) (a1 : Int) (a2 : Bool) (w : World)
    (w0 : (a0 = none ∧ len0 = 0 ∧ cap0 = 0 ∧ z0 = []) ∨ ∃ x, a0 = some x ∧ len0 ≤ cap0 ∧ cap0 ≤ maxLen ∧ z0.length = cap0 ∧ (∀ i, i < z0.length → w.cell? (x.add i) = some (.int .u8 (z0.getD i 0))) ∧ ∀ n ∈ z0, (Lit.int .u8 n).wf = true)
    (y0 : len0 * 1 ≤ 140737488351232) (w1 : (Lit.int .i64 a1).wf = true) :
    Calls Try.prog 7 #[.slice a0 len0 cap0, .int .i64 a1, .bool a2] w fun e w' => e = .returned (.bool true) ∧ Below w.heap.size w w' := by
  obtain ⟨l0, rfl, hr0, hm0, hw0, hc0⟩ := ReadsInt.ofRowC w0
  have hb := bounds_i64 w1
  exact walk0 a0 cap0 l0 a1 a2 w (Kd.C_of_reads (d := (0 : Int)) (h1 := fun _ => rfl) hr0) hc0 (fun x hx => by have := bounds_u8 (hw0 x hx); omega) hb.1 hb.2
end Go.Proofs.Ytcddgokfdnjhaaa.Bits
