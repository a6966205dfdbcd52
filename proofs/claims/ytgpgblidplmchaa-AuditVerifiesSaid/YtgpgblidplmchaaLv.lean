/- The law AuditVerifies, walked. -/
import Derived.Test.YtgpgblidplmchaaVa
import Derived.Test.YtgpgblidplmchaaLr
import Derived.Test.YtgpgblidplmchaaIi
namespace Go.Proofs.Ytgpgblidplmchaa.Lv
open Go.RowKit Go.Proofs.YtgpgblidplmchaaW.PrintWords Go.Proofs.YtgpgblidplmchaaW.PrintLast Go.Proofs.YtgpgblidplmchaaW.PrintMore
open Ag En Spc OctA Eb Eg Ep Et Eh Ek Lk Hd Ex Spw Vp Tw
set_option linter.unusedVariables false
set_option linter.unusedSimpArgs false
set_option maxRecDepth 100000
structure W0 (w W : World) (g3 : Nat) (hd : List Int) : Prop where
  below : Below w.heap.size w W
  h3 : Idb W g3 hd
  ne : w.heap.size = g3
theorem W0.step {w W W2 : World} {g3 : Nat} {hd : List Int} (h : W0 w W g3 hd) (hb : Below W.heap.size W W2) : W0 w W2 g3 hd := ⟨h.below.trans (hb.mono h.below.size), (hb.block _ (blk_lt h.h3)).trans h.h3, h.ne⟩
set_option maxHeartbeats 6400000 in
theorem verifies_walk0 (A : Option Addr) (c : Nat) (b hd : List Int) (w : World) (hr : CB w A b) (hc : b.length ≤ c) (hb : By b) (hh : hd.length = 32) :
    Calls Try.prog 8 #[.slice A b.length c, .agg (nums .u8 hd).toArray] w fun e w' => e = .returned (.bool true) ∧ Below w.heap.size w w' := by
  have HR := Aside0.mk hr; have HC := Aside0.mk hc
  have HDZ := Aside0.mk (id_sz hh)
  have HV0 := Aside0.mk (⟨(Below.refl w.heap.size w).alloc (Nat.le_refl _) (.cells (nums .u8 hd).toArray 25), heap_alloc_new w _, rfl⟩ : W0 w (w.alloc (.cells (nums .u8 hd).toArray 25)) w.heap.size hd)
  by_cases hl : b.length ≤ 8192
  · have HP := Aside0.mk (fun A c w h hc => Vw.verify_calls A c b hd w h hc hb (by omega) hh)
    have HQ := Aside0.mk (fun A c w h hc => Vr.ref_verify_calls A c b hd w h hc hb (by omega) hh)
    obtain ⟨n4, hn4⟩ : ∃ n, (verOut b hd).1 = n := ⟨_, rfl⟩
    obtain ⟨e4, he4⟩ : ∃ n, (verOut b hd).2 = n := ⟨_, rfl⟩
    rw [hn4, he4] at HP HQ
    clear hr hc hb hh hn4 he4
    have hl' : decide (8192 < (b.length : Int)) = false := by simp; omega
    go_enter Try.func8, Try.ntmps8
    go_upto_region 1 with (fail)
    generalize w.alloc (.cells (nums .u8 hd).toArray 25) = W1 at HV0 ⊢
    generalize hg3 : w.heap.size = g3 at HV0 ⊢
    clear hg3
    go_upto_region 5 with (((with_reducible refine (begun_calls _).mono ?_); rintro _ w1 ⟨rfl, hb1⟩))
    have HV1 := Aside0.mk (HV0.out.step hb1)
    clear hb1 HV0
    go_upto_region 6 with (((with_reducible refine (twin_calls A c b _ (Kd.C_below HR.out HV1.out.below) HC.out (by omega)).mono ?_); rintro _ w2 ⟨rfl, ht2, hb2⟩))
    have HV2 := Aside0.mk (HV1.out.step hb2)
    obtain ⟨gt, hgt⟩ : ∃ gt, w1.heap.size = gt := ⟨_, rfl⟩
    rw [hgt] at ht2 ⊢
    have HT2 := Aside0.mk ht2
    have HI2 := Aside0.mk (show w2.heap[g3]? = some (.cells (nums .u8 hd).toArray 25 (0, 0)) from HV2.out.h3)
    clear ht2 hb2 hgt HV1
    go_upto_region 7 with (first
      | (with_reducible refine op_load rfl 25 _ rfl g3 rfl 25 _ _ HI2.out Try.underlying25 rfl 32 info25 HDZ.out ?_)
      | ((with_reducible refine (HP.out (some ⟨gt, 0, none⟩) (b.length + 3) _ (HT2.out.C (by omega)) (by omega)).mono ?_); rintro _ w3 ⟨rfl, hb3⟩))
    have HV3 := Aside0.mk (HV2.out.step hb3)
    have HT3 := Aside0.mk (HT2.out.below hb3 HT2.out.lt)
    have HI3 := Aside0.mk (show w3.heap[g3]? = some (.cells (nums .u8 hd).toArray 25 (0, 0)) from HV3.out.h3)
    clear hb3 HV2 HT2 HI2
    go_upto_region 8 with (first
      | (with_reducible refine op_load rfl 25 _ rfl g3 rfl 25 _ _ HI3.out Try.underlying25 rfl 32 info25 HDZ.out ?_)
      | ((with_reducible refine (HQ.out A c _ (Kd.C_below HR.out HV3.out.below) HC.out).mono ?_); rintro _ w4 ⟨rfl, hb4⟩))
    have HV4 := Aside0.mk (HV3.out.step hb4)
    have HT4 := Aside0.mk (HT3.out.below hb4 HT3.out.lt)
    clear hb4 HV3 HT3 HI3
    go_wp2_with (((with_reducible refine (kept_calls A c gt b w4 (Kd.C_below HR.out HV4.out.below) HC.out (by omega) HT4.out).mono ?_); rintro _ w5 ⟨rfl, hd5⟩))
    have HV5 := Aside0.mk (HV4.out.step hd5.below)
    go_ret
    exact ⟨rfl, HV5.out.below⟩
  · have hl' : decide (8192 < (b.length : Int)) = true := by simp; omega
    clear hr hc hb hh
    go_enter Try.func8, Try.ntmps8
    go_upto_region 1 with (fail)
    generalize w.alloc (.cells (nums .u8 hd).toArray 25) = W1 at HV0 ⊢
    go_wp2_with (((with_reducible refine (begun_calls _).mono ?_); rintro _ w1 ⟨rfl, hb1⟩))
    have HV1 := Aside0.mk (HV0.out.step hb1)
    go_ret
    exact ⟨rfl, HV1.out.below⟩
theorem verifies_walk (a0 : Option Addr) (len0 cap0 : Nat) (z0 : List Int) (hd : List Int) (w : World)
    (w0 : (a0 = none ∧ len0 = 0 ∧ cap0 = 0 ∧ z0 = []) ∨ ∃ x, a0 = some x ∧ len0 ≤ cap0 ∧ cap0 ≤ maxLen ∧ z0.length = cap0 ∧ (∀ i, i < z0.length → w.cell? (x.add i) = some (.int .u8 (z0.getD i 0))) ∧ ∀ n ∈ z0, (Lit.int .u8 n).wf = true)
    (y0 : len0 * 1 ≤ 140737488351232) (hh : hd.length = 32) (hb1 : ∀ y ∈ hd, 0 ≤ y ∧ y < 256) :
    Calls Try.prog 8 #[.slice a0 len0 cap0, .agg (nums .u8 hd).toArray] w fun e w' => e = .returned (.bool true) ∧ Below w.heap.size w w' := by
  obtain ⟨l0, rfl, hr0, hm0, hw0, hc0⟩ := ReadsInt.ofRowC w0
  exact verifies_walk0 a0 cap0 l0 hd w (Kd.C_of_reads (d := (0 : Int)) (h1 := fun _ => rfl) hr0) hc0 (fun x hx => by have := bounds_u8 (hw0 x hx); omega) hh
end Go.Proofs.Ytgpgblidplmchaa.Lv
