/- The walk of the law FolderReads. -/
import Derived.Test.YtmcankeggbofhaaGe
import Derived.Test.YtmcankeggbofhaaGd
import Derived.OpenShut
namespace Go.Proofs.Ytmcankeggbofhaa.Lr
open Go.RowKit Go.Proofs.YtmcankeggbofhaaW.PrintWords Go.Proofs.YtmcankeggbofhaaW.PrintLast Go.Proofs.YtmcankeggbofhaaW.PrintMore
open It Nm Ag My Spc By Im Iw Ip Tk Tl Tg Ie Bg Rv Tw
set_option linter.unusedVariables false
set_option linter.unusedSimpArgs false
set_option maxRecDepth 100000
theorem ri_apart {w w1 : World} {base g : Nat} {v : Value} {xs : List Itm} (h : RI w base v xs) (hg : w.grownBy w1 (some g)) (hlt : g < base) : RI w1 base v xs :=
  Kd.R_grown1 h rfl hg (fun e => by have := Kd.R_base h g e.symm; omega)
theorem twin_own {w : World} {g B : Nat} {xs : List Int} (h : Tw.Twin w g xs) (hl : xs.length ≤ 100000) (hB : B ≤ g) : RB w B (.slice (some ⟨g, 0, none⟩) xs.length (xs.length + 3)) xs := by
  refine RB.of_own ⟨by simp [nums], .inr ⟨g, xs.length + 3, _, rfl, hB, h, by omega, by simp [maxLen]; omega, by simp [nums], ?_⟩⟩
  simp [nums, List.take_append]
theorem alike_same (A B : Option Addr) (c d : Nat) (l : List Itm) (w : World) (hr : CI w A l) (hs : CI w B l) (hc : l.length ≤ c) (hd : l.length ≤ d) :
    Calls Try.prog 17 #[.slice A l.length c, .slice B l.length d] w fun e w' => e = .returned (.bool true) ∧ Below w.heap.size w w' :=
  (alike_calls A B c d l l w hr hs hc hd).mono fun e w' h => by
    have : eqL l l = true := by unfold eqL; exact decide_eq_true rfl
    rw [this] at h; exact h
set_option maxHeartbeats 3200000 in
theorem reads_walk0 (A : Option Addr) (c : Nat) (b : List Int) (w : World) (hr : CB w A b) (hc : b.length ≤ c) (hby : ∀ x ∈ b, 0 ≤ x ∧ x < 256) :
    Calls Try.prog 5 #[.slice A b.length c] w fun e w' => e = .returned (.bool true) ∧ Below w.heap.size w w' := by
  have HR := Aside0.mk hr
  have HC := Aside0.mk hc
  clear hr hc
  by_cases hl : b.length ≤ 8192
  · have HP := Aside0.mk (fun A c w h hc => take_calls A c b w h hc hby)
    have HQ := Aside0.mk (fun A c w h hc => ref_take_calls A c b w h hc hl hby)
    obtain ⟨nt, hnt⟩ : ∃ nt, Aside0 (nt = codeT (takeOut b)) := ⟨_, ⟨rfl⟩⟩
    obtain ⟨lt, hlt⟩ : ∃ lt, Aside0 (lt = listT (takeOut b)) := ⟨_, ⟨rfl⟩⟩
    rw [← hnt.out, ← hlt.out] at HP HQ
    clear hby hnt hlt
    have hl' : decide (8192 < (b.length : Int)) = false := by simp; omega
    go_enter Try.func5, Try.ntmps5
    go_wp2_with fail
    refine (begun_calls _).mono ?_
    rintro e1 w1 ⟨rfl, hb1⟩
    have HB := Aside0.mk hb1
    clear hb1
    go_wp2_with fail
    refine (twin_calls A c b w1 (Kd.C_below HR.out HB.out) HC.out (by omega)).mono ?_
    rintro e2 w2 ⟨rfl, ht, hb2⟩
    have HB2 := Aside0.mk (below_step HB.out hb2)
    have HT := Aside0.mk ht
    obtain ⟨gt, hgt⟩ : ∃ gt, Aside0 (gt = w1.heap.size) := ⟨_, ⟨rfl⟩⟩
    have hgl := Aside0.mk (show w.heap.size ≤ gt by rw [hgt.out]; exact HB.out.size)
    rw [← hgt.out] at HT ⊢
    have hgl2 := Aside0.mk HT.out.lt
    clear HB ht hb2
    go_wp2_with fail
    refine (HP.out (some ⟨gt, 0, none⟩) (b.length + 3) w2 (HT.out.C (by omega)) (by omega)).mono ?_
    rintro e3 w3 ⟨v3, rfl, ho3, hb3⟩
    have HB3 := Aside0.mk (below_step HB2.out hb3)
    have HT3 := Aside0.mk (HT.out.below hb3 HT.out.lt)
    have HO3 := Aside0.mk ho3
    have hsz3 := Aside0.mk (Nat.lt_of_lt_of_le hgl2.out hb3.size)
    clear hb3 HT HB2 ho3
    go_wp2_with fail
    refine (HQ.out A c w3 (Kd.C_below HR.out HB3.out) HC.out).mono ?_
    rintro e5 w5 ⟨v5, rfl, ho5, hb5⟩
    have HB5 := Aside0.mk (below_step HB3.out hb5)
    have HT5 := Aside0.mk (HT3.out.below hb5 HT3.out.lt)
    have HO35 := Aside0.mk (Kd.R_below HO3.out hb5)
    have HO5 := Aside0.mk ho5
    clear hb5 HT3 HB3 HO3 ho5
    go_wp2_with fail
    refine (kept_calls A c gt b w5 (Kd.C_below HR.out HB5.out) HC.out (by omega) HT5.out).mono ?_
    rintro e7 w7 ⟨rfl, hd7⟩
    have hb7 := hd7.below
    have HB7 := Aside0.mk (below_step HB5.out hb7)
    have HT7 := Aside0.mk (HT5.out.below hb7 HT5.out.lt)
    have HO37 := Aside0.mk (Kd.R_below HO35.out hb7)
    have HO57 := Aside0.mk (Kd.R_below HO5.out hb7)
    clear hb7 hd7 HB5 HT5 HO35 HO5
    go_wp2_with fail
    refine (spoil_calls (.slice (some ⟨gt, 0, none⟩) b.length (b.length + 3)) b w7 gt _ (twin_own HT7.out (by omega) (Nat.le_refl _))).mono ?_
    rintro e8 w8 ⟨rfl, hg8⟩
    have hg8' : w7.grownBy w8 (some gt) := hg8
    have HB8 := Aside0.mk (HB7.out.grown hg8 HB7.out.size (fun k hk => by simp [Value.ownBlock] at hk; have := hgl.out; omega))
    obtain ⟨A3, c3, hv3, hc3, hC3⟩ := Kd.R_reads (ri_apart HO37.out hg8' hgl2.out)
    obtain ⟨A5, c5, hv5, hc5, hC5⟩ := Kd.R_reads (ri_apart HO57.out hg8' hsz3.out)
    subst hv3 hv5
    clear hg8 hg8' HB7 HT7 HO37 HO57
    have HA := Aside0.mk (alike_same A3 A5 c3 c5 lt w8 hC3 hC5 hc3 hc5)
    clear hC3 hC5
    go_wp2_with fail
    refine HA.out.mono ?_
    rintro e9 w9 ⟨rfl, hb9⟩
    have HB9 := Aside0.mk (below_step HB8.out hb9)
    go_wp2_with fail
    go_ret
    exact ⟨rfl, HB9.out⟩
  · have hl' : decide (8192 < (b.length : Int)) = true := by simp; omega
    go_enter Try.func5, Try.ntmps5
    go_wp2_with fail
    refine (begun_calls _).mono ?_
    rintro e1 w1 ⟨rfl, hb1⟩
    go_wp2_with fail
    go_ret
    exact ⟨rfl, hb1⟩
theorem reads_walk (a0 : Option Addr) (len0 cap0 : Nat) (z0 : List Int) (w : World)
    (w0 : (a0 = none ∧ len0 = 0 ∧ cap0 = 0 ∧ z0 = []) ∨ ∃ x, a0 = some x ∧ len0 ≤ cap0 ∧ cap0 ≤ maxLen ∧ z0.length = cap0 ∧ (∀ i, i < z0.length → w.cell? (x.add i) = some (.int .u8 (z0.getD i 0))) ∧ ∀ n ∈ z0, (Lit.int .u8 n).wf = true)
    (y0 : len0 * 1 ≤ 140737488351232) :
    Calls Try.prog 5 #[.slice a0 len0 cap0] w fun e w' => e = .returned (.bool true) ∧ Below w.heap.size w w' := by
  obtain ⟨l0, rfl, hr0, hm0, hw0, hc0⟩ := ReadsInt.ofRowC w0
  exact reads_walk0 a0 cap0 l0 w (Kd.C_of_reads (d := (0 : Int)) (h1 := fun _ => rfl) hr0) hc0 (fun x hx => by have := bounds_u8 (hw0 x hx); omega)
end Go.Proofs.Ytmcankeggbofhaa.Lr
