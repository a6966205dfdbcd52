/- The walk of the law AuditReads. -/
import Derived.Test.YtgpgblidplmchaaEh
import Derived.OpenShut
namespace Go.Proofs.Ytgpgblidplmchaa.Lr
open Go.RowKit Go.Proofs.YtgpgblidplmchaaW.PrintWords Go.Proofs.YtgpgblidplmchaaW.PrintLast Go.Proofs.YtgpgblidplmchaaW.PrintMore
open En Ag Spc OctA OctC Eb Eg Ep Et Eu Eh Tw
set_option linter.unusedVariables false
set_option linter.unusedSimpArgs false
set_option maxRecDepth 100000
theorem twin_own {w : World} {g B : Nat} {xs : List Int} (h : Tw.Twin w g xs) (hl : xs.length ≤ 100000) (hB : B ≤ g) : RB w B (.slice (some ⟨g, 0, none⟩) xs.length (xs.length + 3)) xs := by
  refine RB.of_own ⟨by simp [nums], .inr ⟨g, xs.length + 3, _, rfl, hB, h, by omega, by simp [maxLen]; omega, by simp [nums], ?_⟩⟩
  simp [nums, List.take_append]
theorem take_wf (b : List Int) (hby : ∀ x ∈ b, 0 ≤ x ∧ x < 256) : Ok (takeOut b).1 := by
  unfold takeOut
  by_cases h1 : beginsB b = false
  · rw [if_pos h1]; exact ok0
  rw [if_neg h1]
  by_cases h2 : b.length ≤ 24
  · rw [if_pos h2]; exact ok0
  rw [if_neg h2]
  by_cases h3 : b.length < 60 + lenN b
  · rw [if_pos h3]; exact ok0
  rw [if_neg h3]
  show ((b.drop (25 + lenN b + 3)).take 32).length = 32
  simp; omega
set_option maxHeartbeats 6400000 in
theorem reads_walk0 (A : Option Addr) (c : Nat) (b : List Int) (w : World) (hr : CB w A b) (hc : b.length ≤ c) (hby : ∀ x ∈ b, 0 ≤ x ∧ x < 256) :
    Calls Try.prog 5 #[.slice A b.length c] w fun e w' => e = .returned (.bool true) ∧ Below w.heap.size w w' := by
  have HR := Aside0.mk hr
  have HC := Aside0.mk hc
  clear hr hc
  by_cases hl : b.length ≤ 1024
  · have HP := Aside0.mk (fun A c w h hc => take_calls A c b w h hc (by omega) hby)
    have HQ := Aside0.mk (fun A c w h hc => ref_take_calls A c b w h hc (by omega) hby)
    have hx := Aside0.mk (take_wf b hby)
    obtain ⟨x, n, e, hto⟩ : ∃ x n e, takeOut b = (x, n, e) := ⟨_, _, _, rfl⟩
    rw [hto] at HP HQ hx
    clear hby hto
    have hl' : decide (1024 < (b.length : Int)) = false := by simp; omega
    go_enter Try.func5, Try.ntmps5
    go_wp2_with fail
    refine (begun_calls _).mono ?_
    rintro e1 w1 ⟨rfl, hb1⟩
    have HB := Aside0.mk hb1
    clear hb1
    go_wp2_with fail
    refine (twin_calls A c b w1 (Kd.C_below HR.out HB.out) HC.out (by omega)).mono ?_
    rintro e2 w2 ⟨rfl, ht, hb2⟩
    have HB2 := Aside0.mk (below_step HB.out hb2)
    have HT := Aside0.mk ht
    obtain ⟨gt, hgt⟩ : ∃ gt, Aside0 (gt = w1.heap.size) := ⟨_, ⟨rfl⟩⟩
    have hgl := Aside0.mk (show w.heap.size ≤ gt by rw [hgt.out]; exact HB.out.size)
    rw [← hgt.out] at HT ⊢
    clear HB ht hb2
    go_wp2_with fail
    refine (HP.out (some ⟨gt, 0, none⟩) (b.length + 3) w2 (HT.out.C (by omega)) (by omega)).mono ?_
    rintro e3 w3 ⟨rfl, hb3⟩
    have HB3 := Aside0.mk (below_step HB2.out hb3)
    have HT3 := Aside0.mk (HT.out.below hb3 HT.out.lt)
    clear hb3 HT HB2
    have HB := Aside0.mk (HB3.out.alloc HB3.out.size (.cells (cellsOf ent0).toArray 27))
    have hg := Aside0.mk (heap_alloc_new w3 (.cells (cellsOf ent0).toArray 27))
    have HT := Aside0.mk (HT3.out.below ((Below.refl _ _).alloc (Nat.le_refl _) (.cells (cellsOf ent0).toArray 27)) HT3.out.lt)
    have hne : Aside0 (some gt ≠ some w3.heap.size) := ⟨fun h => by have := HT3.out.lt; simp at h; omega⟩
    go_wp2_with (first | (with_reducible refine op_alloc rfl 27 rfl _ zero27 ?_) | (with_reducible refine op_store (w0 := w) w.heap.size rfl 27 (.tmp 4) (.tmp 21) rfl w3.heap.size (cellsOf x).toArray rfl rfl 27 (cellsOf ent0).toArray hg.out 38 info27 (cells_sz hx.out) (cells_sz ok0) (cells_all _) HB.out HB3.out.size ?_; intro w4 hg4 hw4 HB4))
    have HT4 := Aside0.mk (HT.out.grown hw4.out hne.out)
    have H4t := Aside0.mk (show gt < w3.heap.size from HT3.out.lt)
    have hgle := HB3.out.size
    have hlt4 := Aside0.mk (blk_lt hg4.out)
    generalize w3.heap.size = g4 at *
    have HG4 := Aside0.mk hgle
    clear hg HB HB3 HT HT3 hw4 hgle
    refine (HQ.out A c w4 (Kd.C_below HR.out HB4.out) HC.out).mono ?_
    rintro e5 w5 ⟨rfl, hb5⟩
    have HB5 := Aside0.mk (below_step HB4.out hb5)
    have HT5 := Aside0.mk (HT4.out.below hb5 HT4.out.lt)
    have hg5 := Aside0.mk ((hb5.block _ hlt4.out).trans hg4.out)
    have hlt5 := Aside0.mk (show g4 < w5.heap.size from blk_lt hg5.out)
    clear hb5 HT4 HB4 hg4 hlt4
    have HB := Aside0.mk (HB5.out.alloc HB5.out.size (.cells (cellsOf ent0).toArray 27))
    have hg := Aside0.mk (heap_alloc_new w5 (.cells (cellsOf ent0).toArray 27))
    have HT := Aside0.mk (HT5.out.below ((Below.refl _ _).alloc (Nat.le_refl _) (.cells (cellsOf ent0).toArray 27)) HT5.out.lt)
    have hg45 := Aside0.mk ((((Below.refl w5.heap.size w5).alloc (Nat.le_refl _) (.cells (cellsOf ent0).toArray 27)).block _ hlt5.out).trans hg5.out)
    have hne2 : Aside0 (some gt ≠ some w5.heap.size) := ⟨fun h => by have := HT5.out.lt; simp at h; omega⟩
    have hne3 : Aside0 (some g4 ≠ some w5.heap.size) := ⟨fun h => by have := hlt5.out; simp at h; omega⟩
    go_wp2_with (first | (with_reducible refine op_alloc rfl 27 rfl _ zero27 ?_) | (with_reducible refine op_store (w0 := w) w.heap.size rfl 27 (.tmp 7) (.tmp 27) rfl w5.heap.size (cellsOf x).toArray rfl rfl 27 (cellsOf ent0).toArray hg.out 38 info27 (cells_sz hx.out) (cells_sz ok0) (cells_all _) HB.out HB5.out.size ?_; intro w6 hg6 hw6 HB6))
    have HT6 := Aside0.mk (HT.out.grown hw6.out hne2.out)
    have hg46 := Aside0.mk (blk_grown hg45.out hw6.out hne3.out)
    have hB6 := Aside0.mk HB6.out.size
    have hlt6 := Aside0.mk (show g4 < w6.heap.size from blk_lt hg46.out)
    generalize hg6e : w5.heap.size = g6 at *
    have H6 : Aside0 (g4 < g6 ∧ gt < g6) := ⟨hlt5.out, by have := HT5.out.lt; omega⟩
    clear hg HB HB5 HT HT5 hw6 hg45 hg5 hne hne2 hne3 hlt5 hlt6
    refine (kept_calls A c gt b w6 (Kd.C_below HR.out HB6.out) HC.out (by omega) HT6.out).mono ?_
    rintro e7 w7 ⟨rfl, hd7⟩
    have hb7 := hd7.below
    have HB7 := Aside0.mk (below_step HB6.out hb7)
    have HT7 := Aside0.mk (HT6.out.below hb7 HT6.out.lt)
    have h47 := Aside0.mk ((hb7.block _ (blk_lt hg46.out)).trans hg46.out)
    have h67 := Aside0.mk ((hb7.block _ (blk_lt hg6.out)).trans hg6.out)
    clear hb7 hd7 HB6 HT6 hg46 hg6
    go_wp2_with fail
    refine (spoil_calls (.slice (some ⟨gt, 0, none⟩) b.length (b.length + 3)) b w7 gt _ (twin_own HT7.out (by omega) (Nat.le_refl _))).mono ?_
    rintro e8 w8 ⟨rfl, hg8⟩
    have HB8 := Aside0.mk (HB7.out.grown hg8 HB7.out.size (fun k hk => by simp [Value.ownBlock] at hk; have := hgl.out; omega))
    have h48 := Aside0.mk (show It w8 g4 x from blk_grown h47.out hg8 (fun h => by simp [Value.ownBlock] at h; have := HG4.out; have := HT7.out.lt; have := H4t.out; omega))
    have h68 := Aside0.mk (show It w8 g6 x from blk_grown h67.out hg8 (fun h => by simp [Value.ownBlock] at h; have := H6.out; omega))
    have HE := Aside0.mk ((eqE_iff x x).2 rfl)
    clear hg8 HB7 HT7 h47 h67
    go_wp2_with (first | (refine event_on rfl (load_run (x := .tmp 4) rfl rfl (load_it h48.out hx.out)) ?_) | (refine event_on rfl (load_run (x := .tmp 7) rfl rfl (load_it h68.out hx.out)) ?_) | (refine event_on rfl (ent_eql (x := .tmp 47) (y := .tmp 48) (p := x) (q := x) rfl rfl rfl hx.out hx.out) ?_; rw [HE.out]))
    go_ret
    exact ⟨rfl, HB8.out⟩
  · have hl' : decide (1024 < (b.length : Int)) = true := by simp; omega
    go_enter Try.func5, Try.ntmps5
    go_wp2_with fail
    refine (begun_calls _).mono ?_
    rintro e1 w1 ⟨rfl, hb1⟩
    go_wp2_with fail
    go_ret
    exact ⟨rfl, hb1⟩
theorem reads_walk (a0 : Option Addr) (len0 cap0 : Nat) (z0 : List Int) (w : World)
    (w0 : (a0 = none ∧ len0 = 0 ∧ cap0 = 0 ∧ z0 = []) ∨ ∃ x, a0 = some x ∧ len0 ≤ cap0 ∧ cap0 ≤ maxLen ∧ z0.length = cap0 ∧ (∀ i, i < z0.length → w.cell? (x.add i) = some (.int .u8 (z0.getD i 0))) ∧ ∀ n ∈ z0, (Lit.int .u8 n).wf = true)
    (y0 : len0 * 1 ≤ 140737488351232) :
    Calls Try.prog 5 #[.slice a0 len0 cap0] w fun e w' => e = .returned (.bool true) ∧ Below w.heap.size w w' := by
  obtain ⟨l0, rfl, hr0, hm0, hw0, hc0⟩ := ReadsInt.ofRowC w0
  exact reads_walk0 a0 cap0 l0 w (Kd.C_of_reads (d := (0 : Int)) (h1 := fun _ => rfl) hr0) hc0 (fun x hx => by have := bounds_u8 (hw0 x hx); omega)
end Go.Proofs.Ytgpgblidplmchaa.Lr
