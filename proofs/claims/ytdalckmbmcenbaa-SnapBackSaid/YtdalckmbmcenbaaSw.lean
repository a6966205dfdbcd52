/- The walks of begun and of the law SnapReads. -/
import Derived.Test.YtdalckmbmcenbaaSe
import Derived.Test.YtdalckmbmcenbaaTw
import Derived.OpenShut
namespace Go.Proofs.Ytdalckmbmcenbaa.Sw
open Go.RowKit Go.Proofs.YtdalckmbmcenbaaW.PrintWords Go.Proofs.YtdalckmbmcenbaaW.PrintLast Go.Proofs.YtdalckmbmcenbaaW.PrintMore
open Sn Ag Spc Sb St Sr Sp Se Tw
set_option linter.unusedVariables false
set_option linter.unusedSimpArgs false
set_option maxRecDepth 100000

theorem take_man (r : List Int) (t : Int) (s : ByteArray) (hr : r.length = 32) (ht : t ≤ 9223372036854775807) (hm : mayB t s = true) (hrb : ∀ x ∈ r, 0 ≤ x ∧ x < 256) (A : Option Addr) (c : Nat) (w : World) (hC : CB w A (manB r t s)) (hc : (manB r t s).length ≤ c) :
    Calls Try.prog 13 #[.slice A (manB r t s).length c] w fun e' w' => e' = .returned (.tuple #[.agg (man r t s), .int .i64 0]) ∧ Below w.heap.size w w' := by
  obtain ⟨h1, h2, h3, h4⟩ := isB_man r t s hr ht hm
  have h64 := (may_parts hm).2.1
  obtain ⟨r', t', s', e', hr', hy, hn, hp, _⟩ := both (manB r t s) (manB_bytes r hrb t s) (by rw [manB_len r t s hr hm]; omega)
  obtain ⟨e1, e2, e3, e4⟩ := hy h1
  have := hp A c w hC hc
  rw [e1, e2, e3, e4, h2, h3, h4] at this
  exact this

theorem builtx : Try.prog.built 25 [(1, .int .i64 3), (2, .string ⟨#[120]⟩)] = some (man (List.replicate 32 0) 3 ⟨#[120]⟩) := by kernel_rfl

theorem start_x : ∃ (r : List Int) (s : ByteArray), Aside0 (r = List.replicate 32 0 ∧ s = ⟨#[120]⟩) ∧ r.length = 32 ∧ (∀ x ∈ r, 0 ≤ x ∧ x < 256) ∧ mayB 3 s = true ∧ s.size = 1 := by
  refine ⟨_, _, ⟨rfl, rfl⟩, by simp, ?_, by decide, by decide⟩
  intro x hx
  have := List.eq_of_mem_replicate hx
  omega

set_option maxHeartbeats 3200000 in
theorem begun_calls (w : World) : Calls Try.prog 6 #[] w fun e w' => e = .returned (.bool true) ∧ Below w.heap.size w w' := by
  obtain ⟨r, s, hx, hr, hrb, hm, hs⟩ := start_x
  have hbx : Try.prog.built 25 [(1, .int .i64 3), (2, .string ⟨#[120]⟩)] = some (man r 3 s) := by rw [hx.out.1, hx.out.2]; exact builtx
  have hsx : s = ⟨#[120]⟩ := hx.out.2
  obtain ⟨m, hmx⟩ : ∃ m, Aside0 (m = man r 3 s) := ⟨_, ⟨rfl⟩⟩
  rw [← hmx.out] at hbx
  have HX := Aside0.mk (And.intro hr (And.intro hrb hm))
  have hsz := Aside0.mk hs
  have hSX := Aside0.mk hsx
  clear hr hrb hm hs hsx
  go_enter Try.func6, Try.ntmps6
  go_wp2_with (refine op_build rfl 25 _ rfl m (by rw [List.map_toArray]; exact hbx) ?_)
  rw [hmx.out]
  refine (bytes_yes r 3 s _ HX.out.1 (by decide) HX.out.2.2).mono ?_
  rintro e1 w1 ⟨v1, rfl, ho1, hb1⟩
  obtain ⟨A1, c1, rfl, hc1, hC1⟩ := Kd.R_reads ho1
  have HC1 := Aside0.mk hC1
  have HB := Aside0.mk hb1
  have hln : Aside0 ((manB r 3 s).length = 44) := ⟨by rw [manB_len r 3 s HX.out.1 HX.out.2.2, hsz.out]⟩
  have HTK := Aside0.mk (fun w h => take_man r 3 s HX.out.1 (by decide) HX.out.2.2 HX.out.2.1 A1 c1 w h hc1)
  rw [hln.out] at HTK ⊢
  clear ho1 hb1 hC1 hc1
  go_wp2_with fail
  refine (HTK.out _ (Kd.C_below HC1.out (Below.refl _ _))).mono ?_
  rintro e2 w2 ⟨rfl, hb2⟩
  have HB2 := Aside0.mk (below_step HB.out hb2)
  clear HB hb2
  have HB := Aside0.mk (HB2.out.alloc HB2.out.size (.cells man0 25))
  have hg := Aside0.mk (heap_alloc_new w2 (.cells man0 25))
  go_wp2_with (first | (with_reducible refine op_alloc rfl 25 rfl man0 zero25 ?_) | (with_reducible refine op_store (w0 := w) w.heap.size rfl 25 (.tmp 3) (.tmp 13) rfl w2.heap.size (man r 3 s) rfl rfl 25 man0 hg.out 34 info25 (man_size r 3 s HX.out.1) man0_size (man_all r 3 s) HB.out HB2.out.size ?_; intro wz hgz _ HBz; have k32 : wz.cell? ⟨w2.heap.size, 32, none⟩ = some (.int .i64 3) := (by rw [blk_cell hgz.out, man_time r 3 s HX.out.1]); have k33 : wz.cell? ⟨w2.heap.size, 33, none⟩ = some (.string ⟨#[120]⟩) := (by rw [blk_cell hgz.out, man_label r 3 s HX.out.1, hSX.out])))
  go_ret
  exact ⟨rfl, HBz.out⟩

theorem event_on {P : Program} {ops : Array Oper} {rest : List Oper} {o : Oper} {a : Act} {Q : Exit → Act → World → Prop} {W w1 : World} {v : Value} (hw : Region.wanted o (yielded ops a.tmps) = true) (hrun : (execOp a.eval o).run P W = .ok (.value v) w1) (h : wpList P ops Q rest (a.put o.dst v) w1) : wpList P ops Q (o :: rest) a W := by
  rw [wpList, if_pos hw]
  refine .inl ?_
  unfold Oper.wp
  rw [hrun]
  exact h
/-- a whole struct is read, under a guard that holds -/
theorem op_load_on {P : Program} {ops : Array Oper} {rest : List Oper} {o : Oper} {a : Act} {Q : Exit → Act → World → Prop} {W : World} (hw : Region.wanted o (yielded ops a.tmps) = true) (ty : TypeId) (x : Operand) (ho : o.op = .load ty x) (g : Nat) (hx : a.eval x = .pointer (some ⟨g, 0, none⟩)) (t : TypeId) (cs : Array Value) (d : TypeDesc) (hg : W.heap[g]? = some (.cells cs t (0, 0)))
    (hu : P.underlying ty = some d) (hd : (match d with | .struct _ | .array _ _ => true | _ => false) = true) (n : Nat) (hi : (P.info? ty).map (·.size) = some n) (hn : cs.size = n)
    (h : wpList P ops Q rest (a.put o.dst (.agg cs)) W) : wpList P ops Q (o :: rest) a W := by
  refine event_on hw ?_ h
  simp only [execOp, ho, hx, Instr.loadAt, Instr.sureAddr, Sem.run_bind, Sem.run_pure, Result.andThen_ok, run_loadVar_row W g t ty cs (0, 0) d hg hu hd (by rw [hi, hn])]
theorem twin_own {w : World} {g B : Nat} {xs : List Int} (h : Tw.Twin w g xs) (hl : xs.length ≤ 100000) (hB : B ≤ g) : RB w B (.slice (some ⟨g, 0, none⟩) xs.length (xs.length + 3)) xs := by
  refine RB.of_own ⟨by simp [nums], .inr ⟨g, xs.length + 3, _, rfl, hB, h, by omega, by simp [maxLen]; omega, by simp [nums], ?_⟩⟩
  simp [nums, List.take_append]

set_option maxHeartbeats 3200000 in
theorem reads_walk0 (A : Option Addr) (c : Nat) (b : List Int) (w : World) (hr : CB w A b) (hc : b.length ≤ c) (hby : ∀ x ∈ b, 0 ≤ x ∧ x < 256) :
    Calls Try.prog 4 #[.slice A b.length c] w fun e w' => e = .returned (.bool true) ∧ Below w.heap.size w w' := by
  have HR := Aside0.mk hr
  have HC := Aside0.mk hc
  clear hr hc
  by_cases hl : b.length ≤ 1024
  · obtain ⟨r, t, s, e, hr32, _, _, hp_, hq_⟩ := both b hby (by omega)
    have HP := Aside0.mk hp_; have HQ := Aside0.mk hq_; have H32 := Aside0.mk hr32
    clear hp_ hq_ hr32 hby
    have hl' : decide (1024 < (b.length : Int)) = false := by simp; omega
    go_enter Try.func4, Try.ntmps4
    go_wp2_with fail
    refine (begun_calls _).mono ?_
    rintro e1 w1 ⟨rfl, hb1⟩
    have HB := Aside0.mk hb1
    clear hb1
    go_wp2_with fail
    refine (twin_calls A c b w1 (Kd.C_below HR.out HB.out) HC.out (by omega)).mono ?_
    rintro e2 w2 ⟨rfl, ht, hb2⟩
    have HB2 := Aside0.mk (below_step HB.out hb2)
    have HT := Aside0.mk ht
    obtain ⟨gt, hgt⟩ : ∃ gt, Aside0 (gt = w1.heap.size) := ⟨_, ⟨rfl⟩⟩
    have hgl := Aside0.mk (show w.heap.size ≤ gt by rw [hgt.out]; exact HB.out.size)
    rw [← hgt.out] at HT ⊢
    clear HB ht hb2
    go_wp2_with fail
    refine (HP.out (some ⟨gt, 0, none⟩) (b.length + 3) w2 (HT.out.C (by omega)) (by omega)).mono ?_
    rintro e3 w3 ⟨rfl, hb3⟩
    have HB3 := Aside0.mk (below_step HB2.out hb3)
    have HT3 := Aside0.mk (HT.out.below hb3 HT.out.lt)
    clear hb3 HT HB2
    have HB := Aside0.mk (HB3.out.alloc HB3.out.size (.cells man0 25))
    have hg := Aside0.mk (heap_alloc_new w3 (.cells man0 25))
    have HT := Aside0.mk (HT3.out.below ((Below.refl _ _).alloc (Nat.le_refl _) (.cells man0 25)) HT3.out.lt)
    have hne : Aside0 (some gt ≠ some w3.heap.size) := ⟨fun h => by have := HT3.out.lt; simp at h; omega⟩
    go_wp2_with (first | (with_reducible refine op_alloc rfl 25 rfl man0 zero25 ?_) | (with_reducible refine op_store (w0 := w) w.heap.size rfl 25 (.tmp 4) (.tmp 19) rfl w3.heap.size (man r t s) rfl rfl 25 man0 hg.out 34 info25 (man_size r t s H32.out) man0_size (man_all r t s) HB.out HB3.out.size ?_; intro w4 hg4 hw4 HB4))
    have HT4 := Aside0.mk (HT.out.grown hw4.out hne.out)
    have H4t := Aside0.mk (show gt < w3.heap.size from HT3.out.lt)
    have hgle := HB3.out.size
    have hlt4 := Aside0.mk (blk_lt hg4.out)
    generalize w3.heap.size = g4 at *
    have HG4 := Aside0.mk hgle
    clear hg HB HB3 HT HT3 hw4 hgle
    refine (HQ.out A c w4 (Kd.C_below HR.out HB4.out) HC.out).mono ?_
    rintro e5 w5 ⟨rfl, hb5⟩
    have HB5 := Aside0.mk (below_step HB4.out hb5)
    have HT5 := Aside0.mk (HT4.out.below hb5 HT4.out.lt)
    have hg5 := Aside0.mk ((hb5.block _ hlt4.out).trans hg4.out)
    have hlt5 := Aside0.mk (show g4 < w5.heap.size from blk_lt hg5.out)
    clear hb5 HT4 HB4 hg4 hlt4
    have HB := Aside0.mk (HB5.out.alloc HB5.out.size (.cells man0 25))
    have hg := Aside0.mk (heap_alloc_new w5 (.cells man0 25))
    have HT := Aside0.mk (HT5.out.below ((Below.refl _ _).alloc (Nat.le_refl _) (.cells man0 25)) HT5.out.lt)
    have hg45 := Aside0.mk ((((Below.refl w5.heap.size w5).alloc (Nat.le_refl _) (.cells man0 25)).block _ hlt5.out).trans hg5.out)
    have hne2 : Aside0 (some gt ≠ some w5.heap.size) := ⟨fun h => by have := HT5.out.lt; simp at h; omega⟩
    have hne3 : Aside0 (some g4 ≠ some w5.heap.size) := ⟨fun h => by have := hlt5.out; simp at h; omega⟩
    go_wp2_with (first | (with_reducible refine op_alloc rfl 25 rfl man0 zero25 ?_) | (with_reducible refine op_store (w0 := w) w.heap.size rfl 25 (.tmp 6) (.tmp 24) rfl w5.heap.size (man r t s) rfl rfl 25 man0 hg.out 34 info25 (man_size r t s H32.out) man0_size (man_all r t s) HB.out HB5.out.size ?_; intro w6 hg6 hw6 HB6))
    have HT6 := Aside0.mk (HT.out.grown hw6.out hne2.out)
    have hg46 := Aside0.mk (blk_grown hg45.out hw6.out hne3.out)
    have hB6 := Aside0.mk HB6.out.size
    have hlt6 := Aside0.mk (show g4 < w6.heap.size from blk_lt hg46.out)
    generalize hg6e : w5.heap.size = g6 at *
    have H6 : Aside0 (g4 < g6 ∧ gt < g6) := ⟨hlt5.out, by have := HT5.out.lt; omega⟩
    clear hg HB HB5 HT HT5 hw6 hg45 hg5 hne hne2 hne3 hlt5 hlt6
    refine (kept_calls A c gt b w6 (Kd.C_below HR.out HB6.out) HC.out (by omega) HT6.out).mono ?_
    rintro e7 w7 ⟨rfl, hd7⟩
    have hb7 := hd7.below
    have HB7 := Aside0.mk (below_step HB6.out hb7)
    have HT7 := Aside0.mk (HT6.out.below hb7 HT6.out.lt)
    have h47 := Aside0.mk ((hb7.block _ (blk_lt hg46.out)).trans hg46.out)
    have h67 := Aside0.mk ((hb7.block _ (blk_lt hg6.out)).trans hg6.out)
    clear hb7 hd7 HB6 HT6 hg46 hg6
    go_wp2_with fail
    refine (spoil_calls (.slice (some ⟨gt, 0, none⟩) b.length (b.length + 3)) b w7 gt _ (twin_own HT7.out (by omega) (Nat.le_refl _))).mono ?_
    rintro e8 w8 ⟨rfl, hg8⟩
    have HB8 := Aside0.mk (HB7.out.grown hg8 HB7.out.size (fun k hk => by simp [Value.ownBlock] at hk; have := hgl.out; omega))
    have h48 := Aside0.mk (blk_grown h47.out hg8 (fun h => by simp [Value.ownBlock] at h; have := HG4.out; have := HT7.out.lt; have := H4t.out; omega))
    have h68 := Aside0.mk (blk_grown h67.out hg8 (fun h => by simp [Value.ownBlock] at h; have := H6.out; omega))
    clear hg8 HB7 HT7 h47 h67
    have hself := man_self r t s H32.out
    go_wp2_with (first | (refine op_load_on rfl 25 (.tmp 4) rfl g4 rfl 25 (man r t s) _ h48.out Try.underlying25 rfl 34 info25 (man_size r t s H32.out) ?_) | (refine op_load_on rfl 25 (.tmp 6) rfl g6 rfl 25 (man r t s) _ h68.out Try.underlying25 rfl 34 info25 (man_size r t s H32.out) ?_))
    go_ret
    exact ⟨rfl, HB8.out⟩
  · have hl' : decide (1024 < (b.length : Int)) = true := by simp; omega
    go_enter Try.func4, Try.ntmps4
    go_wp2_with fail
    refine (begun_calls _).mono ?_
    rintro e1 w1 ⟨rfl, hb1⟩
    go_wp2_with fail
    go_ret
    exact ⟨rfl, hb1⟩

theorem reads_walk (a0 : Option Addr) (len0 cap0 : Nat) (z0 : List Int) (w : World)
    (w0 : (a0 = none ∧ len0 = 0 ∧ cap0 = 0 ∧ z0 = []) ∨ ∃ x, a0 = some x ∧ len0 ≤ cap0 ∧ cap0 ≤ maxLen ∧ z0.length = cap0 ∧ (∀ i, i < z0.length → w.cell? (x.add i) = some (.int .u8 (z0.getD i 0))) ∧ ∀ n ∈ z0, (Lit.int .u8 n).wf = true)
    (y0 : len0 * 1 ≤ 140737488351232) :
    Calls Try.prog 4 #[.slice a0 len0 cap0] w fun e w' => e = .returned (.bool true) ∧ Below w.heap.size w w' := by
  obtain ⟨l0, rfl, hr0, hm0, hw0, hc0⟩ := ReadsInt.ofRowC w0
  exact reads_walk0 a0 cap0 l0 w (Kd.C_of_reads (d := (0 : Int)) (h1 := fun _ => rfl) hr0) hc0 (fun x hx => by have := bounds_u8 (hw0 x hx); omega)
end Go.Proofs.Ytdalckmbmcenbaa.Sw
