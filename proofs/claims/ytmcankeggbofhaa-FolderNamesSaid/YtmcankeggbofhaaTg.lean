/- Which bytes are a folder: the walk of the program's Take, its loop. -/
import Derived.Test.YtmcankeggbofhaaTl
namespace Go.Proofs.Ytmcankeggbofhaa.Tg
open Go.RowKit Go.Proofs.YtmcankeggbofhaaW.PrintWords Go.Proofs.YtmcankeggbofhaaW.PrintMore
open It Nm Ag My Spc By Im Iw Ip Tk Tl OctC OctD
set_option linter.unusedVariables false
set_option linter.unusedSimpArgs false
set_option maxRecDepth 100000
theorem below_new {W W' : World} {o : Obj} (h : (W.alloc o).grownBy W' (some W.heap.size)) : Below W.heap.size W W' :=
  ((Below.refl W.heap.size W).alloc (Nat.le_refl _) o).grown h (by simp) (fun k hk => by cases hk; exact Nat.le_refl _)
def codeT : Option (List Itm) → Int | some _ => 0 | none => 4
def listT (o : Option (List Itm)) : List Itm := o.getD []
set_option maxHeartbeats 3200000 in
theorem take_count (A : Option Addr) (c : Nat) (b : List Int) (w : World) (hr : CB w A b) (hc : b.length ≤ c) (hl : b.length ≤ 4000) (hp : Lib.hasPrefix (strOfNums b).data.toList [68, 49] = true) (nv nk ne : Int) (htk_ : Aside0 (POct.octet_TakeCount.f 40 (b.drop 2) = some (nv, nk, ne))) (bad : Bool) (h1 : (ne != 0) = bad) (h2 : bad = false → decide (64 < nv) = true) :
    Calls Try.prog 20 #[.slice A b.length c] w fun e w' => e = .returned (.tuple #[.slice none 0 0, .int .i64 4]) ∧ Below w.heap.size w w' := by
  have d1 : decide (4000 < (b.length : Int)) = false := decide_eq_false (by omega)
  have h2l := pre_len hp
  have hcv := Kd.C_string (P := Try.prog) (c := c) Try.underlying33 Try.underlying5 Try.underlying9 hr
  have HP := Aside0.mk (fun w => (Try.strings_HasPrefix (strOfNums b) ⟨#[68, 49]⟩ w))
  rw [show Lib.hasPrefix (strOfNums b).data.toList (⟨#[68, 49]⟩ : ByteArray).data.toList = true from hp] at HP
  obtain ⟨y2, A2, hy2, hl2, hc2_, hcut2, hC2⟩ := cut_drop (P := Try.prog) 33 Try.underlying33 POct.info5 A c b 2 (by omega) (by omega) hc
  have htk : Aside0 (POct.octet_TakeCount.f 40 y2 = some (nv, nk, ne)) := ⟨by rw [hy2]; exact htk_.out⟩
  have HC2 := Aside0.mk hc2_
  have HR := Aside0.mk hr
  clear hr hp hy2 hl2 hc2_ htk_
  cases bad with
  | true =>
    go_enter Try.func20, Try.ntmps20
    go_wp2_with (go_at_call 32; refine (HP.out _).mono ?_; rintro e w' ⟨rfl, hw'⟩; rw [hw']; clear hw' w')
    refine (POct.octet_TakeCount.calls 40 A2 (c - 2) y2 nv nk ne _ (hC2 _ HR.out) HC2.out htk.out).mono ?_
    rintro e1 w1 ⟨rfl, hd1⟩
    go_wp2_with fail
    go_ret2
    exact ⟨rfl, hd1.below⟩
  | false =>
    have h3 := h2 rfl
    go_enter Try.func20, Try.ntmps20
    go_wp2_with (go_at_call 32; refine (HP.out _).mono ?_; rintro e w' ⟨rfl, hw'⟩; rw [hw']; clear hw' w')
    refine (POct.octet_TakeCount.calls 40 A2 (c - 2) y2 nv nk ne _ (hC2 _ HR.out) HC2.out htk.out).mono ?_
    rintro e1 w1 ⟨rfl, hd1⟩
    go_wp2_with fail
    go_ret2
    exact ⟨rfl, hd1.below⟩

set_option maxHeartbeats 6400000 in
theorem take_go (A : Option Addr) (c : Nat) (b : List Int) (w : World) (hr : CB w A b) (hc : b.length ≤ c) (hl : b.length ≤ 4000) (hby : ∀ x ∈ b, 0 ≤ x ∧ x < 256) (hp : Lib.hasPrefix (strOfNums b).data.toList [68, 49] = true) (N : Nat) (nk : Int) (htk_ : Aside0 (POct.octet_TakeCount.f 40 (b.drop 2) = some ((N : Int), nk, 0))) (hN : N ≤ 64) (hk0 : 0 ≤ nk) (hk1 : nk ≤ (b.drop 2).length) (out : Option (List Itm)) (hout : out = match parseN N ((b.drop 2).drop nk.toNat) with | none => none | some (l, r) => if 0 < r.length ∨ mayL l = false then none else some l) :
    Calls Try.prog 20 #[.slice A b.length c] w fun e w' => ∃ v, e = .returned (.tuple #[v, .int .i64 (codeT out)]) ∧ RI w' w.heap.size v (listT out) ∧ Below w.heap.size w w' := by
  have d1 : decide (4000 < (b.length : Int)) = false := decide_eq_false (by omega)
  have h2l := pre_len hp
  have hcv := Kd.C_string (P := Try.prog) (c := c) Try.underlying33 Try.underlying5 Try.underlying9 hr
  have HP := Aside0.mk (fun w => (Try.strings_HasPrefix (strOfNums b) ⟨#[68, 49]⟩ w))
  rw [show Lib.hasPrefix (strOfNums b).data.toList (⟨#[68, 49]⟩ : ByteArray).data.toList = true from hp] at HP
  obtain ⟨y2, A2, hy2, hl2, hc2_, hcut2, hC2⟩ := cut_drop (P := Try.prog) 33 Try.underlying33 POct.info5 A c b 2 (by omega) (by omega) hc
  have hy2' : y2 = b.drop 2 := hy2
  obtain ⟨e0, he0⟩ : ∃ e0 : Int, e0 = 0 := ⟨0, rfl⟩
  rw [← he0] at htk_
  have hez : (e0 != 0) = false := by rw [he0]; rfl
  have hn64 : decide (64 < (N : Int)) = false := decide_eq_false (by omega)
  have htk : Aside0 (POct.octet_TakeCount.f 40 y2 = some ((N : Int), nk, e0)) := ⟨by rw [hy2]; exact htk_.out⟩
  have HC2 := Aside0.mk hc2_
  have HR := Aside0.mk hr
  obtain ⟨b3, A3, hb3, hl3, hc3_, hcut3, hC3⟩ := cut_drop (P := Try.prog) 33 Try.underlying33 POct.info5 A2 (c - 2) y2 nk hk0 (by rw [hy2']; exact hk1) hc2_
  have HC3 := Aside0.mk hc3_
  have hb3' : b3 = (b.drop 2).drop nk.toNat := by rw [hb3, hy2']
  rw [← hb3'] at hout
  have HOUT := Aside0.mk hout
  have HU := Aside0.mk (show Upto N b3 0 [] b3 from ⟨rfl, by omega, by simp, by simp⟩)
  have HBY := Aside0.mk (show ∀ x ∈ b3, 0 ≤ x ∧ x < 256 from fun x hx => hby x (by rw [hb3'] at hx; exact List.mem_of_mem_drop (List.mem_of_mem_drop hx)))
  have HL3 := Aside0.mk (show b3.length ≤ 4000 by rw [hb3']; simp; omega)
  have NIL := Aside0.mk (fun w' : World => (Kd.R_nil kd 28 w' w.heap.size (fun _ => True)))
  clear hr hp hy2 hl2 hc2_ htk_ hy2' he0 hb3 hl3 hc3_ hb3' hout hby
  go_enter Try.func20, Try.ntmps20
  go_wp2_with (go_at_call 32; refine (HP.out _).mono ?_; rintro e w' ⟨rfl, hw'⟩; rw [hw']; clear hw' w')
  refine (POct.octet_TakeCount.calls 40 A2 (c - 2) y2 N nk e0 _ (hC2 _ HR.out) HC2.out htk.out).mono ?_
  rintro e1 w1 ⟨rfl, hd1⟩
  have HB1 := Aside0.mk hd1.below
  clear hd1
  go_wp2_with fail
  have HCC := Aside0.mk (fun W (h : CB W A b) => hC3 W (hC2 W h))
  go_loopw [0, 7, 38] (fun vb vl u wr => ∃ (j : Nat) (acc : List Itm) (bj : List Int) (Aj : Option Addr) (cj : Nat), j ≤ N ∧ u = .int .u64 j ∧ vb = .slice Aj bj.length cj ∧ Aside0 (bj.length ≤ cj) ∧ Aside0 (∀ W, CB W A b → CB W Aj bj) ∧ Aside0 (∀ x ∈ bj, 0 ≤ x ∧ x < 256) ∧ Aside0 (bj.length ≤ 4000) ∧ Aside0 (Upto N b3 j acc bj) ∧ Aside0 (RI wr w.heap.size vl acc) ∧ Aside0 (Below w.heap.size w wr)) (fun _ _ u _ => N - (intOf u).toNat)
  case atStart => exact ⟨0, [], b3, A3, _, by omega, rfl, rfl, HC3, HCC, HBY, HL3, HU, ⟨NIL.out _⟩, HB1⟩
  case round =>
    obtain ⟨j, acc, bj, Aj, cj, hj, rfl, rfl, Hcj, HCj, Hbj, Hlj, HUj, HOj, HBj⟩ := hrel
    by_cases hlt : j < N
    · cases hpp : parse bj with
      | none =>
        have hno := Aside0.mk (show out = none by rw [HOUT.out, upto_none HUj.out hlt hpp])
        have HI := Aside0.mk (fun w h => item_fails Aj cj bj w h Hcj.out (by have := Hlj.out; omega) Hbj.out hpp)
        go_wp2_with fail
        refine (HI.out _ (HCj.out _ (Kd.C_below HR.out HBj.out))).mono ?_
        rintro e2 w2 ⟨m, hm, rfl, hb2⟩
        have HB2 := Aside0.mk (below_step HBj.out hb2)
        have HBa := Aside0.mk (HB2.out.alloc HB2.out.size (.cells (cellsOf item0).toArray 28))
        have hga := Aside0.mk (heap_alloc_new w2 (.cells (cellsOf item0).toArray 28))
        clear hb2
        go_wp2_with (first | (with_reducible refine op_alloc rfl 28 rfl _ zero28 ?_) | (refine op_store (w0 := w) w.heap.size rfl 28 (.tmp 8) (.tmp 43) rfl w2.heap.size m rfl rfl 28 (cellsOf item0).toArray hga.out 35 info28 hm.1 (cells_sz ok0) hm.2 HBa.out HB2.out.size ?_; intro w3 hg3 hw3 HB3))
        go_ret2
        exact ⟨_, by rw [hno.out]; rfl, by rw [hno.out]; exact NIL.out _, HB3.out⟩
      | some p =>
        obtain ⟨x, rr⟩ := p
        have hpk := parse_ok bj Hbj.out x rr hpp
        have hok := hpk.1
        have HI := Aside0.mk (fun w h => item_gives Aj cj bj w h Hcj.out (by have := Hlj.out; omega) Hbj.out x rr hpp)
        have HUn := Aside0.mk (upto_some HUj.out hlt Hbj.out hpp)
        have HPK := Aside0.mk hpk
        clear hpk
        go_wp2_with fail
        refine (HI.out _ (HCj.out _ (Kd.C_below HR.out HBj.out))).mono ?_
        rintro e2 w2 ⟨An, cn, rfl, hcn, hCn, hb2⟩
        have HB2 := Aside0.mk (below_step HBj.out hb2)
        have HO2 := Aside0.mk (Kd.R_below HOj.out hb2)
        have HBa := Aside0.mk (HB2.out.alloc HB2.out.size (.cells (cellsOf item0).toArray 28))
        have hga := Aside0.mk (heap_alloc_new w2 (.cells (cellsOf item0).toArray 28))
        have Hcn := Aside0.mk hcn; have HCn := Aside0.mk hCn
        clear hb2 hcn hCn
        have hwj : IntKind.u64.wrap ((j : Int) + 1) = ((j + 1 : Nat) : Int) := by rw [u64_id (by omega) (by omega)]; omega
        go_wp2_with (first | (with_reducible refine op_alloc rfl 28 rfl _ zero28 ?_) | (refine op_store (w0 := w) w.heap.size rfl 28 (.tmp 8) (.tmp 43) rfl w2.heap.size (cellsOf x).toArray rfl rfl 28 (cellsOf item0).toArray hga.out 35 info28 (cells_sz hok) (cells_sz ok0) (cells_all x) HBa.out HB2.out.size ?_; intro w3 hg3 hw3 HB3; have HO3 := Aside0.mk (Kd.R_below HO2.out (below_new hw3.out)); clear hw3 hga HBa) | (refine op_load rfl 28 (.tmp 8) rfl w2.heap.size rfl 28 (cellsOf x).toArray _ hg3.out Try.underlying28 rfl 35 info28 (cells_sz hok) ?_) | (refine op_lit1 rfl (.tmp 49) rfl x hok rfl ?_) | (at_builtin; refine Kd.R_append kd (w0 := w) w.heap.size rfl (.tmp 48) (.tmp 50) 22 28 _ 64 rfl Try.underlying22 info28b (by show (cellsOf item0).toArray.size = 35; exact cells_sz ok0) (by decide) (by decide) _ acc x (cellsOf x) (fun _ => True) (fun _ => False) rfl rfl ⟨rfl, hok⟩ (fun _ h => h.elim) (fun _ _ => trivial) HO3.out HB3.out HB3.out.size (by have := HUj.out.1; have := HUj.out.2.1; omega) ?_; intro v4 w4 ho4 hB4 hg4 _))
        go_roundw
        case rel => exact ⟨j + 1, acc ++ [x], rr, An, cn, by omega, rfl, rfl, Hcn, ⟨fun W h => HCn.out W (HCj.out W h)⟩, ⟨fun y hy => Hbj.out y (HPK.out.2.2.2.1 y hy)⟩, ⟨by have := HPK.out.2.2.2.2.1; have := Hlj.out; omega⟩, HUn, ⟨ho4⟩, ⟨hB4⟩⟩
        case measure => simp [intOf]; omega
    · obtain rfl : j = N := by omega
      have hend := upto_end HUj.out
      have HO := Aside0.mk (show out = if 0 < bj.length ∨ mayL acc = false then none else some acc by rw [HOUT.out, hend])
      obtain ⟨Av, cv, hv, hcv2, hCv⟩ := Kd.R_reads HOj.out
      subst hv
      by_cases h0 : 0 < bj.length
      · have e0' : decide (0 < (bj.length : Int)) = true := decide_eq_true (by omega)
        have hno := Aside0.mk (show out = none by rw [HO.out, if_pos (.inl h0)])
        go_wp2_with fail
        go_ret2
        exact ⟨_, by rw [hno.out]; rfl, by rw [hno.out]; exact NIL.out _, HBj.out⟩
      · have e0' : decide (0 < (bj.length : Int)) = false := decide_eq_false (by omega)
        have hz : bj.length = 0 := by omega
        go_wp2_with fail
        refine (may_calls Av cv acc _ hCv hcv2 (by have := HUj.out.1; omega)).mono ?_
        cases hm : mayL acc with
        | false =>
          rintro e5 w5 ⟨rfl, hb5⟩
          have hno := Aside0.mk (show out = none by rw [HO.out, if_pos (.inr hm)])
          go_wp2_with fail
          go_ret2
          exact ⟨_, by rw [hno.out]; rfl, by rw [hno.out]; exact NIL.out _, below_step HBj.out hb5⟩
        | true =>
          rintro e5 w5 ⟨rfl, hb5⟩
          have hyes := Aside0.mk (show out = some acc by rw [HO.out, if_neg (by rintro (h | h); exact h0 h; rw [hm] at h; cases h)])
          have HO5 := Aside0.mk (Kd.R_below HOj.out hb5)
          go_wp2_with fail
          go_ret2
          exact ⟨_, by rw [hyes.out]; rfl, by rw [hyes.out]; exact HO5.out, below_step HBj.out hb5⟩

/-- What the program's Take answers. -/
theorem take_calls (A : Option Addr) (c : Nat) (b : List Int) (w : World) (hr : CB w A b) (hc : b.length ≤ c) (hby : ∀ x ∈ b, 0 ≤ x ∧ x < 256) :
    Calls Try.prog 20 #[.slice A b.length c] w fun e w' => ∃ v, e = .returned (.tuple #[v, .int .i64 (codeT (takeOut b))]) ∧ RI w' w.heap.size v (listT (takeOut b)) ∧ Below w.heap.size w w' := by
  have fin : takeOut b = none → (Calls Try.prog 20 #[.slice A b.length c] w fun e w' => e = .returned (.tuple #[.slice none 0 0, .int .i64 4]) ∧ Below w.heap.size w w') → Calls Try.prog 20 #[.slice A b.length c] w fun e w' => ∃ v, e = .returned (.tuple #[v, .int .i64 (codeT (takeOut b))]) ∧ RI w' w.heap.size v (listT (takeOut b)) ∧ Below w.heap.size w w' := fun hn h => h.mono fun e w' ⟨he, hb⟩ => ⟨.slice none 0 0, by rw [he, hn]; rfl, by rw [hn]; exact Kd.R_nil kd 28 w' w.heap.size _, hb⟩
  by_cases hl : 4000 < b.length
  · exact fin (by unfold takeOut; rw [if_pos hl]) (take_long A c b w hr hc hl)
  cases hp : Lib.hasPrefix (strOfNums b).data.toList [68, 49] with
  | false => exact fin (by unfold takeOut; rw [if_neg hl, if_pos hp]) (take_other A c b w hr hc (by omega) hp)
  | true =>
    have hp0 : ¬ Lib.hasPrefix (strOfNums b).data.toList [68, 49] = false := by rw [hp]; simp
    have hby2 : ∀ x ∈ b.drop 2, 0 ≤ x ∧ x < 256 := fun x hx => hby x (List.mem_of_mem_drop hx)
    have htk := takeCount_ok 40 (b.drop 2) hby2 (by simp; omega) (by omega)
    obtain ⟨nv, nk, ne, hk⟩ : ∃ nv nk ne, OctC.take 0 0 (b.drop 2) = (nv, nk, ne) := ⟨_, _, _, rfl⟩
    rw [hk] at htk
    by_cases hbad : ne ≠ 0 ∨ 64 < nv
    · refine fin (by unfold takeOut; rw [if_neg hl, if_neg hp0]; simp only [hk]; rw [if_pos hbad]) ?_
      by_cases hne : ne = 0
      · exact take_count A c b w hr hc (by omega) hp nv nk ne ⟨htk⟩ false (by simp [hne]) (fun _ => decide_eq_true (by rcases hbad with h | h; exact absurd hne h; exact h))
      · exact take_count A c b w hr hc (by omega) hp nv nk ne ⟨htk⟩ true (by simpa using hne) (fun h => by cases h)
    · have hne : ne = 0 := by
        by_cases h0 : ne = 0
        · exact h0
        · exact absurd (.inl h0) hbad
      subst hne
      have hin := take_in (b.drop 2) hby2 (by rw [hk])
      rw [hk] at hin
      obtain ⟨h0, hk0, hk1, _⟩ := hin
      have hnv : ((nv.toNat : Nat) : Int) = nv := Int.toNat_of_nonneg h0
      have h64 : ¬ 64 < nv := fun h => hbad (.inr h)
      have hN : nv.toNat ≤ 64 := by omega
      have := take_go A c b w hr hc (by omega) hby hp nv.toNat nk ⟨by rw [hnv]; exact htk⟩ hN hk0 hk1 (takeOut b) (by unfold takeOut; rw [if_neg hl, if_neg hp0]; simp only [hk]; rw [if_neg hbad]; generalize parseN nv.toNat _ = o; cases o <;> rfl)
      exact this
end Go.Proofs.Ytmcankeggbofhaa.Tg
