/- The walk of the law FolderTurned. -/
import Derived.Test.YtmcankeggbofhaaLb
namespace Go.Proofs.Ytmcankeggbofhaa.Lt
open Go.RowKit Go.Proofs.YtmcankeggbofhaaW.PrintWords Go.Proofs.YtmcankeggbofhaaW.PrintLast Go.Proofs.YtmcankeggbofhaaW.PrintMore
open It Nm Ag My Spc By Im Iw Ip Tk Tl Tg Ie Bg Rv Tw Lr Fp Fq OctC Lb
set_option linter.unusedVariables false
set_option linter.unusedSimpArgs false
set_option maxRecDepth 100000
theorem xor_zero_iff (a x : Int) (ha : 0 ≤ a ∧ a < 256) (hx : 0 ≤ x ∧ x < 256) : (0 ≤ bits .xor .u8 a x ∧ bits .xor .u8 a x < 256) ∧ (bits .xor .u8 a x = a ↔ x = 0) := by
  rw [u8_xor a x ha.1 ha.2 hx.1 hx.2]
  have hlt : a.toNat ^^^ x.toNat < 2 ^ 8 := Nat.xor_lt_two_pow (by omega) (by omega)
  refine ⟨by omega, ?_⟩
  constructor
  · intro h
    have h1 : a.toNat ^^^ x.toNat = a.toNat := by omega
    have h2 : a.toNat ^^^ (a.toNat ^^^ x.toNat) = 0 := by rw [h1, Nat.xor_self]
    rw [← Nat.xor_assoc, Nat.xor_self, Nat.zero_xor] at h2
    omega
  · rintro rfl
    simp
    omega
theorem set_own {W : World} {g cap : Nat} {cur : Array Value} {xs : List Int} {base : Nat} (hb : base ≤ g) (hh : W.heap[g]? = some (.cells cur 5 (0, 0))) (hnc : xs.length ≤ cap) (hcm : cap ≤ maxLen) (hcs : cur.size = cap * 1) (ht : cur.toList.take (xs.length * 1) = nums .u8 xs) (k : Nat) (y : Int) (hk : k < xs.length) :
    RB (W.setCell ⟨g, k, none⟩ (.int .u8 y)) base (.slice (some ⟨g, 0, none⟩) (xs.set k y).length cap) (xs.set k y) := by
  refine RB.of_own ⟨by simp [nums], .inr ⟨g, cap, cur.setIfInBounds k (.int .u8 y), rfl, hb, blk_set hh k _, by simpa using hnc, hcm, by simpa using hcs, ?_⟩⟩
  have ht' : cur.toList.take xs.length = nums .u8 xs := by simpa using ht
  rw [Array.toList_setIfInBounds, List.length_set, Nat.mul_one]
  have : nums .u8 (xs.set k y) = (nums .u8 xs).set k (.int .u8 y) := by simp [nums, List.map_set]
  rw [this, ← ht', List.take_set]
theorem RB_own {W : World} {base : Nat} {v : Value} {xs : List Int} (h : RB W base v xs) (hp : 0 < xs.length) : ∃ (g cap : Nat) (cur : Array Value), v = .slice (some ⟨g, 0, none⟩) xs.length cap ∧ base ≤ g ∧ W.heap[g]? = some (.cells cur 5 (0, 0)) ∧ xs.length ≤ cap ∧ cap ≤ maxLen ∧ cur.size = cap * 1 ∧ cur.toList.take (xs.length * 1) = nums .u8 xs := by
  have hown := RB.own h
  rcases hown.2 with ⟨_, h0⟩ | ⟨g, cap, cur, h1, hb, hh, hnc, hcm, hcs, ht⟩
  · omega
  · exact ⟨g, cap, cur, h1, hb, hh, hnc, hcm, hcs, ht⟩
theorem set_ne {xs : List Int} {k : Nat} {y a : Int} (hk : xs[k]? = some a) (h : y ≠ a) : xs.set k y ≠ xs := by
  intro e
  have h1 : (xs.set k y)[k]? = xs[k]? := by rw [e]
  have hlt : k < xs.length := by
    rcases Nat.lt_or_ge k xs.length with h | h
    · exact h
    · rw [List.getElem?_eq_none h] at hk; cases hk
  rw [List.getElem?_set, if_pos rfl, if_pos hlt, hk] at h1
  exact h (Option.some.inj h1)
set_option maxHeartbeats 6400000 in
theorem turned_walk (A : Option Addr) (c : Nat) (l : List Itm) (at_ x : Int) (w : World) (hr : CI w A l) (hc : l.length ≤ c) (hok : okI l) (hbi : bytI l) (hx : 0 ≤ x ∧ x < 256) :
    Calls Try.prog 8 #[.slice A l.length c, .int .i64 at_, .int .u8 x] w fun e w' => e = .returned (.bool true) ∧ Below w.heap.size w w' := by
  have HR := Aside0.mk hr; have HC := Aside0.mk hc
  have HLI := Aside0.mk (fun w h => light_false (l := l) w A c h hc)
  have HBY := Aside0.mk (fun w h => bytes_calls A c l w h hc hr.2.1 hok)
  by_cases hbo : (bytesOut l).2 = 0
  · have hm : mayL l = true := by
      unfold bytesOut at hbo
      by_cases hm : mayL l = true
      · exact hm
      · rw [if_neg hm] at hbo; simp at hbo
    have hlen : (foldB l).length ≤ 4000 := by
      unfold bytesOut at hbo
      rw [if_pos hm] at hbo
      by_cases hl : (foldB l).length ≤ 4000
      · exact hl
      · rw [if_neg hl] at hbo; simp at hbo
    have hout : bytesOut l = (foldB l, 0) := by unfold bytesOut; rw [if_pos hm, if_pos hlen]
    rw [hout] at HBY
    cases hli : Li.lightB l with
    | false =>
      rw [hli] at HLI
      obtain ⟨bb, hb⟩ : ∃ bb, Aside0 (bb = foldB l) := ⟨_, ⟨rfl⟩⟩
      rw [← hb.out] at HBY
      clear hr hc hok hbi hx hli hbo hm hlen hout hb
      go_enter Try.func8, Try.ntmps8
      go_wp2_with fail
      refine (begun_calls _).mono ?_
      rintro e0 w0 ⟨rfl, hb0⟩
      have HB0 := Aside0.mk hb0
      clear hb0
      go_wp2_with fail
      refine (HBY.out _ (Kd.C_below HR.out HB0.out)).mono ?_
      rintro e2 w2 ⟨v2, rfl, ho2, hb2⟩
      have HB2 := Aside0.mk (below_step HB0.out hb2)
      clear hb2 HB0 ho2
      go_wp2_with fail
      refine (HLI.out _ (Kd.C_below HR.out HB2.out)).mono ?_
      rintro e1 w1 ⟨rfl, hb1⟩
      have HB1 := Aside0.mk (below_step HB2.out hb1)
      clear hb1 HB2
      go_wp2_with fail
      go_ret
      exact ⟨rfl, HB1.out⟩
    | true =>
      rw [hli] at HLI
      have hbb := foldB_byte hm hok hbi
      have htk := takeOut_fold hm hok hbi hlen
      have hpos : 0 < (foldB l).length := by unfold foldB foldTo; simp
      obtain ⟨bb, hb⟩ : ∃ bb, Aside0 (bb = foldB l) := ⟨_, ⟨rfl⟩⟩
      rw [← hb.out] at HBY hbb htk hpos hlen
      obtain ⟨k, hk, hpl⟩ := place_ok at_ bb.length hpos (by omega)
      obtain ⟨a, ha⟩ : ∃ a, bb[k]? = some a := ⟨_, List.getElem?_eq_getElem hk⟩
      have haB := hbb a (List.mem_of_getElem? ha)
      obtain ⟨hyB, hyx⟩ := xor_zero_iff a x haB hx
      obtain ⟨y, hy⟩ : ∃ y, bits .xor .u8 a x = y := ⟨_, rfl⟩
      rw [hy] at hyB hyx
      have hb2 : ∀ z ∈ bb.set k y, 0 ≤ z ∧ z < 256 := fun z hz => by
        rcases List.mem_or_eq_of_mem_set hz with h | h
        · exact hbb z h
        · rw [h]; exact hyB
      have HT := Aside0.mk (fun A c w h hc => take_calls A c (bb.set k y) w h hc hb2)
      have HBB2 := Aside0.mk hb2
      have hset : x = 0 → bb.set k y = bb := fun h => by
        have : y = a := hyx.2 h
        subst this
        apply List.ext_getElem?
        intro i
        rw [List.getElem?_set]
        by_cases hik : k = i
        · subst hik; rw [if_pos rfl, if_pos hk, ha]
        · rw [if_neg hik]
      have hsetn : x ≠ 0 → bb.set k y ≠ bb := fun h => set_ne ha (fun e => h (hyx.1 e))
      have HPL := Aside0.mk hpl; have HK := Aside0.mk hk; have HLN := Aside0.mk hlen; have HPOS := Aside0.mk hpos; have HA := Aside0.mk ha; have HTK := Aside0.mk htk
      have hdz : ((bb.length : Int) == 0) = false := beq_eq_false_iff_ne.2 (by omega)
      have HSET := Aside0.mk hset; have HSETN := Aside0.mk hsetn; have HX := Aside0.mk hx; have HFB := Aside0.mk hb.out
      clear hr hc hok hbi hli hbo hm hlen hout hbb htk hpos hb hpl hk ha haB hyB hyx hb2 hset hsetn hx
      go_enter Try.func8, Try.ntmps8
      go_wp2_with fail
      refine (begun_calls _).mono ?_
      rintro e0 w0 ⟨rfl, hb0⟩
      have HB0 := Aside0.mk hb0
      clear hb0
      go_wp2_with fail
      refine (HBY.out _ (Kd.C_below HR.out HB0.out)).mono ?_
      rintro e2 w2 ⟨v2, rfl, ho2, hb2⟩
      have HB2 := Aside0.mk (below_step HB0.out hb2)
      have HO2 := Aside0.mk (Kd.R_lower ho2 HB0.out.size)
      clear hb2 HB0 ho2
      go_wp2_with fail
      refine (HLI.out _ (Kd.C_below HR.out HB2.out)).mono ?_
      rintro e1 w1 ⟨rfl, hb1⟩
      have HB1 := Aside0.mk (below_step HB2.out hb1)
      have HO1 := Aside0.mk (Kd.R_below HO2.out hb1)
      clear hb1 HB2 HO2
      obtain ⟨g, cap, cur, rfl, hbg, hh, hnc, hcm, hcs, ht⟩ := RB_own HO1.out HPOS.out
      have HOWN := Aside0.mk (And.intro hbg (And.intro hh (And.intro hnc (And.intro hcm (And.intro hcs ht)))))
      clear hbg hh hnc hcm hcs ht HO1
      go_wp2_with fail
      refine (POct.cofferlaw0_Place.calls at_ bb.length k w1 HPL.out).mono ?_
      rintro e4 w4 ⟨rfl, hd4⟩
      have hb4 := hd4.below
      have HB4 := Aside0.mk (below_step HB1.out hb4)
      have hh4 := (hb4.block g (blk_lt HOWN.out.2.1)).trans HOWN.out.2.1
      have HH4 := Aside0.mk hh4
      have hcell : w4.cell? ⟨g, k, none⟩ = some (.int .u8 a) := by
        rw [blk_cell hh4]
        have h1 : cur.toList.take bb.length = nums .u8 bb := by simpa using HOWN.out.2.2.2.2.2
        have h2 : (cur.toList.take bb.length)[k]? = some (.int .u8 a) := by rw [h1]; simp [nums, HA.out]
        rw [List.getElem?_take, if_pos HK.out] at h2
        simpa using h2
      have hfr := blk_frozen hh4 k
      have hkl := HK.out
      clear hb4 hd4 HB1 hh4
      go_wp2_with fail
      have HO5 := Aside0.mk (set_own (base := w.heap.size) HOWN.out.1 HH4.out HOWN.out.2.2.1 HOWN.out.2.2.2.1 HOWN.out.2.2.2.2.1 HOWN.out.2.2.2.2.2 k y HK.out)
      have HB5 := Aside0.mk (HB4.out.setCell (p := ⟨g, k, none⟩) HOWN.out.1 (.int .u8 y))
      clear HB4 HH4 hcell hfr hkl
      generalize w4.setCell ⟨g, k, none⟩ (.int .u8 y) = w5 at HO5 HB5 ⊢
      have hln : (bb.set k y).length = bb.length := List.length_set
      have hcap := HOWN.out.2.2.1
      rw [← hln] at hcap ⊢
      obtain ⟨b2, hb2⟩ : ∃ b2, Aside0 (b2 = bb.set k y) := ⟨_, ⟨rfl⟩⟩
      rw [← hb2.out] at HT HO5 HBB2 HSET HSETN hcap ⊢
      have HC5 := Aside0.mk (Kd.R_reads' HO5.out).2.2
      clear hln HOWN HA HK HPL hdz hy hb2 HO5
      cases hto : takeOut b2 with
      | none =>
        rw [hto] at HT
        have hx0 : (x != 0) = true := by
          rw [bne_iff_ne]
          intro h
          rw [HSET.out h, HTK.out] at hto
          cases hto
        clear hto HSET HSETN HTK HFB HBB2
        go_wp2_with fail
        refine (HT.out _ cap w5 HC5.out hcap).mono ?_
        rintro e6 w6 ⟨v6, rfl, ho6, hb6⟩
        have ho6' : RI w6 w5.heap.size v6 [] := ho6
        obtain ⟨A6, c6, rfl, hc6, hC6⟩ := Kd.R_reads ho6'
        have HB6 := Aside0.mk (below_step HB5.out hb6)
        clear ho6 ho6' hb6 hC6
        simp only [List.length_nil, codeT]
        go_wp2_with fail
        go_ret
        exact ⟨rfl, HB6.out⟩
      | some m =>
        rw [hto] at HT
        obtain ⟨hm, hf, hln, hokm⟩ := takeOut_some b2 HBB2.out m hto
        have hout : bytesOut m = (b2, 0) := by unfold bytesOut; rw [if_pos hm, if_pos (by rw [hf]; exact hln), hf]
        have HEQ : Aside0 (eqL m l = (x == 0)) := ⟨by
          rw [Bool.eq_iff_iff]
          unfold eqL
          simp only [decide_eq_true_eq, beq_iff_eq]
          constructor
          · intro e
            by_cases h : x = 0
            · exact h
            · exact absurd (by rw [← hf, e, ← HFB.out]) (HSETN.out h)
          · intro h
            rw [HSET.out h, HTK.out] at hto
            exact (Option.some.inj hto).symm⟩
        have HBM := Aside0.mk (fun A c w h hc hmx => bytes_calls A c m w h hc hmx hokm)
        rw [hout] at HBM
        clear hto HSET HSETN HTK HFB hm hf hln hokm hout
        go_wp2_with fail
        refine (HT.out _ cap w5 HC5.out hcap).mono ?_
        rintro e6 w6 ⟨v6, rfl, ho6, hb6⟩
        have ho6' : RI w6 w5.heap.size v6 m := ho6
        obtain ⟨A6, c6, rfl, hc6, hC6⟩ := Kd.R_reads ho6'
        have HB6 := Aside0.mk (below_step HB5.out hb6)
        have HC56 := Aside0.mk (Kd.C_below HC5.out hb6)
        have HC6 := Aside0.mk hC6; have Hc6 := Aside0.mk hc6
        clear ho6 ho6' hb6 hC6 HC5 HB5 hc6
        simp only [codeT]
        go_wp2_with fail
        refine (HBM.out A6 c6 w6 HC6.out Hc6.out HC6.out.2.1).mono ?_
        rintro e7 w7 ⟨v7, rfl, ho7, hb7⟩
        have hcva := own_string (P := Try.prog) Try.underlying33 Try.underlying5 Try.underlying9 (RB.own ho7)
        have hcvb := Kd.C_string (P := Try.prog) (c := cap) Try.underlying33 Try.underlying5 Try.underlying9 (Kd.C_below HC56.out hb7)
        have HB7 := Aside0.mk (below_step HB6.out hb7)
        have HAL := Aside0.mk (alike_calls A6 A c6 c m l w7 (Kd.C_below HC6.out hb7) (Kd.C_below HR.out HB7.out) Hc6.out HC.out)
        rw [HEQ.out] at HAL
        clear ho7 hb7 HB6 HC56 HC6
        go_wp2_with fail
        refine HAL.out.mono ?_
        rintro e8 w8 ⟨rfl, hb8⟩
        have HB8 := Aside0.mk (below_step HB7.out hb8)
        go_wp2_with fail
        go_ret
        exact ⟨by first | rfl | simp, HB8.out⟩
  · have hz : (bytesOut l).1 = [] := by
      unfold bytesOut at hbo ⊢
      by_cases hm : mayL l = true
      · rw [if_pos hm] at hbo ⊢
        by_cases hl : (foldB l).length ≤ 4000
        · rw [if_pos hl] at hbo; simp at hbo
        · rw [if_neg hl]
      · rw [if_neg hm]
    rw [hz] at HBY
    obtain ⟨ne, hne⟩ : ∃ ne, Aside0 (ne = (bytesOut l).2) := ⟨_, ⟨rfl⟩⟩
    obtain ⟨li, hli⟩ : ∃ li, Aside0 (li = Li.lightB l) := ⟨_, ⟨rfl⟩⟩
    rw [← hne.out] at HBY hbo
    rw [← hli.out] at HLI
    have hnz : (ne != 0) = true := by simpa using hbo
    clear hr hc hok hbi hx hbo hz hne hli
    cases li
    all_goals
      go_enter Try.func8, Try.ntmps8
      go_wp2_with fail
      refine (begun_calls _).mono ?_
      rintro e0 w0 ⟨rfl, hb0⟩
      have HB0 := Aside0.mk hb0
      clear hb0
      go_wp2_with fail
      refine (HBY.out _ (Kd.C_below HR.out HB0.out)).mono ?_
      rintro e2 w2 ⟨v2, rfl, ho2, hb2⟩
      have HB2 := Aside0.mk (below_step HB0.out hb2)
      clear hb2 HB0 ho2
      go_wp2_with fail
      refine (HLI.out _ (Kd.C_below HR.out HB2.out)).mono ?_
      rintro e1 w1 ⟨rfl, hb1⟩
      have HB1 := Aside0.mk (below_step HB2.out hb1)
      clear hb1 HB2
      go_wp2_with fail
      go_ret
      exact ⟨rfl, HB1.out⟩
theorem turned_walk2 (A : Option Addr) (c : Nat) (l : List Itm) (at_ x : Int) (w : World) (hr : CI w A l) (hc : l.length ≤ c) (hok : okI l) (hbi : bytI l) (_ : (Lit.int .i64 at_).wf = true) (w2 : (Lit.int .u8 x).wf = true) :
    Calls Try.prog 8 #[.slice A l.length c, .int .i64 at_, .int .u8 x] w fun e w' => e = .returned (.bool true) ∧ Below w.heap.size w w' :=
  turned_walk A c l at_ x w hr hc hok hbi (by have := bounds_u8 w2; omega)
end Go.Proofs.Ytmcankeggbofhaa.Lt
