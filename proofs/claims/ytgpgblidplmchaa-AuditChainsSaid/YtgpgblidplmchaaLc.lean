/- Numbered, walked; a list of entries that comes in, opened. The law AuditChains, walked. -/
import Derived.Test.YtgpgblidplmchaaHa
import Derived.Test.YtgpgblidplmchaaIi
import Derived.Test.YtgpgblidplmchaaLb
namespace Go.Proofs.Ytgpgblidplmchaa.Nu
open Go.RowKit Go.Proofs.YtgpgblidplmchaaW.PrintWords Go.Proofs.YtgpgblidplmchaaW.PrintLast Go.Proofs.YtgpgblidplmchaaW.PrintMore
open Ag En Spc OctA Eb Eg Ep Et Eh Ek Lk Hd Ex Spw Vp Vr
set_option linter.unusedVariables false
set_option linter.unusedSimpArgs false
set_option maxRecDepth 100000
def seqd (x : Ent) (i : Nat) : Ent := { x with seq := (i : Int) }
def numL (l : List Ent) : List Ent := l.mapIdx fun i x => seqd x i
theorem numL_len (l : List Ent) : (numL l).length = l.length := by simp [numL]
theorem numL_next (l : List Ent) (j : Nat) (hj : j < l.length) : numL (l.take (j + 1)) = numL (l.take j) ++ [seqd l[j] j] := by
  rw [List.take_succ_eq_append_getElem hj]
  unfold numL
  rw [List.mapIdx_append]
  simp
  congr 1
  omega
theorem numL_at (l : List Ent) (i : Nat) (h : i < (numL l).length) : (numL l)[i] = seqd (l[i]'(by rw [numL_len] at h; exact h)) i := by simp [numL]
theorem numL_wf {l : List Ent} (h : ∀ x ∈ l, Wf x) (hl : l.length ≤ 100000) : ∀ x ∈ numL l, Wf x := by
  intro x hx
  obtain ⟨i, hi, rfl⟩ := List.getElem_of_mem hx
  rw [numL_at]
  have h1 := h (l[i]'(by rw [numL_len] at hi; exact hi)) (List.getElem_mem _)
  have : i < l.length := by rw [numL_len] at hi; exact hi
  unfold Wf at h1 ⊢
  obtain ⟨a, b, c⟩ := h1
  refine ⟨a, ?_, c⟩
  have e : (seqd (l[i]'(by rw [numL_len] at hi; exact hi)) i).seq = (i : Int) := rfl
  rw [e]
  omega
structure N0 (w W : World) (A : Option Addr) (l : List Ent) : Prop where
  below : Below w.heap.size w W
  ce : CE W A l
theorem N0.step {w W W2 : World} {A : Option Addr} {l : List Ent} (h : N0 w W A l) (hb : Below W.heap.size W W2) : N0 w W2 A l := ⟨h.below.trans (hb.mono h.below.size), Kd.C_below h.ce hb⟩
theorem ok_seqd {x : Ent} (h : Ok x) (i : Nat) : Ok (seqd x i) := h
set_option maxHeartbeats 3200000 in
theorem numbered_calls (A : Option Addr) (c : Nat) (l : List Ent) (w : World) (hr : CE w A l) (hc : l.length ≤ c) (hl : l.length ≤ 100000) :
    Calls Try.prog 11 #[.slice A l.length c] w fun e w' => ∃ v, e = .returned v ∧ RE w' w.heap.size v (numL l) ∧ Below w.heap.size w w' := by
  have HS := Aside0.mk (⟨Below.refl _ _, hr⟩ : N0 w w A l)
  have hmx := hr.2.1
  have HRE := Aside0.mk (show RE w w.heap.size (.slice none 0 0) [] from Kd.R_nil _ _ _ _ _)
  have HLL := Aside0.mk hl
  have HR := Aside0.mk hr
  clear hr
  go_enter Try.func11, Try.ntmps11
  go_upto_region 3 with (fail)
  go_loopw [3, 4] (fun vb va wr => ∃ (j : Nat) (pre : List Ent) (A3 : Option Addr) (c3 : Nat), j ≤ l.length ∧ vb = .slice A3 pre.length c3 ∧ va = .int .i64 j ∧ Aside0 (pre = numL (l.take j)) ∧ Aside0 (RE wr w.heap.size (.slice A3 pre.length c3) pre) ∧ Aside0 (N0 w wr A l)) (fun _ va _ => l.length - (intOf va).toNat)
  case atStart => exact ⟨0, [], none, 0, by omega, rfl, rfl, ⟨rfl⟩, HRE, HS⟩
  case round =>
    clear HS HRE
    obtain ⟨j, pre, A3, c3, hj, rfl, rfl, HP, HRE, HS⟩ := hrel
    by_cases hlt : j < l.length
    · obtain ⟨ad, rfl, hok, _, hload⟩ := ent_at HS.out.ce j hlt
      have HLD := Aside0.mk hload
      have HLT := Aside0.mk hlt
      have hlt' : decide (j < l.length) = true := by simpa using hlt
      have hlt'' : decide ((j : Int) < (l.length : Int)) = true := by simp; omega
      obtain ⟨x, hx⟩ : ∃ x, l[j] = x := ⟨_, rfl⟩
      have HX := Aside0.mk hx
      rw [hx] at HLD hok
      have HOK := Aside0.mk hok
      have HCZ := Aside0.mk (cells_sz hok)
      have HOK2 := Aside0.mk (ok_seqd hok j)
      have HCZ2 := Aside0.mk (cells_sz (ok_seqd hok j))
      have HPL := Aside0.mk (show pre.length ≤ 100000 from by rw [HP.out, numL_len, List.length_take]; have := HLL.out; omega)
      obtain ⟨g5, hg5⟩ : ∃ g, wr.heap.size = g := ⟨_, rfl⟩
      have HG5 := Aside0.mk hg5
      have HN5 := Aside0.mk (hg5 ▸ heap_alloc_new wr (.cells (cellsOf ent0).toArray 27) : (wr.alloc (.cells (cellsOf ent0).toArray 27)).heap[g5]? = some (.cells (cellsOf ent0).toArray 27 (0, 0)))
      have HB5 := Aside0.mk (show Below g5 (wr.alloc (.cells (cellsOf ent0).toArray 27)) (wr.alloc (.cells (cellsOf ent0).toArray 27)) from Below.refl _ _)
      clear hload hg5 hx hok
      have hload2 := HLD.out
      go_wp2_with (first
        | ((with_reducible refine op_load_at (o := ⟨some 15, _, _, _, _, _⟩) ?_ 27 (.tmp 14) ?_ _ (.agg (cellsOf x).toArray) ?_ HLD.out ?_); rfl; rfl; rfl)
        | ((with_reducible refine op_alloc rfl 27 rfl _ zero27 ?_); simp only [HG5.out])
        | ((with_reducible refine op_store (w0 := wr.alloc (.cells (cellsOf ent0).toArray 27)) (o := ⟨none, .store 27 (.tmp 5) (.tmp 15), _, _, _, _⟩) g5 ?_ 27 (.tmp 5) (.tmp 15) ?_ g5 (cellsOf x).toArray ?_ ?_ 27 _ HN5.out 38 info27 HCZ.out (cells_sz ok0) (cells_all _) HB5.out (Nat.le_refl _) ?_); rfl; rfl; rfl; rfl; intro W3 h1 h2 h3; have HI3 := Aside0.mk (show It W3 g5 x from h1.out); clear hload2)
        | ((refine op_put (w0 := wr.alloc (.cells (cellsOf ent0).toArray 27)) (o := ⟨none, .store 2 (.tmp 17) (.tmp 16), _, _, _, _⟩) g5 rfl 2 (.tmp 17) (.tmp 16) rfl g5 0 (.int .i64 j) x (seqd x j) rfl rfl HI3.out (put_seq HI3.out HOK.out (j : Int)) h3.out (Nat.le_refl _) ?_); intro W4 k1 k2 k3; have HB4 := Aside0.mk (made_ent (x := x) HG5.out k3.out); have HV4 := Aside0.mk (HS.out.step HB4.out); have HOO := Aside0.mk (Kd.R_below HRE.out HB4.out); have HO4 := Aside0.mk (show W4.heap[g5]? = some (.cells (cellsOf (seqd x j)).toArray 27 (0, 0)) from k1.out))
        | (with_reducible refine op_load rfl 27 _ rfl g5 rfl 27 _ _ HO4.out Try.underlying27 rfl 38 info27 HCZ2.out ?_)
        | (refine Lb.op_lit1 rfl (.tmp 19) rfl (seqd x j) HOK2.out rfl ?_)
        | (at_builtin; refine Kd.R_append kd (w0 := w) w.heap.size rfl (.tmp 18) (.tmp 20) 22 27 _ 88 rfl Try.underlying22 info27b (by show (cellsOf ent0).toArray.size = 38; exact cells_sz ok0) (by decide) (by decide) _ pre (seqd x j) (cellsOf (seqd x j)) (fun _ => True) (fun _ => False) rfl rfl ⟨rfl, HOK2.out⟩ (fun _ h => h.elim) (fun _ _ => trivial) HOO.out HV4.out.below HV4.out.below.size (by have := HPL.out; omega) ?_; intro v5 w5 ho5 hB5 hg5 _))
      obtain ⟨A5, c5, rfl, hc5, _⟩ := Kd.R_reads ho5
      have HPN := Aside0.mk (show pre ++ [seqd x j] = numL (l.take (j + 1)) from by rw [numL_next l j HLT.out, HX.out, ← HP.out])
      have HQ5 := Aside0.mk (show N0 w w5 (some ad) l from ⟨hB5, Kd.C_below HR.out hB5⟩)
      have HO5 := Aside0.mk ho5
      clear ho5 hB5 hg5
      go_roundw
      case rel => exact ⟨j + 1, pre ++ [seqd x j], A5, c5, by have := HLT.out; omega, rfl, by go_num, HPN, HO5, HQ5⟩
      case measure => have := HLT.out; simp [intOf]; omega
    · obtain rfl : j = l.length := by omega
      have HPP := Aside0.mk (show pre = numL l from by rw [HP.out, List.take_length])
      clear HP
      go_wp2
      go_ret
      have := HPP.out
      subst this
      exact ⟨_, rfl, HRE.out, HS.out.below⟩
end Go.Proofs.Ytgpgblidplmchaa.Nu
namespace Go.Proofs.Ytgpgblidplmchaa.Oe
open Go.RowKit Go.ChangeShapes Go.WideShapes Go.Deep
open En Eb Ag Io Go.Proofs.YtgpgblidplmchaaW.PrintWords
set_option linter.unusedVariables false
section
variable {H : Type} {enc : TypeId × Value → H} {W : World} {base : Nat} {spare : Nat → Bool} {held : Bool}
theorem open_ents {rr : Reach} {b0 : Nat} {v : Value} {d : DataW H} {p : List MemPlace} (hv : Value.okWide Try.prog W rr b0 22 v) (h : DataW.Trod enc Try.prog W base (fun _ => true) held 22 v d p) :
    ∃ (A : Option Addr) (c : Nat) (l : List Ent), v = .slice A l.length c ∧ CE W A l ∧ l.length ≤ c ∧ ∀ x ∈ l, Wf x := by
  obtain ⟨A, len, cap, rfl⟩ := okWide_slice Try.underlying22 hv
  obtain ⟨fuel, hf⟩ := h
  have c27 : Try.prog.cellsOf 27 = 38 := by kernel_rfl
  rcases open_slice Try.underlying22 hf with ⟨hcs, _⟩ | ⟨a, n, cp, m, k, D, Pl, hcs, _, hl, hm, hmm, _, hx⟩
  · simp [Value.cells] at hcs
    obtain ⟨rfl, rfl, rfl⟩ := hcs
    refine ⟨none, 0, [], rfl, ⟨rfl, by simp, fun h => by simp at h⟩, by simp, fun x hx => by simp at hx⟩
  · simp [Value.cells] at hcs
    obtain ⟨rfl, rfl, rfl⟩ := hcs
    simp only [if_true] at hmm
    subst hmm
    simp only [c27] at hx
    obtain ⟨f, hff⟩ : ∃ f : Nat → Ent, ∀ i, i < m → Wf (f i) ∧ ∀ j u, (cellsOf (f i))[j]? = some u → W.cell? (a.add (i * 38 + j)) = some u := by
      refine ⟨fun i => if hi : i < m then (trod_ent (hx i hi).choose_spec.2).choose else ent0, fun i hi => ?_⟩
      simp only [dif_pos hi]
      have hs := (hx i hi).choose_spec
      obtain ⟨h1, h2, _⟩ := (trod_ent hs.2).choose_spec
      refine ⟨h2, fun j u hj => ?_⟩
      rw [← h1] at hj
      have h3 := hs.1
      obtain ⟨_, hln, hat⟩ := World.cells?_some h3
      have hjl : j < 38 := by
        rcases Nat.lt_or_ge j 38 with h | h
        · exact h
        · rw [List.getElem?_eq_none (by omega)] at hj; cases hj
      rw [← Go.Deep.add_add, hat j hjl, hj]
    have hget : ∀ i, i < len → ((List.range len).map f)[i]? = some (f i) := fun i hi => by rw [List.getElem?_map, List.getElem?_range hi]; rfl
    have hmx : len ≤ 9223372036854775807 := by simp only [maxLen] at hm; omega
    refine ⟨some a, m, (List.range len).map f, by simp, ⟨rfl, by simpa using hmx, fun _ => ⟨a, rfl, fun j p hj => ?_⟩⟩, by simpa using hl, fun x hx' => ?_⟩
    · have hjl : j < len := by
        rcases Nat.lt_or_ge j len with h | h
        · exact h
        · rw [List.getElem?_eq_none (by simpa using h)] at hj; cases hj
      rw [hget j hjl] at hj
      obtain rfl := Option.some.inj hj
      have := hff j (by omega)
      exact ⟨cellsOf (f j), cells_len this.1.1, ⟨rfl, this.1.1⟩, this.2⟩
    · obtain ⟨i, hi, rfl⟩ := List.mem_map.1 hx'
      exact (hff i (by have := List.mem_range.1 hi; omega)).1
end
end Go.Proofs.Ytgpgblidplmchaa.Oe
namespace Go.Proofs.Ytgpgblidplmchaa.Lc
open Go.RowKit Go.Proofs.YtgpgblidplmchaaW.PrintWords Go.Proofs.YtgpgblidplmchaaW.PrintLast Go.Proofs.YtgpgblidplmchaaW.PrintMore
open Ag En Spc OctA Eb Eg Ep Et Eh Ek Lk Hd Ex Spw Vp Nu
set_option linter.unusedVariables false
set_option linter.unusedSimpArgs false
set_option maxRecDepth 100000
theorem full_by {l : List Ent} (hw : ∀ x ∈ l, Wf x) (hm : l.all mayE = true) : By (full l) := by
  unfold full
  intro y hy
  rcases List.mem_append.1 hy with hy | hy
  · rcases List.mem_append.1 hy with hy | hy
    · simp at hy; rcases hy with rfl | rfl <;> omega
    · exact be_byte _ _ y hy
  · unfold body at hy
    obtain ⟨x, hx, hyx⟩ := List.mem_flatMap.1 hy
    exact bytesE_byte (hw x hx) (List.all_eq_true.1 hm x hx) y hyx
theorem exp_by {l : List Ent} (hw : ∀ x ∈ l, Wf x) : By (expOut l).1 := by
  unfold expOut
  by_cases h : (headOut l).2 = 0
  · rw [if_pos h]; exact full_by hw (head_zero h).1
  · rw [if_neg h]; intro y hy; simp at hy
theorem body_len : ∀ {l : List Ent}, (∀ x ∈ l, Wf x) → l.all mayE = true → (body l).length ≤ 76 * l.length := by
  intro l
  induction l with
  | nil => intro _ _; simp [body]
  | cons x xs ih =>
    intro h hm
    rw [List.all_cons, Bool.and_eq_true] at hm
    have h1 := bytesE_len (h x (List.mem_cons_self ..)).1
    have h3 := (may_parts hm.1).2.2.2.2.2.2
    have h2 := ih (fun y hy => h y (List.mem_cons_of_mem _ hy)) hm.2
    have e : body (x :: xs) = bytesE x ++ body xs := by unfold body; simp
    rw [e, List.length_append, List.length_cons]
    omega
theorem exp_len {l : List Ent} (hw : ∀ x ∈ l, Wf x) (hl : l.length ≤ 40) : (expOut l).1.length ≤ 100000 := by
  unfold expOut
  by_cases h : (headOut l).2 = 0
  · rw [if_pos h]
    have := body_len hw (head_zero h).1
    show (full l).length ≤ 100000
    unfold full
    simp only [List.length_append, be_length, List.length_cons, List.length_nil]
    omega
  · rw [if_neg h]; simp
theorem id_neq_same {o : Oper} {a : Act} {W : World} {x y : Operand} {p : List Int} (ho : o.op = .binOp .neq 25 x y 25) (hx : a.eval x = .agg (nums .u8 p).toArray) (hy : a.eval y = .agg (nums .u8 p).toArray) (hp : p.length = 32) : (execOp a.eval o).run Try.prog W = .ok (.value (.bool false)) W := by
  have := id_neq (W := W) ho hx hy hp hp
  simpa using this
structure C0 (w W : World) (g5 : Nat) (hd : List Int) (A : Option Addr) (l : List Ent) : Prop where
  below : Below w.heap.size w W
  h5 : Idb W g5 hd
  ce : CE W A l
theorem C0.step {w W W2 : World} {g5 : Nat} {hd : List Int} {A : Option Addr} {l : List Ent} (h : C0 w W g5 hd A l) (hb : Below W.heap.size W W2) : C0 w W2 g5 hd A l := ⟨h.below.trans (hb.mono h.below.size), (hb.block _ (blk_lt h.h5)).trans h.h5, Kd.C_below h.ce hb⟩
structure C1 (w W : World) (g5 g7 g9 : Nat) (hd hh : List Int) (A : Option Addr) (l : List Ent) : Prop where
  all : C0 w W g5 hd A l
  h7 : Idb W g7 hh
  h9 : Idb W g9 hh
theorem C1.step {w W W2 : World} {g5 g7 g9 : Nat} {hd hh : List Int} {A : Option Addr} {l : List Ent} (h : C1 w W g5 g7 g9 hd hh A l) (hb : Below W.heap.size W W2) : C1 w W2 g5 g7 g9 hd hh A l := ⟨h.all.step hb, (hb.block _ (blk_lt h.h7)).trans h.h7, (hb.block _ (blk_lt h.h9)).trans h.h9⟩
structure C2 (w W : World) (g5 g7 g9 : Nat) (hd hh : List Int) (A : Option Addr) (l : List Ent) (A13 : Option Addr) (bb : List Int) : Prop where
  all : C1 w W g5 g7 g9 hd hh A l
  cb : CB W A13 bb
theorem C2.step {w W W2 : World} {g5 g7 g9 : Nat} {hd hh : List Int} {A : Option Addr} {l : List Ent} {A13 : Option Addr} {bb : List Int} (h : C2 w W g5 g7 g9 hd hh A l A13 bb) (hb : Below W.heap.size W W2) : C2 w W2 g5 g7 g9 hd hh A l A13 bb := ⟨h.all.step hb, Kd.C_below h.cb hb⟩
theorem light_len {l : List Ent} {n : Nat} (h : lightB l n = true) : l.length ≤ n := by
  unfold lightB at h
  rw [Bool.and_eq_true] at h
  have := of_decide_eq_true h.1
  omega
set_option maxHeartbeats 12800000 in
theorem chains_walk (A : Option Addr) (c : Nat) (l : List Ent) (number : Bool) (hd : List Int) (w : World) (hr : CE w A l) (hc : l.length ≤ c) (hw : ∀ x ∈ l, Wf x) (hh : hd.length = 32) (hby : ∀ y ∈ hd, 0 ≤ y ∧ y < 256) :
    Calls Try.prog 7 #[.slice A l.length c, .bool number, .agg (nums .u8 hd).toArray] w fun e w' => e = .returned (.bool true) ∧ Below w.heap.size w w' := by
  have HDL := Aside0.mk hh; have HMC := Aside0.mk hc; have HMW := Aside0.mk hw
  have HDZ := Aside0.mk (id_sz hh)
  have HV0 := Aside0.mk (⟨(Below.refl w.heap.size w).alloc (Nat.le_refl _) (.cells (nums .u8 hd).toArray 25), heap_alloc_new w _, Kd.C_below hr ((Below.refl w.heap.size w).alloc (Nat.le_refl _) _)⟩ : C0 w (w.alloc (.cells (nums .u8 hd).toArray 25)) w.heap.size hd A l)
  have HLI := Aside0.mk (fun W h => light_calls A c l 40 W h hc)
  obtain ⟨lb, hlb⟩ : ∃ lb, lightB l 40 = lb := ⟨_, rfl⟩
  rw [hlb] at HLI
  have HLB := Aside0.mk hlb
  clear hr hc hw hh hby hlb
  go_enter Try.func7, Try.ntmps7
  go_upto_region 1 with (fail)
  generalize w.alloc (.cells (nums .u8 hd).toArray 25) = W1 at HV0 ⊢
  generalize hg5 : w.heap.size = g5 at HV0 ⊢
  clear hg5
  go_upto_region 3 with (((with_reducible refine (begun_calls _).mono ?_); rintro _ w1 ⟨rfl, hb1⟩))
  have HV1 := Aside0.mk (HV0.out.step hb1)
  clear hb1 HV0
  cases lb with
  | false =>
    go_wp2_with (((with_reducible refine (HLI.out _ HV1.out.ce).mono ?_); rintro _ w2 ⟨rfl, hb2⟩))
    have HV2 := Aside0.mk (HV1.out.step hb2)
    go_ret
    exact ⟨rfl, HV2.out.below⟩
  | true =>
    have HML := Aside0.mk (show l.length ≤ 40 from light_len HLB.out)
    cases number with
    | true =>
      go_upto_region 5 with (((with_reducible refine (HLI.out _ HV1.out.ce).mono ?_); rintro _ w2 ⟨rfl, hb2⟩))
      have HV2 := Aside0.mk (HV1.out.step hb2)
      clear hb2 HV1 HLI
      go_upto_region 7 with (((with_reducible refine (numbered_calls A c l _ HV2.out.ce HMC.out (by have := HML.out; omega)).mono ?_); rintro _ wt ⟨v0, rfl, hr0, hb3⟩; obtain ⟨A2, c2, rfl, hc0, hC0⟩ := Kd.R_reads hr0))
      have HT := Aside0.mk (⟨(HV2.out.step hb3).below, (HV2.out.step hb3).h5, hC0⟩ : C0 w wt g5 hd A2 (numL l))
      have HMC2 := Aside0.mk hc0
      have HMW2 := Aside0.mk (numL_wf HMW.out (by have := HML.out; omega))
      have HML2 := Aside0.mk (show (numL l).length ≤ 40 from by rw [numL_len]; exact HML.out)
      clear HMC HMW HML HV2 hb3 hC0 hr0 hc0
      have HMC := HMC2; have HMW := HMW2; have HML := HML2
      clear HMC2 HMW2 HML2
      obtain ⟨hh, hhh⟩ : ∃ b, (headOut (numL l)).1 = b := ⟨_, rfl⟩
      obtain ⟨he, hhe⟩ : ∃ b, (headOut (numL l)).2 = b := ⟨_, rfl⟩
      obtain ⟨bb, hbb⟩ : ∃ b, (expOut (numL l)).1 = b := ⟨_, rfl⟩
      obtain ⟨be_, hbe⟩ : ∃ b, (expOut (numL l)).2 = b := ⟨_, rfl⟩
      have HHL := Aside0.mk (show hh.length = 32 from by rw [← hhh]; exact head_len _)
      have HHZ := Aside0.mk (id_sz HHL.out)
      have HBY := Aside0.mk (show By bb from by rw [← hbb]; exact exp_by HMW.out)
      have HBL := Aside0.mk (show bb.length ≤ 100000 from by rw [← hbb]; exact exp_len HMW.out HML.out)
      have HA := Aside0.mk (hhh ▸ hhe ▸ fun W h => head_calls A2 c2 (numL l) W h HMC.out HMW.out)
      have HB := Aside0.mk (hhh ▸ hhe ▸ fun W h => ref_head_calls A2 c2 (numL l) W h HMC.out HMW.out)
      have HX := Aside0.mk (hbb ▸ hbe ▸ fun W h => export_calls A2 c2 (numL l) W h HMC.out HMW.out (by have := HML.out; omega))
      have HY := Aside0.mk (hbb ▸ hbe ▸ fun W h => ref_export_calls A2 c2 (numL l) W h HMC.out HMW.out (by have := HML.out; omega))
      clear hhh hhe hbb hbe
      go_upto_region 8 with (first
        | ((with_reducible refine (HA.out _ HT.out.ce).mono ?_); rintro _ wa ⟨rfl, hba⟩; have HSa := Aside0.mk (HT.out.step hba); obtain ⟨g7, hg7⟩ : ∃ g, wa.heap.size = g := ⟨_, rfl⟩; have HG7 := Aside0.mk hg7; have HN7 := Aside0.mk (hg7 ▸ heap_alloc_new wa (.cells (nums .u8 id0).toArray 25) : (wa.alloc (.cells (nums .u8 id0).toArray 25)).heap[g7]? = some (.cells (nums .u8 id0).toArray 25 (0, 0))); clear hg7; clear hba)
        | ((with_reducible refine op_alloc rfl 25 rfl _ zero25 ?_); simp only [HG7.out])
        | ((with_reducible refine op_store (w0 := wa) (o := ⟨none, .store 25 (.tmp 7) (.tmp 34), _, _, _, _⟩) g7 ?_ 25 (.tmp 7) (.tmp 34) ?_ g7 (nums .u8 hh).toArray ?_ ?_ 25 _ HN7.out 32 info25 HHZ.out (id_sz id0_len) (id_all _) ((Below.refl _ _).alloc (by rw [HG7.out]; exact Nat.le_refl _) _) (Nat.le_refl _) ?_); rfl; rfl; rfl; rfl; intro wb h1 h2 h3))
      have HBb := Aside0.mk (show Below wa.heap.size wa wb from by rw [HG7.out]; exact h3.out)
      have HSb := Aside0.mk (HSa.out.step HBb.out)
      have HI7 := Aside0.mk (show Idb wb g7 hh from h1.out)
      clear h1 h2 h3 HSa HT HN7 HG7 HBb
      go_upto_region 9 with (first
        | ((with_reducible refine (HB.out _ HSb.out.ce).mono ?_); rintro _ wc ⟨rfl, hbc⟩; have HSc := Aside0.mk (HSb.out.step hbc); have HI7c := Aside0.mk (show Idb wc g7 hh from (hbc.block _ (blk_lt HI7.out)).trans HI7.out); obtain ⟨g9, hg9⟩ : ∃ g, wc.heap.size = g := ⟨_, rfl⟩; have HG9 := Aside0.mk hg9; have HN9 := Aside0.mk (hg9 ▸ heap_alloc_new wc (.cells (nums .u8 id0).toArray 25) : (wc.alloc (.cells (nums .u8 id0).toArray 25)).heap[g9]? = some (.cells (nums .u8 id0).toArray 25 (0, 0))); clear hg9; clear hbc)
        | ((with_reducible refine op_alloc rfl 25 rfl _ zero25 ?_); simp only [HG9.out])
        | ((with_reducible refine op_store (w0 := wc) (o := ⟨none, .store 25 (.tmp 9) (.tmp 39), _, _, _, _⟩) g9 ?_ 25 (.tmp 9) (.tmp 39) ?_ g9 (nums .u8 hh).toArray ?_ ?_ 25 _ HN9.out 32 info25 HHZ.out (id_sz id0_len) (id_all _) ((Below.refl _ _).alloc (by rw [HG9.out]; exact Nat.le_refl _) _) (Nat.le_refl _) ?_); rfl; rfl; rfl; rfl; intro wd h1 h2 h3))
      have HBd := Aside0.mk (show Below wc.heap.size wc wd from by rw [HG9.out]; exact h3.out)
      have HSd := Aside0.mk (⟨HSc.out.step HBd.out, (HBd.out.block _ (blk_lt HI7c.out)).trans HI7c.out, h1.out⟩ : C1 w wd g5 g7 g9 hd hh A2 (numL l))
      clear h1 h2 h3 HSc HSb HN9 HG9 HBd HI7 HI7c HA HB
      go_upto_region 10 with (((with_reducible refine (HX.out _ HSd.out.all.ce).mono ?_); rintro _ we ⟨v11, rfl, hr11, hbe⟩; obtain ⟨A11, c11, rfl, hc11, hC11⟩ := Kd.R_reads hr11))
      have HSe := Aside0.mk (HSd.out.step hbe)
      have HC11 := Aside0.mk hC11
      clear hbe hC11 hr11 hc11 HSd HX
      go_upto_region 11 with (((with_reducible refine (HY.out _ HSe.out.all.ce).mono ?_); rintro _ wf ⟨v13, rfl, hr13, hbf⟩; obtain ⟨A13, c13, rfl, hc13, hC13⟩ := Kd.R_reads hr13))
      have HSf := Aside0.mk (HSe.out.step hbf)
      have HC11f := Aside0.mk (Kd.C_below HC11.out hbf)
      have HC13 := Aside0.mk hC13
      have HLC := Aside0.mk hc13
      have hcv1 := Kd.C_string (c := c11) (P := Try.prog) Try.underlying37 Try.underlying5 Try.underlying9 HC11f.out
      have hcv2 := Kd.C_string (c := c13) (P := Try.prog) Try.underlying37 Try.underlying5 Try.underlying9 HC13.out
      have HI7 := Aside0.mk (show wf.heap[g7]? = some (.cells (nums .u8 hh).toArray 25 (0, 0)) from HSf.out.h7)
      have HI9 := Aside0.mk (show wf.heap[g9]? = some (.cells (nums .u8 hh).toArray 25 (0, 0)) from HSf.out.h9)
      generalize strOfNums bb = s1 at hcv1 hcv2
      clear hbf hC13 hr13 hc13 HSe HY HC11
      have HVA := Aside0.mk (fun A c hd W h hc hh => Vw.verify_calls A c bb hd W h hc HBY.out (by have := HBL.out; omega) hh)
      have HVB := Aside0.mk (fun A c hd W h hc hh => Vr.ref_verify_calls A c bb hd W h hc HBY.out HBL.out hh)
      go_upto_region 13 with (first
        | (with_reducible refine op_load rfl 25 _ rfl g7 rfl 25 _ _ HI7.out Try.underlying25 rfl 32 info25 HHZ.out ?_)
        | (with_reducible refine op_load rfl 25 _ rfl g9 rfl 25 _ _ HI9.out Try.underlying25 rfl 32 info25 HHZ.out ?_)
        | (refine Kd.event_run rfl (id_neq_same (x := .tmp 51) (y := .tmp 52) (p := hh) rfl rfl rfl HHL.out) ?_))
      clear hcv1 hcv2 HC11f HI7
      obtain ⟨n1, hn1⟩ : ∃ n, (verOut bb hh).1 = n := ⟨_, rfl⟩
      obtain ⟨n2, hn2⟩ : ∃ n, (verOut bb hh).2 = n := ⟨_, rfl⟩
      obtain ⟨n3, hn3⟩ : ∃ n, (verOut bb hd).1 = n := ⟨_, rfl⟩
      obtain ⟨n4, hn4⟩ : ∃ n, (verOut bb hd).2 = n := ⟨_, rfl⟩
      have HP1 := Aside0.mk (hn1 ▸ hn2 ▸ fun W h => HVA.out A13 c13 hh W h HLC.out HHL.out)
      have HP2 := Aside0.mk (hn1 ▸ hn2 ▸ fun W h => HVB.out A13 c13 hh W h HLC.out HHL.out)
      have HP3 := Aside0.mk (hn3 ▸ hn4 ▸ fun W h => HVA.out A13 c13 hd W h HLC.out HDL.out)
      have HP4 := Aside0.mk (hn3 ▸ hn4 ▸ fun W h => HVB.out A13 c13 hd W h HLC.out HDL.out)
      clear hn1 hn2 hn3 hn4 HVA HVB
      have HQf := Aside0.mk (⟨HSf.out, HC13.out⟩ : C2 w wf g5 g7 g9 hd hh A2 (numL l) A13 bb)
      clear HSf HC13
      have HJwf := Aside0.mk (show wf.heap[g9]? = some (.cells (nums .u8 hh).toArray 25 (0, 0)) from HQf.out.all.h9)
      go_upto_region 14 with (first
        | (with_reducible refine op_load rfl 25 _ rfl g9 rfl 25 _ _ HJwf.out Try.underlying25 rfl 32 info25 HHZ.out ?_)
        | ((with_reducible refine (HP1.out _ HQf.out.cb).mono ?_); rintro _ wg ⟨rfl, hbwg⟩))
      have HQg := Aside0.mk (HQf.out.step hbwg)
      clear hbwg HQf HJwf
      have HJwg := Aside0.mk (show wg.heap[g9]? = some (.cells (nums .u8 hh).toArray 25 (0, 0)) from HQg.out.all.h9)
      go_upto_region 15 with (first
        | (with_reducible refine op_load rfl 25 _ rfl g9 rfl 25 _ _ HJwg.out Try.underlying25 rfl 32 info25 HHZ.out ?_)
        | ((with_reducible refine (HP2.out _ HQg.out.cb).mono ?_); rintro _ wh ⟨rfl, hbwh⟩))
      have HQh := Aside0.mk (HQg.out.step hbwh)
      clear hbwh HQg HJwg
      have HJwh := Aside0.mk (show wh.heap[g5]? = some (.cells (nums .u8 hd).toArray 25 (0, 0)) from HQh.out.all.all.h5)
      go_upto_region 16 with (first
        | (with_reducible refine op_load rfl 25 _ rfl g5 rfl 25 _ _ HJwh.out Try.underlying25 rfl 32 info25 HDZ.out ?_)
        | ((with_reducible refine (HP3.out _ HQh.out.cb).mono ?_); rintro _ wi ⟨rfl, hbwi⟩))
      have HQi := Aside0.mk (HQh.out.step hbwi)
      clear hbwi HQh HJwh
      have HJwi := Aside0.mk (show wi.heap[g5]? = some (.cells (nums .u8 hd).toArray 25 (0, 0)) from HQi.out.all.all.h5)
      go_upto_region 17 with (first
        | (with_reducible refine op_load rfl 25 _ rfl g5 rfl 25 _ _ HJwi.out Try.underlying25 rfl 32 info25 HDZ.out ?_)
        | ((with_reducible refine (HP4.out _ HQi.out.cb).mono ?_); rintro _ wj ⟨rfl, hbwj⟩))
      have HQj := Aside0.mk (HQi.out.step hbwj)
      clear hbwj HQi HJwi
      go_wp2
      go_ret
      exact ⟨rfl, HQj.out.all.all.below⟩
    | false =>
      go_upto_region 5 with (((with_reducible refine (HLI.out _ HV1.out.ce).mono ?_); rintro _ w2 ⟨rfl, hb2⟩))
      have HV2 := Aside0.mk (HV1.out.step hb2)
      clear hb2 HV1 HLI
      go_upto_region 7 with (fail)
      have HT := HV2
      clear HV2
      obtain ⟨hh, hhh⟩ : ∃ b, (headOut l).1 = b := ⟨_, rfl⟩
      obtain ⟨he, hhe⟩ : ∃ b, (headOut l).2 = b := ⟨_, rfl⟩
      obtain ⟨bb, hbb⟩ : ∃ b, (expOut l).1 = b := ⟨_, rfl⟩
      obtain ⟨be_, hbe⟩ : ∃ b, (expOut l).2 = b := ⟨_, rfl⟩
      have HHL := Aside0.mk (show hh.length = 32 from by rw [← hhh]; exact head_len _)
      have HHZ := Aside0.mk (id_sz HHL.out)
      have HBY := Aside0.mk (show By bb from by rw [← hbb]; exact exp_by HMW.out)
      have HBL := Aside0.mk (show bb.length ≤ 100000 from by rw [← hbb]; exact exp_len HMW.out HML.out)
      have HA := Aside0.mk (hhh ▸ hhe ▸ fun W h => head_calls A c l W h HMC.out HMW.out)
      have HB := Aside0.mk (hhh ▸ hhe ▸ fun W h => ref_head_calls A c l W h HMC.out HMW.out)
      have HX := Aside0.mk (hbb ▸ hbe ▸ fun W h => export_calls A c l W h HMC.out HMW.out (by have := HML.out; omega))
      have HY := Aside0.mk (hbb ▸ hbe ▸ fun W h => ref_export_calls A c l W h HMC.out HMW.out (by have := HML.out; omega))
      clear hhh hhe hbb hbe
      go_upto_region 8 with (first
        | ((with_reducible refine (HA.out _ HT.out.ce).mono ?_); rintro _ wa ⟨rfl, hba⟩; have HSa := Aside0.mk (HT.out.step hba); obtain ⟨g7, hg7⟩ : ∃ g, wa.heap.size = g := ⟨_, rfl⟩; have HG7 := Aside0.mk hg7; have HN7 := Aside0.mk (hg7 ▸ heap_alloc_new wa (.cells (nums .u8 id0).toArray 25) : (wa.alloc (.cells (nums .u8 id0).toArray 25)).heap[g7]? = some (.cells (nums .u8 id0).toArray 25 (0, 0))); clear hg7; clear hba)
        | ((with_reducible refine op_alloc rfl 25 rfl _ zero25 ?_); simp only [HG7.out])
        | ((with_reducible refine op_store (w0 := wa) (o := ⟨none, .store 25 (.tmp 7) (.tmp 34), _, _, _, _⟩) g7 ?_ 25 (.tmp 7) (.tmp 34) ?_ g7 (nums .u8 hh).toArray ?_ ?_ 25 _ HN7.out 32 info25 HHZ.out (id_sz id0_len) (id_all _) ((Below.refl _ _).alloc (by rw [HG7.out]; exact Nat.le_refl _) _) (Nat.le_refl _) ?_); rfl; rfl; rfl; rfl; intro wb h1 h2 h3))
      have HBb := Aside0.mk (show Below wa.heap.size wa wb from by rw [HG7.out]; exact h3.out)
      have HSb := Aside0.mk (HSa.out.step HBb.out)
      have HI7 := Aside0.mk (show Idb wb g7 hh from h1.out)
      clear h1 h2 h3 HSa HT HN7 HG7 HBb
      go_upto_region 9 with (first
        | ((with_reducible refine (HB.out _ HSb.out.ce).mono ?_); rintro _ wc ⟨rfl, hbc⟩; have HSc := Aside0.mk (HSb.out.step hbc); have HI7c := Aside0.mk (show Idb wc g7 hh from (hbc.block _ (blk_lt HI7.out)).trans HI7.out); obtain ⟨g9, hg9⟩ : ∃ g, wc.heap.size = g := ⟨_, rfl⟩; have HG9 := Aside0.mk hg9; have HN9 := Aside0.mk (hg9 ▸ heap_alloc_new wc (.cells (nums .u8 id0).toArray 25) : (wc.alloc (.cells (nums .u8 id0).toArray 25)).heap[g9]? = some (.cells (nums .u8 id0).toArray 25 (0, 0))); clear hg9; clear hbc)
        | ((with_reducible refine op_alloc rfl 25 rfl _ zero25 ?_); simp only [HG9.out])
        | ((with_reducible refine op_store (w0 := wc) (o := ⟨none, .store 25 (.tmp 9) (.tmp 39), _, _, _, _⟩) g9 ?_ 25 (.tmp 9) (.tmp 39) ?_ g9 (nums .u8 hh).toArray ?_ ?_ 25 _ HN9.out 32 info25 HHZ.out (id_sz id0_len) (id_all _) ((Below.refl _ _).alloc (by rw [HG9.out]; exact Nat.le_refl _) _) (Nat.le_refl _) ?_); rfl; rfl; rfl; rfl; intro wd h1 h2 h3))
      have HBd := Aside0.mk (show Below wc.heap.size wc wd from by rw [HG9.out]; exact h3.out)
      have HSd := Aside0.mk (⟨HSc.out.step HBd.out, (HBd.out.block _ (blk_lt HI7c.out)).trans HI7c.out, h1.out⟩ : C1 w wd g5 g7 g9 hd hh A l)
      clear h1 h2 h3 HSc HSb HN9 HG9 HBd HI7 HI7c HA HB
      go_upto_region 10 with (((with_reducible refine (HX.out _ HSd.out.all.ce).mono ?_); rintro _ we ⟨v11, rfl, hr11, hbe⟩; obtain ⟨A11, c11, rfl, hc11, hC11⟩ := Kd.R_reads hr11))
      have HSe := Aside0.mk (HSd.out.step hbe)
      have HC11 := Aside0.mk hC11
      clear hbe hC11 hr11 hc11 HSd HX
      go_upto_region 11 with (((with_reducible refine (HY.out _ HSe.out.all.ce).mono ?_); rintro _ wf ⟨v13, rfl, hr13, hbf⟩; obtain ⟨A13, c13, rfl, hc13, hC13⟩ := Kd.R_reads hr13))
      have HSf := Aside0.mk (HSe.out.step hbf)
      have HC11f := Aside0.mk (Kd.C_below HC11.out hbf)
      have HC13 := Aside0.mk hC13
      have HLC := Aside0.mk hc13
      have hcv1 := Kd.C_string (c := c11) (P := Try.prog) Try.underlying37 Try.underlying5 Try.underlying9 HC11f.out
      have hcv2 := Kd.C_string (c := c13) (P := Try.prog) Try.underlying37 Try.underlying5 Try.underlying9 HC13.out
      have HI7 := Aside0.mk (show wf.heap[g7]? = some (.cells (nums .u8 hh).toArray 25 (0, 0)) from HSf.out.h7)
      have HI9 := Aside0.mk (show wf.heap[g9]? = some (.cells (nums .u8 hh).toArray 25 (0, 0)) from HSf.out.h9)
      generalize strOfNums bb = s1 at hcv1 hcv2
      clear hbf hC13 hr13 hc13 HSe HY HC11
      have HVA := Aside0.mk (fun A c hd W h hc hh => Vw.verify_calls A c bb hd W h hc HBY.out (by have := HBL.out; omega) hh)
      have HVB := Aside0.mk (fun A c hd W h hc hh => Vr.ref_verify_calls A c bb hd W h hc HBY.out HBL.out hh)
      go_upto_region 13 with (first
        | (with_reducible refine op_load rfl 25 _ rfl g7 rfl 25 _ _ HI7.out Try.underlying25 rfl 32 info25 HHZ.out ?_)
        | (with_reducible refine op_load rfl 25 _ rfl g9 rfl 25 _ _ HI9.out Try.underlying25 rfl 32 info25 HHZ.out ?_)
        | (refine Kd.event_run rfl (id_neq_same (x := .tmp 51) (y := .tmp 52) (p := hh) rfl rfl rfl HHL.out) ?_))
      clear hcv1 hcv2 HC11f HI7
      obtain ⟨n1, hn1⟩ : ∃ n, (verOut bb hh).1 = n := ⟨_, rfl⟩
      obtain ⟨n2, hn2⟩ : ∃ n, (verOut bb hh).2 = n := ⟨_, rfl⟩
      obtain ⟨n3, hn3⟩ : ∃ n, (verOut bb hd).1 = n := ⟨_, rfl⟩
      obtain ⟨n4, hn4⟩ : ∃ n, (verOut bb hd).2 = n := ⟨_, rfl⟩
      have HP1 := Aside0.mk (hn1 ▸ hn2 ▸ fun W h => HVA.out A13 c13 hh W h HLC.out HHL.out)
      have HP2 := Aside0.mk (hn1 ▸ hn2 ▸ fun W h => HVB.out A13 c13 hh W h HLC.out HHL.out)
      have HP3 := Aside0.mk (hn3 ▸ hn4 ▸ fun W h => HVA.out A13 c13 hd W h HLC.out HDL.out)
      have HP4 := Aside0.mk (hn3 ▸ hn4 ▸ fun W h => HVB.out A13 c13 hd W h HLC.out HDL.out)
      clear hn1 hn2 hn3 hn4 HVA HVB
      have HQf := Aside0.mk (⟨HSf.out, HC13.out⟩ : C2 w wf g5 g7 g9 hd hh A l A13 bb)
      clear HSf HC13
      have HJwf := Aside0.mk (show wf.heap[g9]? = some (.cells (nums .u8 hh).toArray 25 (0, 0)) from HQf.out.all.h9)
      go_upto_region 14 with (first
        | (with_reducible refine op_load rfl 25 _ rfl g9 rfl 25 _ _ HJwf.out Try.underlying25 rfl 32 info25 HHZ.out ?_)
        | ((with_reducible refine (HP1.out _ HQf.out.cb).mono ?_); rintro _ wg ⟨rfl, hbwg⟩))
      have HQg := Aside0.mk (HQf.out.step hbwg)
      clear hbwg HQf HJwf
      have HJwg := Aside0.mk (show wg.heap[g9]? = some (.cells (nums .u8 hh).toArray 25 (0, 0)) from HQg.out.all.h9)
      go_upto_region 15 with (first
        | (with_reducible refine op_load rfl 25 _ rfl g9 rfl 25 _ _ HJwg.out Try.underlying25 rfl 32 info25 HHZ.out ?_)
        | ((with_reducible refine (HP2.out _ HQg.out.cb).mono ?_); rintro _ wh ⟨rfl, hbwh⟩))
      have HQh := Aside0.mk (HQg.out.step hbwh)
      clear hbwh HQg HJwg
      have HJwh := Aside0.mk (show wh.heap[g5]? = some (.cells (nums .u8 hd).toArray 25 (0, 0)) from HQh.out.all.all.h5)
      go_upto_region 16 with (first
        | (with_reducible refine op_load rfl 25 _ rfl g5 rfl 25 _ _ HJwh.out Try.underlying25 rfl 32 info25 HDZ.out ?_)
        | ((with_reducible refine (HP3.out _ HQh.out.cb).mono ?_); rintro _ wi ⟨rfl, hbwi⟩))
      have HQi := Aside0.mk (HQh.out.step hbwi)
      clear hbwi HQh HJwh
      have HJwi := Aside0.mk (show wi.heap[g5]? = some (.cells (nums .u8 hd).toArray 25 (0, 0)) from HQi.out.all.all.h5)
      go_upto_region 17 with (first
        | (with_reducible refine op_load rfl 25 _ rfl g5 rfl 25 _ _ HJwi.out Try.underlying25 rfl 32 info25 HDZ.out ?_)
        | ((with_reducible refine (HP4.out _ HQi.out.cb).mono ?_); rintro _ wj ⟨rfl, hbwj⟩))
      have HQj := Aside0.mk (HQi.out.step hbwj)
      clear hbwj HQi HJwi
      go_wp2
      go_ret
      exact ⟨rfl, HQj.out.all.all.below⟩
end Go.Proofs.Ytgpgblidplmchaa.Lc
