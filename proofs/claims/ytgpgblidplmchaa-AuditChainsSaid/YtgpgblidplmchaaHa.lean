/- A chain's head: the program's Head, the document's. A log as bytes: the program's Export, the document's. What Verify answers, in plain lists: both ways of saying it. The program's Verify, walked. The document's Verify, walked. -/
import Derived.Test.YtgpgblidplmchaaLd
import Derived.Test.YtgpgblidplmchaaLb
import Derived.Test.YtgpgblidplmchaaLr
namespace Go.Proofs.Ytgpgblidplmchaa.Hd
open Go.RowKit Go.Proofs.YtgpgblidplmchaaW.PrintWords Go.Proofs.YtgpgblidplmchaaW.PrintLast Go.Proofs.YtgpgblidplmchaaW.PrintMore
open Ag En Eb Eh Ek Lk Spw
set_option linter.unusedVariables false
set_option linter.unusedSimpArgs false
set_option maxRecDepth 100000
def chain (l : List Ent) : List Int := l.foldl (fun h x => (linkOut h x).1) id0
def seqB (l : List Ent) : Bool := (List.range l.length).all fun i => (l.getD i ent0).seq == (i : Int)
def headOut (l : List Ent) : List Int × Int := if l.all mayE = true then (if seqB l = true then (chain l, 0) else (id0, 10)) else (id0, 1)
theorem chain_snoc (l : List Ent) (x : Ent) : chain (l ++ [x]) = (linkOut (chain l) x).1 := by unfold chain; rw [List.foldl_append]; rfl
theorem chain_ok : ∀ (l : List Ent) (h : List Int), h.length = 32 ∧ By h → (l.foldl (fun h x => (linkOut h x).1) h).length = 32 ∧ By (l.foldl (fun h x => (linkOut h x).1) h) := by
  intro l
  induction l with
  | nil => intro h hh; exact hh
  | cons x xs ih => intro h hh; exact ih _ ⟨link_len h x, link_by h x⟩
theorem chain_len (l : List Ent) : (chain l).length = 32 := (chain_ok l id0 ⟨id0_len, id0_by⟩).1
theorem chain_by (l : List Ent) : By (chain l) := (chain_ok l id0 ⟨id0_len, id0_by⟩).2
theorem seq_all {l : List Ent} (h : ∀ i (hi : i < l.length), i < l.length → l[i].seq = (i : Int)) : seqB l = true := by
  unfold seqB
  rw [List.all_eq_true]
  intro i hi
  have hi' := List.mem_range.1 hi
  rw [List.getD_eq_getElem?_getD, List.getElem?_eq_getElem hi']
  simpa using h i hi' hi'
theorem seq_not {l : List Ent} {i : Nat} (hi : i < l.length) (h : l[i].seq ≠ (i : Int)) : seqB l = false := by
  unfold seqB
  rw [List.all_eq_false]
  refine ⟨i, List.mem_range.2 hi, ?_⟩
  rw [List.getD_eq_getElem?_getD, List.getElem?_eq_getElem hi]
  simpa using h
theorem may_all {l : List Ent} (h : ∀ i (hi : i < l.length), i < l.length → mayE l[i] = true) : l.all mayE = true := by
  rw [List.all_eq_true]
  intro x hx
  obtain ⟨i, hi, rfl⟩ := List.mem_iff_getElem.1 hx
  exact h i hi hi
theorem may_not {l : List Ent} {i : Nat} (hi : i < l.length) (h : mayE l[i] = false) : l.all mayE = false := by
  rw [List.all_eq_false]
  exact ⟨l[i], List.getElem_mem hi, by simp [h]⟩
theorem head_may {l : List Ent} (h : l.all mayE = false) : headOut l = (id0, 1) := by unfold headOut; rw [h]; rfl
theorem head_seq {l : List Ent} (h : l.all mayE = true) (h2 : seqB l = false) : headOut l = (id0, 10) := by unfold headOut; rw [h, h2]; rfl
theorem head_yes {l : List Ent} (h : l.all mayE = true) (h2 : seqB l = true) : headOut l = (chain l, 0) := by unfold headOut; rw [h, h2]; rfl
theorem load_id {W : World} {g : Nat} {l : List Int} (h : Idb W g l) (hl : l.length = 32) : (Instr.loadAt 25 (.pointer (some ⟨g, 0, none⟩))).run Try.prog W = .ok (.agg (nums .u8 l).toArray) W := by
  simp only [Instr.loadAt, Instr.sureAddr, Sem.run_bind, Sem.run_pure, Result.andThen_ok, run_loadVar_row W g 25 25 _ (0, 0) _ h Try.underlying25 rfl (by rw [info25, id_sz hl])]
structure H0 (w W : World) (g2 : Nat) (A : Option Addr) (l : List Ent) : Prop where
  below : Below w.heap.size w W
  r2 : Idb W g2 id0
  ne : w.heap.size ≤ g2
  ce : CE W A l
theorem H0.step {w W W2 : World} {g2 : Nat} {A : Option Addr} {l : List Ent} (h : H0 w W g2 A l) (hb : Below W.heap.size W W2) : H0 w W2 g2 A l :=
  ⟨h.below.trans (hb.mono h.below.size), (hb.block _ (blk_lt h.r2)).trans h.r2, h.ne, Kd.C_below h.ce hb⟩
theorem H0.start (w : World) (A : Option Addr) (l : List Ent) (h : CE w A l) : H0 w (w.alloc (.cells (nums .u8 id0).toArray 25)) w.heap.size A l :=
  ⟨(Below.refl _ _).alloc (Nat.le_refl _) _, heap_alloc_new w _, Nat.le_refl _, Kd.C_below h ((Below.refl _ _).alloc (Nat.le_refl _) _)⟩
structure H1 (w W : World) (g2 g6 : Nat) (A : Option Addr) (l : List Ent) (h : List Int) : Prop where
  all : H0 w W g2 A l
  r6 : Idb W g6 h
  ne : g2 ≠ g6 ∧ w.heap.size ≤ g6
theorem H1.step {w W W2 : World} {g2 g6 : Nat} {A : Option Addr} {l : List Ent} {h : List Int} (k : H1 w W g2 g6 A l h) (hb : Below W.heap.size W W2) : H1 w W2 g2 g6 A l h :=
  ⟨k.all.step hb, (hb.block _ (blk_lt k.r6)).trans k.r6, k.ne⟩
theorem H0.more {w W : World} {g2 : Nat} {A : Option Addr} {l : List Ent} (h : H0 w W g2 A l) : H1 w (W.alloc (.cells (nums .u8 id0).toArray 25)) g2 W.heap.size A l (chain (l.take 0)) :=
  ⟨h.step ((Below.refl _ _).alloc (Nat.le_refl _) _), heap_alloc_new W _, by have := blk_lt h.r2; omega, h.below.size⟩
theorem H1.put {w W wf : World} {g2 g6 : Nat} {A : Option Addr} {l : List Ent} {h h' : List Int} (k : H1 w W g2 g6 A l h) (h1 : wf.heap[g6]? = some (.cells (nums .u8 h').toArray 25 (0, 0))) (h2 : W.grownBy wf (some g6)) (h3 : Below w.heap.size w wf) (hce : CE wf A l) : H1 w wf g2 g6 A l h' :=
  ⟨⟨h3, (h2.block _ (blk_lt k.all.r2) (by simp; exact k.ne.1)).trans k.all.r2, k.all.ne, hce⟩, h1, k.ne⟩
theorem made_ent {W W2 : World} {g : Nat} {x : Ent} (he : W.heap.size = g) (h3 : Below g (W.alloc (.cells (cellsOf ent0).toArray 27)) W2) : Below W.heap.size W W2 := by
  subst he
  exact ((Below.refl W.heap.size W).alloc (Nat.le_refl _) _).trans h3
theorem upto_seq {l : List Ent} {j : Nat} (h : ∀ i (hi : i < l.length), i < j → l[i].seq = (i : Int)) (hlt : j < l.length) (hj : l[j].seq = (j : Int)) : ∀ i (hi : i < l.length), i < j + 1 → l[i].seq = (i : Int) := by
  intro i hi hij
  rcases Nat.lt_or_ge i j with h1 | h1
  · exact h i hi h1
  · obtain rfl : i = j := by omega
    exact hj
theorem chain_next (l : List Ent) (j : Nat) (hj : j < l.length) : chain (l.take (j + 1)) = (linkOut (chain (l.take j)) l[j]).1 := by
  rw [List.take_succ_eq_append_getElem hj, chain_snoc]
set_option maxHeartbeats 3200000 in
theorem head_calls (A : Option Addr) (c : Nat) (l : List Ent) (w : World) (hr : CE w A l) (hc : l.length ≤ c) (hw : ∀ x ∈ l, Wf x) :
    Calls Try.prog 12 #[.slice A l.length c] w fun e w' => e = .returned (.tuple #[.agg (nums .u8 (headOut l).1).toArray, .int .i64 (headOut l).2]) ∧ Below w.heap.size w w' := by
  have HS := Aside0.mk (H0.start w A l hr)
  have HW := Aside0.mk hw
  have HCE := Aside0.mk hr
  have HIZ := Aside0.mk (id_sz id0_len)
  have hmx := hr.2.1
  clear hr hw
  go_enter Try.func12, Try.ntmps12
  go_wp2_with (first | (with_reducible refine op_alloc rfl 25 rfl _ zero25 ?_))
  generalize w.alloc (.cells (nums .u8 id0).toArray 25) = W1 at HS ⊢
  generalize w.heap.size = g2 at HS ⊢
  go_loopw [11] (fun v wr => ∃ j : Nat, j ≤ l.length ∧ v = .int .i64 j ∧ Aside0 (∀ i (hi : i < l.length), i < j → mayE l[i] = true) ∧ Aside0 (H0 w wr g2 A l)) (fun v _ => l.length - (intOf v).toNat)
  case atStart => exact ⟨0, by omega, rfl, ⟨fun i _ hi => absurd hi (by omega)⟩, HS⟩
  case round =>
    clear HS
    obtain ⟨j, hj, rfl, HJ, HS⟩ := hrel
    by_cases hlt : j < l.length
    · obtain ⟨ad, rfl, hok, _, hload⟩ := ent_at HS.out.ce j hlt
      have HLD := Aside0.mk hload
      have HLT := Aside0.mk hlt
      have hlt' : decide (j < l.length) = true := by simpa using hlt
      have hlt'' : decide ((j : Int) < (l.length : Int)) = true := by simp; omega
      obtain ⟨x, hx⟩ : ∃ x, l[j] = x := ⟨_, rfl⟩
      have HX := Aside0.mk hx
      rw [hx] at HLD hok
      have HOK := Aside0.mk hok
      have HCZ := Aside0.mk (cells_sz hok)
      obtain ⟨g5, hg5⟩ : ∃ g, wr.heap.size = g := ⟨_, rfl⟩
      have HG5 := Aside0.mk hg5
      have HN5 := Aside0.mk (hg5 ▸ heap_alloc_new wr (.cells (cellsOf ent0).toArray 27) : (wr.alloc (.cells (cellsOf ent0).toArray 27)).heap[g5]? = some (.cells (cellsOf ent0).toArray 27 (0, 0)))
      have HB5 := Aside0.mk (show Below g5 (wr.alloc (.cells (cellsOf ent0).toArray 27)) (wr.alloc (.cells (cellsOf ent0).toArray 27)) from Below.refl _ _)
      clear hload hg5 hx hok
      have hload2 := HLD.out
      by_cases hm : mayE x = true
      · have HM := Aside0.mk hm
        clear hm
        go_wp2_with (first
          | ((with_reducible refine op_load_at (o := ⟨some 14, _, _, _, _, _⟩) ?_ 27 (.tmp 13) ?_ _ (.agg (cellsOf x).toArray) ?_ HLD.out ?_); rfl; rfl; rfl)
          | ((with_reducible refine op_alloc rfl 27 rfl _ zero27 ?_); simp only [HG5.out])
          | ((with_reducible refine op_store (w0 := wr.alloc (.cells (cellsOf ent0).toArray 27)) (o := ⟨none, .store 27 (.tmp 5) (.tmp 14), _, _, _, _⟩) g5 ?_ 27 (.tmp 5) (.tmp 14) ?_ g5 (cellsOf x).toArray ?_ ?_ 27 _ HN5.out 38 info27 HCZ.out (cells_sz ok0) (cells_all _) HB5.out (Nat.le_refl _) ?_); rfl; rfl; rfl; rfl; intro W3 h1 h2 h3; have HB3 := Aside0.mk (made_ent (x := x) HG5.out h3.out); clear hload2)
          | (with_reducible refine op_load rfl 27 _ rfl g5 rfl 27 _ _ h1.out Try.underlying27 rfl 38 info27 HCZ.out ?_)
          | ((with_reducible refine (may_calls x _ HOK.out).mono ?_); rw [HM.out]; rintro _ W4 ⟨rfl, hb4⟩))
        go_roundw
        case rel => exact ⟨j + 1, by omega, by go_num, ⟨upto_next (p := fun x => mayE x = true) HJ.out HLT.out (by rw [HX.out]; exact HM.out)⟩, ⟨(HS.out.step HB3.out).step hb4⟩⟩
        case measure => have := HLT.out; simp [intOf]; omega
      · have hm' : mayE x = false := by simpa using hm
        have HM := Aside0.mk hm'
        have HO := Aside0.mk (head_may (may_not HLT.out (by rw [HX.out]; exact hm')))
        clear hm hm'
        go_wp2_with (first
          | ((with_reducible refine op_load_at (o := ⟨some 14, _, _, _, _, _⟩) ?_ 27 (.tmp 13) ?_ _ (.agg (cellsOf x).toArray) ?_ HLD.out ?_); rfl; rfl; rfl)
          | ((with_reducible refine op_alloc rfl 27 rfl _ zero27 ?_); simp only [HG5.out])
          | ((with_reducible refine op_store (w0 := wr.alloc (.cells (cellsOf ent0).toArray 27)) (o := ⟨none, .store 27 (.tmp 5) (.tmp 14), _, _, _, _⟩) g5 ?_ 27 (.tmp 5) (.tmp 14) ?_ g5 (cellsOf x).toArray ?_ ?_ 27 _ HN5.out 38 info27 HCZ.out (cells_sz ok0) (cells_all _) HB5.out (Nat.le_refl _) ?_); rfl; rfl; rfl; rfl; intro W3 h1 h2 h3; have HB3 := Aside0.mk (made_ent (x := x) HG5.out h3.out); clear hload2)
          | (with_reducible refine op_load rfl 27 _ rfl g5 rfl 27 _ _ h1.out Try.underlying27 rfl 38 info27 HCZ.out ?_)
          | (with_reducible refine op_build rfl 25 _ rfl (nums .u8 id0).toArray (by simp only [List.map_toArray, List.map_nil]; exact built25) ?_)
          | ((with_reducible refine (may_calls x _ HOK.out).mono ?_); rw [HM.out]; rintro _ W4 ⟨rfl, hb4⟩; have HS4 := Aside0.mk ((HS.out.step HB3.out).step hb4); have HO4 := Aside0.mk (show W4.heap[g2]? = some (.cells (nums .u8 id0).toArray 25 (0, 0)) from HS4.out.r2))
          | ((with_reducible refine op_store (w0 := w) (o := ⟨none, .store 25 (.tmp 2) (.tmp 18), _, _, _, _⟩) w.heap.size ?_ 25 (.tmp 2) (.tmp 18) ?_ g2 (nums .u8 id0).toArray ?_ ?_ 25 _ HO4.out 32 info25 HIZ.out HIZ.out (id_all _) HS4.out.below HS4.out.ne ?_); rfl; rfl; rfl; rfl; intro wf hf1 hf2 hf3))
        refine ret_row rfl g2 rfl 25 _ _ hf1.out Try.underlying25 rfl 32 info25 HIZ.out rfl ?_
        exact ⟨by rw [HO.out]; rfl, hf3.out⟩
    · obtain rfl : j = l.length := by omega
      have HMA := Aside0.mk (may_all HJ.out)
      clear HJ hlt
      obtain ⟨g6, hg6⟩ : ∃ g, wr.heap.size = g := ⟨_, rfl⟩
      have HG6 := Aside0.mk hg6
      have HS1 := Aside0.mk (hg6 ▸ HS.out.more)
      clear hg6 HS
      go_wp2_with (first | ((with_reducible refine op_alloc rfl 25 rfl _ zero25 ?_); simp only [HG6.out]))
      generalize wr.alloc (.cells (nums .u8 id0).toArray 25) = W2 at HS1 ⊢
      go_loopw [22] (fun v wr => ∃ j : Nat, j ≤ l.length ∧ v = .int .i64 j ∧ Aside0 (∀ i (hi : i < l.length), i < j → l[i].seq = (i : Int)) ∧ Aside0 (H1 w wr g2 g6 A l (chain (l.take j)))) (fun v _ => l.length - (intOf v).toNat)
      case atStart => exact ⟨0, by omega, rfl, ⟨fun i _ hi => absurd hi (by omega)⟩, HS1⟩
      case round =>
        clear HS1 HG6
        obtain ⟨j, hj, rfl, HJ, HS⟩ := hrel
        by_cases hlt : j < l.length
        · obtain ⟨ad, rfl, hok, _, hload⟩ := ent_at HS.out.all.ce j hlt
          have HLD := Aside0.mk hload
          have HLT := Aside0.mk hlt
          have hlt' : decide (j < l.length) = true := by simpa using hlt
          have hlt'' : decide ((j : Int) < (l.length : Int)) = true := by simp; omega
          obtain ⟨x, hx⟩ : ∃ x, l[j] = x := ⟨_, rfl⟩
          have HX := Aside0.mk hx
          have HWX := Aside0.mk (hx ▸ HW.out _ (List.getElem_mem hlt))
          rw [hx] at HLD hok
          have HCZ := Aside0.mk (cells_sz hok)
          obtain ⟨hd, hhd⟩ : ∃ hd, chain (l.take j) = hd := ⟨_, rfl⟩
          have HHD := Aside0.mk hhd
          have HHO := Aside0.mk (hhd ▸ (⟨chain_len _, chain_by _⟩ : (chain (l.take j)).length = 32 ∧ By (chain (l.take j))))
          have HDZ := Aside0.mk (id_sz HHO.out.1)
          rw [hhd] at HS
          obtain ⟨g8, hg8⟩ : ∃ g, wr.heap.size = g := ⟨_, rfl⟩
          have HG8 := Aside0.mk hg8
          have HN8 := Aside0.mk (hg8 ▸ heap_alloc_new wr (.cells (cellsOf ent0).toArray 27) : (wr.alloc (.cells (cellsOf ent0).toArray 27)).heap[g8]? = some (.cells (cellsOf ent0).toArray 27 (0, 0)))
          have HB8 := Aside0.mk (show Below g8 (wr.alloc (.cells (cellsOf ent0).toArray 27)) (wr.alloc (.cells (cellsOf ent0).toArray 27)) from Below.refl _ _)
          clear hload hg8 hx hok hhd
          by_cases hs : x.seq = (j : Int)
          · have hq : (x.seq == (j : Int)) = true := by simpa using hs
            have hq2 : (x.seq != (j : Int)) = false := by simpa using hs
            have HSQ := Aside0.mk hs
            have HLZ := Aside0.mk (id_sz (link_len hd x))
            clear hs
            go_wp2_with (first
              | ((with_reducible refine op_load_at (o := ⟨some 26, _, _, _, _, _⟩) ?_ 27 (.tmp 25) ?_ _ (.agg (cellsOf x).toArray) ?_ HLD.out ?_); rfl; rfl; rfl)
              | ((with_reducible refine op_alloc rfl 27 rfl _ zero27 ?_); simp only [HG8.out])
              | ((with_reducible refine op_store (w0 := wr.alloc (.cells (cellsOf ent0).toArray 27)) (o := ⟨none, .store 27 (.tmp 8) (.tmp 26), _, _, _, _⟩) g8 ?_ 27 (.tmp 8) (.tmp 26) ?_ g8 (cellsOf x).toArray ?_ ?_ 27 _ HN8.out 38 info27 HCZ.out (cells_sz ok0) (cells_all _) HB8.out (Nat.le_refl _) ?_); rfl; rfl; rfl; rfl; intro W3 h1 h2 h3; have HS3 := Aside0.mk (HS.out.step (made_ent (x := x) HG8.out h3.out)); have hk0 := it_cell (show It W3 g8 x from h1.out) 0 _ rfl; have HI6 := Aside0.mk (show W3.heap[g6]? = some (.cells (nums .u8 hd).toArray 25 (0, 0)) from HS3.out.r6))
              | (with_reducible refine op_load rfl 27 _ rfl g8 rfl 27 _ _ h1.out Try.underlying27 rfl 38 info27 HCZ.out ?_)
              | (with_reducible refine op_load rfl 25 _ rfl g6 rfl 25 _ _ HI6.out Try.underlying25 rfl 32 info25 HDZ.out ?_)
              | ((with_reducible refine (link_calls hd x _ HWX.out HHO.out.1 HHO.out.2).mono ?_); rintro _ W4 ⟨rfl, hb4⟩; have HS4 := Aside0.mk (HS3.out.step hb4); have HO4 := Aside0.mk (show W4.heap[g6]? = some (.cells (nums .u8 hd).toArray 25 (0, 0)) from HS4.out.r6); clear hk0)
              | ((with_reducible refine op_store (w0 := w) (o := ⟨none, .store 25 (.tmp 6) (.tmp 36), _, _, _, _⟩) w.heap.size ?_ 25 (.tmp 6) (.tmp 36) ?_ g6 (nums .u8 (linkOut hd x).1).toArray ?_ ?_ 25 _ HO4.out 32 info25 HLZ.out HDZ.out (id_all _) HS4.out.all.below HS4.out.ne.2 ?_); rfl; rfl; rfl; rfl; intro wf hf1 hf2 hf3))
            have HQ := Aside0.mk (HS4.out.put hf1.out hf2.out hf3.out (Kd.C_below HCE.out hf3.out))
            go_roundw
            case rel => exact ⟨j + 1, by omega, by go_num, ⟨upto_seq HJ.out HLT.out (by rw [HX.out]; exact HSQ.out)⟩, ⟨by rw [chain_next _ _ HLT.out, HHD.out, HX.out]; exact HQ.out⟩⟩
            case measure => have := HLT.out; simp [intOf]; omega
          · have hq : (x.seq == (j : Int)) = false := by simpa using hs
            have hq2 : (x.seq != (j : Int)) = true := by simpa using hs
            have HO := Aside0.mk (head_seq HMA.out (seq_not HLT.out (by rw [HX.out]; exact hs)))
            clear hs
            go_wp2_with (first
              | ((with_reducible refine op_load_at (o := ⟨some 26, _, _, _, _, _⟩) ?_ 27 (.tmp 25) ?_ _ (.agg (cellsOf x).toArray) ?_ HLD.out ?_); rfl; rfl; rfl)
              | ((with_reducible refine op_alloc rfl 27 rfl _ zero27 ?_); simp only [HG8.out])
              | ((with_reducible refine op_store (w0 := wr.alloc (.cells (cellsOf ent0).toArray 27)) (o := ⟨none, .store 27 (.tmp 8) (.tmp 26), _, _, _, _⟩) g8 ?_ 27 (.tmp 8) (.tmp 26) ?_ g8 (cellsOf x).toArray ?_ ?_ 27 _ HN8.out 38 info27 HCZ.out (cells_sz ok0) (cells_all _) HB8.out (Nat.le_refl _) ?_); rfl; rfl; rfl; rfl; intro W3 h1 h2 h3; have HS3 := Aside0.mk (HS.out.step (made_ent (x := x) HG8.out h3.out)); have hk0 := it_cell (show It W3 g8 x from h1.out) 0 _ rfl; have HO4 := Aside0.mk (show W3.heap[g2]? = some (.cells (nums .u8 id0).toArray 25 (0, 0)) from HS3.out.all.r2))
              | (with_reducible refine op_build rfl 25 _ rfl (nums .u8 id0).toArray (by simp only [List.map_toArray, List.map_nil]; exact built25) ?_)
              | ((with_reducible refine op_store (w0 := w) (o := ⟨none, .store 25 (.tmp 2) (.tmp 31), _, _, _, _⟩) w.heap.size ?_ 25 (.tmp 2) (.tmp 31) ?_ g2 (nums .u8 id0).toArray ?_ ?_ 25 _ HO4.out 32 info25 HIZ.out HIZ.out (id_all _) HS3.out.all.below HS3.out.all.ne ?_); rfl; rfl; rfl; rfl; intro wf hf1 hf2 hf3))
            refine ret_row rfl g2 rfl 25 _ _ hf1.out Try.underlying25 rfl 32 info25 HIZ.out rfl ?_
            exact ⟨by rw [HO.out]; rfl, hf3.out⟩
        · obtain rfl : j = l.length := by omega
          have HO := Aside0.mk (head_yes HMA.out (seq_all HJ.out))
          have HI6 := Aside0.mk (show wr.heap[g6]? = some (.cells (nums .u8 (chain l)).toArray 25 (0, 0)) from by have := HS.out.r6; rw [List.take_length] at this; exact this)
          have HO4 := Aside0.mk (show wr.heap[g2]? = some (.cells (nums .u8 id0).toArray 25 (0, 0)) from HS.out.all.r2)
          have HLZ := Aside0.mk (id_sz (chain_len l))
          clear hlt HJ
          go_wp2_with (first
            | (with_reducible refine op_load rfl 25 _ rfl g6 rfl 25 _ _ HI6.out Try.underlying25 rfl 32 info25 HLZ.out ?_)
            | ((with_reducible refine op_store (w0 := w) (o := ⟨none, .store 25 (.tmp 2) (.tmp 39), _, _, _, _⟩) w.heap.size ?_ 25 (.tmp 2) (.tmp 39) ?_ g2 (nums .u8 (chain l)).toArray ?_ ?_ 25 _ HO4.out 32 info25 HLZ.out HIZ.out (id_all _) HS.out.all.below HS.out.all.ne ?_); rfl; rfl; rfl; rfl; intro wf hf1 hf2 hf3))
          refine ret_row rfl g2 rfl 25 _ _ hf1.out Try.underlying25 rfl 32 info25 HLZ.out rfl ?_
          exact ⟨by rw [HO.out]; rfl, hf3.out⟩
def rh12T : Bool × List (List Nat × List Nat) := (true, [([], []), ([], []), ([], []), ([1, 2], [1, 2]), ([3], [3]), ([0, 4], [0, 4]), ([5], [5]), ([6], [6]), ([6], [6]), ([7, 5, 0, 1, 2, 3, 4, 5, 6, 7], [7])])
def rh12B : List Nat := [0, 0, 0, 6, 14, 31, 63, 127, 127, 255]
theorem rh12tab : rtab .any (opsOf Try.f27 12) = rh12T := by kernel_rfl
theorem rh12bits : waitsOk rh12T.2 rh12B = true := by kernel_rfl
theorem ent_load {W : World} {ad : Addr} {l : List Ent} (h : CE W (some ad) l) (j : Nat) (hj : j < l.length) (x : Ent) (hx : l[j] = x) : (Instr.loadAt 27 (.pointer (some (ad.add (j * 38))))).run Try.prog W = .ok (.agg (cellsOf x).toArray) W := by
  obtain ⟨ad', e, _, _, hl⟩ := ent_at h j hj
  cases e
  rw [← hx]
  exact hl
theorem H1.row {w W : World} {g2 g6 : Nat} {A : Option Addr} {l : List Ent} {h : List Int} (k : H1 w W g2 g6 A l h) (h' : List Int) (hce : CE (W.setRow g6 (nums .u8 h').toArray) A l) : H1 w (W.setRow g6 (nums .u8 h').toArray) g2 g6 A l h' :=
  k.put (setRow_heap W g6 _ _ 25 (0, 0) k.r6) ⟨rfl, rfl, rfl, by simp, fun q hq hne => setRow_other W g6 q _ (fun e => hne (by rw [e]))⟩ (below_setRow k.all.below k.ne.2 _) hce
set_option maxHeartbeats 3200000 in
theorem ref_head_calls (A : Option Addr) (c : Nat) (l : List Ent) (w : World) (hr : CE w A l) (hc : l.length ≤ c) (hw : ∀ x ∈ l, Wf x) :
    Calls Try.prog 27 #[.slice A l.length c] w fun e w' => e = .returned (.tuple #[.agg (nums .u8 (headOut l).1).toArray, .int .i64 (headOut l).2]) ∧ Below w.heap.size w w' := by
  have HS0 := Aside0.mk (H0.start w A l hr)
  have HW := Aside0.mk hw
  have HCE := Aside0.mk hr
  have HIZ := Aside0.mk (id_sz id0_len)
  have hmx := hr.2.1
  have hwa := Sw.size_alloc w (.cells (nums .u8 id0).toArray 25)
  have HS := Aside0.mk (HS0.out.more)
  rw [hwa] at HS
  clear hr hw HS0
  go_enter Try.func27, Try.ntmps27
  go_wp2_with (first | (with_reducible refine op_alloc rfl 25 rfl _ zero25 ?_))
  clear hwa
  generalize (w.alloc (.cells (nums .u8 id0).toArray 25)).alloc (.cells (nums .u8 id0).toArray 25) = W1 at HS ⊢
  generalize w.heap.size + 1 = g4 at HS ⊢
  generalize w.heap.size = g2 at HS ⊢
  go_loopw [5] (fun v wr => ∃ j : Nat, j ≤ l.length ∧ v = .int .i64 j ∧ Aside0 (∀ i (hi : i < l.length), i < j → mayE l[i] = true) ∧ Aside0 (H1 w wr g2 g4 A l (chain (l.take 0)))) (fun v _ => l.length - (intOf v).toNat)
  case atStart => exact ⟨0, by omega, rfl, ⟨fun i _ hi => absurd hi (by omega)⟩, HS⟩
  case round =>
    clear HS
    obtain ⟨j, hj, rfl, HJ, HS⟩ := hrel
    by_cases hlt : j < l.length
    · obtain ⟨ad, rfl, hok, _, hload⟩ := ent_at HS.out.all.ce j hlt
      have HLD := Aside0.mk hload
      have HLT := Aside0.mk hlt
      have hlt' : decide (j < l.length) = true := by simpa using hlt
      have hlt'' : decide ((j : Int) < (l.length : Int)) = true := by simp; omega
      obtain ⟨x, hx⟩ : ∃ x, l[j] = x := ⟨_, rfl⟩
      have HX := Aside0.mk hx
      rw [hx] at HLD hok
      have HOK := Aside0.mk hok
      clear hload hx hok
      by_cases hm : mayE x = true
      · have HM := Aside0.mk hm
        clear hm
        go_wp2_with (first
          | ((with_reducible refine op_load_at (o := ⟨some 16, _, _, _, _, _⟩) ?_ 27 (.tmp 15) ?_ _ (.agg (cellsOf x).toArray) ?_ HLD.out ?_); rfl; rfl; rfl)
          | ((with_reducible refine (ref_may_calls x _ HOK.out).mono ?_); rw [HM.out]; rintro _ W4 ⟨rfl, hb4⟩))
        go_roundw
        case rel => exact ⟨j + 1, by omega, by go_num, ⟨upto_next (p := fun x => mayE x = true) HJ.out HLT.out (by rw [HX.out]; exact HM.out)⟩, ⟨HS.out.step hb4⟩⟩
        case measure => have := HLT.out; simp [intOf]; omega
      · have hm' : mayE x = false := by simpa using hm
        have HM := Aside0.mk hm'
        have HO := Aside0.mk (head_may (may_not HLT.out (by rw [HX.out]; exact hm')))
        clear hm hm'
        go_wp2_with (first
          | ((with_reducible refine op_load_at (o := ⟨some 16, _, _, _, _, _⟩) ?_ 27 (.tmp 15) ?_ _ (.agg (cellsOf x).toArray) ?_ HLD.out ?_); rfl; rfl; rfl)
          | (with_reducible refine op_build rfl 25 _ rfl (nums .u8 id0).toArray (by simp only [List.map_toArray, List.map_nil]; exact built25) ?_)
          | ((with_reducible refine (ref_may_calls x _ HOK.out).mono ?_); rw [HM.out]; rintro _ W4 ⟨rfl, hb4⟩; have HS4 := Aside0.mk (HS.out.step hb4); have HO4 := Aside0.mk (show W4.heap[g2]? = some (.cells (nums .u8 id0).toArray 25 (0, 0)) from HS4.out.all.r2))
          | ((with_reducible refine op_store (w0 := w) (o := ⟨none, .store 25 (.tmp 2) (.tmp 19), _, _, _, _⟩) w.heap.size ?_ 25 (.tmp 2) (.tmp 19) ?_ g2 (nums .u8 id0).toArray ?_ ?_ 25 _ HO4.out 32 info25 HIZ.out HIZ.out (id_all _) HS4.out.all.below HS4.out.all.ne ?_); rfl; rfl; rfl; rfl; intro wf hf1 hf2 hf3))
        refine ret_row rfl g2 rfl 25 _ _ hf1.out Try.underlying25 rfl 32 info25 HIZ.out rfl ?_
        exact ⟨by rw [HO.out]; rfl, hf3.out⟩
    · obtain rfl : j = l.length := by omega
      have HMA := Aside0.mk (may_all HJ.out)
      clear HJ hlt
      go_wp2
      go_loopw [6] (fun v wr => ∃ j : Nat, j ≤ l.length ∧ v = .int .i64 j ∧ Aside0 (∀ i (hi : i < l.length), i < j → l[i].seq = (i : Int)) ∧ Aside0 (H1 w wr g2 g4 A l (chain (l.take j)))) (fun v _ => l.length - (intOf v).toNat)
      case atStart => exact ⟨0, by omega, rfl, ⟨fun i _ hi => absurd hi (by omega)⟩, HS⟩
      case round =>
        clear HS
        obtain ⟨j, hj, rfl, HJ, HS⟩ := hrel
        by_cases hlt : j < l.length
        · obtain ⟨ad, rfl, hok, hn, _⟩ := ent_at HS.out.all.ce j hlt
          have HLT := Aside0.mk hlt
          have hlt' : decide (j < l.length) = true := by simpa using hlt
          have hlt'' : decide ((j : Int) < (l.length : Int)) = true := by simp; omega
          obtain ⟨x, hx⟩ : ∃ x, l[j] = x := ⟨_, rfl⟩
          have HX := Aside0.mk hx
          have HWX := Aside0.mk (hx ▸ HW.out _ (List.getElem_mem hlt))
          rw [hx] at hn hok
          have hn1 : wr.cell? (ad.add (j * 38)) = some (.int .i64 x.seq) := by
            have := hn 0 _ rfl
            rwa [Nat.add_zero] at this
          obtain ⟨hd, hhd⟩ : ∃ hd, chain (l.take j) = hd := ⟨_, rfl⟩
          have HHD := Aside0.mk hhd
          have HHO := Aside0.mk (hhd ▸ (⟨chain_len _, chain_by _⟩ : (chain (l.take j)).length = 32 ∧ By (chain (l.take j))))
          have HDZ := Aside0.mk (id_sz HHO.out.1)
          rw [hhd] at HS
          clear hx hok hhd hn
          by_cases hs : x.seq = (j : Int)
          · have hq : (x.seq == (j : Int)) = true := by simpa using hs
            have hq2 : (x.seq != (j : Int)) = false := by simpa using hs
            have HSQ := Aside0.mk hs
            clear hs
            go_upto_region 12 with (fail)
            clear hn1 hq hq2
            refine start_ (n := 10) (S := (fun W_ => H1 w W_ g2 g4 (some ad) l hd)) (ds := [9]) #[false, false, false, false, false, false, false, false, false, false] (by kernel_rfl) rfl rfl (HS.out.step (below_drew1 (Below.refl _ _))) (fun hHeld => ?_); refine with_tabW rh12tab rh12bits (fun HT_ HW_ => ?_)
            clear HS; generalize World.drew _ = wq at hHeld ⊢
            refine take_ (i := 0) (N := some 35) (v := (.agg (nums .u8 hd).toArray)) (a' := ?_) #[true, false, false, false, false, false, false, false, false, false] rfl rfl (take_ofW HT_.out HW_.out (by kernel_rfl)) (fun _ _ _ h => h) (Or.inl ⟨by rfl, fun w' hw' => load_run rfl rfl (load_id hw'.r6 HHO.out.1)⟩) hHeld ?_ ?_
            rotate_left
            · simp only [Act.put, List.setIfInBounds_toArray, List.set_cons_zero, List.set_cons_succ, i64_w, i32_w]
              rfl
            refine pure_ (i := 1) (N := some 36) (v := ?_) (a' := ?_) #[true, true, false, false, false, false, false, false, false, false] rfl rfl (any_of HT_.out (by kernel_rfl)) (fun _ _ _ h => h) (Or.inl ⟨by rfl, ?_⟩) ?_ ?_
            rotate_left
            · intro w'
              go_simp
              with_reducible rfl
            rotate_left
            · simp only [Act.put, List.setIfInBounds_toArray, List.set_cons_zero, List.set_cons_succ, i64_w, i32_w]
              rfl
            refine pure_ (i := 2) (N := some 37) (v := ?_) (a' := ?_) #[true, true, true, false, false, false, false, false, false, false] rfl rfl (any_of HT_.out (by kernel_rfl)) (fun _ _ _ h => h) (Or.inl ⟨by rfl, ?_⟩) ?_ ?_
            rotate_left
            · intro w'
              go_simp
              with_reducible rfl
            rotate_left
            · simp only [Act.put, List.setIfInBounds_toArray, List.set_cons_zero, List.set_cons_succ, i64_w, i32_w]
              rfl
            refine pure_ (i := 3) (N := some 38) (v := ?_) (a' := ?_) #[true, true, true, true, false, false, false, false, false, false] rfl rfl (any_of HT_.out (by kernel_rfl)) (fun _ _ _ h => h) (Or.inl ⟨by rfl, ?_⟩) ?_ ?_
            rotate_left
            · intro w'
              go_simp
              with_reducible rfl
            rotate_left
            · simp only [Act.put, List.setIfInBounds_toArray, List.set_cons_zero, List.set_cons_succ, i64_w, i32_w]
              rfl
            refine take_ (i := 4) (N := some 39) (v := (.agg (cellsOf x).toArray)) (a' := ?_) #[true, true, true, true, true, false, false, false, false, false] rfl rfl (take_ofW HT_.out HW_.out (by kernel_rfl)) (fun _ _ _ h => h) (Or.inl ⟨by rfl, fun w' hw' => load_run rfl rfl (ent_load hw'.all.ce j HLT.out x HX.out)⟩) hHeld ?_ ?_
            rotate_left
            · simp only [Act.put, List.setIfInBounds_toArray, List.set_cons_zero, List.set_cons_succ, i64_w, i32_w]
              rfl
            refine one_ (i := 5) (N := some 40) #[true, true, true, true, true, true, false, false, false, false] rfl rfl (one_of HT_.out (by kernel_rfl)) (by decide) (fun K hK => ?_)
            refine goes_ Try.func19 (by kernel_rfl) rfl #[.agg (nums .u8 hd).toArray, .agg (cellsOf x).toArray] (by rfl) rfl rfl (by (try simp only [List.map_toArray, List.map_cons, List.map_nil]); first | done | rfl) ?_
            refine (ref_link_calls hd x _ HWX.out HHO.out.1 HHO.out.2).mono ?_
            rintro ep W4 ⟨rfl, hb4⟩; refine ⟨_, rfl, ?_⟩
            have HS4 := Aside0.mk (hHeld.step hb4)
            clear hb4
            refine hK.out _ _ (HS4.out) (fun hHeld => ?_)
            clear hK K
            refine norm_ (a' := ?_) ?_ ?_
            rotate_left
            · show Act.put _ (some 40) _ = _
              simp only [Act.put, List.setIfInBounds_toArray, List.set_cons_zero, List.set_cons_succ, i64_w, i32_w]
              rfl
            clear HS4
            refine pure_ (i := 6) (N := some 34) (v := ?_) (a' := ?_) #[true, true, true, true, true, true, true, false, false, false] rfl rfl (any_of HT_.out (by kernel_rfl)) (fun _ _ _ h => h) (Or.inl ⟨by rfl, ?_⟩) ?_ ?_
            rotate_left
            · intro w'
              go_simp
              with_reducible rfl
            rotate_left
            · simp only [Act.put, List.setIfInBounds_toArray, List.set_cons_zero, List.set_cons_succ, i64_w, i32_w]
              rfl
            refine pure_ (i := 7) (N := some 41) (v := ?_) (a' := ?_) #[true, true, true, true, true, true, true, true, false, false] rfl rfl (any_of HT_.out (by kernel_rfl)) (fun _ _ _ h => h) (Or.inl ⟨by rfl, ?_⟩) ?_ ?_
            rotate_left
            · intro w'
              go_simp
              with_reducible rfl
            rotate_left
            · simp only [Act.put, List.setIfInBounds_toArray, List.set_cons_zero, List.set_cons_succ, i64_w, i32_w]
              rfl
            refine pure_ (i := 8) (N := some 42) (v := ?_) (a' := ?_) #[true, true, true, true, true, true, true, true, true, false] rfl rfl (any_of HT_.out (by kernel_rfl)) (fun _ _ _ h => h) (Or.inl ⟨by rfl, ?_⟩) ?_ ?_
            rotate_left
            · intro w'
              go_simp
              with_reducible rfl
            rotate_left
            · simp only [Act.put, List.setIfInBounds_toArray, List.set_cons_zero, List.set_cons_succ, i64_w, i32_w]
              rfl
            refine last_ (i := 9) (N := none) #[true, true, true, true, true, true, true, true, true, true] rfl rfl (one_of HT_.out (by kernel_rfl)) (by decide) (fun K hK => ?_)
            refine skip_ (w1 := W4.setRow g4 (nums .u8 (linkOut hd x).1).toArray) (by rfl) rfl (by exact store_run _ 25 (.tmp 4) (.tmp 41) rfl g4 _ rfl rfl 25 _ hHeld.r6 32 info25 (id_sz (link_len hd x)) HDZ.out (id_all _)) ?_
            refine hK.out _ _ ?_
            clear hK K
            have HQ := Aside0.mk (hHeld.row (linkOut hd x).1 (Kd.C_below HCE.out (below_setRow hHeld.all.below hHeld.ne.2 _)))
            generalize World.setRow _ _ _ = wz at HQ ⊢
            refine done_ (done_of HT_.out (by kernel_rfl)) ?_
            clear hHeld HT_ HW_
            go_wp2
            go_roundw
            case rel => exact ⟨j + 1, by omega, by go_num, ⟨upto_seq HJ.out HLT.out (by rw [HX.out]; exact HSQ.out)⟩, ⟨by rw [chain_next _ _ HLT.out, HHD.out, HX.out]; exact HQ.out⟩⟩
            case measure => have := HLT.out; simp [intOf]; omega
          · have hq : (x.seq == (j : Int)) = false := by simpa using hs
            have hq2 : (x.seq != (j : Int)) = true := by simpa using hs
            have HO := Aside0.mk (head_seq HMA.out (seq_not HLT.out (by rw [HX.out]; exact hs)))
            have HO4 := Aside0.mk (show wr.heap[g2]? = some (.cells (nums .u8 id0).toArray 25 (0, 0)) from HS.out.all.r2)
            clear hs
            go_wp2_with (first
              | (with_reducible refine op_build rfl 25 _ rfl (nums .u8 id0).toArray (by simp only [List.map_toArray, List.map_nil]; exact built25) ?_)
              | ((with_reducible refine op_store (w0 := w) (o := ⟨none, .store 25 (.tmp 2) (.tmp 33), _, _, _, _⟩) w.heap.size ?_ 25 (.tmp 2) (.tmp 33) ?_ g2 (nums .u8 id0).toArray ?_ ?_ 25 _ HO4.out 32 info25 HIZ.out HIZ.out (id_all _) HS.out.all.below HS.out.all.ne ?_); rfl; rfl; rfl; rfl; intro wf hf1 hf2 hf3))
            refine ret_row rfl g2 rfl 25 _ _ hf1.out Try.underlying25 rfl 32 info25 HIZ.out rfl ?_
            exact ⟨by rw [HO.out]; rfl, hf3.out⟩
        · obtain rfl : j = l.length := by omega
          have HO := Aside0.mk (head_yes HMA.out (seq_all HJ.out))
          have HI6 := Aside0.mk (show wr.heap[g4]? = some (.cells (nums .u8 (chain l)).toArray 25 (0, 0)) from by have := HS.out.r6; rw [List.take_length] at this; exact this)
          have HO4 := Aside0.mk (show wr.heap[g2]? = some (.cells (nums .u8 id0).toArray 25 (0, 0)) from HS.out.all.r2)
          have HLZ := Aside0.mk (id_sz (chain_len l))
          clear hlt HJ
          go_wp2_with (first
            | (with_reducible refine op_load rfl 25 _ rfl g4 rfl 25 _ _ HI6.out Try.underlying25 rfl 32 info25 HLZ.out ?_)
            | ((with_reducible refine op_store (w0 := w) (o := ⟨none, .store 25 (.tmp 2) (.tmp 43), _, _, _, _⟩) w.heap.size ?_ 25 (.tmp 2) (.tmp 43) ?_ g2 (nums .u8 (chain l)).toArray ?_ ?_ 25 _ HO4.out 32 info25 HLZ.out HIZ.out (id_all _) HS.out.all.below HS.out.all.ne ?_); rfl; rfl; rfl; rfl; intro wf hf1 hf2 hf3))
          refine ret_row rfl g2 rfl 25 _ _ hf1.out Try.underlying25 rfl 32 info25 HLZ.out rfl ?_
          exact ⟨by rw [HO.out]; rfl, hf3.out⟩
end Go.Proofs.Ytgpgblidplmchaa.Hd
namespace Go.Proofs.Ytgpgblidplmchaa.Ex
open Go.RowKit Go.Proofs.YtgpgblidplmchaaW.PrintWords Go.Proofs.YtgpgblidplmchaaW.PrintLast Go.Proofs.YtgpgblidplmchaaW.PrintMore
open Ag En Spc OctA OctC Eb Eh Ek Lk Hd Spw
set_option linter.unusedVariables false
set_option linter.unusedSimpArgs false
set_option maxRecDepth 100000
def body (l : List Ent) : List Int := l.flatMap bytesE
def full (l : List Ent) : List Int := [76, 49] ++ be 8 l.length ++ body l
def expOut (l : List Ent) : List Int × Int := if (headOut l).2 = 0 then (full l, 0) else ([], (headOut l).2)
theorem body_snoc (l : List Ent) (x : Ent) : body (l ++ [x]) = body l ++ bytesE x := by unfold body; simp
theorem body_next (l : List Ent) (j : Nat) (hj : j < l.length) : body (l.take (j + 1)) = body (l.take j) ++ bytesE l[j] := by
  rw [List.take_succ_eq_append_getElem hj, body_snoc]
theorem head_zero {l : List Ent} (h : (headOut l).2 = 0) : l.all mayE = true ∧ seqB l = true ∧ (headOut l).1 = chain l := by
  unfold headOut at h ⊢
  by_cases h1 : l.all mayE = true
  · rw [if_pos h1] at h ⊢
    by_cases h2 : seqB l = true
    · rw [if_pos h2]; exact ⟨h1, h2, rfl⟩
    · rw [if_neg h2] at h; simp at h
  · rw [if_neg h1] at h; simp at h
theorem head_len (l : List Ent) : (headOut l).1.length = 32 := by
  unfold headOut
  split
  · split
    · exact chain_len l
    · exact id0_len
  · exact id0_len
theorem body_len {l : List Ent} (h : l.all mayE = true) (hw : ∀ x ∈ l, Wf x) : ∀ j, j ≤ l.length → (body (l.take j)).length ≤ 76 * j
  | 0, _ => by simp [body]
  | j + 1, hj => by
    have := body_len h hw j (by omega)
    have hm := List.all_eq_true.1 h _ (List.getElem_mem (show j < l.length by omega))
    have ht := (may_parts hm).2.2.2.2.2.2
    have hl := bytesE_len (hw _ (List.getElem_mem (show j < l.length by omega))).1
    rw [body_next l j (by omega), List.length_append]
    omega
theorem put_f (n : Nat) (hn : n ≤ 100000) : POct.octet_Put.f 40 [76, 49] (n : Int) 8 = some ([76, 49] ++ be 8 n, 0) := by
  have := put_int 40 [76, 49] (n : Int) 8 (by omega) (by omega) (by omega) (by omega) (by simp) (by omega)
  simpa using this
set_option maxHeartbeats 3200000 in
theorem export_calls (A : Option Addr) (c : Nat) (l : List Ent) (w : World) (hr : CE w A l) (hc : l.length ≤ c) (hw : ∀ x ∈ l, Wf x) (hl : l.length ≤ 100000) :
    Calls Try.prog 28 #[.slice A l.length c] w fun e w' => ∃ v, e = .returned (.tuple #[v, .int .i64 (expOut l).2]) ∧ RB w' w.heap.size v (expOut l).1 ∧ Below w.heap.size w w' := by
  have kc := fun (w : World) (C : Array Value) (n c : Nat) => Lib.run_convert_bytes_const (P := Try.prog) w 37 5 C n c Try.underlying37 Try.underlying5
  have HR := Aside0.mk hr; have HW := Aside0.mk hw; have HL := Aside0.mk hl
  have HZ := Aside0.mk (id_sz (head_len l))
  have hmx := hr.2.1
  obtain ⟨he, hhe⟩ : ∃ h, (headOut l).2 = h := ⟨_, rfl⟩
  have HHE := Aside0.mk hhe
  have HCL := Aside0.mk (hhe ▸ fun W (h : CE W A l) => head_calls A c l W h hc hw)
  clear hr hw hhe
  go_enter Try.func28, Try.ntmps28
  go_upto_region 2 with (first
    | ((with_reducible refine (HCL.out _ HR.out).mono ?_); rintro _ w1 ⟨rfl, hb1⟩; obtain ⟨g4, hg4⟩ : ∃ g, w1.heap.size = g := ⟨_, rfl⟩; have HG4 := Aside0.mk hg4; have HN4 := Aside0.mk (hg4 ▸ heap_alloc_new w1 (.cells (nums .u8 id0).toArray 25) : (w1.alloc (.cells (nums .u8 id0).toArray 25)).heap[g4]? = some (.cells (nums .u8 id0).toArray 25 (0, 0))); have HB1 := Aside0.mk (hb1.alloc hb1.size (.cells (nums .u8 id0).toArray 25)); have HL4 := Aside0.mk (hg4 ▸ hb1.size); clear hg4)
    | ((with_reducible refine op_alloc rfl 25 rfl _ zero25 ?_); simp only [HG4.out])
    | ((with_reducible refine op_store (w0 := w) (o := ⟨none, .store 25 (.tmp 4) (.tmp 15), _, _, _, _⟩) w.heap.size ?_ 25 (.tmp 4) (.tmp 15) ?_ g4 (nums .u8 (headOut l).1).toArray ?_ ?_ 25 _ HN4.out 32 info25 HZ.out (id_sz id0_len) (id_all _) HB1.out HL4.out ?_); rfl; rfl; rfl; rfl; intro w2 h1 h2 h3))
  have HB2 := Aside0.mk h3.out
  clear h1 h2 h3 hb1 HB1 HN4 HG4 HL4
  by_cases hz : he = 0
  rotate_left
  · have hq : (he == 0) = false := by simpa using hz
    have hq2 : (he != 0) = true := by simpa using hz
    have HO := Aside0.mk (show expOut l = ([], he) from by unfold expOut; rw [HHE.out, if_neg hz])
    clear hz
    go_wp2
    go_ret2
    exact ⟨_, by rw [HO.out]; rfl, by rw [HO.out]; exact RB.of_own (own_nil _ _ _ _), HB2.out⟩
  subst hz
  have HO := Aside0.mk (show expOut l = (full l, 0) from by unfold expOut; rw [HHE.out, if_pos rfl])
  have HM := Aside0.mk (head_zero HHE.out).1
  have hlit := Aside0.mk (lit_const w2 76 49 (2, 3))
  have HBl := Aside0.mk (HB2.out.alloc HB2.out.size (.cells #[.int .u8 76, .int .u8 49] 5 (2, 3)))
  have hl1 : l.length ≤ 100000 := HL.out
  have HF := Aside0.mk (put_f l.length hl1)
  go_wp2_with fail
  refine (POct.octet_Put.calls 40 _ 2 [76, 49] l.length 8 _ 0 _ hlit.out (by simp) HF.out).mono ?_
  rintro e3 w3 ⟨v3, rfl, ho3, hb3⟩
  have HB3 := Aside0.mk (below_step HBl.out hb3)
  have HO3 := Aside0.mk (Kd.R_lower ho3 HBl.out.size)
  obtain ⟨A3, c3, rfl, _, _⟩ := Kd.R_reads HO3.out
  obtain ⟨z3, hz3⟩ : ∃ z, [76, 49] ++ be 8 l.length = z := ⟨_, rfl⟩
  have HZ3 := Aside0.mk hz3
  rw [hz3] at HO3 ⊢
  clear hz3
  clear ho3 hb3 hlit HBl HB2
  go_wp2_with fail
  have HZL := Aside0.mk (show z3.length = 10 from by rw [← HZ3.out]; simp [be_length])
  have HZ0 := Aside0.mk (show z3 = z3 ++ body (l.take 0) from by simp [body])
  go_loopw [6, 31] (fun vb u wr => ∃ (j : Nat) (zs : List Int) (A4 : Option Addr) (c4 : Nat), j ≤ l.length ∧ vb = .slice A4 zs.length c4 ∧ u = .int .i64 j ∧ Aside0 (zs = z3 ++ body (l.take j)) ∧ Aside0 (RB wr w.heap.size (.slice A4 zs.length c4) zs) ∧ Aside0 (Below w.heap.size w wr)) (fun _ u _ => l.length - (intOf u).toNat)
  case atStart => exact ⟨0, z3, A3, c3, by omega, rfl, rfl, HZ0, HO3, HB3⟩
  case round =>
    clear HO3 HB3 HZ0
    obtain ⟨j, zs, A4, c4, hj, rfl, rfl, HZS, HOS, HB⟩ := hrel
    have HCE := Aside0.mk (Kd.C_below HR.out HB.out)
    by_cases hlt : j < l.length
    · obtain ⟨ad, rfl, hok, _, hload⟩ := ent_at HCE.out j hlt
      have HLD := Aside0.mk hload
      have HLT := Aside0.mk hlt
      have hlt' : decide (j < l.length) = true := by simpa using hlt
      have hlt'' : decide ((j : Int) < (l.length : Int)) = true := by simp; omega
      obtain ⟨x, hx⟩ : ∃ x, l[j] = x := ⟨_, rfl⟩
      have HX := Aside0.mk hx
      have HWX := Aside0.mk (hx ▸ HW.out _ (List.getElem_mem hlt))
      have HMX := Aside0.mk (hx ▸ List.all_eq_true.1 HM.out _ (List.getElem_mem hlt))
      rw [hx] at HLD hok
      have HCZ := Aside0.mk (cells_sz hok)
      have HSL := Aside0.mk (show zs.length + (bytesE x).length ≤ 140737488355328 from by have h1 := body_len HM.out HW.out j hj; have h2 := HZL.out; have h3 := HL.out; have h4 := bytesE_len HWX.out.1; have h5 := (may_parts HMX.out).2.2.2.2.2.2; rw [HZS.out, List.length_append]; omega)
      clear hload hx hok
      obtain ⟨g9, hg9⟩ : ∃ g, wr.heap.size = g := ⟨_, rfl⟩
      have HG9 := Aside0.mk hg9
      have HN9 := Aside0.mk (hg9 ▸ heap_alloc_new wr (.cells (cellsOf ent0).toArray 27) : (wr.alloc (.cells (cellsOf ent0).toArray 27)).heap[g9]? = some (.cells (cellsOf ent0).toArray 27 (0, 0)))
      have HB9 := Aside0.mk (show Below g9 (wr.alloc (.cells (cellsOf ent0).toArray 27)) (wr.alloc (.cells (cellsOf ent0).toArray 27)) from Below.refl _ _)
      clear hg9
      go_wp2_with (first
        | ((with_reducible refine op_load_at (o := ⟨some 34, _, _, _, _, _⟩) ?_ 27 (.tmp 33) ?_ _ (.agg (cellsOf x).toArray) ?_ HLD.out ?_); rfl; rfl; rfl)
        | ((with_reducible refine op_alloc rfl 27 rfl _ zero27 ?_); simp only [HG9.out])
        | ((with_reducible refine op_store (w0 := wr.alloc (.cells (cellsOf ent0).toArray 27)) (o := ⟨none, .store 27 (.tmp 9) (.tmp 34), _, _, _, _⟩) g9 ?_ 27 (.tmp 9) (.tmp 34) ?_ g9 (cellsOf x).toArray ?_ ?_ 27 _ HN9.out 38 info27 HCZ.out (cells_sz ok0) (cells_all _) HB9.out (Nat.le_refl _) ?_); rfl; rfl; rfl; rfl; intro W3 h1 h2 h3; have HB3 := Aside0.mk (made_ent (x := x) HG9.out h3.out))
        | (with_reducible refine op_load rfl 27 _ rfl g9 rfl 27 _ _ h1.out Try.underlying27 rfl 38 info27 HCZ.out ?_)
        | ((with_reducible refine (bytes_yes x _ HWX.out HMX.out).mono ?_); rintro _ W4 ⟨v, rfl, hr4, hb4⟩; obtain ⟨A5, c5, rfl, hc5, hC5⟩ := Kd.R_reads hr4; have HB4 := Aside0.mk (HB3.out.trans (hb4.mono HB3.out.size)); have HO4 := Aside0.mk (Kd.R_below HOS.out HB4.out); have HBB := Aside0.mk (HB.out.trans (HB4.out.mono HB.out.size)); have HC5 := Aside0.mk hC5; clear hr4 hb4 hc5 hC5)
        | (at_builtin; refine app_row (w0 := w) w.heap.size rfl (.tmp 40) (.tmp 41) 37 rfl Try.underlying37 POct.info5 _ zs (bytesE x) A5 c5 rfl rfl HO4.out HC5.out HBB.out HBB.out.size HSL.out ?_; intro z5 A6 c6 W5 hz5 hc6 HO5 HB5; clear HO4 HC5 HBB HB4))
      go_roundw
      case rel => exact ⟨j + 1, z5, A6, c6, by omega, rfl, by go_num, ⟨by rw [hz5.out, HZS.out, body_next l j HLT.out, HX.out, List.append_assoc]⟩, HO5, HB5⟩
      case measure => have := HLT.out; simp [intOf]; omega
    · obtain rfl : j = l.length := by omega
      have HFN := Aside0.mk (show zs = full l from by rw [HZS.out, List.take_length, ← HZ3.out]; rfl)
      clear hlt
      go_wp2
      go_ret2
      exact ⟨_, by rw [HO.out]; rfl, by rw [HO.out, ← HFN.out]; exact HOS.out, HB.out⟩
set_option maxHeartbeats 3200000 in
theorem ref_export_calls (A : Option Addr) (c : Nat) (l : List Ent) (w : World) (hr : CE w A l) (hc : l.length ≤ c) (hw : ∀ x ∈ l, Wf x) (hl : l.length ≤ 100000) :
    Calls Try.prog 29 #[.slice A l.length c] w fun e w' => ∃ v, e = .returned (.tuple #[v, .int .i64 (expOut l).2]) ∧ RB w' w.heap.size v (expOut l).1 ∧ Below w.heap.size w w' := by
  have kc := fun (w : World) (C : Array Value) (n c : Nat) => Lib.run_convert_bytes_const (P := Try.prog) w 37 5 C n c Try.underlying37 Try.underlying5
  have HR := Aside0.mk hr; have HW := Aside0.mk hw; have HL := Aside0.mk hl
  have HZ := Aside0.mk (id_sz (head_len l))
  have hmx := hr.2.1
  obtain ⟨he, hhe⟩ : ∃ h, (headOut l).2 = h := ⟨_, rfl⟩
  have HHE := Aside0.mk hhe
  have HCL := Aside0.mk (hhe ▸ fun W (h : CE W A l) => ref_head_calls A c l W h hc hw)
  clear hr hw hhe
  go_enter Try.func29, Try.ntmps29
  go_upto_region 2 with (first
    | ((with_reducible refine (HCL.out _ HR.out).mono ?_); rintro _ w1 ⟨rfl, hb1⟩; obtain ⟨g4, hg4⟩ : ∃ g, w1.heap.size = g := ⟨_, rfl⟩; have HG4 := Aside0.mk hg4; have HN4 := Aside0.mk (hg4 ▸ heap_alloc_new w1 (.cells (nums .u8 id0).toArray 25) : (w1.alloc (.cells (nums .u8 id0).toArray 25)).heap[g4]? = some (.cells (nums .u8 id0).toArray 25 (0, 0))); have HB1 := Aside0.mk (hb1.alloc hb1.size (.cells (nums .u8 id0).toArray 25)); have HL4 := Aside0.mk (hg4 ▸ hb1.size); clear hg4)
    | ((with_reducible refine op_alloc rfl 25 rfl _ zero25 ?_); simp only [HG4.out])
    | ((with_reducible refine op_store (w0 := w) (o := ⟨none, .store 25 (.tmp 4) (.tmp 13), _, _, _, _⟩) w.heap.size ?_ 25 (.tmp 4) (.tmp 13) ?_ g4 (nums .u8 (headOut l).1).toArray ?_ ?_ 25 _ HN4.out 32 info25 HZ.out (id_sz id0_len) (id_all _) HB1.out HL4.out ?_); rfl; rfl; rfl; rfl; intro w2 h1 h2 h3))
  have HB2 := Aside0.mk h3.out
  clear h1 h2 h3 hb1 HB1 HN4 HG4 HL4
  by_cases hz : he = 0
  rotate_left
  · have hq : (he == 0) = false := by simpa using hz
    have hq2 : (he != 0) = true := by simpa using hz
    have HO := Aside0.mk (show expOut l = ([], he) from by unfold expOut; rw [HHE.out, if_neg hz])
    clear hz
    go_wp2
    go_ret2
    exact ⟨_, by rw [HO.out]; rfl, by rw [HO.out]; exact RB.of_own (own_nil _ _ _ _), HB2.out⟩
  subst hz
  have HO := Aside0.mk (show expOut l = (full l, 0) from by unfold expOut; rw [HHE.out, if_pos rfl])
  have HM := Aside0.mk (head_zero HHE.out).1
  have hlit := Aside0.mk (lit_const w2 76 49 (2, 3))
  have HBl := Aside0.mk (HB2.out.alloc HB2.out.size (.cells #[.int .u8 76, .int .u8 49] 5 (2, 3)))
  have hl1 : l.length ≤ 100000 := HL.out
  have h8 : (be 8 l.length).length = 8 := be_length _ _
  have HF := Aside0.mk (show POct.cofferref1_Eight.f 40 (l.length : Int) = some (be 8 l.length) from by have := Erb.eight_f (l.length : Int) (by omega) (by omega); simpa using this)
  obtain ⟨z8, hz8⟩ : ∃ z, be 8 l.length = z := ⟨_, rfl⟩
  rw [hz8] at HF h8
  have H8 := Aside0.mk h8
  clear h8
  go_wp2_with fail
  refine (POct.cofferref1_Eight.calls 40 l.length z8 _ HF.out).mono ?_
  rintro e3 w3 ⟨v3, rfl, ho3, hb3⟩
  obtain ⟨A8, c8, rfl, hc8, hC8⟩ := Kd.R_reads ho3
  have HB3 := Aside0.mk (below_step HBl.out hb3)
  have HC8 := Aside0.mk hC8
  have HC2 := Aside0.mk (Kd.C_below hlit.out hb3)
  have H3S := Aside0.mk (show Below w.heap.size w w3 ∧ w.heap.size ≤ w3.heap.size from ⟨HB3.out, HB3.out.size⟩)
  clear ho3 hb3 hc8 hC8 hlit HBl HB2
  go_wp2_with (at_builtin; refine app_grows (w0 := w) w.heap.size rfl (.tmp 19) (.tmp 23) 37 rfl Try.underlying37 POct.info5 [76, 49] z8 (some ⟨w2.heap.size, 0, none⟩) 2 A8 c8 rfl rfl HC2.out (fun h => by cases h) HC8.out (by have := H8.out; simp; omega) (by have := H8.out; omega) HB3.out HB3.out.size (by have := H8.out; simp; omega) ?_; intro z3 A3 c3 w4 hz3 hc3 HO3 HB4)
  have HZ3 := Aside0.mk (show [76, 49] ++ be 8 l.length = z3 from by rw [hz3.out, hz8])
  clear HB3 HC8 HC2 H3S hz3 hc3 hz8
  try simp only [Act.put, List.setIfInBounds_toArray, List.set_cons_zero, List.set_cons_succ]
  have HZL := Aside0.mk (show z3.length = 10 from by rw [← HZ3.out]; simp [be_length])
  have HZ0 := Aside0.mk (show z3 = z3 ++ body (l.take 0) from by simp [body])
  go_loopw [6, 7] (fun vb u wr => ∃ (j : Nat) (zs : List Int) (A4 : Option Addr) (c4 : Nat), j ≤ l.length ∧ vb = .slice A4 zs.length c4 ∧ u = .int .i64 j ∧ Aside0 (zs = z3 ++ body (l.take j)) ∧ Aside0 (RB wr w.heap.size (.slice A4 zs.length c4) zs) ∧ Aside0 (Below w.heap.size w wr)) (fun _ u _ => l.length - (intOf u).toNat)
  case atStart => exact ⟨0, z3, A3, c3, by omega, rfl, rfl, HZ0, HO3, HB4⟩
  case round =>
    clear HO3 HB4 HZ0
    obtain ⟨j, zs, A4, c4, hj, rfl, rfl, HZS, HOS, HB⟩ := hrel
    have HCE := Aside0.mk (Kd.C_below HR.out HB.out)
    by_cases hlt : j < l.length
    · obtain ⟨ad, rfl, hok, _, hload⟩ := ent_at HCE.out j hlt
      have HLD := Aside0.mk hload
      have HLT := Aside0.mk hlt
      have hlt' : decide (j < l.length) = true := by simpa using hlt
      have hlt'' : decide ((j : Int) < (l.length : Int)) = true := by simp; omega
      obtain ⟨x, hx⟩ : ∃ x, l[j] = x := ⟨_, rfl⟩
      have HX := Aside0.mk hx
      have HWX := Aside0.mk (hx ▸ HW.out _ (List.getElem_mem hlt))
      have HMX := Aside0.mk (hx ▸ List.all_eq_true.1 HM.out _ (List.getElem_mem hlt))
      rw [hx] at HLD hok
      have HCZ := Aside0.mk (cells_sz hok)
      have HSL := Aside0.mk (show zs.length + (bytesE x).length ≤ 140737488355328 from by have h1 := body_len HM.out HW.out j hj; have h2 := HZL.out; have h3 := HL.out; have h4 := bytesE_len HWX.out.1; have h5 := (may_parts HMX.out).2.2.2.2.2.2; rw [HZS.out, List.length_append]; omega)
      clear hload hx hok
      go_wp2_with (first
        | ((with_reducible refine op_load_at (o := ⟨some 35, _, _, _, _, _⟩) ?_ 27 (.tmp 34) ?_ _ (.agg (cellsOf x).toArray) ?_ HLD.out ?_); rfl; rfl; rfl)
        | ((with_reducible refine (Erb.ref_bytes_yes x _ HWX.out HMX.out).mono ?_); rintro _ W4 ⟨v, rfl, hr4, hb4⟩; obtain ⟨A5, c5, rfl, hc5, hC5⟩ := Kd.R_reads hr4; have HO4 := Aside0.mk (Kd.R_below HOS.out hb4); have HBB := Aside0.mk (HB.out.trans (hb4.mono HB.out.size)); have HC5 := Aside0.mk hC5; clear hr4 hb4 hc5 hC5)
        | (at_builtin; refine app_row (w0 := w) w.heap.size rfl (.tmp 39) (.tmp 40) 37 rfl Try.underlying37 POct.info5 _ zs (bytesE x) A5 c5 rfl rfl HO4.out HC5.out HBB.out HBB.out.size HSL.out ?_; intro z5 A6 c6 W5 hz5 hc6 HO5 HB5; clear HO4 HC5 HBB))
      go_roundw
      case rel => exact ⟨j + 1, z5, A6, c6, by omega, rfl, by go_num, ⟨by rw [hz5.out, HZS.out, body_next l j HLT.out, HX.out, List.append_assoc]⟩, HO5, HB5⟩
      case measure => have := HLT.out; simp [intOf]; omega
    · obtain rfl : j = l.length := by omega
      have HFN := Aside0.mk (show zs = full l from by rw [HZS.out, List.take_length, ← HZ3.out]; rfl)
      clear hlt
      go_wp2
      go_ret2
      exact ⟨_, by rw [HO.out]; rfl, by rw [HO.out, ← HFN.out]; exact HOS.out, HB.out⟩
end Go.Proofs.Ytgpgblidplmchaa.Ex
namespace Go.Proofs.Ytgpgblidplmchaa.Vp
open Go.RowKit Go.Proofs.YtgpgblidplmchaaW.PrintWords Go.Proofs.YtgpgblidplmchaaW.PrintLast Go.Proofs.YtgpgblidplmchaaW.PrintMore
open Ag En Spc Eb Eg Ep Eh Ek Lk Hd Ex Spw
set_option linter.unusedVariables false
set_option linter.unusedSimpArgs false
theorem one_at (r : List Int) (i : Nat) (h : i < r.length) : (r.drop i).take 1 = [r.getD i 0] := by
  rw [List.getD_eq_getElem?_getD, List.getElem?_eq_getElem h, List.drop_eq_getElem_cons h]
  rfl
theorem two_at (r : List Int) (i : Nat) (h : i + 1 < r.length) : (r.drop i).take 2 = [r.getD i 0, r.getD (i + 1) 0] := by
  rw [show 2 = 1 + 1 from rfl, List.take_add, one_at r i (by omega), List.drop_drop, one_at r (i + 1) h]
  rfl
theorem get_by {r : List Int} (h : By r) (i : Nat) (hi : i < r.length) : 0 ≤ r.getD i 0 ∧ r.getD i 0 < 256 := by
  rw [List.getD_eq_getElem?_getD, List.getElem?_eq_getElem hi]
  exact h _ (List.getElem_mem hi)
theorem by_take {r : List Int} (h : By r) (n : Nat) : By (r.take n) := fun x hx => h x (List.mem_of_mem_take hx)
theorem by_drop {r : List Int} (h : By r) (n : Nat) : By (r.drop n) := fun x hx => h x (List.mem_of_mem_drop hx)
theorem be_val8 {l : List Int} (h : By l) (hl : l.length = 8) : be 8 (((val 0 l : Nat) : Int)).toNat = l := by
  have := be_val l 0 h
  rw [hl] at this
  simpa using this
theorem be1 (a : Int) (h0 : 0 ≤ a) (h1 : a < 256) : be 1 a.toNat = [a] := by
  obtain ⟨n, rfl⟩ := Int.eq_ofNat_of_zero_le h0
  simp [be]; omega
theorem be2 (a b : Int) (h0 : 0 ≤ a) (h1 : a < 256) (h2 : 0 ≤ b) (h3 : b < 256) : be 2 (a * 256 + b).toNat = [a, b] := by
  obtain ⟨n, rfl⟩ := Int.eq_ofNat_of_zero_le h0
  obtain ⟨m, rfl⟩ := Int.eq_ofNat_of_zero_le h2
  rw [show ((n : Int) * 256 + (m : Int)).toNat = n * 256 + m from by omega]
  simp [be]
  omega
theorem take_parts (r : List Int) (c : Nat) : r.take (60 + c) = r.take 8 ++ ((r.drop 8).take 8 ++ ((r.drop 16).take 8 ++ ((r.drop 24).take 1 ++ ((r.drop 25).take c ++ ((r.drop (25 + c)).take 1 ++ ((r.drop (26 + c)).take 2 ++ (r.drop (28 + c)).take 32)))))) := by
  rw [show 60 + c = 8 + (8 + (8 + (1 + (c + (1 + (2 + 32)))))) from by omega]
  simp only [List.take_add, List.drop_drop]
  simp only [show 8 + 8 = 16 from rfl, show 16 + 8 = 24 from rfl, show 24 + 1 = 25 from rfl, show 25 + c + 1 = 26 + c from by omega, show 26 + c + 2 = 28 + c from by omega]
theorem take_ok {r : List Int} (hby : By r) {x : Ent} {k : Int} (h : takeOut r = (x, k, 0)) :
    Wf x ∧ mayE x = true ∧ k = (((bytesE x).length : Nat) : Int) ∧ r.take (bytesE x).length = bytesE x ∧ (bytesE x).length ≤ r.length := by
  unfold takeOut at h
  split at h
  · simp at h
  rename_i hb
  split at h
  · simp at h
  rename_i h24
  split at h
  · simp at h
  rename_i h60
  have hb' : beginsB r = true := by simpa using hb
  obtain ⟨p0, p8, p24, ps⟩ := begins_parts hb' (by omega)
  have g24 := get_by hby 24 (by omega)
  obtain ⟨c, hc⟩ : ∃ c, lenN r = c := ⟨_, rfl⟩
  have hcv : r.getD 24 0 = (c : Int) := by rw [← hc]; unfold lenN; omega
  rw [hc] at h h60 ps
  obtain ⟨hx, hk⟩ : entAt r c = x ∧ (60 : Int) + (c : Int) = k := by
    injection h with e1 e2
    injection e2 with e3 e4
    exact ⟨e1, e3⟩
  have gA := get_by hby (25 + c) (by omega)
  have gB := get_by hby (25 + c + 1) (by omega)
  have gC := get_by hby (25 + c + 2) (by omega)
  have hst : r.getD (25 + c + 1) 0 * 256 + r.getD (25 + c + 2) 0 ≤ 999 := by
    unfold stat at ps
    rw [show 26 + c = 25 + c + 1 from by omega] at ps
    rw [if_neg (by omega), if_pos (by omega)] at ps
    simpa using ps
  have hten : ((r.take (25 + c)).drop 25) = (r.drop 25).take c := by rw [List.drop_take, show 25 + c - 25 = c from by omega]
  have hbt : By ((r.drop 25).take c) := by_take (by_drop hby 25) c
  have htl : ((r.drop 25).take c).length = c := by rw [List.length_take, List.length_drop]; omega
  have v1 := val_small (l := r.take 8) (by rw [List.length_take]; omega) (by_take hby 8) (by rw [List.getD_eq_getElem?_getD, List.getElem?_take, if_pos (by omega), ← List.getD_eq_getElem?_getD]; exact p0)
  have v2 := val_small (l := (r.drop 8).take 8) (by rw [List.length_take, List.length_drop]; omega) (by_take (by_drop hby 8) 8) (by rw [List.getD_eq_getElem?_getD, List.getElem?_take, if_pos (by omega), List.getElem?_drop, ← List.getD_eq_getElem?_getD]; exact p8)
  have v3 : val 0 ((r.drop 16).take 8) < 18446744073709551616 := by
    have := val_lt ((r.drop 16).take 8) 0 (by_take (by_drop hby 16) 8)
    rw [show ((r.drop 16).take 8).length = 8 from by rw [List.length_take, List.length_drop]; omega] at this
    omega
  have hof : ((r.drop (25 + c + 3)).take 32).length = 32 := by rw [List.length_take, List.length_drop]; omega
  have hsz : (strOfNums ((r.drop 25).take c)).size = c := by
    have := bytesOf_length (strOfNums ((r.drop 25).take c))
    rw [bytesOf_str _ hbt, htl] at this
    exact this.symm
  have hX : x = ⟨(val 0 (r.take 8) : Nat), (val 0 ((r.drop 8).take 8) : Nat), (val 0 ((r.drop 16).take 8) : Nat), strOfNums ((r.drop 25).take c), r.getD (25 + c) 0, r.getD (25 + c + 1) 0 * 256 + r.getD (25 + c + 2) 0, (r.drop (25 + c + 3)).take 32⟩ := by
    rw [← hx, entAt, hten]
  have hwf : Wf x := by
    rw [hX]
    exact ⟨hof, by simp only; omega, by simp only; omega, by simp only; omega, by simp only; omega, by_take (by_drop hby _) 32⟩
  have hmay : mayE x = true := by
    rw [hX]
    unfold mayE
    simp only [Bool.and_eq_true, decide_eq_true_eq]
    rw [hsz]
    refine ⟨by omega, by omega, gA.1, by omega, by omega, hst, by omega⟩
  have hbytes : bytesE x = r.take (60 + c) := by
    rw [take_parts r c, hX]
    unfold bytesE
    simp only
    rw [be_val8 (by_take hby 8) (by rw [List.length_take]; omega), be_val8 (by_take (by_drop hby 8) 8) (by rw [List.length_take, List.length_drop]; omega), be_val8 (by_take (by_drop hby 16) 8) (by rw [List.length_take, List.length_drop]; omega)]
    rw [hsz, bytesOf_str _ hbt, be1 _ gA.1 gA.2, be2 _ _ gB.1 gB.2 gC.1 gC.2, one_at r 24 (by omega), hcv, one_at r (25 + c) (by omega), two_at r (26 + c) (by omega)]
    rw [show 26 + c = 25 + c + 1 from by omega, show 28 + c = 25 + c + 3 from by omega]
    simp
  have hlen : (bytesE x).length = 60 + c := by rw [hbytes, List.length_take]; omega
  exact ⟨hwf, hmay, by rw [hlen]; omega, by rw [hlen, ← hbytes], by rw [hlen]; omega⟩
def parse : Nat → List Int → Option (List Ent)
  | 0, _ => none
  | k + 1, r => if r = [] then some [] else if (takeOut r).2.2 = 0 then (parse k (r.drop (takeOut r).2.1.toNat)).map ((takeOut r).1 :: ·) else none
theorem take_eq {r : List Int} (h : (takeOut r).2.2 = 0) : takeOut r = ((takeOut r).1, (takeOut r).2.1, 0) := by rw [← h]
theorem parse_same : ∀ (n : Nat) (r : List Int) (k k' : Nat), By r → r.length ≤ n → r.length < k → r.length < k' → parse k r = parse k' r := by
  intro n
  induction n with
  | zero =>
    intro r k k' hb hn hk hk'
    have hr : r = [] := List.eq_nil_of_length_eq_zero (by omega)
    obtain ⟨a, rfl⟩ : ∃ a, k = a + 1 := ⟨k - 1, by omega⟩
    obtain ⟨c, rfl⟩ : ∃ a, k' = a + 1 := ⟨k' - 1, by omega⟩
    unfold parse
    rw [if_pos hr, if_pos hr]
  | succ n ih =>
    intro r k k' hb hn hk hk'
    obtain ⟨a, rfl⟩ : ∃ a, k = a + 1 := ⟨k - 1, by omega⟩
    obtain ⟨c, rfl⟩ : ∃ a, k' = a + 1 := ⟨k' - 1, by omega⟩
    unfold parse
    by_cases hr : r = []
    · rw [if_pos hr, if_pos hr]
    · rw [if_neg hr, if_neg hr]
      by_cases ht : (takeOut r).2.2 = 0
      · rw [if_pos ht, if_pos ht]
        obtain ⟨hw, _, hk2, _, hl⟩ := take_ok hb (take_eq ht)
        have h60 := bytesE_len hw.1
        have hd : (r.drop (takeOut r).2.1.toNat).length < r.length := by rw [List.length_drop, hk2]; omega
        rw [ih _ a c (by_drop hb _) (by omega) (by omega) (by omega)]
      · rw [if_neg ht, if_neg ht]
def P (r : List Int) : Option (List Ent) := parse (r.length + 1) r
theorem P_nil : P [] = some [] := by unfold P parse; rfl
theorem P_bad {r : List Int} (hr : r ≠ []) (h : (takeOut r).2.2 ≠ 0) : P r = none := by unfold P parse; rw [if_neg hr, if_neg h]
theorem P_step {r : List Int} (hb : By r) {x : Ent} {k : Int} (h : takeOut r = (x, k, 0)) : P r = (P (r.drop (bytesE x).length)).map (x :: ·) := by
  obtain ⟨hw, _, hk, _, hl⟩ := take_ok hb h
  have h60 := bytesE_len hw.1
  have hr : r ≠ [] := by intro e; have : r.length = 0 := by rw [e]; rfl
                         omega
  unfold P
  conv => lhs; unfold parse
  rw [if_neg hr, h]
  simp only [if_true]
  rw [hk, Int.toNat_natCast]
  congr 1
  exact parse_same r.length _ _ _ (by_drop hb _) (by rw [List.length_drop]; omega) (by rw [List.length_drop]; omega) (by omega)
def verOut (b hd : List Int) : Int × Int := match P (b.drop 10) with
  | none => (0, 4)
  | some l => if (headOut l).2 = 0 ∧ full l = b then (if chain l = hd then ((l.length : Int), 0) else (0, 13)) else (0, 4)
structure PI (r0 : List Int) (pre : List Ent) (r : List Int) : Prop where
  p : P r0 = (P r).map (pre ++ ·)
  eq : r0 = body pre ++ r
  wf : ∀ x ∈ pre, Wf x ∧ mayE x = true
  by_ : By r
theorem PI.start {r : List Int} (h : By r) : PI r [] r := ⟨(by cases P r <;> simp), (by simp [body]), (fun x hx => by cases hx), h⟩
theorem PI.step {r0 r : List Int} {pre : List Ent} (h : PI r0 pre r) {x : Ent} {k : Int} (ht : takeOut r = (x, k, 0)) : PI r0 (pre ++ [x]) (r.drop (bytesE x).length) := by
  obtain ⟨hw, hm, _, hb, _⟩ := take_ok h.by_ ht
  refine ⟨?_, ?_, ?_, by_drop h.by_ _⟩
  · rw [h.p, P_step h.by_ ht]
    cases P (r.drop (bytesE x).length) <;> simp
  · rw [body_snoc, h.eq, List.append_assoc]
    congr 1
    conv => lhs; rw [← List.take_append_drop (bytesE x).length r, hb]
  · intro y hy
    rcases List.mem_append.1 hy with hy | hy
    · exact h.wf y hy
    · rw [List.mem_singleton.1 hy]; exact ⟨hw, hm⟩
theorem PI.bad {r0 r : List Int} {pre : List Ent} (h : PI r0 pre r) (hr : r ≠ []) (ht : (takeOut r).2.2 ≠ 0) : P r0 = none := by rw [h.p, P_bad hr ht]; rfl
theorem PI.done {r0 : List Int} {pre : List Ent} (h : PI r0 pre []) : P r0 = some pre ∧ r0 = body pre := ⟨by rw [h.p, P_nil]; simp, by have := h.eq; simpa using this⟩
theorem ver_none {b hd : List Int} (h : P (b.drop 10) = none) : verOut b hd = (0, 4) := by unfold verOut; rw [h]
theorem ver_not {b hd : List Int} (h : ∀ l, P (b.drop 10) = some l → ¬ ((headOut l).2 = 0 ∧ full l = b)) : verOut b hd = (0, 4) := by
  unfold verOut
  cases hp : P (b.drop 10) with
  | none => rfl
  | some l => simp only; rw [if_neg (h l hp)]
theorem full_len (l : List Ent) : 10 ≤ (full l).length := by unfold full; simp [be_length]
theorem ver_short {b hd : List Int} (h : b.length < 10) : verOut b hd = (0, 4) :=
  ver_not fun l _ hh => by have := full_len l; rw [hh.2] at this; omega
theorem full_pre (l : List Ent) : (full l).take 2 = [76, 49] := by unfold full; rfl
theorem full_num (l : List Ent) : ((full l).drop 2).take 8 = be 8 l.length := by
  unfold full
  rw [List.append_assoc, List.drop_append_of_le_length (by simp), show ([76, 49] : List Int).drop 2 = [] from rfl, List.nil_append, List.take_append_of_le_length (by rw [be_length]; omega), List.take_of_length_le (by rw [be_length]; omega)]
theorem ver_pre {b hd : List Int} (h : b.take 2 ≠ [76, 49]) : verOut b hd = (0, 4) :=
  ver_not fun l _ hh => h (by rw [← hh.2]; exact full_pre l)
theorem val_be8 (n : Nat) (h : n < 18446744073709551616) : val 0 (be 8 n) = n := by
  have := val_be 8 n 0
  rw [this]
  omega
theorem ver_count {b hd : List Int} {l : List Ent} (hp : P (b.drop 10) = some l) (hl : l.length < 18446744073709551616) (h : val 0 ((b.drop 2).take 8) ≠ l.length) : verOut b hd = (0, 4) :=
  ver_not fun l' hl' hh => by
    obtain rfl : l = l' := by rw [hp] at hl'; injection hl'
    refine h ?_
    rw [← hh.2, full_num, val_be8 _ hl]
theorem ver_seq {b hd r : List Int} {pre : List Ent} (h : PI (b.drop 10) pre r) {x : Ent} {k : Int} (ht : takeOut r = (x, k, 0)) (hs : x.seq ≠ (pre.length : Int)) : verOut b hd = (0, 4) := by
  have h2 := (h.step ht).p
  refine ver_not fun l hl hh => ?_
  rw [hl] at h2
  cases hq : P (r.drop (bytesE x).length) with
  | none => rw [hq] at h2; cases h2
  | some l2 =>
    rw [hq] at h2
    simp only [Option.map_some, Option.some.injEq] at h2
    obtain ⟨_, hsq, _⟩ := head_zero hh.1
    have hi : pre.length < l.length := by rw [h2]; simp
    have hx : l[pre.length] = x := by simp [h2]
    rw [seq_not hi (by rw [hx]; exact hs)] at hsq
    cases hsq
theorem ver_yes {b hd : List Int} {l : List Ent} (h : PI (b.drop 10) l []) (hb : By b) (hlen : 10 ≤ b.length) (hpre : b.take 2 = [76, 49]) (hv : val 0 ((b.drop 2).take 8) = l.length) (hs : ∀ i (hi : i < l.length), i < l.length → l[i].seq = (i : Int)) :
    verOut b hd = if chain l = hd then ((l.length : Int), 0) else (0, 13) := by
  obtain ⟨hp, hbody⟩ := h.done
  have hm : l.all mayE = true := List.all_eq_true.2 fun x hx => (h.wf x hx).2
  have hh : (headOut l).2 = 0 := by rw [head_yes hm (seq_all hs)]
  have hf : full l = b := by
    unfold full
    rw [← hbody, ← hv, ← hpre]
    have e8 : be 8 (val 0 ((b.drop 2).take 8)) = (b.drop 2).take 8 := by
      have := be_val ((b.drop 2).take 8) 0 (by_take (by_drop hb 2) 8)
      rwa [show ((b.drop 2).take 8).length = 8 from by rw [List.length_take, List.length_drop]; omega] at this
    rw [e8, List.append_assoc]
    conv => rhs; rw [← List.take_append_drop 2 b, ← List.take_append_drop 8 (b.drop 2), List.drop_drop]
  unfold verOut
  rw [hp]
  simp only
  rw [if_pos ⟨hh, hf⟩]
end Go.Proofs.Ytgpgblidplmchaa.Vp
namespace Go.Proofs.Ytgpgblidplmchaa.Vw
open Go.RowKit Go.Proofs.YtgpgblidplmchaaW.PrintWords Go.Proofs.YtgpgblidplmchaaW.PrintLast Go.Proofs.YtgpgblidplmchaaW.PrintMore
open Ag En Spc OctA Eb Eg Ep Et Eh Ek Lk Hd Ex Spw Vp
set_option linter.unusedVariables false
set_option linter.unusedSimpArgs false
set_option maxRecDepth 100000
structure V0 (w W : World) (g3 g9 : Nat) (hd now : List Int) : Prop where
  below : Below w.heap.size w W
  h3 : Idb W g3 hd
  h9 : Idb W g9 now
  ne : g3 ≠ g9 ∧ w.heap.size ≤ g3 ∧ w.heap.size ≤ g9
theorem V0.step {w W W2 : World} {g3 g9 : Nat} {hd now : List Int} (h : V0 w W g3 g9 hd now) (hb : Below W.heap.size W W2) : V0 w W2 g3 g9 hd now :=
  ⟨h.below.trans (hb.mono h.below.size), (hb.block _ (blk_lt h.h3)).trans h.h3, (hb.block _ (blk_lt h.h9)).trans h.h9, h.ne⟩
theorem V0.put {w W wf : World} {g3 g9 : Nat} {hd now h' : List Int} (k : V0 w W g3 g9 hd now) (h1 : wf.heap[g9]? = some (.cells (nums .u8 h').toArray 25 (0, 0))) (h2 : W.grownBy wf (some g9)) (h3 : Below w.heap.size w wf) : V0 w wf g3 g9 hd h' :=
  ⟨h3, (h2.block _ (blk_lt k.h3) (by simp; exact k.ne.1)).trans k.h3, h1, k.ne⟩
theorem str_pre {y : List Int} (hy : By y) (h : y ≠ [76, 49]) : ((strOfNums y).toList == [76, 49]) = false := by
  rw [Bool.eq_false_iff]
  intro e
  have e2 : (strOfNums y).toList = [76, 49] := by simpa using e
  have e3 : bytesOf (strOfNums y) = y := bytesOf_str _ hy
  refine h ?_
  rw [← e3]
  unfold bytesOf
  rw [← ByteArray.toList_eq, e2]
  rfl
structure LV (b : List Int) (A : Option Addr) (c n : Nat) (r : List Int) (pre : List Ent) : Prop where
  pi : PI (b.drop 10) pre r
  n : n = pre.length
  seq : ∀ i (hi : i < pre.length), i < pre.length → pre[i].seq = (i : Int)
  cap : r.length ≤ c
  len : pre.length + r.length ≤ b.length
theorem LV.bad {b hd r : List Int} {A : Option Addr} {c n : Nat} {pre : List Ent} (h : LV b A c n r pre) (hr : 0 < r.length) {x : Ent} {k e : Int} (ht : takeOut r = (x, k, e)) (he : e ≠ 0) : verOut b hd = (0, 4) :=
  ver_none (h.pi.bad (by intro e; rw [e] at hr; simp at hr) (by rw [ht]; exact he))
theorem LV.bad2 {b hd r : List Int} {A : Option Addr} {c n : Nat} {pre : List Ent} (h : LV b A c n r pre) {x : Ent} {k : Int} (ht : takeOut r = (x, k, 0)) (hs : x.seq ≠ (n : Int)) : verOut b hd = (0, 4) :=
  ver_seq h.pi ht (by rw [← h.n]; exact hs)
theorem LV.next {b r ys : List Int} {A A' : Option Addr} {c c' n : Nat} {pre : List Ent} (h : LV b A c n r pre) {x : Ent} {k : Int} (ht : takeOut r = (x, k, 0)) (hs : x.seq = (n : Int)) (hys : ys = r.drop k.toNat) (hc : ys.length ≤ c') : LV b A' c' (n + 1) ys (pre ++ [x]) := by
  obtain ⟨hw, _, hk, _, hl⟩ := take_ok h.pi.by_ ht
  have h60 := bytesE_len hw.1
  have hy : ys = r.drop (bytesE x).length := by rw [hys, hk, Int.toNat_natCast]
  refine ⟨by rw [hy]; exact h.pi.step ht, by rw [h.n]; simp, ?_, hc, ?_⟩
  · intro i hi _
    rw [List.length_append, List.length_singleton] at hi
    by_cases hlt : i < pre.length
    · rw [List.getElem_append_left hlt]; exact h.seq i hlt hlt
    · have : i = pre.length := by omega
      subst this
      simp [hs, h.n]
  · have := h.len
    rw [hy, List.length_append, List.length_singleton, List.length_drop]
    omega
set_option maxHeartbeats 6400000 in
theorem verify_calls (A : Option Addr) (c : Nat) (b hd : List Int) (w : World) (hr : CB w A b) (hc : b.length ≤ c) (hb : By b) (hl : b.length ≤ 1000000) (hh : hd.length = 32) :
    Calls Try.prog 30 #[.slice A b.length c, .agg (nums .u8 hd).toArray] w fun e w' => e = .returned (.tuple #[.int .i64 (verOut b hd).1, .int .i64 (verOut b hd).2]) ∧ Below w.heap.size w w' := by
  have HR := Aside0.mk hr; have HC := Aside0.mk hc; have HBY := Aside0.mk hb; have HLB := Aside0.mk hl; have HHL := Aside0.mk hh
  have HDZ := Aside0.mk (id_sz hh)
  have HB0 := Aside0.mk ((Below.refl w.heap.size w).alloc (Nat.le_refl _) (.cells (nums .u8 hd).toArray 25))
  have hg3 := Aside0.mk (show Idb (w.alloc (.cells (nums .u8 hd).toArray 25)) w.heap.size hd from heap_alloc_new w _)
  obtain ⟨n4, e4, hno⟩ : ∃ n e, verOut b hd = (n, e) := ⟨_, _, rfl⟩
  have HVO := Aside0.mk hno
  rw [hno]
  clear hr hc hb hh hno
  by_cases h2 : b.length < 2
  · have d0 : decide ((b.length : Int) < 2) = true := decide_eq_true (by omega)
    have HV := Aside0.mk (show (n4, e4) = ((0 : Int), (4 : Int)) from by rw [← HVO.out]; exact ver_short (by omega))
    obtain ⟨rfl, rfl⟩ := Prod.mk.inj HV.out
    go_enter Try.func30, Try.ntmps30
    go_wp2
    go_ret2
    exact ⟨rfl, HB0.out⟩
  have d0 : decide ((b.length : Int) < 2) = false := decide_eq_false (by omega)
  obtain ⟨y2, hy2, hl2, hc2_, hcut2, hC2⟩ := cut_take (P := Try.prog) 37 Try.underlying37 POct.info5 A c b 2 (by omega) (by omega) HC.out
  have HY2 := Aside0.mk (show y2 = b.take 2 from hy2)
  obtain ⟨s, hs⟩ : ∃ s, Aside0 (s = strOfNums y2) := ⟨_, ⟨rfl⟩⟩
  have hcv : (convert 37 9 (.slice A y2.length c)).run Try.prog (w.alloc (.cells (nums .u8 hd).toArray 25)) = .ok (.string s) (w.alloc (.cells (nums .u8 hd).toArray 25)) := by rw [hs.out]; exact Kd.C_string (P := Try.prog) (c := c) Try.underlying37 Try.underlying5 Try.underlying9 (hC2 _ (Kd.C_below HR.out HB0.out))
  by_cases hpre : b.take 2 = [76, 49]
  rotate_left
  · have hsq : (s.toList == [76, 49]) = false := by rw [hs.out]; exact str_pre (by rw [HY2.out]; exact by_take HBY.out 2) (by rw [HY2.out]; exact hpre)
    have HV := Aside0.mk (show (n4, e4) = ((0 : Int), (4 : Int)) from by rw [← HVO.out]; exact ver_pre hpre)
    obtain ⟨rfl, rfl⟩ := Prod.mk.inj HV.out
    clear hy2 hl2 hc2_ h2 hpre hC2
    go_enter Try.func30, Try.ntmps30
    go_wp2
    go_ret2
    exact ⟨rfl, HB0.out⟩
  have hsq : (s.toList == [76, 49]) = true := by rw [hs.out, HY2.out, hpre, ByteArray.toList_eq, strOfNums_data]; rfl
  have HPRE := Aside0.mk hpre
  clear hy2 hl2 hc2_ hC2 hpre
  by_cases h10 : b.length < 10
  · have hA := Aside0.mk (show POct.octet_At.f 40 b 2 8 = some (0, 3) from at_short 40 b 2 8 (by omega) (by omega) (by omega) (by omega) (by omega) (by omega))
    have HV := Aside0.mk (show (n4, e4) = ((0 : Int), (4 : Int)) from by rw [← HVO.out]; exact ver_short h10)
    obtain ⟨rfl, rfl⟩ := Prod.mk.inj HV.out
    go_enter Try.func30, Try.ntmps30
    go_wp2_with fail
    refine (POct.octet_At.calls 40 A c b 2 8 0 3 _ (Kd.C_below HR.out HB0.out) HC.out hA.out).mono ?_
    rintro e1 w1 ⟨rfl, hd1⟩
    have HB1 := Aside0.mk (below_step HB0.out hd1.below)
    go_wp2
    go_ret2
    exact ⟨rfl, HB1.out⟩
  obtain ⟨want, hwant⟩ : ∃ v, val 0 ((b.drop 2).take 8) = v := ⟨_, rfl⟩
  have hA := Aside0.mk (show POct.octet_At.f 40 b 2 8 = some ((want : Int), 0) from by have := at_ok 40 b 2 8 HBY.out (by omega) (by omega) (by omega) (by omega) (by omega); rw [hwant] at this; exact this)
  have HWANT := Aside0.mk hwant
  have HWL := Aside0.mk (show want < 18446744073709551616 from by
    have := val_lt ((b.drop 2).take 8) 0 (by_take (by_drop HBY.out 2) 8)
    rw [show ((b.drop 2).take 8).length = 8 from by rw [List.length_take, List.length_drop]; omega, hwant] at this
    omega)
  obtain ⟨y10, A10, hy10, hl10, hc10_, hcut10, hC10⟩ := cut_drop (P := Try.prog) 37 Try.underlying37 POct.info5 A c b 10 (by omega) (by omega) HC.out
  have HY10 := Aside0.mk (show y10 = b.drop 10 ∧ y10.length ≤ c - 10 from ⟨hy10, hc10_⟩)
  have HLV := Aside0.mk (⟨by rw [HY10.out.1]; exact PI.start (by_drop HBY.out 10), rfl, fun i hi => by simp at hi, HY10.out.2, by rw [HY10.out.1]; simp⟩ : LV b A10 (c - 10) 0 y10 [])
  have H10 := Aside0.mk (show 10 ≤ b.length from by omega)
  clear hy10 hl10 hc10_ h10 h2 hwant
  go_enter Try.func30, Try.ntmps30
  go_wp2_with fail
  refine (POct.octet_At.calls 40 A c b 2 8 want 0 _ (Kd.C_below HR.out HB0.out) HC.out hA.out).mono ?_
  rintro e1 w1 ⟨rfl, hd1⟩
  have hb1 := hd1.below
  have HB1 := Aside0.mk (below_step HB0.out hb1)
  have hg31 := Aside0.mk (show Idb w1 w.heap.size hd from (hb1.block _ (blk_lt hg3.out)).trans hg3.out)
  obtain ⟨g9, hg9⟩ : ∃ g, w1.heap.size = g := ⟨_, rfl⟩
  have HG9 := Aside0.mk hg9
  have HBa := Aside0.mk (HB1.out.alloc HB1.out.size (.cells (nums .u8 id0).toArray 25))
  have hga := Aside0.mk (hg9 ▸ heap_alloc_new w1 (.cells (nums .u8 id0).toArray 25) : (w1.alloc (.cells (nums .u8 id0).toArray 25)).heap[g9]? = some (.cells (nums .u8 id0).toArray 25 (0, 0)))
  have HL9 := Aside0.mk (hg9 ▸ HB1.out.size)
  have HLT := Aside0.mk (hg9 ▸ blk_lt hg31.out)
  have hg3a := Aside0.mk (show Idb (w1.alloc (.cells (nums .u8 id0).toArray 25)) w.heap.size hd from (((Below.refl w1.heap.size w1).alloc (Nat.le_refl _) _).block _ (blk_lt hg31.out)).trans hg31.out)
  clear hb1 hd1 HB0 hg3 hcv hsq hg9 d0 hcut2
  go_upto_region 8 with (first
    | (with_reducible refine op_build rfl 25 _ rfl (nums .u8 id0).toArray (by simp only [List.map_toArray, List.map_nil]; exact built25) ?_)
    | ((with_reducible refine op_alloc rfl 25 rfl _ zero25 ?_); simp only [HG9.out])
    | ((with_reducible refine op_store (w0 := w) (o := ⟨none, .store 25 (.tmp 9) (.tmp 31), _, _, _, _⟩) w.heap.size ?_ 25 (.tmp 9) (.tmp 31) ?_ g9 (nums .u8 id0).toArray ?_ ?_ 25 _ hga.out 32 info25 (id_sz id0_len) (id_sz id0_len) (id_all _) HBa.out HL9.out ?_); rfl; rfl; rfl; rfl; intro w2 h1 h2 h3))
  have HV0 := Aside0.mk (⟨h3.out, (h2.out.block _ (blk_lt hg3a.out) (by simp; have := HLT.out; omega)).trans hg3a.out, h1.out, by have := HLT.out; omega, Nat.le_refl _, HL9.out⟩ : V0 w w2 w.heap.size g9 hd (chain []))
  have HCB := Aside0.mk (show ∀ W, Below w.heap.size w W → CB W A10 y10 from fun W hb => hC10 W (Kd.C_below HR.out hb))
  clear h1 h2 h3 HB1 hg31 HBa hga hg3a HG9 hcut10 hC10
  generalize w.heap.size = g3 at HV0 ⊢
  simp only [Act.put, List.setIfInBounds_toArray, List.set_cons_zero, List.set_cons_succ]
  go_loopw [0, 8] (fun vb vn wr => ∃ (n : Nat) (r : List Int) (A' : Option Addr) (c' : Nat) (pre : List Ent), vb = .slice A' r.length c' ∧ vn = .int .i64 n ∧ Aside0 (LV b A' c' n r pre) ∧ Aside0 (∀ W, Below w.heap.size w W → CB W A' r) ∧ Aside0 (V0 w wr g3 g9 hd (chain pre))) (fun vb _ _ => Swr.slen vb)
  case atStart => exact ⟨0, y10, A10, c - 10, [], rfl, rfl, HLV, HCB, HV0⟩
  case round =>
    clear HLV HCB HV0
    obtain ⟨n, r, A', c', pre, rfl, rfl, HLV, HCB, HV0⟩ := hrel
    have HRL := Aside0.mk (show r.length ≤ 1000000 ∧ n ≤ 1000000 from ⟨by have := HLV.out.len; have := HLB.out; omega, by have := HLV.out.len; have := HLB.out; have := HLV.out.n; omega⟩)
    by_cases hlt : 0 < r.length
    · have hlt' : decide (0 < r.length) = true := by simpa using hlt
      have hlt'' : decide (0 < (r.length : Int)) = true := by simp; omega
      obtain ⟨x, k, e, ht⟩ : ∃ x k e, takeOut r = (x, k, e) := ⟨_, _, _, rfl⟩
      have HT := Aside0.mk ht
      have HOK := Aside0.mk (show Ok x from by have := Lr.take_wf r HLV.out.pi.by_; rw [ht] at this; exact this)
      have HTK := Aside0.mk (show Calls Try.prog 24 #[.slice A' r.length c'] wr fun e_ w' => e_ = .returned (.tuple #[.agg (cellsOf x).toArray, .int .i64 k, .int .i64 e]) ∧ Below wr.heap.size wr w' from by have := take_calls A' c' r wr (HCB.out wr HV0.out.below) HLV.out.cap HRL.out.1 HLV.out.pi.by_; rw [ht] at this; exact this)
      have HCZ := Aside0.mk (cells_sz HOK.out)
      have HLTT := Aside0.mk hlt
      clear ht hlt
      have TK : ∀ (W2 : World), Below wr.heap.size wr W2 → True := fun _ _ => trivial
      clear TK
      by_cases he : e = 0
      rotate_left
      · have hq : (e == 0) = false := by simpa using he
        have hq2 : (e != 0) = true := by simpa using he
        have HV := Aside0.mk (show (n4, e4) = ((0 : Int), (4 : Int)) from by rw [← HVO.out]; exact HLV.out.bad HLTT.out HT.out he)
        clear he
        obtain ⟨rfl, rfl⟩ := Prod.mk.inj HV.out
        go_wp2_with (first
          | ((with_reducible refine HTK.out.mono ?_); rintro _ W3 ⟨rfl, hb3⟩; obtain ⟨g10, hg10⟩ : ∃ g, W3.heap.size = g := ⟨_, rfl⟩; have HG10 := Aside0.mk hg10; have HN10 := Aside0.mk (hg10 ▸ heap_alloc_new W3 (.cells (cellsOf ent0).toArray 27) : (W3.alloc (.cells (cellsOf ent0).toArray 27)).heap[g10]? = some (.cells (cellsOf ent0).toArray 27 (0, 0))); have HB10 := Aside0.mk (show Below g10 (W3.alloc (.cells (cellsOf ent0).toArray 27)) (W3.alloc (.cells (cellsOf ent0).toArray 27)) from Below.refl _ _); clear hg10)
          | ((with_reducible refine op_alloc rfl 27 rfl _ zero27 ?_); simp only [HG10.out])
          | ((with_reducible refine op_store (w0 := W3.alloc (.cells (cellsOf ent0).toArray 27)) (o := ⟨none, .store 27 (.tmp 10) (.tmp 38), _, _, _, _⟩) g10 ?_ 27 (.tmp 10) (.tmp 38) ?_ g10 (cellsOf x).toArray ?_ ?_ 27 _ HN10.out 38 info27 HCZ.out (cells_sz ok0) (cells_all _) HB10.out (Nat.le_refl _) ?_); rfl; rfl; rfl; rfl; intro W4 h1 h2 h3; have HB4 := Aside0.mk (made_ent (x := x) HG10.out h3.out)))
        go_ret2
        exact ⟨rfl, ((HV0.out.step hb3).step HB4.out).below⟩
      subst he
      obtain ⟨hwx, hmx, hkx, _, hlx⟩ := take_ok HLV.out.pi.by_ HT.out
      have HWX := Aside0.mk hwx
      have HKX := Aside0.mk (show 0 ≤ k ∧ k ≤ (r.length : Int) ∧ 0 < k from ⟨by omega, by omega, by have := bytesE_len hwx.1; omega⟩)
      clear hwx hmx hkx hlx
      by_cases hsx : x.seq = (n : Int)
      rotate_left
      · have hq : (x.seq == (n : Int)) = false := by simpa using hsx
        have hq2 : (x.seq != (n : Int)) = true := by simpa using hsx
        have HV := Aside0.mk (show (n4, e4) = ((0 : Int), (4 : Int)) from by rw [← HVO.out]; exact HLV.out.bad2 HT.out hsx)
        clear hsx
        obtain ⟨rfl, rfl⟩ := Prod.mk.inj HV.out
        go_wp2_with (first
          | ((with_reducible refine HTK.out.mono ?_); rintro _ W3 ⟨rfl, hb3⟩; obtain ⟨g10, hg10⟩ : ∃ g, W3.heap.size = g := ⟨_, rfl⟩; have HG10 := Aside0.mk hg10; have HN10 := Aside0.mk (hg10 ▸ heap_alloc_new W3 (.cells (cellsOf ent0).toArray 27) : (W3.alloc (.cells (cellsOf ent0).toArray 27)).heap[g10]? = some (.cells (cellsOf ent0).toArray 27 (0, 0))); have HB10 := Aside0.mk (show Below g10 (W3.alloc (.cells (cellsOf ent0).toArray 27)) (W3.alloc (.cells (cellsOf ent0).toArray 27)) from Below.refl _ _); clear hg10)
          | ((with_reducible refine op_alloc rfl 27 rfl _ zero27 ?_); simp only [HG10.out])
          | ((with_reducible refine op_store (w0 := W3.alloc (.cells (cellsOf ent0).toArray 27)) (o := ⟨none, .store 27 (.tmp 10) (.tmp 38), _, _, _, _⟩) g10 ?_ 27 (.tmp 10) (.tmp 38) ?_ g10 (cellsOf x).toArray ?_ ?_ 27 _ HN10.out 38 info27 HCZ.out (cells_sz ok0) (cells_all _) HB10.out (Nat.le_refl _) ?_); rfl; rfl; rfl; rfl; intro W4 h1 h2 h3; have HB4 := Aside0.mk (made_ent (x := x) HG10.out h3.out); have hk0 := it_cell (show It W4 g10 x from h1.out) 0 _ rfl))
        go_ret2
        exact ⟨rfl, ((HV0.out.step hb3).step HB4.out).below⟩
      have hq : (x.seq == (n : Int)) = true := by simpa using hsx
      have hq2 : (x.seq != (n : Int)) = false := by simpa using hsx
      have HSX := Aside0.mk hsx
      obtain ⟨now, hnow⟩ : ∃ h, chain pre = h := ⟨_, rfl⟩
      have HNW := Aside0.mk (show now.length = 32 ∧ By now from by rw [← hnow]; exact ⟨chain_len _, chain_by _⟩)
      have HNE := Aside0.mk hnow
      rw [hnow] at HV0
      have HNZ := Aside0.mk (id_sz HNW.out.1)
      have HLZ := Aside0.mk (id_sz (link_len now x))
      obtain ⟨ys, A'', hys, hyl, hyc, hcut, hCy⟩ := cut_drop (P := Try.prog) 37 Try.underlying37 POct.info5 A' c' r k HKX.out.1 HKX.out.2.1 HLV.out.cap
      have HYS := Aside0.mk (show ys = r.drop k.toNat ∧ (ys.length : Int) = r.length - k ∧ ys.length ≤ c' - k.toNat from ⟨hys, hyl, hyc⟩)
      have hn6 : n ≤ 1000000 := HRL.out.2
      clear hsx hnow hys hyl hyc
      go_wp2_with (first
        | ((with_reducible refine HTK.out.mono ?_); rintro _ W3 ⟨rfl, hb3⟩; obtain ⟨g10, hg10⟩ : ∃ g, W3.heap.size = g := ⟨_, rfl⟩; have HG10 := Aside0.mk hg10; have HN10 := Aside0.mk (hg10 ▸ heap_alloc_new W3 (.cells (cellsOf ent0).toArray 27) : (W3.alloc (.cells (cellsOf ent0).toArray 27)).heap[g10]? = some (.cells (cellsOf ent0).toArray 27 (0, 0))); have HB10 := Aside0.mk (show Below g10 (W3.alloc (.cells (cellsOf ent0).toArray 27)) (W3.alloc (.cells (cellsOf ent0).toArray 27)) from Below.refl _ _); clear hg10)
        | ((with_reducible refine op_alloc rfl 27 rfl _ zero27 ?_); simp only [HG10.out])
        | ((with_reducible refine op_store (w0 := W3.alloc (.cells (cellsOf ent0).toArray 27)) (o := ⟨none, .store 27 (.tmp 10) (.tmp 38), _, _, _, _⟩) g10 ?_ 27 (.tmp 10) (.tmp 38) ?_ g10 (cellsOf x).toArray ?_ ?_ 27 _ HN10.out 38 info27 HCZ.out (cells_sz ok0) (cells_all _) HB10.out (Nat.le_refl _) ?_); rfl; rfl; rfl; rfl; intro W4 h1 h2 h3; have HV4 := Aside0.mk ((HV0.out.step hb3).step (made_ent (x := x) HG10.out h3.out)); have hk0 := it_cell (show It W4 g10 x from h1.out) 0 _ rfl; have HI9 := Aside0.mk (show W4.heap[g9]? = some (.cells (nums .u8 now).toArray 25 (0, 0)) from HV4.out.h9))
        | (with_reducible refine op_load rfl 27 _ rfl g10 rfl 27 _ _ h1.out Try.underlying27 rfl 38 info27 HCZ.out ?_)
        | (with_reducible refine op_load rfl 25 _ rfl g9 rfl 25 _ _ HI9.out Try.underlying25 rfl 32 info25 HNZ.out ?_)
        | ((with_reducible refine (link_calls now x _ HWX.out HNW.out.1 HNW.out.2).mono ?_); rintro _ W5 ⟨rfl, hb5⟩; have HV5 := Aside0.mk (HV4.out.step hb5); have HO5 := Aside0.mk (show W5.heap[g9]? = some (.cells (nums .u8 now).toArray 25 (0, 0)) from HV5.out.h9); clear hk0)
        | ((with_reducible refine op_store (w0 := w) (o := ⟨none, .store 25 (.tmp 9) (.tmp 53), _, _, _, _⟩) w.heap.size ?_ 25 (.tmp 9) (.tmp 53) ?_ g9 (nums .u8 (linkOut now x).1).toArray ?_ ?_ 25 _ HO5.out 32 info25 HLZ.out HNZ.out (id_all _) HV5.out.below HV5.out.ne.2.2 ?_); rfl; rfl; rfl; rfl; intro wf hf1 hf2 hf3))
      have HCF := Aside0.mk (show ∀ W, Below w.heap.size w W → CB W A'' ys from fun W hb => hCy W (HCB.out W hb))
      have HVF := Aside0.mk (HV5.out.put hf1.out hf2.out hf3.out)
      go_roundw
      case rel => exact ⟨n + 1, ys, A'', c' - k.toNat, pre ++ [x], rfl, by go_num, ⟨HLV.out.next HT.out HSX.out HYS.out.1 HYS.out.2.2⟩, HCF, ⟨by rw [chain_snoc, HNE.out]; exact HVF.out⟩⟩
      case measure => have h1 := HYS.out.2.1; have h2 := HKX.out.2.2; show ys.length < r.length; omega
    · have hnil : r = [] := List.eq_nil_of_length_eq_zero (by omega)
      have hlt' : decide (0 < r.length) = false := by simpa using hlt
      have hlt'' : decide (0 < (r.length : Int)) = false := by simp; omega
      have HNIL := Aside0.mk hnil
      have hn6 : n ≤ 1000000 := HRL.out.2
      have hwl : (want : Int) < 18446744073709551616 := by have := HWL.out; omega
      clear hnil hlt
      by_cases hw : n = want
      rotate_left
      · have hq : ((n : Int) == (want : Int)) = false := by simp; omega
        have hq2 : ((n : Int) != (want : Int)) = true := by simp; omega
        have HV := Aside0.mk (show (n4, e4) = ((0 : Int), (4 : Int)) from by
          rw [← HVO.out]
          have hp := HLV.out.pi
          rw [HNIL.out] at hp
          exact ver_count hp.done.1 (by have := HLV.out.n; omega) (by rw [HWANT.out, ← HLV.out.n]; omega))
        clear hw
        obtain ⟨rfl, rfl⟩ := Prod.mk.inj HV.out
        go_wp2
        go_ret2
        exact ⟨rfl, HV0.out.below⟩
      have hq : ((n : Int) == (want : Int)) = true := by simp; omega
      have hq2 : ((n : Int) != (want : Int)) = false := by simp; omega
      have HI9 := Aside0.mk (show wr.heap[g9]? = some (.cells (nums .u8 (chain pre)).toArray 25 (0, 0)) from HV0.out.h9)
      have HI3 := Aside0.mk (show wr.heap[g3]? = some (.cells (nums .u8 hd).toArray 25 (0, 0)) from HV0.out.h3)
      have HCZ := Aside0.mk (id_sz (chain_len pre))
      have HCL := Aside0.mk (chain_len pre)
      have HV := Aside0.mk (show (n4, e4) = if chain pre = hd then ((n : Int), 0) else (0, 13) from by
        rw [← HVO.out, HLV.out.n]
        have hp := HLV.out.pi
        rw [HNIL.out] at hp
        exact ver_yes hp HBY.out H10.out HPRE.out (by rw [HWANT.out, ← hw, HLV.out.n]) HLV.out.seq)
      clear hw
      by_cases hh : chain pre = hd
      · have hi : (chain pre == hd) = true := by simpa using hh
        have HV2 := Aside0.mk (show (n4, e4) = ((n : Int), (0 : Int)) from by rw [HV.out, if_pos hh])
        obtain ⟨rfl, rfl⟩ := Prod.mk.inj HV2.out
        clear hh
        go_wp2_with (first
          | (with_reducible refine op_load rfl 25 _ rfl g9 rfl 25 _ _ HI9.out Try.underlying25 rfl 32 info25 HCZ.out ?_)
          | (with_reducible refine op_load rfl 25 _ rfl g3 rfl 25 _ _ HI3.out Try.underlying25 rfl 32 info25 HDZ.out ?_)
          | (refine Kd.event_run rfl (id_neq (x := .tmp 66) (y := .tmp 67) rfl rfl rfl HCL.out HHL.out) ?_))
        go_ret2
        exact ⟨rfl, HV0.out.below⟩
      · have hi : (chain pre == hd) = false := by simpa using hh
        have HV2 := Aside0.mk (show (n4, e4) = ((0 : Int), (13 : Int)) from by rw [HV.out, if_neg hh])
        obtain ⟨rfl, rfl⟩ := Prod.mk.inj HV2.out
        clear hh
        go_wp2_with (first
          | (with_reducible refine op_load rfl 25 _ rfl g9 rfl 25 _ _ HI9.out Try.underlying25 rfl 32 info25 HCZ.out ?_)
          | (with_reducible refine op_load rfl 25 _ rfl g3 rfl 25 _ _ HI3.out Try.underlying25 rfl 32 info25 HDZ.out ?_)
          | (refine Kd.event_run rfl (id_neq (x := .tmp 66) (y := .tmp 67) rfl rfl rfl HCL.out HHL.out) ?_))
        go_ret2
        exact ⟨rfl, HV0.out.below⟩
end Go.Proofs.Ytgpgblidplmchaa.Vw
namespace Go.Proofs.Ytgpgblidplmchaa.Vr
open Go.RowKit Go.Proofs.YtgpgblidplmchaaW.PrintWords Go.Proofs.YtgpgblidplmchaaW.PrintLast Go.Proofs.YtgpgblidplmchaaW.PrintMore
open Ag En Spc OctA Eb Eg Ep Et Eh Ek Lk Hd Ex Spw Vp Vw
set_option linter.unusedVariables false
set_option linter.unusedSimpArgs false
set_option maxRecDepth 100000
theorem info27b : (Try.prog.info? 27).map (fun i => (i.zero, i.size, i.bytes)) = some (some (.agg (cellsOf ent0).toArray), 38, 88) := by kernel_rfl
theorem body_long : ∀ (l : List Ent), (∀ x ∈ l, Wf x ∧ mayE x = true) → 60 * l.length ≤ (body l).length := by
  intro l
  induction l with
  | nil => intro _; simp
  | cons x xs ih =>
    intro h
    have h1 := bytesE_len (h x (List.mem_cons_self ..)).1.1
    have h2 := ih fun y hy => h y (List.mem_cons_of_mem _ hy)
    have e : body (x :: xs) = bytesE x ++ body xs := by unfold body; simp
    rw [e, List.length_append, List.length_cons]
    omega
theorem PI.len {r0 r : List Int} {pre : List Ent} (h : PI r0 pre r) : pre.length ≤ r0.length := by
  have := body_long pre h.wf
  rw [h.eq, List.length_append]
  omega
theorem ver_some {b hd : List Int} {l : List Ent} (h : P (b.drop 10) = some l) : verOut b hd = if (headOut l).2 = 0 ∧ full l = b then (if chain l = hd then ((l.length : Int), 0) else (0, 13)) else (0, 4) := by unfold verOut; rw [h]
theorem str_ne {y z : List Int} (hy : By y) (hz : By z) (h : y ≠ z) : ((strOfNums y).toList == (strOfNums z).toList) = false := by
  rw [Bool.eq_false_iff]
  intro e
  have e2 : (strOfNums y).toList = (strOfNums z).toList := by simpa using e
  have e3 := bytesOf_str _ hy
  have e4 := bytesOf_str _ hz
  refine h ?_
  rw [← e3, ← e4]
  unfold bytesOf
  rw [← ByteArray.toList_eq, ← ByteArray.toList_eq, e2]
theorem made_id {W W2 : World} {g : Nat} (he : W.heap.size = g) (h3 : Below g (W.alloc (.cells (nums .u8 id0).toArray 25)) W2) : Below W.heap.size W W2 := by
  subst he
  exact ((Below.refl W.heap.size W).alloc (Nat.le_refl _) _).trans h3
theorem rcap {W : World} {base c : Nat} {A : Option Addr} {l : List Ent} (h : RE W base (.slice A l.length c) l) : l.length ≤ c := by
  obtain ⟨A1, c1, e, hc, _⟩ := Kd.R_reads h
  injection e with e1 e2 e3
  omega
theorem id_neq_is {o : Oper} {a : Act} {W : World} {x y : Operand} {p q : List Int} {t : Bool} (hb : (!(p == q)) = t) (ho : o.op = .binOp .neq 25 x y 25) (hx : a.eval x = .agg (nums .u8 p).toArray) (hy : a.eval y = .agg (nums .u8 q).toArray) (hp : p.length = 32) (hq : q.length = 32) : (execOp a.eval o).run Try.prog W = .ok (.value (.bool t)) W := by
  rw [← hb]
  exact id_neq ho hx hy hp hq
structure V3 (w W : World) (g3 : Nat) (hd : List Int) : Prop where
  below : Below w.heap.size w W
  h3 : Idb W g3 hd
  ne : w.heap.size ≤ g3
theorem V3.step {w W W2 : World} {g3 : Nat} {hd : List Int} (h : V3 w W g3 hd) (hb : Below W.heap.size W W2) : V3 w W2 g3 hd := ⟨h.below.trans (hb.mono h.below.size), (hb.block _ (blk_lt h.h3)).trans h.h3, h.ne⟩
structure LR (b : List Int) (n : Nat) (pre : List Ent) : Prop where
  pi : PI (b.drop 10) pre (b.drop n)
  at_ : n ≤ b.length ∨ n = 10
theorem LR.next {b : List Int} {n : Nat} {pre : List Ent} (h : LR b n pre) {x : Ent} {k : Int} (ht : takeOut (b.drop n) = (x, k, 0)) (hn : n ≤ b.length) : LR b (n + k.toNat) (pre ++ [x]) ∧ 0 < k ∧ n + k.toNat ≤ b.length := by
  obtain ⟨hw, _, hk, _, hl⟩ := take_ok h.pi.by_ ht
  have h60 := bytesE_len hw.1
  have hp := h.pi.step ht
  rw [List.drop_drop] at hp
  have e : k.toNat = (bytesE x).length := by rw [hk, Int.toNat_natCast]
  rw [List.length_drop] at hl
  exact ⟨⟨by rw [e]; exact hp, by omega⟩, by omega, by omega⟩
set_option maxHeartbeats 6400000 in
theorem ref_verify_calls (A : Option Addr) (c : Nat) (b hd : List Int) (w : World) (hr : CB w A b) (hc : b.length ≤ c) (hb : By b) (hl : b.length ≤ 100000) (hh : hd.length = 32) :
    Calls Try.prog 31 #[.slice A b.length c, .agg (nums .u8 hd).toArray] w fun e w' => e = .returned (.tuple #[.int .i64 (verOut b hd).1, .int .i64 (verOut b hd).2]) ∧ Below w.heap.size w w' := by
  have HR := Aside0.mk hr; have HC := Aside0.mk hc; have HBY := Aside0.mk hb; have HLB := Aside0.mk hl; have HHL := Aside0.mk hh
  have HDZ := Aside0.mk (id_sz hh)
  have HV0 := Aside0.mk (⟨(Below.refl w.heap.size w).alloc (Nat.le_refl _) (.cells (nums .u8 hd).toArray 25), heap_alloc_new w _, Nat.le_refl _⟩ : V3 w (w.alloc (.cells (nums .u8 hd).toArray 25)) w.heap.size hd)
  obtain ⟨n4, e4, hno⟩ : ∃ n e, verOut b hd = (n, e) := ⟨_, _, rfl⟩
  have HVO := Aside0.mk hno
  rw [hno]
  have HLR := Aside0.mk (⟨PI.start (by_drop hb 10), .inr rfl⟩ : LR b 10 [])
  clear hr hc hb hh hno
  go_enter Try.func31, Try.ntmps31
  go_upto_region 3 with (fail)
  generalize w.alloc (.cells (nums .u8 hd).toArray 25) = W1 at HV0 ⊢
  generalize hg3 : w.heap.size = g3 at HV0 ⊢
  have HG3 := Aside0.mk hg3
  clear hg3
  have HRE := Aside0.mk (show RE W1 w.heap.size (.slice none 0 0) [] from Kd.R_nil _ _ _ _ _)
  go_loopw [6, 7] (fun vb va wr => ∃ (n : Nat) (pre : List Ent) (A6 : Option Addr) (c6 : Nat), vb = .slice A6 pre.length c6 ∧ va = .int .i64 n ∧ Aside0 (LR b n pre) ∧ Aside0 (RE wr w.heap.size (.slice A6 pre.length c6) pre) ∧ Aside0 (V3 w wr g3 hd)) (fun _ va _ => b.length + 10 - (intOf va).toNat)
  case atStart => exact ⟨10, [], none, 0, rfl, rfl, HLR, HRE, HV0⟩
  case round =>
    clear HLR HRE HV0
    obtain ⟨n, pre, A6, c6, rfl, rfl, HLR, HRE, HV0⟩ := hrel
    have HPL := Aside0.mk (show pre.length ≤ 100000 from by have := PI.len HLR.out.pi; rw [List.length_drop] at this; have := HLB.out; omega)
    by_cases hlt : n < b.length
    · have hlt' : decide ((n : Int) < (b.length : Int)) = true := by simp; omega
      have hlt'' : decide (n < b.length) = true := by simpa using hlt
      obtain ⟨ys, A', hys, hyl, hyc, hcut, hCy⟩ := cut_drop (P := Try.prog) 37 Try.underlying37 POct.info5 A c b n (by omega) (by omega) HC.out
      rw [Int.toNat_natCast] at hys
      obtain ⟨x, k, e, ht⟩ : ∃ x k e, takeOut ys = (x, k, e) := ⟨_, _, _, rfl⟩
      have HT := Aside0.mk (show takeOut (b.drop n) = (x, k, e) from hys ▸ ht)
      have hby : By ys := by rw [hys]; exact by_drop HBY.out n
      have HOK := Aside0.mk (show Ok x from by have := Lr.take_wf ys hby; rw [ht] at this; exact this)
      have HTK := Aside0.mk (show Calls Try.prog 25 #[.slice A' ys.length (c - n)] wr fun e_ w' => e_ = .returned (.tuple #[.agg (cellsOf x).toArray, .int .i64 k, .int .i64 e]) ∧ Below wr.heap.size wr w' from by have := Eu.ref_take_calls A' (c - n) ys wr (hCy wr (Kd.C_below HR.out HV0.out.below)) (by simpa using hyc) (by rw [hys, List.length_drop]; have := HLB.out; omega) hby; rw [ht] at this; exact this)
      have HCZ := Aside0.mk (cells_sz HOK.out)
      have HNB := Aside0.mk hlt
      have HNN := Aside0.mk (show b.drop n ≠ [] from by intro h; have h2 := congrArg List.length h; rw [List.length_drop, List.length_nil] at h2; omega)
      clear ht hys hyl hyc hlt hby hCy
      by_cases he : e = 0
      rotate_left
      · have hq : (e == 0) = false := by simpa using he
        have hq2 : (e != 0) = true := by simpa using he
        have HV := Aside0.mk (show (n4, e4) = ((0 : Int), (4 : Int)) from by rw [← HVO.out]; exact ver_none (HLR.out.pi.bad HNN.out (by rw [HT.out]; exact he)))
        clear he
        obtain ⟨rfl, rfl⟩ := Prod.mk.inj HV.out
        go_wp2_with (first
          | ((with_reducible refine HTK.out.mono ?_); rintro _ W3 ⟨rfl, hb3⟩; obtain ⟨g8, hg8⟩ : ∃ g, W3.heap.size = g := ⟨_, rfl⟩; have HG8 := Aside0.mk hg8; have HN8 := Aside0.mk (hg8 ▸ heap_alloc_new W3 (.cells (cellsOf ent0).toArray 27) : (W3.alloc (.cells (cellsOf ent0).toArray 27)).heap[g8]? = some (.cells (cellsOf ent0).toArray 27 (0, 0))); have HB8 := Aside0.mk (show Below g8 (W3.alloc (.cells (cellsOf ent0).toArray 27)) (W3.alloc (.cells (cellsOf ent0).toArray 27)) from Below.refl _ _); clear hg8)
          | ((with_reducible refine op_alloc rfl 27 rfl _ zero27 ?_); simp only [HG8.out])
          | ((with_reducible refine op_store (w0 := W3.alloc (.cells (cellsOf ent0).toArray 27)) (o := ⟨none, .store 27 (.tmp 8) (.tmp 24), _, _, _, _⟩) g8 ?_ 27 (.tmp 8) (.tmp 24) ?_ g8 (cellsOf x).toArray ?_ ?_ 27 _ HN8.out 38 info27 HCZ.out (cells_sz ok0) (cells_all _) HB8.out (Nat.le_refl _) ?_); rfl; rfl; rfl; rfl; intro W4 h1 h2 h3; have HB4 := Aside0.mk (made_ent (x := x) HG8.out h3.out)))
        go_ret2
        exact ⟨rfl, ((HV0.out.step hb3).step HB4.out).below⟩
      subst he
      have HNX := Aside0.mk (HLR.out.next HT.out (by have := HNB.out; omega))
      have hk0 : 0 < k := HNX.out.2.1
      have hk1 : (n : Int) + k ≤ 100000 := by have := HNX.out.2.2; have := HLB.out; omega
      have hn1 : n ≤ 100000 := by have := HNB.out; have := HLB.out; omega
      go_wp2_with (first
        | ((with_reducible refine HTK.out.mono ?_); rintro _ W3 ⟨rfl, hb3⟩; obtain ⟨g8, hg8⟩ : ∃ g, W3.heap.size = g := ⟨_, rfl⟩; have HG8 := Aside0.mk hg8; have HN8 := Aside0.mk (hg8 ▸ heap_alloc_new W3 (.cells (cellsOf ent0).toArray 27) : (W3.alloc (.cells (cellsOf ent0).toArray 27)).heap[g8]? = some (.cells (cellsOf ent0).toArray 27 (0, 0))); have HB8 := Aside0.mk (show Below g8 (W3.alloc (.cells (cellsOf ent0).toArray 27)) (W3.alloc (.cells (cellsOf ent0).toArray 27)) from Below.refl _ _); clear hg8)
        | ((with_reducible refine op_alloc rfl 27 rfl _ zero27 ?_); simp only [HG8.out])
        | ((with_reducible refine op_store (w0 := W3.alloc (.cells (cellsOf ent0).toArray 27)) (o := ⟨none, .store 27 (.tmp 8) (.tmp 24), _, _, _, _⟩) g8 ?_ 27 (.tmp 8) (.tmp 24) ?_ g8 (cellsOf x).toArray ?_ ?_ 27 _ HN8.out 38 info27 HCZ.out (cells_sz ok0) (cells_all _) HB8.out (Nat.le_refl _) ?_); rfl; rfl; rfl; rfl; intro W4 h1 h2 h3; have HV4 := Aside0.mk ((HV0.out.step hb3).step (made_ent (x := x) HG8.out h3.out)); have HO4 := Aside0.mk (Kd.R_below (Kd.R_below HRE.out hb3) (made_ent (x := x) HG8.out h3.out)))
        | (with_reducible refine op_load rfl 27 _ rfl g8 rfl 27 _ _ h1.out Try.underlying27 rfl 38 info27 HCZ.out ?_)
        | (refine Lb.op_lit1 rfl (.tmp 30) rfl x HOK.out rfl ?_)
        | (at_builtin; refine Kd.R_append kd (w0 := w) w.heap.size rfl (.tmp 29) (.tmp 31) 22 27 _ 88 rfl Try.underlying22 info27b (by show (cellsOf ent0).toArray.size = 38; exact cells_sz ok0) (by decide) (by decide) _ pre x (cellsOf x) (fun _ => True) (fun _ => False) rfl rfl ⟨rfl, HOK.out⟩ (fun _ h => h.elim) (fun _ _ => trivial) HO4.out HV4.out.below HV4.out.below.size (by have := HPL.out; omega) ?_; intro v5 w5 ho5 hB5 hg5 _))
      obtain ⟨A5, c5, rfl, hc5, _⟩ := Kd.R_reads ho5
      have HQ5 := Aside0.mk (show V3 w w5 g3 hd from ⟨hB5, blk_grown HV4.out.h3 hg5 (Kd.R_ne HO4.out HV4.out.h3 (by decide)), HV4.out.ne⟩)
      have HO5 := Aside0.mk ho5
      clear ho5 hB5 hg5
      go_roundw
      case rel => exact ⟨n + k.toNat, pre ++ [x], A5, c5, rfl, by have : ((n + k.toNat : Nat) : Int) = (n : Int) + k := by omega
                                                                  rw [this], ⟨HNX.out.1⟩, HO5, HQ5⟩
      case measure => have := HNB.out; simp [intOf]; omega
    · have hlt' : decide ((n : Int) < (b.length : Int)) = false := by simp; omega
      have hlt'' : decide (n < b.length) = false := by simpa using hlt
      have hnil : b.drop n = [] := List.drop_of_length_le (by omega)
      have HPI := Aside0.mk (show PI (b.drop 10) pre [] from by have := HLR.out.pi; rwa [hnil] at this)
      have HRR := Aside0.mk (Kd.R_reads' HRE.out).2.2
      have HCAP := Aside0.mk (show pre.length ≤ c6 from rcap HRE.out)
      obtain ⟨fl, hfl⟩ : ∃ f, (expOut pre).1 = f := ⟨_, rfl⟩
      obtain ⟨fe, hfe⟩ : ∃ f, (expOut pre).2 = f := ⟨_, rfl⟩
      have HFL := Aside0.mk hfl
      have HFE := Aside0.mk hfe
      have HEX := Aside0.mk (hfl ▸ hfe ▸ ref_export_calls A6 c6 pre wr HRR.out HCAP.out (fun x hx => (HPI.out.wf x hx).1) HPL.out)
      have HVS := Aside0.mk (ver_some (hd := hd) HPI.out.done.1)
      clear hlt hnil hfl hfe
      go_upto_region 10 with (((with_reducible refine HEX.out.mono ?_); rintro _ W3 ⟨v, rfl, hr3, hb3⟩; obtain ⟨A9, c9, rfl, hc9, hC9⟩ := Kd.R_reads hr3))
      have HV3 := Aside0.mk (HV0.out.step hb3)
      have HC9 := Aside0.mk hC9
      have HO3 := Aside0.mk (Kd.R_below HRE.out hb3)
      have HRR3 := Aside0.mk (Kd.C_below HRR.out hb3)
      clear hr3 hb3 hc9 hC9 hlt' hlt''
      by_cases hz : fe = 0
      rotate_left
      · have hq : (fe == 0) = false := by simpa using hz
        have hq2 : (fe != 0) = true := by simpa using hz
        have HV := Aside0.mk (show (n4, e4) = ((0 : Int), (4 : Int)) from by
          rw [← HVO.out, HVS.out, if_neg]
          intro hh
          have := HFE.out
          unfold expOut at this
          rw [if_pos hh.1] at this
          exact hz this.symm)
        clear hz
        obtain ⟨rfl, rfl⟩ := Prod.mk.inj HV.out
        go_wp2
        go_ret2
        exact ⟨rfl, HV3.out.below⟩
      subst hz
      have HH0 := Aside0.mk (show (headOut pre).2 = 0 ∧ full pre = fl from by
        have h1 := HFE.out
        have h2 := HFL.out
        unfold expOut at h1 h2
        by_cases hq : (headOut pre).2 = 0
        · rw [if_pos hq] at h2; exact ⟨hq, h2⟩
        · rw [if_neg hq] at h1; exact absurd h1 hq)
      have hcv2 := Kd.C_string (c := c) (P := Try.prog) Try.underlying37 Try.underlying5 Try.underlying9 (Kd.C_below HR.out HV3.out.below)
      have hcv1 := Kd.C_string (c := c9) (P := Try.prog) Try.underlying37 Try.underlying5 Try.underlying9 HC9.out
      by_cases hfb : fl = b
      rotate_left
      · have HV := Aside0.mk (show (n4, e4) = ((0 : Int), (4 : Int)) from by
          rw [← HVO.out, HVS.out, if_neg]
          intro hh
          exact hfb (by rw [← HH0.out.2]; exact hh.2))
        have hby2 : By fl := by
          rw [← HH0.out.2]
          unfold full
          intro y hy
          rcases List.mem_append.1 hy with hy | hy
          · rcases List.mem_append.1 hy with hy | hy
            · simp at hy; rcases hy with rfl | rfl <;> omega
            · exact be_byte _ _ y hy
          · unfold body at hy
            obtain ⟨x, hx, hyx⟩ := List.mem_flatMap.1 hy
            exact bytesE_byte (HPI.out.wf x hx).1 (HPI.out.wf x hx).2 y hyx
        have hsq := str_ne hby2 HBY.out hfb
        generalize strOfNums fl = s1 at hcv1 hsq
        generalize strOfNums b = s2 at hcv2 hsq
        clear hfb hby2
        obtain ⟨rfl, rfl⟩ := Prod.mk.inj HV.out
        go_wp2
        go_ret2
        exact ⟨rfl, HV3.out.below⟩
      subst hfb
      generalize strOfNums fl = s1 at hcv1 hcv2
      have HHC := Aside0.mk (head_zero HH0.out.1).2.2
      have HHD := Aside0.mk (show Calls Try.prog 27 #[.slice A6 pre.length c6] W3 fun e w' => e = .returned (.tuple #[.agg (nums .u8 (chain pre)).toArray, .int .i64 0]) ∧ Below W3.heap.size W3 w' from by have := ref_head_calls A6 c6 pre W3 HRR3.out HCAP.out (fun x hx => (HPI.out.wf x hx).1); rw [HHC.out, HH0.out.1] at this; exact this)
      have HCZ := Aside0.mk (id_sz (chain_len pre))
      have HCL := Aside0.mk (chain_len pre)
      have HV := Aside0.mk (show (n4, e4) = if chain pre = hd then ((pre.length : Int), 0) else (0, 13) from by rw [← HVO.out, HVS.out, if_pos ⟨HH0.out.1, HH0.out.2⟩])
      go_upto_region 13 with (first
        | ((with_reducible refine HHD.out.mono ?_); rintro _ W5 ⟨rfl, hb5⟩; have HV5 := Aside0.mk (HV3.out.step hb5); obtain ⟨g13, hg13⟩ : ∃ g, W5.heap.size = g := ⟨_, rfl⟩; have HG13 := Aside0.mk hg13; have HN13 := Aside0.mk (hg13 ▸ heap_alloc_new W5 (.cells (nums .u8 id0).toArray 25) : (W5.alloc (.cells (nums .u8 id0).toArray 25)).heap[g13]? = some (.cells (nums .u8 id0).toArray 25 (0, 0))); have HB13 := Aside0.mk (show Below g13 (W5.alloc (.cells (nums .u8 id0).toArray 25)) (W5.alloc (.cells (nums .u8 id0).toArray 25)) from Below.refl _ _); clear hg13)
        | ((with_reducible refine op_alloc rfl 25 rfl _ zero25 ?_); simp only [HG13.out])
        | ((with_reducible refine op_store (w0 := W5.alloc (.cells (nums .u8 id0).toArray 25)) (o := ⟨none, .store 25 (.tmp 13) (.tmp 53), _, _, _, _⟩) g13 ?_ 25 (.tmp 13) (.tmp 53) ?_ g13 (nums .u8 (chain pre)).toArray ?_ ?_ 25 _ HN13.out 32 info25 HCZ.out (id_sz id0_len) (id_all _) HB13.out (Nat.le_refl _) ?_); rfl; rfl; rfl; rfl; intro W6 h1 h2 h3; have HV6 := Aside0.mk (HV5.out.step (made_id HG13.out h3.out)); have HI3 := Aside0.mk (show W6.heap[g3]? = some (.cells (nums .u8 hd).toArray 25 (0, 0)) from HV6.out.h3)))
      by_cases hh : chain pre = hd
      · have hi : (!(chain pre == hd)) = false := by simp [hh]
        have HV2 := Aside0.mk (show (n4, e4) = ((pre.length : Int), (0 : Int)) from by rw [HV.out, if_pos hh])
        obtain ⟨rfl, rfl⟩ := Prod.mk.inj HV2.out
        clear hh
        go_wp2_with (first
          | (with_reducible refine op_load rfl 25 _ rfl g13 rfl 25 _ _ h1.out Try.underlying25 rfl 32 info25 HCZ.out ?_)
          | (with_reducible refine op_load rfl 25 _ rfl g3 rfl 25 _ _ HI3.out Try.underlying25 rfl 32 info25 HDZ.out ?_)
          | (refine Kd.event_run rfl (id_neq_is hi (x := .tmp 55) (y := .tmp 56) rfl rfl rfl HCL.out HHL.out) ?_))
        go_ret2
        exact ⟨rfl, HV6.out.below⟩
      · have hi : (!(chain pre == hd)) = true := by simp [hh]
        have HV2 := Aside0.mk (show (n4, e4) = ((0 : Int), (13 : Int)) from by rw [HV.out, if_neg hh])
        obtain ⟨rfl, rfl⟩ := Prod.mk.inj HV2.out
        clear hh
        go_wp2_with (first
          | (with_reducible refine op_load rfl 25 _ rfl g13 rfl 25 _ _ h1.out Try.underlying25 rfl 32 info25 HCZ.out ?_)
          | (with_reducible refine op_load rfl 25 _ rfl g3 rfl 25 _ _ HI3.out Try.underlying25 rfl 32 info25 HDZ.out ?_)
          | (refine Kd.event_run rfl (id_neq_is hi (x := .tmp 55) (y := .tmp 56) rfl rfl rfl HCL.out HHL.out) ?_))
        go_ret2
        exact ⟨rfl, HV6.out.below⟩
end Go.Proofs.Ytgpgblidplmchaa.Vr
