/- A chain's head: the program's Head, the document's. A log as bytes: the program's Export, the document's. -/
import Derived.Test.YtgpgblidplmchaaLd
import Derived.Test.YtgpgblidplmchaaLb
namespace Go.Proofs.Ytgpgblidplmchaa.Hd
open Go.RowKit Go.Proofs.YtgpgblidplmchaaW.PrintWords Go.Proofs.YtgpgblidplmchaaW.PrintLast Go.Proofs.YtgpgblidplmchaaW.PrintMore
open Ag En Eb Eh Ek Lk Spw
set_option linter.unusedVariables false
set_option linter.unusedSimpArgs false
set_option maxRecDepth 100000
def chain (l : List Ent) : List Int := l.foldl (fun h x => (linkOut h x).1) id0
def seqB (l : List Ent) : Bool := (List.range l.length).all fun i => (l.getD i ent0).seq == (i : Int)
def headOut (l : List Ent) : List Int × Int := if l.all mayE = true then (if seqB l = true then (chain l, 0) else (id0, 10)) else (id0, 1)
theorem chain_snoc (l : List Ent) (x : Ent) : chain (l ++ [x]) = (linkOut (chain l) x).1 := by unfold chain; rw [List.foldl_append]; rfl
theorem chain_ok : ∀ (l : List Ent) (h : List Int), h.length = 32 ∧ By h → (l.foldl (fun h x => (linkOut h x).1) h).length = 32 ∧ By (l.foldl (fun h x => (linkOut h x).1) h) := by
  intro l
  induction l with
  | nil => intro h hh; exact hh
  | cons x xs ih => intro h hh; exact ih _ ⟨link_len h x, link_by h x⟩
theorem chain_len (l : List Ent) : (chain l).length = 32 := (chain_ok l id0 ⟨id0_len, id0_by⟩).1
theorem chain_by (l : List Ent) : By (chain l) := (chain_ok l id0 ⟨id0_len, id0_by⟩).2
theorem seq_all {l : List Ent} (h : ∀ i (hi : i < l.length), i < l.length → l[i].seq = (i : Int)) : seqB l = true := by
  unfold seqB
  rw [List.all_eq_true]
  intro i hi
  have hi' := List.mem_range.1 hi
  rw [List.getD_eq_getElem?_getD, List.getElem?_eq_getElem hi']
  simpa using h i hi' hi'
theorem seq_not {l : List Ent} {i : Nat} (hi : i < l.length) (h : l[i].seq ≠ (i : Int)) : seqB l = false := by
  unfold seqB
  rw [List.all_eq_false]
  refine ⟨i, List.mem_range.2 hi, ?_⟩
  rw [List.getD_eq_getElem?_getD, List.getElem?_eq_getElem hi]
  simpa using h
theorem may_all {l : List Ent} (h : ∀ i (hi : i < l.length), i < l.length → mayE l[i] = true) : l.all mayE = true := by
  rw [List.all_eq_true]
  intro x hx
  obtain ⟨i, hi, rfl⟩ := List.mem_iff_getElem.1 hx
  exact h i hi hi
theorem may_not {l : List Ent} {i : Nat} (hi : i < l.length) (h : mayE l[i] = false) : l.all mayE = false := by
  rw [List.all_eq_false]
  exact ⟨l[i], List.getElem_mem hi, by simp [h]⟩
theorem head_may {l : List Ent} (h : l.all mayE = false) : headOut l = (id0, 1) := by unfold headOut; rw [h]; rfl
theorem head_seq {l : List Ent} (h : l.all mayE = true) (h2 : seqB l = false) : headOut l = (id0, 10) := by unfold headOut; rw [h, h2]; rfl
theorem head_yes {l : List Ent} (h : l.all mayE = true) (h2 : seqB l = true) : headOut l = (chain l, 0) := by unfold headOut; rw [h, h2]; rfl
theorem load_id {W : World} {g : Nat} {l : List Int} (h : Idb W g l) (hl : l.length = 32) : (Instr.loadAt 25 (.pointer (some ⟨g, 0, none⟩))).run Try.prog W = .ok (.agg (nums .u8 l).toArray) W := by
  simp only [Instr.loadAt, Instr.sureAddr, Sem.run_bind, Sem.run_pure, Result.andThen_ok, run_loadVar_row W g 25 25 _ (0, 0) _ h Try.underlying25 rfl (by rw [info25, id_sz hl])]
structure H0 (w W : World) (g2 : Nat) (A : Option Addr) (l : List Ent) : Prop where
  below : Below w.heap.size w W
  r2 : Idb W g2 id0
  ne : w.heap.size ≤ g2
  ce : CE W A l
theorem H0.step {w W W2 : World} {g2 : Nat} {A : Option Addr} {l : List Ent} (h : H0 w W g2 A l) (hb : Below W.heap.size W W2) : H0 w W2 g2 A l :=
  ⟨h.below.trans (hb.mono h.below.size), (hb.block _ (blk_lt h.r2)).trans h.r2, h.ne, Kd.C_below h.ce hb⟩
theorem H0.start (w : World) (A : Option Addr) (l : List Ent) (h : CE w A l) : H0 w (w.alloc (.cells (nums .u8 id0).toArray 25)) w.heap.size A l :=
  ⟨(Below.refl _ _).alloc (Nat.le_refl _) _, heap_alloc_new w _, Nat.le_refl _, Kd.C_below h ((Below.refl _ _).alloc (Nat.le_refl _) _)⟩
structure H1 (w W : World) (g2 g6 : Nat) (A : Option Addr) (l : List Ent) (h : List Int) : Prop where
  all : H0 w W g2 A l
  r6 : Idb W g6 h
  ne : g2 ≠ g6 ∧ w.heap.size ≤ g6
theorem H1.step {w W W2 : World} {g2 g6 : Nat} {A : Option Addr} {l : List Ent} {h : List Int} (k : H1 w W g2 g6 A l h) (hb : Below W.heap.size W W2) : H1 w W2 g2 g6 A l h :=
  ⟨k.all.step hb, (hb.block _ (blk_lt k.r6)).trans k.r6, k.ne⟩
theorem H0.more {w W : World} {g2 : Nat} {A : Option Addr} {l : List Ent} (h : H0 w W g2 A l) : H1 w (W.alloc (.cells (nums .u8 id0).toArray 25)) g2 W.heap.size A l (chain (l.take 0)) :=
  ⟨h.step ((Below.refl _ _).alloc (Nat.le_refl _) _), heap_alloc_new W _, by have := blk_lt h.r2; omega, h.below.size⟩
theorem H1.put {w W wf : World} {g2 g6 : Nat} {A : Option Addr} {l : List Ent} {h h' : List Int} (k : H1 w W g2 g6 A l h) (h1 : wf.heap[g6]? = some (.cells (nums .u8 h').toArray 25 (0, 0))) (h2 : W.grownBy wf (some g6)) (h3 : Below w.heap.size w wf) (hce : CE wf A l) : H1 w wf g2 g6 A l h' :=
  ⟨⟨h3, (h2.block _ (blk_lt k.all.r2) (by simp; exact k.ne.1)).trans k.all.r2, k.all.ne, hce⟩, h1, k.ne⟩
theorem made_ent {W W2 : World} {g : Nat} {x : Ent} (he : W.heap.size = g) (h3 : Below g (W.alloc (.cells (cellsOf ent0).toArray 27)) W2) : Below W.heap.size W W2 := by
  subst he
  exact ((Below.refl W.heap.size W).alloc (Nat.le_refl _) _).trans h3
theorem upto_seq {l : List Ent} {j : Nat} (h : ∀ i (hi : i < l.length), i < j → l[i].seq = (i : Int)) (hlt : j < l.length) (hj : l[j].seq = (j : Int)) : ∀ i (hi : i < l.length), i < j + 1 → l[i].seq = (i : Int) := by
  intro i hi hij
  rcases Nat.lt_or_ge i j with h1 | h1
  · exact h i hi h1
  · obtain rfl : i = j := by omega
    exact hj
theorem chain_next (l : List Ent) (j : Nat) (hj : j < l.length) : chain (l.take (j + 1)) = (linkOut (chain (l.take j)) l[j]).1 := by
  rw [List.take_succ_eq_append_getElem hj, chain_snoc]
set_option maxHeartbeats 3200000 in
theorem head_calls (A : Option Addr) (c : Nat) (l : List Ent) (w : World) (hr : CE w A l) (hc : l.length ≤ c) (hw : ∀ x ∈ l, Wf x) :
    Calls Try.prog 12 #[.slice A l.length c] w fun e w' => e = .returned (.tuple #[.agg (nums .u8 (headOut l).1).toArray, .int .i64 (headOut l).2]) ∧ Below w.heap.size w w' := by
  have HS := Aside0.mk (H0.start w A l hr)
  have HW := Aside0.mk hw
  have HCE := Aside0.mk hr
  have HIZ := Aside0.mk (id_sz id0_len)
  have hmx := hr.2.1
  clear hr hw
  go_enter Try.func12, Try.ntmps12
  go_wp2_with (first | (with_reducible refine op_alloc rfl 25 rfl _ zero25 ?_))
  generalize w.alloc (.cells (nums .u8 id0).toArray 25) = W1 at HS ⊢
  generalize w.heap.size = g2 at HS ⊢
  go_loopw [11] (fun v wr => ∃ j : Nat, j ≤ l.length ∧ v = .int .i64 j ∧ Aside0 (∀ i (hi : i < l.length), i < j → mayE l[i] = true) ∧ Aside0 (H0 w wr g2 A l)) (fun v _ => l.length - (intOf v).toNat)
  case atStart => exact ⟨0, by omega, rfl, ⟨fun i _ hi => absurd hi (by omega)⟩, HS⟩
  case round =>
    clear HS
    obtain ⟨j, hj, rfl, HJ, HS⟩ := hrel
    by_cases hlt : j < l.length
    · obtain ⟨ad, rfl, hok, _, hload⟩ := ent_at HS.out.ce j hlt
      have HLD := Aside0.mk hload
      have HLT := Aside0.mk hlt
      have hlt' : decide (j < l.length) = true := by simpa using hlt
      have hlt'' : decide ((j : Int) < (l.length : Int)) = true := by simp; omega
      obtain ⟨x, hx⟩ : ∃ x, l[j] = x := ⟨_, rfl⟩
      have HX := Aside0.mk hx
      rw [hx] at HLD hok
      have HOK := Aside0.mk hok
      have HCZ := Aside0.mk (cells_sz hok)
      obtain ⟨g5, hg5⟩ : ∃ g, wr.heap.size = g := ⟨_, rfl⟩
      have HG5 := Aside0.mk hg5
      have HN5 := Aside0.mk (hg5 ▸ heap_alloc_new wr (.cells (cellsOf ent0).toArray 27) : (wr.alloc (.cells (cellsOf ent0).toArray 27)).heap[g5]? = some (.cells (cellsOf ent0).toArray 27 (0, 0)))
      have HB5 := Aside0.mk (show Below g5 (wr.alloc (.cells (cellsOf ent0).toArray 27)) (wr.alloc (.cells (cellsOf ent0).toArray 27)) from Below.refl _ _)
      clear hload hg5 hx hok
      have hload2 := HLD.out
      by_cases hm : mayE x = true
      · have HM := Aside0.mk hm
        clear hm
        go_wp2_with (first
          | ((with_reducible refine op_load_at (o := ⟨some 14, _, _, _, _, _⟩) ?_ 27 (.tmp 13) ?_ _ (.agg (cellsOf x).toArray) ?_ HLD.out ?_); rfl; rfl; rfl)
          | ((with_reducible refine op_alloc rfl 27 rfl _ zero27 ?_); simp only [HG5.out])
          | ((with_reducible refine op_store (w0 := wr.alloc (.cells (cellsOf ent0).toArray 27)) (o := ⟨none, .store 27 (.tmp 5) (.tmp 14), _, _, _, _⟩) g5 ?_ 27 (.tmp 5) (.tmp 14) ?_ g5 (cellsOf x).toArray ?_ ?_ 27 _ HN5.out 38 info27 HCZ.out (cells_sz ok0) (cells_all _) HB5.out (Nat.le_refl _) ?_); rfl; rfl; rfl; rfl; intro W3 h1 h2 h3; have HB3 := Aside0.mk (made_ent (x := x) HG5.out h3.out); clear hload2)
          | (with_reducible refine op_load rfl 27 _ rfl g5 rfl 27 _ _ h1.out Try.underlying27 rfl 38 info27 HCZ.out ?_)
          | ((with_reducible refine (may_calls x _ HOK.out).mono ?_); rw [HM.out]; rintro _ W4 ⟨rfl, hb4⟩))
        go_roundw
        case rel => exact ⟨j + 1, by omega, by go_num, ⟨upto_next (p := fun x => mayE x = true) HJ.out HLT.out (by rw [HX.out]; exact HM.out)⟩, ⟨(HS.out.step HB3.out).step hb4⟩⟩
        case measure => have := HLT.out; simp [intOf]; omega
      · have hm' : mayE x = false := by simpa using hm
        have HM := Aside0.mk hm'
        have HO := Aside0.mk (head_may (may_not HLT.out (by rw [HX.out]; exact hm')))
        clear hm hm'
        go_wp2_with (first
          | ((with_reducible refine op_load_at (o := ⟨some 14, _, _, _, _, _⟩) ?_ 27 (.tmp 13) ?_ _ (.agg (cellsOf x).toArray) ?_ HLD.out ?_); rfl; rfl; rfl)
          | ((with_reducible refine op_alloc rfl 27 rfl _ zero27 ?_); simp only [HG5.out])
          | ((with_reducible refine op_store (w0 := wr.alloc (.cells (cellsOf ent0).toArray 27)) (o := ⟨none, .store 27 (.tmp 5) (.tmp 14), _, _, _, _⟩) g5 ?_ 27 (.tmp 5) (.tmp 14) ?_ g5 (cellsOf x).toArray ?_ ?_ 27 _ HN5.out 38 info27 HCZ.out (cells_sz ok0) (cells_all _) HB5.out (Nat.le_refl _) ?_); rfl; rfl; rfl; rfl; intro W3 h1 h2 h3; have HB3 := Aside0.mk (made_ent (x := x) HG5.out h3.out); clear hload2)
          | (with_reducible refine op_load rfl 27 _ rfl g5 rfl 27 _ _ h1.out Try.underlying27 rfl 38 info27 HCZ.out ?_)
          | (with_reducible refine op_build rfl 25 _ rfl (nums .u8 id0).toArray (by simp only [List.map_toArray, List.map_nil]; exact built25) ?_)
          | ((with_reducible refine (may_calls x _ HOK.out).mono ?_); rw [HM.out]; rintro _ W4 ⟨rfl, hb4⟩; have HS4 := Aside0.mk ((HS.out.step HB3.out).step hb4); have HO4 := Aside0.mk (show W4.heap[g2]? = some (.cells (nums .u8 id0).toArray 25 (0, 0)) from HS4.out.r2))
          | ((with_reducible refine op_store (w0 := w) (o := ⟨none, .store 25 (.tmp 2) (.tmp 18), _, _, _, _⟩) w.heap.size ?_ 25 (.tmp 2) (.tmp 18) ?_ g2 (nums .u8 id0).toArray ?_ ?_ 25 _ HO4.out 32 info25 HIZ.out HIZ.out (id_all _) HS4.out.below HS4.out.ne ?_); rfl; rfl; rfl; rfl; intro wf hf1 hf2 hf3))
        refine ret_row rfl g2 rfl 25 _ _ hf1.out Try.underlying25 rfl 32 info25 HIZ.out rfl ?_
        exact ⟨by rw [HO.out]; rfl, hf3.out⟩
    · obtain rfl : j = l.length := by omega
      have HMA := Aside0.mk (may_all HJ.out)
      clear HJ hlt
      obtain ⟨g6, hg6⟩ : ∃ g, wr.heap.size = g := ⟨_, rfl⟩
      have HG6 := Aside0.mk hg6
      have HS1 := Aside0.mk (hg6 ▸ HS.out.more)
      clear hg6 HS
      go_wp2_with (first | ((with_reducible refine op_alloc rfl 25 rfl _ zero25 ?_); simp only [HG6.out]))
      generalize wr.alloc (.cells (nums .u8 id0).toArray 25) = W2 at HS1 ⊢
      go_loopw [22] (fun v wr => ∃ j : Nat, j ≤ l.length ∧ v = .int .i64 j ∧ Aside0 (∀ i (hi : i < l.length), i < j → l[i].seq = (i : Int)) ∧ Aside0 (H1 w wr g2 g6 A l (chain (l.take j)))) (fun v _ => l.length - (intOf v).toNat)
      case atStart => exact ⟨0, by omega, rfl, ⟨fun i _ hi => absurd hi (by omega)⟩, HS1⟩
      case round =>
        clear HS1 HG6
        obtain ⟨j, hj, rfl, HJ, HS⟩ := hrel
        by_cases hlt : j < l.length
        · obtain ⟨ad, rfl, hok, _, hload⟩ := ent_at HS.out.all.ce j hlt
          have HLD := Aside0.mk hload
          have HLT := Aside0.mk hlt
          have hlt' : decide (j < l.length) = true := by simpa using hlt
          have hlt'' : decide ((j : Int) < (l.length : Int)) = true := by simp; omega
          obtain ⟨x, hx⟩ : ∃ x, l[j] = x := ⟨_, rfl⟩
          have HX := Aside0.mk hx
          have HWX := Aside0.mk (hx ▸ HW.out _ (List.getElem_mem hlt))
          rw [hx] at HLD hok
          have HCZ := Aside0.mk (cells_sz hok)
          obtain ⟨hd, hhd⟩ : ∃ hd, chain (l.take j) = hd := ⟨_, rfl⟩
          have HHD := Aside0.mk hhd
          have HHO := Aside0.mk (hhd ▸ (⟨chain_len _, chain_by _⟩ : (chain (l.take j)).length = 32 ∧ By (chain (l.take j))))
          have HDZ := Aside0.mk (id_sz HHO.out.1)
          rw [hhd] at HS
          obtain ⟨g8, hg8⟩ : ∃ g, wr.heap.size = g := ⟨_, rfl⟩
          have HG8 := Aside0.mk hg8
          have HN8 := Aside0.mk (hg8 ▸ heap_alloc_new wr (.cells (cellsOf ent0).toArray 27) : (wr.alloc (.cells (cellsOf ent0).toArray 27)).heap[g8]? = some (.cells (cellsOf ent0).toArray 27 (0, 0)))
          have HB8 := Aside0.mk (show Below g8 (wr.alloc (.cells (cellsOf ent0).toArray 27)) (wr.alloc (.cells (cellsOf ent0).toArray 27)) from Below.refl _ _)
          clear hload hg8 hx hok hhd
          by_cases hs : x.seq = (j : Int)
          · have hq : (x.seq == (j : Int)) = true := by simpa using hs
            have hq2 : (x.seq != (j : Int)) = false := by simpa using hs
            have HSQ := Aside0.mk hs
            have HLZ := Aside0.mk (id_sz (link_len hd x))
            clear hs
            go_wp2_with (first
              | ((with_reducible refine op_load_at (o := ⟨some 26, _, _, _, _, _⟩) ?_ 27 (.tmp 25) ?_ _ (.agg (cellsOf x).toArray) ?_ HLD.out ?_); rfl; rfl; rfl)
              | ((with_reducible refine op_alloc rfl 27 rfl _ zero27 ?_); simp only [HG8.out])
              | ((with_reducible refine op_store (w0 := wr.alloc (.cells (cellsOf ent0).toArray 27)) (o := ⟨none, .store 27 (.tmp 8) (.tmp 26), _, _, _, _⟩) g8 ?_ 27 (.tmp 8) (.tmp 26) ?_ g8 (cellsOf x).toArray ?_ ?_ 27 _ HN8.out 38 info27 HCZ.out (cells_sz ok0) (cells_all _) HB8.out (Nat.le_refl _) ?_); rfl; rfl; rfl; rfl; intro W3 h1 h2 h3; have HS3 := Aside0.mk (HS.out.step (made_ent (x := x) HG8.out h3.out)); have hk0 := it_cell (show It W3 g8 x from h1.out) 0 _ rfl; have HI6 := Aside0.mk (show W3.heap[g6]? = some (.cells (nums .u8 hd).toArray 25 (0, 0)) from HS3.out.r6))
              | (with_reducible refine op_load rfl 27 _ rfl g8 rfl 27 _ _ h1.out Try.underlying27 rfl 38 info27 HCZ.out ?_)
              | (with_reducible refine op_load rfl 25 _ rfl g6 rfl 25 _ _ HI6.out Try.underlying25 rfl 32 info25 HDZ.out ?_)
              | ((with_reducible refine (link_calls hd x _ HWX.out HHO.out.1 HHO.out.2).mono ?_); rintro _ W4 ⟨rfl, hb4⟩; have HS4 := Aside0.mk (HS3.out.step hb4); have HO4 := Aside0.mk (show W4.heap[g6]? = some (.cells (nums .u8 hd).toArray 25 (0, 0)) from HS4.out.r6); clear hk0)
              | ((with_reducible refine op_store (w0 := w) (o := ⟨none, .store 25 (.tmp 6) (.tmp 36), _, _, _, _⟩) w.heap.size ?_ 25 (.tmp 6) (.tmp 36) ?_ g6 (nums .u8 (linkOut hd x).1).toArray ?_ ?_ 25 _ HO4.out 32 info25 HLZ.out HDZ.out (id_all _) HS4.out.all.below HS4.out.ne.2 ?_); rfl; rfl; rfl; rfl; intro wf hf1 hf2 hf3))
            have HQ := Aside0.mk (HS4.out.put hf1.out hf2.out hf3.out (Kd.C_below HCE.out hf3.out))
            go_roundw
            case rel => exact ⟨j + 1, by omega, by go_num, ⟨upto_seq HJ.out HLT.out (by rw [HX.out]; exact HSQ.out)⟩, ⟨by rw [chain_next _ _ HLT.out, HHD.out, HX.out]; exact HQ.out⟩⟩
            case measure => have := HLT.out; simp [intOf]; omega
          · have hq : (x.seq == (j : Int)) = false := by simpa using hs
            have hq2 : (x.seq != (j : Int)) = true := by simpa using hs
            have HO := Aside0.mk (head_seq HMA.out (seq_not HLT.out (by rw [HX.out]; exact hs)))
            clear hs
            go_wp2_with (first
              | ((with_reducible refine op_load_at (o := ⟨some 26, _, _, _, _, _⟩) ?_ 27 (.tmp 25) ?_ _ (.agg (cellsOf x).toArray) ?_ HLD.out ?_); rfl; rfl; rfl)
              | ((with_reducible refine op_alloc rfl 27 rfl _ zero27 ?_); simp only [HG8.out])
              | ((with_reducible refine op_store (w0 := wr.alloc (.cells (cellsOf ent0).toArray 27)) (o := ⟨none, .store 27 (.tmp 8) (.tmp 26), _, _, _, _⟩) g8 ?_ 27 (.tmp 8) (.tmp 26) ?_ g8 (cellsOf x).toArray ?_ ?_ 27 _ HN8.out 38 info27 HCZ.out (cells_sz ok0) (cells_all _) HB8.out (Nat.le_refl _) ?_); rfl; rfl; rfl; rfl; intro W3 h1 h2 h3; have HS3 := Aside0.mk (HS.out.step (made_ent (x := x) HG8.out h3.out)); have hk0 := it_cell (show It W3 g8 x from h1.out) 0 _ rfl; have HO4 := Aside0.mk (show W3.heap[g2]? = some (.cells (nums .u8 id0).toArray 25 (0, 0)) from HS3.out.all.r2))
              | (with_reducible refine op_build rfl 25 _ rfl (nums .u8 id0).toArray (by simp only [List.map_toArray, List.map_nil]; exact built25) ?_)
              | ((with_reducible refine op_store (w0 := w) (o := ⟨none, .store 25 (.tmp 2) (.tmp 31), _, _, _, _⟩) w.heap.size ?_ 25 (.tmp 2) (.tmp 31) ?_ g2 (nums .u8 id0).toArray ?_ ?_ 25 _ HO4.out 32 info25 HIZ.out HIZ.out (id_all _) HS3.out.all.below HS3.out.all.ne ?_); rfl; rfl; rfl; rfl; intro wf hf1 hf2 hf3))
            refine ret_row rfl g2 rfl 25 _ _ hf1.out Try.underlying25 rfl 32 info25 HIZ.out rfl ?_
            exact ⟨by rw [HO.out]; rfl, hf3.out⟩
        · obtain rfl : j = l.length := by omega
          have HO := Aside0.mk (head_yes HMA.out (seq_all HJ.out))
          have HI6 := Aside0.mk (show wr.heap[g6]? = some (.cells (nums .u8 (chain l)).toArray 25 (0, 0)) from by have := HS.out.r6; rw [List.take_length] at this; exact this)
          have HO4 := Aside0.mk (show wr.heap[g2]? = some (.cells (nums .u8 id0).toArray 25 (0, 0)) from HS.out.all.r2)
          have HLZ := Aside0.mk (id_sz (chain_len l))
          clear hlt HJ
          go_wp2_with (first
            | (with_reducible refine op_load rfl 25 _ rfl g6 rfl 25 _ _ HI6.out Try.underlying25 rfl 32 info25 HLZ.out ?_)
            | ((with_reducible refine op_store (w0 := w) (o := ⟨none, .store 25 (.tmp 2) (.tmp 39), _, _, _, _⟩) w.heap.size ?_ 25 (.tmp 2) (.tmp 39) ?_ g2 (nums .u8 (chain l)).toArray ?_ ?_ 25 _ HO4.out 32 info25 HLZ.out HIZ.out (id_all _) HS.out.all.below HS.out.all.ne ?_); rfl; rfl; rfl; rfl; intro wf hf1 hf2 hf3))
          refine ret_row rfl g2 rfl 25 _ _ hf1.out Try.underlying25 rfl 32 info25 HLZ.out rfl ?_
          exact ⟨by rw [HO.out]; rfl, hf3.out⟩
def rh12T : Bool × List (List Nat × List Nat) := (true, [([], []), ([], []), ([], []), ([1, 2], [1, 2]), ([3], [3]), ([0, 4], [0, 4]), ([5], [5]), ([6], [6]), ([6], [6]), ([7, 5, 0, 1, 2, 3, 4, 5, 6, 7], [7])])
def rh12B : List Nat := [0, 0, 0, 6, 14, 31, 63, 127, 127, 255]
theorem rh12tab : rtab .any (opsOf Try.f27 12) = rh12T := by kernel_rfl
theorem rh12bits : waitsOk rh12T.2 rh12B = true := by kernel_rfl
theorem ent_load {W : World} {ad : Addr} {l : List Ent} (h : CE W (some ad) l) (j : Nat) (hj : j < l.length) (x : Ent) (hx : l[j] = x) : (Instr.loadAt 27 (.pointer (some (ad.add (j * 38))))).run Try.prog W = .ok (.agg (cellsOf x).toArray) W := by
  obtain ⟨ad', e, _, _, hl⟩ := ent_at h j hj
  cases e
  rw [← hx]
  exact hl
theorem H1.row {w W : World} {g2 g6 : Nat} {A : Option Addr} {l : List Ent} {h : List Int} (k : H1 w W g2 g6 A l h) (h' : List Int) (hce : CE (W.setRow g6 (nums .u8 h').toArray) A l) : H1 w (W.setRow g6 (nums .u8 h').toArray) g2 g6 A l h' :=
  k.put (setRow_heap W g6 _ _ 25 (0, 0) k.r6) ⟨rfl, rfl, rfl, by simp, fun q hq hne => setRow_other W g6 q _ (fun e => hne (by rw [e]))⟩ (below_setRow k.all.below k.ne.2 _) hce
set_option maxHeartbeats 3200000 in
theorem ref_head_calls (A : Option Addr) (c : Nat) (l : List Ent) (w : World) (hr : CE w A l) (hc : l.length ≤ c) (hw : ∀ x ∈ l, Wf x) :
    Calls Try.prog 27 #[.slice A l.length c] w fun e w' => e = .returned (.tuple #[.agg (nums .u8 (headOut l).1).toArray, .int .i64 (headOut l).2]) ∧ Below w.heap.size w w' := by
  have HS0 := Aside0.mk (H0.start w A l hr)
  have HW := Aside0.mk hw
  have HCE := Aside0.mk hr
  have HIZ := Aside0.mk (id_sz id0_len)
  have hmx := hr.2.1
  have hwa := Sw.size_alloc w (.cells (nums .u8 id0).toArray 25)
  have HS := Aside0.mk (HS0.out.more)
  rw [hwa] at HS
  clear hr hw HS0
  go_enter Try.func27, Try.ntmps27
  go_wp2_with (first | (with_reducible refine op_alloc rfl 25 rfl _ zero25 ?_))
  clear hwa
  generalize (w.alloc (.cells (nums .u8 id0).toArray 25)).alloc (.cells (nums .u8 id0).toArray 25) = W1 at HS ⊢
  generalize w.heap.size + 1 = g4 at HS ⊢
  generalize w.heap.size = g2 at HS ⊢
  go_loopw [5] (fun v wr => ∃ j : Nat, j ≤ l.length ∧ v = .int .i64 j ∧ Aside0 (∀ i (hi : i < l.length), i < j → mayE l[i] = true) ∧ Aside0 (H1 w wr g2 g4 A l (chain (l.take 0)))) (fun v _ => l.length - (intOf v).toNat)
  case atStart => exact ⟨0, by omega, rfl, ⟨fun i _ hi => absurd hi (by omega)⟩, HS⟩
  case round =>
    clear HS
    obtain ⟨j, hj, rfl, HJ, HS⟩ := hrel
    by_cases hlt : j < l.length
    · obtain ⟨ad, rfl, hok, _, hload⟩ := ent_at HS.out.all.ce j hlt
      have HLD := Aside0.mk hload
      have HLT := Aside0.mk hlt
      have hlt' : decide (j < l.length) = true := by simpa using hlt
      have hlt'' : decide ((j : Int) < (l.length : Int)) = true := by simp; omega
      obtain ⟨x, hx⟩ : ∃ x, l[j] = x := ⟨_, rfl⟩
      have HX := Aside0.mk hx
      rw [hx] at HLD hok
      have HOK := Aside0.mk hok
      clear hload hx hok
      by_cases hm : mayE x = true
      · have HM := Aside0.mk hm
        clear hm
        go_wp2_with (first
          | ((with_reducible refine op_load_at (o := ⟨some 16, _, _, _, _, _⟩) ?_ 27 (.tmp 15) ?_ _ (.agg (cellsOf x).toArray) ?_ HLD.out ?_); rfl; rfl; rfl)
          | ((with_reducible refine (ref_may_calls x _ HOK.out).mono ?_); rw [HM.out]; rintro _ W4 ⟨rfl, hb4⟩))
        go_roundw
        case rel => exact ⟨j + 1, by omega, by go_num, ⟨upto_next (p := fun x => mayE x = true) HJ.out HLT.out (by rw [HX.out]; exact HM.out)⟩, ⟨HS.out.step hb4⟩⟩
        case measure => have := HLT.out; simp [intOf]; omega
      · have hm' : mayE x = false := by simpa using hm
        have HM := Aside0.mk hm'
        have HO := Aside0.mk (head_may (may_not HLT.out (by rw [HX.out]; exact hm')))
        clear hm hm'
        go_wp2_with (first
          | ((with_reducible refine op_load_at (o := ⟨some 16, _, _, _, _, _⟩) ?_ 27 (.tmp 15) ?_ _ (.agg (cellsOf x).toArray) ?_ HLD.out ?_); rfl; rfl; rfl)
          | (with_reducible refine op_build rfl 25 _ rfl (nums .u8 id0).toArray (by simp only [List.map_toArray, List.map_nil]; exact built25) ?_)
          | ((with_reducible refine (ref_may_calls x _ HOK.out).mono ?_); rw [HM.out]; rintro _ W4 ⟨rfl, hb4⟩; have HS4 := Aside0.mk (HS.out.step hb4); have HO4 := Aside0.mk (show W4.heap[g2]? = some (.cells (nums .u8 id0).toArray 25 (0, 0)) from HS4.out.all.r2))
          | ((with_reducible refine op_store (w0 := w) (o := ⟨none, .store 25 (.tmp 2) (.tmp 19), _, _, _, _⟩) w.heap.size ?_ 25 (.tmp 2) (.tmp 19) ?_ g2 (nums .u8 id0).toArray ?_ ?_ 25 _ HO4.out 32 info25 HIZ.out HIZ.out (id_all _) HS4.out.all.below HS4.out.all.ne ?_); rfl; rfl; rfl; rfl; intro wf hf1 hf2 hf3))
        refine ret_row rfl g2 rfl 25 _ _ hf1.out Try.underlying25 rfl 32 info25 HIZ.out rfl ?_
        exact ⟨by rw [HO.out]; rfl, hf3.out⟩
    · obtain rfl : j = l.length := by omega
      have HMA := Aside0.mk (may_all HJ.out)
      clear HJ hlt
      go_wp2
      go_loopw [6] (fun v wr => ∃ j : Nat, j ≤ l.length ∧ v = .int .i64 j ∧ Aside0 (∀ i (hi : i < l.length), i < j → l[i].seq = (i : Int)) ∧ Aside0 (H1 w wr g2 g4 A l (chain (l.take j)))) (fun v _ => l.length - (intOf v).toNat)
      case atStart => exact ⟨0, by omega, rfl, ⟨fun i _ hi => absurd hi (by omega)⟩, HS⟩
      case round =>
        clear HS
        obtain ⟨j, hj, rfl, HJ, HS⟩ := hrel
        by_cases hlt : j < l.length
        · obtain ⟨ad, rfl, hok, hn, _⟩ := ent_at HS.out.all.ce j hlt
          have HLT := Aside0.mk hlt
          have hlt' : decide (j < l.length) = true := by simpa using hlt
          have hlt'' : decide ((j : Int) < (l.length : Int)) = true := by simp; omega
          obtain ⟨x, hx⟩ : ∃ x, l[j] = x := ⟨_, rfl⟩
          have HX := Aside0.mk hx
          have HWX := Aside0.mk (hx ▸ HW.out _ (List.getElem_mem hlt))
          rw [hx] at hn hok
          have hn1 : wr.cell? (ad.add (j * 38)) = some (.int .i64 x.seq) := by
            have := hn 0 _ rfl
            rwa [Nat.add_zero] at this
          obtain ⟨hd, hhd⟩ : ∃ hd, chain (l.take j) = hd := ⟨_, rfl⟩
          have HHD := Aside0.mk hhd
          have HHO := Aside0.mk (hhd ▸ (⟨chain_len _, chain_by _⟩ : (chain (l.take j)).length = 32 ∧ By (chain (l.take j))))
          have HDZ := Aside0.mk (id_sz HHO.out.1)
          rw [hhd] at HS
          clear hx hok hhd hn
          by_cases hs : x.seq = (j : Int)
          · have hq : (x.seq == (j : Int)) = true := by simpa using hs
            have hq2 : (x.seq != (j : Int)) = false := by simpa using hs
            have HSQ := Aside0.mk hs
            clear hs
            go_upto_region 12 with (fail)
            clear hn1 hq hq2
            refine start_ (n := 10) (S := (fun W_ => H1 w W_ g2 g4 (some ad) l hd)) (ds := [9]) #[false, false, false, false, false, false, false, false, false, false] (by kernel_rfl) rfl rfl (HS.out.step (below_drew1 (Below.refl _ _))) (fun hHeld => ?_); refine with_tabW rh12tab rh12bits (fun HT_ HW_ => ?_)
            clear HS; generalize World.drew _ = wq at hHeld ⊢
            refine take_ (i := 0) (N := some 35) (v := (.agg (nums .u8 hd).toArray)) (a' := ?_) #[true, false, false, false, false, false, false, false, false, false] rfl rfl (take_ofW HT_.out HW_.out (by kernel_rfl)) (fun _ _ _ h => h) (Or.inl ⟨by rfl, fun w' hw' => load_run rfl rfl (load_id hw'.r6 HHO.out.1)⟩) hHeld ?_ ?_
            rotate_left
            · simp only [Act.put, List.setIfInBounds_toArray, List.set_cons_zero, List.set_cons_succ, i64_w, i32_w]
              rfl
            refine pure_ (i := 1) (N := some 36) (v := ?_) (a' := ?_) #[true, true, false, false, false, false, false, false, false, false] rfl rfl (any_of HT_.out (by kernel_rfl)) (fun _ _ _ h => h) (Or.inl ⟨by rfl, ?_⟩) ?_ ?_
            rotate_left
            · intro w'
              go_simp
              with_reducible rfl
            rotate_left
            · simp only [Act.put, List.setIfInBounds_toArray, List.set_cons_zero, List.set_cons_succ, i64_w, i32_w]
              rfl
            refine pure_ (i := 2) (N := some 37) (v := ?_) (a' := ?_) #[true, true, true, false, false, false, false, false, false, false] rfl rfl (any_of HT_.out (by kernel_rfl)) (fun _ _ _ h => h) (Or.inl ⟨by rfl, ?_⟩) ?_ ?_
            rotate_left
            · intro w'
              go_simp
              with_reducible rfl
            rotate_left
            · simp only [Act.put, List.setIfInBounds_toArray, List.set_cons_zero, List.set_cons_succ, i64_w, i32_w]
              rfl
            refine pure_ (i := 3) (N := some 38) (v := ?_) (a' := ?_) #[true, true, true, true, false, false, false, false, false, false] rfl rfl (any_of HT_.out (by kernel_rfl)) (fun _ _ _ h => h) (Or.inl ⟨by rfl, ?_⟩) ?_ ?_
            rotate_left
            · intro w'
              go_simp
              with_reducible rfl
            rotate_left
            · simp only [Act.put, List.setIfInBounds_toArray, List.set_cons_zero, List.set_cons_succ, i64_w, i32_w]
              rfl
            refine take_ (i := 4) (N := some 39) (v := (.agg (cellsOf x).toArray)) (a' := ?_) #[true, true, true, true, true, false, false, false, false, false] rfl rfl (take_ofW HT_.out HW_.out (by kernel_rfl)) (fun _ _ _ h => h) (Or.inl ⟨by rfl, fun w' hw' => load_run rfl rfl (ent_load hw'.all.ce j HLT.out x HX.out)⟩) hHeld ?_ ?_
            rotate_left
            · simp only [Act.put, List.setIfInBounds_toArray, List.set_cons_zero, List.set_cons_succ, i64_w, i32_w]
              rfl
            refine one_ (i := 5) (N := some 40) #[true, true, true, true, true, true, false, false, false, false] rfl rfl (one_of HT_.out (by kernel_rfl)) (by decide) (fun K hK => ?_)
            refine goes_ Try.func19 (by kernel_rfl) rfl #[.agg (nums .u8 hd).toArray, .agg (cellsOf x).toArray] (by rfl) rfl rfl (by (try simp only [List.map_toArray, List.map_cons, List.map_nil]); first | done | rfl) ?_
            refine (ref_link_calls hd x _ HWX.out HHO.out.1 HHO.out.2).mono ?_
            rintro ep W4 ⟨rfl, hb4⟩; refine ⟨_, rfl, ?_⟩
            have HS4 := Aside0.mk (hHeld.step hb4)
            clear hb4
            refine hK.out _ _ (HS4.out) (fun hHeld => ?_)
            clear hK K
            refine norm_ (a' := ?_) ?_ ?_
            rotate_left
            · show Act.put _ (some 40) _ = _
              simp only [Act.put, List.setIfInBounds_toArray, List.set_cons_zero, List.set_cons_succ, i64_w, i32_w]
              rfl
            clear HS4
            refine pure_ (i := 6) (N := some 34) (v := ?_) (a' := ?_) #[true, true, true, true, true, true, true, false, false, false] rfl rfl (any_of HT_.out (by kernel_rfl)) (fun _ _ _ h => h) (Or.inl ⟨by rfl, ?_⟩) ?_ ?_
            rotate_left
            · intro w'
              go_simp
              with_reducible rfl
            rotate_left
            · simp only [Act.put, List.setIfInBounds_toArray, List.set_cons_zero, List.set_cons_succ, i64_w, i32_w]
              rfl
            refine pure_ (i := 7) (N := some 41) (v := ?_) (a' := ?_) #[true, true, true, true, true, true, true, true, false, false] rfl rfl (any_of HT_.out (by kernel_rfl)) (fun _ _ _ h => h) (Or.inl ⟨by rfl, ?_⟩) ?_ ?_
            rotate_left
            · intro w'
              go_simp
              with_reducible rfl
            rotate_left
            · simp only [Act.put, List.setIfInBounds_toArray, List.set_cons_zero, List.set_cons_succ, i64_w, i32_w]
              rfl
            refine pure_ (i := 8) (N := some 42) (v := ?_) (a' := ?_) #[true, true, true, true, true, true, true, true, true, false] rfl rfl (any_of HT_.out (by kernel_rfl)) (fun _ _ _ h => h) (Or.inl ⟨by rfl, ?_⟩) ?_ ?_
            rotate_left
            · intro w'
              go_simp
              with_reducible rfl
            rotate_left
            · simp only [Act.put, List.setIfInBounds_toArray, List.set_cons_zero, List.set_cons_succ, i64_w, i32_w]
              rfl
            refine last_ (i := 9) (N := none) #[true, true, true, true, true, true, true, true, true, true] rfl rfl (one_of HT_.out (by kernel_rfl)) (by decide) (fun K hK => ?_)
            refine skip_ (w1 := W4.setRow g4 (nums .u8 (linkOut hd x).1).toArray) (by rfl) rfl (by exact store_run _ 25 (.tmp 4) (.tmp 41) rfl g4 _ rfl rfl 25 _ hHeld.r6 32 info25 (id_sz (link_len hd x)) HDZ.out (id_all _)) ?_
            refine hK.out _ _ ?_
            clear hK K
            have HQ := Aside0.mk (hHeld.row (linkOut hd x).1 (Kd.C_below HCE.out (below_setRow hHeld.all.below hHeld.ne.2 _)))
            generalize World.setRow _ _ _ = wz at HQ ⊢
            refine done_ (done_of HT_.out (by kernel_rfl)) ?_
            clear hHeld HT_ HW_
            go_wp2
            go_roundw
            case rel => exact ⟨j + 1, by omega, by go_num, ⟨upto_seq HJ.out HLT.out (by rw [HX.out]; exact HSQ.out)⟩, ⟨by rw [chain_next _ _ HLT.out, HHD.out, HX.out]; exact HQ.out⟩⟩
            case measure => have := HLT.out; simp [intOf]; omega
          · have hq : (x.seq == (j : Int)) = false := by simpa using hs
            have hq2 : (x.seq != (j : Int)) = true := by simpa using hs
            have HO := Aside0.mk (head_seq HMA.out (seq_not HLT.out (by rw [HX.out]; exact hs)))
            have HO4 := Aside0.mk (show wr.heap[g2]? = some (.cells (nums .u8 id0).toArray 25 (0, 0)) from HS.out.all.r2)
            clear hs
            go_wp2_with (first
              | (with_reducible refine op_build rfl 25 _ rfl (nums .u8 id0).toArray (by simp only [List.map_toArray, List.map_nil]; exact built25) ?_)
              | ((with_reducible refine op_store (w0 := w) (o := ⟨none, .store 25 (.tmp 2) (.tmp 33), _, _, _, _⟩) w.heap.size ?_ 25 (.tmp 2) (.tmp 33) ?_ g2 (nums .u8 id0).toArray ?_ ?_ 25 _ HO4.out 32 info25 HIZ.out HIZ.out (id_all _) HS.out.all.below HS.out.all.ne ?_); rfl; rfl; rfl; rfl; intro wf hf1 hf2 hf3))
            refine ret_row rfl g2 rfl 25 _ _ hf1.out Try.underlying25 rfl 32 info25 HIZ.out rfl ?_
            exact ⟨by rw [HO.out]; rfl, hf3.out⟩
        · obtain rfl : j = l.length := by omega
          have HO := Aside0.mk (head_yes HMA.out (seq_all HJ.out))
          have HI6 := Aside0.mk (show wr.heap[g4]? = some (.cells (nums .u8 (chain l)).toArray 25 (0, 0)) from by have := HS.out.r6; rw [List.take_length] at this; exact this)
          have HO4 := Aside0.mk (show wr.heap[g2]? = some (.cells (nums .u8 id0).toArray 25 (0, 0)) from HS.out.all.r2)
          have HLZ := Aside0.mk (id_sz (chain_len l))
          clear hlt HJ
          go_wp2_with (first
            | (with_reducible refine op_load rfl 25 _ rfl g4 rfl 25 _ _ HI6.out Try.underlying25 rfl 32 info25 HLZ.out ?_)
            | ((with_reducible refine op_store (w0 := w) (o := ⟨none, .store 25 (.tmp 2) (.tmp 43), _, _, _, _⟩) w.heap.size ?_ 25 (.tmp 2) (.tmp 43) ?_ g2 (nums .u8 (chain l)).toArray ?_ ?_ 25 _ HO4.out 32 info25 HLZ.out HIZ.out (id_all _) HS.out.all.below HS.out.all.ne ?_); rfl; rfl; rfl; rfl; intro wf hf1 hf2 hf3))
          refine ret_row rfl g2 rfl 25 _ _ hf1.out Try.underlying25 rfl 32 info25 HLZ.out rfl ?_
          exact ⟨by rw [HO.out]; rfl, hf3.out⟩
end Go.Proofs.Ytgpgblidplmchaa.Hd
namespace Go.Proofs.Ytgpgblidplmchaa.Ex
open Go.RowKit Go.Proofs.YtgpgblidplmchaaW.PrintWords Go.Proofs.YtgpgblidplmchaaW.PrintLast Go.Proofs.YtgpgblidplmchaaW.PrintMore
open Ag En Spc OctA OctC Eb Eh Ek Lk Hd Spw
set_option linter.unusedVariables false
set_option linter.unusedSimpArgs false
set_option maxRecDepth 100000
def body (l : List Ent) : List Int := l.flatMap bytesE
def full (l : List Ent) : List Int := [76, 49] ++ be 8 l.length ++ body l
def expOut (l : List Ent) : List Int × Int := if (headOut l).2 = 0 then (full l, 0) else ([], (headOut l).2)
theorem body_snoc (l : List Ent) (x : Ent) : body (l ++ [x]) = body l ++ bytesE x := by unfold body; simp
theorem body_next (l : List Ent) (j : Nat) (hj : j < l.length) : body (l.take (j + 1)) = body (l.take j) ++ bytesE l[j] := by
  rw [List.take_succ_eq_append_getElem hj, body_snoc]
theorem head_zero {l : List Ent} (h : (headOut l).2 = 0) : l.all mayE = true ∧ seqB l = true ∧ (headOut l).1 = chain l := by
  unfold headOut at h ⊢
  by_cases h1 : l.all mayE = true
  · rw [if_pos h1] at h ⊢
    by_cases h2 : seqB l = true
    · rw [if_pos h2]; exact ⟨h1, h2, rfl⟩
    · rw [if_neg h2] at h; simp at h
  · rw [if_neg h1] at h; simp at h
theorem head_len (l : List Ent) : (headOut l).1.length = 32 := by
  unfold headOut
  split
  · split
    · exact chain_len l
    · exact id0_len
  · exact id0_len
theorem body_len {l : List Ent} (h : l.all mayE = true) (hw : ∀ x ∈ l, Wf x) : ∀ j, j ≤ l.length → (body (l.take j)).length ≤ 76 * j
  | 0, _ => by simp [body]
  | j + 1, hj => by
    have := body_len h hw j (by omega)
    have hm := List.all_eq_true.1 h _ (List.getElem_mem (show j < l.length by omega))
    have ht := (may_parts hm).2.2.2.2.2.2
    have hl := bytesE_len (hw _ (List.getElem_mem (show j < l.length by omega))).1
    rw [body_next l j (by omega), List.length_append]
    omega
theorem put_f (n : Nat) (hn : n ≤ 100000) : POct.octet_Put.f 40 [76, 49] (n : Int) 8 = some ([76, 49] ++ be 8 n, 0) := by
  have := put_int 40 [76, 49] (n : Int) 8 (by omega) (by omega) (by omega) (by omega) (by simp) (by omega)
  simpa using this
set_option maxHeartbeats 3200000 in
theorem export_calls (A : Option Addr) (c : Nat) (l : List Ent) (w : World) (hr : CE w A l) (hc : l.length ≤ c) (hw : ∀ x ∈ l, Wf x) (hl : l.length ≤ 100000) :
    Calls Try.prog 28 #[.slice A l.length c] w fun e w' => ∃ v, e = .returned (.tuple #[v, .int .i64 (expOut l).2]) ∧ RB w' w.heap.size v (expOut l).1 ∧ Below w.heap.size w w' := by
  have kc := fun (w : World) (C : Array Value) (n c : Nat) => Lib.run_convert_bytes_const (P := Try.prog) w 37 5 C n c Try.underlying37 Try.underlying5
  have HR := Aside0.mk hr; have HW := Aside0.mk hw; have HL := Aside0.mk hl
  have HZ := Aside0.mk (id_sz (head_len l))
  have hmx := hr.2.1
  obtain ⟨he, hhe⟩ : ∃ h, (headOut l).2 = h := ⟨_, rfl⟩
  have HHE := Aside0.mk hhe
  have HCL := Aside0.mk (hhe ▸ fun W (h : CE W A l) => head_calls A c l W h hc hw)
  clear hr hw hhe
  go_enter Try.func28, Try.ntmps28
  go_upto_region 2 with (first
    | ((with_reducible refine (HCL.out _ HR.out).mono ?_); rintro _ w1 ⟨rfl, hb1⟩; obtain ⟨g4, hg4⟩ : ∃ g, w1.heap.size = g := ⟨_, rfl⟩; have HG4 := Aside0.mk hg4; have HN4 := Aside0.mk (hg4 ▸ heap_alloc_new w1 (.cells (nums .u8 id0).toArray 25) : (w1.alloc (.cells (nums .u8 id0).toArray 25)).heap[g4]? = some (.cells (nums .u8 id0).toArray 25 (0, 0))); have HB1 := Aside0.mk (hb1.alloc hb1.size (.cells (nums .u8 id0).toArray 25)); have HL4 := Aside0.mk (hg4 ▸ hb1.size); clear hg4)
    | ((with_reducible refine op_alloc rfl 25 rfl _ zero25 ?_); simp only [HG4.out])
    | ((with_reducible refine op_store (w0 := w) (o := ⟨none, .store 25 (.tmp 4) (.tmp 15), _, _, _, _⟩) w.heap.size ?_ 25 (.tmp 4) (.tmp 15) ?_ g4 (nums .u8 (headOut l).1).toArray ?_ ?_ 25 _ HN4.out 32 info25 HZ.out (id_sz id0_len) (id_all _) HB1.out HL4.out ?_); rfl; rfl; rfl; rfl; intro w2 h1 h2 h3))
  have HB2 := Aside0.mk h3.out
  clear h1 h2 h3 hb1 HB1 HN4 HG4 HL4
  by_cases hz : he = 0
  rotate_left
  · have hq : (he == 0) = false := by simpa using hz
    have hq2 : (he != 0) = true := by simpa using hz
    have HO := Aside0.mk (show expOut l = ([], he) from by unfold expOut; rw [HHE.out, if_neg hz])
    clear hz
    go_wp2
    go_ret2
    exact ⟨_, by rw [HO.out]; rfl, by rw [HO.out]; exact RB.of_own (own_nil _ _ _ _), HB2.out⟩
  subst hz
  have HO := Aside0.mk (show expOut l = (full l, 0) from by unfold expOut; rw [HHE.out, if_pos rfl])
  have HM := Aside0.mk (head_zero HHE.out).1
  have hlit := Aside0.mk (lit_const w2 76 49 (2, 3))
  have HBl := Aside0.mk (HB2.out.alloc HB2.out.size (.cells #[.int .u8 76, .int .u8 49] 5 (2, 3)))
  have hl1 : l.length ≤ 100000 := HL.out
  have HF := Aside0.mk (put_f l.length hl1)
  go_wp2_with fail
  refine (POct.octet_Put.calls 40 _ 2 [76, 49] l.length 8 _ 0 _ hlit.out (by simp) HF.out).mono ?_
  rintro e3 w3 ⟨v3, rfl, ho3, hb3⟩
  have HB3 := Aside0.mk (below_step HBl.out hb3)
  have HO3 := Aside0.mk (Kd.R_lower ho3 HBl.out.size)
  obtain ⟨A3, c3, rfl, _, _⟩ := Kd.R_reads HO3.out
  obtain ⟨z3, hz3⟩ : ∃ z, [76, 49] ++ be 8 l.length = z := ⟨_, rfl⟩
  have HZ3 := Aside0.mk hz3
  rw [hz3] at HO3 ⊢
  clear hz3
  clear ho3 hb3 hlit HBl HB2
  go_wp2_with fail
  have HZL := Aside0.mk (show z3.length = 10 from by rw [← HZ3.out]; simp [be_length])
  have HZ0 := Aside0.mk (show z3 = z3 ++ body (l.take 0) from by simp [body])
  go_loopw [6, 31] (fun vb u wr => ∃ (j : Nat) (zs : List Int) (A4 : Option Addr) (c4 : Nat), j ≤ l.length ∧ vb = .slice A4 zs.length c4 ∧ u = .int .i64 j ∧ Aside0 (zs = z3 ++ body (l.take j)) ∧ Aside0 (RB wr w.heap.size (.slice A4 zs.length c4) zs) ∧ Aside0 (Below w.heap.size w wr)) (fun _ u _ => l.length - (intOf u).toNat)
  case atStart => exact ⟨0, z3, A3, c3, by omega, rfl, rfl, HZ0, HO3, HB3⟩
  case round =>
    clear HO3 HB3 HZ0
    obtain ⟨j, zs, A4, c4, hj, rfl, rfl, HZS, HOS, HB⟩ := hrel
    have HCE := Aside0.mk (Kd.C_below HR.out HB.out)
    by_cases hlt : j < l.length
    · obtain ⟨ad, rfl, hok, _, hload⟩ := ent_at HCE.out j hlt
      have HLD := Aside0.mk hload
      have HLT := Aside0.mk hlt
      have hlt' : decide (j < l.length) = true := by simpa using hlt
      have hlt'' : decide ((j : Int) < (l.length : Int)) = true := by simp; omega
      obtain ⟨x, hx⟩ : ∃ x, l[j] = x := ⟨_, rfl⟩
      have HX := Aside0.mk hx
      have HWX := Aside0.mk (hx ▸ HW.out _ (List.getElem_mem hlt))
      have HMX := Aside0.mk (hx ▸ List.all_eq_true.1 HM.out _ (List.getElem_mem hlt))
      rw [hx] at HLD hok
      have HCZ := Aside0.mk (cells_sz hok)
      have HSL := Aside0.mk (show zs.length + (bytesE x).length ≤ 140737488355328 from by have h1 := body_len HM.out HW.out j hj; have h2 := HZL.out; have h3 := HL.out; have h4 := bytesE_len HWX.out.1; have h5 := (may_parts HMX.out).2.2.2.2.2.2; rw [HZS.out, List.length_append]; omega)
      clear hload hx hok
      obtain ⟨g9, hg9⟩ : ∃ g, wr.heap.size = g := ⟨_, rfl⟩
      have HG9 := Aside0.mk hg9
      have HN9 := Aside0.mk (hg9 ▸ heap_alloc_new wr (.cells (cellsOf ent0).toArray 27) : (wr.alloc (.cells (cellsOf ent0).toArray 27)).heap[g9]? = some (.cells (cellsOf ent0).toArray 27 (0, 0)))
      have HB9 := Aside0.mk (show Below g9 (wr.alloc (.cells (cellsOf ent0).toArray 27)) (wr.alloc (.cells (cellsOf ent0).toArray 27)) from Below.refl _ _)
      clear hg9
      go_wp2_with (first
        | ((with_reducible refine op_load_at (o := ⟨some 34, _, _, _, _, _⟩) ?_ 27 (.tmp 33) ?_ _ (.agg (cellsOf x).toArray) ?_ HLD.out ?_); rfl; rfl; rfl)
        | ((with_reducible refine op_alloc rfl 27 rfl _ zero27 ?_); simp only [HG9.out])
        | ((with_reducible refine op_store (w0 := wr.alloc (.cells (cellsOf ent0).toArray 27)) (o := ⟨none, .store 27 (.tmp 9) (.tmp 34), _, _, _, _⟩) g9 ?_ 27 (.tmp 9) (.tmp 34) ?_ g9 (cellsOf x).toArray ?_ ?_ 27 _ HN9.out 38 info27 HCZ.out (cells_sz ok0) (cells_all _) HB9.out (Nat.le_refl _) ?_); rfl; rfl; rfl; rfl; intro W3 h1 h2 h3; have HB3 := Aside0.mk (made_ent (x := x) HG9.out h3.out))
        | (with_reducible refine op_load rfl 27 _ rfl g9 rfl 27 _ _ h1.out Try.underlying27 rfl 38 info27 HCZ.out ?_)
        | ((with_reducible refine (bytes_yes x _ HWX.out HMX.out).mono ?_); rintro _ W4 ⟨v, rfl, hr4, hb4⟩; obtain ⟨A5, c5, rfl, hc5, hC5⟩ := Kd.R_reads hr4; have HB4 := Aside0.mk (HB3.out.trans (hb4.mono HB3.out.size)); have HO4 := Aside0.mk (Kd.R_below HOS.out HB4.out); have HBB := Aside0.mk (HB.out.trans (HB4.out.mono HB.out.size)); have HC5 := Aside0.mk hC5; clear hr4 hb4 hc5 hC5)
        | (at_builtin; refine app_row (w0 := w) w.heap.size rfl (.tmp 40) (.tmp 41) 37 rfl Try.underlying37 POct.info5 _ zs (bytesE x) A5 c5 rfl rfl HO4.out HC5.out HBB.out HBB.out.size HSL.out ?_; intro z5 A6 c6 W5 hz5 hc6 HO5 HB5; clear HO4 HC5 HBB HB4))
      go_roundw
      case rel => exact ⟨j + 1, z5, A6, c6, by omega, rfl, by go_num, ⟨by rw [hz5.out, HZS.out, body_next l j HLT.out, HX.out, List.append_assoc]⟩, HO5, HB5⟩
      case measure => have := HLT.out; simp [intOf]; omega
    · obtain rfl : j = l.length := by omega
      have HFN := Aside0.mk (show zs = full l from by rw [HZS.out, List.take_length, ← HZ3.out]; rfl)
      clear hlt
      go_wp2
      go_ret2
      exact ⟨_, by rw [HO.out]; rfl, by rw [HO.out, ← HFN.out]; exact HOS.out, HB.out⟩
set_option maxHeartbeats 3200000 in
theorem ref_export_calls (A : Option Addr) (c : Nat) (l : List Ent) (w : World) (hr : CE w A l) (hc : l.length ≤ c) (hw : ∀ x ∈ l, Wf x) (hl : l.length ≤ 100000) :
    Calls Try.prog 29 #[.slice A l.length c] w fun e w' => ∃ v, e = .returned (.tuple #[v, .int .i64 (expOut l).2]) ∧ RB w' w.heap.size v (expOut l).1 ∧ Below w.heap.size w w' := by
  have kc := fun (w : World) (C : Array Value) (n c : Nat) => Lib.run_convert_bytes_const (P := Try.prog) w 37 5 C n c Try.underlying37 Try.underlying5
  have HR := Aside0.mk hr; have HW := Aside0.mk hw; have HL := Aside0.mk hl
  have HZ := Aside0.mk (id_sz (head_len l))
  have hmx := hr.2.1
  obtain ⟨he, hhe⟩ : ∃ h, (headOut l).2 = h := ⟨_, rfl⟩
  have HHE := Aside0.mk hhe
  have HCL := Aside0.mk (hhe ▸ fun W (h : CE W A l) => ref_head_calls A c l W h hc hw)
  clear hr hw hhe
  go_enter Try.func29, Try.ntmps29
  go_upto_region 2 with (first
    | ((with_reducible refine (HCL.out _ HR.out).mono ?_); rintro _ w1 ⟨rfl, hb1⟩; obtain ⟨g4, hg4⟩ : ∃ g, w1.heap.size = g := ⟨_, rfl⟩; have HG4 := Aside0.mk hg4; have HN4 := Aside0.mk (hg4 ▸ heap_alloc_new w1 (.cells (nums .u8 id0).toArray 25) : (w1.alloc (.cells (nums .u8 id0).toArray 25)).heap[g4]? = some (.cells (nums .u8 id0).toArray 25 (0, 0))); have HB1 := Aside0.mk (hb1.alloc hb1.size (.cells (nums .u8 id0).toArray 25)); have HL4 := Aside0.mk (hg4 ▸ hb1.size); clear hg4)
    | ((with_reducible refine op_alloc rfl 25 rfl _ zero25 ?_); simp only [HG4.out])
    | ((with_reducible refine op_store (w0 := w) (o := ⟨none, .store 25 (.tmp 4) (.tmp 13), _, _, _, _⟩) w.heap.size ?_ 25 (.tmp 4) (.tmp 13) ?_ g4 (nums .u8 (headOut l).1).toArray ?_ ?_ 25 _ HN4.out 32 info25 HZ.out (id_sz id0_len) (id_all _) HB1.out HL4.out ?_); rfl; rfl; rfl; rfl; intro w2 h1 h2 h3))
  have HB2 := Aside0.mk h3.out
  clear h1 h2 h3 hb1 HB1 HN4 HG4 HL4
  by_cases hz : he = 0
  rotate_left
  · have hq : (he == 0) = false := by simpa using hz
    have hq2 : (he != 0) = true := by simpa using hz
    have HO := Aside0.mk (show expOut l = ([], he) from by unfold expOut; rw [HHE.out, if_neg hz])
    clear hz
    go_wp2
    go_ret2
    exact ⟨_, by rw [HO.out]; rfl, by rw [HO.out]; exact RB.of_own (own_nil _ _ _ _), HB2.out⟩
  subst hz
  have HO := Aside0.mk (show expOut l = (full l, 0) from by unfold expOut; rw [HHE.out, if_pos rfl])
  have HM := Aside0.mk (head_zero HHE.out).1
  have hlit := Aside0.mk (lit_const w2 76 49 (2, 3))
  have HBl := Aside0.mk (HB2.out.alloc HB2.out.size (.cells #[.int .u8 76, .int .u8 49] 5 (2, 3)))
  have hl1 : l.length ≤ 100000 := HL.out
  have h8 : (be 8 l.length).length = 8 := be_length _ _
  have HF := Aside0.mk (show POct.cofferref1_Eight.f 40 (l.length : Int) = some (be 8 l.length) from by have := Erb.eight_f (l.length : Int) (by omega) (by omega); simpa using this)
  obtain ⟨z8, hz8⟩ : ∃ z, be 8 l.length = z := ⟨_, rfl⟩
  rw [hz8] at HF h8
  have H8 := Aside0.mk h8
  clear h8
  go_wp2_with fail
  refine (POct.cofferref1_Eight.calls 40 l.length z8 _ HF.out).mono ?_
  rintro e3 w3 ⟨v3, rfl, ho3, hb3⟩
  obtain ⟨A8, c8, rfl, hc8, hC8⟩ := Kd.R_reads ho3
  have HB3 := Aside0.mk (below_step HBl.out hb3)
  have HC8 := Aside0.mk hC8
  have HC2 := Aside0.mk (Kd.C_below hlit.out hb3)
  have H3S := Aside0.mk (show Below w.heap.size w w3 ∧ w.heap.size ≤ w3.heap.size from ⟨HB3.out, HB3.out.size⟩)
  clear ho3 hb3 hc8 hC8 hlit HBl HB2
  go_wp2_with (at_builtin; refine app_grows (w0 := w) w.heap.size rfl (.tmp 19) (.tmp 23) 37 rfl Try.underlying37 POct.info5 [76, 49] z8 (some ⟨w2.heap.size, 0, none⟩) 2 A8 c8 rfl rfl HC2.out (fun h => by cases h) HC8.out (by have := H8.out; simp; omega) (by have := H8.out; omega) HB3.out HB3.out.size (by have := H8.out; simp; omega) ?_; intro z3 A3 c3 w4 hz3 hc3 HO3 HB4)
  have HZ3 := Aside0.mk (show [76, 49] ++ be 8 l.length = z3 from by rw [hz3.out, hz8])
  clear HB3 HC8 HC2 H3S hz3 hc3 hz8
  try simp only [Act.put, List.setIfInBounds_toArray, List.set_cons_zero, List.set_cons_succ]
  have HZL := Aside0.mk (show z3.length = 10 from by rw [← HZ3.out]; simp [be_length])
  have HZ0 := Aside0.mk (show z3 = z3 ++ body (l.take 0) from by simp [body])
  go_loopw [6, 7] (fun vb u wr => ∃ (j : Nat) (zs : List Int) (A4 : Option Addr) (c4 : Nat), j ≤ l.length ∧ vb = .slice A4 zs.length c4 ∧ u = .int .i64 j ∧ Aside0 (zs = z3 ++ body (l.take j)) ∧ Aside0 (RB wr w.heap.size (.slice A4 zs.length c4) zs) ∧ Aside0 (Below w.heap.size w wr)) (fun _ u _ => l.length - (intOf u).toNat)
  case atStart => exact ⟨0, z3, A3, c3, by omega, rfl, rfl, HZ0, HO3, HB4⟩
  case round =>
    clear HO3 HB4 HZ0
    obtain ⟨j, zs, A4, c4, hj, rfl, rfl, HZS, HOS, HB⟩ := hrel
    have HCE := Aside0.mk (Kd.C_below HR.out HB.out)
    by_cases hlt : j < l.length
    · obtain ⟨ad, rfl, hok, _, hload⟩ := ent_at HCE.out j hlt
      have HLD := Aside0.mk hload
      have HLT := Aside0.mk hlt
      have hlt' : decide (j < l.length) = true := by simpa using hlt
      have hlt'' : decide ((j : Int) < (l.length : Int)) = true := by simp; omega
      obtain ⟨x, hx⟩ : ∃ x, l[j] = x := ⟨_, rfl⟩
      have HX := Aside0.mk hx
      have HWX := Aside0.mk (hx ▸ HW.out _ (List.getElem_mem hlt))
      have HMX := Aside0.mk (hx ▸ List.all_eq_true.1 HM.out _ (List.getElem_mem hlt))
      rw [hx] at HLD hok
      have HCZ := Aside0.mk (cells_sz hok)
      have HSL := Aside0.mk (show zs.length + (bytesE x).length ≤ 140737488355328 from by have h1 := body_len HM.out HW.out j hj; have h2 := HZL.out; have h3 := HL.out; have h4 := bytesE_len HWX.out.1; have h5 := (may_parts HMX.out).2.2.2.2.2.2; rw [HZS.out, List.length_append]; omega)
      clear hload hx hok
      go_wp2_with (first
        | ((with_reducible refine op_load_at (o := ⟨some 35, _, _, _, _, _⟩) ?_ 27 (.tmp 34) ?_ _ (.agg (cellsOf x).toArray) ?_ HLD.out ?_); rfl; rfl; rfl)
        | ((with_reducible refine (Erb.ref_bytes_yes x _ HWX.out HMX.out).mono ?_); rintro _ W4 ⟨v, rfl, hr4, hb4⟩; obtain ⟨A5, c5, rfl, hc5, hC5⟩ := Kd.R_reads hr4; have HO4 := Aside0.mk (Kd.R_below HOS.out hb4); have HBB := Aside0.mk (HB.out.trans (hb4.mono HB.out.size)); have HC5 := Aside0.mk hC5; clear hr4 hb4 hc5 hC5)
        | (at_builtin; refine app_row (w0 := w) w.heap.size rfl (.tmp 39) (.tmp 40) 37 rfl Try.underlying37 POct.info5 _ zs (bytesE x) A5 c5 rfl rfl HO4.out HC5.out HBB.out HBB.out.size HSL.out ?_; intro z5 A6 c6 W5 hz5 hc6 HO5 HB5; clear HO4 HC5 HBB))
      go_roundw
      case rel => exact ⟨j + 1, z5, A6, c6, by omega, rfl, by go_num, ⟨by rw [hz5.out, HZS.out, body_next l j HLT.out, HX.out, List.append_assoc]⟩, HO5, HB5⟩
      case measure => have := HLT.out; simp [intOf]; omega
    · obtain rfl : j = l.length := by omega
      have HFN := Aside0.mk (show zs = full l from by rw [HZS.out, List.take_length, ← HZ3.out]; rfl)
      clear hlt
      go_wp2
      go_ret2
      exact ⟨_, by rw [HO.out]; rfl, by rw [HO.out, ← HFN.out]; exact HOS.out, HB.out⟩
end Go.Proofs.Ytgpgblidplmchaa.Ex
