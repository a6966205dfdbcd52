/- The document's sum: the text made full, block by block. The document's Of: the sum of two parts, one behind the other. The program's sum is the document's: the same number of the same bytes. -/
import Derived.Test.YtgpgblidplmchaaSc
import Derived.Test.YtgpgblidplmchaaSb
namespace Go.Proofs.Ytgpgblidplmchaa.Srs
open Go.RowKit Go.Proofs.YtgpgblidplmchaaW.PrintWords Go.Proofs.YtgpgblidplmchaaW.PrintLast Go.Proofs.YtgpgblidplmchaaW.PrintMore
open Ag POct Sw Sk Sm Sx Sq Srb Ssm Spw
set_option linter.unusedVariables false
set_option linter.unusedSimpArgs false
set_option maxRecDepth 100000
def zero81 : List Int := List.replicate 64 0
theorem z81' : (Try.prog.info? 81).map (·.zero) = some (some (.agg (nums .u64 zero81).toArray)) := z81
theorem key64B : Try.prog.built 81 ((List.range 64).zip (nums .u64 keyL)) = some (nums .u64 keyL).toArray := by kernel_rfl
theorem ini64B : Try.prog.built 83 ((List.range 8).zip (nums .u64 iniL)) = some (nums .u64 iniL).toArray := by kernel_rfl
set_option maxHeartbeats 4000000 in
theorem keys_calls (w : World) : Calls Try.prog 50 #[] w fun e w' => e = .returned (.agg (nums .u64 keyL).toArray) ∧ Below w.heap.size w w' := by
  have HB0 := Aside0.mk ((Below.refl w.heap.size w).alloc (Nat.le_refl _) (.cells (nums .u64 zero81).toArray 81))
  have HG0 := Aside0.mk (alloc_Rw (k := .u64) (T := 81) w zero81)
  have HS := Aside0.mk (show (nums .u64 keyL).toArray.size = 64 from rfl)
  go_enter Try.func50, Try.ntmps50
  go_wp2_with (first | (with_reducible refine op_alloc rfl 81 rfl _ z81' ?_) | (with_reducible refine op_build rfl 81 _ rfl (nums .u64 keyL).toArray (by rw [List.map_toArray]; exact key64B) ?_) | (refine op_store (w0 := w) w.heap.size rfl 81 (.tmp 0) (.tmp 1) rfl w.heap.size (nums .u64 keyL).toArray rfl rfl 81 _ HG0.out 64 sz81 HS.out (by simp [nums, zero81]) (nums_all _ _) HB0.out (Nat.le_refl _) ?_; intro wf hf1 hf2 hf3))
  refine ret_cell rfl w.heap.size rfl 81 _ _ hf1.out Try.underlying81 rfl 64 sz81 HS.out rfl ?_
  exact ⟨rfl, hf3.out⟩
/-- the text made full -/
def padded (bs : List Int) : List Int := bs ++ tl ((119 - bs.length % 64) % 64) ++ be8 bs.length
def chunk (P : List Int) (k : Nat) : List Int := (P.drop (64 * k)).take 64
/-- the state behind k blocks -/
def stN (P : List Int) : Nat → List Int
  | 0 => iniL
  | k + 1 => blk (stN P k) (sched (chunk P k) 0)
def refB (bs : List Int) : List Int := outB (stN (padded bs) ((padded bs).length / 64))
structure K0 (w W : World) (g2 g3 : Nat) : Prop where
  below : Below w.heap.size w W
  r2 : Rw .u8 25 W g2 zero25
  r3 : Rw .u64 81 W g3 keyL
  ne : g2 < W.heap.size ∧ g3 < W.heap.size ∧ g2 ≠ g3 ∧ w.heap.size ≤ g2 ∧ w.heap.size ≤ g3
theorem K0.made {w W1 W2 : World} {g3 : Nat} (hb : Below (w.alloc (.cells (nums .u8 zero25).toArray 25)).heap.size (w.alloc (.cells (nums .u8 zero25).toArray 25)) W1) (he : W1.heap.size = g3) (h1 : W2.heap[g3]? = some (.cells (nums .u64 keyL).toArray 81 (0, 0))) (h2 : (W1.alloc (.cells (nums .u64 zero81).toArray 81)).grownBy W2 (some g3)) (h3 : Below w.heap.size w W2) : K0 w W2 w.heap.size g3 := by
  have e1 := size_alloc w (.cells (nums .u8 zero25).toArray 25)
  have hs := hb.size
  have a2 : Rw .u8 25 W1 w.heap.size zero25 := (alloc_Rw w zero25).below hb (by omega)
  have k : W2.heap[w.heap.size]? = W1.heap[w.heap.size]? := (h2.block _ (by rw [size_alloc]; omega) (by simp; omega)).trans (Below.heap_alloc W1 _ _ (by omega))
  have r2 : Rw .u8 25 W2 w.heap.size zero25 := k.trans a2
  exact ⟨h3, r2, h1, r2.lt, blk_lt h1, by omega, Nat.le_refl _, by omega⟩
theorem K0.step {w W W2 : World} {g2 g3 : Nat} (h : K0 w W g2 g3) (hb : Below W.heap.size W W2) : K0 w W2 g2 g3 :=
  ⟨h.below.trans (hb.mono h.below.size), h.r2.below hb h.ne.1, h.r3.below hb h.ne.2.1, Nat.lt_of_lt_of_le h.ne.1 hb.size, Nat.lt_of_lt_of_le h.ne.2.1 hb.size, h.ne.2.2⟩
theorem p_block {w : World} {base c : Nat} {A : Option Addr} {zs : List Int} (h : RB w base (.slice A zs.length c) zs) (hp : 0 < zs.length) :
    ∃ (gp : Nat) (cur : Array Value), A = some ⟨gp, 0, none⟩ ∧ zs.length ≤ cur.size ∧ cur.toList.take zs.length = nums .u8 zs ∧ w.heap[gp]? = some (.cells cur 5 (0, 0)) := by
  obtain ⟨_, hown⟩ := h.own
  rcases hown with ⟨_, h0⟩ | ⟨g, cap, cur, hv, _, hh, hnc, _, hcs, ht⟩
  · omega
  · injection hv with e1 e2 e3
    exact ⟨g, cur, e1, by rw [hcs]; omega, by rw [← ht, Nat.mul_one], hh⟩
theorem padded_len (bs : List Int) : (padded bs).length = bs.length + 9 + (119 - bs.length % 64) % 64 := by
  unfold padded
  rw [List.length_append, List.length_append, show (be8 bs.length).length = 8 from rfl]
  simp [tl]
  omega
theorem padded_mul (bs : List Int) : (padded bs).length % 64 = 0 := by rw [padded_len]; omega
theorem chunk_len (P : List Int) (k : Nat) (h : 64 * k + 64 ≤ P.length) : (chunk P k).length = 64 := by unfold chunk; rw [List.length_take, List.length_drop]; omega
structure RS (w W : World) (g2 g3 g7 gp : Nat) (cur : Array Value) (stv : List Int) : Prop where
  below : Below w.heap.size w W
  r2 : Rw .u8 25 W g2 zero25
  r3 : Rw .u64 81 W g3 keyL
  r7 : Rw .u64 83 W g7 stv
  rp : W.heap[gp]? = some (.cells cur 5 (0, 0))
  ne : g2 ≠ g7 ∧ g3 ≠ g7 ∧ gp ≠ g7 ∧ w.heap.size ≤ g7 ∧ w.heap.size ≤ g2
theorem K0.rs {w W W3 : World} {g2 g3 g7 gp : Nat} {cur : Array Value} (h : K0 w W g2 g3) (he : W.heap.size = g7) (h1 : W3.heap[g7]? = some (.cells (nums .u64 iniL).toArray 83 (0, 0))) (h2 : (W.alloc (.cells (nums .u64 zero83).toArray 83)).grownBy W3 (some g7)) (h3 : Below w.heap.size w W3) (hp : W.heap[gp]? = some (.cells cur 5 (0, 0))) (P : List Int) : RS w W3 g2 g3 g7 gp cur (stN P 0) := by
  have lp := blk_lt hp
  have k : ∀ q, q < g7 → W3.heap[q]? = W.heap[q]? := fun q hq => (h2.block q (by rw [size_alloc]; omega) (by simp; omega)).trans (Below.heap_alloc W _ q (by omega))
  obtain ⟨l2, l3, n23, a2, a3⟩ := h.ne
  exact ⟨h3, (k g2 (by omega)).trans h.r2, (k g3 (by omega)).trans h.r3, h1, (k gp (by omega)).trans hp, by omega, by omega, by omega, by omega, a2⟩
theorem RS.step {w W W2 : World} {g2 g3 g7 gp : Nat} {cur : Array Value} {stv : List Int} (h : RS w W g2 g3 g7 gp cur stv) (hb : Below W.heap.size W W2) : RS w W2 g2 g3 g7 gp cur stv :=
  ⟨h.below.trans (hb.mono h.below.size), h.r2.below hb h.r2.lt, h.r3.below hb h.r3.lt, h.r7.below hb h.r7.lt, (hb.block _ (blk_lt h.rp)).trans h.rp, h.ne⟩
theorem RS.cell {w W : World} {g2 g3 g7 gp : Nat} {cur : Array Value} {stv P : List Int} (h : RS w W g2 g3 g7 gp cur stv) (hc : cur.toList.take P.length = nums .u8 P) (j : Nat) (hj : j < P.length) (x : Int) (hx : P.getD j 0 = x) : W.cell? ⟨gp, j, none⟩ = some (.int .u8 x) := by
  rw [blk_cell h.rp, ← hx]
  have : (cur.toList.take P.length)[j]? = (nums .u8 P)[j]? := by rw [hc]
  rw [List.getElem?_take, if_pos hj, Array.getElem?_toList] at this
  rw [this]
  simp [nums, List.getElem?_eq_getElem hj, List.getD_eq_getElem?_getD]
structure RS9 (w W : World) (g2 g3 g7 gp g9 : Nat) (cur : Array Value) (stv row : List Int) : Prop where
  rs : RS w W g2 g3 g7 gp cur stv
  r9 : Rw .u64 81 W g9 row
  ne : g2 ≠ g9 ∧ g3 ≠ g9 ∧ gp ≠ g9 ∧ g7 ≠ g9 ∧ w.heap.size ≤ g9
theorem RS.nine {w W : World} {g2 g3 g7 gp g9 : Nat} {cur : Array Value} {stv : List Int} (h : RS w W g2 g3 g7 gp cur stv) (he : W.heap.size = g9) (c : List Int) : RS9 w (W.alloc (.cells (nums .u64 zero81).toArray 81)) g2 g3 g7 gp g9 cur stv (wrow c 0) := by
  have l2 := h.r2.lt; have l3 := h.r3.lt; have l7 := h.r7.lt; have lp := blk_lt h.rp
  have hs := h.below.size
  refine ⟨h.step ((Below.refl _ _).alloc (Nat.le_refl _) _), ?_, by omega, by omega, by omega, by omega, by omega⟩
  rw [wrow_zero, ← he]
  exact alloc_Rw W zero81
theorem RS9.set {w W : World} {g2 g3 g7 gp g9 : Nat} {cur : Array Value} {stv row : List Int} (h : RS9 w W g2 g3 g7 gp g9 cur stv row) (j : Nat) (v : Int) : RS9 w (W.setCell ⟨g9, j, none⟩ (.int .u64 v)) g2 g3 g7 gp g9 cur stv (row.set j v) := by
  obtain ⟨n2, n3, np, n7, l9⟩ := h.ne
  have hne : ∀ q, q ≠ g9 → (W.setCell ⟨g9, j, none⟩ (.int .u64 v)).heap[q]? = W.heap[q]? := fun q hq => Below.heap_setCell W ⟨g9, j, none⟩ _ q hq
  exact ⟨⟨h.rs.below.setCell l9 _, (hne _ n2).trans h.rs.r2, (hne _ n3).trans h.rs.r3, (hne _ n7).trans h.rs.r7, (hne _ np).trans h.rs.rp, h.rs.ne⟩, h.r9.set j v, h.ne⟩
theorem RS9.drew {w W : World} {g2 g3 g7 gp g9 : Nat} {cur : Array Value} {stv row : List Int} (h : RS9 w W g2 g3 g7 gp g9 cur stv row) (n : Nat) : RS9 w (W.drewN n) g2 g3 g7 gp g9 cur stv row :=
  ⟨⟨pw_below_drewN h.rs.below n, h.rs.r2, h.rs.r3, h.rs.r7, h.rs.rp, h.rs.ne⟩, h.r9, h.ne⟩
theorem chunk_get (P : List Int) (k i : Nat) (hi : i < 64) : (chunk P k).getD i 0 = P.getD (64 * k + i) 0 := by
  unfold chunk
  rw [List.getD_eq_getElem?_getD, List.getElem?_take, if_pos hi, List.getElem?_drop, List.getD_eq_getElem?_getD]
theorem chunk_by {P : List Int} (h : By P) (k : Nat) : By (chunk P k) := fun x hx => h x (List.mem_of_mem_drop (List.mem_of_mem_take hx))
theorem be8_by (m : Nat) (hm : m < 1099511000000) : By (be8 m) := by
  intro x hx
  unfold be8 at hx
  simp only [List.mem_cons, List.not_mem_nil, or_false] at hx
  rcases hx with rfl | rfl | rfl | rfl | rfl | rfl | rfl | rfl <;> omega
theorem tl_by (j : Nat) : By (tl j) := by
  intro x hx
  unfold tl at hx
  rcases List.mem_cons.1 hx with rfl | hx
  · omega
  · rw [List.eq_of_mem_replicate hx]; omega
theorem padded_by {bs : List Int} (h : ∀ x ∈ bs, 0 ≤ x ∧ x < 256) (hl : bs.length < 1099511000000) : By (padded bs) := by
  intro x hx
  unfold padded at hx
  rcases List.mem_append.1 hx with hx | hx
  · rcases List.mem_append.1 hx with hx | hx
    · exact h x hx
    · exact tl_by _ x hx
  · exact be8_by _ hl x hx
theorem rs_facts {zs ck : List Int} {k at_ i : Nat} (hck : chunk zs k = ck) (hz : By zs) (hm : zs.length % 64 = 0) (hzl : zs.length < 35184372088832) (ha : at_ = 64 * k) (hlt : at_ < zs.length) (hi : i < 64) :
    ∃ (q s : Nat) (x b : Int), (wv ck i q = x ∧ zs.getD s 0 = b ∧ ck.getD i 0 = b ∧ (0 ≤ b ∧ b < 256) ∧ U x ∧ i / 4 = q ∧ i < 64) ∧ s < zs.length ∧ Int.tdiv (i : Int) 4 = (q : Int) ∧ wrap64 (q : Int) = (q : Int) ∧ (at_ : Int) + (i : Int) = (s : Int) ∧ wrap64 (s : Int) = (s : Int) ∧ (q : Int) < 64 ∧ (s : Int) < (zs.length : Int) := by
  have hs : at_ + i < zs.length := by omega
  refine ⟨i / 4, at_ + i, _, _, ⟨rfl, rfl, ?_, ?_, ?_, rfl, hi⟩, hs, ?_, ?_, by omega, ?_, by omega, by omega⟩
  · rw [← hck, chunk_get zs k i hi, ha]
  · rw [List.getD_eq_getElem?_getD, List.getElem?_eq_getElem hs]
    exact hz _ (List.getElem_mem hs)
  · rw [← hck]; exact wv_U (chunk_by hz k) i _
  · rw [Int.tdiv_eq_ediv_of_nonneg (by omega)]; omega
  · unfold wrap64; omega
  · unfold wrap64; omega
theorem RS9.put {w W : World} {g2 g3 g7 gp g9 i q s : Nat} {cur : Array Value} {stv zs ck : List Int} {x b : Int} (h : RS9 w W g2 g3 g7 gp g9 cur stv (wrow ck i)) (hX : wv ck i q = x ∧ zs.getD s 0 = b ∧ ck.getD i 0 = b ∧ (0 ≤ b ∧ b < 256) ∧ U x ∧ i / 4 = q ∧ i < 64) (hc : ck.length = 64) : RS9 w (W.setCell ⟨g9, q, none⟩ (.int .u64 (IntKind.u64.wrap (IntKind.u64.wrap (x * 256) + IntKind.u64.wrap b)))) g2 g3 g7 gp g9 cur stv (wrow ck (i + 1)) := by
  obtain ⟨hx, _, hb, ⟨b0, b1⟩, ⟨u0, u1⟩, hq, hi⟩ := hX
  have e : IntKind.u64.wrap (IntKind.u64.wrap (x * 256) + IntKind.u64.wrap b) = wv ck i q * 256 + ck.getD i 0 := by
    rw [hx, hb]
    simp only [IntKind.wrap_u64]
    omega
  rw [e, ← wrow_set ck i q hq hi hc]
  exact h.set q _
theorem blk_len (st W0 : List Int) (h : st.length = 8) : (blk st W0).length = 8 := part_len _ _ _ h
theorem blk_U {st W0 : List Int} (h : ∀ x ∈ st, U x) : ∀ x ∈ blk st W0, U x := part_U h 8
theorem iniL_U : ∀ x ∈ iniL, U x := by
  intro x hx
  unfold iniL at hx
  simp only [List.mem_cons, List.not_mem_nil, or_false] at hx
  rcases hx with rfl | rfl | rfl | rfl | rfl | rfl | rfl | rfl <;> exact ⟨by decide, by decide⟩
theorem stN_ok {P : List Int} (h : By P) : ∀ k, 64 * k ≤ P.length → (stN P k).length = 8 ∧ ∀ x ∈ stN P k, U x
  | 0, _ => ⟨rfl, iniL_U⟩
  | k + 1, hk => by
    obtain ⟨h1, h2⟩ := stN_ok h k (by omega)
    exact ⟨blk_len _ _ h1, blk_U h2⟩
theorem RS.wrote {w W wf : World} {g2 g3 g7 gp : Nat} {cur : Array Value} {stv nw : List Int} (h : RS w W g2 g3 g7 gp cur stv) (h1 : wf.heap[g7]? = some (.cells (nums .u64 nw).toArray 83 (0, 0))) (h2 : W.grownBy wf (some g7)) (h3 : Below w.heap.size w wf) : RS w wf g2 g3 g7 gp cur nw := by
  obtain ⟨n2, n3, np, l7, l2⟩ := h.ne
  exact ⟨h3, (h2.block _ h.r2.lt (by simp; omega)).trans h.r2, (h2.block _ h.r3.lt (by simp; omega)).trans h.r3, h1, (h2.block _ (blk_lt h.rp) (by simp; omega)).trans h.rp, h.ne⟩
structure RS11 (w W : World) (g2 g3 g7 gp g11 : Nat) (cur : Array Value) (stv L : List Int) (i : Nat) : Prop where
  rs : RS w W g2 g3 g7 gp cur stv
  r11 : Rw .u8 25 W g11 (prow L i)
  ne : g2 ≠ g11 ∧ g3 ≠ g11 ∧ gp ≠ g11 ∧ g7 ≠ g11 ∧ w.heap.size ≤ g11
theorem RS.eleven {w W : World} {g2 g3 g7 gp g11 : Nat} {cur : Array Value} {stv : List Int} (h : RS w W g2 g3 g7 gp cur stv) (he : W.heap.size = g11) (L : List Int) : RS11 w (W.alloc (.cells (nums .u8 zero25).toArray 25)) g2 g3 g7 gp g11 cur stv L 0 := by
  have l2 := h.r2.lt; have l3 := h.r3.lt; have l7 := h.r7.lt; have lp := blk_lt h.rp
  have hs := h.below.size
  refine ⟨h.step ((Below.refl _ _).alloc (Nat.le_refl _) _), ?_, by omega, by omega, by omega, by omega, by omega⟩
  rw [← he]
  exact alloc_Rw W zero25
theorem RS11.cell {w W : World} {g2 g3 g7 gp g11 i : Nat} {cur : Array Value} {stv L : List Int} (h : RS11 w W g2 g3 g7 gp g11 cur stv L i) (hL : L.length = 32) (hi : i < 32) : W.cell? ⟨g11, i, none⟩ = some (.int .u8 ((prow L i).getD i 0)) ∧ W.frozen? ⟨g11, i, none⟩ = false :=
  ⟨h.r11.cell i (by rw [prow_len L i hL (by omega)]; exact hi), h.r11.fro i⟩
theorem RS11.set {w W : World} {g2 g3 g7 gp g11 i : Nat} {cur : Array Value} {stv L : List Int} {v : Int} (h : RS11 w W g2 g3 g7 gp g11 cur stv L i) (hL : L.length = 32) (hi : i < 32) (hv : L.getD i 0 = v) : RS11 w (W.setCell ⟨g11, i, none⟩ (.int .u8 v)) g2 g3 g7 gp g11 cur stv L (i + 1) := by
  obtain ⟨n2, n3, np, n7, l9⟩ := h.ne
  have hne : ∀ q, q ≠ g11 → (W.setCell ⟨g11, i, none⟩ (.int .u8 v)).heap[q]? = W.heap[q]? := fun q hq => Below.heap_setCell W ⟨g11, i, none⟩ _ q hq
  exact ⟨⟨h.rs.below.setCell l9 _, (hne _ n2).trans h.rs.r2, (hne _ n3).trans h.rs.r3, (hne _ n7).trans h.rs.r7, (hne _ np).trans h.rs.rp, h.rs.ne⟩, by rw [← prow_set L i hL hi, hv]; exact h.r11.set i v, h.ne⟩
theorem RS11.full {w W : World} {g2 g3 g7 gp g11 : Nat} {cur : Array Value} {stv L : List Int} (h : RS11 w W g2 g3 g7 gp g11 cur stv L 32) (hL : L.length = 32) : W.heap[g11]? = some (.cells (nums .u8 L).toArray 25 (0, 0)) := prow_full hL h.r11
def rs18T : Bool × List (List Nat × List Nat) := (true, [([], []), ([0], [0]), ([], []), ([2], [2]), ([3], [3]), ([4], [4]), ([5], [5]), ([], []), ([], []), ([], []), ([8, 9], [8, 9]), ([7, 10], [7, 10]), ([11], [11]), ([12], [12]), ([6, 13], [6, 13]), ([1, 0, 1, 2, 3, 4, 5, 6, 7, 8, 9, 10, 11, 12, 13, 14], [1]), ([15, 14, 0, 1, 2, 3, 4, 5, 6, 7, 8, 9, 10, 11, 12, 13, 14], [14, 15])])
def rs18B : List Nat := [0, 1, 0, 4, 12, 28, 60, 0, 0, 0, 768, 1920, 3968, 8064, 16380, 32767, 65535]
theorem rs18tab : rtab .any (opsOf Try.f47 18) = rs18T := by kernel_rfl
theorem rs18bits : waitsOk rs18T.2 rs18B = true := by kernel_rfl
set_option maxHeartbeats 2000000 in
theorem refsum_calls (w : World) (A : Option Addr) (c : Nat) (bs : List Int) (hl : bs.length < 1099511000000) (hby : ∀ x ∈ bs, 0 ≤ x ∧ x < 256) (hR : CB w A bs) :
    Calls Try.prog 47 #[.slice A bs.length c] w fun e w' => e = .returned (.agg (nums .u8 (refB bs)).toArray) ∧ Below w.heap.size w w' := by
  have HR := Aside0.mk hR
  have HBY := Aside0.mk hby
  have HL := Aside0.mk hl
  clear hR hby hl
  have e1 := size_alloc w (.cells (nums .u8 zero25).toArray 25)
  have HE1 := Aside0.mk e1
  clear e1
  go_enter Try.func47, Try.ntmps47
  have HKS := Aside0.mk (show (nums .u64 keyL).toArray.size = 64 from rfl)
  go_upto_region 2 with (first
    | (with_reducible refine op_alloc rfl 25 rfl _ z25 ?_)
    | ((with_reducible refine (keys_calls _).mono ?_); rintro _ W1 ⟨rfl, hb1⟩; obtain ⟨g3, hg3⟩ : ∃ g, W1.heap.size = g := ⟨_, rfl⟩; have HG3 := Aside0.mk hg3; have hwb := ((Below.refl w.heap.size w).alloc (Nat.le_refl _) (.cells (nums .u8 zero25).toArray 25)).trans (hb1.mono (by rw [HE1.out]; omega)); have HN3 := Aside0.mk (hg3 ▸ heap_alloc_new W1 (.cells (nums .u64 zero81).toArray 81) : (W1.alloc (.cells (nums .u64 zero81).toArray 81)).heap[g3]? = some (.cells (nums .u64 zero81).toArray 81 (0, 0))); have HWB := Aside0.mk (hwb.alloc hwb.size (.cells (nums .u64 zero81).toArray 81)); have HLE := Aside0.mk (hg3 ▸ hwb.size); clear hg3 hwb)
    | ((with_reducible refine op_alloc rfl 81 rfl _ z81' ?_); simp only [HG3.out])
    | ((with_reducible refine op_store (w0 := w) (o := ⟨none, .store 81 (.tmp 3) (.tmp 13), _, _, _, _⟩) w.heap.size ?_ 81 (.tmp 3) (.tmp 13) ?_ g3 (nums .u64 keyL).toArray ?_ ?_ 81 _ HN3.out 64 sz81 HKS.out (by simp [nums, zero81]) (nums_all _ _) HWB.out HLE.out ?_); rfl; rfl; rfl; rfl; intro W2 h1 h2 h3))
  have HK := Aside0.mk (K0.made hb1 HG3.out h1.out h2.out h3.out)
  have HR2 := Aside0.mk (Kd.C_below HR.out h3.out)
  clear hb1 h1 h2 h3 HG3 HN3 HWB HLE HE1 HR
  generalize w.heap.size = g2 at HK ⊢
  have hL6 := Aside0.mk (lit_row W2 W2.heap.size [] (Nat.le_refl _) (by simp))
  have hB6 := Aside0.mk ((Below.refl W2.heap.size W2).alloc (Nat.le_refl _) (.cells (nums .u8 []).toArray 5))
  have HC6 := Aside0.mk (Kd.C_below HR2.out hB6.out)
  go_upto_region 3 with (first
    | (at_builtin; refine app_row (w0 := W2) W2.heap.size rfl (.tmp 14) (.tmp 15) 37 rfl Try.underlying37 POct.info5 _ [] bs A c rfl rfl hL6.out HC6.out hB6.out hB6.out.size (by have := HL.out; simp; omega) ?_; intro z1 B1 d1 w7 hz1 hd1 ho1 HB7; clear hL6 hB6 HC6; have HB8 := Aside0.mk (HB7.out.alloc HB7.out.size (.cells (nums .u8 [128]).toArray 5)); have HO8 := Aside0.mk (Kd.R_below ho1.out ((Below.refl w7.heap.size w7).alloc (Nat.le_refl _) (.cells (nums .u8 [128]).toArray 5))); have HR8 := Aside0.mk (lit_reads w7 [128] (by decide)))
    | (at_builtin; refine app_row (w0 := W2) W2.heap.size rfl (.tmp 16) (.tmp 17) 37 rfl Try.underlying37 POct.info5 _ z1 [128] (some ⟨w7.heap.size, 0, none⟩) 1 rfl rfl HO8.out HR8.out HB8.out HB8.out.size (by rw [hz1.out]; have := HL.out; simp; omega) ?_; intro z2 B2 d2 w8 hz2 hd2 ho2 HB9; clear HO8 HR8 HB8))
  obtain ⟨z, hz⟩ : ∃ z, z = (119 - bs.length % 64) % 64 := ⟨_, rfl⟩
  have HZZ := Aside0.mk hz
  have HI := Aside0.mk (⟨by rw [hz2.out, hz1.out]; rfl, hd2.out⟩ : z2 = bs ++ tl 0 ∧ z2.length ≤ d2)
  clear hz hz1 hd1 hz2 hd2 ho1 HB7 HR2
  go_loopw [4] (fun v wr => ∃ (j : Nat) (zs : List Int) (A1 : Option Addr) (c1 : Nat), j ≤ z ∧ v = .slice A1 zs.length c1 ∧ Aside0 (zs = bs ++ tl j ∧ zs.length ≤ c1) ∧ Aside0 (RB wr W2.heap.size (.slice A1 zs.length c1) zs) ∧ Aside0 (Below W2.heap.size W2 wr)) (fun v _ => bs.length + 100 - Swr.slen v)
  case atStart => exact ⟨0, z2, B2, d2, Nat.zero_le _, rfl, HI, ho2, HB9⟩
  case round =>
    clear HI ho2 HB9
    obtain ⟨j, zs, A1, c1, hj, rfl, HI, HO, HB⟩ := hrel
    have hlen : zs.length = bs.length + 1 + j := by rw [HI.out.1]; simp [tl]; omega
    have hzl : zs.length < 1099511100000 := by have := HL.out; have := HZZ.out; omega
    have HLEN := Aside0.mk hlen
    clear hlen
    have HB8 := Aside0.mk (HB.out.alloc HB.out.size (.cells (nums .u8 [0]).toArray 5))
    have HO8 := Aside0.mk (Kd.R_below HO.out ((Below.refl wr.heap.size wr).alloc (Nat.le_refl _) (.cells (nums .u8 [0]).toArray 5)))
    have HR8 := Aside0.mk (lit_reads wr [0] (by decide))
    by_cases hlt : j < z
    · have hq : ((zs.length : Int) % 64 == 56) = false := by have := HLEN.out; have := HZZ.out; simp; omega
      have hq2 : ((zs.length : Int) % 64 != 56) = true := by have := HLEN.out; have := HZZ.out; simp; omega
      go_wp2_with (at_builtin; refine app_row (w0 := W2) W2.heap.size rfl (.tmp 23) (.tmp 24) 37 rfl Try.underlying37 POct.info5 _ zs [0] (some ⟨wr.heap.size, 0, none⟩) 1 rfl rfl HO8.out HR8.out HB8.out HB8.out.size (by simp; omega) ?_; intro z3 B3 d3 w9 hz3 hd3 ho3 HB3; clear HO8 HR8 HB8 hq hq2)
      have hl3 : z3.length = zs.length + 1 := by rw [hz3.out]; simp
      go_roundw
      case rel => exact ⟨j + 1, z3, B3, d3, by omega, rfl, ⟨by rw [hz3.out, HI.out.1, tl_succ, List.append_assoc], hd3.out⟩, ho3, HB3⟩
      case measure => show bs.length + 100 - z3.length < bs.length + 100 - zs.length; have := HLEN.out; have := HZZ.out; omega
    · have hq : ((zs.length : Int) % 64 == 56) = true := by have := HLEN.out; have := HZZ.out; simp; omega
      have hq2 : ((zs.length : Int) % 64 != 56) = false := by have := HLEN.out; have := HZZ.out; simp; omega
      obtain rfl : j = z := by omega
      have hll := HL.out
      clear HB8 HO8 HR8
      go_wp2
      clear hq hq2
      have HI0 := Aside0.mk (⟨by rw [HI.out.1]; simp, HI.out.2⟩ : zs = bs ++ tl j ++ (be8 bs.length).take 0 ∧ zs.length ≤ c1)
      go_loopw [4, 6] (fun v u wr => ∃ (i : Nat) (zs : List Int) (A1 : Option Addr) (c1 : Nat), i ≤ 8 ∧ v = .slice A1 zs.length c1 ∧ u = .int .i64 i ∧ Aside0 (zs = bs ++ tl j ++ (be8 bs.length).take i ∧ zs.length ≤ c1) ∧ Aside0 (RB wr W2.heap.size (.slice A1 zs.length c1) zs) ∧ Aside0 (Below W2.heap.size W2 wr)) (fun v u _ => 8 - (intOf u).toNat)
      case atStart => exact ⟨0, zs, A1, c1, by decide, rfl, rfl, HI0, HO, HB⟩
      case round =>
        clear HI0 HO HB HI HLEN hzl
        obtain ⟨i, zs, A1, c1, hi, rfl, rfl, HI, HO, HB⟩ := hrel
        have hzl : zs.length < 1099511200000 := by rw [HI.out.1]; have := HL.out; have := HZZ.out; simp [tl]; omega
        have HZL := Aside0.mk hzl
        clear hzl
        by_cases hlt : i < 8
        · have h8 : i = 0 ∨ i = 1 ∨ i = 2 ∨ i = 3 ∨ i = 4 ∨ i = 5 ∨ i = 6 ∨ i = 7 := by omega
          clear hlt
          rcases h8 with rfl | rfl | rfl | rfl | rfl | rfl | rfl | rfl
          · simp only [show ((0 : Nat) : Int) = 0 from rfl]
            have HB8 := Aside0.mk (HB.out.alloc HB.out.size (.cells (nums .u8 [((bs.length : Int) * 8 / 72057594037927936)]).toArray 5))
            have HO8 := Aside0.mk (Kd.R_below HO.out ((Below.refl wr.heap.size wr).alloc (Nat.le_refl _) (.cells (nums .u8 [((bs.length : Int) * 8 / 72057594037927936)]).toArray 5)))
            have HR8 := Aside0.mk (lit_reads wr [((bs.length : Int) * 8 / 72057594037927936)] (by simp))
            go_wp2_with (at_builtin; refine app_row (w0 := W2) W2.heap.size rfl (.tmp 34) (.tmp 41) 37 rfl Try.underlying37 POct.info5 _ zs [((bs.length : Int) * 8 / 72057594037927936)] (some ⟨wr.heap.size, 0, none⟩) 1 rfl rfl HO8.out HR8.out HB8.out HB8.out.size (by have := HZL.out; simp; omega) ?_; intro z3 B3 d3 w9 hz3 hd3 ho3 HB3; clear HO8 HR8 HB8)
            go_roundw
            case rel => exact ⟨1, z3, B3, d3, by decide, rfl, rfl, ⟨by rw [hz3.out, HI.out.1, be8_next _ 0 _ (by decide), be8_0], hd3.out⟩, ho3, HB3⟩
            case measure => exact (by decide : 8 - 1 < 8 - 0)
          · simp only [show ((1 : Nat) : Int) = 1 from rfl]
            have HB8 := Aside0.mk (HB.out.alloc HB.out.size (.cells (nums .u8 [((bs.length : Int) * 8 / 281474976710656)]).toArray 5))
            have HO8 := Aside0.mk (Kd.R_below HO.out ((Below.refl wr.heap.size wr).alloc (Nat.le_refl _) (.cells (nums .u8 [((bs.length : Int) * 8 / 281474976710656)]).toArray 5)))
            have HR8 := Aside0.mk (lit_reads wr [((bs.length : Int) * 8 / 281474976710656)] (by simp))
            go_wp2_with (at_builtin; refine app_row (w0 := W2) W2.heap.size rfl (.tmp 34) (.tmp 41) 37 rfl Try.underlying37 POct.info5 _ zs [((bs.length : Int) * 8 / 281474976710656)] (some ⟨wr.heap.size, 0, none⟩) 1 rfl rfl HO8.out HR8.out HB8.out HB8.out.size (by have := HZL.out; simp; omega) ?_; intro z3 B3 d3 w9 hz3 hd3 ho3 HB3; clear HO8 HR8 HB8)
            go_roundw
            case rel => exact ⟨2, z3, B3, d3, by decide, rfl, rfl, ⟨by rw [hz3.out, HI.out.1, be8_next _ 1 _ (by decide), be8_1], hd3.out⟩, ho3, HB3⟩
            case measure => exact (by decide : 8 - 2 < 8 - 1)
          · simp only [show ((2 : Nat) : Int) = 2 from rfl]
            have HB8 := Aside0.mk (HB.out.alloc HB.out.size (.cells (nums .u8 [((bs.length : Int) * 8 / 1099511627776)]).toArray 5))
            have HO8 := Aside0.mk (Kd.R_below HO.out ((Below.refl wr.heap.size wr).alloc (Nat.le_refl _) (.cells (nums .u8 [((bs.length : Int) * 8 / 1099511627776)]).toArray 5)))
            have HR8 := Aside0.mk (lit_reads wr [((bs.length : Int) * 8 / 1099511627776)] (by simp))
            go_wp2_with (at_builtin; refine app_row (w0 := W2) W2.heap.size rfl (.tmp 34) (.tmp 41) 37 rfl Try.underlying37 POct.info5 _ zs [((bs.length : Int) * 8 / 1099511627776)] (some ⟨wr.heap.size, 0, none⟩) 1 rfl rfl HO8.out HR8.out HB8.out HB8.out.size (by have := HZL.out; simp; omega) ?_; intro z3 B3 d3 w9 hz3 hd3 ho3 HB3; clear HO8 HR8 HB8)
            go_roundw
            case rel => exact ⟨3, z3, B3, d3, by decide, rfl, rfl, ⟨by rw [hz3.out, HI.out.1, be8_next _ 2 _ (by decide), be8_2], hd3.out⟩, ho3, HB3⟩
            case measure => exact (by decide : 8 - 3 < 8 - 2)
          · simp only [show ((3 : Nat) : Int) = 3 from rfl]
            have HB8 := Aside0.mk (HB.out.alloc HB.out.size (.cells (nums .u8 [((bs.length : Int) * 8 / 4294967296 % 256)]).toArray 5))
            have HO8 := Aside0.mk (Kd.R_below HO.out ((Below.refl wr.heap.size wr).alloc (Nat.le_refl _) (.cells (nums .u8 [((bs.length : Int) * 8 / 4294967296 % 256)]).toArray 5)))
            have HR8 := Aside0.mk (lit_reads wr [((bs.length : Int) * 8 / 4294967296 % 256)] (by simp))
            go_wp2_with (at_builtin; refine app_row (w0 := W2) W2.heap.size rfl (.tmp 34) (.tmp 41) 37 rfl Try.underlying37 POct.info5 _ zs [((bs.length : Int) * 8 / 4294967296 % 256)] (some ⟨wr.heap.size, 0, none⟩) 1 rfl rfl HO8.out HR8.out HB8.out HB8.out.size (by have := HZL.out; simp; omega) ?_; intro z3 B3 d3 w9 hz3 hd3 ho3 HB3; clear HO8 HR8 HB8)
            go_roundw
            case rel => exact ⟨4, z3, B3, d3, by decide, rfl, rfl, ⟨by rw [hz3.out, HI.out.1, be8_next _ 3 _ (by decide), be8_3], hd3.out⟩, ho3, HB3⟩
            case measure => exact (by decide : 8 - 4 < 8 - 3)
          · simp only [show ((4 : Nat) : Int) = 4 from rfl]
            have HB8 := Aside0.mk (HB.out.alloc HB.out.size (.cells (nums .u8 [((bs.length : Int) * 8 / 16777216 % 256)]).toArray 5))
            have HO8 := Aside0.mk (Kd.R_below HO.out ((Below.refl wr.heap.size wr).alloc (Nat.le_refl _) (.cells (nums .u8 [((bs.length : Int) * 8 / 16777216 % 256)]).toArray 5)))
            have HR8 := Aside0.mk (lit_reads wr [((bs.length : Int) * 8 / 16777216 % 256)] (by simp))
            go_wp2_with (at_builtin; refine app_row (w0 := W2) W2.heap.size rfl (.tmp 34) (.tmp 41) 37 rfl Try.underlying37 POct.info5 _ zs [((bs.length : Int) * 8 / 16777216 % 256)] (some ⟨wr.heap.size, 0, none⟩) 1 rfl rfl HO8.out HR8.out HB8.out HB8.out.size (by have := HZL.out; simp; omega) ?_; intro z3 B3 d3 w9 hz3 hd3 ho3 HB3; clear HO8 HR8 HB8)
            go_roundw
            case rel => exact ⟨5, z3, B3, d3, by decide, rfl, rfl, ⟨by rw [hz3.out, HI.out.1, be8_next _ 4 _ (by decide), be8_4], hd3.out⟩, ho3, HB3⟩
            case measure => exact (by decide : 8 - 5 < 8 - 4)
          · simp only [show ((5 : Nat) : Int) = 5 from rfl]
            have HB8 := Aside0.mk (HB.out.alloc HB.out.size (.cells (nums .u8 [((bs.length : Int) * 8 / 65536 % 256)]).toArray 5))
            have HO8 := Aside0.mk (Kd.R_below HO.out ((Below.refl wr.heap.size wr).alloc (Nat.le_refl _) (.cells (nums .u8 [((bs.length : Int) * 8 / 65536 % 256)]).toArray 5)))
            have HR8 := Aside0.mk (lit_reads wr [((bs.length : Int) * 8 / 65536 % 256)] (by simp))
            go_wp2_with (at_builtin; refine app_row (w0 := W2) W2.heap.size rfl (.tmp 34) (.tmp 41) 37 rfl Try.underlying37 POct.info5 _ zs [((bs.length : Int) * 8 / 65536 % 256)] (some ⟨wr.heap.size, 0, none⟩) 1 rfl rfl HO8.out HR8.out HB8.out HB8.out.size (by have := HZL.out; simp; omega) ?_; intro z3 B3 d3 w9 hz3 hd3 ho3 HB3; clear HO8 HR8 HB8)
            go_roundw
            case rel => exact ⟨6, z3, B3, d3, by decide, rfl, rfl, ⟨by rw [hz3.out, HI.out.1, be8_next _ 5 _ (by decide), be8_5], hd3.out⟩, ho3, HB3⟩
            case measure => exact (by decide : 8 - 6 < 8 - 5)
          · simp only [show ((6 : Nat) : Int) = 6 from rfl]
            have HB8 := Aside0.mk (HB.out.alloc HB.out.size (.cells (nums .u8 [((bs.length : Int) * 8 / 256 % 256)]).toArray 5))
            have HO8 := Aside0.mk (Kd.R_below HO.out ((Below.refl wr.heap.size wr).alloc (Nat.le_refl _) (.cells (nums .u8 [((bs.length : Int) * 8 / 256 % 256)]).toArray 5)))
            have HR8 := Aside0.mk (lit_reads wr [((bs.length : Int) * 8 / 256 % 256)] (by simp))
            go_wp2_with (at_builtin; refine app_row (w0 := W2) W2.heap.size rfl (.tmp 34) (.tmp 41) 37 rfl Try.underlying37 POct.info5 _ zs [((bs.length : Int) * 8 / 256 % 256)] (some ⟨wr.heap.size, 0, none⟩) 1 rfl rfl HO8.out HR8.out HB8.out HB8.out.size (by have := HZL.out; simp; omega) ?_; intro z3 B3 d3 w9 hz3 hd3 ho3 HB3; clear HO8 HR8 HB8)
            go_roundw
            case rel => exact ⟨7, z3, B3, d3, by decide, rfl, rfl, ⟨by rw [hz3.out, HI.out.1, be8_next _ 6 _ (by decide), be8_6], hd3.out⟩, ho3, HB3⟩
            case measure => exact (by decide : 8 - 7 < 8 - 6)
          · simp only [show ((7 : Nat) : Int) = 7 from rfl]
            have HB8 := Aside0.mk (HB.out.alloc HB.out.size (.cells (nums .u8 [((bs.length : Int) * 8 % 256)]).toArray 5))
            have HO8 := Aside0.mk (Kd.R_below HO.out ((Below.refl wr.heap.size wr).alloc (Nat.le_refl _) (.cells (nums .u8 [((bs.length : Int) * 8 % 256)]).toArray 5)))
            have HR8 := Aside0.mk (lit_reads wr [((bs.length : Int) * 8 % 256)] (by simp))
            go_wp2_with (at_builtin; refine app_row (w0 := W2) W2.heap.size rfl (.tmp 34) (.tmp 41) 37 rfl Try.underlying37 POct.info5 _ zs [((bs.length : Int) * 8 % 256)] (some ⟨wr.heap.size, 0, none⟩) 1 rfl rfl HO8.out HR8.out HB8.out HB8.out.size (by have := HZL.out; simp; omega) ?_; intro z3 B3 d3 w9 hz3 hd3 ho3 HB3; clear HO8 HR8 HB8)
            go_roundw
            case rel => exact ⟨8, z3, B3, d3, by decide, rfl, rfl, ⟨by rw [hz3.out, HI.out.1, be8_next _ 7 _ (by decide), be8_7], hd3.out⟩, ho3, HB3⟩
            case measure => exact (by decide : 8 - 8 < 8 - 7)
        · obtain rfl : i = 8 := by omega
          obtain ⟨gp, cur, rfl, hcur⟩ := p_block HO.out (by have h1 : zs.length = _ := congrArg List.length HI.out.1; simp [tl] at h1; omega)
          have HP := Aside0.mk (⟨by rw [HI.out.1, HZZ.out]; rfl, hcur.1⟩ : zs = padded bs ∧ zs.length ≤ cur.size)
          have HG := Aside0.mk hcur
          have HM := Aside0.mk (padded_mul bs)
          have HBP := Aside0.mk (show By zs from by rw [HP.out.1]; exact padded_by HBY.out HL.out)
          have HZM := Aside0.mk (show zs.length % 64 = 0 ∧ zs.length < 35184372088832 from by rw [HP.out.1]; exact ⟨padded_mul bs, by rw [padded_len]; have := HL.out; omega⟩)
          have HK2 := Aside0.mk (HK.out.step HB.out)
          obtain ⟨g7, hg7⟩ : ∃ g, wr.heap.size = g := ⟨_, rfl⟩
          have HG7 := Aside0.mk hg7
          have HN7 := Aside0.mk (hg7 ▸ heap_alloc_new wr (.cells (nums .u64 zero83).toArray 83) : (wr.alloc (.cells (nums .u64 zero83).toArray 83)).heap[g7]? = some (.cells (nums .u64 zero83).toArray 83 (0, 0)))
          have HB7 := Aside0.mk (HK2.out.below.alloc HK2.out.below.size (.cells (nums .u64 zero83).toArray 83))
          have HL7 := Aside0.mk (hg7 ▸ HK2.out.below.size)
          have HS7 := Aside0.mk (show (nums .u64 iniL).toArray.size = 8 from rfl)
          clear hg7 hcur HO HB HI HK hlt
          go_upto_region 11 with (first
            | (with_reducible refine op_build rfl 83 _ rfl (nums .u64 iniL).toArray (by rw [List.map_toArray]; exact ini64B) ?_)
            | ((with_reducible refine op_alloc rfl 83 rfl _ z83 ?_); simp only [HG7.out])
            | ((with_reducible refine op_store (w0 := w) (o := ⟨none, .store 83 (.tmp 7) (.tmp 43), _, _, _, _⟩) w.heap.size ?_ 83 (.tmp 7) (.tmp 43) ?_ g7 (nums .u64 iniL).toArray ?_ ?_ 83 _ HN7.out 8 sz83 HS7.out rfl (nums_all _ _) HB7.out HL7.out ?_); rfl; rfl; rfl; rfl; intro W3 h1 h2 h3))
          have HS := Aside0.mk (HK2.out.rs HG7.out h1.out h2.out h3.out HG.out.2.2 zs)
          clear h1 h2 h3 HK2 HG7 HN7 HB7 HL7
          go_wp2
          go_loopw [8] (fun v wr => ∃ k at_ : Nat, at_ ≤ zs.length ∧ v = .int .i64 at_ ∧ Aside0 (at_ = 64 * k) ∧ Aside0 (RS w wr g2 g3 g7 gp cur (stN zs k))) (fun v _ => zs.length - (intOf v).toNat)
          case atStart => exact ⟨0, 0, Nat.zero_le _, rfl, ⟨rfl⟩, HS⟩
          case round =>
            clear HS
            obtain ⟨k, at_, hat, rfl, HA, HS⟩ := hrel
            by_cases hlt : at_ < zs.length
            · have hlt' : decide ((at_ : Int) < (zs.length : Int)) = true := by simp; omega
              have hlt2 : decide (at_ < zs.length) = true := by simp; omega
              obtain ⟨ck, hck⟩ : ∃ ck, chunk zs k = ck := ⟨_, rfl⟩
              have HCK := Aside0.mk hck
              have HCL := Aside0.mk (hck ▸ chunk_len zs k (by have := HM.out; have := HP.out.1 ▸ HM.out; have := HA.out; omega))
              clear hck
              obtain ⟨g9, hg9⟩ : ∃ g, wr.heap.size = g := ⟨_, rfl⟩
              have HG9 := Aside0.mk hg9
              have HS9 := Aside0.mk (HS.out.nine hg9 ck)
              clear hg9
              go_upto_region 16 with (first | ((with_reducible refine op_alloc rfl 81 rfl _ z81' ?_); simp only [HG9.out]))
              clear hlt' hlt2
              have HLT := Aside0.mk hlt
              clear hlt
              go_loopw [10] (fun v wr2 => ∃ i : Nat, i ≤ 64 ∧ v = .int .i64 i ∧ Aside0 (RS9 w wr2 g2 g3 g7 gp g9 cur (stN zs k) (wrow ck i))) (fun v _ => 64 - (intOf v).toNat)
              case atStart => exact ⟨0, by decide, rfl, HS9⟩
              case round =>
                clear HS9
                rename_i wr1
                obtain ⟨i, hi, rfl, HS9⟩ := hrel
                by_cases hlt : i < 64
                · have hlt' : decide ((i : Int) < 64) = true := by simp; omega
                  go_upto_region 18 with (fail)
                  obtain ⟨q, s, x, b, hx, hsl, f1, f2, f3, f4, f5, f6⟩ := rs_facts HCK.out HBP.out HZM.out.1 HZM.out.2 HA.out HLT.out hlt
                  have HX := Aside0.mk hx
                  have HSL := Aside0.mk hsl
                  clear hx hsl
                  refine start_ (n := 17) (S := (fun W_ => RS9 w W_ g2 g3 g7 gp g9 cur (stN zs k) (wrow ck i))) (ds := [16]) #[false, false, false, false, false, false, false, false, false, false, false, false, false, false, false, false, false] (by kernel_rfl) rfl rfl (HS9.out.drew 1) (fun hHeld => ?_); refine with_tabW rs18tab rs18bits (fun HT_ HW_ => ?_)
                  clear HS9; generalize World.drew _ = wq at hHeld ⊢
                  refine pure_ (i := 0) (N := some 54) (v := ?_) (a' := ?_) #[true, false, false, false, false, false, false, false, false, false, false, false, false, false, false, false, false] rfl rfl (any_of HT_.out (by kernel_rfl)) (fun _ _ _ h => h) (Or.inl ⟨by rfl, ?_⟩) ?_ ?_
                  rotate_left
                  · intro w'
                    go_simp
                    with_reducible rfl
                  rotate_left
                  · simp only [Act.put, List.setIfInBounds_toArray, List.set_cons_zero, List.set_cons_succ, i64_w, i32_w]
                    rfl
                  refine pure_ (i := 1) (N := some 55) (v := ?_) (a' := ?_) #[true, true, false, false, false, false, false, false, false, false, false, false, false, false, false, false, false] rfl rfl (any_of HT_.out (by kernel_rfl)) (fun _ _ _ h => h) (Or.inl ⟨by rfl, ?_⟩) ?_ ?_
                  rotate_left
                  · intro w'
                    go_simp
                    with_reducible rfl
                  rotate_left
                  · simp only [Act.put, List.setIfInBounds_toArray, List.set_cons_zero, List.set_cons_succ, i64_w, i32_w]
                    rfl
                  refine pure_ (i := 2) (N := some 56) (v := ?_) (a' := ?_) #[true, true, true, false, false, false, false, false, false, false, false, false, false, false, false, false, false] rfl rfl (any_of HT_.out (by kernel_rfl)) (fun _ _ _ h => h) (Or.inl ⟨by rfl, ?_⟩) ?_ ?_
                  rotate_left
                  · intro w'
                    go_simp
                    with_reducible rfl
                  rotate_left
                  · simp only [Act.put, List.setIfInBounds_toArray, List.set_cons_zero, List.set_cons_succ, i64_w, i32_w]
                    rfl
                  refine pure_ (i := 3) (N := some 57) (v := ?_) (a' := ?_) #[true, true, true, true, false, false, false, false, false, false, false, false, false, false, false, false, false] rfl rfl (any_of HT_.out (by kernel_rfl)) (fun _ _ _ h => h) (Or.inl ⟨by rfl, ?_⟩) ?_ ?_
                  rotate_left
                  · intro w'
                    go_simp
                    with_reducible rfl
                  rotate_left
                  · simp only [Act.put, List.setIfInBounds_toArray, List.set_cons_zero, List.set_cons_succ, i64_w, i32_w]
                    rfl
                  refine pure_ (i := 4) (N := some 58) (v := ?_) (a' := ?_) #[true, true, true, true, true, false, false, false, false, false, false, false, false, false, false, false, false] rfl rfl (any_of HT_.out (by kernel_rfl)) (fun _ _ _ h => h) (Or.inl ⟨by rfl, ?_⟩) ?_ ?_
                  rotate_left
                  · intro w'
                    go_simp
                    with_reducible rfl
                  rotate_left
                  · simp only [Act.put, List.setIfInBounds_toArray, List.set_cons_zero, List.set_cons_succ, i64_w, i32_w]
                    rfl
                  refine take_ (i := 5) (N := some 59) (v := ?_) (a' := ?_) #[true, true, true, true, true, true, false, false, false, false, false, false, false, false, false, false, false] rfl rfl (take_ofW HT_.out HW_.out (by kernel_rfl)) (fun _ _ _ h => h) (Or.inl ⟨by rfl, ?_⟩) hHeld ?_ ?_
                  rotate_left
                  · intro w' hw'
                    have hf0_ := hw'.r9.at q (by rw [wrow_len]; have := HX.out; omega) x (by rw [wrow_get _ _ _ (by have := HX.out; omega)]; exact HX.out.1)
                    go_simp
                    with_reducible rfl
                  rotate_left
                  · simp only [Act.put, List.setIfInBounds_toArray, List.set_cons_zero, List.set_cons_succ, i64_w, i32_w]
                    rfl
                  refine pure_ (i := 6) (N := some 60) (v := ?_) (a' := ?_) #[true, true, true, true, true, true, true, false, false, false, false, false, false, false, false, false, false] rfl rfl (any_of HT_.out (by kernel_rfl)) (fun _ _ _ h => h) (Or.inl ⟨by rfl, ?_⟩) ?_ ?_
                  rotate_left
                  · intro w'
                    go_simp
                    with_reducible rfl
                  rotate_left
                  · simp only [Act.put, List.setIfInBounds_toArray, List.set_cons_zero, List.set_cons_succ, i64_w, i32_w]
                    rfl
                  refine pure_ (i := 7) (N := some 61) (v := ?_) (a' := ?_) #[true, true, true, true, true, true, true, true, false, false, false, false, false, false, false, false, false] rfl rfl (any_of HT_.out (by kernel_rfl)) (fun _ _ _ h => h) (Or.inl ⟨by rfl, ?_⟩) ?_ ?_
                  rotate_left
                  · intro w'
                    go_simp
                    with_reducible rfl
                  rotate_left
                  · simp only [Act.put, List.setIfInBounds_toArray, List.set_cons_zero, List.set_cons_succ, i64_w, i32_w]
                    rfl
                  refine pure_ (i := 8) (N := some 62) (v := ?_) (a' := ?_) #[true, true, true, true, true, true, true, true, true, false, false, false, false, false, false, false, false] rfl rfl (any_of HT_.out (by kernel_rfl)) (fun _ _ _ h => h) (Or.inl ⟨by rfl, ?_⟩) ?_ ?_
                  rotate_left
                  · intro w'
                    go_simp
                    with_reducible rfl
                  rotate_left
                  · simp only [Act.put, List.setIfInBounds_toArray, List.set_cons_zero, List.set_cons_succ, i64_w, i32_w]
                    rfl
                  refine pure_ (i := 9) (N := some 63) (v := ?_) (a' := ?_) #[true, true, true, true, true, true, true, true, true, true, false, false, false, false, false, false, false] rfl rfl (any_of HT_.out (by kernel_rfl)) (fun _ _ _ h => h) (Or.inl ⟨by rfl, ?_⟩) ?_ ?_
                  rotate_left
                  · intro w'
                    go_simp
                    with_reducible rfl
                  rotate_left
                  · simp only [Act.put, List.setIfInBounds_toArray, List.set_cons_zero, List.set_cons_succ, i64_w, i32_w]
                    rfl
                  refine pure_ (i := 10) (N := some 64) (v := ?_) (a' := ?_) #[true, true, true, true, true, true, true, true, true, true, true, false, false, false, false, false, false] rfl rfl (any_of HT_.out (by kernel_rfl)) (fun _ _ _ h => h) (Or.inl ⟨by rfl, ?_⟩) ?_ ?_
                  rotate_left
                  · intro w'
                    go_simp
                    with_reducible rfl
                  rotate_left
                  · simp only [Act.put, List.setIfInBounds_toArray, List.set_cons_zero, List.set_cons_succ, i64_w, i32_w]
                    rfl
                  refine pure_ (i := 11) (N := some 65) (v := ?_) (a' := ?_) #[true, true, true, true, true, true, true, true, true, true, true, true, false, false, false, false, false] rfl rfl (any_of HT_.out (by kernel_rfl)) (fun _ _ _ h => h) (Or.inl ⟨by rfl, ?_⟩) ?_ ?_
                  rotate_left
                  · intro w'
                    go_simp
                    with_reducible rfl
                  rotate_left
                  · simp only [Act.put, List.setIfInBounds_toArray, List.set_cons_zero, List.set_cons_succ, i64_w, i32_w]
                    rfl
                  refine take_ (i := 12) (N := some 66) (v := ?_) (a' := ?_) #[true, true, true, true, true, true, true, true, true, true, true, true, true, false, false, false, false] rfl rfl (take_ofW HT_.out HW_.out (by kernel_rfl)) (fun _ _ _ h => h) (Or.inl ⟨by rfl, ?_⟩) hHeld ?_ ?_
                  rotate_left
                  · intro w' hw'
                    have hf0_ := hw'.rs.cell HG.out.2.1 s HSL.out b HX.out.2.1
                    go_simp
                    with_reducible rfl
                  rotate_left
                  · simp only [Act.put, List.setIfInBounds_toArray, List.set_cons_zero, List.set_cons_succ, i64_w, i32_w]
                    rfl
                  refine pure_ (i := 13) (N := some 67) (v := ?_) (a' := ?_) #[true, true, true, true, true, true, true, true, true, true, true, true, true, true, false, false, false] rfl rfl (any_of HT_.out (by kernel_rfl)) (fun _ _ _ h => h) (Or.inl ⟨by rfl, ?_⟩) ?_ ?_
                  rotate_left
                  · intro w'
                    go_simp
                    with_reducible rfl
                  rotate_left
                  · simp only [Act.put, List.setIfInBounds_toArray, List.set_cons_zero, List.set_cons_succ, i64_w, i32_w]
                    rfl
                  refine pure_ (i := 14) (N := some 68) (v := ?_) (a' := ?_) #[true, true, true, true, true, true, true, true, true, true, true, true, true, true, true, false, false] rfl rfl (any_of HT_.out (by kernel_rfl)) (fun _ _ _ h => h) (Or.inl ⟨by rfl, ?_⟩) ?_ ?_
                  rotate_left
                  · intro w'
                    go_simp
                    with_reducible rfl
                  rotate_left
                  · simp only [Act.put, List.setIfInBounds_toArray, List.set_cons_zero, List.set_cons_succ, i64_w, i32_w]
                    rfl
                  refine pure_ (i := 15) (N := some 69) (v := ?_) (a' := ?_) #[true, true, true, true, true, true, true, true, true, true, true, true, true, true, true, true, false] rfl rfl (any_of HT_.out (by kernel_rfl)) (fun _ _ _ h => h) (Or.inl ⟨by rfl, ?_⟩) ?_ ?_
                  rotate_left
                  · intro w'
                    go_simp
                    with_reducible rfl
                  rotate_left
                  · simp only [Act.put, List.setIfInBounds_toArray, List.set_cons_zero, List.set_cons_succ, i64_w, i32_w]
                    rfl
                  have hcl := hHeld.r9.at q (by rw [wrow_len]; have := HX.out; omega) x (by rw [wrow_get _ _ _ (by have := HX.out; omega)]; exact HX.out.1); have hfr := hHeld.r9.fro q
                  refine last_ (i := 16) (N := none) #[true, true, true, true, true, true, true, true, true, true, true, true, true, true, true, true, true] rfl rfl (one_of HT_.out (by kernel_rfl)) (by decide) (fun K hK => ?_)
                  refine skip_ (w1 := (wq.setCell ⟨g9, q, none⟩ (.int .u64 (IntKind.u64.wrap (IntKind.u64.wrap (x * 256) + IntKind.u64.wrap b))))) (by rfl) rfl (by go_simp; first | done | rfl | (trace_state; fail)) ?_
                  refine hK.out _ _ ?_
                  clear hK K
                  have hQ : RS9 w (wq.setCell ⟨g9, q, none⟩ (.int .u64 (IntKind.u64.wrap (IntKind.u64.wrap (x * 256) + IntKind.u64.wrap b)))) g2 g3 g7 gp g9 cur (stN zs k) (wrow ck (i + 1)) := hHeld.put HX.out HCL.out
                  generalize wq.setCell _ _ = wx at hQ ⊢
                  refine done_ (done_of HT_.out (by kernel_rfl)) ?_
                  clear hHeld hcl hfr
                  go_wp2
                  go_roundw
                  case rel => exact ⟨i + 1, by omega, by go_num, ⟨hQ⟩⟩
                  case measure => simp [intOf]; omega
                · obtain rfl : i = 64 := by omega
                  have HG7 := Aside0.mk (show wr.heap[g7]? = some (.cells (nums .u64 (stN zs k)).toArray 83 (0, 0)) from HS9.out.rs.r7)
                  have HG3 := Aside0.mk (show wr.heap[g3]? = some (.cells (nums .u64 keyL).toArray 81 (0, 0)) from HS9.out.rs.r3)
                  have HGW := Aside0.mk (show wr.heap[g9]? = some (.cells (nums .u64 (pad64 (sched ck 0))).toArray 81 (0, 0)) from (wrow_full (HCK.out ▸ chunk_by HBP.out k) HCL.out) ▸ HS9.out.r9)
                  have HST := Aside0.mk (stN_ok HBP.out k (by have h1 := HZM.out.1; have := HA.out; have := HLT.out; omega))
                  have HC8 := Aside0.mk (show (nums .u64 (stN zs k)).toArray.size = 8 from by rw [List.size_toArray, nums_length]; exact HST.out.1)
                  have HC64 := Aside0.mk (show (nums .u64 (pad64 (sched ck 0))).toArray.size = 64 from by rw [List.size_toArray, nums_length]; exact pad64_len _ (by rw [sched0_len]; decide))
                  have HWU := Aside0.mk (sched0_U (HCK.out ▸ chunk_by HBP.out k) HCL.out)
                  have HNB := Aside0.mk (show (nums .u64 (blk (stN zs k) (sched ck 0))).toArray.size = 8 from by rw [List.size_toArray, nums_length]; exact blk_len _ _ HST.out.1)
                  have hat3 : at_ < 35184372088832 := by have := HLT.out; have := HZM.out.2; omega
                  clear hlt hi
                  go_wp2_with (first
                    | (with_reducible refine op_load rfl 83 _ rfl g7 rfl 83 _ _ HG7.out Try.underlying83 rfl 8 sz83 HC8.out ?_)
                    | (with_reducible refine op_load rfl 81 _ rfl g9 rfl 81 _ _ HGW.out Try.underlying81 rfl 64 sz81 HC64.out ?_)
                    | (with_reducible refine op_load rfl 81 _ rfl g3 rfl 81 _ _ HG3.out Try.underlying81 rfl 64 sz81 HKS.out ?_)
                    | ((with_reducible refine (block_calls _ (stN zs k) (sched ck 0) HST.out.1 (sched0_len _) HST.out.2 HWU.out).mono ?_); rintro _ W4 ⟨rfl, hb4⟩; have HO7 := Aside0.mk (show W4.heap[g7]? = some (.cells (nums .u64 (stN zs k)).toArray 83 (0, 0)) from (hb4.block _ (blk_lt HG7.out)).trans HG7.out); have HB4 := Aside0.mk (HS9.out.rs.below.trans (hb4.mono HS9.out.rs.below.size)))
                    | ((with_reducible refine op_store (w0 := w) (o := ⟨none, .store 83 (.tmp 7) (.tmp 73), _, _, _, _⟩) w.heap.size ?_ 83 (.tmp 7) (.tmp 73) ?_ g7 (nums .u64 (blk (stN zs k) (sched ck 0))).toArray ?_ ?_ 83 _ HO7.out 8 sz83 HNB.out HC8.out (nums_all _ _) HB4.out HS9.out.rs.ne.2.2.2.1 ?_); rfl; rfl; rfl; rfl; intro wf hf1 hf2 hf3))
                  have HQ := Aside0.mk (show RS w wf g2 g3 g7 gp cur (stN zs (k + 1)) from by unfold stN; rw [HCK.out]; exact (HS9.out.rs.step hb4).wrote hf1.out hf2.out hf3.out)
                  go_roundw
                  case rel => exact ⟨k + 1, at_ + 64, by have h1 := HZM.out.1; have := HA.out; have := HLT.out; omega, by go_num, ⟨by have := HA.out; omega⟩, HQ⟩
                  case measure => have := HLT.out; simp [intOf]; omega
            · have hlt' : decide ((at_ : Int) < (zs.length : Int)) = false := by simp; omega
              have hlt2 : decide (at_ < zs.length) = false := by simp; omega
              have HKE := Aside0.mk (show k = zs.length / 64 from by have h1 := HZM.out.1; have := HA.out; omega)
              have HST := Aside0.mk (stN_ok HBP.out k (by have h1 := HZM.out.1; have := HA.out; omega))
              obtain ⟨L, hL⟩ : ∃ L, outB (stN zs k) = L := ⟨_, rfl⟩
              have HLE := Aside0.mk hL
              have HLL := Aside0.mk (hL ▸ outB_len (stN zs k))
              obtain ⟨g11, hg11⟩ : ∃ g, wr.heap.size = g := ⟨_, rfl⟩
              have HG11 := Aside0.mk hg11
              have HS11 := Aside0.mk (HS.out.eleven hg11 L)
              clear hL hg11 HS
              go_upto_region 21 with (first | ((with_reducible refine op_alloc rfl 25 rfl _ z25 ?_); simp only [HG11.out]))
              clear hlt' hlt2 hlt
              go_wp2
              go_loopw [12] (fun v wr => ∃ i : Nat, i ≤ 32 ∧ v = .int .i64 i ∧ Aside0 (RS11 w wr g2 g3 g7 gp g11 cur (stN zs k) L i)) (fun v _ => 32 - (intOf v).toNat)
              case atStart => exact ⟨0, by decide, rfl, HS11⟩
              case round =>
                clear HS11
                obtain ⟨i, hi, rfl, HS⟩ := hrel
                by_cases hlt : i < 32
                · have hlt' : decide ((i : Int) < 32) = true := by simp; omega
                  obtain ⟨q, hq⟩ : ∃ q, i / 4 = q := ⟨_, rfl⟩
                  obtain ⟨x, hx⟩ : ∃ x, (stN zs k).getD q 0 = x := ⟨_, rfl⟩
                  have HQ := Aside0.mk (HLE.out ▸ outB_get (stN zs k) q (by omega) x hx)
                  have hcx := HS.out.rs.r7.at q (by rw [HST.out.1]; omega) x hx
                  obtain ⟨hcl, hfr⟩ := HS.out.cell HLL.out hlt
                  have h1 : (i : Int) / 4 = (q : Int) := by omega
                  have hqq : (q : Int) < 8 := by omega
                  have HLT := Aside0.mk hlt
                  have hr : i % 4 = 0 ∨ i % 4 = 1 ∨ i % 4 = 2 ∨ i % 4 = 3 := by omega
                  rcases hr with hr | hr | hr | hr
                  · have h2 : (i : Int) % 4 = 0 := by omega
                    have HI := Aside0.mk (show i = 4 * q + 0 from by omega)
                    clear hx hlt hr hq
                    go_wp2
                    go_roundw
                    case rel => exact ⟨i + 1, by have := HLT.out; omega, by go_num, ⟨HS.out.set HLL.out HLT.out (by rw [HI.out]; exact HQ.out.1)⟩⟩
                    case measure => have := HLT.out; simp [intOf]; omega
                  · have h2 : (i : Int) % 4 = 1 := by omega
                    have HI := Aside0.mk (show i = 4 * q + 1 from by omega)
                    clear hx hlt hr hq
                    go_wp2
                    go_roundw
                    case rel => exact ⟨i + 1, by have := HLT.out; omega, by go_num, ⟨HS.out.set HLL.out HLT.out (by rw [HI.out]; exact HQ.out.2.1)⟩⟩
                    case measure => have := HLT.out; simp [intOf]; omega
                  · have h2 : (i : Int) % 4 = 2 := by omega
                    have HI := Aside0.mk (show i = 4 * q + 2 from by omega)
                    clear hx hlt hr hq
                    go_wp2
                    go_roundw
                    case rel => exact ⟨i + 1, by have := HLT.out; omega, by go_num, ⟨HS.out.set HLL.out HLT.out (by rw [HI.out]; exact HQ.out.2.2.1)⟩⟩
                    case measure => have := HLT.out; simp [intOf]; omega
                  · have h2 : (i : Int) % 4 = 3 := by omega
                    have HI := Aside0.mk (show i = 4 * q + 3 from by omega)
                    clear hx hlt hr hq
                    go_wp2
                    go_roundw
                    case rel => exact ⟨i + 1, by have := HLT.out; omega, by go_num, ⟨HS.out.set HLL.out HLT.out (by rw [HI.out]; exact HQ.out.2.2.2)⟩⟩
                    case measure => have := HLT.out; simp [intOf]; omega
                · obtain rfl : i = 32 := by omega
                  have HG11 := Aside0.mk (show wr.heap[g11]? = some (.cells (nums .u8 L).toArray 25 (0, 0)) from HS.out.full HLL.out)
                  have HG2 := Aside0.mk (show wr.heap[g2]? = some (.cells (nums .u8 zero25).toArray 25 (0, 0)) from HS.out.rs.r2)
                  have HLS := Aside0.mk (show (nums .u8 L).toArray.size = 32 from by simp [nums, HLL.out])
                  have HB9 := Aside0.mk HS.out.rs.below
                  have HG9 := Aside0.mk HS.out.rs.ne.2.2.2.2
                  have HRE := Aside0.mk (show L = refB bs from by rw [← HLE.out, HKE.out, HP.out.1]; rfl)
                  clear HS hlt
                  go_wp2_with (first
                    | (with_reducible refine op_load rfl 25 _ rfl g11 rfl 25 _ _ HG11.out Try.underlying25 rfl 32 sz25 HLS.out ?_)
                    | ((with_reducible refine op_store (w0 := w) (o := ⟨none, .store 25 (.tmp 2) (.tmp 90), _, _, _, _⟩) w.heap.size ?_ 25 (.tmp 2) (.tmp 90) ?_ g2 (nums .u8 L).toArray ?_ ?_ 25 _ HG2.out 32 sz25 HLS.out (by simp [nums, zero25]) (nums_all _ _) HB9.out HG9.out ?_); rfl; rfl; rfl; rfl; intro wf hf1 hf2 hf3))
                  refine ret_cell rfl g2 rfl 25 _ _ hf1.out Try.underlying25 rfl 32 sz25 HLS.out rfl ?_
                  exact ⟨by rw [HRE.out], hf3.out⟩
end Go.Proofs.Ytgpgblidplmchaa.Srs
namespace Go.Proofs.Ytgpgblidplmchaa.Sro
open Go.RowKit Go.Proofs.YtgpgblidplmchaaW.PrintWords Go.Proofs.YtgpgblidplmchaaW.PrintLast Go.Proofs.YtgpgblidplmchaaW.PrintMore
open Ag POct Sw Sk Sm Sx Sq Srb Ssm Spw Srs
set_option linter.unusedVariables false
set_option linter.unusedSimpArgs false
set_option maxRecDepth 100000
def pre2 (xs ys : List Int) : Nat → List Int
  | 0 => []
  | 1 => xs
  | _ => xs ++ ys
theorem rb_nil (w : World) (base : Nat) : RB w base (.slice none 0 0) [] := RB.of_own (own_nil _ _ _ _)
set_option maxHeartbeats 1000000 in
theorem refof_calls (w : World) (B : Nat) (A1 A2 : Option Addr) (c1 c2 : Nat) (xs ys : List Int) (h0 : w.cell? ⟨B, 0, none⟩ = some (.slice A1 xs.length c1)) (h1 : w.cell? ⟨B, 1, none⟩ = some (.slice A2 ys.length c2)) (hx : CB w A1 xs) (hy : CB w A2 ys) (hbx : By xs) (hby : By ys) (hl : xs.length + ys.length < 1099511000000) :
    Calls Try.prog 37 #[.slice (some ⟨B, 0, none⟩) 2 2] w fun e w' => e = .returned (.agg (nums .u8 (refB (xs ++ ys))).toArray) ∧ Below w.heap.size w w' := by
  have H0 := Aside0.mk h0; have H1 := Aside0.mk h1; have HX := Aside0.mk hx; have HY := Aside0.mk hy
  have HL := Aside0.mk hl; have HBY := Aside0.mk (⟨hbx, hby⟩ : By xs ∧ By ys)
  have hB := cell_lt h0
  clear h0 h1 hx hy hl hbx hby
  have HB0 := Aside0.mk ((Below.refl w.heap.size w).alloc (Nat.le_refl _) (.cells (nums .u8 zero25).toArray 25))
  have HR0 := Aside0.mk (show Rw .u8 25 (w.alloc (.cells (nums .u8 zero25).toArray 25)) w.heap.size zero25 from alloc_Rw w zero25)
  have HE1 := Aside0.mk (size_alloc w (.cells (nums .u8 zero25).toArray 25))
  go_enter Try.func37, Try.ntmps37
  go_wp2_with (first | (with_reducible refine op_alloc rfl 25 rfl _ z25 ?_))
  generalize w.alloc (.cells (nums .u8 zero25).toArray 25) = W1 at HB0 HR0 HE1 ⊢
  have HO0 := Aside0.mk (rb_nil W1 W1.heap.size)
  have HBW := Aside0.mk (Below.refl W1.heap.size W1)
  go_loopw [3, 4] (fun v u wr => ∃ (i : Nat) (zs : List Int) (A : Option Addr) (c : Nat), i ≤ 2 ∧ v = .slice A zs.length c ∧ u = .int .i64 i ∧ Aside0 (zs = pre2 xs ys i) ∧ Aside0 (RB wr W1.heap.size (.slice A zs.length c) zs) ∧ Aside0 (Below W1.heap.size W1 wr)) (fun v u _ => 2 - (intOf u).toNat)
  case atStart => exact ⟨0, [], none, 0, by decide, rfl, rfl, ⟨rfl⟩, HO0, HBW⟩
  case round =>
    clear HO0 HBW
    obtain ⟨i, zs, A, c, hi, rfl, rfl, HZ, HO, HB⟩ := hrel
    have HBA := Aside0.mk (HB0.out.trans (HB.out.mono HB0.out.size))
    by_cases hlt : i < 2
    · have h2 : i = 0 ∨ i = 1 := by omega
      clear hlt
      rcases h2 with rfl | rfl
      · simp only [show ((0 : Nat) : Int) = 0 from rfl]
        have hc : wr.cell? ⟨B, 0, none⟩ = some (.slice A1 xs.length c1) := (HBA.out.cell (p := ⟨B, 0, none⟩) hB).trans H0.out
        have HW := Aside0.mk (Kd.C_below HX.out HBA.out)
        go_wp2_with (at_builtin; refine app_row (w0 := W1) W1.heap.size rfl (.tmp 11) (.tmp 15) 37 rfl Try.underlying37 POct.info5 _ zs xs A1 c1 rfl rfl HO.out HW.out HB.out HB.out.size (by rw [HZ.out]; have := HL.out; simp [pre2]; omega) ?_; intro z3 B3 d3 w9 hz3 hd3 ho3 HB3; clear HW)
        go_roundw
        case rel => exact ⟨1, z3, B3, d3, by decide, rfl, rfl, ⟨by rw [hz3.out, HZ.out]; rfl⟩, ho3, HB3⟩
        case measure => exact (by decide : 2 - 1 < 2 - 0)
      · simp only [show ((1 : Nat) : Int) = 1 from rfl]
        have hc : wr.cell? ⟨B, 1, none⟩ = some (.slice A2 ys.length c2) := (HBA.out.cell (p := ⟨B, 1, none⟩) hB).trans H1.out
        have HW := Aside0.mk (Kd.C_below HY.out HBA.out)
        go_wp2_with (at_builtin; refine app_row (w0 := W1) W1.heap.size rfl (.tmp 11) (.tmp 15) 37 rfl Try.underlying37 POct.info5 _ zs ys A2 c2 rfl rfl HO.out HW.out HB.out HB.out.size (by rw [HZ.out]; have := HL.out; simp [pre2]; omega) ?_; intro z3 B3 d3 w9 hz3 hd3 ho3 HB3; clear HW)
        go_roundw
        case rel => exact ⟨2, z3, B3, d3, by decide, rfl, rfl, ⟨by rw [hz3.out, HZ.out]; rfl⟩, ho3, HB3⟩
        case measure => exact (by decide : 2 - 2 < 2 - 1)
    · obtain rfl : i = 2 := by omega
      have HC := Aside0.mk (Kd.R_reads' HO.out).2.2
      have HZB := Aside0.mk (show (∀ x ∈ zs, 0 ≤ x ∧ x < 256) ∧ zs.length < 1099511000000 from by rw [HZ.out]; exact ⟨fun x hx => (List.mem_append.1 hx).elim (HBY.out.1 x) (HBY.out.2 x), by have := HL.out; simp [pre2]; omega⟩)
      clear hlt hB
      go_wp2_with (first
        | ((with_reducible refine (refsum_calls _ A c zs HZB.out.2 HZB.out.1 HC.out).mono ?_); rintro _ W5 ⟨rfl, hb5⟩; have HR2 := Aside0.mk (show W5.heap[w.heap.size]? = some (.cells (nums .u8 zero25).toArray 25 (0, 0)) from (HR0.out.below HB.out HR0.out.lt).below hb5 (Nat.lt_of_lt_of_le HR0.out.lt HB.out.size)); have HB5 := Aside0.mk (HBA.out.trans (hb5.mono HBA.out.size)); have HS5 := Aside0.mk (show (nums .u8 (refB zs)).toArray.size = 32 from by simp [nums, refB, outB_len]))
        | ((with_reducible refine op_store (w0 := w) (o := ⟨none, .store 25 (.tmp 2) (.tmp 18), _, _, _, _⟩) w.heap.size ?_ 25 (.tmp 2) (.tmp 18) ?_ w.heap.size (nums .u8 (refB zs)).toArray ?_ ?_ 25 _ HR2.out 32 sz25 HS5.out (by simp [nums, zero25]) (nums_all _ _) HB5.out (Nat.le_refl _) ?_); rfl; rfl; rfl; rfl; intro wf hf1 hf2 hf3))
      refine ret_cell rfl w.heap.size rfl 25 _ _ hf1.out Try.underlying25 rfl 32 sz25 HS5.out rfl ?_
      exact ⟨by rw [HZ.out]; rfl, hf3.out⟩
end Go.Proofs.Ytgpgblidplmchaa.Sro
namespace Go.Proofs.Ytgpgblidplmchaa.Seq
open Go.RowKit Go.Proofs.YtgpgblidplmchaaW.PrintWords Go.Proofs.YtgpgblidplmchaaW.PrintLast Go.Proofs.YtgpgblidplmchaaW.PrintMore
open Ag POct Sw Sk Sm Sx Swr Sq Srb Ssm Spw Srs Sof
set_option linter.unusedVariables false
set_option linter.unusedSimpArgs false
theorem sched_ext (c : List Int) : ∀ p, sched c p = ext (sched c 0) p
  | 0 => rfl
  | p + 1 => by
    show sched c p ++ [nextw (sched c p)] = ext (sched c 0) p ++ [nextw (ext (sched c 0) p)]
    rw [sched_ext c p]
theorem one_block {s : Hs} {k : Nat} {c : List Int} (hs : HGood s (64 * k)) (hc : c.length = 64) : (wrote s c).st = blk s.st (sched c 0) ∧ HGood (wrote s c) (64 * k + 64) := by
  have hg := wrote_good c hs
  rw [hc] at hg
  refine ⟨?_, hg⟩
  have ht : s.n.toNat = 64 * k := by rw [hs.n]; rfl
  unfold wrote
  rw [fed_fold c hs (by omega) (by intro h; rw [h] at hc; simp at hc)]
  have hp : piece s c = ⟨s.st, c, s.n + c.length⟩ := by
    unfold piece
    rw [ht, show 64 * k % 64 = 0 from by omega]
    congr 1
    unfold splice
    rw [hc, List.take_zero, List.drop_of_length_le (by rw [hs.wait]; omega)]
    simp
  unfold fed
  rw [if_pos (by rw [ht]; omega), hp]
  unfold mixed blk
  simp only
  rw [sched_ext c 48]
theorem blocks (P : List Int) : ∀ k, 64 * k ≤ P.length → (wrote hs0 (P.take (64 * k))).st = stN P k ∧ HGood (wrote hs0 (P.take (64 * k))) (64 * k)
  | 0, _ => ⟨rfl, hs0_good⟩
  | k + 1, hk => by
    obtain ⟨h1, h2⟩ := blocks P k (by omega)
    have e : P.take (64 * (k + 1)) = P.take (64 * k) ++ chunk P k := by
      unfold chunk
      rw [show 64 * (k + 1) = 64 * k + 64 from by omega, List.take_add]
    obtain ⟨h3, h4⟩ := one_block h2 (chunk_len P k (by omega))
    have ew : wrote hs0 (P.take (64 * (k + 1))) = wrote (wrote hs0 (P.take (64 * k))) (chunk P k) := by
      rw [e]; exact List.foldl_append ..
    rw [ew, h3, h1]
    exact ⟨rfl, by rw [show 64 * (k + 1) = 64 * k + 64 from by omega]; exact h4⟩
theorem sum_is (bs : List Int) : sumB (wrote hs0 bs) bs.length = refB bs := by
  unfold sumB refB
  have e : wrote (wrote hs0 bs) (tl ((119 - bs.length % 64) % 64) ++ be8 bs.length) = wrote hs0 (padded bs) := by
    unfold wrote padded
    rw [← List.foldl_append, List.append_assoc]
  rw [e]
  have hm := padded_mul bs
  have hk : 64 * ((padded bs).length / 64) = (padded bs).length := by omega
  have := (blocks (padded bs) ((padded bs).length / 64) (by omega)).1
  rw [hk, List.take_length] at this
  rw [this]
end Go.Proofs.Ytgpgblidplmchaa.Seq
