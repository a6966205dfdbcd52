/- begun: does folder do anything yet? -/
import Derived.Test.YtmcankeggbofhaaFq
namespace Go.Proofs.Ytmcankeggbofhaa.Bg
open Go.RowKit Go.Proofs.YtmcankeggbofhaaW.PrintWords Go.Proofs.YtmcankeggbofhaaW.PrintMore
open It Nm Ag My Spc By Im Iw Ip Tk Tl Tg OctC OctD Fp Fq
set_option linter.unusedVariables false
set_option linter.unusedSimpArgs false
set_option maxRecDepth 100000
def xa : Itm := ⟨⟨#[97]⟩, 1, List.replicate 32 0, 3⟩
theorem builtx : Try.prog.built 28 [(0, .string ⟨#[97]⟩), (1, .int .i64 1), (3, .int .i64 3)] = some (cellsOf xa).toArray := by kernel_rfl
theorem okx : Ok xa := by simp [Ok, xa]
theorem name_a : okName ⟨#[97]⟩ = true := by
  unfold okName hasB
  rw [ByteArray.toList_eq]
  rfl
theorem name_b : okName ⟨#[46, 46]⟩ = false := by
  unfold okName hasB
  rw [ByteArray.toList_eq]
  rfl
theorem mayx : mayL [xa] = true := by
  refine may_yes [xa] (by simp) (fun j hj => ?_)
  have : j = 0 := by simp at hj; omega
  subst this
  unfold stepB okItem
  rw [show (at_ [xa] 0).name = ⟨#[97]⟩ from rfl, name_a]
  rfl
theorem foldx_len : (foldB [xa]).length = 39 := by
  unfold foldB foldTo
  have h1 : leb xa.name.size = [1] := by rw [show xa.name.size = 1 from rfl, leb_small (by omega)]; rfl
  have h2 : leb xa.size.toNat = [3] := by rw [show xa.size.toNat = 3 from rfl, leb_small (by omega)]; rfl
  have h3 : leb ([xa] : List Itm).length = [1] := by rw [show ([xa] : List Itm).length = 1 from rfl, leb_small (by omega)]; rfl
  rw [h3]
  simp only [List.length_cons, List.length_nil, List.take_succ_cons, List.take_nil, List.flatMap_cons, List.flatMap_nil]
  unfold itemB
  rw [h1, h2]
  rfl
theorem okl : okI [xa] := fun x hx => by rw [List.mem_singleton.1 hx]; exact ⟨okx, by decide⟩
theorem bytl : bytI [xa] := fun x hx y hy => by
  rw [List.mem_singleton.1 hx] at hy
  have := List.eq_of_mem_replicate hy
  omega
theorem outx : bytesOut [xa] = (foldB [xa], 0) := by unfold bytesOut; rw [if_pos mayx, if_pos (by rw [foldx_len]; omega)]
theorem tookx : takeOut (foldB [xa]) = some [xa] := takeOut_fold mayx okl bytl (by rw [foldx_len]; omega)
theorem ci_lit (W : World) {x : Itm} (hok : Ok x) : CI (W.alloc (.cells (cellsOf x).toArray 28)) (some ⟨W.heap.size, 0, none⟩) [x] := by
  refine ⟨rfl, by simp, fun _ => ⟨_, rfl, fun j p hj => ?_⟩⟩
  have hj0 : j = 0 := by
    rcases Nat.eq_zero_or_pos j with h | h
    · exact h
    · rw [List.getElem?_eq_none (by simp; omega)] at hj; cases hj
  subst hj0
  obtain rfl : x = p := by simpa using hj
  refine ⟨cellsOf x, cells_len hok, ⟨rfl, hok⟩, fun i u hu => ?_⟩
  have e : (⟨W.heap.size, 0, none⟩ : Addr).add (0 * kd.sz + i) = ⟨W.heap.size, i, none⟩ := by
    rw [Nat.zero_mul, Nat.zero_add]
    unfold Addr.add
    by_cases h0 : i = 0
    · subst h0; rfl
    · simp [h0]
  rw [e, blk_cell (heap_alloc_new W _)]
  simpa using hu
set_option maxHeartbeats 3200000 in
theorem begun_calls (w : World) : Calls Try.prog 9 #[] w fun e w' => e = .returned (.bool true) ∧ Below w.heap.size w w' := by
  have HBx := Aside0.mk builtx
  have KA := Aside0.mk (fun w => name_calls ⟨#[97]⟩ w); have KB := Aside0.mk (fun w => name_calls ⟨#[46, 46]⟩ w)
  rw [name_a] at KA; rw [name_b] at KB
  obtain ⟨l, hl⟩ : ∃ l, Aside0 (l = [xa]) := ⟨_, ⟨rfl⟩⟩
  go_enter Try.func9, Try.ntmps9
  go_wp2_with (first | (refine op_build rfl 28 _ rfl (cellsOf xa).toArray (by rw [List.map_toArray]; exact HBx.out) ?_) | (refine op_lit1 rfl (.tmp 6) rfl xa okx rfl ?_))
  have HB := Aside0.mk ((Below.refl w.heap.size w).alloc (Nat.le_refl _) (.cells (cellsOf xa).toArray 28))
  refine (bytes_calls (some ⟨w.heap.size, 0, none⟩) 1 [xa] _ (ci_lit w okx) (by decide) (by decide) okl).mono ?_
  obtain ⟨bb, hbb⟩ : ∃ bb, Aside0 (bb = foldB [xa]) := ⟨_, ⟨rfl⟩⟩
  rw [outx, ← hbb.out]
  rintro e1 w1 ⟨v1, rfl, ho1, hb1⟩
  obtain ⟨A1, c1, rfl, hc1, hC1⟩ := Kd.R_reads ho1
  have HB1 := Aside0.mk (below_step HB.out hb1)
  have HC1 := Aside0.mk hC1
  have hln : bb.length = 39 := by rw [hbb.out]; exact foldx_len
  have HT := Aside0.mk (fun w h => take_calls A1 c1 bb w h hc1 (by rw [hbb.out]; exact foldB_byte mayx okl bytl))
  rw [show takeOut bb = some [xa] by rw [hbb.out]; exact tookx] at HT
  have HLN := Aside0.mk hln
  have HT2 : Aside0 (∀ w, CB w A1 bb → Calls Try.prog 20 #[.slice A1 39 c1] w fun e w' => ∃ v, e = .returned (.tuple #[v, .int .i64 0]) ∧ RI w' w.heap.size v [xa] ∧ Below w.heap.size w w') := ⟨by rw [← HLN.out]; exact HT.out⟩
  clear ho1 hb1 hC1 hc1 HB HT
  simp only [hln]
  clear hln
  go_wp2_with fail
  refine (HT2.out _ HC1.out).mono ?_
  rintro e2 w2 ⟨v2, rfl, ho2, hb2⟩
  obtain ⟨A2, c2, rfl, hc2, hC2⟩ := Kd.R_reads ho2
  have HB2 := Aside0.mk (below_step HB1.out hb2)
  obtain ⟨ad, rfl, _, hn, _⟩ := item_at hC2 0 (by simp)
  obtain ⟨sa, hsa, hsq⟩ : ∃ sa : ByteArray, Aside0 (sa = ⟨#[97]⟩) ∧ (sa.toList == [97]) = true := ⟨_, ⟨rfl⟩, by rw [ByteArray.toList_eq]; rfl⟩
  have hn2 : w2.cell? ad = some (.string sa) := by rw [hsa.out]; exact hn
  clear ho2 hb2 hC2 hc2 hn
  simp only [List.length_singleton]
  go_wp2_with (go_at_call 23; fail)
  refine (KA.out _).mono ?_
  rintro e3 w3 ⟨rfl, hw3⟩
  rw [hw3]
  clear hw3 w3
  go_wp2_with (go_at_call 23; fail)
  refine (KB.out _).mono ?_
  rintro e4 w4 ⟨rfl, hw4⟩
  rw [hw4]
  clear hw4 w4
  go_wp2_with fail
  go_ret
  exact ⟨rfl, HB2.out⟩
end Go.Proofs.Ytmcankeggbofhaa.Bg
