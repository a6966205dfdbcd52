/- An item found by its name: the document's Find. -/
import Derived.Test.YtmcankeggbofhaaFe
namespace Go.Proofs.Ytmcankeggbofhaa.Ff
open Go.RowKit Go.Proofs.YtmcankeggbofhaaW.PrintWords Go.Proofs.YtmcankeggbofhaaW.PrintLast Go.Proofs.YtmcankeggbofhaaW.PrintMore
open It Nm Ag My Spc By Im Iw Ip Tk Tl Tg Ie Lr Go.Proofs.Ytmcankeggbofhaa.Fd Fe
set_option linter.unusedVariables false
set_option linter.unusedSimpArgs false
set_option maxRecDepth 100000
set_option maxHeartbeats 3200000 in
theorem ref_find_calls (A : Option Addr) (c : Nat) (l : List Itm) (s : ByteArray) (w : World) (hr : CI w A l) (hc : l.length ≤ c) (hmx : l.length ≤ 9223372036854775807) (hnn : ∀ i, (at_ l i).name.size ≤ 4611686018427387904) :
    Calls Try.prog 12 #[.slice A l.length c, .string s] w fun e w' => e = .returned (.tuple #[.agg (cellsOf (findOut l s).1).toArray, .int .i64 (findOut l s).2]) ∧ Below w.heap.size w w' := by
  have HR := Aside0.mk hr; have HC := Aside0.mk hc
  have HB0 := Aside0.mk ((Below.refl w.heap.size w).alloc (Nat.le_refl _) (.cells (cellsOf item0).toArray 28))
  have hgC := Aside0.mk (show It (w.alloc (.cells (cellsOf item0).toArray 28)) w.heap.size item0 from heap_alloc_new w _)
  have HMY := Aside0.mk (fun W h => Rm.ref_may_calls A c l W h hc hmx hnn)
  clear hr hc hnn
  cases hm : mayL l with
  | false =>
    have hf : findOut l s = (item0, 1) := by unfold findOut; rw [if_neg (by rw [hm]; simp)]
    rw [hm] at HMY
    rw [hf]
    clear hm hf
    go_enter Try.func12, Try.ntmps12
    go_wp2_with (first | (with_reducible refine op_alloc rfl 28 rfl _ zero28 ?_))
    refine (HMY.out _ (Kd.C_below HR.out HB0.out)).mono ?_
    rintro e1 w1 ⟨rfl, hb1⟩
    have HB1 := Aside0.mk (below_step HB0.out hb1)
    have gC1 := Aside0.mk (show It w1 w.heap.size item0 from (hb1.block _ (blk_lt hgC.out)).trans hgC.out)
    clear hgC HB0 hb1
    go_wp2_with (first | (with_reducible refine op_build rfl 28 _ rfl (cellsOf item0).toArray (by rw [List.map_toArray]; exact built00) ?_) | (refine op_store (w0 := w) w.heap.size rfl 28 (.tmp 4) (.tmp 10) rfl w.heap.size (cellsOf item0).toArray rfl rfl 28 (cellsOf item0).toArray gC1.out 35 info28 (cells_sz ok0) (cells_sz ok0) (cells_all _) HB1.out (Nat.le_refl _) ?_; intro wz hgz _ HBz))
    exact ret_row rfl w.heap.size rfl 28 (cellsOf item0).toArray _ hgz.out Try.underlying28 rfl 35 info28 (cells_sz ok0) rfl ⟨rfl, HBz.out⟩
  | true =>
    have HM := Aside0.mk hm
    rw [hm] at HMY
    clear hm
    go_enter Try.func12, Try.ntmps12
    go_wp2_with (first | (with_reducible refine op_alloc rfl 28 rfl _ zero28 ?_))
    refine (HMY.out _ (Kd.C_below HR.out HB0.out)).mono ?_
    rintro e1 w1 ⟨rfl, hb1⟩
    have HB1 := Aside0.mk (below_step HB0.out hb1)
    have gC1 := Aside0.mk (show It w1 w.heap.size item0 from (hb1.block _ (blk_lt hgC.out)).trans hgC.out)
    clear hgC HB0 hb1
    go_wp2_with fail
    go_loop [6] (fun u => ∃ j : Nat, j ≤ l.length ∧ u = .int .i64 j ∧ Aside0 (∀ i, i < j → isN s (at_ l i) = false)) (fun u => l.length - (intOf u).toNat)
    case atStart => exact ⟨0, by omega, rfl, ⟨fun i hi => absurd hi (by omega)⟩⟩
    case round =>
      obtain ⟨j, hj, rfl, HJ⟩ := hrel
      by_cases hlt : j < l.length
      · obtain ⟨ad, hA, hok, hn, hld⟩ := item_at (Kd.C_below HR.out HB1.out) j hlt
        subst hA
        rw [← at_get l j hlt] at hn hok hld
        have HLD := Aside0.mk hld
        have HOK := Aside0.mk hok
        clear hld hok
        cases hq : isN s (at_ l j) with
        | true =>
          have HO := Aside0.mk (find_hit HM.out j hlt hq)
          have hq' : ((at_ l j).name.toList == s.toList) = true := hq
          obtain ⟨x, hx⟩ : ∃ x, at_ l j = x := ⟨_, rfl⟩
          rw [hx] at HLD HOK hq' hn HO
          clear hq hx HJ
          go_wp2_with (first | (refine op_load_at rfl 28 (.tmp 26) rfl _ _ rfl HLD.out ?_) | (refine op_store (w0 := w) w.heap.size rfl 28 (.tmp 4) (.tmp 27) rfl w.heap.size (cellsOf x).toArray rfl rfl 28 (cellsOf item0).toArray gC1.out 35 info28 (cells_sz HOK.out) (cells_sz ok0) (cells_all _) HB1.out (Nat.le_refl _) ?_; intro wz hgz _ HBz))
          exact ret_row rfl w.heap.size rfl 28 (cellsOf x).toArray _ hgz.out Try.underlying28 rfl 35 info28 (cells_sz HOK.out) rfl ⟨by rw [HO.out]; rfl, HBz.out⟩
        | false =>
          have hq' : ((at_ l j).name.toList == s.toList) = false := hq
          have HJn : Aside0 (∀ i, i < j + 1 → isN s (at_ l i) = false) := ⟨fun i hi => by
            by_cases h : i = j
            · subst h; exact hq
            · exact HJ.out i (by omega)⟩
          clear hq HLD HOK
          go_wp2_with fail
          go_round
          case rel => exact ⟨j + 1, by omega, by go_num, HJn⟩
          case measure => simp [intOf]; omega
      · obtain rfl : j = l.length := by omega
        have HO := Aside0.mk (find_miss HM.out HJ.out)
        go_wp2_with (first | (with_reducible refine op_build rfl 28 _ rfl (cellsOf item0).toArray (by rw [List.map_toArray]; exact built00) ?_) | (refine op_store (w0 := w) w.heap.size rfl 28 (.tmp 4) (.tmp 28) rfl w.heap.size (cellsOf item0).toArray rfl rfl 28 (cellsOf item0).toArray gC1.out 35 info28 (cells_sz ok0) (cells_sz ok0) (cells_all _) HB1.out (Nat.le_refl _) ?_; intro wz hgz _ HBz))
        exact ret_row rfl w.heap.size rfl 28 (cellsOf item0).toArray _ hgz.out Try.underlying28 rfl 35 info28 (cells_sz ok0) rfl ⟨by rw [HO.out]; rfl, HBz.out⟩
end Go.Proofs.Ytmcankeggbofhaa.Ff
