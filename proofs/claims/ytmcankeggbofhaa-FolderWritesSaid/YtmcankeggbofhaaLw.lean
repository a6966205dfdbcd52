/- The walk of the law FolderWrites. -/
import Derived.Test.YtmcankeggbofhaaLs
namespace Go.Proofs.Ytmcankeggbofhaa.Lw
open Go.RowKit Go.Proofs.YtmcankeggbofhaaW.PrintWords Go.Proofs.YtmcankeggbofhaaW.PrintLast Go.Proofs.YtmcankeggbofhaaW.PrintMore
open It Nm Ag My Spc By Im Iw Ip Tk Tl Tg Ie Bg Lr Lb Go.Proofs.Ytmcankeggbofhaa.Fd Fe Ff Ls Tw
set_option linter.unusedVariables false
set_option linter.unusedSimpArgs false
set_option maxRecDepth 100000
theorem flat_len {l : List Itm} (h : ∀ x ∈ l, Ok x) : (l.flatMap cellsOf).length = l.length * 35 := by
  induction l with
  | nil => rfl
  | cons x l ih =>
    rw [List.flatMap_cons, List.length_append, cells_len (h x (by simp)), ih (fun y hy => h y (by simp [hy])), List.length_cons]
    omega
theorem flat_get {l : List Itm} (h : ∀ x ∈ l, Ok x) (t : List Value) (j : Nat) (p : Itm) (hj : l[j]? = some p) (i : Nat) (hi : i < 35) : ((l.flatMap cellsOf) ++ t)[j * 35 + i]? = (cellsOf p)[i]? := by
  induction l generalizing j with
  | nil => simp at hj
  | cons x l ih =>
    have hx := cells_len (h x (by simp))
    rw [List.flatMap_cons, List.append_assoc]
    cases j with
    | zero =>
      simp at hj
      subst hj
      rw [List.getElem?_append_left (by omega)]
      congr 1
      omega
    | succ j =>
      simp at hj
      rw [List.getElem?_append_right (by omega), hx, ← ih (fun y hy => h y (by simp [hy])) j hj]
      congr 1
      omega
/-- a row of items with room for two more, both zero -/
def Roomy (w : World) (g : Nat) (l : List Itm) : Prop := w.heap[g]? = some (.cells ((l.flatMap cellsOf) ++ (cellsOf item0 ++ cellsOf item0)).toArray 28 (0, 0))
theorem Roomy.CI {w : World} {g : Nat} {l : List Itm} (h : Roomy w g l) (ho : ∀ x ∈ l, Ok x) (hm : l.length ≤ 9223372036854775807) : CI w (some ⟨g, 0, none⟩) l := by
  refine ⟨rfl, hm, fun _ => ⟨_, rfl, fun j p hj => ?_⟩⟩
  have hp := ho p (List.mem_of_getElem? hj)
  refine ⟨cellsOf p, cells_len hp, ⟨rfl, hp⟩, fun i u hu => ?_⟩
  have hi : i < 35 := by
    rcases Nat.lt_or_ge i 35 with h | h
    · exact h
    · rw [List.getElem?_eq_none (by rw [cells_len hp]; exact h)] at hu; cases hu
  have e : (⟨g, 0, none⟩ : Addr).add (j * kd.sz + i) = ⟨g, j * 35 + i, none⟩ := by
    show (⟨g, 0, none⟩ : Addr).add (j * 35 + i) = _
    unfold Addr.add
    by_cases h0 : j * 35 + i = 0
    · rw [if_pos h0, h0]
    · rw [if_neg h0]; simp
  rw [e, blk_cell h, List.getElem?_toArray, flat_get ho _ j p hj i hi]
  exact hu
theorem Roomy.spare {w : World} {g : Nat} {l : List Itm} (h : Roomy w g l) (ho : ∀ x ∈ l, Ok x) : (Instr.loadAt 28 (.pointer (some ⟨g, l.length * 35, none⟩))).run Try.prog w = .ok (.agg (cellsOf item0).toArray) w := by
  refine run_loadVar_at ⟨g, l.length * 35, none⟩ 28 (cellsOf item0) _ (fun j v hj => ?_) Try.underlying28 rfl (by rw [info28, cells_len ok0])
  have hi : j < 35 := by
    rcases Nat.lt_or_ge j 35 with h | h
    · exact h
    · rw [List.getElem?_eq_none (by rw [cells_len ok0]; exact h)] at hj; cases hj
  have e : (⟨g, l.length * 35, none⟩ : Addr).add j = ⟨g, l.length * 35 + j, none⟩ := by
    unfold Addr.add
    by_cases h0 : j = 0
    · rw [if_pos h0, h0]; rfl
    · rw [if_neg h0]
  rw [e, blk_cell h, List.getElem?_toArray, List.getElem?_append_right (by rw [flat_len ho]; omega), flat_len ho, List.getElem?_append_left (by rw [cells_len ok0]; omega)]
  rw [show l.length * 35 + j - l.length * 35 = j by omega]
  exact hj
theorem made_drop (n : Nat) : (madeCells (cellsOf item0).toArray ((n + 2) * 35)).toList.drop (n * 35) = cellsOf item0 ++ cellsOf item0 := by
  have h35 : (cellsOf item0).length = 35 := cells_len ok0
  apply List.ext_getElem
  · simp [size_madeCells, h35]; omega
  · intro k h1 h2
    have hk : k < 70 := by simpa [h35] using h2
    simp only [List.getElem_drop, madeCells, Array.toList_map, Array.toList_range, List.getElem_map, List.getElem_range, List.size_toArray, h35]
    have hm : (n * 35 + k) % 35 = k % 35 := by omega
    rw [hm]
    by_cases hlt : k < 35
    · rw [List.getElem_append_left (by omega)]
      have : k % 35 = k := by omega
      rw [this, getElem!_pos _ k (by simp [h35]; exact hlt)]
      simp
    · rw [List.getElem_append_right (by omega)]
      have : k % 35 = k - 35 := by omega
      rw [this, getElem!_pos _ (k - 35) (by simp [h35]; omega)]
      simp [h35]
theorem make_run (n : Nat) (hn : n ≤ 1000) (W : World) : (Instr.makeSlice 22 (.int .i64 0) (.int .i64 ((n : Int) + 2))).run Try.prog W = .ok (.slice (some ⟨W.heap.size, 0, none⟩) 0 (n + 2)) (W.alloc (.cells (madeCells (cellsOf item0).toArray ((n + 2) * 35)) 28)) := by
  obtain ⟨ie, hi, hz⟩ := Option.map_eq_some_iff.1 info28b
  simp only [Prod.mk.injEq] at hz
  have := run_make (P := Try.prog) W 22 28 ie _ Try.underlying22 hi hz.1 .i64 .i64 0 ((n : Int) + 2) (by omega) (by omega) (by rw [hz.2.2]; omega) (by omega)
  rw [hz.2.1, show ((n : Int) + 2).toNat = n + 2 by omega] at this
  exact this
section
variable {ops : Array Oper} {rest : List Oper} {o : Oper} {a : Act} {Q : Exit → Act → World → Prop}
theorem op_app_room {W : World} (hgd : o.guard = none) (s x : Operand) (ho : o.op = .call { callee := .builtin .append, args := #[s, x], argTypes := #[22, 22] }) (g cap : Nat) (cur : Array Value) (A : Option Addr) (c : Nat) (l : List Itm) (hs : a.eval s = .slice (some ⟨g, 0, none⟩) 0 cap) (hx : a.eval x = .slice A l.length c)
    (hr : CI W A l) (hok : ∀ x ∈ l, Ok x) (hg : W.heap[g]? = some (.cells cur 28 (0, 0))) (hcap : l.length ≤ cap) (hsz : cur.size = cap * 35)
    (h : wpList Try.prog ops Q rest (a.put o.dst (.slice (some ⟨g, 0, none⟩) l.length cap)) (W.setRow g ((l.flatMap cellsOf) ++ cur.toList.drop (l.length * 35)).toArray)) : wpList Try.prog ops Q (o :: rest) a W := by
  refine wpList_plain hgd fun K hK' => ?_
  obtain ⟨ie, hi, hz⟩ := Option.map_eq_some_iff.1 info28b
  simp only [Prod.mk.injEq] at hz
  have hrun : (Builtin.append_ #[22, 22] o.type #[.slice (some ⟨g, 0, none⟩) 0 cap, .slice A l.length c]).run Try.prog W = .ok (.slice (some ⟨g, 0, none⟩) l.length cap) (W.setRow g ((l.flatMap cellsOf) ++ cur.toList.drop (l.length * 35)).toArray) := by
    rcases Nat.eq_zero_or_pos l.length with h0 | h0
    · have hl := List.eq_nil_of_length_eq_zero h0
      subst hl
      have e : (([] : List Itm).flatMap cellsOf ++ cur.toList.drop (([] : List Itm).length * 35)).toArray = cur := by simp
      rw [e, setRow_self W g cur 28 (0, 0) hg]
      cases A with
      | none => simp [Builtin.append_, run_underlying Try.underlying22, sizeOf, typeInfo, hi, Builtin.lenOf, Builtin.firstCells, storeCells]
      | some ad =>
        have hfc := run_firstCells_some (P := Try.prog) W ie.size 0 ad 0 c [] (by simp) (by simp)
        simp [Builtin.append_, run_underlying Try.underlying22, sizeOf, typeInfo, hi, Builtin.lenOf, hfc, storeCells]
    · obtain ⟨ad, rfl, hc⟩ := CI.cells hr h0
      have hcells : ∀ j u, (l.flatMap cellsOf)[j]? = some u → W.cell? (ad.add j) = some u := by
        intro j u hu
        have hj : j < l.length * 35 := by
          rcases Nat.lt_or_ge j (l.length * 35) with h | h
          · exact h
          · rw [List.getElem?_eq_none (by rw [flat_len hok]; exact h)] at hu; cases hu
        have hq : j / 35 < l.length := by omega
        have e := flat_get hok [] (j / 35) l[j / 35] (List.getElem?_eq_getElem hq) (j % 35) (by omega)
        rw [List.append_nil, show j / 35 * 35 + j % 35 = j by omega] at e
        rw [e] at hu
        have := (hc (j / 35) hq).2 (j % 35) u hu
        rw [show j / 35 * 35 + j % 35 = j by omega] at this
        exact this
      have hone : ∀ u ∈ l.flatMap cellsOf, u.oneCell' = true := by
        intro u hu
        obtain ⟨y, _, hy⟩ := List.mem_flatMap.1 hu
        exact cells_one y u hy
      have hfc := run_firstCells_some (P := Try.prog) W ie.size l.length ad l.length c (l.flatMap cellsOf) (by rw [flat_len hok, hz.2.1]) hcells
      have hst := run_storeCells_at Try.prog g 0 28 (l.flatMap cellsOf) 0 cur W hg (by rw [flat_len hok, hsz]; omega) hone
      simp only [Nat.zero_add, Nat.add_zero, List.take_zero, List.nil_append] at hst
      rw [flat_len hok] at hst
      simp [Builtin.append_, run_underlying Try.underlying22, sizeOf, typeInfo, hi, Builtin.lenOf, hcap, hfc, Addr.add_lit, hst]
  unfold Oper.wp
  simp [execOp, ho, resolve, invoke, builtin, hs, hx, hrun, Result.andThen]
  exact hK' _ _ h
theorem event_on {P : Program} {W w1 : World} {v : Value} (hw : Region.wanted o (yielded ops a.tmps) = true) (hrun : (execOp a.eval o).run P W = .ok (.value v) w1) (h : wpList P ops Q rest (a.put o.dst v) w1) : wpList P ops Q (o :: rest) a W := by
  rw [wpList, if_pos hw]
  refine .inl ?_
  unfold Oper.wp
  rw [hrun]
  exact h
end
set_option maxHeartbeats 12800000 in
theorem writes_go (A : Option Addr) (c : Nat) (l : List Itm) (w : World) (hr : CI w A l) (hc : l.length ≤ c) (hok : okI l) (hli : Li.lightB l = true) :
    Calls Try.prog 4 #[.slice A l.length c] w fun e w' => e = .returned (.bool true) ∧ Below w.heap.size w w' := by
  have HR := Aside0.mk hr; have HC := Aside0.mk hc
  have HMX := Aside0.mk hr.2.1
  have HLI := Aside0.mk (fun w h => light_false (l := l) w A c h hc)
  rw [hli] at HLI
  have h100 : l.length ≤ 100 := by
    unfold Li.lightB at hli
    rw [Bool.and_eq_true] at hli
    exact of_decide_eq_true hli.1
  have hnn := light_names hli
  have HOK := Aside0.mk (fun x hx => (hok x hx).1)
  have HB1 := Aside0.mk (fun A c W h (hc : l.length ≤ c) => bytes_calls A c l W h hc hr.2.1 hok)
  have HB2 := Aside0.mk (fun W h => Rb.ref_bytes_calls A c l W h hc hr.2.1 hok hnn)
  have HM1 := Aside0.mk (fun A c W h (hc : l.length ≤ c) => may_calls A c l W h hc hr.2.1)
  have HM2 := Aside0.mk (fun W h => Rm.ref_may_calls A c l W h hc hr.2.1 hnn)
  obtain ⟨zs, nz, hz⟩ : ∃ zs nz, bytesOut l = (zs, nz) := ⟨_, _, rfl⟩
  rw [hz] at HB1 HB2
  obtain ⟨mb, hmb⟩ : ∃ mb, mayL l = mb := ⟨_, rfl⟩
  rw [hmb] at HM1 HM2
  obtain ⟨n, hn⟩ : ∃ n, Aside0 (n = l.length) := ⟨_, ⟨rfl⟩⟩
  have HMK := Aside0.mk (make_run l.length (by omega))
  have hmk := HMK.out
  have H100 := Aside0.mk h100
  clear hr hc hok hli hz hmb hnn HMK hn
  go_enter Try.func4, Try.ntmps4
  go_wp2_with fail
  refine (begun_calls _).mono ?_
  rintro e0 w0 ⟨rfl, hb0⟩
  have HB0 := Aside0.mk hb0
  clear hb0
  go_wp2_with fail
  refine (HLI.out _ (Kd.C_below HR.out HB0.out)).mono ?_
  rintro e1 w1 ⟨rfl, hb1⟩
  have HBa := Aside0.mk (below_step HB0.out hb1)
  clear hb1 HB0
  have HBm := Aside0.mk (HBa.out.alloc HBa.out.size (.cells (madeCells (cellsOf item0).toArray ((l.length + 2) * 35)) 28))
  have hgm := Aside0.mk (heap_alloc_new w1 (.cells (madeCells (cellsOf item0).toArray ((l.length + 2) * 35)) 28))
  go_wp2_with (at_builtin; refine op_app_room rfl (.tmp 17) (.tmp 18) rfl w1.heap.size (l.length + 2) _ A c l rfl rfl (Kd.C_below HR.out HBm.out) HOK.out hgm.out (by omega) (by rw [size_madeCells]) ?_)
  have hR0 := Aside0.mk (show Roomy ((w1.alloc (.cells (madeCells (cellsOf item0).toArray ((l.length + 2) * 35)) 28)).setRow w1.heap.size ((l.flatMap cellsOf) ++ (madeCells (cellsOf item0).toArray ((l.length + 2) * 35)).toList.drop (l.length * 35)).toArray) w1.heap.size l by have := setRow_heap _ w1.heap.size _ ((l.flatMap cellsOf) ++ (madeCells (cellsOf item0).toArray ((l.length + 2) * 35)).toList.drop (l.length * 35)).toArray 28 (0, 0) hgm.out; rw [made_drop] at this ⊢; exact this)
  have HBr := Aside0.mk (below_setRow HBm.out HBa.out.size ((l.flatMap cellsOf) ++ (madeCells (cellsOf item0).toArray ((l.length + 2) * 35)).toList.drop (l.length * 35)).toArray)
  generalize (w1.alloc (.cells (madeCells (cellsOf item0).toArray ((l.length + 2) * 35)) 28)).setRow w1.heap.size ((l.flatMap cellsOf) ++ (madeCells (cellsOf item0).toArray ((l.length + 2) * 35)).toList.drop (l.length * 35)).toArray = w2 at hR0 HBr ⊢
  generalize w1.heap.size = g at hR0 ⊢
  clear hmk HBm hgm HBa HLI
  go_loopw [4] (fun u wr => ∃ j : Nat, j ≤ 2 ∧ u = .int .i64 j ∧ Aside0 (Below w.heap.size w wr) ∧ Aside0 (Roomy wr g l)) (fun u _ => 2 - (intOf u).toNat)
  case atStart => exact ⟨0, by omega, rfl, HBr, hR0⟩
  case round =>
    clear HBr hR0
    obtain ⟨j, hj, rfl, HBj, HRj⟩ := hrel
    by_cases hlt : j < 2
    · have dj : decide ((j : Int) < 2) = true := decide_eq_true (by omega)
      have hgl := Aside0.mk (blk_lt HRj.out)
      go_wp2_with fail
      refine (HB1.out (some ⟨g, 0, none⟩) (l.length + 2) wr (HRj.out.CI HOK.out HMX.out) (by omega)).mono ?_
      rintro e3 w3 ⟨v3, rfl, ho3, hb3⟩
      have HB3 := Aside0.mk (below_step HBj.out hb3)
      have HR3 := Aside0.mk (show Roomy w3 g l from (hb3.block _ hgl.out).trans HRj.out)
      have HO3 := Aside0.mk ho3
      have HBA : Aside0 (∀ k_, v3.ownBlock = some k_ → g < k_ ∧ w.heap.size ≤ k_) := ⟨fun k_ hk_ => by have h1_ := Kd.R_base ho3 k_ hk_; have h2_ := hgl.out; have h3_ := HBj.out.size; omega⟩
      clear ho3 hb3
      go_wp2_with fail
      refine (HB2.out w3 (Kd.C_below HR.out HB3.out)).mono ?_
      rintro e4 w4 ⟨v4, rfl, ho4, hb4⟩
      have HB4 := Aside0.mk (below_step HB3.out hb4)
      have HR4 := Aside0.mk (show Roomy w4 g l from (hb4.block _ (blk_lt HR3.out)).trans HR3.out)
      have HO4 := Aside0.mk (Kd.R_below HO3.out hb4)
      have hcva := own_string (P := Try.prog) Try.underlying33 Try.underlying5 Try.underlying9 (RB.own HO4.out)
      have hcvb := own_string (P := Try.prog) Try.underlying33 Try.underlying5 Try.underlying9 (RB.own ho4)
      clear ho4 hb4 HR3 HB3 HO3
      go_wp2_with fail
      refine (HM1.out (some ⟨g, 0, none⟩) (l.length + 2) w4 (HR4.out.CI HOK.out HMX.out) (by omega)).mono ?_
      rintro e5 w5 ⟨rfl, hb5⟩
      have HB5 := Aside0.mk (below_step HB4.out hb5)
      have HR5 := Aside0.mk (show Roomy w5 g l from (hb5.block _ (blk_lt HR4.out)).trans HR4.out)
      have HO5 := Aside0.mk (Kd.R_below HO4.out hb5)
      clear hb5 HR4 HB4 HO4 hcva hcvb
      go_wp2_with fail
      refine (HM2.out w5 (Kd.C_below HR.out HB5.out)).mono ?_
      rintro e6 w6 ⟨rfl, hb6⟩
      have HB6 := Aside0.mk (below_step HB5.out hb6)
      have HR6 := Aside0.mk (show Roomy w6 g l from (hb6.block _ (blk_lt HR5.out)).trans HR5.out)
      have HO6 := Aside0.mk (Kd.R_below HO5.out hb6)
      clear hb6 HR5 HB5 HO5
      go_wp2_with fail
      refine (alike_same (some ⟨g, 0, none⟩) A (l.length + 2) c l w6 (HR6.out.CI HOK.out HMX.out) (Kd.C_below HR.out HB6.out) (by omega) HC.out).mono ?_
      rintro e7 w7 ⟨rfl, hb7⟩
      have HB7 := Aside0.mk (below_step HB6.out hb7)
      have HR7 := Aside0.mk (show Roomy w7 g l from (hb7.block _ (blk_lt HR6.out)).trans HR6.out)
      have HO7 := Aside0.mk (Kd.R_below HO6.out hb7)
      have HLD := Aside0.mk (HR7.out.spare HOK.out)
      clear hb7 HR6 HB6 HO6
      go_wp2_with (first | (refine event_on rfl (load_run (x := .tmp 64) rfl rfl HLD.out) ?_) | (refine event_on rfl (build_run (parts := #[]) (ps := #[]) rfl rfl built00) ?_) | (refine event_on rfl (neq_run' (x := .tmp 65) (y := .tmp 66) (p := item0) rfl rfl rfl ok0) ?_))
      refine (spoil_calls v3 zs w7 _ _ HO7.out).mono ?_
      rintro e8 w8 ⟨rfl, hg8⟩
      have HB8 := Aside0.mk (HB7.out.grown hg8 HB7.out.size (fun k_ hk_ => (HBA.out k_ hk_).2))
      have HR8 := Aside0.mk (show Roomy w8 g l from blk_grown HR7.out hg8 (fun h => by have := (HBA.out _ h.symm).1; omega))
      clear hg8 HR7 HB7 HO7 HBA
      go_wp2_with fail
      go_roundw
      case rel => exact ⟨j + 1, by omega, by go_num, HB8, HR8⟩
      case measure => simp [intOf]; omega
    · have dj : decide ((j : Int) < 2) = false := decide_eq_false (by omega)
      go_wp2_with fail
      go_ret
      exact ⟨rfl, HBj.out⟩
theorem writes_walk (A : Option Addr) (c : Nat) (l : List Itm) (w : World) (hr : CI w A l) (hc : l.length ≤ c) (hok : okI l) (hbi : Fq.bytI l) :
    Calls Try.prog 4 #[.slice A l.length c] w fun e w' => e = .returned (.bool true) ∧ Below w.heap.size w w' := by
  cases hli : Li.lightB l with
  | true => exact writes_go A c l w hr hc hok hli
  | false =>
    have HR := Aside0.mk hr
    have HLI := Aside0.mk (fun w h => light_false (l := l) w A c h hc)
    rw [hli] at HLI
    clear hr hc hok hbi hli
    go_enter Try.func4, Try.ntmps4
    go_wp2_with fail
    refine (begun_calls _).mono ?_
    rintro e0 w0 ⟨rfl, hb0⟩
    go_wp2_with fail
    refine (HLI.out _ (Kd.C_below HR.out hb0)).mono ?_
    rintro e1 w1 ⟨rfl, hb1⟩
    have HB1 := Aside0.mk (below_step hb0 hb1)
    go_wp2_with fail
    go_ret
    exact ⟨rfl, HB1.out⟩
end Go.Proofs.Ytmcankeggbofhaa.Lw
