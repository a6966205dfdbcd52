/- Which bytes are a manifest: the walk of the program's Take, way by way. -/
import Derived.Test.YtdalckmbmcenbaaSb
import Derived.Test.YtdalckmbmcenbaaWTab
namespace Go.Proofs.Ytdalckmbmcenbaa.St
open Go.RowKit Go.Proofs.YtdalckmbmcenbaaW.PrintWords Go.Proofs.YtdalckmbmcenbaaW.PrintLast Go.Proofs.YtdalckmbmcenbaaW.PrintMore
open Sn Ag Spc Sb
set_option linter.unusedVariables false
set_option linter.unusedSimpArgs false
set_option maxRecDepth 100000

def man0 : Array Value := man (List.replicate 32 0) 0 ⟨#[]⟩
theorem man0_size : man0.size = 34 := by simp [man0, man, nums]
theorem man0_all : man0.all (·.oneCell') = true := man_all _ _ _
theorem zero25 : (Try.prog.info? 25).map (·.zero) = some (some (.agg man0)) := by kernel_rfl
theorem built0 : Try.prog.built 25 [] = some man0 := by kernel_rfl
theorem built (r : List Int) (t : Int) (s : ByteArray) (hr : r.length = 32) : Try.prog.built 25 [(0, .agg (nums .u8 r).toArray), (1, .int .i64 t), (2, .string s)] = some (man r t s) := by
  refine built_of zero25 Try.underlying25 (places := [(0, 32), (32, 1), (33, 1)]) (by kernel_rfl) ?_
  have h0 : man0.toList = nums .u8 (List.replicate 32 0) ++ [Value.int .i64 0, Value.string ⟨#[]⟩] := by simp [man0, man]
  rw [fill_one _ _ 0 _ _ 0 32 rfl (by simp [Value.cells, nums, hr]) (by simp [man0, man, nums])]
  rw [fill_one _ _ 1 _ _ 32 1 rfl (by simp [Value.cells]) (by simp [h0, Value.cells, nums, hr])]
  rw [fill_one _ _ 2 _ _ 33 1 rfl (by simp [Value.cells]) (by simp [h0, Value.cells, nums, hr])]
  simp only [Instr.fill]
  congr 1
  have hd : ∀ n, 32 ≤ n → (r.map fun x => Value.int .u8 x).drop n = [] := fun n hn => List.drop_of_length_le (by simp [hr]; omega)
  have ht : ∀ n, 32 ≤ n → (r.map fun x => Value.int .u8 x).take n = r.map fun x => Value.int .u8 x := fun n hn => List.take_of_length_le (by simp [hr]; omega)
  unfold man
  simp [h0, Value.cells, nums, hr, List.take_append, List.drop_append, hd, ht]

theorem info23s : (Try.prog.info? 23).map (·.size) = some 32 := by kernel_rfl
theorem time_in {tv : Int} (h0 : 0 ≤ tv) (h : decide (9223372036854775807 < tv) = false) : wrap64 tv = tv := by
  have : ¬ 9223372036854775807 < tv := of_decide_eq_false h
  exact w64_id (by omega) (by omega)
theorem pre_eq {p b : List Int} (hp : p = b.take (2 : Int).toNat) (h : b.take 2 = [83, 49]) : ((strOfNums p).toList == [83, 49]) = true := by
  have : p = [83, 49] := by rw [hp]; exact h
  subst this
  rw [ByteArray.toList_eq]; rfl
theorem pre_ne {p b : List Int} (hp : p = b.take (2 : Int).toNat) (hb : ∀ x ∈ b, 0 ≤ x ∧ x < 256) (h : b.take 2 ≠ [83, 49]) : ((strOfNums p).toList == [83, 49]) = false := by
  have hp2 : p = b.take 2 := hp
  rw [beq_eq_false_iff_ne, ByteArray.toList_eq, strOfNums_data]
  intro he
  apply h
  have h1 : bytesOf (strOfNums p) = p := bytesOf_str p (fun x hx => hb x (by rw [hp2] at hx; exact List.mem_of_mem_take hx))
  have h2 : bytesOf (strOfNums p) = [83, 49] := by unfold bytesOf; rw [strOfNums_data, he]; rfl
  rw [← hp2, ← h1, h2]
def rt10T : Bool × List (List Nat × List Nat) := (true, [([], []), ([], []), ([0, 1], [0, 1]), ([2], [2]), ([3], [3]), ([], []), ([5], [5]), ([], []), ([7], [7]), ([4, 6, 8], [4, 6, 8]), ([], []), ([10, 9, 0, 1, 2, 3, 4, 5, 6, 7, 8, 9, 10], [9, 10])])
def rt10B : List Nat := [0, 0, 3, 7, 15, 0, 32, 0, 128, 511, 0, 2047]
theorem rt10tab : rtab .any (opsOf Try.f13 10) = rt10T := by kernel_rfl
theorem rt10bits : waitsOk rt10T.2 rt10B = true := by kernel_rfl

set_option maxHeartbeats 3200000 in
theorem take_short (A : Option Addr) (c : Nat) (b : List Int) (w : World) (hr : CB w A b) (hc : b.length ≤ c) (hmx : b.length ≤ 100000) (hl : b.length < 34) :
    Calls Try.prog 13 #[.slice A b.length c] w fun e w' => e = .returned (.tuple #[.agg man0, .int .i64 4]) ∧ Below w.heap.size w w' := by
  have HR := Aside0.mk hr
  have HC := Aside0.mk hc
  have HB := Aside0.mk ((Below.refl w.heap.size w).alloc (Nat.le_refl _) (.cells man0 25))
  have hg := Aside0.mk (heap_alloc_new w (.cells man0 25))
  have d1 : decide ((b.length : Int) < 34) = true := by simp; omega
  clear hr hc
  go_enter Try.func13, Try.ntmps13
  go_wp2_with (first | (with_reducible refine op_alloc rfl 25 rfl man0 zero25 ?_) | (with_reducible refine op_build rfl 25 #[] rfl man0 built0 ?_) | (with_reducible refine op_store (w0 := w) w.heap.size rfl 25 (.tmp 2) (.tmp 20) rfl w.heap.size man0 rfl rfl 25 man0 hg.out 34 info25 man0_size man0_size man0_all HB.out (Nat.le_refl _) ?_; intro wz hgz _ HBz))
  exact ret_row rfl w.heap.size rfl 25 man0 _ hgz.out Try.underlying25 rfl 34 info25 man0_size rfl ⟨rfl, HBz.out⟩

set_option maxHeartbeats 3200000 in
theorem take_prefix (A : Option Addr) (c : Nat) (b : List Int) (w : World) (hr : CB w A b) (hc : b.length ≤ c) (hmx : b.length ≤ 100000) (hl : 34 ≤ b.length) (hpre : b.take 2 ≠ [83, 49]) (hby : ∀ x ∈ b, 0 ≤ x ∧ x < 256) :
    Calls Try.prog 13 #[.slice A b.length c] w fun e w' => e = .returned (.tuple #[.agg man0, .int .i64 4]) ∧ Below w.heap.size w w' := by
  have HR := Aside0.mk hr
  have HC := Aside0.mk hc
  have HB := Aside0.mk ((Below.refl w.heap.size w).alloc (Nat.le_refl _) (.cells man0 25))
  have hg := Aside0.mk (heap_alloc_new w (.cells man0 25))
  have d1 : decide ((b.length : Int) < 34) = false := by simp; omega
  obtain ⟨p2, hp2, hl2, hc2, hcut2, hC2⟩ := cut_take (P := Try.prog) 27 Try.underlying27 POct.info5 A c b 2 (by omega) (by omega) hc
  have hcv2 := Kd.C_string (P := Try.prog) (c := c) Try.underlying27 Try.underlying5 Try.underlying9 (Kd.C_below (hC2 w hr) HB.out)
  have hq : ((strOfNums p2).toList == [83, 49]) = false := pre_ne hp2 hby hpre
  clear hC2 hl2 hp2 hc2 hpre hby
  clear hr hc
  go_enter Try.func13, Try.ntmps13
  go_wp2_with (first | (with_reducible refine op_alloc rfl 25 rfl man0 zero25 ?_) | (with_reducible refine op_build rfl 25 #[] rfl man0 built0 ?_) | (with_reducible refine op_store (w0 := w) w.heap.size rfl 25 (.tmp 2) (.tmp 20) rfl w.heap.size man0 rfl rfl 25 man0 hg.out 34 info25 man0_size man0_size man0_all HB.out (Nat.le_refl _) ?_; intro wz hgz _ HBz))
  exact ret_row rfl w.heap.size rfl 25 man0 _ hgz.out Try.underlying25 rfl 34 info25 man0_size rfl ⟨rfl, HBz.out⟩

set_option maxHeartbeats 3200000 in
theorem take_at (A : Option Addr) (c : Nat) (b : List Int) (w : World) (hr : CB w A b) (hc : b.length ≤ c) (hmx : b.length ≤ 100000) (hl : 34 ≤ b.length) (hpre : b.take 2 = [83, 49]) (tv te : Int) (hat : Aside0 (POct.octet_At.f 40 b 34 8 = some (tv, te))) (hte : (te != 0) = true) :
    Calls Try.prog 13 #[.slice A b.length c] w fun e w' => e = .returned (.tuple #[.agg man0, .int .i64 4]) ∧ Below w.heap.size w w' := by
  have HR := Aside0.mk hr
  have HC := Aside0.mk hc
  have HB := Aside0.mk ((Below.refl w.heap.size w).alloc (Nat.le_refl _) (.cells man0 25))
  have hg := Aside0.mk (heap_alloc_new w (.cells man0 25))
  have d1 : decide ((b.length : Int) < 34) = false := by simp; omega
  obtain ⟨p2, hp2, hl2, hc2, hcut2, hC2⟩ := cut_take (P := Try.prog) 27 Try.underlying27 POct.info5 A c b 2 (by omega) (by omega) hc
  have hcv2 := Kd.C_string (P := Try.prog) (c := c) Try.underlying27 Try.underlying5 Try.underlying9 (Kd.C_below (hC2 w hr) HB.out)
  have hq : ((strOfNums p2).toList == [83, 49]) = true := pre_eq hp2 hpre
  clear hC2 hl2 hp2 hc2 hpre
  clear hr hc
  go_enter Try.func13, Try.ntmps13
  go_wp2_with (first | (with_reducible refine op_alloc rfl 25 rfl man0 zero25 ?_) | (with_reducible refine op_build rfl 25 #[] rfl man0 built0 ?_))
  refine (POct.octet_At.calls 40 A c b 34 8 tv te _ (Kd.C_below HR.out HB.out) HC.out hat.out).mono ?_
  rintro e1 w1 ⟨rfl, hd1⟩
  have hb1 := hd1.below
  have n0_ := Aside0.mk (below_step HB.out hb1)
  have n1_ := Aside0.mk ((hb1.block _ (by simp)).trans hg.out)
  clear HB hg hb1 hd1
  have HB := n0_; have hg := n1_
  have hgl : Aside0 (w.heap.size < w1.heap.size) := ⟨blk_lt hg.out⟩
  clear n0_ n1_ hcv2
  go_wp2_with (first | (with_reducible refine op_alloc rfl 25 rfl man0 zero25 ?_) | (with_reducible refine op_build rfl 25 #[] rfl man0 built0 ?_) | (with_reducible refine op_store (w0 := w) w.heap.size rfl 25 (.tmp 2) (.tmp 33) rfl w.heap.size man0 rfl rfl 25 man0 hg.out 34 info25 man0_size man0_size man0_all HB.out (Nat.le_refl _) ?_; intro wz hgz _ HBz))
  exact ret_row rfl w.heap.size rfl 25 man0 _ hgz.out Try.underlying25 rfl 34 info25 man0_size rfl ⟨rfl, HBz.out⟩

set_option maxHeartbeats 3200000 in
theorem take_time (A : Option Addr) (c : Nat) (b : List Int) (w : World) (hr : CB w A b) (hc : b.length ≤ c) (hmx : b.length ≤ 100000) (hl : 34 ≤ b.length) (hpre : b.take 2 = [83, 49]) (tv : Int) (hat : Aside0 (POct.octet_At.f 40 b 34 8 = some (tv, 0))) (htv : decide (9223372036854775807 < tv) = true) :
    Calls Try.prog 13 #[.slice A b.length c] w fun e w' => e = .returned (.tuple #[.agg man0, .int .i64 4]) ∧ Below w.heap.size w w' := by
  have HR := Aside0.mk hr
  have HC := Aside0.mk hc
  have HB := Aside0.mk ((Below.refl w.heap.size w).alloc (Nat.le_refl _) (.cells man0 25))
  have hg := Aside0.mk (heap_alloc_new w (.cells man0 25))
  have d1 : decide ((b.length : Int) < 34) = false := by simp; omega
  obtain ⟨p2, hp2, hl2, hc2, hcut2, hC2⟩ := cut_take (P := Try.prog) 27 Try.underlying27 POct.info5 A c b 2 (by omega) (by omega) hc
  have hcv2 := Kd.C_string (P := Try.prog) (c := c) Try.underlying27 Try.underlying5 Try.underlying9 (Kd.C_below (hC2 w hr) HB.out)
  have hq : ((strOfNums p2).toList == [83, 49]) = true := pre_eq hp2 hpre
  clear hC2 hl2 hp2 hc2 hpre
  obtain ⟨te, hte⟩ : ∃ te : Int, te = 0 := ⟨0, rfl⟩
  rw [← hte] at hat
  have htz : (te != 0) = false := by rw [hte]; rfl
  clear hte
  clear hr hc
  go_enter Try.func13, Try.ntmps13
  go_wp2_with (first | (with_reducible refine op_alloc rfl 25 rfl man0 zero25 ?_) | (with_reducible refine op_build rfl 25 #[] rfl man0 built0 ?_))
  refine (POct.octet_At.calls 40 A c b 34 8 tv te _ (Kd.C_below HR.out HB.out) HC.out hat.out).mono ?_
  rintro e1 w1 ⟨rfl, hd1⟩
  have hb1 := hd1.below
  have n0_ := Aside0.mk (below_step HB.out hb1)
  have n1_ := Aside0.mk ((hb1.block _ (by simp)).trans hg.out)
  clear HB hg hb1 hd1
  have HB := n0_; have hg := n1_
  have hgl : Aside0 (w.heap.size < w1.heap.size) := ⟨blk_lt hg.out⟩
  clear n0_ n1_ hcv2
  go_wp2_with (first | (with_reducible refine op_alloc rfl 25 rfl man0 zero25 ?_) | (with_reducible refine op_build rfl 25 #[] rfl man0 built0 ?_) | (with_reducible refine op_store (w0 := w) w.heap.size rfl 25 (.tmp 2) (.tmp 33) rfl w.heap.size man0 rfl rfl 25 man0 hg.out 34 info25 man0_size man0_size man0_all HB.out (Nat.le_refl _) ?_; intro wz hgz _ HBz))
  exact ret_row rfl w.heap.size rfl 25 man0 _ hgz.out Try.underlying25 rfl 34 info25 man0_size rfl ⟨rfl, HBz.out⟩

set_option maxHeartbeats 3200000 in
theorem take_text (A : Option Addr) (c : Nat) (b : List Int) (w : World) (hr : CB w A b) (hc : b.length ≤ c) (hmx : b.length ≤ 100000) (hl : 42 ≤ b.length) (hpre : b.take 2 = [83, 49]) (tv : Int) (hat : Aside0 (POct.octet_At.f 40 b 34 8 = some (tv, 0))) (htv : decide (9223372036854775807 < tv) = false) (lb : List Int) (n7 e7 : Int) (htx_ : Aside0 (POct.octet_TakeText.f 40 (b.drop 42) = some (lb, n7, e7))) (he7 : (e7 != 0) = true) :
    Calls Try.prog 13 #[.slice A b.length c] w fun e w' => e = .returned (.tuple #[.agg man0, .int .i64 4]) ∧ Below w.heap.size w w' := by
  have HR := Aside0.mk hr
  have HC := Aside0.mk hc
  have HB := Aside0.mk ((Below.refl w.heap.size w).alloc (Nat.le_refl _) (.cells man0 25))
  have hg := Aside0.mk (heap_alloc_new w (.cells man0 25))
  have d1 : decide ((b.length : Int) < 34) = false := by simp; omega
  obtain ⟨p2, hp2, hl2, hc2, hcut2, hC2⟩ := cut_take (P := Try.prog) 27 Try.underlying27 POct.info5 A c b 2 (by omega) (by omega) hc
  have hcv2 := Kd.C_string (P := Try.prog) (c := c) Try.underlying27 Try.underlying5 Try.underlying9 (Kd.C_below (hC2 w hr) HB.out)
  have hq : ((strOfNums p2).toList == [83, 49]) = true := pre_eq hp2 hpre
  clear hC2 hl2 hp2 hc2 hpre
  obtain ⟨te, hte⟩ : ∃ te : Int, te = 0 := ⟨0, rfl⟩
  rw [← hte] at hat
  have htz : (te != 0) = false := by rw [hte]; rfl
  clear hte
  obtain ⟨y7, A7, hy7, hl7, hc7_, hcut7, hC7⟩ := cut_drop (P := Try.prog) 27 Try.underlying27 POct.info5 A c b 42 (by omega) (by omega) hc
  have hc7 := Aside0.mk hc7_
  have hY7 := Aside0.mk hy7
  clear hc7_ hy7
  have htx : Aside0 (POct.octet_TakeText.f 40 y7 = some (lb, n7, e7)) := ⟨by rw [hY7.out]; exact htx_.out⟩
  clear hr hc
  go_enter Try.func13, Try.ntmps13
  go_wp2_with (first | (with_reducible refine op_alloc rfl 25 rfl man0 zero25 ?_) | (with_reducible refine op_build rfl 25 #[] rfl man0 built0 ?_))
  refine (POct.octet_At.calls 40 A c b 34 8 tv te _ (Kd.C_below HR.out HB.out) HC.out hat.out).mono ?_
  rintro e1 w1 ⟨rfl, hd1⟩
  have hb1 := hd1.below
  have n0_ := Aside0.mk (below_step HB.out hb1)
  have n1_ := Aside0.mk ((hb1.block _ (by simp)).trans hg.out)
  clear HB hg hb1 hd1
  have HB := n0_; have hg := n1_
  have hgl : Aside0 (w.heap.size < w1.heap.size) := ⟨blk_lt hg.out⟩
  clear n0_ n1_ hcv2
  go_wp2_with (first | (with_reducible refine op_alloc rfl 25 rfl man0 zero25 ?_) | (with_reducible refine op_build rfl 25 #[] rfl man0 built0 ?_))
  refine (POct.octet_TakeText.calls 40 A7 (c - 42) y7 lb n7 e7 w1 (hC7 w1 (Kd.C_below HR.out HB.out)) hc7.out htx.out).mono ?_
  rintro e2 w2 ⟨v2, rfl, ho2, hb2⟩
  have n0_ := Aside0.mk (below_step HB.out hb2)
  have n1_ := Aside0.mk ((hb2.block _ hgl.out).trans hg.out)
  have HO2 := Aside0.mk ho2
  clear HB hg hb2 ho2
  have HB := n0_; have hg := n1_
  clear n0_ n1_
  go_wp2_with (first | (with_reducible refine op_alloc rfl 25 rfl man0 zero25 ?_) | (with_reducible refine op_build rfl 25 #[] rfl man0 built0 ?_) | (with_reducible refine op_store (w0 := w) w.heap.size rfl 25 (.tmp 2) (.tmp 54) rfl w.heap.size man0 rfl rfl 25 man0 hg.out 34 info25 man0_size man0_size man0_all HB.out (Nat.le_refl _) ?_; intro wz hgz _ HBz))
  exact ret_row rfl w.heap.size rfl 25 man0 _ hgz.out Try.underlying25 rfl 34 info25 man0_size rfl ⟨rfl, HBz.out⟩

set_option maxHeartbeats 3200000 in
theorem take_long (A : Option Addr) (c : Nat) (b : List Int) (w : World) (hr : CB w A b) (hc : b.length ≤ c) (hmx : b.length ≤ 100000) (hl : 42 ≤ b.length) (hpre : b.take 2 = [83, 49]) (tv : Int) (hat : Aside0 (POct.octet_At.f 40 b 34 8 = some (tv, 0))) (htv : decide (9223372036854775807 < tv) = false) (lb : List Int) (n7 : Int) (htx_ : Aside0 (POct.octet_TakeText.f 40 (b.drop 42) = some (lb, n7, 0))) (hn0 : 0 ≤ n7) (hn1 : n7 ≤ 200000) (hne : (42 + n7 != (b.length : Int)) = true) :
    Calls Try.prog 13 #[.slice A b.length c] w fun e w' => e = .returned (.tuple #[.agg man0, .int .i64 4]) ∧ Below w.heap.size w w' := by
  have HR := Aside0.mk hr
  have HC := Aside0.mk hc
  have HB := Aside0.mk ((Below.refl w.heap.size w).alloc (Nat.le_refl _) (.cells man0 25))
  have hg := Aside0.mk (heap_alloc_new w (.cells man0 25))
  have d1 : decide ((b.length : Int) < 34) = false := by simp; omega
  obtain ⟨p2, hp2, hl2, hc2, hcut2, hC2⟩ := cut_take (P := Try.prog) 27 Try.underlying27 POct.info5 A c b 2 (by omega) (by omega) hc
  have hcv2 := Kd.C_string (P := Try.prog) (c := c) Try.underlying27 Try.underlying5 Try.underlying9 (Kd.C_below (hC2 w hr) HB.out)
  have hq : ((strOfNums p2).toList == [83, 49]) = true := pre_eq hp2 hpre
  clear hC2 hl2 hp2 hc2 hpre
  obtain ⟨te, hte⟩ : ∃ te : Int, te = 0 := ⟨0, rfl⟩
  rw [← hte] at hat
  have htz : (te != 0) = false := by rw [hte]; rfl
  clear hte
  obtain ⟨y7, A7, hy7, hl7, hc7_, hcut7, hC7⟩ := cut_drop (P := Try.prog) 27 Try.underlying27 POct.info5 A c b 42 (by omega) (by omega) hc
  have hc7 := Aside0.mk hc7_
  have hY7 := Aside0.mk hy7
  clear hc7_ hy7
  obtain ⟨e7, he7⟩ : ∃ e7 : Int, e7 = 0 := ⟨0, rfl⟩
  rw [← he7] at htx_
  have hez : (e7 != 0) = false := by rw [he7]; rfl
  clear he7
  have htx : Aside0 (POct.octet_TakeText.f 40 y7 = some (lb, n7, e7)) := ⟨by rw [hY7.out]; exact htx_.out⟩
  clear hr hc
  go_enter Try.func13, Try.ntmps13
  go_wp2_with (first | (with_reducible refine op_alloc rfl 25 rfl man0 zero25 ?_) | (with_reducible refine op_build rfl 25 #[] rfl man0 built0 ?_))
  refine (POct.octet_At.calls 40 A c b 34 8 tv te _ (Kd.C_below HR.out HB.out) HC.out hat.out).mono ?_
  rintro e1 w1 ⟨rfl, hd1⟩
  have hb1 := hd1.below
  have n0_ := Aside0.mk (below_step HB.out hb1)
  have n1_ := Aside0.mk ((hb1.block _ (by simp)).trans hg.out)
  clear HB hg hb1 hd1
  have HB := n0_; have hg := n1_
  have hgl : Aside0 (w.heap.size < w1.heap.size) := ⟨blk_lt hg.out⟩
  clear n0_ n1_ hcv2
  go_wp2_with (first | (with_reducible refine op_alloc rfl 25 rfl man0 zero25 ?_) | (with_reducible refine op_build rfl 25 #[] rfl man0 built0 ?_))
  refine (POct.octet_TakeText.calls 40 A7 (c - 42) y7 lb n7 e7 w1 (hC7 w1 (Kd.C_below HR.out HB.out)) hc7.out htx.out).mono ?_
  rintro e2 w2 ⟨v2, rfl, ho2, hb2⟩
  have n0_ := Aside0.mk (below_step HB.out hb2)
  have n1_ := Aside0.mk ((hb2.block _ hgl.out).trans hg.out)
  have HO2 := Aside0.mk ho2
  clear HB hg hb2 ho2
  have HB := n0_; have hg := n1_
  clear n0_ n1_
  go_wp2_with (first | (with_reducible refine op_alloc rfl 25 rfl man0 zero25 ?_) | (with_reducible refine op_build rfl 25 #[] rfl man0 built0 ?_) | (with_reducible refine op_store (w0 := w) w.heap.size rfl 25 (.tmp 2) (.tmp 54) rfl w.heap.size man0 rfl rfl 25 man0 hg.out 34 info25 man0_size man0_size man0_all HB.out (Nat.le_refl _) ?_; intro wz hgz _ HBz))
  exact ret_row rfl w.heap.size rfl 25 man0 _ hgz.out Try.underlying25 rfl 34 info25 man0_size rfl ⟨rfl, HBz.out⟩

set_option maxHeartbeats 3200000 in
theorem take_may (A : Option Addr) (c : Nat) (b : List Int) (w : World) (hr : CB w A b) (hc : b.length ≤ c) (hmx : b.length ≤ 100000) (hl : 42 ≤ b.length) (hpre : b.take 2 = [83, 49]) (tv : Int) (hat : Aside0 (POct.octet_At.f 40 b 34 8 = some (tv, 0))) (htv : decide (9223372036854775807 < tv) = false) (lb : List Int) (n7 : Int) (htx_ : Aside0 (POct.octet_TakeText.f 40 (b.drop 42) = some (lb, n7, 0))) (hn0 : 0 ≤ n7) (hn1 : n7 ≤ 200000) (hne : (42 + n7 != (b.length : Int)) = false) (hT0 : 0 ≤ tv) (hlb : lb.length ≤ 200000) (hmay : mayB tv (strOfNums lb) = false) :
    Calls Try.prog 13 #[.slice A b.length c] w fun e w' => e = .returned (.tuple #[.agg man0, .int .i64 4]) ∧ Below w.heap.size w w' := by
  have HR := Aside0.mk hr
  have HC := Aside0.mk hc
  have HB := Aside0.mk ((Below.refl w.heap.size w).alloc (Nat.le_refl _) (.cells man0 25))
  have hg := Aside0.mk (heap_alloc_new w (.cells man0 25))
  have d1 : decide ((b.length : Int) < 34) = false := by simp; omega
  obtain ⟨p2, hp2, hl2, hc2, hcut2, hC2⟩ := cut_take (P := Try.prog) 27 Try.underlying27 POct.info5 A c b 2 (by omega) (by omega) hc
  have hcv2 := Kd.C_string (P := Try.prog) (c := c) Try.underlying27 Try.underlying5 Try.underlying9 (Kd.C_below (hC2 w hr) HB.out)
  have hq : ((strOfNums p2).toList == [83, 49]) = true := pre_eq hp2 hpre
  clear hC2 hl2 hp2 hc2 hpre
  obtain ⟨te, hte⟩ : ∃ te : Int, te = 0 := ⟨0, rfl⟩
  rw [← hte] at hat
  have htz : (te != 0) = false := by rw [hte]; rfl
  clear hte
  obtain ⟨y7, A7, hy7, hl7, hc7_, hcut7, hC7⟩ := cut_drop (P := Try.prog) 27 Try.underlying27 POct.info5 A c b 42 (by omega) (by omega) hc
  have hc7 := Aside0.mk hc7_
  have hY7 := Aside0.mk hy7
  clear hc7_ hy7
  obtain ⟨e7, he7⟩ : ∃ e7 : Int, e7 = 0 := ⟨0, rfl⟩
  rw [← he7] at htx_
  have hez : (e7 != 0) = false := by rw [he7]; rfl
  clear he7
  have htx : Aside0 (POct.octet_TakeText.f 40 y7 = some (lb, n7, e7)) := ⟨by rw [hY7.out]; exact htx_.out⟩
  obtain ⟨r, A9, hr9, hl9, hc9_, hcut9, hC9⟩ := cut_mid (P := Try.prog) 27 Try.underlying27 POct.info5 A c b 2 34 (by omega) (by omega) (by omega) hc
  have hr32 : Aside0 (r.length = 32) := ⟨by omega⟩
  have harr := fun (cc : Nat) => array_at (P := Try.prog) 23 32 info22 A9 r.length cc (by omega)
  have hR9 := Aside0.mk hr9
  clear hr9 hl9 hc9_
  obtain ⟨s, hs⟩ : ∃ s, Aside0 (s = strOfNums lb) := ⟨_, ⟨rfl⟩⟩
  have htvw : wrap64 tv = tv := time_in hT0 htv
  have htvw2 : IntKind.i64.wrap tv = tv := (IntWalk.i64_left tv).trans (time_in hT0 htv)
  have hsz_ : Aside0 (s.size ≤ 200000) := ⟨by rw [hs.out, strOfNums_size]; exact hlb⟩
  have HM : Aside0 (mayB tv s = false) := ⟨by rw [hs.out]; exact hmay⟩
  clear hmay
  clear hr hc
  go_enter Try.func13, Try.ntmps13
  go_wp2_with (first | (with_reducible refine op_alloc rfl 25 rfl man0 zero25 ?_) | (with_reducible refine op_build rfl 25 #[] rfl man0 built0 ?_))
  refine (POct.octet_At.calls 40 A c b 34 8 tv te _ (Kd.C_below HR.out HB.out) HC.out hat.out).mono ?_
  rintro e1 w1 ⟨rfl, hd1⟩
  have hb1 := hd1.below
  have n0_ := Aside0.mk (below_step HB.out hb1)
  have n1_ := Aside0.mk ((hb1.block _ (by simp)).trans hg.out)
  clear HB hg hb1 hd1
  have HB := n0_; have hg := n1_
  have hgl : Aside0 (w.heap.size < w1.heap.size) := ⟨blk_lt hg.out⟩
  clear n0_ n1_ hcv2
  go_wp2_with (first | (with_reducible refine op_alloc rfl 25 rfl man0 zero25 ?_) | (with_reducible refine op_build rfl 25 #[] rfl man0 built0 ?_))
  refine (POct.octet_TakeText.calls 40 A7 (c - 42) y7 lb n7 e7 w1 (hC7 w1 (Kd.C_below HR.out HB.out)) hc7.out htx.out).mono ?_
  rintro e2 w2 ⟨v2, rfl, ho2, hb2⟩
  have n0_ := Aside0.mk (below_step HB.out hb2)
  have n1_ := Aside0.mk ((hb2.block _ hgl.out).trans hg.out)
  have HO2 := Aside0.mk ho2
  clear HB hg hb2 ho2
  have HB := n0_; have hg := n1_
  clear n0_ n1_
  go_wp2_with (first | (with_reducible refine op_alloc rfl 25 rfl man0 zero25 ?_) | (with_reducible refine op_build rfl 25 #[] rfl man0 built0 ?_))
  obtain ⟨ad, rfl, hadc⟩ := CB.cells (hC9 w2 (Kd.C_below HR.out HB.out)) (by rw [hr32.out]; decide)
  have hld : ∀ W : World, Below w2.heap.size w2 W → (Instr.loadAt 23 (.pointer (some ad))).run Try.prog W = .ok (.agg (nums .u8 r).toArray) W := fun W hW => run_loadVar_at ad 23 (nums .u8 r) _ (fun j v hv => (hW.cell (World.block_lt_of_cell? w2 _ (hadc j v hv))).trans (hadc j v hv)) info22 rfl (by rw [nums_length, hr32.out]; exact info23s)
  have hcv : ∀ W : World, Below w2.heap.size w2 W → (convert 27 9 v2).run Try.prog W = .ok (.string s) W := fun W hW => by rw [hs.out]; exact own_string (P := Try.prog) Try.underlying27 Try.underlying5 Try.underlying9 (Kd.own_of_R (Kd.R_below HO2.out hW))
  have HF := Aside0.mk (And.intro hld hcv)
  clear hld hcv hadc
  refine start_ (n := 12) (S := (fun W_ => Below w2.heap.size w2 W_)) (ds := []) #[false, false, false, false, false, false, false, false, false, false, false, false] (by kernel_rfl) rfl rfl (below_drew1 (Below.refl _ _)) (fun hHeld => ?_); refine with_tabW rt10tab rt10bits (fun HT_ HW_ => ?_)
  generalize w2.drew = wq at hHeld ⊢
  refine pure_ (i := 0) (N := some 55) (v := ?_) (a' := ?_) #[true, false, false, false, false, false, false, false, false, false, false, false] rfl rfl (any_of HT_.out (by kernel_rfl)) (fun _ _ _ h => h) (Or.inl ⟨by rfl, ?_⟩) ?_ ?_
  rotate_left
  · intro w'
    go_simp
    with_reducible rfl
  rotate_left
  · simp only [Act.put, List.setIfInBounds_toArray, List.set_cons_zero, List.set_cons_succ, i64_w, i32_w]
    rfl
  refine pure_ (i := 1) (N := some 56) (v := ?_) (a' := ?_) #[true, true, false, false, false, false, false, false, false, false, false, false] rfl rfl (any_of HT_.out (by kernel_rfl)) (fun _ _ _ h => h) (Or.inl ⟨by rfl, ?_⟩) ?_ ?_
  rotate_left
  · intro w'
    go_simp
    with_reducible rfl
  rotate_left
  · simp only [Act.put, List.setIfInBounds_toArray, List.set_cons_zero, List.set_cons_succ, i64_w, i32_w]
    rfl
  refine pure_ (i := 2) (N := some 57) (v := ?_) (a' := ?_) #[true, true, true, false, false, false, false, false, false, false, false, false] rfl rfl (any_of HT_.out (by kernel_rfl)) (fun _ _ _ h => h) (Or.inl ⟨by rfl, ?_⟩) ?_ ?_
  rotate_left
  · intro w'
    go_simp
    with_reducible rfl
  rotate_left
  · simp only [Act.put, List.setIfInBounds_toArray, List.set_cons_zero, List.set_cons_succ, i64_w, i32_w]
    rfl
  refine pure_ (i := 3) (N := some 58) (v := ?_) (a' := ?_) #[true, true, true, true, false, false, false, false, false, false, false, false] rfl rfl (any_of HT_.out (by kernel_rfl)) (fun _ _ _ h => h) (Or.inl ⟨by rfl, ?_⟩) ?_ ?_
  rotate_left
  · intro w'
    go_simp
    with_reducible rfl
  rotate_left
  · simp only [Act.put, List.setIfInBounds_toArray, List.set_cons_zero, List.set_cons_succ, i64_w, i32_w]
    rfl
  refine take_ (i := 4) (N := some 59) (v := (.agg (nums .u8 r).toArray)) (a' := ?_) #[true, true, true, true, true, false, false, false, false, false, false, false] rfl rfl (take_ofW HT_.out HW_.out (by kernel_rfl)) (fun _ _ _ h => h) (Or.inl ⟨by rfl, fun w' hw' => load_run rfl rfl (HF.out.1 w' hw')⟩) hHeld ?_ ?_
  rotate_left
  · simp only [Act.put, List.setIfInBounds_toArray, List.set_cons_zero, List.set_cons_succ, i64_w, i32_w]
    rfl
  refine pure_ (i := 5) (N := some 60) (v := ?_) (a' := ?_) #[true, true, true, true, true, true, false, false, false, false, false, false] rfl rfl (any_of HT_.out (by kernel_rfl)) (fun _ _ _ h => h) (Or.inl ⟨by rfl, ?_⟩) ?_ ?_
  rotate_left
  · intro w'
    go_simp
    with_reducible rfl
  rotate_left
  · simp only [Act.put, List.setIfInBounds_toArray, List.set_cons_zero, List.set_cons_succ, i64_w, i32_w]
    rfl
  refine pure_ (i := 6) (N := some 61) (v := ?_) (a' := ?_) #[true, true, true, true, true, true, true, false, false, false, false, false] rfl rfl (any_of HT_.out (by kernel_rfl)) (fun _ _ _ h => h) (Or.inl ⟨by rfl, ?_⟩) ?_ ?_
  rotate_left
  · intro w'
    go_simp
    with_reducible rfl
  rotate_left
  · simp only [Act.put, List.setIfInBounds_toArray, List.set_cons_zero, List.set_cons_succ, i64_w, i32_w]
    rfl
  refine pure_ (i := 7) (N := some 62) (v := ?_) (a' := ?_) #[true, true, true, true, true, true, true, true, false, false, false, false] rfl rfl (any_of HT_.out (by kernel_rfl)) (fun _ _ _ h => h) (Or.inl ⟨by rfl, ?_⟩) ?_ ?_
  rotate_left
  · intro w'
    go_simp
    with_reducible rfl
  rotate_left
  · simp only [Act.put, List.setIfInBounds_toArray, List.set_cons_zero, List.set_cons_succ, i64_w, i32_w]
    rfl
  refine take_ (i := 8) (N := some 63) (v := ?_) (a' := ?_) #[true, true, true, true, true, true, true, true, true, false, false, false] rfl rfl (take_ofW HT_.out HW_.out (by kernel_rfl)) (fun _ _ _ h => h) (Or.inl ⟨by rfl, ?_⟩) hHeld ?_ ?_
  rotate_left
  · intro w' hw'
    have hf0_ := HF.out.2 w' hw'
    go_simp
    with_reducible rfl
  rotate_left
  · simp only [Act.put, List.setIfInBounds_toArray, List.set_cons_zero, List.set_cons_succ, i64_w, i32_w]
    rfl
  refine pure_ (i := 9) (N := some 64) (v := (.agg (man r tv s))) (a' := ?_) #[true, true, true, true, true, true, true, true, true, true, false, false] rfl rfl (any_of HT_.out (by kernel_rfl)) (fun _ _ _ h => h) (Or.inl ⟨by rfl, fun w' => build_run (ps := #[(0, .agg (nums .u8 r).toArray), (1, .int .i64 tv), (2, .string s)]) rfl (by rw [List.map_toArray]; rfl) (built r tv s hr32.out)⟩) ?_ ?_
  rotate_left
  · simp only [Act.put, List.setIfInBounds_toArray, List.set_cons_zero, List.set_cons_succ, i64_w, i32_w]
    rfl
  refine one_ (i := 10) (N := some 9) #[true, true, true, true, true, true, true, true, true, true, true, false] rfl rfl (one_of HT_.out (by kernel_rfl)) (by decide) (fun K hK => ?_)
  refine value_ (by rfl) rfl (alloc_run wq 25 rfl man0 zero25) ?_
  have HS1 := Aside0.mk (hHeld.alloc hHeld.size (.cells man0 25))
  have hgq := Aside0.mk (heap_alloc_new wq (.cells man0 25))
  obtain ⟨gq, hgq2, hgq3⟩ : ∃ gq, Aside0 (gq = wq.heap.size) ∧ Aside0 (w2.heap.size ≤ gq) := ⟨_, ⟨rfl⟩, ⟨hHeld.size⟩⟩
  rw [← hgq2.out] at hgq ⊢
  generalize wq.alloc (.cells man0 25) = wa at HS1 hgq hK ⊢
  refine hK.out _ _ (HS1.out) (fun hHeld => ?_)
  clear hK K
  refine norm_ (a' := ?_) ?_ ?_
  rotate_left
  · show Act.put _ (some 9) _ = _
    simp only [Act.put, List.setIfInBounds_toArray, List.set_cons_zero, List.set_cons_succ, i64_w, i32_w]
    rfl
  clear HS1
  refine one_ (i := 11) (N := none) #[true, true, true, true, true, true, true, true, true, true, true, true] rfl rfl (one_of HT_.out (by kernel_rfl)) (by decide) (fun K hK => ?_)
  refine skip_ (by rfl) rfl (store_run wa 25 (.tmp 9) (.tmp 64) rfl gq (man r tv s) rfl rfl 25 man0 hgq.out 34 info25 (man_size r tv s hr32.out) man0_size (man_all r tv s)) ?_
  have HS1 := Aside0.mk (below_setRow hHeld hgq3.out (man r tv s))
  have hgn := Aside0.mk (setRow_heap wa gq man0 (man r tv s) 25 (0, 0) hgq.out)
  generalize wa.setRow gq (man r tv s) = wb at HS1 hgn hK ⊢
  refine hK.out _ _ HS1.out (fun hHeld => ?_)
  clear hK K HS1
  refine done_ (done_of HT_.out (by kernel_rfl)) ?_
  clear HT_ HW_ HF hgq hgq2
  have n0_ := Aside0.mk (below_step HB.out hHeld)
  have n1_ := Aside0.mk ((hHeld.block _ (blk_lt hg.out)).trans hg.out)
  have hne : Aside0 (w.heap.size < gq) := ⟨by have := blk_lt hg.out; have := hgq3.out; omega⟩
  clear HB hg
  have HB := n0_; have hg := n1_
  clear n0_ n1_ hHeld
  go_wp2_with (first | (with_reducible refine op_alloc rfl 25 rfl man0 zero25 ?_) | (with_reducible refine op_build rfl 25 #[] rfl man0 built0 ?_) | (with_reducible refine op_load rfl 25 (.tmp 9) rfl gq rfl 25 (man r tv s) _ hgn.out Try.underlying25 rfl 34 info25 (man_size r tv s hr32.out) ?_))
  refine (may_calls r tv s _ hr32.out (by have := hsz_.out; omega)).mono ?_
  rintro e5 w5 ⟨rfl, hb5⟩
  have n0_ := Aside0.mk (below_step HB.out hb5)
  have n1_ := Aside0.mk ((hb5.block _ (blk_lt hg.out)).trans hg.out)
  have n2_ := Aside0.mk ((hb5.block _ (blk_lt hgn.out)).trans hgn.out)
  clear HB hg hgn hb5
  have HB := n0_; have hg := n1_; have hgn := n2_
  clear n0_ n1_ n2_
  have hm := HM.out
  go_wp2_with (first | (with_reducible refine op_alloc rfl 25 rfl man0 zero25 ?_) | (with_reducible refine op_build rfl 25 #[] rfl man0 built0 ?_) | (with_reducible refine op_store (w0 := w) w.heap.size rfl 25 (.tmp 2) (.tmp 68) rfl w.heap.size man0 rfl rfl 25 man0 hg.out 34 info25 man0_size man0_size man0_all HB.out (Nat.le_refl _) ?_; intro wz hgz _ HBz))
  exact ret_row rfl w.heap.size rfl 25 man0 _ hgz.out Try.underlying25 rfl 34 info25 man0_size rfl ⟨rfl, HBz.out⟩

set_option maxHeartbeats 3200000 in
theorem take_yes (A : Option Addr) (c : Nat) (b : List Int) (w : World) (hr : CB w A b) (hc : b.length ≤ c) (hmx : b.length ≤ 100000) (hl : 42 ≤ b.length) (hpre : b.take 2 = [83, 49]) (tv : Int) (hat : Aside0 (POct.octet_At.f 40 b 34 8 = some (tv, 0))) (htv : decide (9223372036854775807 < tv) = false) (lb : List Int) (n7 : Int) (htx_ : Aside0 (POct.octet_TakeText.f 40 (b.drop 42) = some (lb, n7, 0))) (hn0 : 0 ≤ n7) (hn1 : n7 ≤ 200000) (hne : (42 + n7 != (b.length : Int)) = false) (hT0 : 0 ≤ tv) (hlb : lb.length ≤ 200000) (hmay : mayB tv (strOfNums lb) = true) :
    Calls Try.prog 13 #[.slice A b.length c] w fun e w' => e = .returned (.tuple #[.agg (man ((b.take 34).drop 2) tv (strOfNums lb)), .int .i64 0]) ∧ Below w.heap.size w w' := by
  have HR := Aside0.mk hr
  have HC := Aside0.mk hc
  have HB := Aside0.mk ((Below.refl w.heap.size w).alloc (Nat.le_refl _) (.cells man0 25))
  have hg := Aside0.mk (heap_alloc_new w (.cells man0 25))
  have d1 : decide ((b.length : Int) < 34) = false := by simp; omega
  obtain ⟨p2, hp2, hl2, hc2, hcut2, hC2⟩ := cut_take (P := Try.prog) 27 Try.underlying27 POct.info5 A c b 2 (by omega) (by omega) hc
  have hcv2 := Kd.C_string (P := Try.prog) (c := c) Try.underlying27 Try.underlying5 Try.underlying9 (Kd.C_below (hC2 w hr) HB.out)
  have hq : ((strOfNums p2).toList == [83, 49]) = true := pre_eq hp2 hpre
  clear hC2 hl2 hp2 hc2 hpre
  obtain ⟨te, hte⟩ : ∃ te : Int, te = 0 := ⟨0, rfl⟩
  rw [← hte] at hat
  have htz : (te != 0) = false := by rw [hte]; rfl
  clear hte
  obtain ⟨y7, A7, hy7, hl7, hc7_, hcut7, hC7⟩ := cut_drop (P := Try.prog) 27 Try.underlying27 POct.info5 A c b 42 (by omega) (by omega) hc
  have hc7 := Aside0.mk hc7_
  have hY7 := Aside0.mk hy7
  clear hc7_ hy7
  obtain ⟨e7, he7⟩ : ∃ e7 : Int, e7 = 0 := ⟨0, rfl⟩
  rw [← he7] at htx_
  have hez : (e7 != 0) = false := by rw [he7]; rfl
  clear he7
  have htx : Aside0 (POct.octet_TakeText.f 40 y7 = some (lb, n7, e7)) := ⟨by rw [hY7.out]; exact htx_.out⟩
  obtain ⟨r, A9, hr9, hl9, hc9_, hcut9, hC9⟩ := cut_mid (P := Try.prog) 27 Try.underlying27 POct.info5 A c b 2 34 (by omega) (by omega) (by omega) hc
  have hr32 : Aside0 (r.length = 32) := ⟨by omega⟩
  have harr := fun (cc : Nat) => array_at (P := Try.prog) 23 32 info22 A9 r.length cc (by omega)
  have hR9 := Aside0.mk hr9
  clear hr9 hl9 hc9_
  obtain ⟨s, hs⟩ : ∃ s, Aside0 (s = strOfNums lb) := ⟨_, ⟨rfl⟩⟩
  have htvw : wrap64 tv = tv := time_in hT0 htv
  have htvw2 : IntKind.i64.wrap tv = tv := (IntWalk.i64_left tv).trans (time_in hT0 htv)
  have hsz_ : Aside0 (s.size ≤ 200000) := ⟨by rw [hs.out, strOfNums_size]; exact hlb⟩
  have HM : Aside0 (mayB tv s = true) := ⟨by rw [hs.out]; exact hmay⟩
  clear hmay
  clear hr hc
  go_enter Try.func13, Try.ntmps13
  go_wp2_with (first | (with_reducible refine op_alloc rfl 25 rfl man0 zero25 ?_) | (with_reducible refine op_build rfl 25 #[] rfl man0 built0 ?_))
  refine (POct.octet_At.calls 40 A c b 34 8 tv te _ (Kd.C_below HR.out HB.out) HC.out hat.out).mono ?_
  rintro e1 w1 ⟨rfl, hd1⟩
  have hb1 := hd1.below
  have n0_ := Aside0.mk (below_step HB.out hb1)
  have n1_ := Aside0.mk ((hb1.block _ (by simp)).trans hg.out)
  clear HB hg hb1 hd1
  have HB := n0_; have hg := n1_
  have hgl : Aside0 (w.heap.size < w1.heap.size) := ⟨blk_lt hg.out⟩
  clear n0_ n1_ hcv2
  go_wp2_with (first | (with_reducible refine op_alloc rfl 25 rfl man0 zero25 ?_) | (with_reducible refine op_build rfl 25 #[] rfl man0 built0 ?_))
  refine (POct.octet_TakeText.calls 40 A7 (c - 42) y7 lb n7 e7 w1 (hC7 w1 (Kd.C_below HR.out HB.out)) hc7.out htx.out).mono ?_
  rintro e2 w2 ⟨v2, rfl, ho2, hb2⟩
  have n0_ := Aside0.mk (below_step HB.out hb2)
  have n1_ := Aside0.mk ((hb2.block _ hgl.out).trans hg.out)
  have HO2 := Aside0.mk ho2
  clear HB hg hb2 ho2
  have HB := n0_; have hg := n1_
  clear n0_ n1_
  go_wp2_with (first | (with_reducible refine op_alloc rfl 25 rfl man0 zero25 ?_) | (with_reducible refine op_build rfl 25 #[] rfl man0 built0 ?_))
  obtain ⟨ad, rfl, hadc⟩ := CB.cells (hC9 w2 (Kd.C_below HR.out HB.out)) (by rw [hr32.out]; decide)
  have hld : ∀ W : World, Below w2.heap.size w2 W → (Instr.loadAt 23 (.pointer (some ad))).run Try.prog W = .ok (.agg (nums .u8 r).toArray) W := fun W hW => run_loadVar_at ad 23 (nums .u8 r) _ (fun j v hv => (hW.cell (World.block_lt_of_cell? w2 _ (hadc j v hv))).trans (hadc j v hv)) info22 rfl (by rw [nums_length, hr32.out]; exact info23s)
  have hcv : ∀ W : World, Below w2.heap.size w2 W → (convert 27 9 v2).run Try.prog W = .ok (.string s) W := fun W hW => by rw [hs.out]; exact own_string (P := Try.prog) Try.underlying27 Try.underlying5 Try.underlying9 (Kd.own_of_R (Kd.R_below HO2.out hW))
  have HF := Aside0.mk (And.intro hld hcv)
  clear hld hcv hadc
  refine start_ (n := 12) (S := (fun W_ => Below w2.heap.size w2 W_)) (ds := []) #[false, false, false, false, false, false, false, false, false, false, false, false] (by kernel_rfl) rfl rfl (below_drew1 (Below.refl _ _)) (fun hHeld => ?_); refine with_tabW rt10tab rt10bits (fun HT_ HW_ => ?_)
  generalize w2.drew = wq at hHeld ⊢
  refine pure_ (i := 0) (N := some 55) (v := ?_) (a' := ?_) #[true, false, false, false, false, false, false, false, false, false, false, false] rfl rfl (any_of HT_.out (by kernel_rfl)) (fun _ _ _ h => h) (Or.inl ⟨by rfl, ?_⟩) ?_ ?_
  rotate_left
  · intro w'
    go_simp
    with_reducible rfl
  rotate_left
  · simp only [Act.put, List.setIfInBounds_toArray, List.set_cons_zero, List.set_cons_succ, i64_w, i32_w]
    rfl
  refine pure_ (i := 1) (N := some 56) (v := ?_) (a' := ?_) #[true, true, false, false, false, false, false, false, false, false, false, false] rfl rfl (any_of HT_.out (by kernel_rfl)) (fun _ _ _ h => h) (Or.inl ⟨by rfl, ?_⟩) ?_ ?_
  rotate_left
  · intro w'
    go_simp
    with_reducible rfl
  rotate_left
  · simp only [Act.put, List.setIfInBounds_toArray, List.set_cons_zero, List.set_cons_succ, i64_w, i32_w]
    rfl
  refine pure_ (i := 2) (N := some 57) (v := ?_) (a' := ?_) #[true, true, true, false, false, false, false, false, false, false, false, false] rfl rfl (any_of HT_.out (by kernel_rfl)) (fun _ _ _ h => h) (Or.inl ⟨by rfl, ?_⟩) ?_ ?_
  rotate_left
  · intro w'
    go_simp
    with_reducible rfl
  rotate_left
  · simp only [Act.put, List.setIfInBounds_toArray, List.set_cons_zero, List.set_cons_succ, i64_w, i32_w]
    rfl
  refine pure_ (i := 3) (N := some 58) (v := ?_) (a' := ?_) #[true, true, true, true, false, false, false, false, false, false, false, false] rfl rfl (any_of HT_.out (by kernel_rfl)) (fun _ _ _ h => h) (Or.inl ⟨by rfl, ?_⟩) ?_ ?_
  rotate_left
  · intro w'
    go_simp
    with_reducible rfl
  rotate_left
  · simp only [Act.put, List.setIfInBounds_toArray, List.set_cons_zero, List.set_cons_succ, i64_w, i32_w]
    rfl
  refine take_ (i := 4) (N := some 59) (v := (.agg (nums .u8 r).toArray)) (a' := ?_) #[true, true, true, true, true, false, false, false, false, false, false, false] rfl rfl (take_ofW HT_.out HW_.out (by kernel_rfl)) (fun _ _ _ h => h) (Or.inl ⟨by rfl, fun w' hw' => load_run rfl rfl (HF.out.1 w' hw')⟩) hHeld ?_ ?_
  rotate_left
  · simp only [Act.put, List.setIfInBounds_toArray, List.set_cons_zero, List.set_cons_succ, i64_w, i32_w]
    rfl
  refine pure_ (i := 5) (N := some 60) (v := ?_) (a' := ?_) #[true, true, true, true, true, true, false, false, false, false, false, false] rfl rfl (any_of HT_.out (by kernel_rfl)) (fun _ _ _ h => h) (Or.inl ⟨by rfl, ?_⟩) ?_ ?_
  rotate_left
  · intro w'
    go_simp
    with_reducible rfl
  rotate_left
  · simp only [Act.put, List.setIfInBounds_toArray, List.set_cons_zero, List.set_cons_succ, i64_w, i32_w]
    rfl
  refine pure_ (i := 6) (N := some 61) (v := ?_) (a' := ?_) #[true, true, true, true, true, true, true, false, false, false, false, false] rfl rfl (any_of HT_.out (by kernel_rfl)) (fun _ _ _ h => h) (Or.inl ⟨by rfl, ?_⟩) ?_ ?_
  rotate_left
  · intro w'
    go_simp
    with_reducible rfl
  rotate_left
  · simp only [Act.put, List.setIfInBounds_toArray, List.set_cons_zero, List.set_cons_succ, i64_w, i32_w]
    rfl
  refine pure_ (i := 7) (N := some 62) (v := ?_) (a' := ?_) #[true, true, true, true, true, true, true, true, false, false, false, false] rfl rfl (any_of HT_.out (by kernel_rfl)) (fun _ _ _ h => h) (Or.inl ⟨by rfl, ?_⟩) ?_ ?_
  rotate_left
  · intro w'
    go_simp
    with_reducible rfl
  rotate_left
  · simp only [Act.put, List.setIfInBounds_toArray, List.set_cons_zero, List.set_cons_succ, i64_w, i32_w]
    rfl
  refine take_ (i := 8) (N := some 63) (v := ?_) (a' := ?_) #[true, true, true, true, true, true, true, true, true, false, false, false] rfl rfl (take_ofW HT_.out HW_.out (by kernel_rfl)) (fun _ _ _ h => h) (Or.inl ⟨by rfl, ?_⟩) hHeld ?_ ?_
  rotate_left
  · intro w' hw'
    have hf0_ := HF.out.2 w' hw'
    go_simp
    with_reducible rfl
  rotate_left
  · simp only [Act.put, List.setIfInBounds_toArray, List.set_cons_zero, List.set_cons_succ, i64_w, i32_w]
    rfl
  refine pure_ (i := 9) (N := some 64) (v := (.agg (man r tv s))) (a' := ?_) #[true, true, true, true, true, true, true, true, true, true, false, false] rfl rfl (any_of HT_.out (by kernel_rfl)) (fun _ _ _ h => h) (Or.inl ⟨by rfl, fun w' => build_run (ps := #[(0, .agg (nums .u8 r).toArray), (1, .int .i64 tv), (2, .string s)]) rfl (by rw [List.map_toArray]; rfl) (built r tv s hr32.out)⟩) ?_ ?_
  rotate_left
  · simp only [Act.put, List.setIfInBounds_toArray, List.set_cons_zero, List.set_cons_succ, i64_w, i32_w]
    rfl
  refine one_ (i := 10) (N := some 9) #[true, true, true, true, true, true, true, true, true, true, true, false] rfl rfl (one_of HT_.out (by kernel_rfl)) (by decide) (fun K hK => ?_)
  refine value_ (by rfl) rfl (alloc_run wq 25 rfl man0 zero25) ?_
  have HS1 := Aside0.mk (hHeld.alloc hHeld.size (.cells man0 25))
  have hgq := Aside0.mk (heap_alloc_new wq (.cells man0 25))
  obtain ⟨gq, hgq2, hgq3⟩ : ∃ gq, Aside0 (gq = wq.heap.size) ∧ Aside0 (w2.heap.size ≤ gq) := ⟨_, ⟨rfl⟩, ⟨hHeld.size⟩⟩
  rw [← hgq2.out] at hgq ⊢
  generalize wq.alloc (.cells man0 25) = wa at HS1 hgq hK ⊢
  refine hK.out _ _ (HS1.out) (fun hHeld => ?_)
  clear hK K
  refine norm_ (a' := ?_) ?_ ?_
  rotate_left
  · show Act.put _ (some 9) _ = _
    simp only [Act.put, List.setIfInBounds_toArray, List.set_cons_zero, List.set_cons_succ, i64_w, i32_w]
    rfl
  clear HS1
  refine one_ (i := 11) (N := none) #[true, true, true, true, true, true, true, true, true, true, true, true] rfl rfl (one_of HT_.out (by kernel_rfl)) (by decide) (fun K hK => ?_)
  refine skip_ (by rfl) rfl (store_run wa 25 (.tmp 9) (.tmp 64) rfl gq (man r tv s) rfl rfl 25 man0 hgq.out 34 info25 (man_size r tv s hr32.out) man0_size (man_all r tv s)) ?_
  have HS1 := Aside0.mk (below_setRow hHeld hgq3.out (man r tv s))
  have hgn := Aside0.mk (setRow_heap wa gq man0 (man r tv s) 25 (0, 0) hgq.out)
  generalize wa.setRow gq (man r tv s) = wb at HS1 hgn hK ⊢
  refine hK.out _ _ HS1.out (fun hHeld => ?_)
  clear hK K HS1
  refine done_ (done_of HT_.out (by kernel_rfl)) ?_
  clear HT_ HW_ HF hgq hgq2
  have n0_ := Aside0.mk (below_step HB.out hHeld)
  have n1_ := Aside0.mk ((hHeld.block _ (blk_lt hg.out)).trans hg.out)
  have hne : Aside0 (w.heap.size < gq) := ⟨by have := blk_lt hg.out; have := hgq3.out; omega⟩
  clear HB hg
  have HB := n0_; have hg := n1_
  clear n0_ n1_ hHeld
  go_wp2_with (first | (with_reducible refine op_alloc rfl 25 rfl man0 zero25 ?_) | (with_reducible refine op_build rfl 25 #[] rfl man0 built0 ?_) | (with_reducible refine op_load rfl 25 (.tmp 9) rfl gq rfl 25 (man r tv s) _ hgn.out Try.underlying25 rfl 34 info25 (man_size r tv s hr32.out) ?_))
  refine (may_calls r tv s _ hr32.out (by have := hsz_.out; omega)).mono ?_
  rintro e5 w5 ⟨rfl, hb5⟩
  have n0_ := Aside0.mk (below_step HB.out hb5)
  have n1_ := Aside0.mk ((hb5.block _ (blk_lt hg.out)).trans hg.out)
  have n2_ := Aside0.mk ((hb5.block _ (blk_lt hgn.out)).trans hgn.out)
  clear HB hg hgn hb5
  have HB := n0_; have hg := n1_; have hgn := n2_
  clear n0_ n1_ n2_
  have hm := HM.out
  go_wp2_with (first | (with_reducible refine op_alloc rfl 25 rfl man0 zero25 ?_) | (with_reducible refine op_build rfl 25 #[] rfl man0 built0 ?_) | (with_reducible refine op_load rfl 25 (.tmp 9) rfl gq rfl 25 (man r tv s) _ hgn.out Try.underlying25 rfl 34 info25 (man_size r tv s hr32.out) ?_) | (with_reducible refine op_store (w0 := w) w.heap.size rfl 25 (.tmp 2) (.tmp 69) rfl w.heap.size (man r tv s) rfl rfl 25 man0 hg.out 34 info25 (man_size r tv s hr32.out) man0_size (man_all r tv s) HB.out (Nat.le_refl _) ?_; intro wz hgz _ HBz))
  have hfin := Aside0.mk (show man r tv s = man ((b.take 34).drop 2) tv (strOfNums lb) by rw [hs.out, hR9.out]; rfl)
  exact ret_row rfl w.heap.size rfl 25 (man r tv s) _ hgz.out Try.underlying25 rfl 34 info25 (man_size r tv s hr32.out) rfl ⟨by rw [← hfin.out]; rfl, HBz.out⟩
end Go.Proofs.Ytdalckmbmcenbaa.St
