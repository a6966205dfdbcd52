/- The walk of the law OctetWrites: two rounds over twins. -/
import Derived.Test.YtcddgokfdnjhaaaRefA
import Derived.Test.YtcddgokfdnjhaaaTw
import Derived.Test.YtcddgokfdnjhaaaWTab
import Derived.Test.YtcddgokfdnjhaaaPOctx5
import Derived.OpenShut
namespace Go.Proofs.Ytcddgokfdnjhaaa.Writes
open Go.RowKit Go.Proofs.YtcddgokfdnjhaaaW.PrintWords Go.Proofs.YtcddgokfdnjhaaaW.PrintLast Go.Proofs.YtcddgokfdnjhaaaW.PrintMore
open Tw
set_option linter.unusedVariables false
set_option linter.unusedSimpArgs false
set_option maxRecDepth 100000
def wr14T : Bool × List (List Nat × List Nat) := (true, [([], []), ([], []), ([0, 1], [0, 1]), ([2], [2]), ([3], [3]), ([3], [3]), ([4, 5, 3], [3, 4, 5]), ([3, 6], [3, 6]), ([7, 3], [7]), ([8], [8]), ([9, 8], [8, 9]), ([8], [8]), ([11, 8], [8, 11]), ([10, 12, 8], [8, 10, 12]), ([8, 13], [8, 13]), ([14, 8], [14]), ([15], [15]), ([16, 15], [15, 16]), ([15], [15]), ([18, 15], [15, 18]), ([17, 19, 15], [15, 17, 19]), ([15, 20], [15, 20]), ([21, 15], [21]), ([22], [22]), ([23, 22], [22, 23]), ([22], [22]), ([22], [22]), ([25, 26, 22, 22], [22, 25, 26]), ([27, 22], [22, 27]), ([24, 28, 22], [22, 24, 28]), ([22, 29], [22, 29]), ([30, 27], [30]), ([31], [31]), ([31], [31]), ([32, 33, 31, 31], [31, 32, 33]), ([34, 31], [31, 34]), ([31, 35], [31, 35]), ([36, 34], [36]), ([37], [37]), ([37], [37]), ([38, 39, 37, 37], [37, 38, 39]), ([40, 37], [37, 40]), ([37, 41], [37, 41])])
def wr14B : List Nat := [0, 0, 3, 7, 15, 15, 63, 127, 255, 511, 1023, 511, 2559, 8191, 16383, 32767, 65535, 131071, 65535, 327679, 1048575, 2097151, 4194303, 8388607, 16777215, 8388607, 8388607, 109051903, 243269631, 536870911, 1073741823, 2147483647, 4294967295, 4294967295, 17179869183, 34359738367, 68719476735, 137438953471, 274877906943, 274877906943, 1099511627775, 2199023255551, 4398046511103]
theorem wr14tab : rtab .any (opsOf Try.f6 14) = wr14T := by kernel_rfl
theorem wr14bits : waitsOk wr14T.2 wr14B = true := by kernel_rfl

theorem agree (b s : List Int) (hb : b.length ≤ 131072) (hs : s.length ≤ 131072) (v n : Int) (hv0 : 0 ≤ v) (hv1 : v ≤ 18446744073709551615) :
    ∃ (x : List Int) (e : Int) (c z : List Int) (g : Int), POct.octet_Put.f 40 b v n = some (x, e) ∧ PRef.cofferref1_Put.f 40 b v n = some (x, e) ∧ POct.octet_Count.f 40 b v = some c ∧
      POct.octet_Text.f 40 b s = some (z, g) ∧ PRef.cofferref1_Text.f 40 b s = some (z, g) ∧ PRef.cofferref1_Count.f 40 b v = some c := by
  obtain ⟨v, rfl⟩ := Int.eq_ofNat_of_zero_le hv0
  have t1 := OctC.count_ok 40 b v (by omega) (by omega) (by omega)
  have t2 := RefA.ref_count_ok 40 b v (by omega) (by omega) (by omega)
  have k1 : ∃ (x : List Int) (e : Int), POct.octet_Put.f 40 b v n = some (x, e) ∧ PRef.cofferref1_Put.f 40 b v n = some (x, e) := by
    by_cases h : n < 1 ∨ 8 < n
    · exact ⟨[], 1, OctA.put_arg 40 b v n h (by omega), RefA.ref_put_arg 40 b v n h (by omega)⟩
    · obtain ⟨n, rfl⟩ := Int.eq_ofNat_of_zero_le (show 0 ≤ n by omega)
      have h1 := OctA.put_ok 40 b v n (by omega) (by omega) (by omega) (by omega) (by omega)
      have h2 := RefA.ref_put_ok 40 b v n (by omega) (by omega) (by omega) (by omega) (by omega)
      by_cases hlt : v < 256 ^ n
      · rw [if_pos hlt] at h1 h2
        exact ⟨_, _, h1, h2⟩
      · rw [if_neg hlt] at h1 h2
        exact ⟨_, _, h1, h2⟩
  have k2 : ∃ (z : List Int) (g : Int), POct.octet_Text.f 40 b s = some (z, g) ∧ PRef.cofferref1_Text.f 40 b s = some (z, g) := by
    by_cases h : s.length ≤ 65536
    · exact ⟨_, _, OctC.text_ok 40 b s h (by omega) (by omega), RefA.ref_text_ok 40 b s h (by omega) (by omega)⟩
    · exact ⟨_, _, OctC.text_long 40 b s (by omega), RefA.ref_text_long 40 b s (by omega)⟩
  obtain ⟨x, e, p1, p2⟩ := k1
  obtain ⟨z, g, p3, p4⟩ := k2
  exact ⟨x, e, _, z, g, p1, p2, t1, p3, p4, t2⟩

set_option maxHeartbeats 8000000 in
theorem walk0 (A : Option Addr) (c0 : Nat) (b : List Int) (A1 : Option Addr) (c1 : Nat) (s : List Int) (v n : Int) (w : World) (hr : Kd.C (Kd.int .u8) w A b.length b) (hc : b.length ≤ c0) (hr1 : Kd.C (Kd.int .u8) w A1 s.length s) (hc1 : s.length ≤ c1) (hv0 : 0 ≤ v) (hv1 : v ≤ 18446744073709551615) :
    Calls Try.prog 6 #[.slice A b.length c0, .slice A1 s.length c1, .int .u64 v, .int .i64 n] w fun e w' => e = .returned (.bool true) ∧ Below w.heap.size w w' := by
  have HR := Aside0.mk hr
  have HC := Aside0.mk hc
  have HR1 := Aside0.mk hr1
  have HC1 := Aside0.mk hc1
  clear hr hc hr1 hc1
  by_cases hl : b.length ≤ 131072
  · have hl' : decide (131072 < (b.length : Int)) = false := by simp; omega
    by_cases hl1 : s.length ≤ 131072
    · have hl1' : decide (131072 < (s.length : Int)) = false := by simp; omega
      obtain ⟨x, e, c, z, g, f1, f2, f3, f4, f5, f6⟩ := agree b s hl hl1 v n hv0 hv1
      have F1 := Aside0.mk f1; have F2 := Aside0.mk f2; have F3 := Aside0.mk f3; have F4 := Aside0.mk f4; have F5 := Aside0.mk f5; have F6 := Aside0.mk f6
      clear f1 f2 f3 f4 f5 f6
      go_enter Try.func6, Try.ntmps6
      go_wp2_with fail
      refine (POct.cofferlaw1_begun.calls 40 true _ (OctA.begun_ok 40 (by omega))).mono ?_
      rintro e1 w1 ⟨rfl, hb1⟩
      have HB := Aside0.mk hb1
      clear hb1
      go_wp2_with fail
      refine (twin_calls A c0 b w1 (Kd.C_below HR.out HB.out) HC.out (by omega)).mono ?_
      rintro e2 w2 ⟨rfl, ht, hb2⟩
      have HT_gt := Aside0.mk ht
      have HB2 := Aside0.mk (below_step HB.out hb2)
      generalize w1.heap.size = gt at *
      clear HB ht hb2
      have HB := HB2
      clear HB2
      go_wp2_with fail
      refine (twin_calls A1 c1 s w2 (Kd.C_below HR1.out HB.out) HC1.out (by omega)).mono ?_
      rintro e3 w3 ⟨rfl, ht, hb3⟩
      have HT_gu := Aside0.mk ht
      have HB2 := Aside0.mk (below_step HB.out hb3)
      have HT2 := Aside0.mk (HT_gt.out.below hb3 HT_gt.out.lt)
      generalize w2.heap.size = gu at *
      clear HB ht hb3 HT_gt
      have HB := HB2
      have HT_gt := HT2
      clear HB2 HT2
      go_wp2_with fail
      go_loopw [11] (fun u wr => ∃ m : Nat, m ≤ 2 ∧ u = .int .i64 m ∧ Aside0 (Tw.Twin wr gt b) ∧ Aside0 (Tw.Twin wr gu s) ∧ Aside0 (Below w.heap.size w wr)) (fun u _ => 2 - (intOf u).toNat)
      case atStart => exact ⟨0, by omega, rfl, HT_gt, HT_gu, HB⟩
      case round =>
        clear HT_gt HT_gu HB
        obtain ⟨m, hm, rfl, HT_gt, HT_gu, HB⟩ := hrel
        by_cases hlt : m < 2
        · skip
          go_wp2_with fail
          refine (POct.octet_Put.calls 40 _ _ b v n x e wr (HT_gt.out.C (by omega)) (by omega) F1.out).mono ?_
          rintro e101 w101 ⟨v101, rfl, ho, hb⟩
          have HNe_gt_101 : Aside0 (some gt ≠ v101.ownBlock) := ⟨fun he => by have h1_ := Kd.R_base ho gt he.symm; have h2_ := HT_gt.out.lt; omega⟩
          have HNe_gu_101 : Aside0 (some gu ≠ v101.ownBlock) := ⟨fun he => by have h1_ := Kd.R_base ho gu he.symm; have h2_ := HT_gu.out.lt; omega⟩
          have HBa101 : Aside0 (∀ k_, v101.ownBlock = some k_ → w.heap.size ≤ k_) := ⟨fun k_ hk => by have h1_ := Kd.R_base ho k_ hk; have h2_ := HB.out.size; omega⟩
          have n0_ := Aside0.mk (below_step HB.out hb)
          have n1_ := Aside0.mk (HT_gt.out.below hb HT_gt.out.lt)
          have n2_ := Aside0.mk (HT_gu.out.below hb HT_gu.out.lt)
          clear HB HT_gt HT_gu
          have HB := n0_
          have HT_gt := n1_
          have HT_gu := n2_
          clear n0_ n1_ n2_
          have HO101 := Aside0.mk ho
          clear ho hb
          go_wp2_with fail
          refine (PRef.cofferref1_Put.calls 40 _ _ b v n x e w101 (Kd.C_below HR.out HB.out) HC.out F2.out).mono ?_
          rintro e102 w102 ⟨v102, rfl, ho, hb⟩
          have n0_ := Aside0.mk (below_step HB.out hb)
          have n1_ := Aside0.mk (HT_gt.out.below hb HT_gt.out.lt)
          have n2_ := Aside0.mk (HT_gu.out.below hb HT_gu.out.lt)
          have n3_ := Aside0.mk (Kd.R_below HO101.out hb)
          clear HB HT_gt HT_gu HO101
          have HB := n0_
          have HT_gt := n1_
          have HT_gu := n2_
          have HO101 := n3_
          clear n0_ n1_ n2_ n3_
          have HO102 := Aside0.mk ho
          clear ho hb
          go_wp2_with fail
          refine (POct.octet_Count.calls 40 _ _ b v c w102 (HT_gt.out.C (by omega)) (by omega) F3.out).mono ?_
          rintro e103 w103 ⟨v103, rfl, ho, hb⟩
          have HNe_gt_103 : Aside0 (some gt ≠ v103.ownBlock) := ⟨fun he => by have h1_ := Kd.R_base ho gt he.symm; have h2_ := HT_gt.out.lt; omega⟩
          have HNe_gu_103 : Aside0 (some gu ≠ v103.ownBlock) := ⟨fun he => by have h1_ := Kd.R_base ho gu he.symm; have h2_ := HT_gu.out.lt; omega⟩
          have HBa103 : Aside0 (∀ k_, v103.ownBlock = some k_ → w.heap.size ≤ k_) := ⟨fun k_ hk => by have h1_ := Kd.R_base ho k_ hk; have h2_ := HB.out.size; omega⟩
          have hlt101_ := Kd.R_lt HO101.out
          have n0_ := Aside0.mk (below_step HB.out hb)
          have n1_ := Aside0.mk (HT_gt.out.below hb HT_gt.out.lt)
          have n2_ := Aside0.mk (HT_gu.out.below hb HT_gu.out.lt)
          have n3_ := Aside0.mk (Kd.R_below HO101.out hb)
          have n4_ := Aside0.mk (Kd.R_below HO102.out hb)
          clear HB HT_gt HT_gu HO101 HO102
          have HB := n0_
          have HT_gt := n1_
          have HT_gu := n2_
          have HO101 := n3_
          have HO102 := n4_
          clear n0_ n1_ n2_ n3_ n4_
          have HO103 := Aside0.mk (Kd.R_new' ho hlt101_)
          clear ho hb hlt101_
          go_wp2_with fail
          refine (POct.octet_Text.calls 40 _ _ b _ _ s z g w103 (HT_gt.out.C (by omega)) (by omega) (HT_gu.out.C (by omega)) (by omega) F4.out).mono ?_
          rintro e104 w104 ⟨v104, rfl, ho, hb⟩
          have HNe_gt_104 : Aside0 (some gt ≠ v104.ownBlock) := ⟨fun he => by have h1_ := Kd.R_base ho gt he.symm; have h2_ := HT_gt.out.lt; omega⟩
          have HNe_gu_104 : Aside0 (some gu ≠ v104.ownBlock) := ⟨fun he => by have h1_ := Kd.R_base ho gu he.symm; have h2_ := HT_gu.out.lt; omega⟩
          have HBa104 : Aside0 (∀ k_, v104.ownBlock = some k_ → w.heap.size ≤ k_) := ⟨fun k_ hk => by have h1_ := Kd.R_base ho k_ hk; have h2_ := HB.out.size; omega⟩
          have hlt101_ := Kd.R_lt HO101.out
          have hlt103_ := Kd.R_lt HO103.out
          have n0_ := Aside0.mk (below_step HB.out hb)
          have n1_ := Aside0.mk (HT_gt.out.below hb HT_gt.out.lt)
          have n2_ := Aside0.mk (HT_gu.out.below hb HT_gu.out.lt)
          have n3_ := Aside0.mk (Kd.R_below HO101.out hb)
          have n4_ := Aside0.mk (Kd.R_below HO102.out hb)
          have n5_ := Aside0.mk (Kd.R_below HO103.out hb)
          clear HB HT_gt HT_gu HO101 HO102 HO103
          have HB := n0_
          have HT_gt := n1_
          have HT_gu := n2_
          have HO101 := n3_
          have HO102 := n4_
          have HO103 := n5_
          clear n0_ n1_ n2_ n3_ n4_ n5_
          have HO104 := Aside0.mk (Kd.R_new' (Kd.R_new' ho hlt101_) hlt103_)
          clear ho hb hlt101_ hlt103_
          go_wp2_with fail
          refine (PRef.cofferref1_Text.calls 40 _ _ b _ _ s z g w104 (Kd.C_below HR.out HB.out) HC.out (Kd.C_below HR1.out HB.out) HC1.out F5.out).mono ?_
          rintro e105 w105 ⟨v105, rfl, ho, hb⟩
          have n0_ := Aside0.mk (below_step HB.out hb)
          have n1_ := Aside0.mk (HT_gt.out.below hb HT_gt.out.lt)
          have n2_ := Aside0.mk (HT_gu.out.below hb HT_gu.out.lt)
          have n3_ := Aside0.mk (Kd.R_below HO101.out hb)
          have n4_ := Aside0.mk (Kd.R_below HO102.out hb)
          have n5_ := Aside0.mk (Kd.R_below HO103.out hb)
          have n6_ := Aside0.mk (Kd.R_below HO104.out hb)
          clear HB HT_gt HT_gu HO101 HO102 HO103 HO104
          have HB := n0_
          have HT_gt := n1_
          have HT_gu := n2_
          have HO101 := n3_
          have HO102 := n4_
          have HO103 := n5_
          have HO104 := n6_
          clear n0_ n1_ n2_ n3_ n4_ n5_ n6_
          have HO105 := Aside0.mk ho
          clear ho hb
          go_wp2_with fail
          have hcf101 : ∀ W_ : World, Below w105.heap.size w105 W_ → (convert 23 9 v101).run Try.prog W_ = .ok (.string (strOfNums x)) W_ := fun W_ hW_ => own_string (P := Try.prog) Try.underlying23 Try.underlying5 Try.underlying9 (Kd.own_of_R (Kd.R_below HO101.out hW_))
          have hcf102 : ∀ W_ : World, Below w105.heap.size w105 W_ → (convert 23 9 v102).run Try.prog W_ = .ok (.string (strOfNums x)) W_ := fun W_ hW_ => own_string (P := Try.prog) Try.underlying23 Try.underlying5 Try.underlying9 (Kd.own_of_R (Kd.R_below HO102.out hW_))
          have hcf104 : ∀ W_ : World, Below w105.heap.size w105 W_ → (convert 23 9 v104).run Try.prog W_ = .ok (.string (strOfNums z)) W_ := fun W_ hW_ => own_string (P := Try.prog) Try.underlying23 Try.underlying5 Try.underlying9 (Kd.own_of_R (Kd.R_below HO104.out hW_))
          have hcf105 : ∀ W_ : World, Below w105.heap.size w105 W_ → (convert 23 9 v105).run Try.prog W_ = .ok (.string (strOfNums z)) W_ := fun W_ hW_ => own_string (P := Try.prog) Try.underlying23 Try.underlying5 Try.underlying9 (Kd.own_of_R (Kd.R_below HO105.out hW_))
          have hcf103 : ∀ W_ : World, Below w105.heap.size w105 W_ → (convert 23 9 v103).run Try.prog W_ = .ok (.string (strOfNums c)) W_ := fun W_ hW_ => own_string (P := Try.prog) Try.underlying23 Try.underlying5 Try.underlying9 (Kd.own_of_R (Kd.R_below HO103.out hW_))
          have HF := Aside0.mk (And.intro hcf101 (And.intro hcf102 (And.intro hcf104 (And.intro hcf105 hcf103))))
          clear hcf101 hcf102 hcf104 hcf105 hcf103
          refine start_ (n := 43) (S := (fun W_ => Below w105.heap.size w105 W_)) (ds := []) #[false, false, false, false, false, false, false, false, false, false, false, false, false, false, false, false, false, false, false, false, false, false, false, false, false, false, false, false, false, false, false, false, false, false, false, false, false, false, false, false, false, false, false] (by kernel_rfl) rfl rfl (below_drew1 (Below.refl _ _)) (fun hHeld => ?_); refine with_tabW wr14tab wr14bits (fun HT_ HW_ => ?_)
          generalize w105.drew = wq at hHeld ⊢
          refine pure_ (i := 0) (N := some 68) (v := ?_) (a' := ?_) #[true, false, false, false, false, false, false, false, false, false, false, false, false, false, false, false, false, false, false, false, false, false, false, false, false, false, false, false, false, false, false, false, false, false, false, false, false, false, false, false, false, false, false] rfl rfl (any_of HT_.out (by kernel_rfl)) (fun _ _ _ h => h) (Or.inl ⟨by rfl, ?_⟩) ?_ ?_
          rotate_left
          · intro w'
            go_simp
            with_reducible rfl
          rotate_left
          · simp only [Act.put, List.setIfInBounds_toArray, List.set_cons_zero, List.set_cons_succ, i64_w, i32_w]
            rfl
          refine pure_ (i := 1) (N := some 69) (v := ?_) (a' := ?_) #[true, true, false, false, false, false, false, false, false, false, false, false, false, false, false, false, false, false, false, false, false, false, false, false, false, false, false, false, false, false, false, false, false, false, false, false, false, false, false, false, false, false, false] rfl rfl (any_of HT_.out (by kernel_rfl)) (fun _ _ _ h => h) (Or.inl ⟨by rfl, ?_⟩) ?_ ?_
          rotate_left
          · intro w'
            go_simp
            with_reducible rfl
          rotate_left
          · simp only [Act.put, List.setIfInBounds_toArray, List.set_cons_zero, List.set_cons_succ, i64_w, i32_w]
            rfl
          refine pure_ (i := 2) (N := some 70) (v := ?_) (a' := ?_) #[true, true, true, false, false, false, false, false, false, false, false, false, false, false, false, false, false, false, false, false, false, false, false, false, false, false, false, false, false, false, false, false, false, false, false, false, false, false, false, false, false, false, false] rfl rfl (any_of HT_.out (by kernel_rfl)) (fun _ _ _ h => h) (Or.inl ⟨by rfl, ?_⟩) ?_ ?_
          rotate_left
          · intro w'
            go_simp
            with_reducible rfl
          rotate_left
          · simp only [Act.put, List.setIfInBounds_toArray, List.set_cons_zero, List.set_cons_succ, i64_w, i32_w]
            rfl
          refine pure_ (i := 3) (N := some 71) (v := ?_) (a' := ?_) #[true, true, true, true, false, false, false, false, false, false, false, false, false, false, false, false, false, false, false, false, false, false, false, false, false, false, false, false, false, false, false, false, false, false, false, false, false, false, false, false, false, false, false] rfl rfl (any_of HT_.out (by kernel_rfl)) (fun _ _ _ h => h) (Or.inl ⟨by rfl, ?_⟩) ?_ ?_
          rotate_left
          · intro w'
            go_simp
            with_reducible rfl
          rotate_left
          · simp only [Act.put, List.setIfInBounds_toArray, List.set_cons_zero, List.set_cons_succ, i64_w, i32_w]
            rfl
          refine pure_ (i := 4) (N := some 72) (v := ?_) (a' := ?_) #[true, true, true, true, true, false, false, false, false, false, false, false, false, false, false, false, false, false, false, false, false, false, false, false, false, false, false, false, false, false, false, false, false, false, false, false, false, false, false, false, false, false, false] rfl rfl (any_of HT_.out (by kernel_rfl)) (fun _ _ _ h => h) (Or.inl ⟨by rfl, ?_⟩) ?_ ?_
          rotate_left
          · intro w'
            go_simp
            with_reducible rfl
          rotate_left
          · simp only [Act.put, List.setIfInBounds_toArray, List.set_cons_zero, List.set_cons_succ, i64_w, i32_w]
            rfl
          refine pure_ (i := 5) (N := some 73) (v := ?_) (a' := ?_) #[true, true, true, true, true, true, false, false, false, false, false, false, false, false, false, false, false, false, false, false, false, false, false, false, false, false, false, false, false, false, false, false, false, false, false, false, false, false, false, false, false, false, false] rfl rfl (any_of HT_.out (by kernel_rfl)) (fun _ _ _ h => h) (Or.inl ⟨by rfl, ?_⟩) ?_ ?_
          rotate_left
          · intro w'
            go_simp
            with_reducible rfl
          rotate_left
          · simp only [Act.put, List.setIfInBounds_toArray, List.set_cons_zero, List.set_cons_succ, i64_w, i32_w]
            rfl
          refine pure_ (i := 6) (N := some 74) (v := ?_) (a' := ?_) #[true, true, true, true, true, true, true, false, false, false, false, false, false, false, false, false, false, false, false, false, false, false, false, false, false, false, false, false, false, false, false, false, false, false, false, false, false, false, false, false, false, false, false] rfl rfl (any_of HT_.out (by kernel_rfl)) (fun _ _ _ h => h) (Or.inl ⟨by rfl, ?_⟩) ?_ ?_
          rotate_left
          · intro w'
            go_simp
            with_reducible rfl
          rotate_left
          · simp only [Act.put, List.setIfInBounds_toArray, List.set_cons_zero, List.set_cons_succ, i64_w, i32_w]
            rfl
          refine pure_ (i := 7) (N := some 75) (v := ?_) (a' := ?_) #[true, true, true, true, true, true, true, true, false, false, false, false, false, false, false, false, false, false, false, false, false, false, false, false, false, false, false, false, false, false, false, false, false, false, false, false, false, false, false, false, false, false, false] rfl rfl (any_of HT_.out (by kernel_rfl)) (fun _ _ _ h => h) (Or.inl ⟨by rfl, ?_⟩) ?_ ?_
          rotate_left
          · intro w'
            go_simp
            with_reducible rfl
          rotate_left
          · simp only [Act.put, List.setIfInBounds_toArray, List.set_cons_zero, List.set_cons_succ, i64_w, i32_w]
            rfl
          refine pure_ (i := 8) (N := some 76) (v := ?_) (a' := ?_) #[true, true, true, true, true, true, true, true, true, false, false, false, false, false, false, false, false, false, false, false, false, false, false, false, false, false, false, false, false, false, false, false, false, false, false, false, false, false, false, false, false, false, false] rfl rfl (any_of HT_.out (by kernel_rfl)) (fun _ _ _ h => h) (Or.inl ⟨by rfl, ?_⟩) ?_ ?_
          rotate_left
          · intro w'
            go_simp
            with_reducible rfl
          rotate_left
          · simp only [Act.put, List.setIfInBounds_toArray, List.set_cons_zero, List.set_cons_succ, i64_w, i32_w]
            rfl
          refine pure_ (i := 9) (N := some 77) (v := ?_) (a' := ?_) #[true, true, true, true, true, true, true, true, true, true, false, false, false, false, false, false, false, false, false, false, false, false, false, false, false, false, false, false, false, false, false, false, false, false, false, false, false, false, false, false, false, false, false] rfl rfl (any_of HT_.out (by kernel_rfl)) (fun _ _ _ h => h) (Or.inl ⟨by rfl, ?_⟩) ?_ ?_
          rotate_left
          · intro w'
            go_simp
            with_reducible rfl
          rotate_left
          · simp only [Act.put, List.setIfInBounds_toArray, List.set_cons_zero, List.set_cons_succ, i64_w, i32_w]
            rfl
          refine take_ (i := 10) (N := some 78) (v := ?_) (a' := ?_) #[true, true, true, true, true, true, true, true, true, true, true, false, false, false, false, false, false, false, false, false, false, false, false, false, false, false, false, false, false, false, false, false, false, false, false, false, false, false, false, false, false, false, false] rfl rfl (take_ofW HT_.out HW_.out (by kernel_rfl)) (fun _ _ _ h => h) (Or.inl ⟨by rfl, ?_⟩) hHeld ?_ ?_
          rotate_left
          · intro w' hw'
            have hf0_ := HF.out.1 w' hw'
            go_simp
            with_reducible rfl
          rotate_left
          · simp only [Act.put, List.setIfInBounds_toArray, List.set_cons_zero, List.set_cons_succ, i64_w, i32_w]
            rfl
          refine pure_ (i := 11) (N := some 79) (v := ?_) (a' := ?_) #[true, true, true, true, true, true, true, true, true, true, true, true, false, false, false, false, false, false, false, false, false, false, false, false, false, false, false, false, false, false, false, false, false, false, false, false, false, false, false, false, false, false, false] rfl rfl (any_of HT_.out (by kernel_rfl)) (fun _ _ _ h => h) (Or.inl ⟨by rfl, ?_⟩) ?_ ?_
          rotate_left
          · intro w'
            go_simp
            with_reducible rfl
          rotate_left
          · simp only [Act.put, List.setIfInBounds_toArray, List.set_cons_zero, List.set_cons_succ, i64_w, i32_w]
            rfl
          refine take_ (i := 12) (N := some 80) (v := ?_) (a' := ?_) #[true, true, true, true, true, true, true, true, true, true, true, true, true, false, false, false, false, false, false, false, false, false, false, false, false, false, false, false, false, false, false, false, false, false, false, false, false, false, false, false, false, false, false] rfl rfl (take_ofW HT_.out HW_.out (by kernel_rfl)) (fun _ _ _ h => h) (Or.inl ⟨by rfl, ?_⟩) hHeld ?_ ?_
          rotate_left
          · intro w' hw'
            have hf0_ := HF.out.2.1 w' hw'
            go_simp
            with_reducible rfl
          rotate_left
          · simp only [Act.put, List.setIfInBounds_toArray, List.set_cons_zero, List.set_cons_succ, i64_w, i32_w]
            rfl
          refine pure_ (i := 13) (N := some 81) (v := ?_) (a' := ?_) #[true, true, true, true, true, true, true, true, true, true, true, true, true, true, false, false, false, false, false, false, false, false, false, false, false, false, false, false, false, false, false, false, false, false, false, false, false, false, false, false, false, false, false] rfl rfl (any_of HT_.out (by kernel_rfl)) (fun _ _ _ h => h) (Or.inl ⟨by rfl, ?_⟩) ?_ ?_
          rotate_left
          · intro w'
            go_simp
            with_reducible rfl
          rotate_left
          · simp only [Act.put, List.setIfInBounds_toArray, List.set_cons_zero, List.set_cons_succ, i64_w, i32_w]
            rfl
          refine pure_ (i := 14) (N := some 82) (v := ?_) (a' := ?_) #[true, true, true, true, true, true, true, true, true, true, true, true, true, true, true, false, false, false, false, false, false, false, false, false, false, false, false, false, false, false, false, false, false, false, false, false, false, false, false, false, false, false, false] rfl rfl (any_of HT_.out (by kernel_rfl)) (fun _ _ _ h => h) (Or.inl ⟨by rfl, ?_⟩) ?_ ?_
          rotate_left
          · intro w'
            go_simp
            with_reducible rfl
          rotate_left
          · simp only [Act.put, List.setIfInBounds_toArray, List.set_cons_zero, List.set_cons_succ, i64_w, i32_w]
            rfl
          refine pure_ (i := 15) (N := some 83) (v := ?_) (a' := ?_) #[true, true, true, true, true, true, true, true, true, true, true, true, true, true, true, true, false, false, false, false, false, false, false, false, false, false, false, false, false, false, false, false, false, false, false, false, false, false, false, false, false, false, false] rfl rfl (any_of HT_.out (by kernel_rfl)) (fun _ _ _ h => h) (Or.inl ⟨by rfl, ?_⟩) ?_ ?_
          rotate_left
          · intro w'
            go_simp
            with_reducible rfl
          rotate_left
          · simp only [Act.put, List.setIfInBounds_toArray, List.set_cons_zero, List.set_cons_succ, i64_w, i32_w]
            rfl
          refine pure_ (i := 16) (N := some 84) (v := ?_) (a' := ?_) #[true, true, true, true, true, true, true, true, true, true, true, true, true, true, true, true, true, false, false, false, false, false, false, false, false, false, false, false, false, false, false, false, false, false, false, false, false, false, false, false, false, false, false] rfl rfl (any_of HT_.out (by kernel_rfl)) (fun _ _ _ h => h) (Or.inl ⟨by rfl, ?_⟩) ?_ ?_
          rotate_left
          · intro w'
            go_simp
            with_reducible rfl
          rotate_left
          · simp only [Act.put, List.setIfInBounds_toArray, List.set_cons_zero, List.set_cons_succ, i64_w, i32_w]
            rfl
          refine take_ (i := 17) (N := some 85) (v := ?_) (a' := ?_) #[true, true, true, true, true, true, true, true, true, true, true, true, true, true, true, true, true, true, false, false, false, false, false, false, false, false, false, false, false, false, false, false, false, false, false, false, false, false, false, false, false, false, false] rfl rfl (take_ofW HT_.out HW_.out (by kernel_rfl)) (fun _ _ _ h => h) (Or.inl ⟨by rfl, ?_⟩) hHeld ?_ ?_
          rotate_left
          · intro w' hw'
            have hf0_ := HF.out.2.2.1 w' hw'
            go_simp
            with_reducible rfl
          rotate_left
          · simp only [Act.put, List.setIfInBounds_toArray, List.set_cons_zero, List.set_cons_succ, i64_w, i32_w]
            rfl
          refine pure_ (i := 18) (N := some 86) (v := ?_) (a' := ?_) #[true, true, true, true, true, true, true, true, true, true, true, true, true, true, true, true, true, true, true, false, false, false, false, false, false, false, false, false, false, false, false, false, false, false, false, false, false, false, false, false, false, false, false] rfl rfl (any_of HT_.out (by kernel_rfl)) (fun _ _ _ h => h) (Or.inl ⟨by rfl, ?_⟩) ?_ ?_
          rotate_left
          · intro w'
            go_simp
            with_reducible rfl
          rotate_left
          · simp only [Act.put, List.setIfInBounds_toArray, List.set_cons_zero, List.set_cons_succ, i64_w, i32_w]
            rfl
          refine take_ (i := 19) (N := some 87) (v := ?_) (a' := ?_) #[true, true, true, true, true, true, true, true, true, true, true, true, true, true, true, true, true, true, true, true, false, false, false, false, false, false, false, false, false, false, false, false, false, false, false, false, false, false, false, false, false, false, false] rfl rfl (take_ofW HT_.out HW_.out (by kernel_rfl)) (fun _ _ _ h => h) (Or.inl ⟨by rfl, ?_⟩) hHeld ?_ ?_
          rotate_left
          · intro w' hw'
            have hf0_ := HF.out.2.2.2.1 w' hw'
            go_simp
            with_reducible rfl
          rotate_left
          · simp only [Act.put, List.setIfInBounds_toArray, List.set_cons_zero, List.set_cons_succ, i64_w, i32_w]
            rfl
          refine pure_ (i := 20) (N := some 88) (v := ?_) (a' := ?_) #[true, true, true, true, true, true, true, true, true, true, true, true, true, true, true, true, true, true, true, true, true, false, false, false, false, false, false, false, false, false, false, false, false, false, false, false, false, false, false, false, false, false, false] rfl rfl (any_of HT_.out (by kernel_rfl)) (fun _ _ _ h => h) (Or.inl ⟨by rfl, ?_⟩) ?_ ?_
          rotate_left
          · intro w'
            go_simp
            with_reducible rfl
          rotate_left
          · simp only [Act.put, List.setIfInBounds_toArray, List.set_cons_zero, List.set_cons_succ, i64_w, i32_w]
            rfl
          refine pure_ (i := 21) (N := some 89) (v := ?_) (a' := ?_) #[true, true, true, true, true, true, true, true, true, true, true, true, true, true, true, true, true, true, true, true, true, true, false, false, false, false, false, false, false, false, false, false, false, false, false, false, false, false, false, false, false, false, false] rfl rfl (any_of HT_.out (by kernel_rfl)) (fun _ _ _ h => h) (Or.inl ⟨by rfl, ?_⟩) ?_ ?_
          rotate_left
          · intro w'
            go_simp
            with_reducible rfl
          rotate_left
          · simp only [Act.put, List.setIfInBounds_toArray, List.set_cons_zero, List.set_cons_succ, i64_w, i32_w]
            rfl
          refine pure_ (i := 22) (N := some 90) (v := ?_) (a' := ?_) #[true, true, true, true, true, true, true, true, true, true, true, true, true, true, true, true, true, true, true, true, true, true, true, false, false, false, false, false, false, false, false, false, false, false, false, false, false, false, false, false, false, false, false] rfl rfl (any_of HT_.out (by kernel_rfl)) (fun _ _ _ h => h) (Or.inl ⟨by rfl, ?_⟩) ?_ ?_
          rotate_left
          · intro w'
            go_simp
            with_reducible rfl
          rotate_left
          · simp only [Act.put, List.setIfInBounds_toArray, List.set_cons_zero, List.set_cons_succ, i64_w, i32_w]
            rfl
          refine pure_ (i := 23) (N := some 91) (v := ?_) (a' := ?_) #[true, true, true, true, true, true, true, true, true, true, true, true, true, true, true, true, true, true, true, true, true, true, true, true, false, false, false, false, false, false, false, false, false, false, false, false, false, false, false, false, false, false, false] rfl rfl (any_of HT_.out (by kernel_rfl)) (fun _ _ _ h => h) (Or.inl ⟨by rfl, ?_⟩) ?_ ?_
          rotate_left
          · intro w'
            go_simp
            with_reducible rfl
          rotate_left
          · simp only [Act.put, List.setIfInBounds_toArray, List.set_cons_zero, List.set_cons_succ, i64_w, i32_w]
            rfl
          refine take_ (i := 24) (N := some 92) (v := ?_) (a' := ?_) #[true, true, true, true, true, true, true, true, true, true, true, true, true, true, true, true, true, true, true, true, true, true, true, true, true, false, false, false, false, false, false, false, false, false, false, false, false, false, false, false, false, false, false] rfl rfl (take_ofW HT_.out HW_.out (by kernel_rfl)) (fun _ _ _ h => h) (Or.inl ⟨by rfl, ?_⟩) hHeld ?_ ?_
          rotate_left
          · intro w' hw'
            have hf0_ := HF.out.2.2.2.2 w' hw'
            go_simp
            with_reducible rfl
          rotate_left
          · simp only [Act.put, List.setIfInBounds_toArray, List.set_cons_zero, List.set_cons_succ, i64_w, i32_w]
            rfl
          refine pure_ (i := 25) (N := some 93) (v := ?_) (a' := ?_) #[true, true, true, true, true, true, true, true, true, true, true, true, true, true, true, true, true, true, true, true, true, true, true, true, true, true, false, false, false, false, false, false, false, false, false, false, false, false, false, false, false, false, false] rfl rfl (any_of HT_.out (by kernel_rfl)) (fun _ _ _ h => h) (Or.inl ⟨by rfl, ?_⟩) ?_ ?_
          rotate_left
          · intro w'
            go_simp
            with_reducible rfl
          rotate_left
          · simp only [Act.put, List.setIfInBounds_toArray, List.set_cons_zero, List.set_cons_succ, i64_w, i32_w]
            rfl
          refine pure_ (i := 26) (N := some 94) (v := ?_) (a' := ?_) #[true, true, true, true, true, true, true, true, true, true, true, true, true, true, true, true, true, true, true, true, true, true, true, true, true, true, true, false, false, false, false, false, false, false, false, false, false, false, false, false, false, false, false] rfl rfl (any_of HT_.out (by kernel_rfl)) (fun _ _ _ h => h) (Or.inl ⟨by rfl, ?_⟩) ?_ ?_
          rotate_left
          · intro w'
            go_simp
            with_reducible rfl
          rotate_left
          · simp only [Act.put, List.setIfInBounds_toArray, List.set_cons_zero, List.set_cons_succ, i64_w, i32_w]
            rfl
          refine one_ (i := 27) (N := some 95) #[true, true, true, true, true, true, true, true, true, true, true, true, true, true, true, true, true, true, true, true, true, true, true, true, true, true, true, true, false, false, false, false, false, false, false, false, false, false, false, false, false, false, false] rfl rfl (one_of HT_.out (by kernel_rfl)) (by decide) (fun K hK => ?_)
          refine goes_ Try.func24 (by kernel_rfl) rfl #[.slice A b.length c0, .int .u64 v] (by rfl) rfl rfl (by (try simp only [List.map_toArray, List.map_cons, List.map_nil]); first | done | rfl) ?_
          have HBq := Aside0.mk (below_step HB.out hHeld)
          refine (PRef.cofferref1_Count.calls 40 _ _ b v c wq (Kd.C_below HR.out HBq.out) HC.out F6.out).mono ?_
          rintro ep wp ⟨vp, rfl, hop, hbp⟩
          refine ⟨_, rfl, ?_⟩
          have HS1 := Aside0.mk (below_step hHeld hbp)
          have hcp := own_string (P := Try.prog) Try.underlying23 Try.underlying5 Try.underlying9 (Kd.own_of_R hop)
          have HCP := Aside0.mk hcp
          clear hop hbp HBq hcp
          refine hK.out _ _ (HS1.out) (fun hHeld => ?_)
          clear hK K
          refine norm_ (a' := ?_) ?_ ?_
          rotate_left
          · show Act.put _ (some 95) _ = _
            simp only [Act.put, List.setIfInBounds_toArray, List.set_cons_zero, List.set_cons_succ, i64_w, i32_w]
            rfl
          clear HS1
          refine one_ (i := 28) (N := some 96) #[true, true, true, true, true, true, true, true, true, true, true, true, true, true, true, true, true, true, true, true, true, true, true, true, true, true, true, true, true, false, false, false, false, false, false, false, false, false, false, false, false, false, false] rfl rfl (one_of HT_.out (by kernel_rfl)) (by decide) (fun K hK => ?_)
          have hcp := HCP.out
          refine value_ (w1 := ?_) (v := ?_) (by rfl) rfl ?_ ?_
          rotate_left 2
          · go_simp
            constructor
            · rfl
            · rfl
          refine hK.out _ _ (hHeld) (fun hHeld => ?_)
          clear hK K
          refine norm_ (a' := ?_) ?_ ?_
          rotate_left
          · show Act.put _ (some 96) _ = _
            simp only [Act.put, List.setIfInBounds_toArray, List.set_cons_zero, List.set_cons_succ, i64_w, i32_w]
            rfl
          clear hcp HCP
          refine pure_ (i := 29) (N := some 97) (v := ?_) (a' := ?_) #[true, true, true, true, true, true, true, true, true, true, true, true, true, true, true, true, true, true, true, true, true, true, true, true, true, true, true, true, true, true, false, false, false, false, false, false, false, false, false, false, false, false, false] rfl rfl (any_of HT_.out (by kernel_rfl)) (fun _ _ _ h => h) (Or.inl ⟨by rfl, ?_⟩) ?_ ?_
          rotate_left
          · intro w'
            go_simp
            with_reducible rfl
          rotate_left
          · simp only [Act.put, List.setIfInBounds_toArray, List.set_cons_zero, List.set_cons_succ, i64_w, i32_w]
            rfl
          refine pure_ (i := 30) (N := some 98) (v := ?_) (a' := ?_) #[true, true, true, true, true, true, true, true, true, true, true, true, true, true, true, true, true, true, true, true, true, true, true, true, true, true, true, true, true, true, true, false, false, false, false, false, false, false, false, false, false, false, false] rfl rfl (any_of HT_.out (by kernel_rfl)) (fun _ _ _ h => h) (Or.inl ⟨by rfl, ?_⟩) ?_ ?_
          rotate_left
          · intro w'
            go_simp
            with_reducible rfl
          rotate_left
          · simp only [Act.put, List.setIfInBounds_toArray, List.set_cons_zero, List.set_cons_succ, i64_w, i32_w]
            rfl
          refine pure_ (i := 31) (N := some 99) (v := ?_) (a' := ?_) #[true, true, true, true, true, true, true, true, true, true, true, true, true, true, true, true, true, true, true, true, true, true, true, true, true, true, true, true, true, true, true, true, false, false, false, false, false, false, false, false, false, false, false] rfl rfl (any_of HT_.out (by kernel_rfl)) (fun _ _ _ h => h) (Or.inl ⟨by rfl, ?_⟩) ?_ ?_
          rotate_left
          · intro w'
            go_simp
            with_reducible rfl
          rotate_left
          · simp only [Act.put, List.setIfInBounds_toArray, List.set_cons_zero, List.set_cons_succ, i64_w, i32_w]
            rfl
          refine pure_ (i := 32) (N := some 100) (v := ?_) (a' := ?_) #[true, true, true, true, true, true, true, true, true, true, true, true, true, true, true, true, true, true, true, true, true, true, true, true, true, true, true, true, true, true, true, true, true, false, false, false, false, false, false, false, false, false, false] rfl rfl (any_of HT_.out (by kernel_rfl)) (fun _ _ _ h => h) (Or.inl ⟨by rfl, ?_⟩) ?_ ?_
          rotate_left
          · intro w'
            go_simp
            with_reducible rfl
          rotate_left
          · simp only [Act.put, List.setIfInBounds_toArray, List.set_cons_zero, List.set_cons_succ, i64_w, i32_w]
            rfl
          refine pure_ (i := 33) (N := some 101) (v := ?_) (a' := ?_) #[true, true, true, true, true, true, true, true, true, true, true, true, true, true, true, true, true, true, true, true, true, true, true, true, true, true, true, true, true, true, true, true, true, true, false, false, false, false, false, false, false, false, false] rfl rfl (any_of HT_.out (by kernel_rfl)) (fun _ _ _ h => h) (Or.inl ⟨by rfl, ?_⟩) ?_ ?_
          rotate_left
          · intro w'
            go_simp
            with_reducible rfl
          rotate_left
          · simp only [Act.put, List.setIfInBounds_toArray, List.set_cons_zero, List.set_cons_succ, i64_w, i32_w]
            rfl
          refine one_ (i := 34) (N := some 102) #[true, true, true, true, true, true, true, true, true, true, true, true, true, true, true, true, true, true, true, true, true, true, true, true, true, true, true, true, true, true, true, true, true, true, true, false, false, false, false, false, false, false, false] rfl rfl (one_of HT_.out (by kernel_rfl)) (by decide) (fun K hK => ?_)
          refine goes_ Try.func25 (by kernel_rfl) rfl #[.slice (some ⟨gt, 0, none⟩) b.length (b.length + 3), .slice A b.length c0] (by rfl) rfl rfl (by (try simp only [List.map_toArray, List.map_cons, List.map_nil]); first | done | rfl) ?_
          have HBq := Aside0.mk (below_step HB.out hHeld)
          refine (kept_calls A c0 gt b wp (Kd.C_below HR.out HBq.out) HC.out (by omega) (HT_gt.out.below hHeld HT_gt.out.lt)).mono ?_
          rintro ek wk ⟨rfl, hdk⟩
          refine ⟨_, rfl, ?_⟩
          have HS1 := Aside0.mk (below_step hHeld hdk.below)
          clear HBq hdk
          refine hK.out _ _ (HS1.out) (fun hHeld => ?_)
          clear hK K
          refine norm_ (a' := ?_) ?_ ?_
          rotate_left
          · show Act.put _ (some 102) _ = _
            simp only [Act.put, List.setIfInBounds_toArray, List.set_cons_zero, List.set_cons_succ, i64_w, i32_w]
            rfl
          clear HS1
          refine pure_ (i := 35) (N := some 103) (v := ?_) (a' := ?_) #[true, true, true, true, true, true, true, true, true, true, true, true, true, true, true, true, true, true, true, true, true, true, true, true, true, true, true, true, true, true, true, true, true, true, true, true, false, false, false, false, false, false, false] rfl rfl (any_of HT_.out (by kernel_rfl)) (fun _ _ _ h => h) (Or.inl ⟨by rfl, ?_⟩) ?_ ?_
          rotate_left
          · intro w'
            go_simp
            with_reducible rfl
          rotate_left
          · simp only [Act.put, List.setIfInBounds_toArray, List.set_cons_zero, List.set_cons_succ, i64_w, i32_w]
            rfl
          refine pure_ (i := 36) (N := some 104) (v := ?_) (a' := ?_) #[true, true, true, true, true, true, true, true, true, true, true, true, true, true, true, true, true, true, true, true, true, true, true, true, true, true, true, true, true, true, true, true, true, true, true, true, true, false, false, false, false, false, false] rfl rfl (any_of HT_.out (by kernel_rfl)) (fun _ _ _ h => h) (Or.inl ⟨by rfl, ?_⟩) ?_ ?_
          rotate_left
          · intro w'
            go_simp
            with_reducible rfl
          rotate_left
          · simp only [Act.put, List.setIfInBounds_toArray, List.set_cons_zero, List.set_cons_succ, i64_w, i32_w]
            rfl
          refine pure_ (i := 37) (N := some 105) (v := ?_) (a' := ?_) #[true, true, true, true, true, true, true, true, true, true, true, true, true, true, true, true, true, true, true, true, true, true, true, true, true, true, true, true, true, true, true, true, true, true, true, true, true, true, false, false, false, false, false] rfl rfl (any_of HT_.out (by kernel_rfl)) (fun _ _ _ h => h) (Or.inl ⟨by rfl, ?_⟩) ?_ ?_
          rotate_left
          · intro w'
            go_simp
            with_reducible rfl
          rotate_left
          · simp only [Act.put, List.setIfInBounds_toArray, List.set_cons_zero, List.set_cons_succ, i64_w, i32_w]
            rfl
          refine pure_ (i := 38) (N := some 106) (v := ?_) (a' := ?_) #[true, true, true, true, true, true, true, true, true, true, true, true, true, true, true, true, true, true, true, true, true, true, true, true, true, true, true, true, true, true, true, true, true, true, true, true, true, true, true, false, false, false, false] rfl rfl (any_of HT_.out (by kernel_rfl)) (fun _ _ _ h => h) (Or.inl ⟨by rfl, ?_⟩) ?_ ?_
          rotate_left
          · intro w'
            go_simp
            with_reducible rfl
          rotate_left
          · simp only [Act.put, List.setIfInBounds_toArray, List.set_cons_zero, List.set_cons_succ, i64_w, i32_w]
            rfl
          refine pure_ (i := 39) (N := some 107) (v := ?_) (a' := ?_) #[true, true, true, true, true, true, true, true, true, true, true, true, true, true, true, true, true, true, true, true, true, true, true, true, true, true, true, true, true, true, true, true, true, true, true, true, true, true, true, true, false, false, false] rfl rfl (any_of HT_.out (by kernel_rfl)) (fun _ _ _ h => h) (Or.inl ⟨by rfl, ?_⟩) ?_ ?_
          rotate_left
          · intro w'
            go_simp
            with_reducible rfl
          rotate_left
          · simp only [Act.put, List.setIfInBounds_toArray, List.set_cons_zero, List.set_cons_succ, i64_w, i32_w]
            rfl
          refine one_ (i := 40) (N := some 108) #[true, true, true, true, true, true, true, true, true, true, true, true, true, true, true, true, true, true, true, true, true, true, true, true, true, true, true, true, true, true, true, true, true, true, true, true, true, true, true, true, true, false, false] rfl rfl (one_of HT_.out (by kernel_rfl)) (by decide) (fun K hK => ?_)
          refine goes_ Try.func25 (by kernel_rfl) rfl #[.slice (some ⟨gu, 0, none⟩) s.length (s.length + 3), .slice A1 s.length c1] (by rfl) rfl rfl (by (try simp only [List.map_toArray, List.map_cons, List.map_nil]); first | done | rfl) ?_
          have HBq := Aside0.mk (below_step HB.out hHeld)
          refine (kept_calls A1 c1 gu s wk (Kd.C_below HR1.out HBq.out) HC1.out (by omega) (HT_gu.out.below hHeld HT_gu.out.lt)).mono ?_
          rintro ej wj ⟨rfl, hdj⟩
          refine ⟨_, rfl, ?_⟩
          have HS1 := Aside0.mk (below_step hHeld hdj.below)
          clear HBq hdj
          refine hK.out _ _ (HS1.out) (fun hHeld => ?_)
          clear hK K
          refine norm_ (a' := ?_) ?_ ?_
          rotate_left
          · show Act.put _ (some 108) _ = _
            simp only [Act.put, List.setIfInBounds_toArray, List.set_cons_zero, List.set_cons_succ, i64_w, i32_w]
            rfl
          clear HS1
          refine pure_ (i := 41) (N := some 109) (v := ?_) (a' := ?_) #[true, true, true, true, true, true, true, true, true, true, true, true, true, true, true, true, true, true, true, true, true, true, true, true, true, true, true, true, true, true, true, true, true, true, true, true, true, true, true, true, true, true, false] rfl rfl (any_of HT_.out (by kernel_rfl)) (fun _ _ _ h => h) (Or.inl ⟨by rfl, ?_⟩) ?_ ?_
          rotate_left
          · intro w'
            go_simp
            with_reducible rfl
          rotate_left
          · simp only [Act.put, List.setIfInBounds_toArray, List.set_cons_zero, List.set_cons_succ, i64_w, i32_w]
            rfl
          refine pure_ (i := 42) (N := some 110) (v := ?_) (a' := ?_) #[true, true, true, true, true, true, true, true, true, true, true, true, true, true, true, true, true, true, true, true, true, true, true, true, true, true, true, true, true, true, true, true, true, true, true, true, true, true, true, true, true, true, true] rfl rfl (any_of HT_.out (by kernel_rfl)) (fun _ _ _ h => h) (Or.inl ⟨by rfl, ?_⟩) ?_ ?_
          rotate_left
          · intro w'
            go_simp
            with_reducible rfl
          rotate_left
          · simp only [Act.put, List.setIfInBounds_toArray, List.set_cons_zero, List.set_cons_succ, i64_w, i32_w]
            rfl
          refine done_ (done_of HT_.out (by kernel_rfl)) ?_
          clear HT_ HW_ HF
          clear HO102
          clear HO105
          have n0_ := Aside0.mk (below_step HB.out hHeld)
          have n1_ := Aside0.mk (HT_gt.out.below hHeld HT_gt.out.lt)
          have n2_ := Aside0.mk (HT_gu.out.below hHeld HT_gu.out.lt)
          have n3_ := Aside0.mk (Kd.R_below HO101.out hHeld)
          have n4_ := Aside0.mk (Kd.R_below HO103.out hHeld)
          have n5_ := Aside0.mk (Kd.R_below HO104.out hHeld)
          clear HB HT_gt HT_gu HO101 HO103 HO104
          have HB := n0_
          have HT_gt := n1_
          have HT_gu := n2_
          have HO101 := n3_
          have HO103 := n4_
          have HO104 := n5_
          clear n0_ n1_ n2_ n3_ n4_ n5_
          clear hHeld
          go_wp2_with fail
          refine (spoil_calls v101 x wj _ _ HO101.out).mono ?_
          rintro e106 w106 ⟨rfl, hg⟩
          have n0_ := Aside0.mk (HB.out.grown hg HB.out.size HBa101.out)
          have n1_ := Aside0.mk (HT_gt.out.grown hg HNe_gt_101.out)
          have n2_ := Aside0.mk (HT_gu.out.grown hg HNe_gu_101.out)
          have n3_ := Aside0.mk (Kd.R_grown HO103.out hg (fun k_ hk_ => hk_.2))
          have n4_ := Aside0.mk (Kd.R_grown HO104.out hg (fun k_ hk_ => hk_.1.2))
          clear HB HT_gt HT_gu HO103 HO104
          have HB := n0_
          have HT_gt := n1_
          have HT_gu := n2_
          have HO103 := n3_
          have HO104 := n4_
          clear n0_ n1_ n2_ n3_ n4_
          clear hg HO101
          go_wp2_with fail
          refine (spoil_calls v103 c w106 _ _ HO103.out).mono ?_
          rintro e107 w107 ⟨rfl, hg⟩
          have n0_ := Aside0.mk (HB.out.grown hg HB.out.size HBa103.out)
          have n1_ := Aside0.mk (HT_gt.out.grown hg HNe_gt_103.out)
          have n2_ := Aside0.mk (HT_gu.out.grown hg HNe_gu_103.out)
          have n3_ := Aside0.mk (Kd.R_grown HO104.out hg (fun k_ hk_ => hk_.2))
          clear HB HT_gt HT_gu HO104
          have HB := n0_
          have HT_gt := n1_
          have HT_gu := n2_
          have HO104 := n3_
          clear n0_ n1_ n2_ n3_
          clear hg HO103
          go_wp2_with fail
          refine (spoil_calls v104 z w107 _ _ HO104.out).mono ?_
          rintro e108 w108 ⟨rfl, hg⟩
          have n0_ := Aside0.mk (HB.out.grown hg HB.out.size HBa104.out)
          have n1_ := Aside0.mk (HT_gt.out.grown hg HNe_gt_104.out)
          have n2_ := Aside0.mk (HT_gu.out.grown hg HNe_gu_104.out)
          clear HB HT_gt HT_gu
          have HB := n0_
          have HT_gt := n1_
          have HT_gu := n2_
          clear n0_ n1_ n2_
          clear hg HO104
          go_wp2_with fail
          go_roundw
          case rel => exact ⟨m + 1, by omega, by go_num, HT_gt, HT_gu, HB⟩
          case measure => simp [intOf]; omega
        · obtain rfl : m = 2 := by omega
          go_wp2_with fail
          go_ret
          exact ⟨rfl, HB.out⟩
    · have hl1' : decide (131072 < (s.length : Int)) = true := by simp; omega
      go_enter Try.func6, Try.ntmps6
      go_wp2_with fail
      refine (POct.cofferlaw1_begun.calls 40 true _ (OctA.begun_ok 40 (by omega))).mono ?_
      rintro e1 w1 ⟨rfl, hb1⟩
      go_wp2_with fail
      go_ret
      exact ⟨rfl, hb1⟩
  · have hl' : decide (131072 < (b.length : Int)) = true := by simp; omega
    go_enter Try.func6, Try.ntmps6
    go_wp2_with fail
    refine (POct.cofferlaw1_begun.calls 40 true _ (OctA.begun_ok 40 (by omega))).mono ?_
    rintro e1 w1 ⟨rfl, hb1⟩
    go_wp2_with fail
    go_ret
    exact ⟨rfl, hb1⟩

theorem walk (a0 : Option Addr) (len0 cap0 : Nat) (z0 : List Int) (a1 : Option Addr) (len1 cap1 : Nat) (z1 : List Int) (a2 : Int) (a3 : Int) (w : World)
    (w0 : (a0 = none ∧ len0 = 0 ∧ cap0 = 0 ∧ z0 = []) ∨ ∃ x, a0 = some x ∧ len0 ≤ cap0 ∧ cap0 ≤ maxLen ∧ z0.length = cap0 ∧ (∀ i, i < z0.length → w.cell? (x.add i) = some (.int .u8 (z0.getD i 0))) ∧ ∀ n ∈ z0, (Lit.int .u8 n).wf = true)
    (y0 : len0 * 1 ≤ 140737488351232)
    (w1 : (a1 = none ∧ len1 = 0 ∧ cap1 = 0 ∧ z1 = []) ∨ ∃ x, a1 = some x ∧ len1 ≤ cap1 ∧ cap1 ≤ maxLen ∧ z1.length = cap1 ∧ (∀ i, i < z1.length → w.cell? (x.add i) = some (.int .u8 (z1.getD i 0))) ∧ ∀ n ∈ z1, (Lit.int .u8 n).wf = true)
    (y1 : len1 * 1 ≤ 140737488351232) (w2 : (Lit.int .u64 a2).wf = true) (w3 : (Lit.int .i64 a3).wf = true) :
    Calls Try.prog 6 #[.slice a0 len0 cap0, .slice a1 len1 cap1, .int .u64 a2, .int .i64 a3] w fun e w' => e = .returned (.bool true) ∧ Below w.heap.size w w' := by
  obtain ⟨l0, rfl, hr0, hm0, hw0, hc0⟩ := ReadsInt.ofRowC w0
  obtain ⟨l1, rfl, hr1, hm1, hw1, hc1⟩ := ReadsInt.ofRowC w1
  have hb := bounds_u64 w2
  exact walk0 a0 cap0 l0 a1 cap1 l1 a2 a3 w (Kd.C_of_reads (d := (0 : Int)) (h1 := fun _ => rfl) hr0) hc0 (Kd.C_of_reads (d := (0 : Int)) (h1 := fun _ => rfl) hr1) hc1 hb.1 hb.2
end Go.Proofs.Ytcddgokfdnjhaaa.Writes
