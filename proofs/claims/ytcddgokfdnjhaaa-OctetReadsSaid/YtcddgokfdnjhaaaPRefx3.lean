-- Contracts of functions, written by a program of this session
import Derived.Test.YtcddgokfdnjhaaaPRefx0
namespace Go.Proofs.Ytcddgokfdnjhaaa.PRef
open Go.RowKit Go.Proofs.YtcddgokfdnjhaaaW.PrintWords Go.Proofs.YtcddgokfdnjhaaaW.PrintLast Go.Proofs.YtcddgokfdnjhaaaW.PrintMore
attribute [local go_sem] max2_int min2_int max_two min_two max_three min_three max_four min_four   -- for this text's walks alone
set_option linter.unusedVariables false
set_option linter.unusedSimpArgs false

/-! ### cofferref1_TakeCount: function 34 -/
mutual
def cofferref1_TakeCount.l0 : Nat → List Int → Int → Int → Int → Option (Int × Int × Int)
  | 0, _, _, _, _ => none
  | k + 1, x0, x5, x6, x7 => if x7 < (x0.length : Int) then (if 0 ≤ x7 then (if x7 = 9 then (cofferref1_TakeCount.j1 k x0 x5 x6 x7 (IntKind.u64.wrap (rd x0 x7)) (decide ((IntKind.u64.wrap (rd x0 x7)) > 1))) else (cofferref1_TakeCount.j1 k x0 x5 x6 x7 (IntKind.u64.wrap (rd x0 x7)) false)) else (none)) else (some (0, 0, 3))
def cofferref1_TakeCount.j1 : Nat → List Int → Int → Int → Int → Int → Bool → Option (Int × Int × Int)
  | 0, _, _, _, _, _, _ => none
  | k + 1, x0, x5, x6, x7, x8, x25 => if x25 = true then (some (0, 0, 4)) else (if x8 < 128 then (if x8 = 0 then (if x7 > 0 then (some (0, 0, 4)) else (some (IntKind.u64.wrap (x5 + (IntKind.u64.wrap (x8 * x6))), wrap64 (x7 + 1), 0))) else (some (IntKind.u64.wrap (x5 + (IntKind.u64.wrap (x8 * x6))), wrap64 (x7 + 1), 0))) else (cofferref1_TakeCount.l0 k x0 (IntKind.u64.wrap (x5 + (IntKind.u64.wrap ((IntKind.u64.wrap (x8 - 128)) * x6)))) (IntKind.u64.wrap (x6 * 128)) (wrap64 (x7 + 1))))
end
def cofferref1_TakeCount.f (k : Nat) (l0 : List Int) : Option (Int × Int × Int) := cofferref1_TakeCount.l0 k l0 0 1 0
theorem cofferref1_TakeCount.mono_l : ∀ k, (∀ y0 y1 y2 y3, LeO (cofferref1_TakeCount.l0 k y0 y1 y2 y3) (cofferref1_TakeCount.l0 (k + 1) y0 y1 y2 y3)) ∧ (∀ y0 y1 y2 y3 y4 y5, LeO (cofferref1_TakeCount.j1 k y0 y1 y2 y3 y4 y5) (cofferref1_TakeCount.j1 (k + 1) y0 y1 y2 y3 y4 y5))
  | 0 => ⟨fun _ _ _ _ r h => by simp [cofferref1_TakeCount.l0] at h, fun _ _ _ _ _ _ r h => by simp [cofferref1_TakeCount.j1] at h⟩
  | k + 1 => by
    obtain ⟨ih0, ih1⟩ := cofferref1_TakeCount.mono_l k
    refine ⟨?_, ?_⟩
    · intro y0 y1 y2 y3
      unfold cofferref1_TakeCount.l0
      repeat' first
      | (with_reducible exact ih0 _ _ _ _)
      | (with_reducible exact ih1 _ _ _ _ _ _)
      | (with_reducible exact LeO.refl _)
      | (with_reducible exact LeO.none _)
      | (with_reducible refine LeO.ite ?_ ?_)
      | (with_reducible refine LeO.bind ?_ (fun _ => ?_))
      | exact ih0 _ _ _ _
      | exact ih1 _ _ _ _ _ _
      | exact LeO.none _
      | refine LeO.ite ?_ ?_
      | refine LeO.bind ?_ (fun _ => ?_)
    · intro y0 y1 y2 y3 y4 y5
      unfold cofferref1_TakeCount.j1
      repeat' first
      | (with_reducible exact ih0 _ _ _ _)
      | (with_reducible exact ih1 _ _ _ _ _ _)
      | (with_reducible exact LeO.refl _)
      | (with_reducible exact LeO.none _)
      | (with_reducible refine LeO.ite ?_ ?_)
      | (with_reducible refine LeO.bind ?_ (fun _ => ?_))
      | exact ih0 _ _ _ _
      | exact ih1 _ _ _ _ _ _
      | exact LeO.none _
      | refine LeO.ite ?_ ?_
      | refine LeO.bind ?_ (fun _ => ?_)
theorem cofferref1_TakeCount.mono : ∀ a0 k, LeO (cofferref1_TakeCount.f k a0) (cofferref1_TakeCount.f (k + 1) a0) := by
  intro a0 k
  obtain ⟨ih0, ih1⟩ := cofferref1_TakeCount.mono_l k
  unfold cofferref1_TakeCount.f
  repeat' first
      | (with_reducible exact ih0 _ _ _ _)
      | (with_reducible exact ih1 _ _ _ _ _ _)
      | (with_reducible exact LeO.refl _)
      | (with_reducible exact LeO.none _)
      | (with_reducible refine LeO.ite ?_ ?_)
      | (with_reducible refine LeO.bind ?_ (fun _ => ?_))
      | exact ih0 _ _ _ _
      | exact ih1 _ _ _ _ _ _
      | exact LeO.none _
      | refine LeO.ite ?_ ?_
      | refine LeO.bind ?_ (fun _ => ?_)
set_option maxHeartbeats 8000000 in
set_option maxRecDepth 100000 in
theorem cofferref1_TakeCount.calls (k : Nat) (A0 : Option Addr) (c0 : Nat) (l0 : List Int) (r1 : Int) (r2 : Int) (r3 : Int) (w : World) (hr0 : Kd.C (Kd.int .u8) w A0 l0.length l0) (hc0 : l0.length ≤ c0) (h : cofferref1_TakeCount.f k l0 = some (r1, r2, r3)) :
    Calls Try.prog 34 #[.slice A0 l0.length c0] w fun e w' => e = .returned (.tuple #[.int .u64 r1, .int .i64 r2, .int .i64 r3]) ∧ Drawn0 w w' := by
  have HR0 := Aside0.mk hr0
  have HC0 := Aside0.mk hc0
  clear hr0 hc0
  have H : (cofferref1_TakeCount.l0 k l0 0 1 0) = some (r1, r2, r3) := h
  clear h
  have H' := Aside0.mk H
  clear H
  go_enter Try.func34, Try.ntmps34
  go_wp2
  go_loopg [5, 6, 7] k (fun kq v5 v6 v7 w' => ∃ (x5_1 : Int) (x6_1 : Int) (x7_1 : Int), v5 = .int .u64 x5_1 ∧ v6 = .int .u64 x6_1 ∧ v7 = .int .i64 x7_1 ∧ Aside0 (cofferref1_TakeCount.l0 kq l0 x5_1 x6_1 x7_1 = some (r1, r2, r3)) ∧ Aside0 (kq ≤ k) ∧ Drawn0 w w')
  case atStart => exact ⟨(0), (1), (0), (by first | rfl | (simp; done) | (simp [*]; done)), (by first | rfl | (simp; done) | (simp [*]; done)), (by first | rfl | (simp; done) | (simp [*]; done)), H', ⟨Nat.le_refl _⟩, by repeat (first | exact Drawn0.refl _ | apply Drawn0.step)⟩
  case round =>
    clear H'
    obtain ⟨x5_1, x6_1, x7_1, rfl, rfl, rfl, HA, HK1, ⟨m1, rfl⟩⟩ := hrel
    cases gk with
    | zero => exact absurd HA.out (by simp [cofferref1_TakeCount.l0])
    | succ k1 =>
      have H := HA.out
      clear HA
      simp only [cofferref1_TakeCount.l0] at H
      by_cases c2 : x7_1 < (l0.length : Int)
      · rw [if_pos c2] at H
        have c2b0 : decide (x7_1 < (l0.length : Int)) = true := decide_eq_true c2
        clear c2
        by_cases c3 : 0 ≤ x7_1
        · rw [if_pos c3] at H
          have c3b0 : decide (0 ≤ x7_1) = true := decide_eq_true c3
          clear c3
          have HC4 := Aside0.mk H
          clear H
          have p150 : 0 ≤ (x7_1 : Int) := of_decide_eq_true (by first | (with_reducible assumption) | assumption)
          have q150 : x7_1 < (l0.length : Int) := of_decide_eq_true (by first | (with_reducible assumption) | assumption)
          obtain ⟨ad150, e150, hx150_0⟩ := Kd.at_int HR0.out x7_1 p150 q150
          cases e150
          replace p150 := eq_true p150
          replace q150 := eq_true q150
          go_upto_region 6 with (fail)
          go_cut [25] (fun v25 wc => ∃ (kq : Nat) (x25_3 : Bool), v25 = .bool x25_3 ∧ Aside0 (cofferref1_TakeCount.j1 kq l0 x5_1 x6_1 x7_1 (IntKind.u64.wrap (rd l0 x7_1)) x25_3 = some (r1, r2, r3)) ∧ Aside0 (kq ≤ k1) ∧ Drawn0 w wc)
          case first =>
            have H := HC4.out
            clear HC4
            by_cases c5 : x7_1 = 9
            · rw [if_pos c5] at H
              have c5b0 : (x7_1 == 9) = true := beq_iff_eq.mpr c5
              have c5b1 : (x7_1 != 9) = false := bne_eq_false_iff_eq.mpr c5
              clear c5
              (first | rw [c5b0] | (simp only [i64_w, i32_w]; rw [c5b0]) | skip)
              have H' := Aside0.mk H
              clear H
              go_wp2
              go_meet
              case rel => exact ⟨_, (decide ((IntKind.u64.wrap (rd l0 x7_1)) > 1)), (by first | rfl | (simp; done) | (simp [*]; done)), H', ⟨by have := HK1.out; first | omega | exact Nat.le_refl _⟩, by repeat (first | exact Drawn0.refl _ | apply Drawn0.step)⟩
            · rw [if_neg c5] at H
              have c5b0 : (x7_1 == 9) = false := beq_eq_false_iff_ne.mpr c5
              have c5b1 : (x7_1 != 9) = true := bne_iff_ne.mpr c5
              (first | rw [c5b0] | (simp only [i64_w, i32_w]; rw [c5b0]) | skip)
              have H' := Aside0.mk H
              clear H
              go_wp2
              go_meet
              case rel => exact ⟨_, (false), (by first | rfl | (simp; done) | (simp [*]; done)), H', ⟨by have := HK1.out; first | omega | exact Nat.le_refl _⟩, by repeat (first | exact Drawn0.refl _ | apply Drawn0.step)⟩
          case rest =>
            clear HC4
            try clear p1
            try clear q1
            try clear hx1
            try clear c2
            try clear c2b0
            try clear p2
            try clear c3
            try clear c3b0
            try clear c5
            try clear c5b0
            try clear c5b1
            try clear hx150_0
            try clear p150
            try clear q150
            obtain ⟨kq, x25_3, rfl, HA, HJ3, ⟨mc3, rfl⟩⟩ := hcut
            cases kq with
            | zero => exact absurd HA.out (by simp [cofferref1_TakeCount.j1])
            | succ kj3 =>
              have H := HA.out
              clear HA
              simp only [cofferref1_TakeCount.j1] at H
              by_cases c6 : x25_3 = true
              · subst c6
                have H1 : (some (0, 0, 4)) = some (r1, r2, r3) := by rw [if_pos rfl] at H; exact H
                clear H
                have H := H1
                clear H1
                simp only [Option.some.injEq, Prod.mk.injEq] at H
                obtain ⟨rfl, rfl, rfl⟩ := H
                go_wp2
                go_ret3
                exact ⟨by first | rfl | (simp; done) | (simp [*]; done), by repeat (first | exact Drawn0.refl _ | apply Drawn0.step)⟩
              · replace c6 := Bool.eq_false_iff.mpr c6
                subst c6
                have H1 : (if (IntKind.u64.wrap (rd l0 x7_1)) < 128 then (if (IntKind.u64.wrap (rd l0 x7_1)) = 0 then (if x7_1 > 0 then (some (0, 0, 4)) else (some (IntKind.u64.wrap (x5_1 + (IntKind.u64.wrap ((IntKind.u64.wrap (rd l0 x7_1)) * x6_1))), wrap64 (x7_1 + 1), 0))) else (some (IntKind.u64.wrap (x5_1 + (IntKind.u64.wrap ((IntKind.u64.wrap (rd l0 x7_1)) * x6_1))), wrap64 (x7_1 + 1), 0))) else (cofferref1_TakeCount.l0 kj3 l0 (IntKind.u64.wrap (x5_1 + (IntKind.u64.wrap ((IntKind.u64.wrap ((IntKind.u64.wrap (rd l0 x7_1)) - 128)) * x6_1)))) (IntKind.u64.wrap (x6_1 * 128)) (wrap64 (x7_1 + 1)))) = some (r1, r2, r3) := by rw [if_neg (show ¬ (false = true) by decide)] at H; exact H
                clear H
                have H := H1
                clear H1
                by_cases c7 : (IntKind.u64.wrap (rd l0 x7_1)) < 128
                · rw [if_pos c7] at H
                  have c7b0 : decide ((IntKind.u64.wrap (rd l0 x7_1)) < 128) = true := decide_eq_true c7
                  clear c7
                  by_cases c8 : (IntKind.u64.wrap (rd l0 x7_1)) = 0
                  · rw [if_pos c8] at H
                    have c8b0 : ((IntKind.u64.wrap (rd l0 x7_1)) == 0) = true := beq_iff_eq.mpr c8
                    have c8b1 : ((IntKind.u64.wrap (rd l0 x7_1)) != 0) = false := bne_eq_false_iff_eq.mpr c8
                    clear c8
                    by_cases c9 : x7_1 > 0
                    · rw [if_pos c9] at H
                      have c9b0 : decide (0 < x7_1) = true := decide_eq_true c9
                      clear c9
                      simp only [Option.some.injEq, Prod.mk.injEq] at H
                      obtain ⟨rfl, rfl, rfl⟩ := H
                      go_wp2
                      go_ret3
                      exact ⟨by first | rfl | (simp; done) | (simp [*]; done), by repeat (first | exact Drawn0.refl _ | apply Drawn0.step)⟩
                    · rw [if_neg c9] at H
                      have c9b0 : decide (0 < x7_1) = false := decide_eq_false c9
                      clear c9
                      simp only [Option.some.injEq, Prod.mk.injEq] at H
                      obtain ⟨rfl, rfl, rfl⟩ := H
                      go_wp2
                      go_ret3
                      exact ⟨by first | rfl | (simp; done) | (simp [*]; done), by repeat (first | exact Drawn0.refl _ | apply Drawn0.step)⟩
                  · rw [if_neg c8] at H
                    have c8b0 : ((IntKind.u64.wrap (rd l0 x7_1)) == 0) = false := beq_eq_false_iff_ne.mpr c8
                    have c8b1 : ((IntKind.u64.wrap (rd l0 x7_1)) != 0) = true := bne_iff_ne.mpr c8
                    simp only [Option.some.injEq, Prod.mk.injEq] at H
                    obtain ⟨rfl, rfl, rfl⟩ := H
                    go_wp2
                    go_ret3
                    exact ⟨by first | rfl | (simp; done) | (simp [*]; done), by repeat (first | exact Drawn0.refl _ | apply Drawn0.step)⟩
                · rw [if_neg c7] at H
                  have c7b0 : decide ((IntKind.u64.wrap (rd l0 x7_1)) < 128) = false := decide_eq_false c7
                  clear c7
                  have H' := Aside0.mk H
                  clear H
                  go_wp2
                  go_roundg kj3
                  case measure => have := HK1.out; have := HJ3.out; omega
                  case rel => exact ⟨(IntKind.u64.wrap (x5_1 + (IntKind.u64.wrap ((IntKind.u64.wrap ((IntKind.u64.wrap (rd l0 x7_1)) - 128)) * x6_1)))), (IntKind.u64.wrap (x6_1 * 128)), (wrap64 (x7_1 + 1)), (by first | rfl | (simp; done) | (simp [*]; done)), (by first | rfl | (simp; done) | (simp [*]; done)), (by first | rfl | (simp; done) | (simp [*]; done)), H', ⟨by have := HK1.out; have := HJ3.out; omega⟩, by repeat (first | exact Drawn0.refl _ | apply Drawn0.step)⟩
        · rw [if_neg c3] at H
          exact absurd H (by simp)
      · rw [if_neg c2] at H
        have c2b0 : decide (x7_1 < (l0.length : Int)) = false := decide_eq_false c2
        clear c2
        simp only [Option.some.injEq, Prod.mk.injEq] at H
        obtain ⟨rfl, rfl, rfl⟩ := H
        go_wp2
        go_ret3
        exact ⟨by first | rfl | (simp; done) | (simp [*]; done), by repeat (first | exact Drawn0.refl _ | apply Drawn0.step)⟩

/-! ### cofferref1_TakeText: function 36 -/
def cofferref1_TakeText.f (k : Nat) (l0 : List Int) : Option (List Int × Int × Int) := (cofferref1_TakeCount.f k l0).bind fun bt151 => (if bt151.2.2 = 0 then (if bt151.1 > 65536 then (some (([] : List Int), 0, 2)) else (if (wrap64 (bt151.1)) > (wrap64 ((l0.length : Int) - bt151.2.1)) then (some (([] : List Int), 0, 3)) else ((some (([] : List Int) : List Int)).bind fun y154 => (if 0 ≤ bt151.2.1 then (if bt151.2.1 ≤ (wrap64 (bt151.2.1 + (wrap64 (bt151.1)))) then (if (wrap64 (bt151.2.1 + (wrap64 (bt151.1)))) ≤ (l0.length : Int) then (if y154.length + ((l0.take ((wrap64 (bt151.2.1 + (wrap64 (bt151.1)))) : Int).toNat).drop (bt151.2.1 : Int).toNat).length < 140737488355328 then (some ((y154 ++ ((l0.take ((wrap64 (bt151.2.1 + (wrap64 (bt151.1)))) : Int).toNat).drop (bt151.2.1 : Int).toNat)), wrap64 (bt151.2.1 + (wrap64 (bt151.1))), 0)) else (none)) else (none)) else (none)) else (none))))) else (some (([] : List Int), 0, bt151.2.2)))
theorem cofferref1_TakeText.mono : ∀ a0 k, LeO (cofferref1_TakeText.f k a0) (cofferref1_TakeText.f (k + 1) a0) := by
  intro a0 k
  unfold cofferref1_TakeText.f
  repeat' first
      | (with_reducible exact cofferref1_TakeCount.mono _ _)
      | (with_reducible exact LeO.refl _)
      | (with_reducible exact LeO.none _)
      | (with_reducible refine LeO.ite ?_ ?_)
      | (with_reducible refine LeO.bind ?_ (fun _ => ?_))
      | exact cofferref1_TakeCount.mono _ _
      | exact LeO.none _
      | refine LeO.ite ?_ ?_
      | refine LeO.bind ?_ (fun _ => ?_)
set_option maxHeartbeats 8000000 in
set_option maxRecDepth 100000 in
theorem cofferref1_TakeText.calls (k : Nat) (A0 : Option Addr) (c0 : Nat) (l0 : List Int) (r1 : List Int) (r2 : Int) (r3 : Int) (w : World) (hr0 : Kd.C (Kd.int .u8) w A0 l0.length l0) (hc0 : l0.length ≤ c0) (h : cofferref1_TakeText.f k l0 = some (r1, r2, r3)) :
    Calls Try.prog 36 #[.slice A0 l0.length c0] w fun e w' => ∃ v0_ : Value, e = .returned (.tuple #[v0_, .int .i64 r2, .int .i64 r3]) ∧ Kd.R (Kd.int .u8) 5 w' w.heap.size (fun _ => True) v0_ r1 ∧ Below w.heap.size w w' := by
  have HR0 := Aside0.mk hr0
  have HC0 := Aside0.mk hc0
  clear hr0 hc0
  have HB := Aside0.mk (Below.refl w.heap.size w)
  have H : ((cofferref1_TakeCount.f k l0).bind fun bt151 => (if bt151.2.2 = 0 then (if bt151.1 > 65536 then (some (([] : List Int), 0, 2)) else (if (wrap64 (bt151.1)) > (wrap64 ((l0.length : Int) - bt151.2.1)) then (some (([] : List Int), 0, 3)) else ((some (([] : List Int) : List Int)).bind fun y154 => (if 0 ≤ bt151.2.1 then (if bt151.2.1 ≤ (wrap64 (bt151.2.1 + (wrap64 (bt151.1)))) then (if (wrap64 (bt151.2.1 + (wrap64 (bt151.1)))) ≤ (l0.length : Int) then (if y154.length + ((l0.take ((wrap64 (bt151.2.1 + (wrap64 (bt151.1)))) : Int).toNat).drop (bt151.2.1 : Int).toNat).length < 140737488355328 then (some ((y154 ++ ((l0.take ((wrap64 (bt151.2.1 + (wrap64 (bt151.1)))) : Int).toNat).drop (bt151.2.1 : Int).toNat)), wrap64 (bt151.2.1 + (wrap64 (bt151.1))), 0)) else (none)) else (none)) else (none)) else (none))))) else (some (([] : List Int), 0, bt151.2.2)))) = some (r1, r2, r3) := h
  clear h
  replace H := Option.bind_eq_some_iff.mp H
  obtain ⟨⟨t151, t152, t153⟩, A20, H⟩ := H
  replace H : (if t153 = 0 then (if t151 > 65536 then (some (([] : List Int), 0, 2)) else (if (wrap64 (t151)) > (wrap64 ((l0.length : Int) - t152)) then (some (([] : List Int), 0, 3)) else ((some (([] : List Int) : List Int)).bind fun y154 => (if 0 ≤ t152 then (if t152 ≤ (wrap64 (t152 + (wrap64 (t151)))) then (if (wrap64 (t152 + (wrap64 (t151)))) ≤ (l0.length : Int) then (if y154.length + ((l0.take ((wrap64 (t152 + (wrap64 (t151)))) : Int).toNat).drop (t152 : Int).toNat).length < 140737488355328 then (some ((y154 ++ ((l0.take ((wrap64 (t152 + (wrap64 (t151)))) : Int).toNat).drop (t152 : Int).toNat)), wrap64 (t152 + (wrap64 (t151))), 0)) else (none)) else (none)) else (none)) else (none))))) else (some (([] : List Int), 0, t153))) = some (r1, r2, r3) := H
  have A2 := Aside0.mk A20
  clear A20
  by_cases c3 : t153 = 0
  · rw [if_pos c3] at H
    have c3b0 : (t153 == 0) = true := beq_iff_eq.mpr c3
    have c3b1 : (t153 != 0) = false := bne_eq_false_iff_eq.mpr c3
    clear c3
    by_cases c4 : t151 > 65536
    · rw [if_pos c4] at H
      have c4b0 : decide (65536 < t151) = true := decide_eq_true c4
      clear c4
      simp only [Option.some.injEq, Prod.mk.injEq] at H
      obtain ⟨rfl, rfl, rfl⟩ := H
      go_enter Try.func36, Try.ntmps36
      go_wp2_with (first | ((with_reducible refine gate_callee (f := 34) rfl ?_); refine goesL_ (some 10) rfl rfl Try.func34 (by kernel_rfl) rfl #[.slice A0 l0.length c0] rfl (by (try simp only [List.map_toArray, List.map_cons, List.map_nil]); first | done | rfl | (simp only [List.length_drop, List.length_take]; rfl)) ?_; (with_reducible refine (cofferref1_TakeCount.calls k _ _ l0 t151 t152 t153 _ ?side1 ?side2 A2.out).mono ?_); (case side1 => repeat (first | exact HR0.out | (with_reducible refine Kd.C_alloc ?_ _) | (with_reducible refine Kd.C_drewN ?_ _) | (with_reducible refine Kd.C_drew ?_))); (case side2 => exact HC0.out); rintro e w' ⟨rfl, ⟨nd, rfl⟩⟩; refine ⟨_, rfl, ?_⟩))
      go_ret3
      exact ⟨_, by first | rfl | (simp [errW_none, errW_some] <;> rfl) | (simp [*, errW_none, errW_some] <;> rfl), by first | exact Kd.R_nil _ _ _ _ _ | exact Kd.N_nil _ _ _ _ _ | exact Kd.V_nil _ _ _ _ _ | exact Kd.Q_nil _ _ _ _ _ | exact Kd.S_nil _ _ _ _ _, by repeat (first | (with_reducible first | exact HB.out | apply below_alloc | apply pw_below_drewN | apply below_drew1) | exact HB.out)⟩
    · rw [if_neg c4] at H
      have c4b0 : decide (65536 < t151) = false := decide_eq_false c4
      clear c4
      by_cases c5 : (wrap64 (t151)) > (wrap64 ((l0.length : Int) - t152))
      · rw [if_pos c5] at H
        have c5b0 : decide ((wrap64 ((l0.length : Int) - t152)) < (wrap64 (t151))) = true := decide_eq_true c5
        clear c5
        simp only [Option.some.injEq, Prod.mk.injEq] at H
        obtain ⟨rfl, rfl, rfl⟩ := H
        go_enter Try.func36, Try.ntmps36
        go_wp2_with (first | ((with_reducible refine gate_callee (f := 34) rfl ?_); refine goesL_ (some 10) rfl rfl Try.func34 (by kernel_rfl) rfl #[.slice A0 l0.length c0] rfl (by (try simp only [List.map_toArray, List.map_cons, List.map_nil]); first | done | rfl | (simp only [List.length_drop, List.length_take]; rfl)) ?_; (with_reducible refine (cofferref1_TakeCount.calls k _ _ l0 t151 t152 t153 _ ?side1 ?side2 A2.out).mono ?_); (case side1 => repeat (first | exact HR0.out | (with_reducible refine Kd.C_alloc ?_ _) | (with_reducible refine Kd.C_drewN ?_ _) | (with_reducible refine Kd.C_drew ?_))); (case side2 => exact HC0.out); rintro e w' ⟨rfl, ⟨nd, rfl⟩⟩; refine ⟨_, rfl, ?_⟩))
        go_ret3
        exact ⟨_, by first | rfl | (simp [errW_none, errW_some] <;> rfl) | (simp [*, errW_none, errW_some] <;> rfl), by first | exact Kd.R_nil _ _ _ _ _ | exact Kd.N_nil _ _ _ _ _ | exact Kd.V_nil _ _ _ _ _ | exact Kd.Q_nil _ _ _ _ _ | exact Kd.S_nil _ _ _ _ _, by repeat (first | (with_reducible first | exact HB.out | apply below_alloc | apply pw_below_drewN | apply below_drew1) | exact HB.out)⟩
      · rw [if_neg c5] at H
        have c5b0 : decide ((wrap64 ((l0.length : Int) - t152)) < (wrap64 (t151))) = false := decide_eq_false c5
        clear c5
        obtain ⟨y154, hy154⟩ : ∃ y_ : List Int, y_ = (([] : List Int)) := ⟨_, rfl⟩
        replace H : (if 0 ≤ t152 then (if t152 ≤ (wrap64 (t152 + (wrap64 (t151)))) then (if (wrap64 (t152 + (wrap64 (t151)))) ≤ (l0.length : Int) then (if y154.length + ((l0.take ((wrap64 (t152 + (wrap64 (t151)))) : Int).toNat).drop (t152 : Int).toNat).length < 140737488355328 then (some ((y154 ++ ((l0.take ((wrap64 (t152 + (wrap64 (t151)))) : Int).toNat).drop (t152 : Int).toNat)), wrap64 (t152 + (wrap64 (t151))), 0)) else (none)) else (none)) else (none)) else (none)) = some (r1, r2, r3) := by first | (rw [hy154]; with_reducible exact H) | (have H2_ := (Option.bind_some _ _).symm.trans H; rw [hy154]; with_reducible exact H2_) | (have H2_ := (Option.bind_some _ _).symm.trans H; with_reducible exact H2_) | with_reducible exact H | (rw [hy154]; exact H) | exact H
        have Ny154 := Aside0.mk hy154
        clear hy154
        by_cases c6 : 0 ≤ t152
        · rw [if_pos c6] at H
          have c6b0 := eq_true c6
          have c6b1 : decide (0 ≤ t152) = true := decide_eq_true c6
          clear c6
          by_cases c7 : t152 ≤ (wrap64 (t152 + (wrap64 (t151))))
          · rw [if_pos c7] at H
            have c7b0 := eq_true c7
            have c7b1 : decide (t152 ≤ (wrap64 (t152 + (wrap64 (t151))))) = true := decide_eq_true c7
            by_cases c8 : (wrap64 (t152 + (wrap64 (t151)))) ≤ (l0.length : Int)
            · rw [if_pos c8] at H
              have c8b0 := eq_true c8
              have c8b1 : decide ((wrap64 (t152 + (wrap64 (t151)))) ≤ (l0.length : Int)) = true := decide_eq_true c8
              by_cases c9 : y154.length + ((l0.take ((wrap64 (t152 + (wrap64 (t151)))) : Int).toNat).drop (t152 : Int).toNat).length < 140737488355328
              · rw [if_pos c9] at H
                have LMc9 := Aside0.mk c9
                clear c9
                obtain ⟨y158, hy158⟩ : ∃ y_ : List Int, y_ = (y154 ++ ((l0.take ((wrap64 (t152 + (wrap64 (t151)))) : Int).toNat).drop (t152 : Int).toNat)) := ⟨_, rfl⟩
                replace H : (some (y158, wrap64 (t152 + (wrap64 (t151))), 0)) = some (r1, r2, r3) := by first | (rw [hy158]; with_reducible exact H) | (have H2_ := (Option.bind_some _ _).symm.trans H; rw [hy158]; with_reducible exact H2_) | (have H2_ := (Option.bind_some _ _).symm.trans H; with_reducible exact H2_) | with_reducible exact H | (rw [hy158]; exact H) | exact H
                have Ny158 := Aside0.mk hy158
                clear hy158
                simp only [Option.some.injEq, Prod.mk.injEq] at H
                obtain ⟨rfl, rfl, rfl⟩ := H
                go_enter Try.func36, Try.ntmps36
                go_wp2_with (first | ((with_reducible refine gate_callee (f := 34) rfl ?_); refine goesL_ (some 10) rfl rfl Try.func34 (by kernel_rfl) rfl #[.slice A0 l0.length c0] rfl (by (try simp only [List.map_toArray, List.map_cons, List.map_nil]); first | done | rfl | (simp only [List.length_drop, List.length_take]; rfl)) ?_; (with_reducible refine (cofferref1_TakeCount.calls k _ _ l0 t151 t152 t153 _ ?side1 ?side2 A2.out).mono ?_); (case side1 => repeat (first | exact HR0.out | (with_reducible refine Kd.C_alloc ?_ _) | (with_reducible refine Kd.C_drewN ?_ _) | (with_reducible refine Kd.C_drew ?_))); (case side2 => exact HC0.out); rintro e w' ⟨rfl, ⟨nd, rfl⟩⟩; refine ⟨_, rfl, ?_⟩) | ((with_reducible refine gate_dst (N := 26) rfl ?_); refine Kd.R_lit (Kd.int .u8) _ 5 ?hg (N := 26) ?hd (xs := ([] : List Int)) (inner := []) (ok := fun _ => True) (okp := fun _ => True) ?hr ?hp (fun _ hk => hk) trivial (Below.refl _ _) (Nat.le_refl _) (by simp) ?_; (case hd => rfl); (case hg => rfl); (case hr => first | (go_simp; done) | (go_simp; rfl)); (case hp => exact (Reps.none _ _)); intro v155 w10 ho11 hb hg_ hnew_; clear hg_ hnew_; (first | rw [← Ny154.out] at ho11 | (simp only [Int.reduceToNat] at ho11; rw [← Ny154.out] at ho11)); have n0_ := Aside0.mk (Kd.R_lower ho11 (below_size (by repeat (first | (with_reducible first | exact HB.out | apply below_alloc | apply pw_below_drewN | apply below_drew1) | exact HB.out)))); have n1_ := Aside0.mk (below_step (by repeat (first | (with_reducible first | exact HB.out | apply below_alloc | apply pw_below_drewN | apply below_drew1) | exact HB.out)) hb); clear HB; have HO156 := n0_; have HB := n1_; clear n0_ n1_; clear hb ho11; obtain ⟨i012, hi012, _, hsz12, _⟩ := info_parts info5; obtain ⟨A12, hcut12, hA12, hC12⟩ := print_mid_of (P := Try.prog) (Value.int .u8) 0 23 5 .i64 .i64 Try.underlying23 hi012 hsz12 A0 c0 l0 t152 (wrap64 (t152 + (wrap64 (t151)))) (of_decide_eq_true (by first | (with_reducible assumption) | assumption)) (by first | omega | exact of_decide_eq_true (by first | (with_reducible assumption) | assumption)) (of_decide_eq_true (by first | (with_reducible assumption) | assumption)) HC0.out; have HR157 := Aside0.mk (Kd.C_of_reads (h1 := fun _ => rfl) (hA12 _ (Kd.reads_of_C HR0.out))); have HC157 := Aside0.mk hC12; clear hA12 hC12 hi012 hsz12) | ((with_reducible refine gate_builtin (b := .append) (xs := #[.tmp 26, .tmp 33]) rfl ?_); at_builtin; refine Kd.R_append_rows (Kd.int .u8) (w0 := w) w.heap.size rfl (.tmp 26) (.tmp 33) 23 5 (.int .u8 0) 1 rfl Try.underlying23 info5 rfl (by decide) (by omega) v155 y154 ((l0.take ((wrap64 (t152 + (wrap64 (t151)))) : Int).toNat).drop (t152 : Int).toNat) _ _ _ (fun _ => True) (fun _ => False) rfl rfl ?aO ?aR (fun _ _ h => h) (fun _ h => h.elim) ?aF ?aB ?aS ?aL ?_; (case aR => first | (rw [← show ((l0.take ((wrap64 (t152 + (wrap64 (t151)))) : Int).toNat).drop (t152 : Int).toNat).length = ((wrap64 (t152 + (wrap64 (t151)))).toNat - t152.toNat) from (by rw [List.length_drop, List.length_take]; have h_ : ((wrap64 (t152 + (wrap64 (t151)))) : Int) ≤ (l0.length : Int) := of_decide_eq_true (by first | (with_reducible assumption) | assumption); omega)]; repeat (first | exact (Kd.C_below HR157.out HB.out) | (with_reducible refine Kd.C_alloc ?_ _) | (with_reducible refine Kd.C_drewN ?_ _) | (with_reducible refine Kd.C_drew ?_))) | (repeat (first | exact (Kd.C_below HR157.out HB.out) | (with_reducible refine Kd.C_alloc ?_ _) | (with_reducible refine Kd.C_drewN ?_ _) | (with_reducible refine Kd.C_drew ?_)))); (case aB => exact (by repeat (first | (with_reducible first | exact HB.out | apply below_alloc | apply pw_below_drewN | apply below_drew1) | exact HB.out))); (case aF => exact (fun _ _ => trivial)); (case aO => exact (by (with_reducible repeat (first | apply Kd.R_alloc | apply Kd.R_drewN | apply Kd.R_drew)); exact HO156.out)); (case aS => exact (below_size (by repeat (first | (with_reducible first | exact HB.out | apply below_alloc | apply pw_below_drewN | apply below_drew1) | exact HB.out)))); (case aL => have := LMc9.out; have hlx_ := (show ((l0.take ((wrap64 (t152 + (wrap64 (t151)))) : Int).toNat).drop (t152 : Int).toNat).length = ((wrap64 (t152 + (wrap64 (t151)))).toNat - t152.toNat) from (by rw [List.length_drop, List.length_take]; have h_ : ((wrap64 (t152 + (wrap64 (t151)))) : Int) ≤ (l0.length : Int) := of_decide_eq_true (by first | (with_reducible assumption) | assumption); omega)); omega); intro v159 w13 ho hb hg hat; rw [← Ny158.out] at ho; have n0_ := Aside0.mk (hb); have n1_ := Aside0.mk (ho); clear HB; clear HO156; have HB := n0_; have HO160 := n1_; clear n0_ n1_; clear ho hb hg hat))
                go_ret3
                exact ⟨_, by first | rfl | (simp [errW_none, errW_some] <;> rfl) | (simp [*, errW_none, errW_some] <;> rfl), by (with_reducible repeat (first | apply Kd.R_alloc | apply Kd.R_drewN | apply Kd.R_drew)); exact HO160.out, by repeat (first | (with_reducible first | exact HB.out | apply below_alloc | apply pw_below_drewN | apply below_drew1) | exact HB.out)⟩
              · rw [if_neg c9] at H
                exact absurd H (by simp)
            · rw [if_neg c8] at H
              exact absurd H (by simp)
          · rw [if_neg c7] at H
            exact absurd H (by simp)
        · rw [if_neg c6] at H
          exact absurd H (by simp)
  · rw [if_neg c3] at H
    have c3b0 : (t153 == 0) = false := beq_eq_false_iff_ne.mpr c3
    have c3b1 : (t153 != 0) = true := bne_iff_ne.mpr c3
    simp only [Option.some.injEq, Prod.mk.injEq] at H
    obtain ⟨rfl, rfl, rfl⟩ := H
    go_enter Try.func36, Try.ntmps36
    go_wp2_with (first | ((with_reducible refine gate_callee (f := 34) rfl ?_); refine goesL_ (some 10) rfl rfl Try.func34 (by kernel_rfl) rfl #[.slice A0 l0.length c0] rfl (by (try simp only [List.map_toArray, List.map_cons, List.map_nil]); first | done | rfl | (simp only [List.length_drop, List.length_take]; rfl)) ?_; (with_reducible refine (cofferref1_TakeCount.calls k _ _ l0 t151 t152 t153 _ ?side1 ?side2 A2.out).mono ?_); (case side1 => repeat (first | exact HR0.out | (with_reducible refine Kd.C_alloc ?_ _) | (with_reducible refine Kd.C_drewN ?_ _) | (with_reducible refine Kd.C_drew ?_))); (case side2 => exact HC0.out); rintro e w' ⟨rfl, ⟨nd, rfl⟩⟩; refine ⟨_, rfl, ?_⟩))
    go_ret3
    exact ⟨_, by first | rfl | (simp [errW_none, errW_some] <;> rfl) | (simp [*, errW_none, errW_some] <;> rfl), by first | exact Kd.R_nil _ _ _ _ _ | exact Kd.N_nil _ _ _ _ _ | exact Kd.V_nil _ _ _ _ _ | exact Kd.Q_nil _ _ _ _ _ | exact Kd.S_nil _ _ _ _ _, by repeat (first | (with_reducible first | exact HB.out | apply below_alloc | apply pw_below_drewN | apply below_drew1) | exact HB.out)⟩

end Go.Proofs.Ytcddgokfdnjhaaa.PRef
