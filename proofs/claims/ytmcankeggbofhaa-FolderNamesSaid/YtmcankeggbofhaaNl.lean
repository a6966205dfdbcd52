/- The walk of the law FolderNames. -/
import Derived.Test.YtmcankeggbofhaaBg
namespace Go.Proofs.Ytmcankeggbofhaa.Nl
open Go.RowKit Go.Proofs.YtmcankeggbofhaaW.PrintWords Go.Proofs.YtmcankeggbofhaaW.PrintMore
open It Nm Bg
set_option linter.unusedVariables false
set_option linter.unusedSimpArgs false
set_option maxHeartbeats 1600000 in
theorem names_walk (s : ByteArray) (w : World) (ws : s.size ≤ maxLen) : Calls Try.prog 6 #[.string s] w fun e w' => e = .returned (.bool true) ∧ Below w.heap.size w w' := by
  by_cases hl : s.size ≤ 1024
  · have d1 : decide (1024 < (s.size : Int)) = false := decide_eq_false (by omega)
    obtain ⟨q, hq⟩ : ∃ q, Aside0 (q = okName s) := ⟨_, ⟨rfl⟩⟩
    have K1 := Aside0.mk (fun w => name_calls s w); have K2 := Aside0.mk (fun w => ref_name_calls s w (by omega))
    rw [← hq.out] at K1 K2
    go_enter Try.func6, Try.ntmps6
    go_wp2_with fail
    refine (begun_calls _).mono ?_
    rintro e1 w1 ⟨rfl, hb1⟩
    go_wp2_with (go_at_call 23; fail)
    refine (K1.out _).mono ?_
    rintro e3 w3 ⟨rfl, hw3⟩
    rw [hw3]
    clear hw3 w3
    go_wp2_with (go_at_call 24; fail)
    refine (K2.out _).mono ?_
    rintro e4 w4 ⟨rfl, hd4⟩
    have HB := Aside0.mk (below_step hb1 hd4.below)
    go_wp2_with fail
    go_ret
    exact ⟨rfl, HB.out⟩
  · have d1 : decide (1024 < (s.size : Int)) = true := decide_eq_true (by omega)
    go_enter Try.func6, Try.ntmps6
    go_wp2_with fail
    refine (begun_calls _).mono ?_
    rintro e1 w1 ⟨rfl, hb1⟩
    go_wp2_with fail
    go_ret
    exact ⟨rfl, hb1⟩
end Go.Proofs.Ytmcankeggbofhaa.Nl
