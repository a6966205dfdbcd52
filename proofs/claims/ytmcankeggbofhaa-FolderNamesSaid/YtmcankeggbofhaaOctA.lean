/- What octet.Put and octet.At compute, as printed: big-endian bytes. -/
import Derived.Test.YtmcankeggbofhaaSpec
import Derived.Test.YtmcankeggbofhaaPOctx
namespace Go.Proofs.Ytmcankeggbofhaa.OctA
open Go.RowKit Go.Proofs.YtmcankeggbofhaaW.PrintWords Go.Proofs.YtmcankeggbofhaaW.PrintLast Go.Proofs.YtmcankeggbofhaaW.PrintMore
open Spc POct
set_option linter.unusedVariables false
set_option linter.unusedSimpArgs false

theorem own_ok (l : List Int) (n : Nat) (h : l.length + n ≤ 140000000000000) : octet_own.f l n = some l := by
  unfold octet_own.f
  rw [w64_id (by omega) (by omega), if_pos (by omega), if_pos (by omega)]
  simp only [Option.bind_some]
  rw [if_pos (by simp; omega)]
  simp
end Go.Proofs.Ytmcankeggbofhaa.OctA
