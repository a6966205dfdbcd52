-- Contracts of functions, written by a program of this session
import Derived.Test.YtmcankeggbofhaaProg
import Derived.Below
import Derived.Deep.Draws
import Derived.Deep.AppendLies
import Derived.Maps.AppendAt
import Derived.OwnWalk
import Derived.Laws.BytesArg
import Derived.Laws.MakeOwn
import Derived.Laws.OwnMore
import Derived.Deep.OwnRows
import Derived.Tactics
import Derived.Lib.ConvBytes
import Derived.Laws.Slices
import Derived.WalkKit
import Derived.KernelRfl
import Derived.RowKit3
import Derived.Deep.LoopGhost
import Derived.Deep.QuietTactic
import Derived.BigQuiet
import Derived.WideLaws
import Derived.Deep.DeepCutAuto
import Derived.Deep.CutBlock
import Derived.Deep.RegionHeld3
import Derived.Laws.Rows
import Derived.Lib.AppendStr
import Derived.ArgAppend
import Derived.Laws.IdiomCopy
import Derived.OrdersHeld
import Derived.Laws.BitsLemmas
import Derived.RowKit
import Derived.Test.YtmcankeggbofhaaWWords
import Derived.Test.YtmcankeggbofhaaWLast
import Derived.Test.YtmcankeggbofhaaWTab
import Derived.Test.YtmcankeggbofhaaWFour
import Derived.Test.YtmcankeggbofhaaWQPut
import Derived.Test.YtmcankeggbofhaaWApart
import Derived.Test.YtmcankeggbofhaaWArr
import Derived.Test.YtmcankeggbofhaaWZeros
import Derived.Test.YtmcankeggbofhaaWFoot
import Derived.Test.YtmcankeggbofhaaWKept
import Derived.Test.YtmcankeggbofhaaWShare
import Derived.Test.YtmcankeggbofhaaWN
import Derived.Test.YtmcankeggbofhaaWFootNe
import Derived.Test.YtmcankeggbofhaaWAt
import Derived.Test.YtmcankeggbofhaaWEqStruct
import Derived.Test.YtmcankeggbofhaaWRepsOne
import Derived.Test.YtmcankeggbofhaaWInv
import Derived.Test.YtmcankeggbofhaaWInvWords
import Derived.Test.YtmcankeggbofhaaWGuard
import Derived.Test.YtmcankeggbofhaaWNEv
import Derived.Test.YtmcankeggbofhaaWMore
import Derived.Test.YtmcankeggbofhaaMk
namespace Go.Proofs.Ytmcankeggbofhaa.POct
open Go.RowKit Go.Proofs.YtmcankeggbofhaaW.PrintWords Go.Proofs.YtmcankeggbofhaaW.PrintLast Go.Proofs.YtmcankeggbofhaaW.PrintMore
attribute [local go_sem] max2_int min2_int max_two min_two max_three min_three max_four min_four   -- for this text's walks alone
set_option linter.unusedVariables false
set_option linter.unusedSimpArgs false



def errW : Option Int → Value
  | none => .nilIface
  | some c => .iface 0 (.int .i64 c)
theorem errW_none : errW none = .nilIface := rfl
theorem errW_some (c : Int) : errW (some c) = .iface 0 (.int .i64 c) := rfl

theorem info5 : (Try.prog.info? 5).map (fun i => (i.zero, i.size, i.bytes)) = some (some (.int .u8 0), 1, 1) := by kernel_rfl
-- the values' own types

end Go.Proofs.Ytmcankeggbofhaa.POct
