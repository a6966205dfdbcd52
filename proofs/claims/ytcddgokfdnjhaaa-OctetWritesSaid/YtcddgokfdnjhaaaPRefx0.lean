-- Contracts of functions, written by a program of this session
import Derived.Test.YtcddgokfdnjhaaaProg
import Derived.Below
import Derived.Deep.Draws
import Derived.Deep.AppendLies
import Derived.Maps.AppendAt
import Derived.OwnWalk
import Derived.Laws.BytesArg
import Derived.Laws.MakeOwn
import Derived.Laws.OwnMore
import Derived.Deep.OwnRows
import Derived.Tactics
import Derived.Lib.ConvBytes
import Derived.Laws.Slices
import Derived.WalkKit
import Derived.KernelRfl
import Derived.RowKit3
import Derived.Deep.LoopGhost
import Derived.Deep.QuietTactic
import Derived.BigQuiet
import Derived.WideLaws
import Derived.Deep.DeepCutAuto
import Derived.Deep.CutBlock
import Derived.Deep.RegionHeld3
import Derived.Laws.Rows
import Derived.Lib.AppendStr
import Derived.ArgAppend
import Derived.Laws.IdiomCopy
import Derived.OrdersHeld
import Derived.Laws.BitsLemmas
import Derived.RowKit
import Derived.Test.YtcddgokfdnjhaaaWWords
import Derived.Test.YtcddgokfdnjhaaaWLast
import Derived.Test.YtcddgokfdnjhaaaWTab
import Derived.Test.YtcddgokfdnjhaaaWFour
import Derived.Test.YtcddgokfdnjhaaaWQPut
import Derived.Test.YtcddgokfdnjhaaaWApart
import Derived.Test.YtcddgokfdnjhaaaWArr
import Derived.Test.YtcddgokfdnjhaaaWZeros
import Derived.Test.YtcddgokfdnjhaaaWFoot
import Derived.Test.YtcddgokfdnjhaaaWKept
import Derived.Test.YtcddgokfdnjhaaaWShare
import Derived.Test.YtcddgokfdnjhaaaWN
import Derived.Test.YtcddgokfdnjhaaaWFootNe
import Derived.Test.YtcddgokfdnjhaaaWAt
import Derived.Test.YtcddgokfdnjhaaaWEqStruct
import Derived.Test.YtcddgokfdnjhaaaWRepsOne
import Derived.Test.YtcddgokfdnjhaaaWInv
import Derived.Test.YtcddgokfdnjhaaaWInvWords
import Derived.Test.YtcddgokfdnjhaaaWGuard
import Derived.Test.YtcddgokfdnjhaaaWNEv
import Derived.Test.YtcddgokfdnjhaaaWMore
import Derived.Test.YtcddgokfdnjhaaaMk
namespace Go.Proofs.Ytcddgokfdnjhaaa.PRef
open Go.RowKit Go.Proofs.YtcddgokfdnjhaaaW.PrintWords Go.Proofs.YtcddgokfdnjhaaaW.PrintLast Go.Proofs.YtcddgokfdnjhaaaW.PrintMore
attribute [local go_sem] max2_int min2_int max_two min_two max_three min_three max_four min_four   -- for this text's walks alone
set_option linter.unusedVariables false
set_option linter.unusedSimpArgs false



def errW : Option Int → Value
  | none => .nilIface
  | some c => .iface 0 (.int .i64 c)
theorem errW_none : errW none = .nilIface := rfl
theorem errW_some (c : Int) : errW (some c) = .iface 0 (.int .i64 c) := rfl

theorem info5 : (Try.prog.info? 5).map (fun i => (i.zero, i.size, i.bytes)) = some (some (.int .u8 0), 1, 1) := by kernel_rfl
-- the values' own types

end Go.Proofs.Ytcddgokfdnjhaaa.PRef
