-- Contracts of functions, written by a program of this session
import Derived.Test.YtgpgblidplmchaaProg
import Derived.Below
import Derived.Deep.Draws
import Derived.Deep.AppendLies
import Derived.Maps.AppendAt
import Derived.OwnWalk
import Derived.Laws.BytesArg
import Derived.Laws.MakeOwn
import Derived.Laws.OwnMore
import Derived.Deep.OwnRows
import Derived.Tactics
import Derived.Lib.ConvBytes
import Derived.Laws.Slices
import Derived.WalkKit
import Derived.KernelRfl
import Derived.RowKit3
import Derived.Deep.LoopGhost
import Derived.Deep.QuietTactic
import Derived.BigQuiet
import Derived.WideLaws
import Derived.Deep.DeepCutAuto
import Derived.Deep.CutBlock
import Derived.Deep.RegionHeld3
import Derived.Laws.Rows
import Derived.Lib.AppendStr
import Derived.ArgAppend
import Derived.Laws.IdiomCopy
import Derived.OrdersHeld
import Derived.Laws.BitsLemmas
import Derived.RowKit
import Derived.Test.YtgpgblidplmchaaWWords
import Derived.Test.YtgpgblidplmchaaWLast
import Derived.Test.YtgpgblidplmchaaWTab
import Derived.Test.YtgpgblidplmchaaWFour
import Derived.Test.YtgpgblidplmchaaWQPut
import Derived.Test.YtgpgblidplmchaaWApart
import Derived.Test.YtgpgblidplmchaaWArr
import Derived.Test.YtgpgblidplmchaaWZeros
import Derived.Test.YtgpgblidplmchaaWFoot
import Derived.Test.YtgpgblidplmchaaWKept
import Derived.Test.YtgpgblidplmchaaWShare
import Derived.Test.YtgpgblidplmchaaWN
import Derived.Test.YtgpgblidplmchaaWFootNe
import Derived.Test.YtgpgblidplmchaaWAt
import Derived.Test.YtgpgblidplmchaaWEqStruct
import Derived.Test.YtgpgblidplmchaaWRepsOne
import Derived.Test.YtgpgblidplmchaaWInv
import Derived.Test.YtgpgblidplmchaaWInvWords
import Derived.Test.YtgpgblidplmchaaWGuard
import Derived.Test.YtgpgblidplmchaaWNEv
import Derived.Test.YtgpgblidplmchaaWMore
import Derived.Test.YtgpgblidplmchaaMk
namespace Go.Proofs.Ytgpgblidplmchaa.POct
open Go.RowKit Go.Proofs.YtgpgblidplmchaaW.PrintWords Go.Proofs.YtgpgblidplmchaaW.PrintLast Go.Proofs.YtgpgblidplmchaaW.PrintMore
attribute [local go_sem] max2_int min2_int max_two min_two max_three min_three max_four min_four   -- for this text's walks alone
set_option linter.unusedVariables false
set_option linter.unusedSimpArgs false



def errW : Option Int → Value
  | none => .nilIface
  | some c => .iface 0 (.int .i64 c)
theorem errW_none : errW none = .nilIface := rfl
theorem errW_some (c : Int) : errW (some c) = .iface 0 (.int .i64 c) := rfl

theorem info5 : (Try.prog.info? 5).map (fun i => (i.zero, i.size, i.bytes)) = some (some (.int .u8 0), 1, 1) := by kernel_rfl
-- the values' own types

end Go.Proofs.Ytgpgblidplmchaa.POct
