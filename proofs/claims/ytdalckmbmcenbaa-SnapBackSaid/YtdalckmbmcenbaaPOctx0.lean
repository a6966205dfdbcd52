-- Contracts of functions, written by a program of this session
import Derived.Test.YtdalckmbmcenbaaProg
import Derived.Below
import Derived.Deep.Draws
import Derived.Deep.AppendLies
import Derived.Maps.AppendAt
import Derived.OwnWalk
import Derived.Laws.BytesArg
import Derived.Laws.MakeOwn
import Derived.Laws.OwnMore
import Derived.Deep.OwnRows
import Derived.Tactics
import Derived.Lib.ConvBytes
import Derived.Laws.Slices
import Derived.WalkKit
import Derived.KernelRfl
import Derived.RowKit3
import Derived.Deep.LoopGhost
import Derived.Deep.QuietTactic
import Derived.BigQuiet
import Derived.WideLaws
import Derived.Deep.DeepCutAuto
import Derived.Deep.CutBlock
import Derived.Deep.RegionHeld3
import Derived.Laws.Rows
import Derived.Lib.AppendStr
import Derived.ArgAppend
import Derived.Laws.IdiomCopy
import Derived.OrdersHeld
import Derived.Laws.BitsLemmas
import Derived.RowKit
import Derived.Test.YtdalckmbmcenbaaWWords
import Derived.Test.YtdalckmbmcenbaaWLast
import Derived.Test.YtdalckmbmcenbaaWTab
import Derived.Test.YtdalckmbmcenbaaWFour
import Derived.Test.YtdalckmbmcenbaaWQPut
import Derived.Test.YtdalckmbmcenbaaWApart
import Derived.Test.YtdalckmbmcenbaaWArr
import Derived.Test.YtdalckmbmcenbaaWZeros
import Derived.Test.YtdalckmbmcenbaaWFoot
import Derived.Test.YtdalckmbmcenbaaWKept
import Derived.Test.YtdalckmbmcenbaaWShare
import Derived.Test.YtdalckmbmcenbaaWN
import Derived.Test.YtdalckmbmcenbaaWFootNe
import Derived.Test.YtdalckmbmcenbaaWAt
import Derived.Test.YtdalckmbmcenbaaWEqStruct
import Derived.Test.YtdalckmbmcenbaaWRepsOne
import Derived.Test.YtdalckmbmcenbaaWInv
import Derived.Test.YtdalckmbmcenbaaWInvWords
import Derived.Test.YtdalckmbmcenbaaWGuard
import Derived.Test.YtdalckmbmcenbaaWNEv
import Derived.Test.YtdalckmbmcenbaaWMore
import Derived.Test.YtdalckmbmcenbaaMk
namespace Go.Proofs.Ytdalckmbmcenbaa.POct
open Go.RowKit Go.Proofs.YtdalckmbmcenbaaW.PrintWords Go.Proofs.YtdalckmbmcenbaaW.PrintLast Go.Proofs.YtdalckmbmcenbaaW.PrintMore
attribute [local go_sem] max2_int min2_int max_two min_two max_three min_three max_four min_four   -- for this text's walks alone
set_option linter.unusedVariables false
set_option linter.unusedSimpArgs false



def errW : Option Int → Value
  | none => .nilIface
  | some c => .iface 0 (.int .i64 c)
theorem errW_none : errW none = .nilIface := rfl
theorem errW_some (c : Int) : errW (some c) = .iface 0 (.int .i64 c) := rfl

theorem info5 : (Try.prog.info? 5).map (fun i => (i.zero, i.size, i.bytes)) = some (some (.int .u8 0), 1, 1) := by kernel_rfl
-- the values' own types

end Go.Proofs.Ytdalckmbmcenbaa.POct
