-- Contracts of functions, written by a program of this session
import Derived.Test.YtdalckmbmcenbaaPOctx0
import Derived.Test.YtdalckmbmcenbaaPOctx1
import Derived.Test.YtdalckmbmcenbaaPOctx2
import Derived.Test.YtdalckmbmcenbaaPOctx3
namespace Go.Proofs.Ytdalckmbmcenbaa.POct
open Go.RowKit Go.Proofs.YtdalckmbmcenbaaW.PrintWords Go.Proofs.YtdalckmbmcenbaaW.PrintLast Go.Proofs.YtdalckmbmcenbaaW.PrintMore
attribute [local go_sem] max2_int min2_int max_two min_two max_three min_three max_four min_four   -- for this text's walks alone
set_option linter.unusedVariables false
set_option linter.unusedSimpArgs false

end Go.Proofs.Ytdalckmbmcenbaa.POct
