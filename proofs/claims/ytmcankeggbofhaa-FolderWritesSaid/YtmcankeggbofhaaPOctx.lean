-- Contracts of functions, written by a program of this session
import Derived.Test.YtmcankeggbofhaaPOctx0
import Derived.Test.YtmcankeggbofhaaPOctx1
import Derived.Test.YtmcankeggbofhaaPOctx2
namespace Go.Proofs.Ytmcankeggbofhaa.POct
open Go.RowKit Go.Proofs.YtmcankeggbofhaaW.PrintWords Go.Proofs.YtmcankeggbofhaaW.PrintLast Go.Proofs.YtmcankeggbofhaaW.PrintMore
attribute [local go_sem] max2_int min2_int max_two min_two max_three min_three max_four min_four   -- for this text's walks alone
set_option linter.unusedVariables false
set_option linter.unusedSimpArgs false

end Go.Proofs.Ytmcankeggbofhaa.POct
