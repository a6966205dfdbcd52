-- Contracts of functions, written by a program of this session
import Derived.Test.YtgpgblidplmchaaPOctx0
import Derived.Test.YtgpgblidplmchaaPOctx1
import Derived.Test.YtgpgblidplmchaaPOctx2
namespace Go.Proofs.Ytgpgblidplmchaa.POct
open Go.RowKit Go.Proofs.YtgpgblidplmchaaW.PrintWords Go.Proofs.YtgpgblidplmchaaW.PrintLast Go.Proofs.YtgpgblidplmchaaW.PrintMore
attribute [local go_sem] max2_int min2_int max_two min_two max_three min_three max_four min_four   -- for this text's walks alone
set_option linter.unusedVariables false
set_option linter.unusedSimpArgs false

end Go.Proofs.Ytgpgblidplmchaa.POct
