/- Lemmas of this claim (PP4). -/
import Derived.Test.YtgbeliajhccndaaKF
namespace Go.Proofs.Ytgbeliajhccndaa.PP
open Go.RowKit Go.Proofs.YtgbeliajhccndaaW.PrintWords Go.Proofs.YtgbeliajhccndaaW.PrintLast Go.Proofs.YtgbeliajhccndaaW.PrintMore
attribute [local go_sem] max2_int min2_int max_two min_two max_three min_three max_four min_four   
set_option linter.unusedVariables false
set_option linter.unusedSimpArgs false
end Go.Proofs.Ytgbeliajhccndaa.PP
