/- VecTurns and what it calls: printed by wip/gen/vprint.py (functions joust/fix.Sin are given) -/
import Derived.Test.YtcmbklofbemclaaDoorVVecTurnsx0
import Derived.Test.YtcmbklofbemclaaDoorVVecTurnsx1
namespace Go.Proofs.YtcmbklofbemclaaDoor.VVecTurns
open Go.RowKit Go.Proofs.YtcmbklofbemclaaDoorW.PrintWords Go.Proofs.YtcmbklofbemclaaDoorW.PrintLast Go.Proofs.YtcmbklofbemclaaDoorW.PrintMore Go.Proofs.YtcmbklofbemclaaDoor.VVecB
attribute [local go_sem] max2_int min2_int max_two min_two max_three min_three max_four min_four   -- for this text's walks alone
set_option linter.unusedVariables false
set_option linter.unusedSimpArgs false

attribute [local go_sem high] eqA25
end Go.Proofs.YtcmbklofbemclaaDoor.VVecTurns
