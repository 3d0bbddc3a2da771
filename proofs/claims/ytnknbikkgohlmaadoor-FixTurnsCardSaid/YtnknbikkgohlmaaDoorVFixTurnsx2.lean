/- FixTurns and what it calls: printed by wip/gen/vprint.py (functions joust/fix.Sin, joust/joustlaw03.fixed are given) -/
import Derived.Test.YtnknbikkgohlmaaDoorVFixTurnsx0
import Derived.Test.YtnknbikkgohlmaaDoorVFixTurnsx1
namespace Go.Proofs.YtnknbikkgohlmaaDoor.VFixTurns
open Go.RowKit Go.Proofs.YtnknbikkgohlmaaDoorW.PrintWords Go.Proofs.YtnknbikkgohlmaaDoorW.PrintLast Go.Proofs.YtnknbikkgohlmaaDoorW.PrintMore Go.Proofs.YtnknbikkgohlmaaDoor.VFixB
attribute [local go_sem] max2_int min2_int max_two min_two max_three min_three max_four min_four   -- for this text's walks alone
set_option linter.unusedVariables false
set_option linter.unusedSimpArgs false

end Go.Proofs.YtnknbikkgohlmaaDoor.VFixTurns
