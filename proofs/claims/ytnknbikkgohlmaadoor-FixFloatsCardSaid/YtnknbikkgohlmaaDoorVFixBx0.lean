/- FixB and what it calls: printed by wip/gen/vprint.py (functions joust/fix.Sin are given) -/
import Derived.Test.YtnknbikkgohlmaaDoorFixG
import Derived.Below
import Derived.Deep.Draws
import Derived.Deep.AppendLies
import Derived.Maps.AppendAt
import Derived.OwnWalk
import Derived.Laws.BytesArg
import Derived.Laws.MakeOwn
import Derived.Laws.OwnMore
import Derived.Deep.OwnRows
import Derived.Tactics
import Derived.Lib.ConvBytes
import Derived.Laws.Slices
import Derived.WalkKit
import Derived.KernelRfl
import Derived.RowKit3
import Derived.Deep.LoopGhost
import Derived.Deep.QuietTactic
import Derived.BigQuiet
import Derived.WideLaws
import Derived.Deep.DeepCutAuto
import Derived.Deep.CutBlock
import Derived.Deep.RegionHeld3
import Derived.Laws.Rows
import Derived.Lib.AppendStr
import Derived.ArgAppend
import Derived.Laws.IdiomCopy
import Derived.OrdersHeld
import Derived.Laws.BitsLemmas
import Derived.RowKit
import Derived.Test.YtnknbikkgohlmaaDoorWWords
import Derived.Test.YtnknbikkgohlmaaDoorWLast
import Derived.Test.YtnknbikkgohlmaaDoorWTab
import Derived.Test.YtnknbikkgohlmaaDoorWFour
import Derived.Test.YtnknbikkgohlmaaDoorWQPut
import Derived.Test.YtnknbikkgohlmaaDoorWApart
import Derived.Test.YtnknbikkgohlmaaDoorWArr
import Derived.Test.YtnknbikkgohlmaaDoorWZeros
import Derived.Test.YtnknbikkgohlmaaDoorWFoot
import Derived.Test.YtnknbikkgohlmaaDoorWKept
import Derived.Test.YtnknbikkgohlmaaDoorWShare
import Derived.Test.YtnknbikkgohlmaaDoorWN
import Derived.Test.YtnknbikkgohlmaaDoorWFootNe
import Derived.Test.YtnknbikkgohlmaaDoorWAt
import Derived.Test.YtnknbikkgohlmaaDoorWEqStruct
import Derived.Test.YtnknbikkgohlmaaDoorWRepsOne
import Derived.Test.YtnknbikkgohlmaaDoorWInv
import Derived.Test.YtnknbikkgohlmaaDoorWInvWords
import Derived.Test.YtnknbikkgohlmaaDoorWGuard
import Derived.Test.YtnknbikkgohlmaaDoorWNEv
import Derived.Test.YtnknbikkgohlmaaDoorWMore
namespace Go.Proofs.YtnknbikkgohlmaaDoor.VFixB
open Go.RowKit Go.Proofs.YtnknbikkgohlmaaDoorW.PrintWords Go.Proofs.YtnknbikkgohlmaaDoorW.PrintLast Go.Proofs.YtnknbikkgohlmaaDoorW.PrintMore
attribute [local go_sem] max2_int min2_int max_two min_two max_three min_three max_four min_four   -- for this text's walks alone
set_option linter.unusedVariables false
set_option linter.unusedSimpArgs false



def errW : Option Int → Value
  | none => .nilIface
  | some c => .iface 0 (.int .i64 c)
theorem errW_none : errW none = .nilIface := rfl
theorem errW_some (c : Int) : errW (some c) = .iface 0 (.int .i64 c) := rfl

theorem info2 : (Tryd.prog.info? 2).map (fun i => (i.zero, i.size, i.bytes)) = some (some (.int .i64 0), 1, 8) := by kernel_rfl
-- the values' own types

end Go.Proofs.YtnknbikkgohlmaaDoor.VFixB
