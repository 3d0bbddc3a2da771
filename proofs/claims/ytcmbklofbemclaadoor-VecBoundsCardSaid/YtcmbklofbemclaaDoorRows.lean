/-
  NARROWER THAN 'FOR EVERY INPUT', by the rows' own cells (each row's printed sentence says how): VecTurns: laid · VecToward: laid · VecBounds: laid · VecNear: laid · VecAsks: laid.
  DERIVED. THE GIVEN ROWS OF THIS SEAT. 5 by the template 'for every input the law returns true; each argument reads behind the call as it read before'; 0 by the template 'total and deterministic' (their statements: YtcmbklofbemclaaDoorTotals.lean).
  GIVEN WITH THE SEED: the statements are not yours to turn. If you find one false, say at which input.
  Laid BY PROGRAM, IN A SANDBOX (cutbox-rows.mjs): the forced cells as the released guide's own fill.sh prints them over the translation 371f4ba7732fdbcf… (all of the seat's roots in one cut). By AI agents, Wed Nov 11 2026. No macro, syntax, notation, axiom, sorry.
-/
import Derived.Test.YtcmbklofbemclaaDoorChecked
import GoSem.Claim
import GoSem.ClaimJoined
import GoSem.ClaimMapViews
import Derived.JoinedTies
import Derived.KernelRfl
namespace Go.Proofs.YtcmbklofbemclaaDoor
/- THE CELL 'sum', in the pinned program and in every row, IS THE sha256 OF THE DUMP (.gsa) THAT YtcmbklofbemclaaDoorProg.lean LOADS. Nothing in Lean hashes anything: it is a label: what it is worth is what the hold of that sum in a sandbox is worth. -/
noncomputable def Tryd.pinned : Pinned := { name := "ytcmbklofbemclaadoor", sum := "371f4ba7732fdbcfe03c6ce182b5c518b39a6d51d452576f36f845c36af9c477", checked := Tryd.checked }
namespace Rows
def none {H : Type} : Left H := { results := [], args := [] }

/- WHAT THE LISTED PACKAGE-LEVEL VARIABLES READ AS WHEN THE CALL BEGINS. Each datum BY PROGRAM (the guide's laid-datum.mjs) off the statement by which the dump's own 'gosem.cut.vars' lays the variable. In a bare row this is a premise. The card (YtcmbklofbemclaaDoorCards.lean) ties it to the program's text. -/
def laid_joust_fix_sines {H : Type} : DataW H := .agg [.lit (.int .i64 0), .lit (.int .i64 1608), .lit (.int .i64 3216), .lit (.int .i64 4821), .lit (.int .i64 6424), .lit (.int .i64 8022), .lit (.int .i64 9616), .lit (.int .i64 11204), .lit (.int .i64 12785), .lit (.int .i64 14359), .lit (.int .i64 15924), .lit (.int .i64 17479), .lit (.int .i64 19024), .lit (.int .i64 20557), .lit (.int .i64 22078), .lit (.int .i64 23586), .lit (.int .i64 25080), .lit (.int .i64 26558), .lit (.int .i64 28020), .lit (.int .i64 29466), .lit (.int .i64 30893), .lit (.int .i64 32303), .lit (.int .i64 33692), .lit (.int .i64 35062), .lit (.int .i64 36410), .lit (.int .i64 37736), .lit (.int .i64 39040), .lit (.int .i64 40320), .lit (.int .i64 41576), .lit (.int .i64 42806), .lit (.int .i64 44011), .lit (.int .i64 45190), .lit (.int .i64 46341), .lit (.int .i64 47464), .lit (.int .i64 48559), .lit (.int .i64 49624), .lit (.int .i64 50660), .lit (.int .i64 51665), .lit (.int .i64 52639), .lit (.int .i64 53581), .lit (.int .i64 54491), .lit (.int .i64 55368), .lit (.int .i64 56212), .lit (.int .i64 57022), .lit (.int .i64 57798), .lit (.int .i64 58538), .lit (.int .i64 59244), .lit (.int .i64 59914), .lit (.int .i64 60547), .lit (.int .i64 61145), .lit (.int .i64 61705), .lit (.int .i64 62228), .lit (.int .i64 62714), .lit (.int .i64 63162), .lit (.int .i64 63572), .lit (.int .i64 63944), .lit (.int .i64 64277), .lit (.int .i64 64571), .lit (.int .i64 64827), .lit (.int .i64 65043), .lit (.int .i64 65220), .lit (.int .i64 65358), .lit (.int .i64 65457), .lit (.int .i64 65516), .lit (.int .i64 65536)]

/-- 'joustlaw13.VecTurns': WHATEVER THE INPUT: true; the input reads as it did. -/
def vecTurnsSpec : ChangeSpec := { name := "vecTurns", fn := fun _ => fun
  | [d1, d2, d3] => { results := [.lit (.bool true)], args := [d1, d2, d3] }
  | _ => none }
def vecTurnsRow : OpenClaim := { program := "ytcmbklofbemclaadoor", sum := "371f4ba7732fdbcfe03c6ce182b5c518b39a6d51d452576f36f845c36af9c477", func := "joust/joustlaw13.VecTurns", spec := "vecTurns", recurses := true, named := ["joust/fix.sines"], apart := false, laid := [("joust/fix.sines", laid_joust_fix_sines)] }
def VecTurnsSaid : Prop := vecTurnsRow.holds Tryd.pinned (OpenSpec.ofChange vecTurnsSpec)

/-- ITS FALSE NEIGHBOUR: 'it returns false'. Refute it at one input. -/
def vecTurnsWrong : ChangeSpec := { name := "vecTurns", fn := fun _ => fun
  | [d1, d2, d3] => { results := [.lit (.bool false)], args := [d1, d2, d3] }
  | _ => none }
def VecTurnsWrongFalsely : Prop := vecTurnsRow.holds Tryd.pinned (OpenSpec.ofChange vecTurnsWrong)

/-- 'joustlaw13.VecToward': WHATEVER THE INPUT: true; the input reads as it did. -/
def vecTowardSpec : ChangeSpec := { name := "vecToward", fn := fun _ => fun
  | [d1, d2, d3] => { results := [.lit (.bool true)], args := [d1, d2, d3] }
  | _ => none }
def vecTowardRow : OpenClaim := { program := "ytcmbklofbemclaadoor", sum := "371f4ba7732fdbcfe03c6ce182b5c518b39a6d51d452576f36f845c36af9c477", func := "joust/joustlaw13.VecToward", spec := "vecToward", recurses := true, named := ["joust/fix.sines"], apart := false, laid := [("joust/fix.sines", laid_joust_fix_sines)] }
def VecTowardSaid : Prop := vecTowardRow.holds Tryd.pinned (OpenSpec.ofChange vecTowardSpec)

/-- ITS FALSE NEIGHBOUR: 'it returns false'. Refute it at one input. -/
def vecTowardWrong : ChangeSpec := { name := "vecToward", fn := fun _ => fun
  | [d1, d2, d3] => { results := [.lit (.bool false)], args := [d1, d2, d3] }
  | _ => none }
def VecTowardWrongFalsely : Prop := vecTowardRow.holds Tryd.pinned (OpenSpec.ofChange vecTowardWrong)

/-- 'joustlaw13.VecBounds': WHATEVER THE INPUT: true; the input reads as it did. -/
def vecBoundsSpec : ChangeSpec := { name := "vecBounds", fn := fun _ => fun
  | [d] => { results := [.lit (.bool true)], args := [d] }
  | _ => none }
def vecBoundsRow : OpenClaim := { program := "ytcmbklofbemclaadoor", sum := "371f4ba7732fdbcfe03c6ce182b5c518b39a6d51d452576f36f845c36af9c477", func := "joust/joustlaw13.VecBounds", spec := "vecBounds", recurses := true, named := ["joust/fix.sines"], apart := false, laid := [("joust/fix.sines", laid_joust_fix_sines)] }
def VecBoundsSaid : Prop := vecBoundsRow.holds Tryd.pinned (OpenSpec.ofChange vecBoundsSpec)

/-- ITS FALSE NEIGHBOUR: 'it returns false'. Refute it at one input. -/
def vecBoundsWrong : ChangeSpec := { name := "vecBounds", fn := fun _ => fun
  | [d] => { results := [.lit (.bool false)], args := [d] }
  | _ => none }
def VecBoundsWrongFalsely : Prop := vecBoundsRow.holds Tryd.pinned (OpenSpec.ofChange vecBoundsWrong)

/-- 'joustlaw13.VecNear': WHATEVER THE INPUT: true; the input reads as it did. -/
def vecNearSpec : ChangeSpec := { name := "vecNear", fn := fun _ => fun
  | [d1, d2, d3] => { results := [.lit (.bool true)], args := [d1, d2, d3] }
  | _ => none }
def vecNearRow : OpenClaim := { program := "ytcmbklofbemclaadoor", sum := "371f4ba7732fdbcfe03c6ce182b5c518b39a6d51d452576f36f845c36af9c477", func := "joust/joustlaw13.VecNear", spec := "vecNear", recurses := true, named := ["joust/fix.sines"], apart := false, laid := [("joust/fix.sines", laid_joust_fix_sines)] }
def VecNearSaid : Prop := vecNearRow.holds Tryd.pinned (OpenSpec.ofChange vecNearSpec)

/-- ITS FALSE NEIGHBOUR: 'it returns false'. Refute it at one input. -/
def vecNearWrong : ChangeSpec := { name := "vecNear", fn := fun _ => fun
  | [d1, d2, d3] => { results := [.lit (.bool false)], args := [d1, d2, d3] }
  | _ => none }
def VecNearWrongFalsely : Prop := vecNearRow.holds Tryd.pinned (OpenSpec.ofChange vecNearWrong)

/-- 'joustlaw13.VecAsks': WHATEVER THE INPUT: true; the input reads as it did. -/
def vecAsksSpec : ChangeSpec := { name := "vecAsks", fn := fun _ => fun
  | [d] => { results := [.lit (.bool true)], args := [d] }
  | _ => none }
def vecAsksRow : OpenClaim := { program := "ytcmbklofbemclaadoor", sum := "371f4ba7732fdbcfe03c6ce182b5c518b39a6d51d452576f36f845c36af9c477", func := "joust/joustlaw13.VecAsks", spec := "vecAsks", recurses := true, named := ["joust/fix.sines"], apart := false, laid := [("joust/fix.sines", laid_joust_fix_sines)] }
def VecAsksSaid : Prop := vecAsksRow.holds Tryd.pinned (OpenSpec.ofChange vecAsksSpec)

/-- ITS FALSE NEIGHBOUR: 'it returns false'. Refute it at one input. -/
def vecAsksWrong : ChangeSpec := { name := "vecAsks", fn := fun _ => fun
  | [d] => { results := [.lit (.bool false)], args := [d] }
  | _ => none }
def VecAsksWrongFalsely : Prop := vecAsksRow.holds Tryd.pinned (OpenSpec.ofChange vecAsksWrong)

/- THE SECOND FORM. 'bulk': how many values and letters a reading holds, each counted each time it is reached (what is shared counts as often as it is met; a slice's spare places count too). A statement '..UptoSaid' is the law's where the arguments, and the package variables that the reading takes, are together of bulk at most 1048576: NARROWER than '..Said'. Prove '..Said' where nothing that the law and all that it calls make is longer than what came in: it says more and counts as full. Else prove '..UptoSaid'. A law counts once. -/
mutual
def uptoBulk {H : Type} : DataW H → Nat
  | .lit (.string bytes) => bytes.length + 1
  | .lit _ => 1
  | .nil => 1
  | .ptr d => uptoBulk d + 1
  | .slice elems spare => uptoBulkAll elems + uptoBulkAll spare + 1
  | .agg parts => uptoBulkAll parts + 1
  | .iface _ d => uptoBulk d + 1
  | .map entries => uptoBulkEntries entries + 1
  | .held _ => 1
def uptoBulkAll {H : Type} : List (DataW H) → Nat
  | [] => 0
  | d :: r => uptoBulk d + uptoBulkAll r
def uptoBulkEntries {H : Type} : List (Lit × DataW H) → Nat
  | [] => 0
  | x :: r => uptoBulkEntry x + uptoBulkEntries r
def uptoBulkEntry {H : Type} : Lit × DataW H → Nat
  | (.string bytes, d) => bytes.length + uptoBulk d + 1
  | (_, d) => uptoBulk d + 1
 end
def uptoSmall : (H : Type) → List (DataW H) → Bool := fun _ ds => decide (uptoBulkAll ds ≤ 1048576)
def OpenSpec.upto (s : _root_.Go.ChangeSpec) : _root_.Go.OpenSpec := { _root_.Go.OpenSpec.ofChange s with cond := some uptoSmall }

/-- 'joustlaw13.VecTurns', WHERE WHAT IT READS IS OF BULK AT MOST 1048576: true; the input reads as it did. -/
def vecTurnsUptoRow : OpenClaim := { program := "ytcmbklofbemclaadoor", sum := "371f4ba7732fdbcfe03c6ce182b5c518b39a6d51d452576f36f845c36af9c477", func := "joust/joustlaw13.VecTurns", spec := "vecTurns", recurses := true, named := ["joust/fix.sines"], apart := false, laid := [("joust/fix.sines", laid_joust_fix_sines)], narrowed := true }
def VecTurnsUptoSaid : Prop := vecTurnsUptoRow.holds Tryd.pinned (OpenSpec.upto vecTurnsSpec)

/-- 'joustlaw13.VecToward', WHERE WHAT IT READS IS OF BULK AT MOST 1048576: true; the input reads as it did. -/
def vecTowardUptoRow : OpenClaim := { program := "ytcmbklofbemclaadoor", sum := "371f4ba7732fdbcfe03c6ce182b5c518b39a6d51d452576f36f845c36af9c477", func := "joust/joustlaw13.VecToward", spec := "vecToward", recurses := true, named := ["joust/fix.sines"], apart := false, laid := [("joust/fix.sines", laid_joust_fix_sines)], narrowed := true }
def VecTowardUptoSaid : Prop := vecTowardUptoRow.holds Tryd.pinned (OpenSpec.upto vecTowardSpec)

/-- 'joustlaw13.VecBounds', WHERE WHAT IT READS IS OF BULK AT MOST 1048576: true; the input reads as it did. -/
def vecBoundsUptoRow : OpenClaim := { program := "ytcmbklofbemclaadoor", sum := "371f4ba7732fdbcfe03c6ce182b5c518b39a6d51d452576f36f845c36af9c477", func := "joust/joustlaw13.VecBounds", spec := "vecBounds", recurses := true, named := ["joust/fix.sines"], apart := false, laid := [("joust/fix.sines", laid_joust_fix_sines)], narrowed := true }
def VecBoundsUptoSaid : Prop := vecBoundsUptoRow.holds Tryd.pinned (OpenSpec.upto vecBoundsSpec)

/-- 'joustlaw13.VecNear', WHERE WHAT IT READS IS OF BULK AT MOST 1048576: true; the input reads as it did. -/
def vecNearUptoRow : OpenClaim := { program := "ytcmbklofbemclaadoor", sum := "371f4ba7732fdbcfe03c6ce182b5c518b39a6d51d452576f36f845c36af9c477", func := "joust/joustlaw13.VecNear", spec := "vecNear", recurses := true, named := ["joust/fix.sines"], apart := false, laid := [("joust/fix.sines", laid_joust_fix_sines)], narrowed := true }
def VecNearUptoSaid : Prop := vecNearUptoRow.holds Tryd.pinned (OpenSpec.upto vecNearSpec)

/-- 'joustlaw13.VecAsks', WHERE WHAT IT READS IS OF BULK AT MOST 1048576: true; the input reads as it did. -/
def vecAsksUptoRow : OpenClaim := { program := "ytcmbklofbemclaadoor", sum := "371f4ba7732fdbcfe03c6ce182b5c518b39a6d51d452576f36f845c36af9c477", func := "joust/joustlaw13.VecAsks", spec := "vecAsks", recurses := true, named := ["joust/fix.sines"], apart := false, laid := [("joust/fix.sines", laid_joust_fix_sines)], narrowed := true }
def VecAsksUptoSaid : Prop := vecAsksUptoRow.holds Tryd.pinned (OpenSpec.upto vecAsksSpec)

end Rows
end Go.Proofs.YtcmbklofbemclaaDoor
