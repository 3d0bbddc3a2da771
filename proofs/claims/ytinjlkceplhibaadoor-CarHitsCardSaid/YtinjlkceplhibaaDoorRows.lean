/-
  NARROWER THAN 'FOR EVERY INPUT', by the rows' own cells (each row's printed sentence says how): ShotFires: laid · ShotMoves: laid · ShotPays: laid · ShotFlies: laid · ShotBlind: laid · ShotJumps: laid · CarDrives: laid · CarFree: laid · CarComes: laid · CarRound: laid · CarRests: laid · CarHits: laid.
  DERIVED. THE GIVEN ROWS OF THIS SEAT. 12 by the template 'for every input the law returns true; each argument reads behind the call as it read before'; 0 by the template 'total and deterministic' (their statements: YtinjlkceplhibaaDoorTotals.lean).
  GIVEN WITH THE SEED: the statements are not yours to turn. If you find one false, say at which input.
  Laid BY PROGRAM, IN A SANDBOX (cutbox-rows.mjs): the forced cells as the released guide's own fill.sh prints them over the translation b7d68fb2f4250d93… (all of the seat's roots in one cut). By AI agents, Wed Nov 11 2026. No macro, syntax, notation, axiom, sorry.
-/
import Derived.Test.YtinjlkceplhibaaDoorChecked
import GoSem.Claim
import GoSem.ClaimJoined
import GoSem.ClaimMapViews
import Derived.JoinedTies
import Derived.KernelRfl
namespace Go.Proofs.YtinjlkceplhibaaDoor
/- THE CELL 'sum', in the pinned program and in every row, IS THE sha256 OF THE DUMP (.gsa) THAT YtinjlkceplhibaaDoorProg.lean LOADS. Nothing in Lean hashes anything: it is a label: what it is worth is what the hold of that sum in a sandbox is worth. -/
noncomputable def Tryd.pinned : Pinned := { name := "ytinjlkceplhibaadoor", sum := "b7d68fb2f4250d93a199064118cf07b9159c26d83974e95868084401f57a34e6", checked := Tryd.checked }
namespace Rows
def none {H : Type} : Left H := { results := [], args := [] }

/- WHAT THE LISTED PACKAGE-LEVEL VARIABLES READ AS WHEN THE CALL BEGINS. Each datum BY PROGRAM (the guide's laid-datum.mjs) off the statement by which the dump's own 'gosem.cut.vars' lays the variable. In a bare row this is a premise. The card (YtinjlkceplhibaaDoorCards.lean) ties it to the program's text. -/
def laid_joust_fix_sines {H : Type} : DataW H := .agg [.lit (.int .i64 0), .lit (.int .i64 1608), .lit (.int .i64 3216), .lit (.int .i64 4821), .lit (.int .i64 6424), .lit (.int .i64 8022), .lit (.int .i64 9616), .lit (.int .i64 11204), .lit (.int .i64 12785), .lit (.int .i64 14359), .lit (.int .i64 15924), .lit (.int .i64 17479), .lit (.int .i64 19024), .lit (.int .i64 20557), .lit (.int .i64 22078), .lit (.int .i64 23586), .lit (.int .i64 25080), .lit (.int .i64 26558), .lit (.int .i64 28020), .lit (.int .i64 29466), .lit (.int .i64 30893), .lit (.int .i64 32303), .lit (.int .i64 33692), .lit (.int .i64 35062), .lit (.int .i64 36410), .lit (.int .i64 37736), .lit (.int .i64 39040), .lit (.int .i64 40320), .lit (.int .i64 41576), .lit (.int .i64 42806), .lit (.int .i64 44011), .lit (.int .i64 45190), .lit (.int .i64 46341), .lit (.int .i64 47464), .lit (.int .i64 48559), .lit (.int .i64 49624), .lit (.int .i64 50660), .lit (.int .i64 51665), .lit (.int .i64 52639), .lit (.int .i64 53581), .lit (.int .i64 54491), .lit (.int .i64 55368), .lit (.int .i64 56212), .lit (.int .i64 57022), .lit (.int .i64 57798), .lit (.int .i64 58538), .lit (.int .i64 59244), .lit (.int .i64 59914), .lit (.int .i64 60547), .lit (.int .i64 61145), .lit (.int .i64 61705), .lit (.int .i64 62228), .lit (.int .i64 62714), .lit (.int .i64 63162), .lit (.int .i64 63572), .lit (.int .i64 63944), .lit (.int .i64 64277), .lit (.int .i64 64571), .lit (.int .i64 64827), .lit (.int .i64 65043), .lit (.int .i64 65220), .lit (.int .i64 65358), .lit (.int .i64 65457), .lit (.int .i64 65516), .lit (.int .i64 65536)]

/-- 'joustlaw16.ShotFires': WHATEVER THE INPUT: true; the input reads as it did. -/
def shotFiresSpec : ChangeSpec := { name := "shotFires", fn := fun _ => fun
  | [d1, d2] => { results := [.lit (.bool true)], args := [d1, d2] }
  | _ => none }
def shotFiresRow : OpenClaim := { program := "ytinjlkceplhibaadoor", sum := "b7d68fb2f4250d93a199064118cf07b9159c26d83974e95868084401f57a34e6", func := "joust/joustlaw16.ShotFires", spec := "shotFires", recurses := true, named := ["joust/fix.sines"], apart := false, laid := [("joust/fix.sines", laid_joust_fix_sines)] }
def ShotFiresSaid : Prop := shotFiresRow.holds Tryd.pinned (OpenSpec.ofChange shotFiresSpec)

/-- ITS FALSE NEIGHBOUR: 'it returns false'. Refute it at one input. -/
def shotFiresWrong : ChangeSpec := { name := "shotFires", fn := fun _ => fun
  | [d1, d2] => { results := [.lit (.bool false)], args := [d1, d2] }
  | _ => none }
def ShotFiresWrongFalsely : Prop := shotFiresRow.holds Tryd.pinned (OpenSpec.ofChange shotFiresWrong)

/-- 'joustlaw16.ShotMoves': WHATEVER THE INPUT: true; the input reads as it did. -/
def shotMovesSpec : ChangeSpec := { name := "shotMoves", fn := fun _ => fun
  | [d1, d2, d3] => { results := [.lit (.bool true)], args := [d1, d2, d3] }
  | _ => none }
def shotMovesRow : OpenClaim := { program := "ytinjlkceplhibaadoor", sum := "b7d68fb2f4250d93a199064118cf07b9159c26d83974e95868084401f57a34e6", func := "joust/joustlaw16.ShotMoves", spec := "shotMoves", recurses := true, named := ["joust/fix.sines"], apart := false, laid := [("joust/fix.sines", laid_joust_fix_sines)] }
def ShotMovesSaid : Prop := shotMovesRow.holds Tryd.pinned (OpenSpec.ofChange shotMovesSpec)

/-- ITS FALSE NEIGHBOUR: 'it returns false'. Refute it at one input. -/
def shotMovesWrong : ChangeSpec := { name := "shotMoves", fn := fun _ => fun
  | [d1, d2, d3] => { results := [.lit (.bool false)], args := [d1, d2, d3] }
  | _ => none }
def ShotMovesWrongFalsely : Prop := shotMovesRow.holds Tryd.pinned (OpenSpec.ofChange shotMovesWrong)

/-- 'joustlaw16.ShotPays': WHATEVER THE INPUT: true; the input reads as it did. -/
def shotPaysSpec : ChangeSpec := { name := "shotPays", fn := fun _ => fun
  | [d1, d2] => { results := [.lit (.bool true)], args := [d1, d2] }
  | _ => none }
def shotPaysRow : OpenClaim := { program := "ytinjlkceplhibaadoor", sum := "b7d68fb2f4250d93a199064118cf07b9159c26d83974e95868084401f57a34e6", func := "joust/joustlaw16.ShotPays", spec := "shotPays", recurses := true, named := ["joust/fix.sines"], apart := false, laid := [("joust/fix.sines", laid_joust_fix_sines)] }
def ShotPaysSaid : Prop := shotPaysRow.holds Tryd.pinned (OpenSpec.ofChange shotPaysSpec)

/-- ITS FALSE NEIGHBOUR: 'it returns false'. Refute it at one input. -/
def shotPaysWrong : ChangeSpec := { name := "shotPays", fn := fun _ => fun
  | [d1, d2] => { results := [.lit (.bool false)], args := [d1, d2] }
  | _ => none }
def ShotPaysWrongFalsely : Prop := shotPaysRow.holds Tryd.pinned (OpenSpec.ofChange shotPaysWrong)

/-- 'joustlaw16.ShotFlies': WHATEVER THE INPUT: true; the input reads as it did. -/
def shotFliesSpec : ChangeSpec := { name := "shotFlies", fn := fun _ => fun
  | [d1, d2, d3] => { results := [.lit (.bool true)], args := [d1, d2, d3] }
  | _ => none }
def shotFliesRow : OpenClaim := { program := "ytinjlkceplhibaadoor", sum := "b7d68fb2f4250d93a199064118cf07b9159c26d83974e95868084401f57a34e6", func := "joust/joustlaw16.ShotFlies", spec := "shotFlies", recurses := true, named := ["joust/fix.sines"], apart := false, laid := [("joust/fix.sines", laid_joust_fix_sines)] }
def ShotFliesSaid : Prop := shotFliesRow.holds Tryd.pinned (OpenSpec.ofChange shotFliesSpec)

/-- ITS FALSE NEIGHBOUR: 'it returns false'. Refute it at one input. -/
def shotFliesWrong : ChangeSpec := { name := "shotFlies", fn := fun _ => fun
  | [d1, d2, d3] => { results := [.lit (.bool false)], args := [d1, d2, d3] }
  | _ => none }
def ShotFliesWrongFalsely : Prop := shotFliesRow.holds Tryd.pinned (OpenSpec.ofChange shotFliesWrong)

/-- 'joustlaw16.ShotBlind': WHATEVER THE INPUT: true; the input reads as it did. -/
def shotBlindSpec : ChangeSpec := { name := "shotBlind", fn := fun _ => fun
  | [d] => { results := [.lit (.bool true)], args := [d] }
  | _ => none }
def shotBlindRow : OpenClaim := { program := "ytinjlkceplhibaadoor", sum := "b7d68fb2f4250d93a199064118cf07b9159c26d83974e95868084401f57a34e6", func := "joust/joustlaw16.ShotBlind", spec := "shotBlind", recurses := true, named := ["joust/fix.sines"], apart := false, laid := [("joust/fix.sines", laid_joust_fix_sines)] }
def ShotBlindSaid : Prop := shotBlindRow.holds Tryd.pinned (OpenSpec.ofChange shotBlindSpec)

/-- ITS FALSE NEIGHBOUR: 'it returns false'. Refute it at one input. -/
def shotBlindWrong : ChangeSpec := { name := "shotBlind", fn := fun _ => fun
  | [d] => { results := [.lit (.bool false)], args := [d] }
  | _ => none }
def ShotBlindWrongFalsely : Prop := shotBlindRow.holds Tryd.pinned (OpenSpec.ofChange shotBlindWrong)

/-- 'joustlaw16.ShotJumps': WHATEVER THE INPUT: true; the input reads as it did. -/
def shotJumpsSpec : ChangeSpec := { name := "shotJumps", fn := fun _ => fun
  | [d1, d2] => { results := [.lit (.bool true)], args := [d1, d2] }
  | _ => none }
def shotJumpsRow : OpenClaim := { program := "ytinjlkceplhibaadoor", sum := "b7d68fb2f4250d93a199064118cf07b9159c26d83974e95868084401f57a34e6", func := "joust/joustlaw16.ShotJumps", spec := "shotJumps", recurses := true, named := ["joust/fix.sines"], apart := false, laid := [("joust/fix.sines", laid_joust_fix_sines)] }
def ShotJumpsSaid : Prop := shotJumpsRow.holds Tryd.pinned (OpenSpec.ofChange shotJumpsSpec)

/-- ITS FALSE NEIGHBOUR: 'it returns false'. Refute it at one input. -/
def shotJumpsWrong : ChangeSpec := { name := "shotJumps", fn := fun _ => fun
  | [d1, d2] => { results := [.lit (.bool false)], args := [d1, d2] }
  | _ => none }
def ShotJumpsWrongFalsely : Prop := shotJumpsRow.holds Tryd.pinned (OpenSpec.ofChange shotJumpsWrong)

/-- 'joustlaw15.CarDrives': WHATEVER THE INPUT: true; the input reads as it did. -/
def carDrivesSpec : ChangeSpec := { name := "carDrives", fn := fun _ => fun
  | [d1, d2, d3] => { results := [.lit (.bool true)], args := [d1, d2, d3] }
  | _ => none }
def carDrivesRow : OpenClaim := { program := "ytinjlkceplhibaadoor", sum := "b7d68fb2f4250d93a199064118cf07b9159c26d83974e95868084401f57a34e6", func := "joust/joustlaw15.CarDrives", spec := "carDrives", unfollowed := true, recurses := true, named := ["joust/fix.sines"], apart := false, laid := [("joust/fix.sines", laid_joust_fix_sines)] }
def CarDrivesSaid : Prop := carDrivesRow.holds Tryd.pinned (OpenSpec.ofChange carDrivesSpec)

/-- ITS FALSE NEIGHBOUR: 'it returns false'. Refute it at one input. -/
def carDrivesWrong : ChangeSpec := { name := "carDrives", fn := fun _ => fun
  | [d1, d2, d3] => { results := [.lit (.bool false)], args := [d1, d2, d3] }
  | _ => none }
def CarDrivesWrongFalsely : Prop := carDrivesRow.holds Tryd.pinned (OpenSpec.ofChange carDrivesWrong)

/-- 'joustlaw15.CarFree': WHATEVER THE INPUT: true; the input reads as it did. -/
def carFreeSpec : ChangeSpec := { name := "carFree", fn := fun _ => fun
  | [d1, d2, d3] => { results := [.lit (.bool true)], args := [d1, d2, d3] }
  | _ => none }
def carFreeRow : OpenClaim := { program := "ytinjlkceplhibaadoor", sum := "b7d68fb2f4250d93a199064118cf07b9159c26d83974e95868084401f57a34e6", func := "joust/joustlaw15.CarFree", spec := "carFree", unfollowed := true, recurses := true, named := ["joust/fix.sines"], apart := false, laid := [("joust/fix.sines", laid_joust_fix_sines)] }
def CarFreeSaid : Prop := carFreeRow.holds Tryd.pinned (OpenSpec.ofChange carFreeSpec)

/-- ITS FALSE NEIGHBOUR: 'it returns false'. Refute it at one input. -/
def carFreeWrong : ChangeSpec := { name := "carFree", fn := fun _ => fun
  | [d1, d2, d3] => { results := [.lit (.bool false)], args := [d1, d2, d3] }
  | _ => none }
def CarFreeWrongFalsely : Prop := carFreeRow.holds Tryd.pinned (OpenSpec.ofChange carFreeWrong)

/-- 'joustlaw15.CarComes': WHATEVER THE INPUT: true; the input reads as it did. -/
def carComesSpec : ChangeSpec := { name := "carComes", fn := fun _ => fun
  | [d1, d2] => { results := [.lit (.bool true)], args := [d1, d2] }
  | _ => none }
def carComesRow : OpenClaim := { program := "ytinjlkceplhibaadoor", sum := "b7d68fb2f4250d93a199064118cf07b9159c26d83974e95868084401f57a34e6", func := "joust/joustlaw15.CarComes", spec := "carComes", unfollowed := true, recurses := true, named := ["joust/fix.sines"], apart := false, laid := [("joust/fix.sines", laid_joust_fix_sines)] }
def CarComesSaid : Prop := carComesRow.holds Tryd.pinned (OpenSpec.ofChange carComesSpec)

/-- ITS FALSE NEIGHBOUR: 'it returns false'. Refute it at one input. -/
def carComesWrong : ChangeSpec := { name := "carComes", fn := fun _ => fun
  | [d1, d2] => { results := [.lit (.bool false)], args := [d1, d2] }
  | _ => none }
def CarComesWrongFalsely : Prop := carComesRow.holds Tryd.pinned (OpenSpec.ofChange carComesWrong)

/-- 'joustlaw15.CarRound': WHATEVER THE INPUT: true; the input reads as it did. -/
def carRoundSpec : ChangeSpec := { name := "carRound", fn := fun _ => fun
  | [d1, d2, d3] => { results := [.lit (.bool true)], args := [d1, d2, d3] }
  | _ => none }
def carRoundRow : OpenClaim := { program := "ytinjlkceplhibaadoor", sum := "b7d68fb2f4250d93a199064118cf07b9159c26d83974e95868084401f57a34e6", func := "joust/joustlaw15.CarRound", spec := "carRound", unfollowed := true, recurses := true, named := ["joust/fix.sines"], apart := false, laid := [("joust/fix.sines", laid_joust_fix_sines)] }
def CarRoundSaid : Prop := carRoundRow.holds Tryd.pinned (OpenSpec.ofChange carRoundSpec)

/-- ITS FALSE NEIGHBOUR: 'it returns false'. Refute it at one input. -/
def carRoundWrong : ChangeSpec := { name := "carRound", fn := fun _ => fun
  | [d1, d2, d3] => { results := [.lit (.bool false)], args := [d1, d2, d3] }
  | _ => none }
def CarRoundWrongFalsely : Prop := carRoundRow.holds Tryd.pinned (OpenSpec.ofChange carRoundWrong)

/-- 'joustlaw15.CarRests': WHATEVER THE INPUT: true; the input reads as it did. -/
def carRestsSpec : ChangeSpec := { name := "carRests", fn := fun _ => fun
  | [d1, d2, d3] => { results := [.lit (.bool true)], args := [d1, d2, d3] }
  | _ => none }
def carRestsRow : OpenClaim := { program := "ytinjlkceplhibaadoor", sum := "b7d68fb2f4250d93a199064118cf07b9159c26d83974e95868084401f57a34e6", func := "joust/joustlaw15.CarRests", spec := "carRests", unfollowed := true, recurses := true, named := ["joust/fix.sines"], apart := false, laid := [("joust/fix.sines", laid_joust_fix_sines)] }
def CarRestsSaid : Prop := carRestsRow.holds Tryd.pinned (OpenSpec.ofChange carRestsSpec)

/-- ITS FALSE NEIGHBOUR: 'it returns false'. Refute it at one input. -/
def carRestsWrong : ChangeSpec := { name := "carRests", fn := fun _ => fun
  | [d1, d2, d3] => { results := [.lit (.bool false)], args := [d1, d2, d3] }
  | _ => none }
def CarRestsWrongFalsely : Prop := carRestsRow.holds Tryd.pinned (OpenSpec.ofChange carRestsWrong)

/-- 'joustlaw15.CarHits': WHATEVER THE INPUT: true; the input reads as it did. -/
def carHitsSpec : ChangeSpec := { name := "carHits", fn := fun _ => fun
  | [d1, d2, d3] => { results := [.lit (.bool true)], args := [d1, d2, d3] }
  | _ => none }
def carHitsRow : OpenClaim := { program := "ytinjlkceplhibaadoor", sum := "b7d68fb2f4250d93a199064118cf07b9159c26d83974e95868084401f57a34e6", func := "joust/joustlaw15.CarHits", spec := "carHits", unfollowed := true, recurses := true, named := ["joust/fix.sines"], apart := false, laid := [("joust/fix.sines", laid_joust_fix_sines)] }
def CarHitsSaid : Prop := carHitsRow.holds Tryd.pinned (OpenSpec.ofChange carHitsSpec)

/-- ITS FALSE NEIGHBOUR: 'it returns false'. Refute it at one input. -/
def carHitsWrong : ChangeSpec := { name := "carHits", fn := fun _ => fun
  | [d1, d2, d3] => { results := [.lit (.bool false)], args := [d1, d2, d3] }
  | _ => none }
def CarHitsWrongFalsely : Prop := carHitsRow.holds Tryd.pinned (OpenSpec.ofChange carHitsWrong)

/- THE SECOND FORM. 'bulk': how many values and letters a reading holds, each counted each time it is reached (what is shared counts as often as it is met; a slice's spare places count too). A statement '..UptoSaid' is the law's where the arguments, and the package variables that the reading takes, are together of bulk at most 1048576: NARROWER than '..Said'. Prove '..Said' where nothing that the law and all that it calls make is longer than what came in: it says more and counts as full. Else prove '..UptoSaid'. A law counts once. -/
mutual
def uptoBulk {H : Type} : DataW H → Nat
  | .lit (.string bytes) => bytes.length + 1
  | .lit _ => 1
  | .nil => 1
  | .ptr d => uptoBulk d + 1
  | .slice elems spare => uptoBulkAll elems + uptoBulkAll spare + 1
  | .agg parts => uptoBulkAll parts + 1
  | .iface _ d => uptoBulk d + 1
  | .map entries => uptoBulkEntries entries + 1
  | .held _ => 1
def uptoBulkAll {H : Type} : List (DataW H) → Nat
  | [] => 0
  | d :: r => uptoBulk d + uptoBulkAll r
def uptoBulkEntries {H : Type} : List (Lit × DataW H) → Nat
  | [] => 0
  | x :: r => uptoBulkEntry x + uptoBulkEntries r
def uptoBulkEntry {H : Type} : Lit × DataW H → Nat
  | (.string bytes, d) => bytes.length + uptoBulk d + 1
  | (_, d) => uptoBulk d + 1
 end
def uptoSmall : (H : Type) → List (DataW H) → Bool := fun _ ds => decide (uptoBulkAll ds ≤ 1048576)
def OpenSpec.upto (s : _root_.Go.ChangeSpec) : _root_.Go.OpenSpec := { _root_.Go.OpenSpec.ofChange s with cond := some uptoSmall }

/-- 'joustlaw16.ShotFires', WHERE WHAT IT READS IS OF BULK AT MOST 1048576: true; the input reads as it did. -/
def shotFiresUptoRow : OpenClaim := { program := "ytinjlkceplhibaadoor", sum := "b7d68fb2f4250d93a199064118cf07b9159c26d83974e95868084401f57a34e6", func := "joust/joustlaw16.ShotFires", spec := "shotFires", recurses := true, named := ["joust/fix.sines"], apart := false, laid := [("joust/fix.sines", laid_joust_fix_sines)], narrowed := true }
def ShotFiresUptoSaid : Prop := shotFiresUptoRow.holds Tryd.pinned (OpenSpec.upto shotFiresSpec)

/-- 'joustlaw16.ShotMoves', WHERE WHAT IT READS IS OF BULK AT MOST 1048576: true; the input reads as it did. -/
def shotMovesUptoRow : OpenClaim := { program := "ytinjlkceplhibaadoor", sum := "b7d68fb2f4250d93a199064118cf07b9159c26d83974e95868084401f57a34e6", func := "joust/joustlaw16.ShotMoves", spec := "shotMoves", recurses := true, named := ["joust/fix.sines"], apart := false, laid := [("joust/fix.sines", laid_joust_fix_sines)], narrowed := true }
def ShotMovesUptoSaid : Prop := shotMovesUptoRow.holds Tryd.pinned (OpenSpec.upto shotMovesSpec)

/-- 'joustlaw16.ShotPays', WHERE WHAT IT READS IS OF BULK AT MOST 1048576: true; the input reads as it did. -/
def shotPaysUptoRow : OpenClaim := { program := "ytinjlkceplhibaadoor", sum := "b7d68fb2f4250d93a199064118cf07b9159c26d83974e95868084401f57a34e6", func := "joust/joustlaw16.ShotPays", spec := "shotPays", recurses := true, named := ["joust/fix.sines"], apart := false, laid := [("joust/fix.sines", laid_joust_fix_sines)], narrowed := true }
def ShotPaysUptoSaid : Prop := shotPaysUptoRow.holds Tryd.pinned (OpenSpec.upto shotPaysSpec)

/-- 'joustlaw16.ShotFlies', WHERE WHAT IT READS IS OF BULK AT MOST 1048576: true; the input reads as it did. -/
def shotFliesUptoRow : OpenClaim := { program := "ytinjlkceplhibaadoor", sum := "b7d68fb2f4250d93a199064118cf07b9159c26d83974e95868084401f57a34e6", func := "joust/joustlaw16.ShotFlies", spec := "shotFlies", recurses := true, named := ["joust/fix.sines"], apart := false, laid := [("joust/fix.sines", laid_joust_fix_sines)], narrowed := true }
def ShotFliesUptoSaid : Prop := shotFliesUptoRow.holds Tryd.pinned (OpenSpec.upto shotFliesSpec)

/-- 'joustlaw16.ShotBlind', WHERE WHAT IT READS IS OF BULK AT MOST 1048576: true; the input reads as it did. -/
def shotBlindUptoRow : OpenClaim := { program := "ytinjlkceplhibaadoor", sum := "b7d68fb2f4250d93a199064118cf07b9159c26d83974e95868084401f57a34e6", func := "joust/joustlaw16.ShotBlind", spec := "shotBlind", recurses := true, named := ["joust/fix.sines"], apart := false, laid := [("joust/fix.sines", laid_joust_fix_sines)], narrowed := true }
def ShotBlindUptoSaid : Prop := shotBlindUptoRow.holds Tryd.pinned (OpenSpec.upto shotBlindSpec)

/-- 'joustlaw16.ShotJumps', WHERE WHAT IT READS IS OF BULK AT MOST 1048576: true; the input reads as it did. -/
def shotJumpsUptoRow : OpenClaim := { program := "ytinjlkceplhibaadoor", sum := "b7d68fb2f4250d93a199064118cf07b9159c26d83974e95868084401f57a34e6", func := "joust/joustlaw16.ShotJumps", spec := "shotJumps", recurses := true, named := ["joust/fix.sines"], apart := false, laid := [("joust/fix.sines", laid_joust_fix_sines)], narrowed := true }
def ShotJumpsUptoSaid : Prop := shotJumpsUptoRow.holds Tryd.pinned (OpenSpec.upto shotJumpsSpec)

/-- 'joustlaw15.CarDrives', WHERE WHAT IT READS IS OF BULK AT MOST 1048576: true; the input reads as it did. -/
def carDrivesUptoRow : OpenClaim := { program := "ytinjlkceplhibaadoor", sum := "b7d68fb2f4250d93a199064118cf07b9159c26d83974e95868084401f57a34e6", func := "joust/joustlaw15.CarDrives", spec := "carDrives", unfollowed := true, recurses := true, named := ["joust/fix.sines"], apart := false, laid := [("joust/fix.sines", laid_joust_fix_sines)], narrowed := true }
def CarDrivesUptoSaid : Prop := carDrivesUptoRow.holds Tryd.pinned (OpenSpec.upto carDrivesSpec)

/-- 'joustlaw15.CarFree', WHERE WHAT IT READS IS OF BULK AT MOST 1048576: true; the input reads as it did. -/
def carFreeUptoRow : OpenClaim := { program := "ytinjlkceplhibaadoor", sum := "b7d68fb2f4250d93a199064118cf07b9159c26d83974e95868084401f57a34e6", func := "joust/joustlaw15.CarFree", spec := "carFree", unfollowed := true, recurses := true, named := ["joust/fix.sines"], apart := false, laid := [("joust/fix.sines", laid_joust_fix_sines)], narrowed := true }
def CarFreeUptoSaid : Prop := carFreeUptoRow.holds Tryd.pinned (OpenSpec.upto carFreeSpec)

/-- 'joustlaw15.CarComes', WHERE WHAT IT READS IS OF BULK AT MOST 1048576: true; the input reads as it did. -/
def carComesUptoRow : OpenClaim := { program := "ytinjlkceplhibaadoor", sum := "b7d68fb2f4250d93a199064118cf07b9159c26d83974e95868084401f57a34e6", func := "joust/joustlaw15.CarComes", spec := "carComes", unfollowed := true, recurses := true, named := ["joust/fix.sines"], apart := false, laid := [("joust/fix.sines", laid_joust_fix_sines)], narrowed := true }
def CarComesUptoSaid : Prop := carComesUptoRow.holds Tryd.pinned (OpenSpec.upto carComesSpec)

/-- 'joustlaw15.CarRound', WHERE WHAT IT READS IS OF BULK AT MOST 1048576: true; the input reads as it did. -/
def carRoundUptoRow : OpenClaim := { program := "ytinjlkceplhibaadoor", sum := "b7d68fb2f4250d93a199064118cf07b9159c26d83974e95868084401f57a34e6", func := "joust/joustlaw15.CarRound", spec := "carRound", unfollowed := true, recurses := true, named := ["joust/fix.sines"], apart := false, laid := [("joust/fix.sines", laid_joust_fix_sines)], narrowed := true }
def CarRoundUptoSaid : Prop := carRoundUptoRow.holds Tryd.pinned (OpenSpec.upto carRoundSpec)

/-- 'joustlaw15.CarRests', WHERE WHAT IT READS IS OF BULK AT MOST 1048576: true; the input reads as it did. -/
def carRestsUptoRow : OpenClaim := { program := "ytinjlkceplhibaadoor", sum := "b7d68fb2f4250d93a199064118cf07b9159c26d83974e95868084401f57a34e6", func := "joust/joustlaw15.CarRests", spec := "carRests", unfollowed := true, recurses := true, named := ["joust/fix.sines"], apart := false, laid := [("joust/fix.sines", laid_joust_fix_sines)], narrowed := true }
def CarRestsUptoSaid : Prop := carRestsUptoRow.holds Tryd.pinned (OpenSpec.upto carRestsSpec)

/-- 'joustlaw15.CarHits', WHERE WHAT IT READS IS OF BULK AT MOST 1048576: true; the input reads as it did. -/
def carHitsUptoRow : OpenClaim := { program := "ytinjlkceplhibaadoor", sum := "b7d68fb2f4250d93a199064118cf07b9159c26d83974e95868084401f57a34e6", func := "joust/joustlaw15.CarHits", spec := "carHits", unfollowed := true, recurses := true, named := ["joust/fix.sines"], apart := false, laid := [("joust/fix.sines", laid_joust_fix_sines)], narrowed := true }
def CarHitsUptoSaid : Prop := carHitsUptoRow.holds Tryd.pinned (OpenSpec.upto carHitsSpec)

end Rows
end Go.Proofs.YtinjlkceplhibaaDoor
