/- The table of sines as a law's list gives it, and a world for a witness. -/
import Derived.Test.YtinjlkceplhibaaDoorFixP
import Derived.Test.YtinjlkceplhibaaDoorBase3
import Derived.Test.YtinjlkceplhibaaDoorRows
import Derived.ProofKit
import Derived.OpenShut
import Derived.Deep.DeepHandedRow
import Derived.Lib.LaidTab
import Derived.SizedLaws
namespace Go.Proofs.YtinjlkceplhibaaDoor
open Go.ChangeShapes Go.WideShapes Go.ChangeAt Go.RowKit

theorem own : ownKnob Tryd.prog.godebug = none := by kernel_rfl
theorem gTab : Tryd.prog.globalNamed "joust/fix.sines" = some 0 := by kernel_rfl
theorem gTabType : (Tryd.prog.globals[0]?).map (·.type) = some 114 := by kernel_rfl
theorem cellsT : Tryd.prog.cellsOf 114 = 65 := by kernel_rfl
theorem cellsE : Tryd.prog.cellsOf 2 = 1 := by kernel_rfl

/-- what the row's list gives: the table -/
theorem sines_of {W : World} (h : laidMetH Tryd.prog [("joust/fix.sines", Rows.laid_joust_fix_sines)] W) : Sines W := by
  have t := Lib.tabIs_of_head (P := Tryd.prog) (W := W) (name := "joust/fix.sines") (k := .i64) (zs := sineTab) (rest := []) gTab gTabType Tryd.underlying114 Tryd.underlying2 cellsE cellsT h
  intro i hi
  have hi' : i < sineTab.length := hi
  have := t.cell gTab i hi'
  rw [this]; rfl

/-- a world for the witness: the settled one, the table holding what its initialiser lays -/
noncomputable def laidWorld (os : Os) : World :=
  { World.holding Tryd.prog os ⟨#[], #[], []⟩ with heap := (World.holding Tryd.prog os ⟨#[], #[], []⟩).heap.modify 0 fun
      | .cells _ t frozen => .cells #[.int .i64 0, .int .i64 1608, .int .i64 3216, .int .i64 4821, .int .i64 6424, .int .i64 8022, .int .i64 9616, .int .i64 11204, .int .i64 12785, .int .i64 14359, .int .i64 15924, .int .i64 17479, .int .i64 19024, .int .i64 20557, .int .i64 22078, .int .i64 23586, .int .i64 25080, .int .i64 26558, .int .i64 28020, .int .i64 29466, .int .i64 30893, .int .i64 32303, .int .i64 33692, .int .i64 35062, .int .i64 36410, .int .i64 37736, .int .i64 39040, .int .i64 40320, .int .i64 41576, .int .i64 42806, .int .i64 44011, .int .i64 45190, .int .i64 46341, .int .i64 47464, .int .i64 48559, .int .i64 49624, .int .i64 50660, .int .i64 51665, .int .i64 52639, .int .i64 53581, .int .i64 54491, .int .i64 55368, .int .i64 56212, .int .i64 57022, .int .i64 57798, .int .i64 58538, .int .i64 59244, .int .i64 59914, .int .i64 60547, .int .i64 61145, .int .i64 61705, .int .i64 62228, .int .i64 62714, .int .i64 63162, .int .i64 63572, .int .i64 63944, .int .i64 64277, .int .i64 64571, .int .i64 64827, .int .i64 65043, .int .i64 65220, .int .i64 65358, .int .i64 65457, .int .i64 65516, .int .i64 65536] t frozen
      | o => o }
theorem laid_met (os : Os) : laidMet Tryd.prog [("joust/fix.sines", Rows.laid_joust_fix_sines)] ((laidWorld os).forCall (fun _ _ => 0) ⟨#[], #[], []⟩).memory :=
  laidMet_of_run' 8 (by kernel_rfl) (by kernel_rfl)
end Go.Proofs.YtinjlkceplhibaaDoor
