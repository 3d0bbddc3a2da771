/- The tables of the program and of the reference as a law's list gives them, and a world for a witness. -/
import Derived.Test.YtlndgnlkfhlekaaDoorShaL
import Derived.Test.YtlndgnlkfhlekaaDoorRefC
import Derived.LaidSub
namespace Go.Proofs.YtlndgnlkfhlekaaDoor
open Go.ChangeShapes Go.WideShapes Go.ChangeAt Go.RowKit

theorem gRoots : Tryd.prog.globalNamed "joust/joustref01.roots" = some 1 := by kernel_rfl
theorem gRootsType : (Tryd.prog.globals[1]?).map (·.type) = some 77 := by kernel_rfl
theorem gCubes : Tryd.prog.globalNamed "joust/joustref01.cubes" = some 2 := by kernel_rfl
theorem gCubesType : (Tryd.prog.globals[2]?).map (·.type) = some 81 := by kernel_rfl
theorem cellsR : Tryd.prog.cellsOf 77 = 8 := by kernel_rfl

theorem tabs_of {W : World} (h : laidMetH Tryd.prog [("joust/joustref01.roots", Rows.laid_joust_joustref01_roots), ("joust/joustref01.cubes", Rows.laid_joust_joustref01_cubes), ("joust/sha.rounds", Rows.laid_joust_sha_rounds)] W) : Rounds W ∧ RefTabs W := by
  have h2 : laidMetH Tryd.prog [("joust/sha.rounds", Rows.laid_joust_sha_rounds)] W := by
    have := h.filter (fun x => x.1 == "joust/sha.rounds")
    simpa [List.filter] using this
  have h1 : laidMetH Tryd.prog [("joust/joustref01.cubes", Rows.laid_joust_joustref01_cubes)] W := by
    have := h.filter (fun x => x.1 == "joust/joustref01.cubes")
    simpa [List.filter] using this
  have h0 : laidMetH Tryd.prog [("joust/joustref01.roots", Rows.laid_joust_joustref01_roots)] W := by
    have := h.filter (fun x => x.1 == "joust/joustref01.roots")
    simpa [List.filter] using this
  refine ⟨rounds_of h2, fun i hi => ?_, fun i hi => ?_⟩
  · have t := Lib.tabIs_of_head (P := Tryd.prog) (W := W) (name := "joust/joustref01.roots") (k := .u32) (zs := Sha.init.list) (rest := []) gRoots gRootsType Tryd.underlying77 Tryd.underlying76 cellsE cellsR h0
    have hi' : i < Sha.init.list.length := hi
    have := t.cell gRoots i hi'
    rw [this, Sha.g, List.getD_eq_getElem?_getD]
  · have t := Lib.tabIs_of_head (P := Tryd.prog) (W := W) (name := "joust/joustref01.cubes") (k := .u32) (zs := Sha.K) (rest := []) gCubes gCubesType Tryd.underlying81 Tryd.underlying76 cellsE cellsT (by rw [K_list]; exact h1)
    have hi' : i < Sha.K.length := by rw [K_list]; exact hi
    have := t.cell gCubes i hi'
    rw [this, Sha.g, List.getD_eq_getElem?_getD]

/-- a world for the witness: the settled one, the tables holding what their initialisers lay -/
noncomputable def laidWorld3 (os : Os) : World :=
  { World.holding Tryd.prog os ⟨#[], #[], []⟩ with heap := ((((World.holding Tryd.prog os ⟨#[], #[], []⟩).heap.modify 0 (fun
      | .cells _ t frozen => .cells #[.int .u32 1116352408, .int .u32 1899447441, .int .u32 3049323471, .int .u32 3921009573, .int .u32 961987163, .int .u32 1508970993, .int .u32 2453635748, .int .u32 2870763221, .int .u32 3624381080, .int .u32 310598401, .int .u32 607225278, .int .u32 1426881987, .int .u32 1925078388, .int .u32 2162078206, .int .u32 2614888103, .int .u32 3248222580, .int .u32 3835390401, .int .u32 4022224774, .int .u32 264347078, .int .u32 604807628, .int .u32 770255983, .int .u32 1249150122, .int .u32 1555081692, .int .u32 1996064986, .int .u32 2554220882, .int .u32 2821834349, .int .u32 2952996808, .int .u32 3210313671, .int .u32 3336571891, .int .u32 3584528711, .int .u32 113926993, .int .u32 338241895, .int .u32 666307205, .int .u32 773529912, .int .u32 1294757372, .int .u32 1396182291, .int .u32 1695183700, .int .u32 1986661051, .int .u32 2177026350, .int .u32 2456956037, .int .u32 2730485921, .int .u32 2820302411, .int .u32 3259730800, .int .u32 3345764771, .int .u32 3516065817, .int .u32 3600352804, .int .u32 4094571909, .int .u32 275423344, .int .u32 430227734, .int .u32 506948616, .int .u32 659060556, .int .u32 883997877, .int .u32 958139571, .int .u32 1322822218, .int .u32 1537002063, .int .u32 1747873779, .int .u32 1955562222, .int .u32 2024104815, .int .u32 2227730452, .int .u32 2361852424, .int .u32 2428436474, .int .u32 2756734187, .int .u32 3204031479, .int .u32 3329325298] t frozen
      | o => o)).modify 2 (fun
      | .cells _ t frozen => .cells #[.int .u32 1116352408, .int .u32 1899447441, .int .u32 3049323471, .int .u32 3921009573, .int .u32 961987163, .int .u32 1508970993, .int .u32 2453635748, .int .u32 2870763221, .int .u32 3624381080, .int .u32 310598401, .int .u32 607225278, .int .u32 1426881987, .int .u32 1925078388, .int .u32 2162078206, .int .u32 2614888103, .int .u32 3248222580, .int .u32 3835390401, .int .u32 4022224774, .int .u32 264347078, .int .u32 604807628, .int .u32 770255983, .int .u32 1249150122, .int .u32 1555081692, .int .u32 1996064986, .int .u32 2554220882, .int .u32 2821834349, .int .u32 2952996808, .int .u32 3210313671, .int .u32 3336571891, .int .u32 3584528711, .int .u32 113926993, .int .u32 338241895, .int .u32 666307205, .int .u32 773529912, .int .u32 1294757372, .int .u32 1396182291, .int .u32 1695183700, .int .u32 1986661051, .int .u32 2177026350, .int .u32 2456956037, .int .u32 2730485921, .int .u32 2820302411, .int .u32 3259730800, .int .u32 3345764771, .int .u32 3516065817, .int .u32 3600352804, .int .u32 4094571909, .int .u32 275423344, .int .u32 430227734, .int .u32 506948616, .int .u32 659060556, .int .u32 883997877, .int .u32 958139571, .int .u32 1322822218, .int .u32 1537002063, .int .u32 1747873779, .int .u32 1955562222, .int .u32 2024104815, .int .u32 2227730452, .int .u32 2361852424, .int .u32 2428436474, .int .u32 2756734187, .int .u32 3204031479, .int .u32 3329325298] t frozen
      | o => o)).modify 1 (fun
      | .cells _ t frozen => .cells #[.int .u32 1779033703, .int .u32 3144134277, .int .u32 1013904242, .int .u32 2773480762, .int .u32 1359893119, .int .u32 2600822924, .int .u32 528734635, .int .u32 1541459225] t frozen
      | o => o)) }
theorem laid_met3 (os : Os) : laidMet Tryd.prog [("joust/joustref01.roots", Rows.laid_joust_joustref01_roots), ("joust/joustref01.cubes", Rows.laid_joust_joustref01_cubes), ("joust/sha.rounds", Rows.laid_joust_sha_rounds)] ((laidWorld3 os).forCall (fun _ _ => 0) ⟨#[], #[], []⟩).memory :=
  laidMet_of_run' 8 (by kernel_rfl) (by kernel_rfl)
end Go.Proofs.YtlndgnlkfhlekaaDoor
