/- The table of the steps as a law's list gives it, and a world for a witness. -/
import Derived.Test.YtlndgnlkfhlekaaDoorShaO
import Derived.Test.YtlndgnlkfhlekaaDoorBase3
import Derived.Test.YtlndgnlkfhlekaaDoorRows
import Derived.ProofKit
import Derived.OpenShut
import Derived.Deep.DeepHandedRow
import Derived.Lib.LaidTab
import Derived.SizedLaws
namespace Go.Proofs.YtlndgnlkfhlekaaDoor
open Go.ChangeShapes Go.WideShapes Go.ChangeAt Go.RowKit

theorem own : ownKnob Tryd.prog.godebug = none := by kernel_rfl
theorem gTab : Tryd.prog.globalNamed "joust/sha.rounds" = some 0 := by kernel_rfl
theorem gTabType : (Tryd.prog.globals[0]?).map (·.type) = some 81 := by kernel_rfl
theorem cellsT : Tryd.prog.cellsOf 81 = 64 := by kernel_rfl
theorem cellsE : Tryd.prog.cellsOf 76 = 1 := by kernel_rfl
theorem K_list : Sha.K = [1116352408, 1899447441, 3049323471, 3921009573, 961987163, 1508970993, 2453635748, 2870763221, 3624381080, 310598401, 607225278, 1426881987, 1925078388, 2162078206, 2614888103, 3248222580, 3835390401, 4022224774, 264347078, 604807628, 770255983, 1249150122, 1555081692, 1996064986, 2554220882, 2821834349, 2952996808, 3210313671, 3336571891, 3584528711, 113926993, 338241895, 666307205, 773529912, 1294757372, 1396182291, 1695183700, 1986661051, 2177026350, 2456956037, 2730485921, 2820302411, 3259730800, 3345764771, 3516065817, 3600352804, 4094571909, 275423344, 430227734, 506948616, 659060556, 883997877, 958139571, 1322822218, 1537002063, 1747873779, 1955562222, 2024104815, 2227730452, 2361852424, 2428436474, 2756734187, 3204031479, 3329325298] := by with_unfolding_all rfl

/-- what the row's list gives: the table of the steps -/
theorem rounds_of {W : World} (h : laidMetH Tryd.prog [("joust/sha.rounds", Rows.laid_joust_sha_rounds)] W) : Rounds W := by
  have t := Lib.tabIs_of_head (P := Tryd.prog) (W := W) (name := "joust/sha.rounds") (k := .u32) (zs := Sha.K) (rest := []) gTab gTabType Tryd.underlying81 Tryd.underlying76 cellsE cellsT (by rw [K_list]; exact h)
  intro i hi
  have hi' : i < Sha.K.length := by rw [K_list]; exact hi
  have := t.cell gTab i hi'
  rw [this, Sha.g, List.getD_eq_getElem?_getD]

/-- a world for the witness: the settled one, the table holding what its initialiser lays -/
noncomputable def laidWorld (os : Os) : World :=
  { World.holding Tryd.prog os ⟨#[], #[], []⟩ with heap := (World.holding Tryd.prog os ⟨#[], #[], []⟩).heap.modify 0 fun
      | .cells _ t frozen => .cells #[.int .u32 1116352408, .int .u32 1899447441, .int .u32 3049323471, .int .u32 3921009573, .int .u32 961987163, .int .u32 1508970993, .int .u32 2453635748, .int .u32 2870763221, .int .u32 3624381080, .int .u32 310598401, .int .u32 607225278, .int .u32 1426881987, .int .u32 1925078388, .int .u32 2162078206, .int .u32 2614888103, .int .u32 3248222580, .int .u32 3835390401, .int .u32 4022224774, .int .u32 264347078, .int .u32 604807628, .int .u32 770255983, .int .u32 1249150122, .int .u32 1555081692, .int .u32 1996064986, .int .u32 2554220882, .int .u32 2821834349, .int .u32 2952996808, .int .u32 3210313671, .int .u32 3336571891, .int .u32 3584528711, .int .u32 113926993, .int .u32 338241895, .int .u32 666307205, .int .u32 773529912, .int .u32 1294757372, .int .u32 1396182291, .int .u32 1695183700, .int .u32 1986661051, .int .u32 2177026350, .int .u32 2456956037, .int .u32 2730485921, .int .u32 2820302411, .int .u32 3259730800, .int .u32 3345764771, .int .u32 3516065817, .int .u32 3600352804, .int .u32 4094571909, .int .u32 275423344, .int .u32 430227734, .int .u32 506948616, .int .u32 659060556, .int .u32 883997877, .int .u32 958139571, .int .u32 1322822218, .int .u32 1537002063, .int .u32 1747873779, .int .u32 1955562222, .int .u32 2024104815, .int .u32 2227730452, .int .u32 2361852424, .int .u32 2428436474, .int .u32 2756734187, .int .u32 3204031479, .int .u32 3329325298] t frozen
      | o => o }
theorem laid_met (os : Os) : laidMet Tryd.prog [("joust/sha.rounds", Rows.laid_joust_sha_rounds)] ((laidWorld os).forCall (fun _ _ => 0) ⟨#[], #[], []⟩).memory :=
  laidMet_of_run' 8 (by kernel_rfl) (by kernel_rfl)
/-- a byte slice among the arguments, opened -/
theorem bytes_open {H : Type} {enc : TypeId × Value → H} {W : World} {r : Reach} {b0 : Nat} {v : Value} {d : DataW H} {ps : List MemPlace}
    (hval : Value.okWide Tryd.prog W r b0 63 v) (hs : ∀ es sp, d = .slice es sp → es.length + sp.length ≤ 140737488355328) (h : DataW.Trod enc Tryd.prog W 0 (fun _ => true) true 63 v d ps) :
    ∃ (sa : Option Addr) (n c : Nat) (t : List Int), v = .slice sa n c ∧ BytesAt W W.heap.size v t := by
  obtain ⟨sa, cap, xs, zs, rfl, h1, h2, h3, h4, h5, h6⟩ := ints_open Tryd.underlying63 Tryd.underlying5 (by kernel_rfl) hval h
  refine ⟨sa, _, cap, xs, rfl, ?_, ?_, sa, cap, rfl, h1, h3, fun hp => ?_⟩
  rotate_left
  · rcases h2 with h2 | h2
    · omega
    · have := hs _ _ h2
      simp only [lits, List.length_map] at this
      omega
  rotate_left
  · intro x hx
    have := bounds_u8 (h4 x (by simp [hx])); omega
  · obtain ⟨b, off, e1, e2, e3⟩ := h6 (by omega)
    refine ⟨b, off, e1, e2, fun j hj => ?_⟩
    rw [e3 j (by omega), Sha.g, List.getD_eq_getElem?_getD, List.getElem?_append_left hj]
/-- how long a byte slice among the arguments may be -/
theorem bytes_sized {H : Type} {ts : List TypeId} {ds : List (DataW H)} (h : (DataW.weightsEach Tryd.prog ts ds).all (· ≤ reachBytes) = true) {j : Nat} {d : DataW H} (ht : ts[j]? = some 63) (hd : ds[j]? = some d) :
    ∀ es sp, d = .slice es sp → es.length + sp.length ≤ 140737488355328 := by
  rintro es sp rfl
  have h1 := sized_slice h ht hd Tryd.underlying63
  rw [show Tryd.prog.bytesOf 5 = 1 by kernel_rfl] at h1
  have := reachBytes_lt
  omega
end Go.Proofs.YtlndgnlkfhlekaaDoor
