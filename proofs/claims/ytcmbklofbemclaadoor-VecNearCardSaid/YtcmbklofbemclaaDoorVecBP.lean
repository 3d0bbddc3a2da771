/- A place among a law's arguments, opened. -/
import Derived.Test.YtcmbklofbemclaaDoorVecM
import Derived.Test.YtcmbklofbemclaaDoorBase3
import Derived.Lib.SmallJoins
namespace Go.Proofs.YtcmbklofbemclaaDoor
open Go.RowKit Go.ChangeShapes Go.WideShapes Go.ChangeAt

theorem place_open {H : Type} {enc : TypeId × Value → H} {W : World} {r : Reach} {b0 : Nat} {v : Value} {d : DataW H} {ps : List MemPlace} (hval : Value.okWide Tryd.prog W r b0 25 v) (h : DataW.Trod enc Tryd.prog W 0 (fun _ => true) true 25 v d ps) :
    ∃ x y : Int, v = .agg #[.int .i64 x, .int .i64 y] ∧ FixM.I64 x ∧ FixM.I64 y := by
  obtain ⟨v0, v1, y0, y1, n, rfl, _, _, f0, f1⟩ := Joins.open_agg2 Tryd.underlying25 (by kernel_rfl) (by kernel_rfl) hval h
  obtain ⟨a0, h0, e0, q0⟩ := DataW.trod_int Tryd.underlying2 f0
  obtain ⟨a1, h1, e1, q1⟩ := DataW.trod_int Tryd.underlying2 f1
  simp at h0 h1
  exact ⟨a0, a1, by rw [h0, h1], FixM.i64_wf q0, FixM.i64_wf q1⟩
end Go.Proofs.YtcmbklofbemclaaDoor
