/- A case among a law's arguments, opened. -/
import Derived.Test.YtcmbklofbemclaaDoorVecM
import Derived.Test.YtcmbklofbemclaaDoorBase3
import Derived.Lib.SmallJoins
import Derived.ChangeArms
namespace Go.Proofs.YtcmbklofbemclaaDoor
open Go.RowKit Go.ChangeShapes Go.WideShapes Go.ChangeAt

theorem vec_fields {H : Type} {enc : TypeId × Value → H} {W : World} {fuel : Nat} {cs : List Value} {x : DataW H × List MemPlace} {B : Nat} {sp : Nat → Bool} {hd : Bool} (h : DataW.trod enc Tryd.prog W B sp hd fuel 25 cs = some x) :
    ∃ a b : Int, cs = [.int .i64 a, .int .i64 b] ∧ FixM.I64 a ∧ FixM.I64 b := by
  obtain ⟨xs, n, hn, rfl, hl, hxl, hf⟩ := DataW.trod_struct Tryd.underlying25 h
  have c2 : Tryd.prog.cellsOf 25 = 2 := by kernel_rfl
  have ci : Tryd.prog.cellsOf 2 = 1 := by kernel_rfl
  rw [c2] at hl
  match cs, hl with
  | [v0, v1], _ =>
    match xs, hxl with
    | [y0, y1], _ =>
      have f0 : DataW.trod enc Tryd.prog W B sp hd n 2 (([v0, v1].drop 0).take (Tryd.prog.cellsOf 2)) = some y0 := hf 0 _ rfl
      have f1 : DataW.trod enc Tryd.prog W B sp hd n 2 (([v0, v1].drop 1).take (Tryd.prog.cellsOf 2)) = some y1 := hf 1 _ rfl
      rw [ci] at f0 f1
      obtain ⟨a0, h0, e0, q0⟩ := DataW.trod_int Tryd.underlying2 f0
      obtain ⟨a1, h1, e1, q1⟩ := DataW.trod_int Tryd.underlying2 f1
      simp at h0 h1
      exact ⟨a0, a1, by rw [h0, h1], FixM.i64_wf q0, FixM.i64_wf q1⟩
theorem case_open {H : Type} {enc : TypeId × Value → H} {W : World} {r : Reach} {b0 : Nat} {v : Value} {d : DataW H} {ps : List MemPlace} (hval : Value.okWide Tryd.prog W r b0 34 v) (h : DataW.Trod enc Tryd.prog W 0 (fun _ => true) true 34 v d ps) :
    ∃ ax ay bx by' k r h j : Int, v = .agg #[.int .i64 ax, .int .i64 ay, .int .i64 bx, .int .i64 by', .int .i64 k, .int .i64 r, .int .i64 h, .int .i64 j] ∧ FixM.I64 ax ∧ FixM.I64 ay ∧ FixM.I64 bx ∧ FixM.I64 by' ∧ FixM.I64 k ∧ FixM.I64 r ∧ FixM.I64 h ∧ FixM.I64 j := by
  obtain ⟨cs, rfl, hsz⟩ := okWide_struct Tryd.underlying34 hval
  obtain ⟨fuel, hf⟩ := h
  have hf2 : DataW.trod enc Tryd.prog W 0 (fun _ => true) true fuel 34 cs.toList = some (d, ps) := by simpa [Value.cells] using hf
  obtain ⟨xs, n, hn, _, hl, hxl, hg⟩ := DataW.trod_struct Tryd.underlying34 hf2
  have c8 : Tryd.prog.cellsOf 34 = 8 := by kernel_rfl
  have cv : Tryd.prog.cellsOf 25 = 2 := by kernel_rfl
  have c64 : Tryd.prog.cellsOf 2 = 1 := by kernel_rfl
  have ci : Tryd.prog.cellsOf 3 = 1 := by kernel_rfl
  obtain ⟨l⟩ := cs
  simp only at hl hg
  rw [c8] at hl
  match l, hl with
  | [v0, v1, v2, v3, v4, v5, v6, v7], _ =>
    match xs, hxl with
    | [y0, y1, y2, y3, y4, y5], _ =>
      have f0 : DataW.trod enc Tryd.prog W 0 (fun _ => true) true n 25 (([v0, v1, v2, v3, v4, v5, v6, v7].drop 0).take (Tryd.prog.cellsOf 25)) = some y0 := hg 0 _ rfl
      have f1 : DataW.trod enc Tryd.prog W 0 (fun _ => true) true n 25 (([v0, v1, v2, v3, v4, v5, v6, v7].drop 2).take (Tryd.prog.cellsOf 25)) = some y1 := hg 1 _ rfl
      have f2 : DataW.trod enc Tryd.prog W 0 (fun _ => true) true n 2 (([v0, v1, v2, v3, v4, v5, v6, v7].drop 4).take (Tryd.prog.cellsOf 2)) = some y2 := hg 2 _ rfl
      have f3 : DataW.trod enc Tryd.prog W 0 (fun _ => true) true n 2 (([v0, v1, v2, v3, v4, v5, v6, v7].drop 5).take (Tryd.prog.cellsOf 2)) = some y3 := hg 3 _ rfl
      have f4 : DataW.trod enc Tryd.prog W 0 (fun _ => true) true n 3 (([v0, v1, v2, v3, v4, v5, v6, v7].drop 6).take (Tryd.prog.cellsOf 3)) = some y4 := hg 4 _ rfl
      have f5 : DataW.trod enc Tryd.prog W 0 (fun _ => true) true n 3 (([v0, v1, v2, v3, v4, v5, v6, v7].drop 7).take (Tryd.prog.cellsOf 3)) = some y5 := hg 5 _ rfl
      rw [cv] at f0 f1
      rw [c64] at f2 f3
      rw [ci] at f4 f5
      obtain ⟨a, b, e0, qa, qb⟩ := vec_fields f0
      obtain ⟨c, e, e1, qc, qe⟩ := vec_fields f1
      obtain ⟨a2, h2, e2, q2⟩ := DataW.trod_int Tryd.underlying2 f2
      obtain ⟨a3, h3, e3, q3⟩ := DataW.trod_int Tryd.underlying2 f3
      obtain ⟨a4, h4, e4, q4⟩ := DataW.trod_int Tryd.underlying3 f4
      obtain ⟨a5, h5, e5, q5⟩ := DataW.trod_int Tryd.underlying3 f5
      simp at e0 e1 h2 h3 h4 h5
      exact ⟨a, b, c, e, a2, a3, a4, a5, by simp [e0, e1, h2, h3, h4, h5], qa, qb, qc, qe, FixM.i64_wf q2, FixM.i64_wf q3, FixM.i64_wf q4, FixM.i64_wf q5⟩
end Go.Proofs.YtcmbklofbemclaaDoor
