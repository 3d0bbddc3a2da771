/- Cars and shots among the arguments, opened. -/
import Derived.Test.YtinjlkceplhibaaDoorShA
import Derived.Test.YtinjlkceplhibaaDoorOpenS
import Derived.ChangeMaps5
import Derived.WalkKit
import Derived.ProofKit
import Derived.OpenShut
import Derived.Test.YtinjlkceplhibaaDoorBase3
namespace Go.Proofs.YtinjlkceplhibaaDoor
open Go.RowKit Go.ChangeShapes Go.WideShapes Go.ChangeAt

theorem wf64 {n : Int} (h : (Lit.int .i64 n).wf = true) : Bd.I64 n := by
  simp [Lit.wf, IntKind.min, IntKind.max, IntKind.signed, IntKind.bits] at h
  exact h
set_option maxRecDepth 100000 in
theorem vec_parts {H : Type} {enc : TypeId × Value → H} {W : World} {fuel : Nat} {cs : List Value} {x : DataW H × List MemPlace} {B : Nat} {sp : Nat → Bool} {hd : Bool} (h : DataW.trod enc Tryd.prog W B sp hd fuel 23 cs = some x) :
    ∃ a b : Int, cs = [.int .i64 a, .int .i64 b] ∧ Bd.I64 a ∧ Bd.I64 b := by
  obtain ⟨xs, n, hn, rfl, hl, hxl, hf⟩ := DataW.trod_struct Tryd.underlying23 h
  have c2 : Tryd.prog.cellsOf 23 = 2 := by kernel_rfl
  have ci : Tryd.prog.cellsOf 2 = 1 := by kernel_rfl
  rw [c2] at hl
  match cs, hl with
  | [v0, v1], _ =>
    match xs, hxl with
    | [y0, y1], _ =>
      have f0 : DataW.trod enc Tryd.prog W B sp hd n 2 (([v0, v1].drop 0).take (Tryd.prog.cellsOf 2)) = some y0 := hf 0 _ rfl
      have f1 : DataW.trod enc Tryd.prog W B sp hd n 2 (([v0, v1].drop 1).take (Tryd.prog.cellsOf 2)) = some y1 := hf 1 _ rfl
      rw [ci] at f0 f1
      obtain ⟨a0, h0, e0, q0⟩ := DataW.trod_int Tryd.underlying2 f0
      obtain ⟨a1, h1, e1, q1⟩ := DataW.trod_int Tryd.underlying2 f1
      simp at h0 h1
      exact ⟨a0, a1, by rw [h0, h1], wf64 q0, wf64 q1⟩
set_option maxRecDepth 100000 in
theorem car_parts {H : Type} {enc : TypeId × Value → H} {W : World} (fuel : Nat) (cs : List Value) (x : DataW H × List MemPlace) (h : DataW.trod enc Tryd.prog W 0 (fun _ => true) true fuel 25 cs = some x) : ∃ c : Cr, cs = c.cells ∧ c.Ok := by
  obtain ⟨xs, n, hn, rfl, hl, hxl, hf⟩ := DataW.trod_struct Tryd.underlying25 h
  have cK : Tryd.prog.cellsOf 25 = 14 := by kernel_rfl
  have cv : Tryd.prog.cellsOf 23 = 2 := by kernel_rfl
  have ci : Tryd.prog.cellsOf 3 = 1 := by kernel_rfl
  have cst : Tryd.prog.cellsOf 9 = 1 := by kernel_rfl
  rw [cK] at hl
  match cs, hl with
  | [v0, v1, v2, v3, v4, v5, v6, v7, v8, v9, v10, v11, v12, v13], _ =>
    match xs, hxl with
    | [y0, y1, y2, y3, y4, y5, y6, y7, y8, y9, y10, y11], _ =>
      have f0 : DataW.trod enc Tryd.prog W 0 (fun _ => true) true n 3 (([v0, v1, v2, v3, v4, v5, v6, v7, v8, v9, v10, v11, v12, v13].drop 0).take (Tryd.prog.cellsOf 3)) = some y0 := hf 0 _ rfl
      rw [ci] at f0
      obtain ⟨a0, h0, e0, q0⟩ := DataW.trod_int Tryd.underlying3 f0
      simp at h0
      have f1 : DataW.trod enc Tryd.prog W 0 (fun _ => true) true n 9 (([v0, v1, v2, v3, v4, v5, v6, v7, v8, v9, v10, v11, v12, v13].drop 1).take (Tryd.prog.cellsOf 9)) = some y1 := hf 1 _ rfl
      rw [cst] at f1
      obtain ⟨a1, h1, e1, q1⟩ := DataW.trod_string Tryd.underlying9 f1
      simp at h1
      have f2 : DataW.trod enc Tryd.prog W 0 (fun _ => true) true n 23 (([v0, v1, v2, v3, v4, v5, v6, v7, v8, v9, v10, v11, v12, v13].drop 2).take (Tryd.prog.cellsOf 23)) = some y2 := hf 2 _ rfl
      rw [cv] at f2
      obtain ⟨a2, b2, h2, qa2, qb2⟩ := vec_parts f2
      simp at h2
      have f3 : DataW.trod enc Tryd.prog W 0 (fun _ => true) true n 23 (([v0, v1, v2, v3, v4, v5, v6, v7, v8, v9, v10, v11, v12, v13].drop 4).take (Tryd.prog.cellsOf 23)) = some y3 := hf 3 _ rfl
      rw [cv] at f3
      obtain ⟨a3, b3, h3, qa3, qb3⟩ := vec_parts f3
      simp at h3
      have f4 : DataW.trod enc Tryd.prog W 0 (fun _ => true) true n 3 (([v0, v1, v2, v3, v4, v5, v6, v7, v8, v9, v10, v11, v12, v13].drop 6).take (Tryd.prog.cellsOf 3)) = some y4 := hf 4 _ rfl
      rw [ci] at f4
      obtain ⟨a4, h4, e4, q4⟩ := DataW.trod_int Tryd.underlying3 f4
      simp at h4
      have f5 : DataW.trod enc Tryd.prog W 0 (fun _ => true) true n 3 (([v0, v1, v2, v3, v4, v5, v6, v7, v8, v9, v10, v11, v12, v13].drop 7).take (Tryd.prog.cellsOf 3)) = some y5 := hf 5 _ rfl
      rw [ci] at f5
      obtain ⟨a5, h5, e5, q5⟩ := DataW.trod_int Tryd.underlying3 f5
      simp at h5
      have f6 : DataW.trod enc Tryd.prog W 0 (fun _ => true) true n 3 (([v0, v1, v2, v3, v4, v5, v6, v7, v8, v9, v10, v11, v12, v13].drop 8).take (Tryd.prog.cellsOf 3)) = some y6 := hf 6 _ rfl
      rw [ci] at f6
      obtain ⟨a6, h6, e6, q6⟩ := DataW.trod_int Tryd.underlying3 f6
      simp at h6
      have f7 : DataW.trod enc Tryd.prog W 0 (fun _ => true) true n 3 (([v0, v1, v2, v3, v4, v5, v6, v7, v8, v9, v10, v11, v12, v13].drop 9).take (Tryd.prog.cellsOf 3)) = some y7 := hf 7 _ rfl
      rw [ci] at f7
      obtain ⟨a7, h7, e7, q7⟩ := DataW.trod_int Tryd.underlying3 f7
      simp at h7
      have f8 : DataW.trod enc Tryd.prog W 0 (fun _ => true) true n 3 (([v0, v1, v2, v3, v4, v5, v6, v7, v8, v9, v10, v11, v12, v13].drop 10).take (Tryd.prog.cellsOf 3)) = some y8 := hf 8 _ rfl
      rw [ci] at f8
      obtain ⟨a8, h8, e8, q8⟩ := DataW.trod_int Tryd.underlying3 f8
      simp at h8
      have f9 : DataW.trod enc Tryd.prog W 0 (fun _ => true) true n 3 (([v0, v1, v2, v3, v4, v5, v6, v7, v8, v9, v10, v11, v12, v13].drop 11).take (Tryd.prog.cellsOf 3)) = some y9 := hf 9 _ rfl
      rw [ci] at f9
      obtain ⟨a9, h9, e9, q9⟩ := DataW.trod_int Tryd.underlying3 f9
      simp at h9
      have f10 : DataW.trod enc Tryd.prog W 0 (fun _ => true) true n 3 (([v0, v1, v2, v3, v4, v5, v6, v7, v8, v9, v10, v11, v12, v13].drop 12).take (Tryd.prog.cellsOf 3)) = some y10 := hf 10 _ rfl
      rw [ci] at f10
      obtain ⟨a10, h10, e10, q10⟩ := DataW.trod_int Tryd.underlying3 f10
      simp at h10
      have f11 : DataW.trod enc Tryd.prog W 0 (fun _ => true) true n 3 (([v0, v1, v2, v3, v4, v5, v6, v7, v8, v9, v10, v11, v12, v13].drop 13).take (Tryd.prog.cellsOf 3)) = some y11 := hf 11 _ rfl
      rw [ci] at f11
      obtain ⟨a11, h11, e11, q11⟩ := DataW.trod_int Tryd.underlying3 f11
      simp at h11
      exact ⟨⟨a0, a1, a2, b2, a3, b3, a4, a5, a6, a7, a8, a9, a10, a11⟩, by rw [h0, h1, h2.1, h2.2, h3.1, h3.2, h4, h5, h6, h7, h8, h9, h10, h11]; rfl, ⟨wf64 q0, (by unfold maxLen at q1; omega), qa2, qb2, qa3, qb3, wf64 q4, wf64 q5, wf64 q6, wf64 q7, wf64 q8, wf64 q9, wf64 q10, wf64 q11⟩⟩
set_option maxRecDepth 100000 in
theorem car_open {H : Type} {enc : TypeId × Value → H} {W : World} {r : Reach} {b0 : Nat} {v : Value} {d : DataW H} {ps : List MemPlace}
    (hval : Value.okWide Tryd.prog W r b0 25 v) (h : DataW.Trod enc Tryd.prog W 0 (fun _ => true) true 25 v d ps) : ∃ c : Cr, v = c.agg ∧ c.Ok := by
  obtain ⟨cs, rfl, hcs⟩ := okWide_struct Tryd.underlying25 hval
  obtain ⟨fuel, hf⟩ := h
  obtain ⟨c, hc, hok⟩ := car_parts _ _ _ hf
  refine ⟨c, ?_, hok⟩
  unfold Cr.agg
  rw [← hc]
  simp [Value.cells]
set_option maxRecDepth 100000 in
theorem shot_parts {H : Type} {enc : TypeId × Value → H} {W : World} (fuel : Nat) (cs : List Value) (x : DataW H × List MemPlace) (h : DataW.trod enc Tryd.prog W 0 (fun _ => true) true fuel 28 cs = some x) : ∃ c : Sh, cs = c.cells ∧ c.Ok := by
  obtain ⟨xs, n, hn, rfl, hl, hxl, hf⟩ := DataW.trod_struct Tryd.underlying28 h
  have cK : Tryd.prog.cellsOf 28 = 7 := by kernel_rfl
  have cv : Tryd.prog.cellsOf 23 = 2 := by kernel_rfl
  have ci : Tryd.prog.cellsOf 3 = 1 := by kernel_rfl
  have cst : Tryd.prog.cellsOf 9 = 1 := by kernel_rfl
  rw [cK] at hl
  match cs, hl with
  | [v0, v1, v2, v3, v4, v5, v6], _ =>
    match xs, hxl with
    | [y0, y1, y2, y3, y4], _ =>
      have f0 : DataW.trod enc Tryd.prog W 0 (fun _ => true) true n 3 (([v0, v1, v2, v3, v4, v5, v6].drop 0).take (Tryd.prog.cellsOf 3)) = some y0 := hf 0 _ rfl
      rw [ci] at f0
      obtain ⟨a0, h0, e0, q0⟩ := DataW.trod_int Tryd.underlying3 f0
      simp at h0
      have f1 : DataW.trod enc Tryd.prog W 0 (fun _ => true) true n 3 (([v0, v1, v2, v3, v4, v5, v6].drop 1).take (Tryd.prog.cellsOf 3)) = some y1 := hf 1 _ rfl
      rw [ci] at f1
      obtain ⟨a1, h1, e1, q1⟩ := DataW.trod_int Tryd.underlying3 f1
      simp at h1
      have f2 : DataW.trod enc Tryd.prog W 0 (fun _ => true) true n 23 (([v0, v1, v2, v3, v4, v5, v6].drop 2).take (Tryd.prog.cellsOf 23)) = some y2 := hf 2 _ rfl
      rw [cv] at f2
      obtain ⟨a2, b2, h2, qa2, qb2⟩ := vec_parts f2
      simp at h2
      have f3 : DataW.trod enc Tryd.prog W 0 (fun _ => true) true n 23 (([v0, v1, v2, v3, v4, v5, v6].drop 4).take (Tryd.prog.cellsOf 23)) = some y3 := hf 3 _ rfl
      rw [cv] at f3
      obtain ⟨a3, b3, h3, qa3, qb3⟩ := vec_parts f3
      simp at h3
      have f4 : DataW.trod enc Tryd.prog W 0 (fun _ => true) true n 3 (([v0, v1, v2, v3, v4, v5, v6].drop 6).take (Tryd.prog.cellsOf 3)) = some y4 := hf 4 _ rfl
      rw [ci] at f4
      obtain ⟨a4, h4, e4, q4⟩ := DataW.trod_int Tryd.underlying3 f4
      simp at h4
      exact ⟨⟨a0, a1, a2, b2, a3, b3, a4⟩, by rw [h0, h1, h2.1, h2.2, h3.1, h3.2, h4]; rfl, ⟨wf64 q0, wf64 q1, qa2, qb2, qa3, qb3, wf64 q4⟩⟩
set_option maxRecDepth 100000 in
theorem shot_open {H : Type} {enc : TypeId × Value → H} {W : World} {r : Reach} {b0 : Nat} {v : Value} {d : DataW H} {ps : List MemPlace}
    (hval : Value.okWide Tryd.prog W r b0 28 v) (h : DataW.Trod enc Tryd.prog W 0 (fun _ => true) true 28 v d ps) : ∃ c : Sh, v = c.agg ∧ c.Ok := by
  obtain ⟨cs, rfl, hcs⟩ := okWide_struct Tryd.underlying28 hval
  obtain ⟨fuel, hf⟩ := h
  obtain ⟨c, hc, hok⟩ := shot_parts _ _ _ hf
  refine ⟨c, ?_, hok⟩
  unfold Sh.agg
  rw [← hc]
  simp [Value.cells]
end Go.Proofs.YtinjlkceplhibaaDoor
