/- BoardPlaces: a list of spots among the arguments, opened. -/
import Derived.Test.YtlndgnlkfhlekaaOpenS
import Derived.Test.YtlndgnlkfhlekaaBdO
import Derived.Test.YtlndgnlkfhlekaaBulk
namespace Go.Proofs.Ytlndgnlkfhlekaa
open Go.RowKit Go.ChangeShapes Go.WideShapes Go.ChangeAt

/-- a spot's cells -/
def SpotC (cs : List Value) : Prop := ∃ x y half cx cy : Int, cs = [.int .i64 x, .int .i64 y, .int .i64 half, .int .i64 cx, .int .i64 cy] ∧ Bd.I64 x ∧ Bd.I64 y ∧ Bd.I64 half
theorem vec_parts {H : Type} {enc : TypeId × Value → H} {W : World} {fuel : Nat} {cs : List Value} {x : DataW H × List MemPlace} {B : Nat} {sp : Nat → Bool} {hd : Bool} (h : DataW.trod enc Try.prog W B sp hd fuel 34 cs = some x) :
    ∃ a b : Int, cs = [.int .i64 a, .int .i64 b] ∧ Bd.I64 a ∧ Bd.I64 b := by
  obtain ⟨xs, n, hn, rfl, hl, hxl, hf⟩ := DataW.trod_struct Try.underlying34 h
  have c2 : Try.prog.cellsOf 34 = 2 := by kernel_rfl
  have ci : Try.prog.cellsOf 2 = 1 := by kernel_rfl
  rw [c2] at hl
  match cs, hl with
  | [v0, v1], _ =>
    match xs, hxl with
    | [y0, y1], _ =>
      have f0 : DataW.trod enc Try.prog W B sp hd n 2 (([v0, v1].drop 0).take (Try.prog.cellsOf 2)) = some y0 := hf 0 _ rfl
      have f1 : DataW.trod enc Try.prog W B sp hd n 2 (([v0, v1].drop 1).take (Try.prog.cellsOf 2)) = some y1 := hf 1 _ rfl
      rw [ci] at f0 f1
      obtain ⟨a0, h0, e0, q0⟩ := DataW.trod_int Try.underlying2 f0
      obtain ⟨a1, h1, e1, q1⟩ := DataW.trod_int Try.underlying2 f1
      simp at h0 h1
      exact ⟨a0, a1, by rw [h0, h1], i64_wf q0, i64_wf q1⟩
theorem spot_parts {H : Type} {enc : TypeId × Value → H} {W : World} (fuel : Nat) (cs : List Value) (x : DataW H × List MemPlace) (h : DataW.trod enc Try.prog W 0 (fun _ => true) true fuel 38 cs = some x) : SpotC cs := by
  obtain ⟨xs, n, hn, rfl, hl, hxl, hf⟩ := DataW.trod_struct Try.underlying38 h
  have c5 : Try.prog.cellsOf 38 = 5 := by kernel_rfl
  have cv : Try.prog.cellsOf 34 = 2 := by kernel_rfl
  have c64 : Try.prog.cellsOf 2 = 1 := by kernel_rfl
  have ci : Try.prog.cellsOf 3 = 1 := by kernel_rfl
  rw [c5] at hl
  match cs, hl with
  | [v0, v1, v2, v3, v4], _ =>
    match xs, hxl with
    | [y0, y1, y2, y3], _ =>
      have f0 : DataW.trod enc Try.prog W 0 (fun _ => true) true n 34 (([v0, v1, v2, v3, v4].drop 0).take (Try.prog.cellsOf 34)) = some y0 := hf 0 _ rfl
      have f1 : DataW.trod enc Try.prog W 0 (fun _ => true) true n 2 (([v0, v1, v2, v3, v4].drop 2).take (Try.prog.cellsOf 2)) = some y1 := hf 1 _ rfl
      have f2 : DataW.trod enc Try.prog W 0 (fun _ => true) true n 3 (([v0, v1, v2, v3, v4].drop 3).take (Try.prog.cellsOf 3)) = some y2 := hf 2 _ rfl
      have f3 : DataW.trod enc Try.prog W 0 (fun _ => true) true n 3 (([v0, v1, v2, v3, v4].drop 4).take (Try.prog.cellsOf 3)) = some y3 := hf 3 _ rfl
      rw [cv] at f0
      rw [c64] at f1
      rw [ci] at f2 f3
      obtain ⟨a, b, h0, ha, hb⟩ := vec_parts f0
      obtain ⟨a1, h1, e1, q1⟩ := DataW.trod_int Try.underlying2 f1
      obtain ⟨a2, h2, e2, q2⟩ := DataW.trod_int Try.underlying3 f2
      obtain ⟨a3, h3, e3, q3⟩ := DataW.trod_int Try.underlying3 f3
      simp at h0 h1 h2 h3
      exact ⟨a, b, a1, a2, a3, by rw [h0.1, h0.2, h1, h2, h3], ha, hb, i64_wf q1⟩
/-- a list of spots, as it lies in memory -/
structure Spots (w : World) (B : Nat) (sa : Option Addr) (n : Nat) : Prop where
  spot : 0 < n → ∃ b off, sa = some ⟨b, off, none⟩ ∧ b < B ∧ ∀ i, i < n → ∃ x y half cx cy : Int, Bd.I64 x ∧ Bd.I64 y ∧ Bd.I64 half ∧ w.rangeAt b (off + i * 5) [.int .i64 x, .int .i64 y, .int .i64 half, .int .i64 cx, .int .i64 cy]
theorem Spots.mod {S : Nat → Prop} {w w' : World} {B : Nat} {sa : Option Addr} {n : Nat} (h : Spots w B sa n) (hM : Mod S w w') (hS : ∀ k, k < B → ¬ S k) : Spots w' B sa n :=
  ⟨fun hp => by
    obtain ⟨b, off, h1, h2, h3⟩ := h.spot hp
    refine ⟨b, off, h1, h2, fun i hi => ?_⟩
    obtain ⟨x, y, half, cx, cy, k1, k2, k3, k4⟩ := h3 i hi
    exact ⟨x, y, half, cx, cy, k1, k2, k3, rangeAt_mod k4 hM (hS b h2)⟩⟩
theorem spots_open {H : Type} {enc : TypeId × Value → H} {W : World} {r : Reach} {b0 : Nat} {v : Value} {d : DataW H} {ps : List MemPlace}
    (hval : Value.okWide Try.prog W r b0 36 v) (h : DataW.Trod enc Try.prog W 0 (fun _ => true) true 36 v d ps) :
    ∃ (sa : Option Addr) (n c : Nat), v = .slice sa n c ∧ n ≤ Rows.uptoBulk d ∧ Spots W W.heap.size sa n := by
  obtain ⟨sa, n, c, C, D, rfl, h1, h2, h3, h4, h5⟩ := structs_open (K := 5) Try.underlying36 (by kernel_rfl) (by decide) hval h (Good := fun cs _ => SpotC cs) spot_parts
  have hn : n ≤ Rows.uptoBulk d := by
    rcases h4 with ⟨_, h, _⟩ | ⟨sp, rfl⟩
    · omega
    · have := bulks.slice_le ((List.range n).map D) sp
      simp at this
      omega
  refine ⟨sa, n, c, rfl, hn, ⟨fun hp => ?_⟩⟩
  obtain ⟨b, off, k1, k2, k3⟩ := h5 hp
  refine ⟨b, off, k1, k2, fun i hi => ?_⟩
  obtain ⟨x, y, half, cx, cy, e, g1, g2, g3⟩ := (h3 i hi).2
  refine ⟨x, y, half, cx, cy, g1, g2, g3, fun f v hv => k3 i hi f v ?_⟩
  rw [e]
  exact hv
end Go.Proofs.Ytlndgnlkfhlekaa
