/- joustlaw10's scripts among the arguments, opened. -/
import Derived.Test.YtlndgnlkfhlekaaDoorCkO
import Derived.Test.YtlndgnlkfhlekaaDoorCkI
import Derived.Deep.Slices
import Derived.ChangeArms
namespace Go.Proofs.YtlndgnlkfhlekaaDoor
open Go.RowKit Go.ChangeShapes Go.WideShapes Go.Deep

structure CkOp where
  kind : Int
  which : Int
  a : ByteArray
  b : ByteArray
  c : ByteArray
  ep : Int
  own : Bool
  turned : Int
def CkOp.cells (o : CkOp) : List Value := [.int .i64 o.kind, .int .i64 o.which, .string o.a, .string o.b, .string o.c, .int .u64 o.ep, .bool o.own, .int .i64 o.turned]
instance : Inhabited CkOp := ⟨⟨0, 0, ⟨#[]⟩, ⟨#[]⟩, ⟨#[]⟩, 0, false, 0⟩⟩
/-- what a call of a script is known to be -/
def CkOp.Ok (o : CkOp) : Prop := (0 ≤ o.ep ∧ o.ep < 18446744073709551616) ∧ (-9223372036854775808 ≤ o.which ∧ o.which ≤ 9223372036854775807) ∧ (-9223372036854775808 ≤ o.turned ∧ o.turned ≤ 9223372036854775807)
def CkOpsAt (w : World) (B : Nat) (sa : Option Addr) (n : Nat) (ops : List CkOp) : Prop :=
  ops.length = n ∧ (∀ o ∈ ops, o.Ok) ∧ (0 < n → ∃ lb lo, sa = some ⟨lb, lo, none⟩ ∧ lb < B ∧ ∀ (i : Nat) o, ops[i]? = some o → ∀ f v, o.cells[f]? = some v → w.cell? ⟨lb, lo + i * 8 + f, none⟩ = some v)
theorem CkOpsAt.mod {S : Nat → Prop} {w w' : World} {B : Nat} {sa : Option Addr} {n : Nat} {ops : List CkOp} (h : CkOpsAt w B sa n ops) (hM : Mod S w w') (hS : ∀ k, k < B → ¬ S k) : CkOpsAt w' B sa n ops := by
  refine ⟨h.1, h.2.1, fun h0 => ?_⟩
  obtain ⟨lb, lo, e1, e2, e3⟩ := h.2.2 h0
  exact ⟨lb, lo, e1, e2, fun i s hi f v hv => hM.cellS (e3 i s hi f v hv) (hS lb e2)⟩
/-- what a call reads as -/
def CkOp.data {H : Type} (o : CkOp) : DataW H := .agg [.lit (.int .i64 o.kind), .lit (.int .i64 o.which), .lit (.string o.a.data.toList), .lit (.string o.b.data.toList), .lit (.string o.c.data.toList), .lit (.int .u64 o.ep), .lit (.bool o.own), .lit (.int .i64 o.turned)]
theorem ckop_fields {H : Type} {enc : TypeId × Value → H} {W : World} {fuel : Nat} {cs : List Value} {x : DataW H × List MemPlace} {B : Nat} {sp : Nat → Bool} {hd : Bool} (h : DataW.trod enc Tryd.prog W B sp hd fuel 33 cs = some x) :
    ∃ o : CkOp, cs = o.cells ∧ x.1 = o.data ∧ o.Ok := by
  obtain ⟨xs, n, hn, rfl, hl, hxl, hf⟩ := DataW.trod_struct Tryd.underlying33 h
  have c8 : Tryd.prog.cellsOf 33 = 8 := by kernel_rfl
  have ci : Tryd.prog.cellsOf 3 = 1 := by kernel_rfl
  have cu : Tryd.prog.cellsOf 31 = 1 := by kernel_rfl
  have cb : Tryd.prog.cellsOf 4 = 1 := by kernel_rfl
  have cst : Tryd.prog.cellsOf 9 = 1 := by kernel_rfl
  rw [c8] at hl
  match cs, hl with
  | [v0, v1, v2, v3, v4, v5, v6, v7], _ =>
    match xs, hxl with
    | [y0, y1, y2, y3, y4, y5, y6, y7], _ =>
      have f0 : DataW.trod enc Tryd.prog W B sp hd n 3 (([v0, v1, v2, v3, v4, v5, v6, v7].drop 0).take (Tryd.prog.cellsOf 3)) = some y0 := hf 0 _ rfl
      have f1 : DataW.trod enc Tryd.prog W B sp hd n 3 (([v0, v1, v2, v3, v4, v5, v6, v7].drop 1).take (Tryd.prog.cellsOf 3)) = some y1 := hf 1 _ rfl
      have f2 : DataW.trod enc Tryd.prog W B sp hd n 9 (([v0, v1, v2, v3, v4, v5, v6, v7].drop 2).take (Tryd.prog.cellsOf 9)) = some y2 := hf 2 _ rfl
      have f3 : DataW.trod enc Tryd.prog W B sp hd n 9 (([v0, v1, v2, v3, v4, v5, v6, v7].drop 3).take (Tryd.prog.cellsOf 9)) = some y3 := hf 3 _ rfl
      have f4 : DataW.trod enc Tryd.prog W B sp hd n 9 (([v0, v1, v2, v3, v4, v5, v6, v7].drop 4).take (Tryd.prog.cellsOf 9)) = some y4 := hf 4 _ rfl
      have f5 : DataW.trod enc Tryd.prog W B sp hd n 31 (([v0, v1, v2, v3, v4, v5, v6, v7].drop 5).take (Tryd.prog.cellsOf 31)) = some y5 := hf 5 _ rfl
      have f6 : DataW.trod enc Tryd.prog W B sp hd n 4 (([v0, v1, v2, v3, v4, v5, v6, v7].drop 6).take (Tryd.prog.cellsOf 4)) = some y6 := hf 6 _ rfl
      have f7 : DataW.trod enc Tryd.prog W B sp hd n 3 (([v0, v1, v2, v3, v4, v5, v6, v7].drop 7).take (Tryd.prog.cellsOf 3)) = some y7 := hf 7 _ rfl
      rw [ci] at f0 f1 f7
      rw [cu] at f5
      rw [cb] at f6
      rw [cst] at f2 f3 f4
      obtain ⟨a0, h0, e0, q0⟩ := DataW.trod_int Tryd.underlying3 f0
      obtain ⟨a1, h1, e1, q1⟩ := DataW.trod_int Tryd.underlying3 f1
      obtain ⟨s2, h2, e2, q2⟩ := DataW.trod_string Tryd.underlying9 f2
      obtain ⟨s3, h3, e3, q3⟩ := DataW.trod_string Tryd.underlying9 f3
      obtain ⟨s4, h4, e4, q4⟩ := DataW.trod_string Tryd.underlying9 f4
      obtain ⟨a5, h5, e5, q5⟩ := DataW.trod_int Tryd.underlying31 f5
      obtain ⟨b6, h6, e6⟩ := DataW.trod_bool Tryd.underlying4 f6
      obtain ⟨a7, h7, e7, q7⟩ := DataW.trod_int Tryd.underlying3 f7
      have g5 : 0 ≤ a5 ∧ a5 ≤ 18446744073709551615 := by simpa [Lit.wf, IntKind.min, IntKind.max, IntKind.signed, IntKind.bits] using q5
      have g1 : -9223372036854775808 ≤ a1 ∧ a1 ≤ 9223372036854775807 := by simpa [Lit.wf, IntKind.min, IntKind.max, IntKind.signed, IntKind.bits] using q1
      have g7 : -9223372036854775808 ≤ a7 ∧ a7 ≤ 9223372036854775807 := by simpa [Lit.wf, IntKind.min, IntKind.max, IntKind.signed, IntKind.bits] using q7
      refine ⟨⟨a0, a1, s2, s3, s4, a5, b6, a7⟩, ?_, ?_, ⟨by show 0 ≤ a5 ∧ a5 < _; omega, g1, g7⟩⟩
      · simp at h0 h1 h2 h3 h4 h5 h6 h7
        simp [CkOp.cells, h0, h1, h2, h3, h4, h5, h6, h7]
      · simp [CkOp.data, e0, e1, e2, e3, e4, e5, e6, e7]

theorem row8_at {w : World} {a : Addr} {n : Nat} {O : Nat → CkOp} (h : ∀ i, i < n → ∀ f v, (O i).cells[f]? = some v → w.cell? ((a.add (i * 8)).add f) = some v) (hp : 0 < n) : ∃ b off, a = ⟨b, off, none⟩ ∧ ∀ i, i < n → ∀ f v, (O i).cells[f]? = some v → w.cell? ⟨b, off + i * 8 + f, none⟩ = some v := by
  obtain ⟨b, off, spot⟩ := a
  have h0 := h 0 hp 0 _ rfl
  have hspot : spot = none := by simpa [Addr.add] using World.cell?_spot h0
  subst hspot
  exact ⟨b, off, rfl, fun i hi f v hv => by have := h i hi f v hv; rwa [Go.WideShapes.add_plain, Go.WideShapes.add_plain] at this⟩

/-- a script among the arguments -/
theorem ckops_open {H : Type} {enc : TypeId × Value → H} {W : World} {r : Reach} {b0 : Nat} {v : Value} {d : DataW H} {ps : List MemPlace}
    (hval : Value.okWide Tryd.prog W r b0 22 v) (h : DataW.Trod enc Tryd.prog W 0 (fun _ => true) true 22 v d ps) :
    ∃ (sa : Option Addr) (n c : Nat) (O : Nat → CkOp), v = .slice sa n c ∧ (n ≤ c ∧ n ≤ 9223372036854775807) ∧ CkOpsAt W W.heap.size sa n ((List.range n).map O) ∧
      ((d = .nil ∧ n = 0) ∨ ∃ sp, d = .slice ((List.range n).map fun i => (O i).data) sp) := by
  obtain ⟨a0, n0, c0, rfl⟩ := okWide_slice Tryd.underlying22 hval
  obtain ⟨fuel, hf⟩ := h
  have c8 : Tryd.prog.cellsOf 33 = 8 := by kernel_rfl
  rcases open_slice Tryd.underlying22 hf with ⟨hcs, hx⟩ | ⟨a, len, cap, m, k, D, Pl, hcs, _, hle, hmx, hm, hx, hcell⟩
  · simp [Value.cells] at hcs
    obtain ⟨rfl, rfl, rfl⟩ := hcs
    exact ⟨none, 0, 0, fun _ => default, rfl, ⟨Nat.le_refl _, by omega⟩, ⟨rfl, fun o ho => by simp at ho, fun h => absurd h (by omega)⟩, Or.inl ⟨by simpa using congrArg Prod.fst hx, rfl⟩⟩
  · simp [Value.cells] at hcs
    obtain ⟨rfl, rfl, rfl⟩ := hcs
    simp only [if_true] at hm
    rw [c8] at hcell
    have each : ∀ i, i < m → ∃ o : CkOp, (∀ f v, o.cells[f]? = some v → W.cell? ((a.add (i * 8)).add f) = some v) ∧ D i = o.data ∧ o.Ok := fun i hi => by
      obtain ⟨cs', hc, ht⟩ := hcell i hi
      obtain ⟨o, rfl, h2, h3⟩ := ckop_fields ht
      obtain ⟨_, _, hat⟩ := World.cells?_some hc
      refine ⟨o, fun f v hv => ?_, h2, h3⟩
      have : f < 8 := by have := (List.getElem?_eq_some_iff.1 hv).1; simpa [CkOp.cells] using this
      rw [hat f this, hv]
    obtain ⟨O, hO⟩ := choose_lt each
    have hd : d = .slice ((List.range n0).map fun i => D i) ((List.range (m - n0)).map fun j => D (n0 + j)) := by simpa using congrArg Prod.fst hx
    rw [List.map_congr_left (fun i hi => (hO i (by have := List.mem_range.1 hi; omega)).2.1)] at hd
    refine ⟨some a, n0, c0, O, rfl, ⟨hle, by unfold maxLen at hmx; omega⟩, ⟨by simp, fun o ho => ?_, fun hp => ?_⟩, Or.inr ⟨_, hd⟩⟩
    · obtain ⟨i, hi, rfl⟩ := List.mem_map.1 ho
      exact (hO i (by have := List.mem_range.1 hi; omega)).2.2
    · obtain ⟨b, off, rfl, h3⟩ := row8_at (n := m) (O := O) (fun i hi => (hO i hi).1) (by omega)
      refine ⟨b, off, rfl, World.block_lt_of_cell? _ _ (h3 0 (by omega) 0 _ rfl), fun i o hi => ?_⟩
      have hin : i < n0 := by have := (List.getElem?_eq_some_iff.1 hi).1; simpa using this
      obtain rfl : O i = o := by simpa [List.getElem?_range hin] using hi
      exact h3 i (by omega)
/-- each text of a script is small, by the bound -/
theorem ckops_bulk {H : Type} (O : Nat → CkOp) (l : List Nat) (i : Nat) (hi : i ∈ l) : (O i).a.size + (O i).b.size + (O i).c.size ≤ Rows.uptoBulkAll (l.map fun i => (O i).data (H := H)) := by
  induction l with
  | nil => cases hi
  | cons x r ih =>
    have h1 : (O x).a.data.toList.length = (O x).a.size := rfl
    have h2 : (O x).b.data.toList.length = (O x).b.size := rfl
    have h3 : (O x).c.data.toList.length = (O x).c.size := rfl
    have h4 : (O x).a.size + (O x).b.size + (O x).c.size ≤ Rows.uptoBulk ((O x).data (H := H)) := by simp only [CkOp.data, Rows.uptoBulk, Rows.uptoBulkAll, h1, h2, h3]; omega
    simp only [List.map_cons, Rows.uptoBulkAll]
    rcases List.mem_cons.1 hi with rfl | h
    · omega
    · have := ih h; omega
/-- each text of a list is small, by the bound -/
theorem strs_bulk {H : Type} (S : Nat → ByteArray) (l : List Nat) (i : Nat) (hi : i ∈ l) : (S i).size ≤ Rows.uptoBulkAll (l.map fun i => DataW.lit (H := H) (.string (S i).data.toList)) := by
  induction l with
  | nil => cases hi
  | cons x r ih =>
    have h1 : (S x).data.toList.length = (S x).size := rfl
    simp only [List.map_cons, Rows.uptoBulkAll, Rows.uptoBulk, h1]
    rcases List.mem_cons.1 hi with rfl | h
    · omega
    · have := ih h; omega
end Go.Proofs.YtlndgnlkfhlekaaDoor
