/- A script among a law's arguments, opened. -/
import Derived.Test.YtcmbklofbemclaaPkL
import Derived.Test.YtcmbklofbemclaaBulk
import Derived.Deep.Slices
import Derived.ChangeArms
namespace Go.Proofs.Ytcmbklofbemclaa
open Go.RowKit Go.ChangeShapes Go.WideShapes Go.Deep

instance : Inhabited PkOp := ⟨⟨0, 0, 0, 0, ⟨#[]⟩⟩⟩
/-- what a call reads as -/
def PkOp.data {H : Type} (o : PkOp) : DataW H := .agg [.lit (.int .i64 o.kind), .lit (.int .u64 o.u), .lit (.int .i64 o.i), .lit (.int .i64 o.size), .lit (.string o.s.data.toList)]
theorem op_fields {H : Type} {enc : TypeId × Value → H} {W : World} {fuel : Nat} {cs : List Value} {x : DataW H × List MemPlace} {B : Nat} {sp : Nat → Bool} {hd : Bool} (h : DataW.trod enc Try.prog W B sp hd fuel 32 cs = some x) :
    ∃ o : PkOp, cs = o.cells ∧ x.1 = o.data ∧ o.u < 18446744073709551616 ∧ o.s.size ≤ maxLen ∧ (Lit.int .i64 o.kind).wf = true ∧ (Lit.int .i64 o.i).wf = true ∧ (Lit.int .i64 o.size).wf = true := by
  obtain ⟨xs, n, hn, rfl, hl, hxl, hf⟩ := DataW.trod_struct Try.underlying32 h
  have c5 : Try.prog.cellsOf 32 = 5 := by kernel_rfl
  have ci : Try.prog.cellsOf 3 = 1 := by kernel_rfl
  have c64 : Try.prog.cellsOf 2 = 1 := by kernel_rfl
  have cu : Try.prog.cellsOf 30 = 1 := by kernel_rfl
  have cst : Try.prog.cellsOf 9 = 1 := by kernel_rfl
  rw [c5] at hl
  match cs, hl with
  | [v0, v1, v2, v3, v4], _ =>
    match xs, hxl with
    | [y0, y1, y2, y3, y4], _ =>
      have f0 : DataW.trod enc Try.prog W B sp hd n 3 (([v0, v1, v2, v3, v4].drop 0).take (Try.prog.cellsOf 3)) = some y0 := hf 0 _ rfl
      have f1 : DataW.trod enc Try.prog W B sp hd n 30 (([v0, v1, v2, v3, v4].drop 1).take (Try.prog.cellsOf 30)) = some y1 := hf 1 _ rfl
      have f2 : DataW.trod enc Try.prog W B sp hd n 2 (([v0, v1, v2, v3, v4].drop 2).take (Try.prog.cellsOf 2)) = some y2 := hf 2 _ rfl
      have f3 : DataW.trod enc Try.prog W B sp hd n 3 (([v0, v1, v2, v3, v4].drop 3).take (Try.prog.cellsOf 3)) = some y3 := hf 3 _ rfl
      have f4 : DataW.trod enc Try.prog W B sp hd n 9 (([v0, v1, v2, v3, v4].drop 4).take (Try.prog.cellsOf 9)) = some y4 := hf 4 _ rfl
      rw [ci] at f0 f3
      rw [cu] at f1
      rw [c64] at f2
      rw [cst] at f4
      obtain ⟨a0, h0, e0, q0⟩ := DataW.trod_int Try.underlying3 f0
      obtain ⟨a1, h1, e1, q1⟩ := DataW.trod_int Try.underlying30 f1
      obtain ⟨a2, h2, e2, q2⟩ := DataW.trod_int Try.underlying2 f2
      obtain ⟨a3, h3, e3, q3⟩ := DataW.trod_int Try.underlying3 f3
      obtain ⟨s4, h4, e4, q4⟩ := DataW.trod_string Try.underlying9 f4
      have hu : 0 ≤ a1 ∧ a1 ≤ 18446744073709551615 := by simpa [Lit.wf, IntKind.min, IntKind.max, IntKind.signed, IntKind.bits] using q1
      refine ⟨⟨a0, a1.toNat, a2, a3, s4⟩, ?_, ?_, by show a1.toNat < _; omega, q4, q0, q2, q3⟩
      · have g1 : ((a1.toNat : Nat) : Int) = a1 := by omega
        simp at h0 h1 h2 h3 h4
        simp [PkOp.cells, h0, h1, h2, h3, h4, g1]
      · have g1 : ((a1.toNat : Nat) : Int) = a1 := by omega
        simp [PkOp.data, e0, e1, e2, e3, e4, g1]

theorem row5_at {w : World} {a : Addr} {n : Nat} {O : Nat → PkOp} (h : ∀ i, i < n → ∀ f v, (O i).cells[f]? = some v → w.cell? ((a.add (i * 5)).add f) = some v) (hp : 0 < n) : ∃ b off, a = ⟨b, off, none⟩ ∧ ∀ i, i < n → ∀ f v, (O i).cells[f]? = some v → w.cell? ⟨b, off + i * 5 + f, none⟩ = some v := by
  obtain ⟨b, off, spot⟩ := a
  have h0 := h 0 hp 0 _ rfl
  have hspot : spot = none := by simpa [Addr.add] using World.cell?_spot h0
  subst hspot
  exact ⟨b, off, rfl, fun i hi f v hv => by have := h i hi f v hv; rwa [Go.WideShapes.add_plain, Go.WideShapes.add_plain] at this⟩

/-- a script among the arguments -/
theorem ops_open {H : Type} {enc : TypeId × Value → H} {W : World} {r : Reach} {b0 : Nat} {v : Value} {d : DataW H} {ps : List MemPlace}
    (hval : Value.okWide Try.prog W r b0 22 v) (h : DataW.Trod enc Try.prog W 0 (fun _ => true) true 22 v d ps) :
    ∃ (sa : Option Addr) (n c : Nat) (O : Nat → PkOp), v = .slice sa n c ∧ (n ≤ c ∧ n ≤ 9223372036854775807) ∧ OpsAt W W.heap.size sa n ((List.range n).map O) ∧
      ((d = .nil ∧ n = 0) ∨ ∃ sp, d = .slice ((List.range n).map fun i => (O i).data) sp) ∧
      ∀ i, i < n → (O i).s.size ≤ maxLen ∧ (Lit.int .i64 (O i).kind).wf = true ∧ (Lit.int .i64 (O i).i).wf = true ∧ (Lit.int .i64 (O i).size).wf = true := by
  obtain ⟨a0, n0, c0, rfl⟩ := okWide_slice Try.underlying22 hval
  obtain ⟨fuel, hf⟩ := h
  have c5 : Try.prog.cellsOf 32 = 5 := by kernel_rfl
  rcases open_slice Try.underlying22 hf with ⟨hcs, hx⟩ | ⟨a, len, cap, m, k, D, Pl, hcs, _, hle, hmx, hm, hx, hcell⟩
  · simp [Value.cells] at hcs
    obtain ⟨rfl, rfl, rfl⟩ := hcs
    exact ⟨none, 0, 0, fun _ => default, rfl, ⟨Nat.le_refl _, by omega⟩, ⟨rfl, fun o ho => by simp at ho, fun h => absurd h (by omega)⟩, Or.inl ⟨by simpa using congrArg Prod.fst hx, rfl⟩, fun i hi => by omega⟩
  · simp [Value.cells] at hcs
    obtain ⟨rfl, rfl, rfl⟩ := hcs
    simp only [if_true] at hm
    rw [c5] at hcell
    have each : ∀ i, i < m → ∃ o : PkOp, (∀ f v, o.cells[f]? = some v → W.cell? ((a.add (i * 5)).add f) = some v) ∧ D i = o.data ∧ o.u < 18446744073709551616 ∧ o.s.size ≤ maxLen ∧ (Lit.int .i64 o.kind).wf = true ∧ (Lit.int .i64 o.i).wf = true ∧ (Lit.int .i64 o.size).wf = true := fun i hi => by
      obtain ⟨cs', hc, ht⟩ := hcell i hi
      obtain ⟨o, rfl, h2, h3⟩ := op_fields ht
      obtain ⟨_, _, hat⟩ := World.cells?_some hc
      refine ⟨o, fun f v hv => ?_, h2, h3⟩
      have : f < 5 := by have := (List.getElem?_eq_some_iff.1 hv).1; simpa [PkOp.cells] using this
      rw [hat f this, hv]
    obtain ⟨O, hO⟩ := choose_lt each
    have hd : d = .slice ((List.range n0).map fun i => D i) ((List.range (m - n0)).map fun j => D (n0 + j)) := by simpa using congrArg Prod.fst hx
    rw [List.map_congr_left (fun i hi => (hO i (by have := List.mem_range.1 hi; omega)).2.1)] at hd
    refine ⟨some a, n0, c0, O, rfl, ⟨hle, by unfold maxLen at hmx; omega⟩, ⟨by simp, fun o ho => ?_, fun hp => ?_⟩, Or.inr ⟨_, hd⟩, fun i hi => (hO i (by omega)).2.2.2⟩
    · obtain ⟨i, hi, rfl⟩ := List.mem_map.1 ho
      exact (hO i (by have := List.mem_range.1 hi; omega)).2.2.1
    · obtain ⟨b, off, rfl, h3⟩ := row5_at (n := m) (O := O) (fun i hi => (hO i hi).1) (by omega)
      refine ⟨b, off, rfl, World.block_lt_of_cell? _ _ (h3 0 (by omega) 0 _ rfl), fun i o hi => ?_⟩
      have hin : i < n0 := by have := (List.getElem?_eq_some_iff.1 hi).1; simpa using this
      obtain rfl : O i = o := by simpa [List.getElem?_range hin] using hi
      exact h3 i (by omega)
/-- how much a script lays, by the bound -/
theorem weight_bulk {H : Type} (O : Nat → PkOp) (l : List Nat) : Pk.weight (l.map O) ≤ 8 * Rows.uptoBulkAll (l.map fun i => (O i).data (H := H)) := by
  induction l with
  | nil => simp [Pk.weight]
  | cons x r ih =>
    have h1 : (O x).s.data.toList.length = (O x).s.size := rfl
    have h2 : (O x).s.size + 2 ≤ Rows.uptoBulk ((O x).data (H := H)) := by simp only [PkOp.data, Rows.uptoBulk, Rows.uptoBulkAll, h1]; omega
    simp only [List.map_cons, Pk.weight, Rows.uptoBulkAll]
    omega
end Go.Proofs.Ytcmbklofbemclaa
