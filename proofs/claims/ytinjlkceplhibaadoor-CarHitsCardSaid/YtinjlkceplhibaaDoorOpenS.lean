/- A slice of structs among a law's arguments, opened. -/
import Derived.Test.YtinjlkceplhibaaDoorBase3
import Derived.Deep.Slices
import Derived.ChangeArms
namespace Go.Proofs.YtinjlkceplhibaaDoor
open Go.RowKit Go.ChangeShapes Go.WideShapes Go.Deep

theorem rowk_at {w : World} {a : Addr} {n K : Nat} {C : Nat → List Value} (hK : 0 < K) (hl : ∀ i, i < n → (C i).length = K) (h : ∀ i, i < n → ∀ f v, (C i)[f]? = some v → w.cell? ((a.add (i * K)).add f) = some v) (hp : 0 < n) : ∃ b off, a = ⟨b, off, none⟩ ∧ ∀ i, i < n → ∀ f v, (C i)[f]? = some v → w.cell? ⟨b, off + i * K + f, none⟩ = some v := by
  obtain ⟨b, off, spot⟩ := a
  obtain ⟨v, hv⟩ : ∃ v, (C 0)[0]? = some v := ⟨_, List.getElem?_eq_getElem (by rw [hl 0 hp]; exact hK)⟩
  have h0 := h 0 hp 0 v hv
  have hspot : spot = none := by simpa [Addr.add] using World.cell?_spot h0
  subst hspot
  exact ⟨b, off, rfl, fun i hi f v hv => by have := h i hi f v hv; rwa [Go.WideShapes.add_plain, Go.WideShapes.add_plain] at this⟩
/-- a slice of structs: its elements' cells, each as a reading has them -/
theorem structs_open {H : Type} {enc : TypeId × Value → H} {P : Program} {W : World} {r : Reach} {b0 : Nat} {v : Value} {d : DataW H} {ps : List MemPlace} {ts te : TypeId} {K : Nat} (ht : P.underlying ts = some (.slice te)) (hc : P.cellsOf te = K) (hK : 0 < K)
    (hval : Value.okWide P W r b0 ts v) (h : DataW.Trod enc P W 0 (fun _ => true) true ts v d ps) {Good : List Value → DataW H → Prop} (fields : ∀ fuel cs x, DataW.trod enc P W 0 (fun _ => true) true fuel te cs = some x → Good cs x.1) :
    ∃ (sa : Option Addr) (n c : Nat) (C : Nat → List Value) (D : Nat → DataW H), v = .slice sa n c ∧ n ≤ c ∧ c ≤ maxLen ∧ (∀ i, i < n → (C i).length = K ∧ Good (C i) (D i)) ∧ ((d = .nil ∧ n = 0 ∧ c = 0 ∧ sa = none) ∨ ∃ sp, d = .slice ((List.range n).map D) sp) ∧
      (0 < n → ∃ b off, sa = some ⟨b, off, none⟩ ∧ b < W.heap.size ∧ ∀ i, i < n → ∀ f v, (C i)[f]? = some v → W.cell? ⟨b, off + i * K + f, none⟩ = some v) := by
  obtain ⟨a0, n0, c0, rfl⟩ := okWide_slice ht hval
  obtain ⟨fuel, hf⟩ := h
  rcases open_slice ht hf with ⟨hcs, hx⟩ | ⟨a, len, cap, m, k, D, Pl, hcs, _, hle, hmx, hm, hx, hcell⟩
  · simp [Value.cells] at hcs
    obtain ⟨rfl, rfl, rfl⟩ := hcs
    exact ⟨none, 0, 0, fun _ => [], fun _ => .nil, rfl, Nat.le_refl _, Nat.zero_le _, fun i hi => by omega, Or.inl ⟨by simpa using congrArg Prod.fst hx, rfl, rfl, rfl⟩, fun h => absurd h (by omega)⟩
  · simp [Value.cells] at hcs
    obtain ⟨rfl, rfl, rfl⟩ := hcs
    simp only [if_true] at hm
    rw [hc] at hcell
    have each : ∀ i, i < n0 → ∃ cs : List Value, cs.length = K ∧ (∀ f v, cs[f]? = some v → W.cell? ((a.add (i * K)).add f) = some v) ∧ Good cs (D i) := fun i hi => by
      obtain ⟨cs', hc', ht'⟩ := hcell i (by omega)
      obtain ⟨_, hl, hat⟩ := World.cells?_some hc'
      refine ⟨cs', hl, fun f v hv => ?_, fields _ _ _ ht'⟩
      have : f < K := by have := (List.getElem?_eq_some_iff.1 hv).1; omega
      rw [hat f this, hv]
    obtain ⟨C, hC⟩ := choose_lt each
    have hd : d = .slice ((List.range n0).map fun i => D i) ((List.range (m - n0)).map fun j => D (n0 + j)) := by simpa using congrArg Prod.fst hx
    refine ⟨some a, n0, c0, C, D, rfl, hle, hmx, fun i hi => ⟨(hC i hi).1, (hC i hi).2.2⟩, Or.inr ⟨_, hd⟩, fun hp => ?_⟩
    obtain ⟨b, off, rfl, h3⟩ := rowk_at (n := n0) (C := C) hK (fun i hi => (hC i hi).1) (fun i hi => (hC i hi).2.1) hp
    obtain ⟨v, hv⟩ : ∃ v, (C 0)[0]? = some v := ⟨_, List.getElem?_eq_getElem (by rw [(hC 0 hp).1]; exact hK)⟩
    exact ⟨b, off, rfl, World.block_lt_of_cell? _ _ (h3 0 hp 0 v hv), h3⟩
end Go.Proofs.YtinjlkceplhibaaDoor
