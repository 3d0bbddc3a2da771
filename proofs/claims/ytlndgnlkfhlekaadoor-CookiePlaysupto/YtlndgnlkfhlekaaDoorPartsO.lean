/- A list of byte slices among a law's arguments, opened. -/
import Derived.Test.YtlndgnlkfhlekaaDoorListD
import Derived.Test.YtlndgnlkfhlekaaDoorShaL3
import Derived.Deep.Matrix
namespace Go.Proofs.YtlndgnlkfhlekaaDoor
open Go.RowKit Go.ChangeShapes Go.WideShapes Go.Deep

theorem row_at {w : World} {a : Addr} {n : Nat} {V : Nat → Value} (h : ∀ r, r < n → w.cell? (a.add r) = some (V r)) (hp : 0 < n) : ∃ b off, a = ⟨b, off, none⟩ ∧ ∀ j, j < n → w.cell? ⟨b, off + j, none⟩ = some (V j) := by
  obtain ⟨b, off, spot⟩ := a
  have hspot : spot = none := by simpa [Addr.add] using World.cell?_spot (h 0 hp)
  subst hspot
  exact ⟨b, off, rfl, fun j hj => by rw [← Go.WideShapes.add_plain]; exact h j hj⟩

/-- a list of byte slices among the arguments, opened -/
theorem parts_open {H : Type} {enc : TypeId × Value → H} {W : World} {r : Reach} {b0 : Nat} {v : Value} {d : DataW H} {ps : List MemPlace}
    (hval : Value.okWide Tryd.prog W r b0 71 v) (hs : ∀ es sp es' sp', d = .slice es sp → DataW.slice es' sp' ∈ es → es'.length ≤ 140737488355328) (h : DataW.Trod enc Tryd.prog W 0 (fun _ => true) true 71 v d ps) :
    ∃ (sa : Option Addr) (n c : Nat) (q : Nat → List Int) (D : Nat → DataW H), v = .slice sa n c ∧ n ≤ c ∧ PartsAt W W.heap.size sa n ((List.range n).map q) ∧
      ((d = .nil ∧ n = 0) ∨ ∃ sp, d = .slice ((List.range n).map D) sp) ∧ ∀ i, i < n → (D i = .nil ∧ q i = []) ∨ ∃ sp, D i = .slice (lits .u8 (q i)) sp := by
  obtain ⟨a0, n0, c0, rfl⟩ := okWide_slice Tryd.underlying71 hval
  obtain ⟨fuel, hf⟩ := h
  rcases open_int_rows Tryd.underlying71 Tryd.underlying63 Tryd.underlying5 (by kernel_rfl) (by kernel_rfl) hf with ⟨hcs, hx⟩ | ⟨a, len, cap, A, L, C, Z, hcs, _, hle, _, hx, hcell⟩
  · simp [Value.cells] at hcs
    obtain ⟨rfl, rfl, rfl⟩ := hcs
    exact ⟨none, 0, 0, fun _ => [], fun _ => .nil, rfl, Nat.le_refl _, ⟨rfl, fun h => absurd h (by omega)⟩, Or.inl ⟨by simpa using congrArg Prod.fst hx, rfl⟩, fun i hi => by omega⟩
  · simp [Value.cells] at hcs
    obtain ⟨rfl, rfl, rfl⟩ := hcs
    have hd : d = .slice ((List.range n0).map fun r => intRow .u8 (A r) (L r) (Z r)) ((List.range (c0 - n0)).map fun j => intRow .u8 (A (n0 + j)) (L (n0 + j)) (Z (n0 + j))) := by simpa using congrArg Prod.fst hx
    refine ⟨some a, n0, c0, fun i => (Z i).take (L i), fun i => intRow .u8 (A i) (L i) (Z i), rfl, hle, ⟨by simp, fun hp => ?_⟩, Or.inr ⟨_, hd⟩, fun i hi => ?_⟩
    · obtain ⟨b, off, rfl, h3⟩ := row_at (n := c0) (V := fun r => .slice (A r) (L r) (C r)) (fun r hr => (hcell r hr).1) (by omega)
      refine ⟨b, off, rfl, World.block_lt_of_cell? _ _ (h3 0 (by omega)), fun i p hi => ?_⟩
      have hin : i < n0 := by have := (List.getElem?_eq_some_iff.1 hi).1; simpa using this
      obtain rfl : (Z i).take (L i) = p := by simpa [List.getElem?_range hin] using hi
      obtain ⟨_, r1, r2, r3, r4, r5, r6⟩ := hcell i (by omega)
      have hl : ((Z i).take (L i)).length = L i := by rw [List.length_take]; omega
      refine ⟨_, h3 i (by omega), ?_, ?_, A i, C i, by rw [hl], by omega, r5, fun hp => ?_⟩
      · intro x hx
        have := bounds_u8 (r4 x (List.mem_of_mem_take hx)); omega
      · cases hA : A i with
        | none => have := r5 hA; omega
        | some a' =>
          have := hs _ _ (lits .u8 ((Z i).take (L i))) (lits .u8 ((Z i).drop (L i))) hd (by
            refine List.mem_map.2 ⟨i, List.mem_range.2 hin, ?_⟩
            show intRow .u8 (A i) (L i) (Z i) = _
            rw [hA]; rfl)
          simpa [lits] using this
      · cases hA : A i with
        | none => have := r5 hA; omega
        | some a' =>
          obtain ⟨b', off', rfl, h4⟩ := row_at (n := C i) (V := fun c => .int .u8 ((Z i).getD c 0)) (r6 a' hA).2 (by omega)
          refine ⟨b', off', rfl, World.block_lt_of_cell? _ _ (h4 0 (by omega)), fun j hj => ?_⟩
          rw [h4 j (by omega), Sha.g, List.getD_eq_getElem?_getD, List.getElem?_take, if_pos (by omega)]
    · obtain ⟨_, r1, r2, r3, r4, r5, r6⟩ := hcell i (by omega)
      cases hA : A i with
      | none =>
        left
        refine ⟨by simp only [hA]; rfl, ?_⟩
        have := r5 hA
        exact List.eq_nil_of_length_eq_zero (by rw [List.length_take]; omega)
      | some a' => right; exact ⟨_, by simp only [hA]; rfl⟩
end Go.Proofs.YtlndgnlkfhlekaaDoor
