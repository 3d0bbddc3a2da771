/- A list of texts among a law's arguments, opened; how much is said of it. -/
import Derived.Test.YtlndgnlkfhlekaaDoorMacD
import Derived.Test.YtlndgnlkfhlekaaDoorBulk
import Derived.Deep.Strs
import Derived.ChangeMaps5
namespace Go.Proofs.YtlndgnlkfhlekaaDoor
open Go.RowKit Go.ChangeShapes Go.WideShapes Go.Deep

theorem strs_open {H : Type} {enc : TypeId × Value → H} {W : World} {r : Reach} {b0 : Nat} {v : Value} {d : DataW H} {ps : List MemPlace}
    (hval : Value.okWide Tryd.prog W r b0 44 v) (h : DataW.Trod enc Tryd.prog W 0 (fun _ => true) true 44 v d ps) :
    ∃ (sa : Option Addr) (n c : Nat) (S : Nat → ByteArray), v = .slice sa n c ∧ n ≤ c ∧ StrsAt W W.heap.size sa n ((List.range n).map S) ∧
      ((d = .nil ∧ n = 0) ∨ ∃ sp, d = .slice ((List.range n).map fun i => .lit (.string (S i).data.toList)) sp) := by
  obtain ⟨a0, n0, c0, rfl⟩ := okWide_slice Tryd.underlying44 hval
  obtain ⟨fuel, hf⟩ := h
  rcases open_strs Tryd.underlying44 Tryd.underlying9 (by kernel_rfl) hf with ⟨hcs, hx⟩ | ⟨a, len, cap, m, S, hcs, _, hle, _, hm, hx, hcell⟩
  · simp [Value.cells] at hcs
    obtain ⟨rfl, rfl, rfl⟩ := hcs
    exact ⟨none, 0, 0, fun _ => ⟨#[]⟩, rfl, Nat.le_refl _, ⟨rfl, fun h => absurd h (by omega)⟩, Or.inl ⟨by simpa using congrArg Prod.fst hx, rfl⟩⟩
  · simp [Value.cells] at hcs
    obtain ⟨rfl, rfl, rfl⟩ := hcs
    simp only [if_true] at hm
    have hd : d = .slice ((List.range n0).map fun i => .lit (.string (S i).data.toList)) ((List.range (m - n0)).map fun j => .lit (.string (S (n0 + j)).data.toList)) := by simpa using congrArg Prod.fst hx
    refine ⟨some a, n0, c0, S, rfl, hle, ⟨by simp, fun hp => ?_⟩, Or.inr ⟨_, hd⟩⟩
    obtain ⟨b, off, rfl, h3⟩ := row_at (n := m) (V := fun r => .string (S r)) (fun r hr => (hcell r hr).1) (by omega)
    refine ⟨b, off, rfl, World.block_lt_of_cell? _ _ (h3 0 (by omega)), fun i s hi => ?_⟩
    have hin : i < n0 := by have := (List.getElem?_eq_some_iff.1 hi).1; simpa using this
    obtain rfl : S i = s := by simpa [List.getElem?_range hin] using hi
    exact h3 i (by omega)
theorem said_bulk {H : Type} (use : List Int) (S : Nat → ByteArray) (l : List Nat) : (Mac.said use ((l.map S).map num)).length ≤ use.length + 1 + 8 * Rows.uptoBulkAll (l.map fun i => DataW.lit (H := H) (.string (S i).data.toList)) := by
  rw [Mac.said_eq]
  simp only [List.length_append, List.length_cons, List.length_nil]
  have h : ∀ l : List Nat, ((((l.map S).map num).map fun p => Sha.be p.length ++ p).flatten).length ≤ 8 * Rows.uptoBulkAll (l.map fun i => DataW.lit (H := H) (.string (S i).data.toList)) := by
    intro l
    induction l with
    | nil => simp
    | cons x r ih =>
      have h1 : (S x).data.toList.length = (S x).size := rfl
      simp only [List.map_cons, List.flatten_cons, List.length_append, Sha.length_be, length_num, Rows.uptoBulkAll, Rows.uptoBulk, h1]
      omega
  have := h l
  omega
end Go.Proofs.YtlndgnlkfhlekaaDoor
