/- kept: the walk. -/
import Derived.Test.YtlndgnlkfhlekaaDoorListB
namespace Go.Proofs.YtlndgnlkfhlekaaDoor
open Go.RowKit

theorem strOf_behind : strOf (nums [98, 101, 104, 105, 110, 100]) = ⟨#[98, 101, 104, 105, 110, 100]⟩ := by decide +kernel
theorem strOf_it : strOf (nums [105, 116]) = ⟨#[105, 116]⟩ := by decide +kernel

/-- what lend has given, in whatever world it still stands -/
structure LentAll (w : World) (base M n : Nat) (vs : List Value) (ps : List (List Int)) : Prop where
  len : vs.length = n
  row : ∃ b1 b2 rest, Blk w M (vs ++ (b1 :: b2 :: rest)) 63 ∧ BytesAt w w.heap.size b1 (nums [98, 101, 104, 105, 110, 100]) ∧ BytesAt w w.heap.size b2 (nums [105, 116])
  each : ∀ (i : Nat) v p, vs[i]? = some v → ps[i]? = some p → Lent w base v p i
theorem LentAll.none {w w' : World} {base M n : Nat} {vs : List Value} {ps : List (List Int)} (h : LentAll w base M n vs ps) (hM : Mod none_ w w') : LentAll w' base M n vs ps := by
  obtain ⟨b1, b2, rest, h1, h2, h3⟩ := h.row
  exact ⟨h.len, ⟨b1, b2, rest, hM.blk h1 (fun h => h), (h2.mod hM (fun _ _ h => h)).mono hM.size, (h3.mod hM (fun _ _ h => h)).mono hM.size⟩, fun i v p hv hp => (h.each i v p hv hp).mod hM (fun _ _ _ h => h)⟩
/-- a copy reads as its text -/
theorem Lent.bytes {w : World} {base : Nat} {v : Value} {p : List Int} {i : Nat} (h : Lent w base v p i) (hp : Sha.bytes p) (hl : p.length ≤ 140737488355328) : BytesAt w w.heap.size v p := by
  obtain ⟨g, cap, rest, rfl, h2, h3, h4⟩ := h
  refine ⟨hp, hl, _, _, rfl, by omega, (fun h => by cases h), fun _ => ⟨g, 0, rfl, h3.lt, fun j hj => h3.cell ?_⟩⟩
  have hj2 : j < (Sha.bcells (p ++ Sha.marks i)).length := by simp [Sha.bcells]; omega
  rw [Nat.zero_add, List.getElem?_append_left hj2, Sha.bcells, List.getElem?_map, List.getElem?_append_left hj, Sha.g, List.getElem?_eq_getElem hj]; rfl

end Go.Proofs.YtlndgnlkfhlekaaDoor
