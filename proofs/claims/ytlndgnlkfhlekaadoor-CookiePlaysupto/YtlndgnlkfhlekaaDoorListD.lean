/- lend: the walk. -/
import Derived.Test.YtlndgnlkfhlekaaDoorListA
import Derived.Test.YtlndgnlkfhlekaaDoorShaE
namespace Go.Proofs.YtlndgnlkfhlekaaDoor
open Go.RowKit

end Go.Proofs.YtlndgnlkfhlekaaDoor
namespace Go.Proofs.YtlndgnlkfhlekaaDoor
open Go.RowKit

theorem strOf_behind : strOf (nums [98, 101, 104, 105, 110, 100]) = ⟨#[98, 101, 104, 105, 110, 100]⟩ := by decide +kernel
theorem strOf_it : strOf (nums [105, 116]) = ⟨#[105, 116]⟩ := by decide +kernel

/-- what lend has given, in whatever world it still stands -/
structure LentAll (w : World) (base M n : Nat) (vs : List Value) (ps : List (List Int)) : Prop where
  len : vs.length = n
  row : ∃ b1 b2 rest, Blk w M (vs ++ (b1 :: b2 :: rest)) 63 ∧ BytesAt w w.heap.size b1 (nums [98, 101, 104, 105, 110, 100]) ∧ BytesAt w w.heap.size b2 (nums [105, 116])
  each : ∀ (i : Nat) v p, vs[i]? = some v → ps[i]? = some p → Lent w base v p i
theorem LentAll.none {w w' : World} {base M n : Nat} {vs : List Value} {ps : List (List Int)} (h : LentAll w base M n vs ps) (hM : Mod none_ w w') : LentAll w' base M n vs ps := by
  obtain ⟨b1, b2, rest, h1, h2, h3⟩ := h.row
  exact ⟨h.len, ⟨b1, b2, rest, hM.blk h1 (fun h => h), (h2.mod hM (fun _ _ h => h)).mono hM.size, (h3.mod hM (fun _ _ h => h)).mono hM.size⟩, fun i v p hv hp => (h.each i v p hv hp).mod hM (fun _ _ _ h => h)⟩
/-- a copy reads as its text -/
theorem Lent.bytes {w : World} {base : Nat} {v : Value} {p : List Int} {i : Nat} (h : Lent w base v p i) (hp : Sha.bytes p) (hl : p.length ≤ 140737488355328) : BytesAt w w.heap.size v p := by
  obtain ⟨g, cap, rest, rfl, h2, h3, h4⟩ := h
  refine ⟨hp, hl, _, _, rfl, by omega, (fun h => by cases h), fun _ => ⟨g, 0, rfl, h3.lt, fun j hj => h3.cell ?_⟩⟩
  have hj2 : j < (Sha.bcells (p ++ Sha.marks i)).length := by simp [Sha.bcells]; omega
  rw [Nat.zero_add, List.getElem?_append_left hj2, Sha.bcells, List.getElem?_map, List.getElem?_append_left hj, Sha.g, List.getElem?_eq_getElem hj]; rfl

end Go.Proofs.YtlndgnlkfhlekaaDoor
namespace Go.Proofs.YtlndgnlkfhlekaaDoor
open Go.RowKit

end Go.Proofs.YtlndgnlkfhlekaaDoor
namespace Go.Proofs.YtlndgnlkfhlekaaDoor
open Go.RowKit

theorem PartsAt.mod {S : Nat → Prop} {w w' : World} {B : Nat} {sa : Option Addr} {n : Nat} {ps : List (List Int)} (h : PartsAt w B sa n ps) (hM : Mod S w w') (hS : ∀ k, k < B → ¬ S k) : PartsAt w' B sa n ps := by
  refine ⟨h.1, fun h0 => ?_⟩
  obtain ⟨lb, lo, e1, e2, e3⟩ := h.2 h0
  refine ⟨lb, lo, e1, e2, fun i p hi => ?_⟩
  obtain ⟨v, e4, e5⟩ := e3 i p hi
  exact ⟨v, hM.cellS e4 (hS lb e2), e5.mod hM hS⟩
theorem PartsAt.mono {w : World} {B B' : Nat} {sa : Option Addr} {n : Nat} {ps : List (List Int)} (h : PartsAt w B sa n ps) (hB : B ≤ B') : PartsAt w B' sa n ps := by
  refine ⟨h.1, fun h0 => ?_⟩
  obtain ⟨lb, lo, e1, e2, e3⟩ := h.2 h0
  refine ⟨lb, lo, e1, Nat.lt_of_lt_of_le e2 hB, fun i p hi => ?_⟩
  obtain ⟨v, e4, e5⟩ := e3 i p hi
  exact ⟨v, e4, e5.mono hB⟩
theorem PartsAt.take {w : World} {B : Nat} {sa sb : Option Addr} {n m : Nat} {ps : List (List Int)} (h : PartsAt w B sa n ps) (hm : m ≤ n) (hs : ∀ b o, sa = some ⟨b, o, none⟩ → sb = some ⟨b, o, none⟩) : PartsAt w B sb m (ps.take m) := by
  refine ⟨by rw [List.length_take, h.1]; omega, fun h0 => ?_⟩
  obtain ⟨lb, lo, e1, e2, e3⟩ := h.2 (by omega)
  refine ⟨lb, lo, hs _ _ e1, e2, fun i p hi => ?_⟩
  rw [List.getElem?_take] at hi
  split at hi
  · exact e3 i p hi
  · cases hi
theorem LentAll.modW {S : Nat → Prop} {w w' : World} {base M n : Nat} {vs : List Value} {ps : List (List Int)} (h : LentAll w base M n vs ps) (hM : Mod S w w') (hS : ∀ k, k < w.heap.size → ¬ S k) : LentAll w' base M n vs ps := by
  obtain ⟨b1, b2, rest, h1, h2, h3⟩ := h.row
  exact ⟨h.len, ⟨b1, b2, rest, hM.blk h1 (hS _ h1.lt), (h2.mod hM hS).mono hM.size, (h3.mod hM hS).mono hM.size⟩, fun i v p hv hp => (h.each i v p hv hp).mod hM (fun g _ hg => hS g hg.lt)⟩
theorem LentAll.parts {w : World} {base M n : Nat} {vs : List Value} {ps : List (List Int)} (h : LentAll w base M n vs ps) (hl : ps.length = n) (hb : ∀ p ∈ ps, Sha.bytes p ∧ p.length ≤ 140737488355328) : PartsAt w w.heap.size (some ⟨M, 0, Option.none⟩) n ps := by
  obtain ⟨b1, b2, rest, h1, h2, h3⟩ := h.row
  refine ⟨hl, fun _ => ⟨M, 0, rfl, h1.lt, fun i p hi => ?_⟩⟩
  have hil : i < ps.length := (List.getElem?_eq_some_iff.1 hi).1
  have hiv : i < vs.length := by rw [h.len]; omega
  have hp := hb p (List.mem_of_getElem? hi)
  refine ⟨vs[i], h1.cell (by rw [Nat.zero_add, List.getElem?_append_left hiv, List.getElem?_eq_getElem hiv]), (h.each i vs[i] p (List.getElem?_eq_getElem hiv) hi).bytes hp.1 hp.2⟩
theorem flatten_take_succ {α : Type} (ps : List (List α)) (k : Nat) (p : List α) (h : ps[k]? = some p) : (ps.take (k + 1)).flatten = (ps.take k).flatten ++ p := by
  rw [List.take_add_one, h, List.flatten_append]; simp
theorem flatten_take_le {α : Type} (ps : List (List α)) (k : Nat) : (ps.take k).flatten.length ≤ ps.flatten.length := by
  have := congrArg (fun l => l.flatten.length) (List.take_append_drop k ps)
  simp only [List.flatten_append, List.length_append] at this
  omega
theorem flatten_mem_le {α : Type} {ps : List (List α)} {p : List α} (h : p ∈ ps) : p.length ≤ ps.flatten.length := by
  obtain ⟨a, b, rfl⟩ := List.append_of_mem h
  simp
  omega
theorem sha_same2 (p q : List Int) (h : p = q) (w : World) : (Op.equalIn 10000 36 (.agg (Sha.bcells (Sha.sha p)).toArray) (.agg (Sha.bcells (Sha.sha q)).toArray)).run Tryd.prog w = .ok true w := by
  subst h; exact sha_same p w

end Go.Proofs.YtlndgnlkfhlekaaDoor
