/- said: the walk. -/
import Derived.Test.YtlndgnlkfhlekaaDoorMacD
namespace Go.Proofs.YtlndgnlkfhlekaaDoor
open Go.RowKit

theorem str_one (w : World) (x : Int) (hx : 0 ≤ x ∧ x ≤ 255) : (convert 63 9 (.slice (some ⟨w.heap.size, 0, none⟩) 1 1)).run Tryd.prog (w.alloc (.cells #[.int .u8 x] 5)) = .ok (.string (strOf [x])) (w.alloc (.cells #[.int .u8 x] 5)) :=
  str_any _ _ _ _ (bytes_one1 w x 5 hx)
theorem Mac.said_room (use : List Int) (ps : List (List Int)) : ps.length + use.length + 1 ≤ (said use ps).length := by
  have h2 : ∀ l : List (List Int), l.length ≤ (l.map fun p => Sha.be p.length ++ p).flatten.length := by
    intro l
    induction l with
    | nil => simp
    | cons p l ih => simp only [List.map_cons, List.flatten_cons, List.length_append, List.length_cons, Sha.length_be]; omega
  have h3 := h2 ps
  rw [said_eq]
  simp only [List.length_append, List.length_cons, List.length_nil]
  omega
theorem bytes_nums_map (ss : List ByteArray) : ∀ p ∈ ss.map num, Sha.bytes p := fun p hp => by obtain ⟨s, _, rfl⟩ := List.mem_map.1 hp; exact bytes_num s

end Go.Proofs.YtlndgnlkfhlekaaDoor
namespace Go.Proofs.YtlndgnlkfhlekaaDoor
open Go.RowKit

namespace Mac
theorem be_inj (L M : Nat) (hL : L < 18446744073709551616) (hM : M < 18446744073709551616) (h : Sha.be (L : Int) = Sha.be (M : Int)) : L = M := by
  simp only [Sha.be, List.cons.injEq, and_true] at h
  omega
theorem enc_inj : ∀ (a b : List (List Int)), (∀ p ∈ a, p.length < 18446744073709551616) → (∀ p ∈ b, p.length < 18446744073709551616) →
    (a.map fun p => Sha.be p.length ++ p).flatten = (b.map fun p => Sha.be p.length ++ p).flatten → a = b
  | [], [], _, _, _ => rfl
  | [], q :: qs, _, _, h => by have := congrArg List.length h; simp [Sha.length_be] at this; omega
  | p :: ps, [], _, _, h => by have := congrArg List.length h; simp [Sha.length_be] at this
  | p :: ps, q :: qs, ha, hb, h => by
    simp only [List.map_cons, List.flatten_cons, List.append_assoc] at h
    have h1 := List.append_inj h (by rw [Sha.length_be, Sha.length_be])
    have h2 := be_inj _ _ (ha p (List.mem_cons_self ..)) (hb q (List.mem_cons_self ..)) h1.1
    have h3 := List.append_inj h1.2 h2
    rw [h3.1, enc_inj ps qs (fun x hx => ha x (List.mem_cons_of_mem _ hx)) (fun x hx => hb x (List.mem_cons_of_mem _ hx)) h3.2]
theorem said_inj (use : List Int) (a b : List (List Int)) (ha : ∀ p ∈ a, p.length < 18446744073709551616) (hb : ∀ p ∈ b, p.length < 18446744073709551616) (h : said use a = said use b) : a = b := by
  rw [said_eq, said_eq] at h
  exact enc_inj a b ha hb (List.append_cancel_left h)
theorem said_part (use : List Int) (ps : List (List Int)) : ∀ p ∈ ps, p.length ≤ (said use ps).length := by
  intro p hp
  have h1 : (Sha.be p.length ++ p) ∈ ps.map fun p => Sha.be p.length ++ p := List.mem_map.2 ⟨p, hp, rfl⟩
  have h2 := flatten_mem_le h1
  rw [said_eq, List.length_append]
  rw [List.length_append] at h2
  omega
end Mac
theorem map_num_inj : ∀ (a b : List ByteArray), a.map num = b.map num → a = b
  | [], [], _ => rfl
  | [], _ :: _, h => by simp at h
  | _ :: _, [], h => by simp at h
  | x :: a, y :: b, h => by
    simp only [List.map_cons, List.cons.injEq] at h
    rw [num_inj h.1, map_num_inj a b h.2]
theorem strs_new (w : World) (T : ByteArray) (X : TypeId) : StrsAt (w.alloc (.cells #[.string T] X)) (w.alloc (.cells #[.string T] X)).heap.size (some ⟨w.heap.size, 0, none⟩) 1 [T] := by
  refine ⟨rfl, fun _ => ⟨_, _, rfl, by simp, fun i s hi => ?_⟩⟩
  have h0 : i = 0 := by have := (List.getElem?_eq_some_iff.1 hi).1; simp at this; omega
  subst h0
  obtain rfl : T = s := by simpa using hi
  rw [World.cell?_alloc_new]; rfl

/-- "use" -/
def useB : ByteArray := ⟨#[117, 115, 101]⟩
theorem said_one (T : ByteArray) : (Mac.said (num useB) [num T]).length = 12 + T.size := by
  rw [Mac.said_eq]
  simp only [List.map_cons, List.map_nil, List.flatten_cons, List.flatten_nil, List.length_append, Sha.length_be, length_num, List.length_cons, List.length_nil]
  show 3 + 1 + (8 + T.size + 0) = _
  omega

end Go.Proofs.YtlndgnlkfhlekaaDoor
