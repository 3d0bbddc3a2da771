/- said: the walk. -/
import Derived.Test.YtlndgnlkfhlekaaDoorMacD
namespace Go.Proofs.YtlndgnlkfhlekaaDoor
open Go.RowKit

theorem str_one (w : World) (x : Int) (hx : 0 ≤ x ∧ x ≤ 255) : (convert 63 9 (.slice (some ⟨w.heap.size, 0, none⟩) 1 1)).run Tryd.prog (w.alloc (.cells #[.int .u8 x] 5)) = .ok (.string (strOf [x])) (w.alloc (.cells #[.int .u8 x] 5)) :=
  str_any _ _ _ _ (bytes_one1 w x 5 hx)
theorem Mac.said_room (use : List Int) (ps : List (List Int)) : ps.length + use.length + 1 ≤ (said use ps).length := by
  have h2 : ∀ l : List (List Int), l.length ≤ (l.map fun p => Sha.be p.length ++ p).flatten.length := by
    intro l
    induction l with
    | nil => simp
    | cons p l ih => simp only [List.map_cons, List.flatten_cons, List.length_append, List.length_cons, Sha.length_be]; omega
  have h3 := h2 ps
  rw [said_eq]
  simp only [List.length_append, List.length_cons, List.length_nil]
  omega
theorem bytes_nums_map (ss : List ByteArray) : ∀ p ∈ ss.map num, Sha.bytes p := fun p hp => by obtain ⟨s, _, rfl⟩ := List.mem_map.1 hp; exact bytes_num s

end Go.Proofs.YtlndgnlkfhlekaaDoor
