/- Strings as bytes. -/
import Derived.Test.YtlndgnlkfhlekaaDoorShaX
namespace Go.Proofs.YtlndgnlkfhlekaaDoor
open Go.RowKit
/-- a text's bytes as numbers -/
def nums (s : List UInt8) : List Int := s.map fun b => (b.toNat : Int)
theorem nums_bytes (s : List UInt8) : Sha.bytes (nums s) := by
  intro x hx; simp only [nums, List.mem_map] at hx; obtain ⟨b, _, rfl⟩ := hx; have := b.toNat_lt; omega
theorem length_nums (s : List UInt8) : (nums s).length = s.length := by simp [nums]

theorem bytes_of_row (w : World) (s : ByteArray) (cap : Nat) (T : TypeId) (fr : Nat × Nat) (hs : s.size ≤ 140737488355328) (hc : s.size ≤ cap) :
    BytesAt (w.alloc (.cells (bytesRow s cap) T fr)) (w.heap.size + 1) (.slice (some ⟨w.heap.size, 0, none⟩) s.size cap) (nums s.data.toList) := by
  have hl : (nums s.data.toList).length = s.size := by rw [length_nums]; rfl
  have h := bytes_new w (bytesRow s cap) T fr (nums s.data.toList) cap (nums_bytes _) (by omega) (by omega) (fun j hj => by
    have hj' : j < s.data.size := by rw [hl] at hj; exact hj
    rw [bytesRow_at s cap j hj', Sha.g, nums, List.getElem?_map, List.getElem?_eq_getElem (by simpa using hj')]; rfl)
  rwa [hl] at h

/-- an operation that is wanted, guarded or not -/
theorem wpList_want {P : Program} {ops : Array Oper} {rest : List Oper} {o : Oper} {a : Act} {w : World} {Q : Exit → Act → World → Prop} (hw : Region.wanted o (yielded ops a.tmps) = true)
    (h : ∀ K : Act → World → Prop, (∀ a w, wpList P ops Q rest a w → K a w) → o.wp P a w K Q) : wpList P ops Q (o :: rest) a w :=
  wpList_step (fun K hK => by rw [if_pos hw]; exact h K hK)
/-- '[]byte(s)' at the walk's list: the new slice by what it is good for -/
theorem wpList_bytes_of {P : Program} {ops : Array Oper} {rest : List Oper} {o : Oper} {a : Act} {w : World} {Q : Exit → Act → World → Prop} (hgd : Region.wanted o (yielded ops a.tmps) = true) (src dst e : TypeId) (x : Operand) (ho : o.op = .convert src dst x)
    (s : ByteArray) (hx : a.eval x = .string s) (hs : P.underlying src = some .string) (hd : P.underlying dst = some (.slice e)) (he : P.underlying e = some (.int .u8)) (hl : s.size ≤ 140737488355328)
    (h : ∀ w' cap, BytesAt w' w'.heap.size (.slice (some ⟨w.heap.size, 0, none⟩) s.size cap) (nums s.data.toList) → Mod none_ w w' → w'.heap.size = w.heap.size + 1 → wpList P ops Q rest (a.put o.dst (.slice (some ⟨w.heap.size, 0, none⟩) s.size cap)) w') :
    wpList P ops Q (o :: rest) a w := by
  refine wpList_want hgd fun K hK => ?_
  have hrun := run_bytes_of_string (P := P) w src dst e s hs hd he
  unfold Oper.wp
  simp only [execOp, ho, hx, Sem.run_bind, hrun, Result.andThen, Sem.run_pure]
  have hcap : s.size ≤ grownCap w s.size 0 e := grownCap_ge _ _ _ _
  have hb := bytes_of_row w.drew s (grownCap w s.size 0 e) e ((bytesRow s (grownCap w s.size 0 e)).size, (bytesRow s (grownCap w s.size 0 e)).size + 1) hl hcap
  exact hK _ _ (h _ _ (hb.mono (by simp)) ((Mod.refl _ _).drew.alloc _) (by simp))
end Go.Proofs.YtlndgnlkfhlekaaDoor
