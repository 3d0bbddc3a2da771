/- MacSame: the law's walk. -/
import Derived.Test.YtlndgnlkfhlekaaDoorMacS
namespace Go.Proofs.YtlndgnlkfhlekaaDoor
open Go.RowKit

theorem run_cat (a b : ByteArray) (h : a.size + b.size ≤ 140737488355328) (w : World) : (Op.stringOp .add a b).run Tryd.prog w = .ok (.string (a ++ b)) w := run_string_add_sum w a b (by omega)
theorem wpList_bytes_ofF {P : Program} {ops : Array Oper} {rest : List Oper} {o : Oper} {a : Act} {w : World} {Q : Exit → Act → World → Prop} (hgd : Region.wanted o (yielded ops a.tmps) = true) (src dst e : TypeId) (x : Operand) (ho : o.op = .convert src dst x)
    (s : ByteArray) (hx : a.eval x = .string s) (hs : P.underlying src = some .string) (hd : P.underlying dst = some (.slice e)) (he : P.underlying e = some (.int .u8)) (hl : s.size ≤ 140737488355328)
    (h : ∀ w' cap, BytesAt w' w'.heap.size (.slice (some ⟨w.heap.size, 0, none⟩) s.size cap) (num s) → (∀ j, j < s.size → w'.frozen? ⟨w.heap.size, j, none⟩ = false) → Mod none_ w w' → w'.heap.size = w.heap.size + 1 → wpList P ops Q rest (a.put o.dst (.slice (some ⟨w.heap.size, 0, none⟩) s.size cap)) w') :
    wpList P ops Q (o :: rest) a w := by
  refine wpList_want hgd fun K hK => ?_
  have hrun := run_bytes_of_string (P := P) w src dst e s hs hd he
  unfold Oper.wp
  simp only [execOp, ho, hx, Sem.run_bind, hrun, Result.andThen, Sem.run_pure]
  have hcap : s.size ≤ grownCap w s.size 0 e := grownCap_ge _ _ _ _
  have hb := bytes_of_row w.drew s (grownCap w s.size 0 e) e ((bytesRow s (grownCap w s.size 0 e)).size, (bytesRow s (grownCap w s.size 0 e)).size + 1) hl hcap
  refine hK _ _ (h _ _ (hb.mono (by simp)) (fun j hj => ?_) ((Mod.refl _ _).drew.alloc _) (by simp))
  have hsz : j < (bytesRow s (grownCap w s.size 0 e)).size := by
    have h1 : (bytesRow s (grownCap w s.size 0 e)).size = s.data.size + (grownCap w s.size 0 e - s.size) := by simp [bytesRow]
    have h2 : s.data.size = s.size := rfl
    omega
  rw [show (⟨w.heap.size, j, none⟩ : Addr) = ⟨w.drew.heap.size, j, none⟩ from rfl, World.frozen?_alloc_mark]
  simp; omega

/-- one byte of a row of the call's own turned -/
theorem bytes_set {w : World} {B b n c i : Nat} {t : List Int} {v : Int} (h : BytesAt w B (.slice (some ⟨b, 0, none⟩) n c) t) (hi : i < t.length) (hv : 0 ≤ v ∧ v ≤ 255) : BytesAt (w.setCell ⟨b, i, none⟩ (.int .u8 v)) B (.slice (some ⟨b, 0, none⟩) n c) (t.set i v) := by
  obtain ⟨h1, h2, a, c', h3, h4, h0, h5⟩ := h
  obtain ⟨pb, po, h6, h7, h8⟩ := h5 (by omega)
  have e : (some ⟨b, 0, none⟩ : Option Addr) = some ⟨pb, po, none⟩ := by simp at h3; rw [← h6, ← h3.1]
  simp at e
  obtain ⟨rfl, rfl⟩ := e
  simp at h3
  obtain ⟨rfl, rfl, rfl⟩ := h3
  refine ⟨?_, by simpa using h2, some ⟨b, 0, none⟩, c, by simp, by simpa using h4, (fun h => by cases h), fun _ => ⟨b, 0, rfl, h7, fun j hj => ?_⟩⟩
  · intro x hx
    rcases List.mem_or_eq_of_mem_set hx with h | h
    · exact h1 x h
    · subst h; exact hv
  · have hj' : j < t.length := by simpa using hj
    have h9 := h8 j hj'
    rw [Nat.zero_add] at h9 ⊢
    by_cases hij : i = j
    · subst hij
      rw [World.cell?_setCell_same' _ _ _ (by rw [h9]; rfl), Sha.g, List.getElem?_set_self hj']; rfl
    · rw [cell_set_off _ _ _ _ _ (by omega), h9, Sha.g, Sha.g, List.getElem?_set_ne hij]

end Go.Proofs.YtlndgnlkfhlekaaDoor
