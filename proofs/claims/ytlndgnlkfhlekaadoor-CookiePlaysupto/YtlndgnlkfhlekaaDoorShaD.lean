/- Byte slices of the call's own: append, a store, what they read as. -/
import Derived.Test.YtlndgnlkfhlekaaDoorShaB
import Derived.Laws.AppendOwnNone
import Derived.OwnWalk
namespace Go.Proofs.YtlndgnlkfhlekaaDoor
open Go.RowKit

/-- v is a byte slice of the call's own (blocks from base on) that holds xs -/
def OwnB (w : World) (base : Nat) (v : Value) (xs : List Int) : Prop := w.ownsRow base 5 1 v xs.length (Sha.bcells xs)
theorem ownB_nil (w : World) (base : Nat) : OwnB w base (.slice none 0 0) [] := ⟨rfl, Or.inl ⟨rfl, rfl⟩⟩
theorem OwnB.cases {w : World} {base : Nat} {v : Value} {xs : List Int} (h : OwnB w base v xs) :
    (v = .slice none 0 0 ∧ xs = []) ∨ ∃ g cap rest, v = .slice (some ⟨g, 0, none⟩) xs.length cap ∧ base ≤ g ∧ Blk w g (Sha.bcells xs ++ rest) 5 ∧ xs.length ≤ cap := by
  obtain ⟨h1, h2 | ⟨g, cap, cur, h3, h4, h5, h6, h7, h8, h9⟩⟩ := h
  · left; exact ⟨h2.1, List.eq_nil_of_length_eq_zero h2.2⟩
  · right
    refine ⟨g, cap, cur.toList.drop xs.length, h3, h4, ?_, h6⟩
    rw [Nat.mul_one] at h9
    rw [Blk, h5, ← h9, List.take_append_drop, Array.toArray_toList]
theorem OwnB.bytes {w : World} {base : Nat} {v : Value} {xs : List Int} (h : OwnB w base v xs) (hb : Sha.bytes xs) (hl : xs.length ≤ 140737488355328) : BytesAt w w.heap.size v xs := by
  rcases h.cases with ⟨rfl, rfl⟩ | ⟨g, cap, rest, rfl, h2, h3, h4⟩
  · exact bytes_none _ _ _ _ (fun _ => rfl)
  · refine ⟨hb, hl, _, _, rfl, h4, (fun h => by cases h), fun hp => ⟨g, 0, rfl, h3.lt, fun j hj => h3.cell ?_⟩⟩
    rw [Nat.zero_add, List.getElem?_append_left (by simpa [Sha.bcells] using hj), Sha.bcells, List.getElem?_map, Sha.g, List.getElem?_eq_getElem hj]; rfl
theorem info_b8 : (Tryd.prog.info? 5).map (fun i => (i.zero, i.size, i.bytes)) = some (some (.int .u8 0), 1, 1) := by kernel_rfl

theorem wpList_append_bytes {ops : Array Oper} {rest : List Oper} {o : Oper} {a : Act} {w : World} {Q : Exit → Act → World → Prop} (hgd : o.guard = none) (s x : Operand)
    (ho : o.op = .call { callee := .builtin .append, args := #[s, x], argTypes := #[63, 63] }) (base : Nat)
    (v : Value) (xs : List Int) (hs : a.eval s = v) (hown : OwnB w base v xs) (u : Value) (p : List Int) (hx : a.eval x = u) (B : Nat) (hu : BytesAt w B u p)
    (hlen : xs.length + p.length ≤ 140737488355328) (hbase : base ≤ w.heap.size)
    (h : ∀ v' w', OwnB w' base v' (xs ++ p) → w.grownBy w' v.ownBlock → wpList Tryd.prog ops Q rest (a.put o.dst v') w') : wpList Tryd.prog ops Q (o :: rest) a w := by
  obtain ⟨i, hi, hz0, hz1, hz2⟩ := info_parts info_b8
  obtain ⟨h1, h2, ad, c, rfl, h4, h0, h5⟩ := hu
  have e : Sha.bcells (xs ++ p) = Sha.bcells xs ++ Sha.bcells p := by simp [Sha.bcells]
  have el : (xs ++ p).length = xs.length + p.length := by simp
  cases ad with
  | none =>
    have hp : p = [] := by
      have := h0 rfl
      exact List.eq_nil_of_length_eq_zero (by omega)
    subst hp
    refine wpList_append_own_none hgd s x 63 ho base 5 i 1 under_b28 hi v xs.length (Sha.bcells xs) hs hown (by rw [hx, h0 rfl]; rfl) ?_
    exact h v w (by rw [List.append_nil]; exact hown) ⟨rfl, rfl, rfl, Nat.le_refl _, fun _ _ _ => rfl⟩
  | some ad =>
    refine wpList_append_own w hgd s x 63 ho base 5 i (.int .u8 0) 1 1 under_b28 hi hz0 hz1 hz2 rfl (by decide) v xs.length (Sha.bcells xs) hs hown ad p.length c (Sha.bcells p) hx (by simp [Sha.bcells]) ?_ (Sha.one_b p) (by unfold maxLen; omega) (by omega) hbase ?_
    · intro j y hj
      have hj' : j < p.length := by have := (List.getElem?_eq_some_iff.1 hj).1; simpa [Sha.bcells] using this
      obtain ⟨pb, po, h6, h7, h8⟩ := h5 (by omega)
      obtain rfl : ad = ⟨pb, po, none⟩ := by simpa using h6
      rw [Addr.add_mid, h8 j hj', ← hj, Sha.bcells, List.getElem?_map, Sha.g, List.getElem?_eq_getElem hj']; rfl
    · intro v' w' ho' hg _
      exact h v' w' (by unfold OwnB; rw [e, el]; exact ho') hg
end Go.Proofs.YtlndgnlkfhlekaaDoor
