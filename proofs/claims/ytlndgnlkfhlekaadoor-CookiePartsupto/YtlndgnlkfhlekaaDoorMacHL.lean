/- MacHmac: the law's walk. -/
import Derived.Test.YtlndgnlkfhlekaaDoorMacSL
import Derived.Deep.AppendLies
namespace Go.Proofs.YtlndgnlkfhlekaaDoor
open Go.RowKit

namespace Mac
theorem key_key (k : List Int) : key (key k) = key k := by
  have h := length_key k
  conv => lhs; rw [key, if_neg (by omega)]
theorem tag_key (k t : List Int) : tag (key k) t = tag k t := by rw [tag_eq, tag_eq, key_key]
theorem g_zeros (k : List Int) (n j : Nat) : Sha.g (k ++ Sha.zeros n) j = Sha.g k j := by
  simp only [Sha.g]
  by_cases h : j < k.length
  · rw [List.getElem?_append_left h]
  · rw [List.getElem?_append_right (by omega), List.getElem?_eq_none (l := k) (by omega)]
    simp only [Sha.zeros, List.getElem?_replicate]
    split <;> rfl
theorem tag_zeros (k t : List Int) (n : Nat) (h : k.length + n ≤ 64) : tag (k ++ Sha.zeros n) t = tag k t := by
  have h1 : key k = k := by rw [key, if_neg (by omega)]
  have h2 : key (k ++ Sha.zeros n) = k ++ Sha.zeros n := by rw [key, if_neg (by simp [Sha.zeros]; omega)]
  rw [tag_eq, tag_eq, h1, h2]
  simp only [pad_eq, row, g_zeros]
theorem row_all_get (k : List Int) (x : Int) (j : Nat) (h : j < 64) : (row k x 64)[j]? = some (x8 (Sha.g k j) x) := by rw [row_get k x 64 j h, if_pos h]
end Mac
/-- bytes appended, at least one: which block the new slice owns -/
theorem wpList_append_bytesL {ops : Array Oper} {rest : List Oper} {o : Oper} {a : Act} {w : World} {Q : Exit → Act → World → Prop} (hgd : o.guard = none) (s x : Operand)
    (ho : o.op = .call { callee := .builtin .append, args := #[s, x], argTypes := #[63, 63] }) (base : Nat)
    (v : Value) (xs : List Int) (hs : a.eval s = v) (hown : OwnB w base v xs) (u : Value) (p : List Int) (hx : a.eval x = u) (B : Nat) (hu : BytesAt w B u p) (hp : 0 < p.length)
    (hlen : xs.length + p.length ≤ 140737488355328) (hbase : base ≤ w.heap.size)
    (h : ∀ v' w', OwnB w' base v' (xs ++ p) → w.grownBy w' v.ownBlock → (∀ b, v'.ownBlock = some b → v.ownBlock = some b ∨ b = w.heap.size) → wpList Tryd.prog ops Q rest (a.put o.dst v') w') : wpList Tryd.prog ops Q (o :: rest) a w := by
  obtain ⟨i, hi, hz0, hz1, hz2⟩ := info_parts info_b8
  obtain ⟨h1, h2, ad, c, rfl, h4, h0, h5⟩ := hu
  have e : Sha.bcells (xs ++ p) = Sha.bcells xs ++ Sha.bcells p := by simp [Sha.bcells]
  have el : (xs ++ p).length = xs.length + p.length := by simp
  obtain ⟨pb, po, rfl, h7, h8⟩ := h5 hp
  refine wpList_append_lies w hgd s x 63 ho base 5 i (.int .u8 0) 1 1 under_b28 hi hz0 hz1 hz2 rfl (by decide) v xs.length (Sha.bcells xs) hs hown ⟨pb, po, none⟩ p.length c (Sha.bcells p) hx (by simp [Sha.bcells]) ?_ (Sha.one_b p) hp (by unfold maxLen; omega) (by omega) hbase w.heap.size rfl ?_
  · intro j y hj
    have hj' : j < p.length := by have := (List.getElem?_eq_some_iff.1 hj).1; simpa [Sha.bcells] using this
    rw [Addr.add_mid, h8 j hj', ← hj, Sha.bcells, List.getElem?_map, Sha.g, List.getElem?_eq_getElem hj']; rfl
  · intro g cap w' ho' hg hgg _
    refine h _ w' (by unfold OwnB; rw [el, e]; exact ho') hg (fun b hb => ?_)
    obtain rfl : g = b := Option.some.inj hb
    exact hgg

theorem tag_b (w : World) (hK : Rounds w) (k t : ByteArray) (r : ByteArray) (hr : strOf (Mac.tag (num k) (num t)) = r) (hk : k.size ≤ 140737488355328) (ht : t.size ≤ 140737488355328) :
    Calls Tryd.prog 28 #[.string k, .string t] w fun e w' => e = .returned (.string r) ∧ Mod none_ w w' := by
  subst hr; exact tag_any w hK k t hk ht
/-- two rows of the call's own do not share a block -/
def Apart (v u : Value) : Prop := ∀ g, v.ownBlock = some g → u.ownBlock ≠ some g

end Go.Proofs.YtlndgnlkfhlekaaDoor
