/- MacMemory: the law's walk. -/
import Derived.Test.YtlndgnlkfhlekaaDoorMacF
import Derived.Test.YtlndgnlkfhlekaaDoorStrsO
namespace Go.Proofs.YtlndgnlkfhlekaaDoor
open Go.RowKit

theorem info_str : (Tryd.prog.info? 9).map (fun i => (i.zero, i.size, i.bytes)) = some (some (.string ⟨#[]⟩), 1, 16) := by kernel_rfl
theorem size_str : (Tryd.prog.info? 9).map (·.size) = some 1 := by kernel_rfl
def strs (ss : List ByteArray) : List Value := ss.map Value.string
theorem one_strs (ss : List ByteArray) : ∀ v ∈ strs ss, v.oneCell' = true := by
  intro v hv
  obtain ⟨s, _, rfl⟩ := List.mem_map.1 hv
  rfl
/-- v is a list of the call's own that holds these texts -/
def OwnS (w : World) (base : Nat) (v : Value) (ss : List ByteArray) : Prop := w.ownsRow base 9 1 v ss.length (strs ss)
theorem OwnS.cases {w : World} {base : Nat} {v : Value} {ss : List ByteArray} (h : OwnS w base v ss) :
    (v = .slice none 0 0 ∧ ss = []) ∨ ∃ g cap rest, v = .slice (some ⟨g, 0, none⟩) ss.length cap ∧ base ≤ g ∧ Blk w g (strs ss ++ rest) 9 ∧ ss.length ≤ cap := by
  obtain ⟨h1, h2 | ⟨g, cap, cur, h3, h4, h5, h6, h7, h8, h9⟩⟩ := h
  · left; exact ⟨h2.1, List.eq_nil_of_length_eq_zero h2.2⟩
  · right
    refine ⟨g, cap, cur.toList.drop ss.length, h3, h4, ?_, h6⟩
    rw [Nat.mul_one] at h9
    have e : strs ss ++ cur.toList.drop ss.length = cur.toList := (congrArg (· ++ cur.toList.drop ss.length) h9).symm.trans (List.take_append_drop _ _)
    rw [Blk, h5, e, Array.toArray_toList]
theorem OwnS.own_ge {w : World} {base : Nat} {v : Value} {xs : List ByteArray} (h : OwnS w base v xs) {b : Nat} (e : v.ownBlock = some b) : base ≤ b := by
  obtain ⟨h1, h2 | ⟨g, cap, cur, h3, h4, h5, h6, h7, h8, h9⟩⟩ := h
  · rw [h2.1] at e; cases e
  · rw [h3] at e
    have : g = b := Option.some.inj e
    omega
theorem OwnS.modO {S : Nat → Prop} {w w' : World} {base : Nat} {v : Value} {xs : List ByteArray} (h : OwnS w base v xs) (hM : Mod S w w') (hS : ∀ g, v.ownBlock = some g → ¬ S g) : OwnS w' base v xs := by
  obtain ⟨h1, h2 | ⟨g, cap, cur, h3, h4, h5, h6, h7, h8, h9⟩⟩ := h
  · exact ⟨h1, Or.inl h2⟩
  · exact ⟨h1, Or.inr ⟨g, cap, cur, h3, h4, (hM.blk (b := g) (cs := cur.toList) (t := 9) h5 (hS g (by rw [h3]; rfl))), h6, h7, h8, h9⟩⟩
theorem wpList_append_strs {ops : Array Oper} {rest : List Oper} {o : Oper} {a : Act} {w : World} {Q : Exit → Act → World → Prop} (hgd : o.guard = none) (s x : Operand)
    (ho : o.op = .call { callee := .builtin .append, args := #[s, x], argTypes := #[44, 44] }) (base : Nat)
    (v : Value) (ss : List ByteArray) (hs : a.eval s = v) (hown : OwnS w base v ss) (sa : Option Addr) (m c : Nat) (us : List ByteArray) (hx : a.eval x = .slice sa m c) (B : Nat) (hu : StrsAt w B sa m us) (h0 : sa = none → m = 0 ∧ c = 0)
    (hlen : (ss.length + m) * 16 ≤ 140737488355328) (hbase : base ≤ w.heap.size)
    (h : ∀ v' w', OwnS w' base v' (ss ++ us) → w.grownBy w' v.ownBlock → wpList Tryd.prog ops Q rest (a.put o.dst v') w') : wpList Tryd.prog ops Q (o :: rest) a w := by
  obtain ⟨i, hi, hz0, hz1, hz2⟩ := info_parts info_str
  cases sa with
  | none =>
    obtain ⟨rfl, rfl⟩ := h0 rfl
    obtain rfl : us = [] := List.eq_nil_of_length_eq_zero hu.1
    refine wpList_append_own_none hgd s x 44 ho base 9 i 1 under_s44 hi v ss.length (strs ss) hs hown hx ?_
    exact h v w (by rw [List.append_nil]; exact hown) ⟨rfl, rfl, rfl, Nat.le_refl _, fun _ _ _ => rfl⟩
  | some ad =>
    refine wpList_append_own w hgd s x 44 ho base 9 i (.string ⟨#[]⟩) 1 16 under_s44 hi hz0 hz1 hz2 rfl (by decide) v ss.length (strs ss) hs hown ad m c (strs us) hx (by rw [strs, List.length_map, hu.1, Nat.mul_one]) ?_ (one_strs us) (by unfold maxLen; omega) hlen hbase ?_
    · intro j y hj
      have hj' : j < us.length := by have := (List.getElem?_eq_some_iff.1 hj).1; simpa [strs] using this
      obtain ⟨lb, lo, e, _, hc⟩ := hu.2 (by rw [← hu.1]; omega)
      obtain rfl : ad = ⟨lb, lo, none⟩ := by simpa using e
      rw [Addr.add_mid, hc j us[j] (List.getElem?_eq_getElem hj'), ← hj, strs, List.getElem?_map, List.getElem?_eq_getElem hj']; rfl
    · intro v' w' ho' hg _
      refine h v' w' ?_ hg
      unfold OwnS
      rw [List.length_append, hu.1]
      simpa [strs] using ho'
theorem strs_at {w : World} {g : Nat} {ss : List ByteArray} {rest : List Value} {n : Nat} (h : Blk w g (strs ss ++ rest) 9) (hn : ss.length = n) {B : Nat} (hB : g < B) : StrsAt w B (some ⟨g, 0, none⟩) n ss := by
  refine ⟨hn, fun _ => ⟨g, 0, rfl, hB, fun i s hi => h.cell ?_⟩⟩
  have hil := (List.getElem?_eq_some_iff.1 hi).1
  rw [Nat.zero_add, List.getElem?_append_left (by simpa [strs] using hil), strs, List.getElem?_map, hi]; rfl
theorem said_len (use : List Int) (L : Nat) (ps : List (List Int)) (h : ∀ p ∈ ps, p.length ≤ L) : (Mac.said use ps).length ≤ use.length + 1 + (8 + L) * ps.length := by
  have h2 : ∀ l : List (List Int), (∀ p ∈ l, p.length ≤ L) → ((l.map fun p => Sha.be p.length ++ p).flatten).length ≤ (8 + L) * l.length := by
    intro l hl
    induction l with
    | nil => simp
    | cons p l ih =>
      have h3 := ih (fun q hq => hl q (List.mem_cons_of_mem _ hq))
      have h4 := hl p (List.mem_cons_self ..)
      simp only [List.map_cons, List.flatten_cons, List.length_append, Sha.length_be, List.length_cons, Nat.mul_succ]
      omega
  have := h2 ps h
  rw [Mac.said_eq]
  simp only [List.length_append, List.length_cons, List.length_nil]
  omega
theorem two_strs (w : World) (s t : ByteArray) (X : TypeId) : StrsAt (w.alloc (.cells #[.string s, .string t] X)) (w.heap.size + 1) (some ⟨w.heap.size, 0, none⟩) 2 [s, t] := by
  refine ⟨rfl, fun _ => ⟨_, _, rfl, Nat.lt_succ_self _, fun i u hi => ?_⟩⟩
  rw [Nat.zero_add, World.cell?_alloc_new]
  match i, hi with
  | 0, hi => obtain rfl : s = u := by simpa using hi
             rfl
  | 1, hi => obtain rfl : t = u := by simpa using hi
             rfl
  | k + 2, hi => simp at hi

def roomB : ByteArray := ⟨#[114, 111, 111, 109]⟩
def bangB : ByteArray := ⟨#[33]⟩
/-- the list with its first k texts written over -/
def banged (ss : List ByteArray) (k : Nat) : List ByteArray := List.replicate k bangB ++ ss.drop k
theorem length_banged (ss : List ByteArray) (k : Nat) (h : k ≤ ss.length) : (banged ss k).length = ss.length := by simp [banged]; omega
theorem banged_get (ss : List ByteArray) (k : Nat) : (banged ss k)[k]? = ss[k]? := by
  rw [banged, List.getElem?_append_right (by simp), List.length_replicate, Nat.sub_self, List.getElem?_drop, Nat.add_zero]
theorem banged_set (ss : List ByteArray) (k : Nat) (h : k < ss.length) : (banged ss k).set k bangB = banged ss (k + 1) := by
  rw [banged, banged, List.set_append_right _ _ (by simp), List.length_replicate, Nat.sub_self, List.replicate_succ', List.append_assoc]
  congr 1
  rw [List.drop_eq_getElem_cons h]
  rfl
open Go.ChangeShapes Go.WideShapes Go.Deep in
/-- a nil list has no room -/
theorem strs_none {H : Type} {enc : TypeId × Value → H} {W : World} {n c : Nat} {d : DataW H} {ps : List MemPlace} (h : DataW.Trod enc Tryd.prog W 0 (fun _ => true) true 44 (.slice none n c) d ps) : n = 0 ∧ c = 0 := by
  obtain ⟨fuel, hf⟩ := h
  rcases open_strs Tryd.underlying44 Tryd.underlying9 (by kernel_rfl) hf with ⟨hcs, _⟩ | ⟨a, len, cap, m, S, hcs, _⟩
  · simp [Value.cells] at hcs
    exact hcs
  · simp [Value.cells] at hcs
end Go.Proofs.YtlndgnlkfhlekaaDoor
