/- Lists of byte slices of the call's own; a byte slice as a text. -/
import Derived.Test.YtlndgnlkfhlekaaDoorRefD
import Derived.Laws.BytesString
namespace Go.Proofs.YtlndgnlkfhlekaaDoor
open Go.RowKit

/-- the text that these numbers are the bytes of -/
def strOf (t : List Int) : ByteArray := t.foldl (fun r n => r.push (UInt8.ofNat n.toNat)) ByteArray.empty
theorem str_any (w : World) (B : Nat) (v : Value) (t : List Int) (h : BytesAt w B v t) : (convert 63 9 v).run Tryd.prog w = .ok (.string (strOf t)) w := by
  obtain ⟨h1, h2, a, c, rfl, h4, h0, h5⟩ := h
  rw [run_convert_bytes_string w 63 9 5 a t.length c under_b28 under_b8 under_str]
  cases a with
  | none =>
    have hp : t = [] := List.eq_nil_of_length_eq_zero (by have := h0 rfl; omega)
    subst hp
    rfl
  | some a =>
    refine run_bytesToString w a t.length c t ?_
    by_cases hp : 0 < t.length
    · obtain ⟨pb, po, h6, h7, h8⟩ := h5 hp
      obtain rfl : a = ⟨pb, po, none⟩ := by simpa using h6
      have := run_loadCells_list (P := Tryd.prog) w ⟨pb, po, none⟩ (Sha.bcells t) (fun j v hj => by
        have hj' : j < t.length := by have := (List.getElem?_eq_some_iff.1 hj).1; simpa [Sha.bcells] using this
        rw [Addr.add_mid, h8 j hj', ← hj, Sha.bcells, List.getElem?_map, Sha.g, List.getElem?_eq_getElem hj']; rfl)
      rw [Sha.bcells, List.length_map] at this
      exact this
    · obtain rfl : t = [] := List.eq_nil_of_length_eq_zero (by omega)
      rfl

theorem under_l30 : Tryd.prog.underlying 71 = some (.slice 63) := by kernel_rfl
theorem info_b28 : (Tryd.prog.info? 63).map (fun i => (i.zero, i.size, i.bytes)) = some (some (.slice none 0 0), 1, 24) := by kernel_rfl
theorem size_b28 : (Tryd.prog.info? 63).map (·.size) = some 1 := by kernel_rfl

/-- v is a list of the call's own (blocks from base on) that holds these values -/
def OwnL (w : World) (base : Nat) (v : Value) (vs : List Value) : Prop := w.ownsRow base 63 1 v vs.length vs
theorem ownL_nil (w : World) (base : Nat) : OwnL w base (.slice none 0 0) [] := ⟨rfl, Or.inl ⟨rfl, rfl⟩⟩
theorem OwnL.cases {w : World} {base : Nat} {v : Value} {vs : List Value} (h : OwnL w base v vs) :
    (v = .slice none 0 0 ∧ vs = []) ∨ ∃ g cap rest, v = .slice (some ⟨g, 0, none⟩) vs.length cap ∧ base ≤ g ∧ Blk w g (vs ++ rest) 63 ∧ vs.length ≤ cap := by
  obtain ⟨h1, h2 | ⟨g, cap, cur, h3, h4, h5, h6, h7, h8, h9⟩⟩ := h
  · left; exact ⟨h2.1, List.eq_nil_of_length_eq_zero h2.2⟩
  · right
    refine ⟨g, cap, cur.toList.drop vs.length, h3, h4, ?_, h6⟩
    rw [Nat.mul_one] at h9
    have e : vs ++ cur.toList.drop vs.length = cur.toList := (congrArg (· ++ cur.toList.drop vs.length) h9).symm.trans (List.take_append_drop _ _)
    rw [Blk, h5, e, Array.toArray_toList]
theorem OwnL.modO {S : Nat → Prop} {w w' : World} {base : Nat} {v : Value} {xs : List Value} (h : OwnL w base v xs) (hM : Mod S w w') (hS : ∀ g, v.ownBlock = some g → ¬ S g) : OwnL w' base v xs := by
  obtain ⟨h1, h2 | ⟨g, cap, cur, h3, h4, h5, h6, h7, h8, h9⟩⟩ := h
  · exact ⟨h1, Or.inl h2⟩
  · exact ⟨h1, Or.inr ⟨g, cap, cur, h3, h4, (hM.blk (b := g) (cs := cur.toList) (t := 63) h5 (hS g (by rw [h3]; rfl))), h6, h7, h8, h9⟩⟩
theorem OwnL.own_ge {w : World} {base : Nat} {v : Value} {xs : List Value} (h : OwnL w base v xs) {b : Nat} (e : v.ownBlock = some b) : base ≤ b := by
  obtain ⟨h1, h2 | ⟨g, cap, cur, h3, h4, h5, h6, h7, h8, h9⟩⟩ := h
  · rw [h2.1] at e; cases e
  · rw [h3] at e
    have : g = b := Option.some.inj e
    omega
theorem OwnL.own_lt {w : World} {base : Nat} {v : Value} {xs : List Value} (h : OwnL w base v xs) {b : Nat} (e : v.ownBlock = some b) : b < w.heap.size := by
  rcases h.cases with ⟨rfl, _⟩ | ⟨g, cap, rest, rfl, _, h3, _⟩
  · cases e
  · have : g = b := Option.some.inj e
    subst this; exact h3.lt
/-- the list's block holds slices, no bytes -/
theorem OwnL.apart {w : World} {base : Nat} {v : Value} {xs : List Value} (h : OwnL w base v xs) {b : Nat} {cs : List Value} (hb : Blk w b cs 5) : v.ownBlock ≠ some b := by
  intro e
  obtain ⟨h1, h2 | ⟨g, cap, cur, h3, h4, h5, h6, h7, h8, h9⟩⟩ := h
  · rw [h2.1] at e; cases e
  · rw [h3] at e
    obtain rfl : g = b := Option.some.inj e
    rw [Blk, h5] at hb
    simp at hb
theorem bytes_modA {S : Nat → Prop} {w w' : World} {B b o n c : Nat} {t : List Int} (h : BytesAt w B (.slice (some ⟨b, o, none⟩) n c) t) (hM : Mod S w w') (hS : ¬ S b) : BytesAt w' B (.slice (some ⟨b, o, none⟩) n c) t := by
  obtain ⟨h1, h2, a', c', h3, h4, h0, h5⟩ := h
  refine ⟨h1, h2, a', c', h3, h4, h0, fun hp => ?_⟩
  obtain ⟨pb, po, h6, h7, h8⟩ := h5 hp
  have hb : pb = b := by rw [h6] at h3; simp at h3; exact h3.1.1.symm
  exact ⟨pb, po, h6, h7, fun j hj => hM.cellS (h8 j hj) (by rw [hb]; exact hS)⟩
theorem new_one (w : World) (x : Value) (T : TypeId) : ∀ (j : Nat) u, [x][j]? = some u → (w.alloc (.cells #[x] T)).cell? ((⟨w.heap.size, 0, none⟩ : Addr).add j) = some u := by
  intro j u hj
  rw [Addr.add_mid, World.cell?_alloc_new]
  simpa using hj
theorem one_slice (a : Option Addr) (n c : Nat) : ∀ u ∈ [Value.slice a n c], u.oneCell' = true := by
  intro u hu
  obtain rfl : u = .slice a n c := by simpa using hu
  rfl
theorem new_two (w : World) (x y : Value) (T : TypeId) : ∀ (j : Nat) u, [x, y][j]? = some u → (w.alloc (.cells #[x, y] T)).cell? ((⟨w.heap.size, 0, none⟩ : Addr).add j) = some u := by
  intro j u hj
  rw [Addr.add_mid, World.cell?_alloc_new]
  simpa using hj
theorem two_slices (a a' : Option Addr) (n c n' c' : Nat) : ∀ u ∈ [Value.slice a n c, Value.slice a' n' c'], u.oneCell' = true := by
  intro u hu
  simp only [List.mem_cons, List.not_mem_nil, or_false] at hu
  rcases hu with rfl | rfl <;> rfl
theorem wpList_append_vals {ops : Array Oper} {rest : List Oper} {o : Oper} {a : Act} {w : World} {Q : Exit → Act → World → Prop} (hgd : o.guard = none) (s x : Operand)
    (ho : o.op = .call { callee := .builtin .append, args := #[s, x], argTypes := #[71, 71] }) (base : Nat)
    (v : Value) (vs : List Value) (hs : a.eval s = v) (hown : OwnL w base v vs) (ad : Addr) (m c : Nat) (us : List Value) (hx : a.eval x = .slice (some ad) m c) (hm : us.length = m)
    (hu : ∀ j u, us[j]? = some u → w.cell? (ad.add j) = some u) (h1 : ∀ u ∈ us, u.oneCell' = true)
    (hlen : (vs.length + m) * 24 ≤ 140737488355328) (hbase : base ≤ w.heap.size)
    (h : ∀ v' w', OwnL w' base v' (vs ++ us) → w.grownBy w' v.ownBlock → wpList Tryd.prog ops Q rest (a.put o.dst v') w') : wpList Tryd.prog ops Q (o :: rest) a w := by
  obtain ⟨i, hi, hz0, hz1, hz2⟩ := info_parts info_b28
  refine wpList_append_own w hgd s x 71 ho base 63 i (.slice none 0 0) 1 24 under_l30 hi hz0 hz1 hz2 rfl (by decide) v vs.length vs hs hown ad m c us hx (by omega) hu h1 (by unfold maxLen; omega) hlen hbase ?_
  intro v' w' ho' hg _
  exact h v' w' (by unfold OwnL; rw [List.length_append, hm]; exact ho') hg

namespace Sha
/-- the bytes that lend marks its copies by -/
def marks (i : Nat) : List Int := (List.range 150).map fun (j : Nat) => (7 * (i : Int) + (j : Int)) % 256
theorem length_marks (i : Nat) : (marks i).length = 150 := by simp [marks]
theorem bytes_marks (i : Nat) : bytes (marks i) := by
  intro x hx
  simp only [marks, List.mem_map] at hx
  obtain ⟨j, _, rfl⟩ := hx
  omega
theorem get_marks (i j : Nat) (h : j < 150) : (marks i)[j]? = some ((7 * (i : Int) + (j : Int)) % 256) := by
  simp [marks, List.getElem?_range h]
end Sha
/-- a copy with its marks behind it -/
def Lent (w : World) (base : Nat) (v : Value) (p : List Int) (i : Nat) : Prop :=
  ∃ g cap rest, v = .slice (some ⟨g, 0, none⟩) p.length cap ∧ base ≤ g ∧ Blk w g (Sha.bcells (p ++ Sha.marks i) ++ rest) 5 ∧ p.length + 150 ≤ cap
theorem Lent.mod {S : Nat → Prop} {w w' : World} {base : Nat} {v : Value} {p : List Int} {i : Nat} (h : Lent w base v p i) (hM : Mod S w w') (hS : ∀ g cs, Blk w g cs 5 → ¬ S g) : Lent w' base v p i := by
  obtain ⟨g, cap, rest, h1, h2, h3, h4⟩ := h
  exact ⟨g, cap, rest, h1, h2, hM.blk h3 (hS g _ h3), h4⟩
end Go.Proofs.YtlndgnlkfhlekaaDoor
