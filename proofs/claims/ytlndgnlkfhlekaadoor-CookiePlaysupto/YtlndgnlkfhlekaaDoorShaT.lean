/- SHA: texts taken in, block by block: plain lists. -/
import Derived.Test.YtlndgnlkfhlekaaDoorShaP
namespace Go.Proofs.YtlndgnlkfhlekaaDoor
namespace Sha
def init : V := ⟨1779033703, 3144134277, 1013904242, 2773480762, 1359893119, 2600822924, 528734635, 1541459225⟩
def block (t : List Int) (k : Nat) : List Int := (t.drop (64 * k)).take 64
/-- the sum behind k blocks of a text -/
def absorb (t : List Int) : Nat → V
  | 0 => init
  | k + 1 => mix (absorb t k) (block t k)
def bytes (t : List Int) : Prop := ∀ x ∈ t, 0 ≤ x ∧ x ≤ 255
theorem init_ok : init.ok := by rw [V.ok_iff]; decide
theorem absorb_ok (t : List Int) (k : Nat) : (absorb t k).ok := by
  cases k with
  | zero => exact init_ok
  | succ k => exact mix_ok _ _
theorem block_append (t q : List Int) (k : Nat) (h : 64 * (k + 1) ≤ t.length) : block (t ++ q) k = block t k := by
  unfold block
  rw [List.drop_append_of_le_length (by omega), List.take_append_of_le_length (by simp; omega)]
theorem absorb_append (t q : List Int) (k : Nat) (h : 64 * k ≤ t.length) : absorb (t ++ q) k = absorb t k := by
  induction k with
  | zero => rfl
  | succ k ih => rw [absorb, absorb, ih (by omega), block_append t q k h]
theorem bytes_append {t q : List Int} (h : bytes t) (k : bytes q) : bytes (t ++ q) := fun x hx => (List.mem_append.1 hx).elim (h x) (k x)
theorem bytes_take {t : List Int} (h : bytes t) (n : Nat) : bytes (t.take n) := fun x hx => h x (List.mem_of_mem_take hx)
theorem bytes_drop {t : List Int} (h : bytes t) (n : Nat) : bytes (t.drop n) := fun x hx => h x (List.mem_of_mem_drop hx)
theorem bytes_g {t : List Int} (h : bytes t) (i : Nat) : 0 ≤ g t i ∧ g t i ≤ 255 := by
  unfold g
  cases e : t[i]? with
  | none => simp
  | some x => exact h x (List.mem_of_getElem? e)

/-- v, blk, at_ hold the text t: v its whole blocks, blk's first places the rest -/
structure Holds (t : List Int) (v : V) (blk : List Int) (at_ : Nat) : Prop where
  v : v = absorb t (t.length / 64)
  len : blk.length = 64
  byt : bytes blk
  pos : at_ = t.length % 64
  rest : blk.take at_ = t.drop (64 * (t.length / 64))
theorem Holds.ok {t : List Int} {v : V} {blk : List Int} {a : Nat} (h : Holds t v blk a) : v.ok := by rw [h.v]; exact absorb_ok _ _
theorem Holds.lt {t : List Int} {v : V} {blk : List Int} {a : Nat} (h : Holds t v blk a) : a < 64 := by rw [h.pos]; omega
theorem holds_nil : Holds [] init (zeros 64) 0 := ⟨rfl, rfl, (by unfold bytes; decide), rfl, rfl⟩
theorem splice_len (blk q : List Int) (a : Nat) (h : a + q.length ≤ blk.length) : (splice blk a q).length = blk.length := length_splice _ _ _ h
theorem splice_bytes {blk q : List Int} (a : Nat) (hb : bytes blk) (hq : bytes q) : bytes (splice blk a q) :=
  bytes_append (bytes_take hb _) (bytes_append hq (bytes_drop hb _))
theorem splice_take (blk q : List Int) (a : Nat) (h : a + q.length ≤ blk.length) : (splice blk a q).take (a + q.length) = blk.take a ++ q := by
  unfold splice
  rw [← List.append_assoc, List.take_append_of_le_length (by simp; omega), List.take_of_length_le (by simp; omega)]
theorem Holds.feed {t : List Int} {v : V} {blk : List Int} {a : Nat} (h : Holds t v blk a) (q : List Int) (hq : bytes q) (hlt : a + q.length < 64) :
    Holds (t ++ q) v (splice blk a q) (a + q.length) := by
  have hl := h.len
  have ha := h.pos
  have hd : (t ++ q).length / 64 = t.length / 64 := by rw [List.length_append]; omega
  refine ⟨?_, by rw [splice_len _ _ _ (by omega)]; exact hl, splice_bytes _ h.byt hq, by rw [List.length_append]; omega, ?_⟩
  · rw [hd, absorb_append _ _ _ (by omega)]; exact h.v
  · rw [hd, splice_take _ _ _ (by omega), h.rest, List.drop_append_of_le_length (by omega)]
theorem Holds.full {t : List Int} {v : V} {blk : List Int} {a : Nat} (h : Holds t v blk a) (q : List Int) (hq : bytes q) (he : a + q.length = 64) :
    Holds (t ++ q) (mix v (splice blk a q)) (splice blk a q) 0 := by
  have hl := h.len
  have ha := h.pos
  have hd : (t ++ q).length / 64 = t.length / 64 + 1 := by rw [List.length_append]; omega
  have hs : splice blk a q = block (t ++ q) (t.length / 64) := by
    have h1 := splice_take blk q a (by omega)
    rw [List.take_of_length_le (by rw [splice_len blk q a (by omega)]; omega), h.rest] at h1
    rw [h1, block, List.drop_append_of_le_length (by omega), List.take_of_length_le (by simp; omega)]
  refine ⟨?_, by rw [splice_len _ _ _ (by omega)]; exact hl, splice_bytes _ h.byt hq, by rw [List.length_append]; omega, ?_⟩
  · rw [hd, absorb, absorb_append _ _ _ (by omega), ← h.v, ← hs]
  · rw [hd, List.take_zero, List.drop_eq_nil_of_le]; rw [List.length_append]; omega
theorem splice_hl (S blk q : List Int) (a n : Int) (i : Nat) (hS : S.length = 8) (h : i + q.length ≤ blk.length) : splice (hl S blk a n) (8 + i) (bcells q) = hl S (splice blk i q) a n := by
  have h8 : (wcells S).length = 8 := by simp [wcells, hS]
  have hbl : (bcells blk).length = blk.length := by simp [bcells]
  have hq : (bcells q).length = q.length := by simp [bcells]
  unfold splice hl
  have e1 : (wcells S ++ (bcells blk ++ [Value.int IntKind.i64 a, Value.int IntKind.u64 n])).take (8 + i) = wcells S ++ (bcells blk).take i := by
    rw [List.take_append, List.take_of_length_le (by omega), h8, show 8 + i - 8 = i by omega, List.take_append_of_le_length (by omega)]
  have e2 : (wcells S ++ (bcells blk ++ [Value.int IntKind.i64 a, Value.int IntKind.u64 n])).drop (8 + i + (bcells q).length) = (bcells blk).drop (i + q.length) ++ [Value.int IntKind.i64 a, Value.int IntKind.u64 n] := by
    rw [List.drop_append, List.drop_eq_nil_of_le (by omega), h8, hq, show 8 + i + q.length - 8 = i + q.length by omega, List.drop_append_of_le_length (by omega)]; rfl
  rw [e1, e2]
  simp [bcells, List.map_take, List.map_drop]
/-- a list of zeros in which the first k places are filled in -/
def fill (l : List Int) (k : Nat) : List Int := l.take k ++ zeros (l.length - k)
theorem length_fill (l : List Int) (k : Nat) (h : k ≤ l.length) : (fill l k).length = l.length := by simp [fill, zeros]; omega
theorem fill_zero (l : List Int) : fill l 0 = zeros l.length := by simp [fill]
theorem fill_all (l : List Int) : fill l l.length = l := by simp [fill, zeros]
theorem get_fill (l : List Int) (k j : Nat) (h : k ≤ j) (hj : j < l.length) : (fill l k)[j]? = some 0 := by
  rw [fill, List.getElem?_append_right (by simp; omega), zeros, List.getElem?_replicate, if_pos (by simp; omega)]
theorem set_fill (l : List Int) (k : Nat) (h : k < l.length) : (fill l k).set k (g l k) = fill l (k + 1) := by
  have hz : zeros (l.length - k) = 0 :: zeros (l.length - (k + 1)) := by
    have : l.length - k = (l.length - (k + 1)) + 1 := by omega
    rw [zeros, this, List.replicate_succ]; rfl
  have hk : (l.take k).length = k := by simp; omega
  rw [fill, hz, List.set_append_right _ _ (by omega), hk, Nat.sub_self, List.set_cons_zero, fill, List.take_succ_eq_append_getElem h, List.append_assoc, g, List.getElem?_eq_getElem h]
  rfl
theorem set_fill_b (l : List Int) (k : Nat) (h : k < l.length) (x : Int) (hx : x = g l k) : (bcells (fill l k)).set k (.int .u8 x) = bcells (fill l (k + 1)) := by
  rw [bcells, ← List.map_set, hx, set_fill l k h]; rfl
/-- eight bytes, the highest first -/
def be (L : Int) : List Int := [L / 72057594037927936 % 256, L / 281474976710656 % 256, L / 1099511627776 % 256, L / 4294967296 % 256, L / 16777216 % 256, L / 65536 % 256, L / 256 % 256, L % 256]
def room (a : Nat) : Nat := if a < 56 then 56 - a else 120 - a
def first (a : Nat) : List Int := (128 :: zeros 63).take (room a)
/-- what Sum writes behind a text -/
def tail (t : List Int) : List Int := first (t.length % 64) ++ be ((t.length : Int) * 8 % 18446744073709551616)
def word_bytes (x : Int) : List Int := [x / 16777216 % 256, x / 65536 % 256, x / 256 % 256, x % 256]
def out (v : V) : List Int := word_bytes v.a ++ (word_bytes v.b ++ (word_bytes v.c ++ (word_bytes v.d ++ (word_bytes v.e ++ (word_bytes v.f ++ (word_bytes v.g ++ word_bytes v.h))))))
/-- SHA-256 -/
def sha (t : List Int) : List Int := out (absorb (t ++ tail t) ((t ++ tail t).length / 64))
theorem g_be (L : Int) (k : Nat) (h : k < 8) : g (be L) k = L / 2 ^ (56 - 8 * k) % 256 := by
  rcases below8 h with rfl | rfl | rfl | rfl | rfl | rfl | rfl | rfl <;> simp [g, be]
theorem bytes_mod (x : Int) : 0 ≤ x % 256 ∧ x % 256 ≤ 255 := by omega
theorem bytes_be (L : Int) : bytes (be L) := by
  intro x hx; simp only [be, List.mem_cons, List.not_mem_nil, or_false] at hx
  rcases hx with rfl | rfl | rfl | rfl | rfl | rfl | rfl | rfl <;> exact bytes_mod _
theorem length_be (L : Int) : (be L).length = 8 := rfl
theorem bytes_word (x : Int) : bytes (word_bytes x) := by
  intro y hy; simp only [word_bytes, List.mem_cons, List.not_mem_nil, or_false] at hy
  rcases hy with rfl | rfl | rfl | rfl <;> exact bytes_mod _
theorem bytes_out (v : V) : bytes (out v) := by
  unfold out; repeat (first | exact bytes_word _ | refine bytes_append (bytes_word _) ?_)
theorem g_out (v : V) (k : Nat) (h : k < 8) : g (out v) (4 * k) = g v.list k / 16777216 % 256 ∧ g (out v) (4 * k + 1) = g v.list k / 65536 % 256 ∧ g (out v) (4 * k + 2) = g v.list k / 256 % 256 ∧ g (out v) (4 * k + 3) = g v.list k % 256 := by
  rcases below8 h with rfl | rfl | rfl | rfl | rfl | rfl | rfl | rfl <;> exact ⟨rfl, rfl, rfl, rfl⟩
theorem bytes_sha (t : List Int) : bytes (sha t) := bytes_out _
theorem length_out (v : V) : (out v).length = 32 := rfl
theorem length_sha (t : List Int) : (sha t).length = 32 := rfl
theorem room_le (a : Nat) (h : a < 64) : 1 ≤ room a ∧ room a ≤ 64 := by unfold room; split <;> omega
theorem length_first (a : Nat) (h : a < 64) : (first a).length = room a := by have := room_le a h; simp [first, zeros]; omega
theorem bytes_first (a : Nat) : bytes (first a) := bytes_take (by unfold bytes; decide) _
theorem sha_eq (t : List Int) : sha t = out (absorb (t ++ tail t) ((t ++ tail t).length / 64)) := rfl
attribute [irreducible] absorb sha out
end Sha
end Go.Proofs.YtlndgnlkfhlekaaDoor
