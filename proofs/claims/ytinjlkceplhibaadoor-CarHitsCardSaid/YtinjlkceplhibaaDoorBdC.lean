/- Boards: the plain law, part three: lines, texts; a board that is printed is read again. -/
import Derived.Test.YtinjlkceplhibaaDoorBdB
namespace Bd

def row (W : Nat) (E : List Int) (y : Nat) : List Int := (E.drop (y * W)).take W
def rows (W H : Nat) (E : List Int) : List (List Int) := (List.range H).map (row W E)
/-- what is printed, as runes -/
def txt (W H : Nat) (E : List Int) : List Int := (rows W H E).flatMap fun l => l ++ [10]

theorem rows_take (W : Nat) (E : List Int) (H : Nat) : (rows W H E).flatten = E.take (H * W) := by
  induction H with
  | zero => simp [rows]
  | succ H ih =>
    have e : rows W (H + 1) E = rows W H E ++ [row W E H] := by simp [rows, List.range_succ]
    rw [e, List.flatten_append, ih, Nat.succ_mul, List.take_add]
    simp [row]
theorem rows_flat {W H : Nat} {E : List Int} (h : E.length = W * H) : (rows W H E).flatten = E := by
  rw [rows_take, List.take_of_length_le]
  rw [h, Nat.mul_comm]
  exact Nat.le_refl _
theorem rows_len {W H : Nat} {E : List Int} (h : E.length = W * H) : ∀ l ∈ rows W H E, l.length = W := by
  intro l hl
  obtain ⟨y, hy, rfl⟩ := List.mem_map.1 hl
  have hy : y < H := List.mem_range.1 hy
  unfold row
  rw [List.length_take, List.length_drop, h]
  have : (y + 1) * W ≤ H * W := Nat.mul_le_mul_right W hy
  rw [Nat.succ_mul, Nat.mul_comm H W] at this
  omega
theorem spl_rows (L : List (List Int)) (h : ∀ l ∈ L, ∀ e ∈ l, isCell e) : spl [] (L.flatMap fun l => l ++ [10]) = L := by
  have key : ∀ (l : List Int) (p q : List Int), (∀ e ∈ l, isCell e) → spl p (l ++ 10 :: q) = (p ++ l) :: spl [] q := by
    intro l
    induction l with
    | nil => intro p q _; simp [spl]
    | cons c r ih =>
      intro p q hl
      have hc := cell_kind (hl c (by simp))
      rw [List.cons_append]
      rw [spl, if_neg hc.2.2, hc.1, ih _ _ (fun e he => hl e (by simp [he]))]
      simp
  induction L with
  | nil => rfl
  | cons l r ih =>
    rw [List.flatMap_cons, List.append_assoc, List.singleton_append, key l [] _ (h l (by simp)), ih (fun m hm => h m (by simp [hm]))]
    rfl
theorem rows_cell {W H : Nat} {E : List Int} (h : ∀ e ∈ E, isCell e) : ∀ l ∈ rows W H E, ∀ e ∈ l, isCell e := by
  intro l hl e he
  obtain ⟨y, _, rfl⟩ := List.mem_map.1 hl
  exact h e (List.mem_of_mem_drop (List.mem_of_mem_take he))
theorem close_same {W H : Nat} {E : List Int} (hl : E.length = W * H) (h : ∀ i, i < W * H → rim W H i → E[i]? = some 35) : close W H E = E := by
  apply List.ext_getElem?
  intro i
  rw [close_get]
  by_cases hi : i < W * H
  · by_cases hr : rim W H i
    · rw [h i hi hr]; simp
    · simp [hr]
  · rw [List.getElem?_eq_none (by omega)]; rfl
theorem read_txt {W H : Nat} {E : List Int} (h : Fine W H E) : read (txt W H E) = .board W H E := by
  have hs : spl [] (txt W H E) = rows W H E := spl_rows _ (rows_cell h.cell)
  have hl : (rows W H E).length = H := by simp [rows]
  have hlen := rows_len h.len
  have hok : ok (txt W H E) := by
    intro c hc
    obtain ⟨l, hl, hc⟩ := List.mem_flatMap.1 hc
    rcases List.mem_append.1 hc with hc | hc
    · exact Or.inr (by have := cell_kind (rows_cell h.cell l hl c hc); rw [this.1]; exact this.2.1)
    · exact Or.inl (by simpa using hc)
  rw [read_doc]
  unfold doc
  rw [hs, if_pos ⟨hok, by rw [hl]; exact h.h3, by rw [hl]; exact h.h64, W, h.w3, h.w64, hlen⟩, hl, rows_flat h.len]
  have e : ((rows W H E).headD []).length = W := by
    obtain ⟨m, q, e⟩ := List.exists_cons_of_ne_nil (l := rows W H E) (fun e => by rw [e] at hl; have := h.h3; simp at hl; omega)
    rw [e]
    exact hlen m (by rw [e]; simp)
  rw [e]
  unfold shut
  rw [close_same h.len h.rim, if_neg h.some]

/-- the runes of a text from a byte on -/
def runesAt (s : ByteArray) : Nat → Nat → List Int
  | 0, _ => []
  | f + 1, p => if p < s.size then ((Go.Utf8.decode s p).1 : Int) :: runesAt s f (p + (Go.Utf8.decode s p).2) else []
def runes (s : ByteArray) : List Int := runesAt s s.size 0

theorem width_pos (s : ByteArray) (pos : Nat) (h : pos < s.size) : 1 ≤ (Go.Utf8.decode s pos).2 := by
  by_cases ha : (s[pos]'h).toNat < 128
  · rw [Go.decode_ascii s pos h ha]
    exact Nat.le_refl _
  · exact (Go.decode_high s pos h (by omega)).2
theorem runesAt_fuel (s : ByteArray) : ∀ f g p, s.size ≤ p + f → s.size ≤ p + g → runesAt s f p = runesAt s g p := by
  intro f
  induction f with
  | zero =>
    intro g p hf hg
    cases g with
    | zero => rfl
    | succ g => unfold runesAt; rw [if_neg (by omega)]
  | succ f ih =>
    intro g p hf hg
    cases g with
    | zero => unfold runesAt; rw [if_neg (by omega)]
    | succ g =>
      unfold runesAt
      by_cases hp : p < s.size
      · have := width_pos s p hp
        rw [if_pos hp, if_pos hp, ih g _ (by omega) (by omega)]
      · rw [if_neg hp, if_neg hp]
theorem runesAt_end (s : ByteArray) (f p : Nat) (h : ¬ p < s.size) : runesAt s f p = [] := by
  cases f with
  | zero => rfl
  | succ f => unfold runesAt; rw [if_neg h]
theorem runesAt_next (s : ByteArray) (f p : Nat) (h : p < s.size) (hf : s.size ≤ p + f) : runesAt s f p = ((Go.Utf8.decode s p).1 : Int) :: runesAt s f (p + (Go.Utf8.decode s p).2) := by
  cases f with
  | zero => omega
  | succ f =>
    have := width_pos s p h
    conv => lhs; unfold runesAt
    rw [if_pos h, runesAt_fuel s f (f + 1) _ (by omega) (by omega)]
theorem runesAt_nil (s : ByteArray) (f p : Nat) (hf : s.size ≤ p + f) : runesAt s f p = [] ↔ s.size ≤ p := by
  constructor
  · intro h
    by_cases hp : p < s.size
    · rw [runesAt_next s f p hp hf] at h; cases h
    · omega
  · intro h
    exact runesAt_end s f p (by omega)
theorem runes_ascii (s : ByteArray) (h : ∀ b ∈ s.data.toList, b.toNat < 128) : runes s = s.data.toList.map fun b => (b.toNat : Int) := by
  have key : ∀ f p, s.size ≤ p + f → runesAt s f p = (s.data.toList.drop p).map fun b => (b.toNat : Int) := by
    intro f
    induction f with
    | zero =>
      intro p hf
      rw [List.drop_of_length_le (by simpa using hf)]
      rfl
    | succ f ih =>
      intro p hf
      by_cases hp : p < s.size
      · have hb : (s[p]'hp).toNat < 128 := h _ (by
          show s.data[p] ∈ _
          simp)
        unfold runesAt
        rw [if_pos hp, Go.decode_ascii s p hp hb, ih _ (by omega), List.drop_eq_getElem_cons (i := p) (by simpa using hp)]
        simp
        rfl
      · rw [runesAt_end s _ _ hp, List.drop_of_length_le (by simp; exact Nat.le_of_not_lt hp)]
        rfl
  rw [runes, key _ _ (by omega)]
  simp
/-- a rune that is a cell takes as many bytes as its own text has -/
theorem cell_width (s : ByteArray) (p : Nat) (h : p < s.size) (hk : kind ((Go.Utf8.decode s p).1 : Int) ≠ 0) : (Go.Utf8.decode s p).2 = (Go.Utf8.encode ((Go.Utf8.decode s p).1 : Int)).size ∧ p + (Go.Utf8.decode s p).2 ≤ s.size := by
  by_cases ha : (s[p]'h).toNat < 128
  · rw [Go.decode_ascii s p h ha] at hk ⊢
    generalize (s[p]'h).toNat = c at ha hk
    have hv : Go.Utf8.valid (c : Int) = true := by unfold Go.Utf8.valid; simp; omega
    have : (Go.Utf8.encode (c : Int)).size = 1 := by
      unfold Go.Utf8.encode
      simp only [hv, if_true, Int.toNat_natCast]
      rw [if_pos (by omega)]
      rfl
    exact ⟨this.symm, h⟩
  · have hd := Go.decode_high s p h (by omega)
    have h88 : (Go.Utf8.decode s p).1 = 9608 := by
      unfold kind at hk
      repeat' split at hk
      all_goals omega
    rw [h88]
    have : (Go.Utf8.encode ((9608 : Nat) : Int)).size = 3 := by decide +kernel
    rw [this]
    have hb : ∀ k, (s.get! (p + k)).toNat < 256 := fun k => (s.get! (p + k)).toNat_lt
    have h0 := hb 0; have h1 := hb 1; have h2 := hb 2; have h3 := hb 3
    revert h88
    unfold Go.Utf8.decode
    simp only [Go.Utf8.runeError]
    repeat' split
    all_goals simp_all
    all_goals omega
end Bd
