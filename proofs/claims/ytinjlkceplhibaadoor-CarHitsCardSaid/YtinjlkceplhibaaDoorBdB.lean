/- Boards: the plain law, part two: the program's answer is the document's; a board printed is read again. -/
import Derived.Test.YtinjlkceplhibaaDoorBdA
namespace Bd

def rim (W H i : Nat) : Prop := i % W = 0 ∨ i / W = 0 ∨ i % W = W - 1 ∨ i / W = H - 1
instance (W H i : Nat) : Decidable (rim W H i) := by unfold rim; infer_instance
/-- the rim made a wall -/
def close (W H : Nat) (D : List Int) : List Int := D.mapIdx fun i c => if rim W H i then 35 else c
/-- the middles of the spawns from a cell on -/
def spawnsFrom (W : Nat) : Nat → List Int → List (Int × Int)
  | _, [] => []
  | i, c :: r => if c = 83 then (((i % W : Nat) : Int) * 524288 + 262144, ((i / W : Nat) : Int) * 524288 + 262144) :: spawnsFrom W (i + 1) r else spawnsFrom W (i + 1) r
def spawns (W : Nat) (E : List Int) : List (Int × Int) := spawnsFrom W 0 E

inductive Res where
  | bad
  | place
  | board (W H : Nat) (E : List Int)

def shut (W H : Nat) (D : List Int) : Res := if spawns W (close W H D) = [] then .place else .board W H (close W H D)
/-- the program's answer -/
def read (cs : List Int) : Res := match go (-1) 0 0 [] cs with
  | none => .bad
  | some R => if R.w < 3 ∨ R.h < 3 ∨ 64 < R.w ∨ 64 < R.h then .bad else shut R.w.toNat R.h.toNat R.cs
instance (cs : List Int) : Decidable (ok cs) := by unfold ok; infer_instance
/-- the document's answer -/
noncomputable def doc (cs : List Int) : Res := open Classical in
  if ok cs ∧ good (spl [] cs) then shut ((spl [] cs).headD []).length (spl [] cs).length (spl [] cs).flatten else .bad

theorem read_doc (cs : List Int) : read cs = doc cs := by
  have h := go_spl cs (-1) 0 0 [] [] [] rfl rfl rfl (fun _ => rfl) (by simp) (by simp) (by simp) (by simp) (by simp) (fun _ => rfl)
  unfold read doc
  revert h
  cases go (-1) 0 0 [] cs with
  | none =>
    intro h
    simp only [List.nil_append] at h
    rw [if_neg]
    rintro ⟨a, b⟩
    rcases h with h | h
    · exact h a
    · exact h b
  | some R =>
    intro h
    simp only [List.nil_append] at h
    obtain ⟨h1, h2, h3, h4, h5, h6⟩ := h
    show (if R.w < 3 ∨ R.h < 3 ∨ 64 < R.w ∨ 64 < R.h then Res.bad else _) = _
    by_cases hb : R.w < 3 ∨ R.h < 3 ∨ 64 < R.w ∨ 64 < R.h
    · rw [if_pos hb, if_neg]
      rintro ⟨_, g1, g2, n, g3, g4, g5⟩
      have hn : spl [] cs ≠ [] := fun e => by rw [e] at g1; simp at g1
      obtain ⟨m, hm⟩ := List.exists_mem_of_ne_nil _ hn
      have := h4 m hm
      have := g5 m hm
      omega
    · rw [if_neg hb]
      have hn : spl [] cs ≠ [] := fun e => by rw [e] at h2; simp at h2; omega
      rw [if_pos ⟨h1, by omega, by omega, R.w.toNat, by omega, by omega, fun l hl => by have := h4 l hl; omega⟩]
      obtain ⟨m, q, e⟩ := List.exists_cons_of_ne_nil hn
      have := h4 m (by rw [e]; simp)
      rw [h3, e]
      have e2 : R.h.toNat = (m :: q).length := by rw [e] at h2; omega
      rw [e2]
      show shut _ _ _ = shut m.length _ _
      congr 1
      omega

/-- what a cell may be -/
def isCell (e : Int) : Prop := e = 35 ∨ e = 46 ∨ e = 83 ∨ e = 69 ∨ e = 65
theorem kind_cell {c : Int} (h : kind c ≠ 0) : isCell (kind c) := by
  unfold kind isCell at *
  split at h
  · simp_all
  · split at h
    · simp_all
    · split at h
      · simp_all
      · simp_all
theorem cell_kind {e : Int} (h : isCell e) : kind e = e ∧ e ≠ 0 ∧ e ≠ 10 := by
  rcases h with rfl | rfl | rfl | rfl | rfl <;> decide
theorem spl_cells (cs : List Int) : ∀ l, ok cs → (∀ e ∈ l, isCell e) → ∀ m ∈ spl l cs, ∀ e ∈ m, isCell e := by
  induction cs with
  | nil =>
    intro l _ hl m hm e he
    unfold spl at hm
    split at hm
    · simp at hm
    · obtain rfl : m = l := by simpa using hm
      exact hl e he
  | cons c r ih =>
    intro l hok hl m hm e he
    have hr : ok r := fun d hd => hok d (by simp [hd])
    unfold spl at hm
    split at hm
    · rcases List.mem_cons.1 hm with rfl | hm
      · exact hl e he
      · exact ih [] hr (by simp) m hm e he
    · next hc =>
      refine ih _ hr ?_ m hm e he
      intro e he
      rcases List.mem_append.1 he with he | he
      · exact hl e he
      · obtain rfl : e = kind c := by simpa using he
        rcases hok c (by simp) with h | h
        · exact absurd h hc
        · exact kind_cell h
theorem flatten_length {L : List (List Int)} {n : Nat} (h : ∀ l ∈ L, l.length = n) : L.flatten.length = n * L.length := by
  induction L with
  | nil => simp
  | cons l r ih =>
    rw [List.flatten_cons, List.length_append, h l (by simp), ih (fun m hm => h m (by simp [hm]))]
    simp [Nat.mul_add]
    omega
/-- a board as it is read -/
structure Fine (W H : Nat) (E : List Int) : Prop where
  w3 : 3 ≤ W
  w64 : W ≤ 64
  h3 : 3 ≤ H
  h64 : H ≤ 64
  len : E.length = W * H
  cell : ∀ e ∈ E, isCell e
  rim : ∀ i, i < W * H → rim W H i → E[i]? = some 35
  some : spawns W E ≠ []
theorem close_get (W H : Nat) (D : List Int) (i : Nat) : (close W H D)[i]? = (D[i]?).map fun c => if rim W H i then 35 else c := by
  unfold close
  rw [List.getElem?_mapIdx]
theorem read_fine {cs : List Int} {W H : Nat} {E : List Int} (h : read cs = .board W H E) : Fine W H E := by
  rw [read_doc] at h
  unfold doc at h
  split at h
  · next hg =>
    obtain ⟨hok, g1, g2, n, g3, g4, g5⟩ := hg
    unfold shut at h
    split at h
    · cases h
    · next hs =>
      obtain ⟨rfl, rfl, rfl⟩ : ((spl [] cs).headD []).length = W ∧ (spl [] cs).length = H ∧ close ((spl [] cs).headD []).length (spl [] cs).length (spl [] cs).flatten = E := by
        injection h with a b c
        exact ⟨a, b, c⟩
      obtain ⟨m, q, e⟩ := List.exists_cons_of_ne_nil (l := spl [] cs) (fun e => by rw [e] at g1; simp at g1)
      have hm : ((spl [] cs).headD []).length = n := by rw [e]; exact g5 m (by rw [e]; simp)
      rw [hm] at hs ⊢
      refine ⟨g3, g4, g1, g2, ?_, ?_, ?_, hs⟩
      · unfold close
        rw [List.length_mapIdx, flatten_length g5]
      · intro x hx
        obtain ⟨i, hi⟩ := List.getElem?_of_mem hx
        rw [close_get] at hi
        cases hd : (spl [] cs).flatten[i]? with
        | none => rw [hd] at hi; cases hi
        | some d =>
          rw [hd] at hi
          obtain rfl := Option.some.inj hi
          split
          · exact Or.inl rfl
          · have hmem := List.mem_of_getElem? hd
            obtain ⟨l, hl, hdl⟩ := List.mem_flatten.1 hmem
            exact spl_cells cs [] hok (by simp) l hl d hdl
      · intro i hi hr
        rw [close_get]
        have hl : i < (spl [] cs).flatten.length := by rw [flatten_length g5]; exact hi
        rw [List.getElem?_eq_getElem hl]
        simp [hr]
  · cases h
end Bd
