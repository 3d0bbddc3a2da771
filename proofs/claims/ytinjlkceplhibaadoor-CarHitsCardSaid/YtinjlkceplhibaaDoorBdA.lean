/- Boards: the plain law: what the program's reading and the document's make of a list of runes. -/
import Derived.Laws.RangeAny
namespace Bd

/-- what a rune is; 0: none -/
def kind (c : Int) : Int := if c = 35 ∨ c = 9608 then 35 else if c = 46 ∨ c = 32 then 46 else if c = 83 ∨ c = 69 ∨ c = 65 then c else 0

/-- what is read, ahead of the checks -/
structure Raw where
  w : Int
  h : Int
  cs : List Int

/-- the program's reading -/
def go : Int → Int → Int → List Int → List Int → Option Raw
  | w, _, h, C, [] => some ⟨w, h, C⟩
  | w, x, h, C, c :: r =>
    if c = 10 then (if (0 ≤ w ∧ x ≠ w) ∨ x = 0 then none else go x 0 (h + 1) C r)
    else if kind c = 0 ∨ h = 64 ∨ x = 64 then none
    else if r = [] then (if 0 ≤ w ∧ x + 1 ≠ w then none else some ⟨x + 1, h + 1, C ++ [kind c]⟩)
    else go w (x + 1) h (C ++ [kind c]) r

/-- the document's lines -/
def spl : List Int → List Int → List (List Int)
  | l, [] => if l = [] then [] else [l]
  | l, c :: r => if c = 10 then l :: spl [] r else spl (l ++ [kind c]) r

def ok (cs : List Int) : Prop := ∀ c ∈ cs, c = 10 ∨ kind c ≠ 0
def good (L : List (List Int)) : Prop := 3 ≤ L.length ∧ L.length ≤ 64 ∧ ∃ w, 3 ≤ w ∧ w ≤ 64 ∧ ∀ l ∈ L, l.length = w

theorem spl_ne (cs : List Int) : ∀ l, l ≠ [] → spl l cs ≠ [] := by
  induction cs with
  | nil => intro l h; simp [spl, h]
  | cons c r ih =>
    intro l h
    unfold spl
    split
    · simp
    · exact ih _ (by simp)
theorem spl_cons (c : Int) (r l : List Int) : spl l (c :: r) ≠ [] := by
  unfold spl
  split
  · simp
  · exact spl_ne r _ (by simp)
/-- the first line to come is at least as long as what is there of it -/
theorem spl_first (cs : List Int) : ∀ l, l ≠ [] → ∃ m r, spl l cs = m :: r ∧ l.length ≤ m.length := by
  induction cs with
  | nil => intro l h; exact ⟨l, [], by simp [spl, h], Nat.le_refl _⟩
  | cons c r ih =>
    intro l h
    unfold spl
    split
    · exact ⟨l, _, rfl, Nat.le_refl _⟩
    · obtain ⟨m, q, e, hm⟩ := ih (l ++ [kind c]) (by simp)
      exact ⟨m, q, e, by simp at hm; omega⟩

theorem go_spl (cs : List Int) : ∀ (w x h : Int) (C : List Int) (L : List (List Int)) (l : List Int), C = L.flatten ++ l → x = l.length → h = L.length → (L = [] → w = -1) → (∀ m ∈ L, (m.length : Int) = w) → (L ≠ [] → 1 ≤ w) → (l.length ≤ 64) → (L.length ≤ 64) → (L.length = 64 → l = []) → (cs = [] → l = []) →
    match go w x h C cs with
    | some R => ok cs ∧ R.h = (L ++ spl l cs).length ∧ R.cs = (L ++ spl l cs).flatten ∧ (∀ m ∈ L ++ spl l cs, (m.length : Int) = R.w) ∧ (L ++ spl l cs = [] → R.w = -1) ∧ (L ++ spl l cs ≠ [] → 1 ≤ R.w)
    | none => ¬ ok cs ∨ ¬ good (L ++ spl l cs) := by
  induction cs with
  | nil =>
    intro w x h C L l hC hx hh h0 hL h1 hl h64 hz he
    obtain rfl := he rfl
    simp only [go, spl, if_true, List.append_nil] at *
    exact ⟨by intro c hc; simp at hc, hh, hC, hL, h0, h1⟩
  | cons c r ih =>
    intro w x h C L l hC hx hh h0 hL h1 hl h64 hz he
    rw [show go w x h C (c :: r) = if c = 10 then (if (0 ≤ w ∧ x ≠ w) ∨ x = 0 then none else go x 0 (h + 1) C r)
      else if kind c = 0 ∨ h = 64 ∨ x = 64 then none
      else if r = [] then (if 0 ≤ w ∧ x + 1 ≠ w then none else some ⟨x + 1, h + 1, C ++ [kind c]⟩)
      else go w (x + 1) h (C ++ [kind c]) r from by rw [go]]
    by_cases hc : c = 10
    · have es : spl l (c :: r) = l :: spl [] r := by simp [spl, hc]
      rw [if_pos hc, es]
      by_cases hb : (0 ≤ w ∧ x ≠ w) ∨ x = 0
      · rw [if_pos hb]
        right
        rintro ⟨g1, g2, n, g3, g4, g5⟩
        have hn := g5 l (by simp)
        rcases hb with ⟨b1, b2⟩ | b1
        · have hLn : L ≠ [] := fun e => by have := h0 e; omega
          obtain ⟨m, hm⟩ := List.exists_mem_of_ne_nil L hLn
          have := hL m hm
          have := g5 m (by simp [hm])
          omega
        · omega
      · rw [if_neg hb]
        have hl0 : l ≠ [] := fun e => hb (Or.inr (by rw [hx, e]; rfl))
        have hq : L.length ≠ 64 := fun e => hl0 (hz e)
        have := ih x 0 (h + 1) C (L ++ [l]) [] (by simp [hC]) (by simp) (by simp [hh]) (by simp) (by
            intro m hm
            rcases List.mem_append.1 hm with hm | hm
            · have h2 := hL m hm
              have : L ≠ [] := fun e => by rw [e] at hm; simp at hm
              have := h1 this
              omega
            · obtain rfl : m = l := by simpa using hm
              exact hx.symm) (by intro _; omega) (by simp) (by simp; omega) (by simp) (by simp)
        simp only [List.append_assoc, List.singleton_append] at this
        revert this
        cases go x 0 (h + 1) C r with
        | some R =>
          rintro ⟨a1, a2⟩
          exact ⟨fun d hd => by
              rcases List.mem_cons.1 hd with rfl | hd
              · exact Or.inl hc
              · exact a1 d hd, a2⟩
        | none =>
          rintro (a | a)
          · exact Or.inl (fun h => a (fun d hd => h d (by simp [hd])))
          · exact Or.inr a
    · have es : spl l (c :: r) = spl (l ++ [kind c]) r := by simp [spl, hc]
      rw [if_neg hc, es]
      by_cases hb : kind c = 0 ∨ h = 64 ∨ x = 64
      · rw [if_pos hb]
        by_cases hk : kind c = 0
        · exact Or.inl (fun h => by
            rcases h c (by simp) with h | h
            · exact hc h
            · exact h hk)
        · right
          obtain ⟨m, q, e, hm⟩ := spl_first r (l ++ [kind c]) (by simp)
          rw [e]
          rintro ⟨g1, g2, n, g3, g4, g5⟩
          have := g5 m (by simp)
          simp at g2 hm
          omega
      · rw [if_neg hb]
        have hk : kind c ≠ 0 := fun e => hb (Or.inl e)
        by_cases hr : r = []
        · rw [if_pos hr]
          subst hr
          have e2 : spl (l ++ [kind c]) [] = [l ++ [kind c]] := by simp [spl]
          rw [e2]
          by_cases hw : 0 ≤ w ∧ x + 1 ≠ w
          · rw [if_pos hw]
            right
            rintro ⟨g1, g2, n, g3, g4, g5⟩
            have hn := g5 (l ++ [kind c]) (by simp)
            have hLn : L ≠ [] := fun e => by have := h0 e; omega
            obtain ⟨m, hm⟩ := List.exists_mem_of_ne_nil L hLn
            have := hL m hm
            have := g5 m (by simp [hm])
            simp at hn
            omega
          · rw [if_neg hw]
            refine ⟨fun d hd => ?_, ?_, ?_, ?_, ?_, ?_⟩
            · obtain rfl : d = c := by simpa using hd
              exact Or.inr hk
            · simp [hh]
            · simp [hC]
            · intro m hm
              rcases List.mem_append.1 hm with hm | hm
              · have h2 := hL m hm
                have : L ≠ [] := fun e => by rw [e] at hm; simp at hm
                have := h1 this
                show _ = x + 1
                omega
              · obtain rfl : m = l ++ [kind c] := by simpa using hm
                simp [hx]
            · simp
            · intro _
              show 1 ≤ x + 1
              omega
        · rw [if_neg hr]
          have := ih w (x + 1) h (C ++ [kind c]) L (l ++ [kind c]) (by simp [hC]) (by simp [hx]) hh h0 hL h1 (by simp; omega) h64 (by omega) (fun e => absurd e hr)
          revert this
          cases go w (x + 1) h (C ++ [kind c]) r with
          | some R =>
            rintro ⟨a1, a2⟩
            exact ⟨fun d hd => by
              rcases List.mem_cons.1 hd with rfl | hd
              · exact Or.inr hk
              · exact a1 d hd, a2⟩
          | none =>
            rintro (a | a)
            · exact Or.inl (fun h => a (fun d hd => h d (by simp [hd])))
            · exact Or.inr a
end Bd
