/- Boards: the plain law, part five: boxes near the board; spawns in their order. -/
import Derived.Test.YtinjlkceplhibaaDoorBdD
namespace Bd

/-- a box of a small half is blocked just if a cell under it is wall -/
theorem blocked_near {W H : Nat} {E : List Int} {px py half : Int} (hx : -1099511627776 ≤ px ∧ px ≤ 1099511627776) (hy : -1099511627776 ≤ py ∧ py ≤ 1099511627776) (hh : 1 ≤ half ∧ half ≤ 4398046511104) (hW : 3 ≤ W ∧ W ≤ 64) (hH : 3 ≤ H ∧ H ≤ 64) :
    Blocked W H E px py half ↔ Wall W H E (num (px - half)) (num (px + half - 1)) (num (py - half)) (num (py + half - 1)) := by
  rw [blocked_alike (by unfold I64; omega) (by unfold I64; omega) (by unfold I64; omega) hW hH]
  have e1 : far px = px := by unfold far; repeat' split
                              all_goals omega
  have e2 : far py = py := by unfold far; repeat' split
                              all_goals omega
  have e3 : half' half = half := by unfold half'; split <;> omega
  have f1 : num (px - half) ≤ num (px + half - 1) := by unfold num; omega
  have f2 : num (py - half) ≤ num (py + half - 1) := by unfold num; omega
  unfold RBlocked rfirst rlast
  rw [if_neg (by omega), if_neg (by omega), if_neg (by omega), if_neg (by omega), e1, e2, e3]
  constructor
  · rintro (h | h | h | h | h)
    · exact ⟨_, _, ⟨Int.le_refl _, f1⟩, ⟨Int.le_refl _, f2⟩, cellOf_out (Or.inl h)⟩
    · exact ⟨_, _, ⟨Int.le_refl _, f1⟩, ⟨Int.le_refl _, f2⟩, cellOf_out (Or.inr (Or.inl h))⟩
    · exact ⟨_, _, ⟨f1, Int.le_refl _⟩, ⟨Int.le_refl _, f2⟩, cellOf_out (Or.inr (Or.inr (Or.inl h)))⟩
    · exact ⟨_, _, ⟨Int.le_refl _, f1⟩, ⟨f2, Int.le_refl _⟩, cellOf_out (Or.inr (Or.inr (Or.inr h)))⟩
    · exact h
  · exact fun h => Or.inr (Or.inr (Or.inr (Or.inr h)))
theorem blocked_point {W H : Nat} {E : List Int} {px py half : Int} (hx : I64 px) (hy : I64 py) (hh : half < 1) (h64 : I64 half) (hW : 3 ≤ W ∧ W ≤ 64) (hH : 3 ≤ H ∧ H ≤ 64) :
    Blocked W H E px py half ↔ atOf W H E px py = 35 := by
  rw [blocked_alike hx hy h64 hW hH]
  unfold RBlocked rfirst rlast atOf
  rw [if_pos hh, if_pos hh, if_pos hh, if_pos hh]
  constructor
  · rintro (h | h | h | h | ⟨x, y, ⟨h1, h2⟩, ⟨h3, h4⟩, h⟩)
    · exact cellOf_out (Or.inl h)
    · exact cellOf_out (Or.inr (Or.inl h))
    · exact cellOf_out (Or.inr (Or.inr (Or.inl h)))
    · exact cellOf_out (Or.inr (Or.inr (Or.inr h)))
    · obtain rfl : x = num px := by omega
      obtain rfl : y = num py := by omega
      exact h
  · exact fun h => Or.inr (Or.inr (Or.inr (Or.inr ⟨_, _, ⟨Int.le_refl _, Int.le_refl _⟩, ⟨Int.le_refl _, Int.le_refl _⟩, h⟩)))
theorem wall_mono {W H : Nat} {E : List Int} {a b c d a' b' c' d' : Int} (h : Wall W H E a b c d) (h1 : a' ≤ a) (h2 : b ≤ b') (h3 : c' ≤ c) (h4 : d ≤ d') : Wall W H E a' b' c' d' := by
  obtain ⟨x, y, hx, hy, h⟩ := h
  exact ⟨x, y, ⟨by omega, by omega⟩, ⟨by omega, by omega⟩, h⟩
theorem num_mono {a b : Int} (h : a ≤ b) : num a ≤ num b := by unfold num; omega
theorem blocked_mono {W H : Nat} {E : List Int} {px py h1 h2 : Int} (hx : -1099511627776 ≤ px ∧ px ≤ 1099511627776) (hy : -1099511627776 ≤ py ∧ py ≤ 1099511627776) (hh : 1 ≤ h1 ∧ h1 ≤ h2 ∧ h2 ≤ 4398046511104) (hW : 3 ≤ W ∧ W ≤ 64) (hH : 3 ≤ H ∧ H ≤ 64) :
    Blocked W H E px py h1 → Blocked W H E px py h2 := by
  rw [blocked_near hx hy ⟨hh.1, by omega⟩ hW hH, blocked_near hx hy ⟨by omega, hh.2.2⟩ hW hH]
  intro h
  exact wall_mono h (num_mono (by omega)) (num_mono (by omega)) (num_mono (by omega)) (num_mono (by omega))
theorem point_box {W H : Nat} {E : List Int} {px py half : Int} (hx : -1099511627776 ≤ px ∧ px ≤ 1099511627776) (hy : -1099511627776 ≤ py ∧ py ≤ 1099511627776) (hh : 1 ≤ half ∧ half ≤ 4398046511104) (hW : 3 ≤ W ∧ W ≤ 64) (hH : 3 ≤ H ∧ H ≤ 64) (h : atOf W H E px py = 35) : Blocked W H E px py half :=
  (blocked_near hx hy hh hW hH).2 ⟨num px, num py, ⟨num_mono (by omega), num_mono (by omega)⟩, ⟨num_mono (by omega), num_mono (by omega)⟩, h⟩

/-- where the next cell begins, or the last place; behind that, beyond -/
def nextc (x last : Int) : Int := if last ≤ x then last + 1 else if last < (x / 524288) * 524288 + 524288 then last else (x / 524288) * 524288 + 524288
theorem nextc_lt {x last : Int} (h : x < last) : x < nextc x last ∧ nextc x last ≤ last ∧ num (nextc x last) ≤ num x + 1 := by
  unfold nextc num
  repeat' split
  all_goals omega
theorem nextc_ge {x last : Int} (h : last ≤ x) : nextc x last = last + 1 := by unfold nextc; rw [if_pos h]

/-- the spawns, by the numbers of their cells -/
def mid (W i : Nat) : Int × Int := (((i % W : Nat) : Int) * 524288 + 262144, ((i / W : Nat) : Int) * 524288 + 262144)
theorem spawnsFrom_mem (W : Nat) (E : List Int) : ∀ i p, p ∈ spawnsFrom W i E → ∃ j, E[j]? = some 83 ∧ p = mid W (i + j) := by
  induction E with
  | nil => intro i p h; simp [spawnsFrom] at h
  | cons c r ih =>
    intro i p h
    unfold spawnsFrom at h
    split at h
    · next hc =>
      rcases List.mem_cons.1 h with rfl | h
      · exact ⟨0, by simp [hc], rfl⟩
      · obtain ⟨j, h1, h2⟩ := ih _ _ h
        exact ⟨j + 1, by simpa using h1, by rw [h2]; congr 1; omega⟩
    · obtain ⟨j, h1, h2⟩ := ih _ _ h
      exact ⟨j + 1, by simpa using h1, by rw [h2]; congr 1; omega⟩
/-- one spawn lies ahead of another -/
def ahead (p q : Int × Int) : Prop := p.2 < q.2 ∨ p.2 = q.2 ∧ p.1 < q.1
theorem mid_ahead {W i j : Nat} (hW : 0 < W) (h : i < j) : ahead (mid W i) (mid W j) := by
  unfold ahead mid
  have hi := Nat.div_add_mod i W
  have hj := Nat.div_add_mod j W
  have mi := Nat.mod_lt i hW
  have mj := Nat.mod_lt j hW
  have hd : i / W ≤ j / W := Nat.div_le_div_right (Nat.le_of_lt h)
  rcases Nat.lt_or_eq_of_le hd with h1 | h1
  · left
    show ((i / W : Nat) : Int) * 524288 + 262144 < ((j / W : Nat) : Int) * 524288 + 262144
    omega
  · right
    rw [h1] at hi
    refine ⟨?_, ?_⟩
    · show ((i / W : Nat) : Int) * 524288 + 262144 = ((j / W : Nat) : Int) * 524288 + 262144
      rw [h1]
    · show ((i % W : Nat) : Int) * 524288 + 262144 < ((j % W : Nat) : Int) * 524288 + 262144
      omega
theorem spawnsFrom_sorted (W : Nat) (hW : 0 < W) (E : List Int) : ∀ i, (spawnsFrom W i E).Pairwise ahead := by
  induction E with
  | nil => intro i; exact List.Pairwise.nil
  | cons c r ih =>
    intro i
    unfold spawnsFrom
    split
    · refine List.Pairwise.cons ?_ (ih _)
      intro q hq
      obtain ⟨j, _, rfl⟩ := spawnsFrom_mem W r _ _ hq
      exact mid_ahead hW (by omega)
    · exact ih _
theorem spawnsFrom_length (W : Nat) (E : List Int) : ∀ i, (spawnsFrom W i E).length = E.count 83 := by
  induction E with
  | nil => intro i; rfl
  | cons c r ih =>
    intro i
    unfold spawnsFrom
    split
    · next h => subst h; simp [ih]
    · next h => rw [ih, List.count_cons_of_ne h]
/-- a cell by its number -/
theorem cellOf_at {W H : Nat} {E : List Int} (hl : E.length = W * H) {i : Nat} {e : Int} (h : E[i]? = some e) : cellOf W H E ((i % W : Nat) : Int) ((i / W : Nat) : Int) = e := by
  have hi := (List.getElem?_eq_some_iff.1 h).1
  have hW : 0 < W := by
    rcases Nat.eq_zero_or_pos W with e | e
    · rw [hl, e, Nat.zero_mul] at hi; omega
    · exact e
  have h1 := Nat.mod_lt i hW
  have h2 : i / W < H := by
    rw [Nat.div_lt_iff_lt_mul hW, Nat.mul_comm]
    omega
  have h3 := Nat.div_add_mod i W
  generalize i / W = q at *
  generalize i % W = m at *
  unfold cellOf
  rw [if_neg (by omega)]
  have : ((q : Int) * (W : Int) + (m : Int)).toNat = i := by
    have : (q : Int) * (W : Int) = ((W * q : Nat) : Int) := by rw [Int.natCast_mul, Int.mul_comm]
    rw [this]
    omega
  rw [this, h]
  rfl
end Bd
