/- Boards: the plain law, part four: cells of any numbers, places, boxes. -/
import Derived.Test.YtinjlkceplhibaaDoorBdC
namespace Bd

/-- the cell of any two numbers -/
def cellOf (W H : Nat) (E : List Int) (x y : Int) : Int := if x < 0 ∨ y < 0 ∨ (W : Int) ≤ x ∨ (H : Int) ≤ y then 35 else (E[(y * W + x).toNat]?).getD 35
/-- which cell a part lies in -/
def num (a : Int) : Int := a / 524288
def atOf (W H : Nat) (E : List Int) (px py : Int) : Int := cellOf W H E (num px) (num py)
/-- the program's span -/
def lo (a half : Int) : Int := if 0 < half then (if -9223372036854775808 ≤ a - half then a - half else -9223372036854775808) else a
def hi (a half : Int) : Int := if 0 < half then (if a + (half - 1) ≤ 9223372036854775807 then a + (half - 1) else 9223372036854775807) else a
def clip (a : Int) (n : Nat) : Int := if a < -1 then -1 else if (n : Int) * 524288 + 1 < a then (n : Int) * 524288 + 1 else a
def first (a half : Int) (n : Nat) : Int := num (clip (lo a half) n)
def last (a half : Int) (n : Nat) : Int := num (clip (hi a half) n)
/-- is a wall among the cells from (x0, y0) to (x1, y1)? -/
def Wall (W H : Nat) (E : List Int) (x0 x1 y0 y1 : Int) : Prop := ∃ x y, (x0 ≤ x ∧ x ≤ x1) ∧ (y0 ≤ y ∧ y ≤ y1) ∧ cellOf W H E x y = 35
/-- the program's answer -/
def Blocked (W H : Nat) (E : List Int) (px py half : Int) : Prop := Wall W H E (first px half W) (last px half W) (first py half H) (last py half H)
/-- the document's span -/
def far (a : Int) : Int := if a < -1099511627776 then -1099511627776 else if 1099511627776 < a then 1099511627776 else a
def half' (h : Int) : Int := if 4398046511104 < h then 4398046511104 else h
def rfirst (a half : Int) : Int := if half < 1 then num a else num (far a - half' half)
def rlast (a half : Int) : Int := if half < 1 then num a else num (far a + half' half - 1)
def RBlocked (W H : Nat) (E : List Int) (px py half : Int) : Prop :=
  rfirst px half < 0 ∨ rfirst py half < 0 ∨ (W : Int) ≤ rlast px half ∨ (H : Int) ≤ rlast py half ∨ Wall W H E (rfirst px half) (rlast px half) (rfirst py half) (rlast py half)

def I64 (a : Int) : Prop := -9223372036854775808 ≤ a ∧ a ≤ 9223372036854775807

theorem first_le_last {a half : Int} (n : Nat) (ha : I64 a) : first a half n ≤ last a half n := by
  unfold first last num clip lo hi I64 at *
  repeat' split
  all_goals omega
theorem rfirst_le_rlast (a half : Int) : rfirst a half ≤ rlast a half := by
  unfold rfirst rlast num half'
  repeat' split
  all_goals omega
/-- the two spans: alike, or both touch what lies outside -/
theorem span_alike {a half : Int} {n : Nat} (ha : I64 a) (hh : I64 half) (hn : 3 ≤ n ∧ n ≤ 64) :
    (rfirst a half < 0 ∧ first a half n < 0) ∨ ((n : Int) ≤ rlast a half ∧ (n : Int) ≤ last a half n) ∨ (0 ≤ rfirst a half ∧ rlast a half < n ∧ first a half n = rfirst a half ∧ last a half n = rlast a half) := by
  unfold first last rfirst rlast num clip lo hi far half' I64 at *
  repeat' split
  all_goals omega
theorem cellOf_out {W H : Nat} {E : List Int} {x y : Int} (h : x < 0 ∨ y < 0 ∨ (W : Int) ≤ x ∨ (H : Int) ≤ y) : cellOf W H E x y = 35 := by
  unfold cellOf
  rw [if_pos h]
theorem blocked_alike {W H : Nat} {E : List Int} {px py half : Int} (hx : I64 px) (hy : I64 py) (hh : I64 half) (hW : 3 ≤ W ∧ W ≤ 64) (hH : 3 ≤ H ∧ H ≤ 64) : Blocked W H E px py half ↔ RBlocked W H E px py half := by
  have fx := first_le_last (half := half) W hx
  have fy := first_le_last (half := half) H hy
  unfold Blocked RBlocked
  rcases span_alike hx hh hW with ⟨h1, h2⟩ | ⟨h1, h2⟩ | ⟨h1, h2, h3, h4⟩
  · exact ⟨fun _ => Or.inl h1, fun _ => ⟨first px half W, first py half H, ⟨by omega, fx⟩, ⟨by omega, fy⟩, cellOf_out (by omega)⟩⟩
  · exact ⟨fun _ => Or.inr (Or.inr (Or.inl h1)), fun _ => ⟨last px half W, first py half H, ⟨fx, by omega⟩, ⟨by omega, fy⟩, cellOf_out (by omega)⟩⟩
  · rcases span_alike hy hh hH with ⟨k1, k2⟩ | ⟨k1, k2⟩ | ⟨k1, k2, k3, k4⟩
    · exact ⟨fun _ => Or.inr (Or.inl k1), fun _ => ⟨first px half W, first py half H, ⟨by omega, fx⟩, ⟨by omega, fy⟩, cellOf_out (by omega)⟩⟩
    · exact ⟨fun _ => Or.inr (Or.inr (Or.inr (Or.inl k1))), fun _ => ⟨first px half W, last py half H, ⟨by omega, fx⟩, ⟨fy, by omega⟩, cellOf_out (by omega)⟩⟩
    · rw [h3, h4, k3, k4]
      exact ⟨fun h => Or.inr (Or.inr (Or.inr (Or.inr h))), fun h => by
        rcases h with h | h | h | h | h
        · omega
        · omega
        · omega
        · omega
        · exact h⟩
end Bd
