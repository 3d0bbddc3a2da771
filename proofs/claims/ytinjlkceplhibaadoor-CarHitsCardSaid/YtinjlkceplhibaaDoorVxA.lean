/- Numbers: the plain law of fix and vec: bounds, products rounded towards less, distances. -/
import Derived.Test.YtinjlkceplhibaaDoorBdD
import Derived.Laws.Bits64
import Derived.Laws.BitsLemmas
namespace Vx
open Go Bd

/-- within Max -/
def lim (x : Int) : Int := if x < -1099511627776 then -1099511627776 else if 1099511627776 < x then 1099511627776 else x
def mag (a : Int) : Int := if a < 0 then -a else a
theorem mag_bd {a : Int} (h : I64 a) : 0 ≤ mag a ∧ mag a ≤ 9223372036854775808 := by unfold mag; unfold I64 at h; split <;> omega
theorem and32 {x : Int} (h : 0 ≤ x ∧ x < 18446744073709551616) : Go.bits .and .u64 x 4294967295 = x % 4294967296 := by
  obtain ⟨y, rfl⟩ : ∃ y : Nat, x = y := ⟨x.toNat, by omega⟩
  have h1 : (BitVec.ofInt 64 (y : Int)).toNat = y := by rw [BitVec.ofInt_natCast, BitVec.toNat_ofNat]; exact Nat.mod_eq_of_lt (by omega)
  have h2 : (BitVec.ofInt 64 4294967295).toNat = 4294967295 := by decide
  show IntKind.u64.wrap ((BitVec.ofInt 64 (y : Int) &&& BitVec.ofInt 64 4294967295).toNat : Int) = _
  rw [BitVec.toNat_and, h1, h2, show (4294967295 : Nat) = 2 ^ 32 - 1 by decide, Nat.and_two_pow_sub_one_eq_mod, IntKind.wrap_u64]
  omega
theorem and16 {x : Int} (h : 0 ≤ x ∧ x < 18446744073709551616) : Go.bits .and .u64 x 65535 = x % 65536 := by
  obtain ⟨y, rfl⟩ : ∃ y : Nat, x = y := ⟨x.toNat, by omega⟩
  have h1 : (BitVec.ofInt 64 (y : Int)).toNat = y := by rw [BitVec.ofInt_natCast, BitVec.toNat_ofNat]; exact Nat.mod_eq_of_lt (by omega)
  have h2 : (BitVec.ofInt 64 65535).toNat = 65535 := by decide
  show IntKind.u64.wrap ((BitVec.ofInt 64 (y : Int) &&& BitVec.ofInt 64 65535).toNat : Int) = _
  rw [BitVec.toNat_and, h1, h2, show (65535 : Nat) = 2 ^ 16 - 1 by decide, Nat.and_two_pow_sub_one_eq_mod, IntKind.wrap_u64]
  omega
/-- 'or' of two numbers whose bits do not meet -/
theorem or_add {x y : Int} (i : Nat) (hi : i ≤ 64) (hx : 0 ≤ x ∧ x < 18446744073709551616) (hm : x % 2 ^ i = 0) (hy : 0 ≤ y ∧ y < 2 ^ i) : Go.bits .or .u64 x y = x + y := by
  obtain ⟨a, rfl⟩ : ∃ a : Nat, x = a := ⟨x.toNat, by omega⟩
  obtain ⟨b, rfl⟩ : ∃ b : Nat, y = b := ⟨y.toNat, by omega⟩
  have e1 : ((2 : Int) ^ i) = ((2 ^ i : Nat) : Int) := by simp
  rw [e1] at hm hy
  have hp : 2 ^ i ≤ 2 ^ 64 := Nat.pow_le_pow_right (by decide) hi
  have hb : b < 2 ^ i := by omega
  have hma : a % 2 ^ i = 0 := by omega
  have h1 : (BitVec.ofInt 64 (a : Int)).toNat = a := by rw [BitVec.ofInt_natCast, BitVec.toNat_ofNat]; exact Nat.mod_eq_of_lt (by omega)
  have h2 : (BitVec.ofInt 64 (b : Int)).toNat = b := by rw [BitVec.ofInt_natCast, BitVec.toNat_ofNat]; exact Nat.mod_eq_of_lt (by omega)
  have h3 : a ||| b = a + b := by
    have h4 := Nat.two_pow_add_eq_or_of_lt (i := i) (b := b) hb (a / 2 ^ i)
    have h5 : 2 ^ i * (a / 2 ^ i) = a := by have := Nat.div_add_mod a (2 ^ i); omega
    rw [h5] at h4
    exact h4.symm
  have h6 : a + b < 2 ^ 64 := by
    have h7 : a / 2 ^ i * 2 ^ i = a := by have := Nat.div_add_mod a (2 ^ i); rw [Nat.mul_comm] at this; omega
    have h8 : a / 2 ^ i < 2 ^ (64 - i) := by
      apply Nat.div_lt_of_lt_mul
      rw [← Nat.pow_add, show i + (64 - i) = 64 by omega]; omega
    have h9 : (a / 2 ^ i + 1) * 2 ^ i ≤ 2 ^ (64 - i) * 2 ^ i := Nat.mul_le_mul_right _ h8
    rw [← Nat.pow_add, show 64 - i + i = 64 by omega, Nat.add_mul, Nat.one_mul, h7] at h9
    omega
  show IntKind.u64.wrap ((BitVec.ofInt 64 (a : Int) ||| BitVec.ofInt 64 (b : Int)).toNat : Int) = _
  rw [BitVec.toNat_or, h1, h2, h3, IntKind.wrap_u64]
  omega
theorem mul_bd {a b m n : Int} (ha : 0 ≤ a ∧ a ≤ m) (hb : 0 ≤ b ∧ b ≤ n) : 0 ≤ a * b ∧ a * b ≤ m * n :=
  ⟨Int.mul_nonneg ha.1 hb.1, Int.le_trans (Int.mul_le_mul_of_nonneg_right ha.2 hb.1) (Int.mul_le_mul_of_nonneg_left hb.2 (by omega))⟩
theorem tdiv_pos {a b : Int} (h : 0 ≤ a) : Int.tdiv a b = a / b := Int.tdiv_eq_ediv_of_nonneg h
theorem tmod_pos {a b : Int} (h : 0 ≤ a) : Int.tmod a b = a % b := Int.tmod_eq_emod_of_nonneg h
/-- the product of two numbers in Q16.16: rounded towards less, within Max -/
def mulV (a b : Int) : Int := lim (a * b / 65536)
/-- the number of a size q (cut off), below 0 if n -/
def sgn (n : Bool) (q : Int) (c : Bool) : Int := if n then lim (-(q + if c then 1 else 0)) else lim q
theorem mag_mul (a b : Int) : mag a * mag b = mag (a * b) := by
  unfold mag
  by_cases h1 : a < 0 <;> by_cases h2 : b < 0
  · have := Int.mul_pos_of_neg_of_neg h1 h2
    rw [if_pos h1, if_pos h2, if_neg (by omega)]; grind
  · rw [if_pos h1, if_neg h2]
    by_cases h3 : b = 0
    · subst h3; simp
    · have := Int.mul_neg_of_neg_of_pos h1 (by omega : 0 < b)
      rw [if_pos this]; grind
  · rw [if_neg h1, if_pos h2]
    by_cases h3 : a = 0
    · subst h3; simp
    · have := Int.mul_neg_of_pos_of_neg (by omega : 0 < a) h2
      rw [if_pos this]; grind
  · have := Int.mul_nonneg (by omega : 0 ≤ a) (by omega : 0 ≤ b)
    rw [if_neg h1, if_neg h2, if_neg (by omega)]
/-- of a number P and its sign -/
theorem sgn_mul (a b : Int) : (∃ P _n : Int, 0 ≤ P ∧ mag (a * b) = P ∧ (((decide (a < 0)) != (decide (b < 0))) = true ∧ a * b = -P ∨ ((decide (a < 0)) != (decide (b < 0))) = false ∧ a * b = P)) := by
  refine ⟨_, 0, ?_, rfl, ?_⟩
  · unfold mag; split <;> omega
  · by_cases h1 : a < 0 <;> by_cases h2 : b < 0
    · have := Int.mul_pos_of_neg_of_neg h1 h2
      right; rw [decide_eq_true h1, decide_eq_true h2]; exact ⟨rfl, by unfold mag; rw [if_neg (by omega)]⟩
    · have : a * b ≤ 0 := Int.mul_nonpos_of_nonpos_of_nonneg (by omega) (by omega)
      left; rw [decide_eq_true h1, decide_eq_false h2]; exact ⟨rfl, by unfold mag; split <;> omega⟩
    · have : a * b ≤ 0 := Int.mul_nonpos_of_nonneg_of_nonpos (by omega) (by omega)
      left; rw [decide_eq_false h1, decide_eq_true h2]; exact ⟨rfl, by unfold mag; split <;> omega⟩
    · have := Int.mul_nonneg (by omega : 0 ≤ a) (by omega : 0 ≤ b)
      right; rw [decide_eq_false h1, decide_eq_false h2]; exact ⟨rfl, by unfold mag; rw [if_neg (by omega)]⟩
theorem bne0 (x : Int) : (x != 0) = decide (x ≠ 0) := by by_cases h : x = 0 <;> simp [h]
theorem lim_in (x : Int) : -1099511627776 ≤ lim x ∧ lim x ≤ 1099511627776 := by unfold lim; repeat' split
                                                                                all_goals omega
/-- within m on both sides -/
def keep (x m : Int) : Int := if x > m then m else if x < -m then -m else x
theorem keep_bd {x m : Int} (h : 0 ≤ m) : -m ≤ keep x m ∧ keep x m ≤ m := by
  unfold keep
  repeat' split
  all_goals omega
theorem keep_lim (x : Int) : keep x 1099511627776 = lim x := by
  unfold keep lim
  repeat' split
  all_goals omega
theorem keep_id {x m : Int} (h : -m ≤ x ∧ x ≤ m) : keep x m = x := by
  unfold keep
  repeat' split
  all_goals omega
/-- a sum that is too great for an int64 is the greatest -/
def sat (x : Int) : Int := if 9223372036854775807 < x then 9223372036854775807 else if x < -9223372036854775808 then -9223372036854775808 else x
theorem sat_keep (x : Int) {m : Int} (h : 0 ≤ m ∧ m ≤ 9223372036854775807) : keep (sat x) m = keep x m := by
  unfold keep sat
  repeat' split
  all_goals omega
theorem sat_lim (x : Int) : lim (sat x) = lim x := by rw [← keep_lim, ← keep_lim, sat_keep x (by decide)]
/-- the bound that Cap takes -/
def capM (k : Int) : Int := if k < 0 then 0 else if k > 1099511627776 then 1099511627776 else k
theorem capM_bd (k : Int) : 0 ≤ capM k ∧ capM k ≤ 1099511627776 := by
  unfold capM
  repeat' split
  all_goals omega
/-- a difference, as far as distances count it -/
def dif (a b : Int) : Int := keep (a - b) 2147483647
theorem dif_bd (a b : Int) : -2147483647 ≤ dif a b ∧ dif a b ≤ 2147483647 := keep_bd (by decide)
def sq (x : Int) : Int := x * x
theorem sq_bd {x m : Int} (h : -m ≤ x ∧ x ≤ m) : 0 ≤ sq x ∧ sq x ≤ m * m := by
  have h1 : mag x * mag x = mag (x * x) := mag_mul x x
  have h2 := mul_bd (show 0 ≤ mag x ∧ mag x ≤ m by unfold mag; split <;> omega) (show 0 ≤ mag x ∧ mag x ≤ m by unfold mag; split <;> omega)
  have h3 : 0 ≤ x * x := by
    by_cases h : 0 ≤ x
    · exact Int.mul_nonneg h h
    · have := Int.mul_pos_of_neg_of_neg (show x < 0 by omega) (show x < 0 by omega); omega
  rw [h1] at h2
  unfold mag at h2
  rw [if_neg (by omega)] at h2
  exact h2
/-- the squared distance -/
def dist (a b c d : Int) : Int := sq (dif c a) + sq (dif d b)
theorem dist_bd (a b c d : Int) : 0 ≤ dist a b c d ∧ dist a b c d ≤ 9223372028264841218 := by
  have h1 := sq_bd (dif_bd c a)
  have h2 := sq_bd (dif_bd d b)
  unfold dist
  omega
theorem dif_neg (a b : Int) : dif a b = - dif b a := by
  unfold dif keep
  repeat' split
  all_goals omega
theorem sq_neg (x : Int) : sq (-x) = sq x := by unfold sq; grind
/-- is the way at most r? -/
def nearB (a b c d r : Int) : Bool := if r < 0 then false else if r ≥ 3037000500 then true else decide (dist a b c d ≤ r * r)
end Vx
