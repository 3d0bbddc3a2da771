/- fix: what the printed functions come to: sizes, products, sums. -/
import Derived.Test.YtnknbikkgohlmaaDoorVFixBx1
import Derived.Test.YtnknbikkgohlmaaDoorVFixBx2
import Derived.Test.YtnknbikkgohlmaaDoorVFixBx3
import Derived.Test.YtnknbikkgohlmaaDoorVFixBx4
namespace Go.Proofs.YtnknbikkgohlmaaDoor.FixM
open Go.RowKit Go.Proofs.YtnknbikkgohlmaaDoor Go.Proofs.YtnknbikkgohlmaaDoor.VFixB Go.Proofs.YtnknbikkgohlmaaDoorW.PrintWords Go.Proofs.YtnknbikkgohlmaaDoorW.PrintLast Go.Proofs.YtnknbikkgohlmaaDoorW.PrintMore

/-- an int64 -/
def I64 (a : Int) : Prop := -9223372036854775808 ≤ a ∧ a ≤ 9223372036854775807
/-- within Max -/
def lim (x : Int) : Int := if x < -1099511627776 then -1099511627776 else if 1099511627776 < x then 1099511627776 else x
def mag (a : Int) : Int := if a < 0 then -a else a
theorem mag_bd {a : Int} (h : I64 a) : 0 ≤ mag a ∧ mag a ≤ 9223372036854775808 := by unfold mag; unfold I64 at h; split <;> omega
theorem u64_self {n : Int} (h : 0 ≤ n ∧ n < 18446744073709551616) : IntKind.u64.wrap n = n := by rw [IntKind.wrap_u64]; omega
theorem w64_self {n : Int} (h : I64 n) : wrap64 n = n := by unfold wrap64; unfold I64 at h; omega

theorem size_eq {a : Int} (h : I64 a) : fix_size.f a = some (mag a) := by
  unfold fix_size.f mag; unfold I64 at h
  rw [IntKind.wrap_u64, IntKind.wrap_u64]
  split <;> congr 1 <;> omega
theorem rsize_eq {a : Int} (h : I64 a) : joustref03_size.f a = some (mag a) := by
  unfold joustref03_size.f mag wrap64; unfold I64 at h
  rw [IntKind.wrap_u64, IntKind.wrap_u64, IntKind.wrap_u64]
  split <;> congr 1 <;> omega
theorem bounded_eq (x : Int) : fix_bounded.f x = some (lim x) := by
  unfold fix_bounded.f fix_Clamp.f mn mx lim
  simp only [Option.bind_some]
  congr 1
  repeat' split
  all_goals omega
theorem rclamp_eq (x : Int) : joustref03_Clamp.f x (-1099511627776) 1099511627776 = some (lim x) := by
  unfold joustref03_Clamp.f lim
  split <;> split <;> first | rfl | (split <;> first | rfl | omega) | omega

theorem add_eq (k : Nat) {a b : Int} (ha : I64 a) (hb : I64 b) : fix_Add.f (k + 1) a b = some (lim (a + b)) := by
  unfold fix_Add.f
  simp only [fix_Add.j0, bounded_eq, Option.bind_some]
  unfold I64 at ha hb
  have hw : wrap64 (a + b) = a + b ∨ (a + b > 9223372036854775807 ∧ wrap64 (a + b) = a + b - 18446744073709551616) ∨ (a + b < -9223372036854775808 ∧ wrap64 (a + b) = a + b + 18446744073709551616) := by unfold wrap64; omega
  generalize wrap64 (a + b) = s at *
  unfold lim
  repeat' split
  all_goals simp_all
  all_goals omega
theorem radd_eq (k : Nat) {a b : Int} (ha : I64 a) (hb : I64 b) : joustref03_Add.f (k + 1) a b = some (lim (a + b)) := by
  unfold joustref03_Add.f
  rw [rclamp_eq, rsize_eq ha, rsize_eq hb]
  simp only [joustref03_Add.j0, joustref03_bounded.f, Option.bind_some, IntKind.wrap_u64]
  unfold I64 at ha hb
  have hm : mag a = a ∧ 0 ≤ a ∨ mag a = -a ∧ a < 0 := by unfold mag; split <;> omega
  have hn : mag b = b ∧ 0 ≤ b ∨ mag b = -b ∧ b < 0 := by unfold mag; split <;> omega
  generalize mag a = x at *
  generalize mag b = y at *
  by_cases h1 : a < 0 <;> by_cases h2 : b < 0 <;> simp only [h1, h2, decide_true, decide_false, bne_self_eq_false, Bool.false_eq_true, if_false, if_true, bne_iff_ne, ne_eq, not_false_eq_true, reduceCtorEq]
  all_goals unfold wrap64 lim
  all_goals repeat' split
  all_goals first | (congr 1; omega) | omega | (simp_all; done) | (simp_all; omega)

theorem and32 {x : Int} (h : 0 ≤ x ∧ x < 18446744073709551616) : Go.bits .and .u64 x 4294967295 = x % 4294967296 := by
  obtain ⟨y, rfl⟩ : ∃ y : Nat, x = y := ⟨x.toNat, by omega⟩
  have h1 : (BitVec.ofInt 64 (y : Int)).toNat = y := by rw [BitVec.ofInt_natCast, BitVec.toNat_ofNat]; exact Nat.mod_eq_of_lt (by omega)
  have h2 : (BitVec.ofInt 64 4294967295).toNat = 4294967295 := by decide
  show IntKind.u64.wrap ((BitVec.ofInt 64 (y : Int) &&& BitVec.ofInt 64 4294967295).toNat : Int) = _
  rw [BitVec.toNat_and, h1, h2, show (4294967295 : Nat) = 2 ^ 32 - 1 by decide, Nat.and_two_pow_sub_one_eq_mod, IntKind.wrap_u64]
  omega
theorem and16 {x : Int} (h : 0 ≤ x ∧ x < 18446744073709551616) : Go.bits .and .u64 x 65535 = x % 65536 := by
  obtain ⟨y, rfl⟩ : ∃ y : Nat, x = y := ⟨x.toNat, by omega⟩
  have h1 : (BitVec.ofInt 64 (y : Int)).toNat = y := by rw [BitVec.ofInt_natCast, BitVec.toNat_ofNat]; exact Nat.mod_eq_of_lt (by omega)
  have h2 : (BitVec.ofInt 64 65535).toNat = 65535 := by decide
  show IntKind.u64.wrap ((BitVec.ofInt 64 (y : Int) &&& BitVec.ofInt 64 65535).toNat : Int) = _
  rw [BitVec.toNat_and, h1, h2, show (65535 : Nat) = 2 ^ 16 - 1 by decide, Nat.and_two_pow_sub_one_eq_mod, IntKind.wrap_u64]
  omega
/-- 'or' of two numbers whose bits do not meet -/
theorem or_add {x y : Int} (i : Nat) (hi : i ≤ 64) (hx : 0 ≤ x ∧ x < 18446744073709551616) (hm : x % 2 ^ i = 0) (hy : 0 ≤ y ∧ y < 2 ^ i) : Go.bits .or .u64 x y = x + y := by
  obtain ⟨a, rfl⟩ : ∃ a : Nat, x = a := ⟨x.toNat, by omega⟩
  obtain ⟨b, rfl⟩ : ∃ b : Nat, y = b := ⟨y.toNat, by omega⟩
  have e1 : ((2 : Int) ^ i) = ((2 ^ i : Nat) : Int) := by simp
  rw [e1] at hm hy
  have hp : 2 ^ i ≤ 2 ^ 64 := Nat.pow_le_pow_right (by decide) hi
  have hb : b < 2 ^ i := by omega
  have hma : a % 2 ^ i = 0 := by omega
  have h1 : (BitVec.ofInt 64 (a : Int)).toNat = a := by rw [BitVec.ofInt_natCast, BitVec.toNat_ofNat]; exact Nat.mod_eq_of_lt (by omega)
  have h2 : (BitVec.ofInt 64 (b : Int)).toNat = b := by rw [BitVec.ofInt_natCast, BitVec.toNat_ofNat]; exact Nat.mod_eq_of_lt (by omega)
  have h3 : a ||| b = a + b := by
    have h4 := Nat.two_pow_add_eq_or_of_lt (i := i) (b := b) hb (a / 2 ^ i)
    have h5 : 2 ^ i * (a / 2 ^ i) = a := by have := Nat.div_add_mod a (2 ^ i); omega
    rw [h5] at h4
    exact h4.symm
  have h6 : a + b < 2 ^ 64 := by
    have h7 : a / 2 ^ i * 2 ^ i = a := by have := Nat.div_add_mod a (2 ^ i); rw [Nat.mul_comm] at this; omega
    have h8 : a / 2 ^ i < 2 ^ (64 - i) := by
      apply Nat.div_lt_of_lt_mul
      rw [← Nat.pow_add, show i + (64 - i) = 64 by omega]; omega
    have h9 : (a / 2 ^ i + 1) * 2 ^ i ≤ 2 ^ (64 - i) * 2 ^ i := Nat.mul_le_mul_right _ h8
    rw [← Nat.pow_add, show 64 - i + i = 64 by omega, Nat.add_mul, Nat.one_mul, h7] at h9
    omega
  show IntKind.u64.wrap ((BitVec.ofInt 64 (a : Int) ||| BitVec.ofInt 64 (b : Int)).toNat : Int) = _
  rw [BitVec.toNat_or, h1, h2, h3, IntKind.wrap_u64]
  omega

theorem mul_bd {a b m n : Int} (ha : 0 ≤ a ∧ a ≤ m) (hb : 0 ≤ b ∧ b ≤ n) : 0 ≤ a * b ∧ a * b ≤ m * n :=
  ⟨Int.mul_nonneg ha.1 hb.1, Int.le_trans (Int.mul_le_mul_of_nonneg_right ha.2 hb.1) (Int.mul_le_mul_of_nonneg_left hb.2 (by omega))⟩
theorem mul64_eq {a b : Int} (ha : 0 ≤ a ∧ a < 18446744073709551616) (hb : 0 ≤ b ∧ b < 18446744073709551616) : bits_Mul64.f a b = some (a * b / 18446744073709551616, a * b % 18446744073709551616) := by
  unfold bits_Mul64.f
  obtain ⟨a1, a0, rfl, h1, h2⟩ : ∃ a1 a0 : Int, a = a1 * 4294967296 + a0 ∧ (0 ≤ a1 ∧ a1 ≤ 4294967295) ∧ (0 ≤ a0 ∧ a0 ≤ 4294967295) := ⟨a / 4294967296, a % 4294967296, by omega, by omega, by omega⟩
  obtain ⟨b1, b0, rfl, h3, h4⟩ : ∃ b1 b0 : Int, b = b1 * 4294967296 + b0 ∧ (0 ≤ b1 ∧ b1 ≤ 4294967295) ∧ (0 ≤ b0 ∧ b0 ≤ 4294967295) := ⟨b / 4294967296, b % 4294967296, by omega, by omega, by omega⟩
  have e1 : (a1 * 4294967296 + a0) / 4294967296 = a1 := by omega
  have e2 : (b1 * 4294967296 + b0) / 4294967296 = b1 := by omega
  rw [and32 ha, and32 hb, e1, e2, show (a1 * 4294967296 + a0) % 4294967296 = a0 by omega, show (b1 * 4294967296 + b0) % 4294967296 = b0 by omega]
  have hp : (a1 * 4294967296 + a0) * (b1 * 4294967296 + b0) = (a1 * b1) * 18446744073709551616 + (a1 * b0 + a0 * b1) * 4294967296 + a0 * b0 := by grind
  rw [hp]
  have p11 := mul_bd h1 h3
  have p10 := mul_bd h1 h4
  have p01 := mul_bd h2 h3
  have p00 := mul_bd h2 h4
  generalize a1 * b1 = P11 at *
  generalize a1 * b0 = P10 at *
  generalize a0 * b1 = P01 at *
  generalize a0 * b0 = P00 at *
  clear hp e1 e2 h1 h2 h3 h4 ha hb
  rw [u64_self (n := P11) (by omega), u64_self (n := P10) (by omega), u64_self (n := P00) (by omega), u64_self (n := P01) (by omega)]
  rw [u64_self (n := P10 + P00 / 4294967296) (by omega), and32 (by omega)]
  rw [u64_self (n := (P10 + P00 / 4294967296) % 4294967296 + P01) (by omega), u64_self (n := P11 + (P10 + P00 / 4294967296) / 4294967296) (by omega)]
  rw [u64_self (n := P11 + (P10 + P00 / 4294967296) / 4294967296 + ((P10 + P00 / 4294967296) % 4294967296 + P01) / 4294967296) (by omega)]
  rw [IntKind.wrap_u64]
  congr 2
  omega

theorem tdiv_pos {a b : Int} (h : 0 ≤ a) : Int.tdiv a b = a / b := Int.tdiv_eq_ediv_of_nonneg h
theorem tmod_pos {a b : Int} (h : 0 ≤ a) : Int.tmod a b = a % b := Int.tmod_eq_emod_of_nonneg h
theorem product_eq {a b : Int} (ha : 0 ≤ a ∧ a < 18446744073709551616) (hb : 0 ≤ b ∧ b < 18446744073709551616) : joustref03_product.f a b = some (a * b / 18446744073709551616, a * b % 18446744073709551616) := by
  unfold joustref03_product.f
  obtain ⟨a1, a0, rfl, h1, h2⟩ : ∃ a1 a0 : Int, a = a1 * 4294967296 + a0 ∧ (0 ≤ a1 ∧ a1 ≤ 4294967295) ∧ (0 ≤ a0 ∧ a0 ≤ 4294967295) := ⟨a / 4294967296, a % 4294967296, by omega, by omega, by omega⟩
  obtain ⟨b1, b0, rfl, h3, h4⟩ : ∃ b1 b0 : Int, b = b1 * 4294967296 + b0 ∧ (0 ≤ b1 ∧ b1 ≤ 4294967295) ∧ (0 ≤ b0 ∧ b0 ≤ 4294967295) := ⟨b / 4294967296, b % 4294967296, by omega, by omega, by omega⟩
  have e1 : Int.tdiv (a1 * 4294967296 + a0) 4294967296 = a1 := by rw [tdiv_pos ha.1]; omega
  have e2 : Int.tdiv (b1 * 4294967296 + b0) 4294967296 = b1 := by rw [tdiv_pos hb.1]; omega
  have e3 : Int.tmod (a1 * 4294967296 + a0) 4294967296 = a0 := by rw [tmod_pos ha.1]; omega
  have e4 : Int.tmod (b1 * 4294967296 + b0) 4294967296 = b0 := by rw [tmod_pos hb.1]; omega
  rw [e1, e2, e3, e4]
  have hp : (a1 * 4294967296 + a0) * (b1 * 4294967296 + b0) = (a1 * b1) * 18446744073709551616 + (a1 * b0 + a0 * b1) * 4294967296 + a0 * b0 := by grind
  rw [hp]
  rw [u64_self (n := a1) (by omega), u64_self (n := b1) (by omega)]
  have p11 := mul_bd h1 h3
  have p10 := mul_bd h1 h4
  have p01 := mul_bd h2 h3
  have p00 := mul_bd h2 h4
  generalize a1 * b1 = P11 at *
  generalize a1 * b0 = P10 at *
  generalize a0 * b1 = P01 at *
  generalize a0 * b0 = P00 at *
  clear hp e1 e2 e3 e4 h1 h2 h3 h4 ha hb
  rw [u64_self (n := P11) (by omega), u64_self (n := P10) (by omega), u64_self (n := P00) (by omega), u64_self (n := P01) (by omega)]
  rw [tdiv_pos (a := P00) (by omega), tmod_pos (a := P00) (by omega), u64_self (n := P00 / 4294967296) (by omega)]
  rw [u64_self (n := P10 + P00 / 4294967296) (by omega), tdiv_pos (a := P10 + P00 / 4294967296) (by omega), tmod_pos (a := P10 + P00 / 4294967296) (by omega)]
  rw [u64_self (n := (P10 + P00 / 4294967296) / 4294967296) (by omega), u64_self (n := P11 + (P10 + P00 / 4294967296) / 4294967296) (by omega)]
  rw [u64_self (n := P01 + (P10 + P00 / 4294967296) % 4294967296) (by omega), tdiv_pos (a := P01 + (P10 + P00 / 4294967296) % 4294967296) (by omega)]
  rw [u64_self (n := (P01 + (P10 + P00 / 4294967296) % 4294967296) / 4294967296) (by omega)]
  rw [IntKind.wrap_u64, IntKind.wrap_u64, IntKind.wrap_u64]
  congr 2 <;> omega

/-- the product of two numbers in Q16.16: rounded towards less, within Max -/
def mulV (a b : Int) : Int := lim (a * b / 65536)
/-- the number of a size q (cut off), below 0 if n -/
def sgn (n : Bool) (q : Int) (c : Bool) : Int := if n then lim (-(q + if c then 1 else 0)) else lim q
theorem signed_eq {q : Int} (n c : Bool) (hq : 0 ≤ q ∧ q < 18446744073709551616) : fix_signed.f q n c = some (sgn n q c) := by
  unfold fix_signed.f sgn
  simp only [bounded_eq, Option.bind_some, IntKind.wrap_u64]
  have hm : mn q 2199023255552 = q ∧ q ≤ 2199023255552 ∨ mn q 2199023255552 = 2199023255552 ∧ 2199023255552 < q := by unfold mn; split <;> omega
  generalize mn q 2199023255552 = m at *
  cases n <;> cases c <;> simp only [if_true, if_false, Bool.false_eq_true] <;> congr 1 <;> unfold lim wrap64 <;> repeat' split
  all_goals omega
theorem mag_mul (a b : Int) : mag a * mag b = mag (a * b) := by
  unfold mag
  by_cases h1 : a < 0 <;> by_cases h2 : b < 0
  · have := Int.mul_pos_of_neg_of_neg h1 h2
    rw [if_pos h1, if_pos h2, if_neg (by omega)]; grind
  · rw [if_pos h1, if_neg h2]
    by_cases h3 : b = 0
    · subst h3; simp
    · have := Int.mul_neg_of_neg_of_pos h1 (by omega : 0 < b)
      rw [if_pos this]; grind
  · rw [if_neg h1, if_pos h2]
    by_cases h3 : a = 0
    · subst h3; simp
    · have := Int.mul_neg_of_pos_of_neg (by omega : 0 < a) h2
      rw [if_pos this]; grind
  · have := Int.mul_nonneg (by omega : 0 ≤ a) (by omega : 0 ≤ b)
    rw [if_neg h1, if_neg h2, if_neg (by omega)]
/-- of a number P and its sign -/
theorem sgn_mul (a b : Int) : (∃ P _n : Int, 0 ≤ P ∧ mag (a * b) = P ∧ (((decide (a < 0)) != (decide (b < 0))) = true ∧ a * b = -P ∨ ((decide (a < 0)) != (decide (b < 0))) = false ∧ a * b = P)) := by
  refine ⟨_, 0, ?_, rfl, ?_⟩
  · unfold mag; split <;> omega
  · by_cases h1 : a < 0 <;> by_cases h2 : b < 0
    · have := Int.mul_pos_of_neg_of_neg h1 h2
      right; rw [decide_eq_true h1, decide_eq_true h2]; exact ⟨rfl, by unfold mag; rw [if_neg (by omega)]⟩
    · have : a * b ≤ 0 := Int.mul_nonpos_of_nonpos_of_nonneg (by omega) (by omega)
      left; rw [decide_eq_true h1, decide_eq_false h2]; exact ⟨rfl, by unfold mag; split <;> omega⟩
    · have : a * b ≤ 0 := Int.mul_nonpos_of_nonneg_of_nonpos (by omega) (by omega)
      left; rw [decide_eq_false h1, decide_eq_true h2]; exact ⟨rfl, by unfold mag; split <;> omega⟩
    · have := Int.mul_nonneg (by omega : 0 ≤ a) (by omega : 0 ≤ b)
      right; rw [decide_eq_false h1, decide_eq_false h2]; exact ⟨rfl, by unfold mag; rw [if_neg (by omega)]⟩
theorem bne0 (x : Int) : (x != 0) = decide (x ≠ 0) := by by_cases h : x = 0 <;> simp [h]
theorem mul_eq {a b : Int} (ha : I64 a) (hb : I64 b) : fix_Mul.f a b = some (mulV a b) := by
  unfold fix_Mul.f mulV
  have m1 := mag_bd ha
  have m2 := mag_bd hb
  rw [size_eq ha, size_eq hb]
  simp only [Option.bind_some]
  rw [mul64_eq (by omega) (by omega)]
  simp only [Option.bind_some]
  have m3 := mul_bd m1 m2
  rw [mag_mul] at *
  obtain ⟨P, _, hP, h1, h2⟩ := sgn_mul a b
  rw [h1] at *
  have hc : (18446744073709551615 : Int) = 18446744073709551615 := rfl
  have ho : Go.bits .or .u64 (65535 * 281474976710656) (18446744073709551615 / 65536) = 18446744073709551615 := by decide
  have hx : (Go.bits .and .u64 18446744073709551615 65535 != 0) = true := by decide
  rw [ho, hx]
  by_cases h3 : P / 18446744073709551616 ≥ 65536
  · rw [if_pos h3, signed_eq _ _ (by omega)]
    simp only [Option.bind_some]
    congr 1
    rcases h2 with ⟨h4, h5⟩ | ⟨h4, h5⟩ <;> rw [h4, h5] <;> unfold sgn lim <;> simp only [if_true, if_false, Bool.false_eq_true] <;> repeat' split
    all_goals omega
  · rw [if_neg h3, u64_self (n := P / 18446744073709551616 * 281474976710656) (by omega), or_add 48 (by decide) (by omega) (by omega) (by omega), and16 (by omega), signed_eq _ _ (by omega), bne0]
    simp only [Option.bind_some]
    congr 1
    rcases h2 with ⟨h4, h5⟩ | ⟨h4, h5⟩ <;> rw [h4, h5] <;> unfold sgn lim <;> simp only [if_true, if_false, Bool.false_eq_true, decide_eq_true_eq] <;> repeat' split
    all_goals omega
theorem rbounded_eq {q : Int} (n : Bool) (hq : 0 ≤ q ∧ q < 18446744073709551616) : joustref03_bounded.f n q = some (if n then lim (-q) else lim q) := by
  unfold joustref03_bounded.f
  cases n <;> simp only [if_true, if_false, Bool.false_eq_true] <;> unfold lim wrap64 <;> repeat' split
  all_goals first | rfl | omega | (congr 1; omega)
theorem rmul_eq {a b : Int} (ha : I64 a) (hb : I64 b) : joustref03_Mul.f a b = some (mulV a b) := by
  unfold joustref03_Mul.f mulV
  have m1 := mag_bd ha
  have m2 := mag_bd hb
  rw [rsize_eq ha, rsize_eq hb]
  simp only [Option.bind_some]
  rw [product_eq (by omega) (by omega)]
  simp only [Option.bind_some]
  have m3 := mul_bd m1 m2
  rw [mag_mul] at *
  obtain ⟨P, _, hP, h1, h2⟩ := sgn_mul a b
  rw [h1] at *
  rw [tdiv_pos (a := P % 18446744073709551616) (by omega), tmod_pos (a := P % 18446744073709551616) (by omega)]
  by_cases h3 : P / 18446744073709551616 ≥ 65536
  · rw [if_pos h3, rbounded_eq _ (by omega)]
    simp only [Option.bind_some]
    congr 1
    rcases h2 with ⟨h4, h5⟩ | ⟨h4, h5⟩ <;> rw [h4, h5] <;> unfold lim <;> simp only [if_true, if_false, Bool.false_eq_true] <;> repeat' split
    all_goals omega
  · rw [if_neg h3, u64_self (n := P / 18446744073709551616 * 281474976710656) (by omega), u64_self (n := P % 18446744073709551616 / 65536) (by omega), u64_self (n := P / 18446744073709551616 * 281474976710656 + P % 18446744073709551616 / 65536) (by omega)]
    rw [rbounded_eq _ (by omega), rbounded_eq _ (by omega), rbounded_eq _ (by omega)]
    simp only [Option.bind_some]
    by_cases h6 : P / 18446744073709551616 * 281474976710656 + P % 18446744073709551616 / 65536 < 18446744073709551615
    · rw [u64_self (n := P / 18446744073709551616 * 281474976710656 + P % 18446744073709551616 / 65536 + 1) (by omega), rbounded_eq _ (by omega)]
      simp only [Option.bind_some]
      rcases h2 with ⟨h4, h5⟩ | ⟨h4, h5⟩ <;> rw [h4, h5] <;> unfold lim <;> simp only [if_true, if_false, Bool.false_eq_true] <;> repeat' split
      all_goals first | rfl | omega | (congr 1; omega)
    · rcases h2 with ⟨h4, h5⟩ | ⟨h4, h5⟩ <;> rw [h4, h5] <;> unfold lim <;> simp only [if_true, if_false, Bool.false_eq_true] <;> repeat' split
      all_goals first | rfl | omega | (congr 1; omega)
end Go.Proofs.YtnknbikkgohlmaaDoor.FixM
