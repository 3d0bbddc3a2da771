/- fix: Div, and the reference's. -/
import Derived.Test.YtnknbikkgohlmaaDoorFixD
namespace Go.Proofs.YtnknbikkgohlmaaDoor.FixM
open Go.RowKit Go.Proofs.YtnknbikkgohlmaaDoor Go.Proofs.YtnknbikkgohlmaaDoor.VFixB Go.Proofs.YtnknbikkgohlmaaDoorW.PrintWords Go.Proofs.YtnknbikkgohlmaaDoorW.PrintLast Go.Proofs.YtnknbikkgohlmaaDoorW.PrintMore

def neg2 (a b : Int) : Bool := (decide (a < 0)) != (decide (b < 0))
/-- the quotient in Q16.16 -/
def divV (a b : Int) : Int := if b = 0 then (if 0 < a then 1099511627776 else if a < 0 then -1099511627776 else 0) else sgn (neg2 a b) (mag a * 65536 / mag b) (mag a * 65536 % mag b != 0)
theorem sgn_great {q : Int} (n c : Bool) (h : 1099511627776 ≤ q) : sgn n q c = if n then -1099511627776 else 1099511627776 := by
  unfold sgn lim
  cases n <;> cases c <;> simp only [if_true, if_false, Bool.false_eq_true] <;> repeat' split
  all_goals omega
theorem mag_pos {b : Int} (h : b ≠ 0) : 0 < mag b := by unfold mag; split <;> omega
theorem div_eq (k : Nat) (hk : 16 ≤ k) {a b : Int} (ha : I64 a) (hb : I64 b) : fix_Div.f k a b = some (divV a b) := by
  unfold fix_Div.f divV
  by_cases h0 : b = 0
  · rw [if_pos h0, if_pos h0]
    by_cases h1 : 0 < a
    · rw [if_pos h1, if_pos h1]
    · rw [if_neg h1, if_neg h1]; split <;> rfl
  · rw [if_neg h0, if_neg h0]
    have m1 := mag_bd ha
    have m2 := mag_bd hb
    have m3 := mag_pos h0
    rw [size_eq ha, size_eq hb]
    simp only [Option.bind_some]
    rw [mul64_eq (by omega) (by omega)]
    simp only [Option.bind_some]
    show (if mag a * 65536 / 18446744073709551616 < mag b then (bits_Div64.f k (mag a * 65536 / 18446744073709551616) (mag a * 65536 % 18446744073709551616) (mag b)).bind fun bt124 => ((fix_signed.f bt124.1 (neg2 a b) (bt124.2 != 0)).bind fun t126 => (some t126)) else ((fix_signed.f 18446744073709551615 (neg2 a b) false).bind fun t127 => (some t127))) = _
    have e := Int.mul_ediv_add_emod (mag a * 65536) 18446744073709551616
    have e' : mag a * 65536 / 18446744073709551616 * 18446744073709551616 + mag a * 65536 % 18446744073709551616 = mag a * 65536 := by omega
    by_cases h2 : mag a * 65536 / 18446744073709551616 < mag b
    · have hq : 0 ≤ mag a * 65536 / mag b ∧ mag a * 65536 / mag b < 18446744073709551616 := ⟨Int.ediv_nonneg (by omega) (by omega), Int.ediv_lt_of_lt_mul m3 (by
        have : (mag a * 65536 / 18446744073709551616 + 1) * 18446744073709551616 ≤ mag b * 18446744073709551616 := Int.mul_le_mul_of_nonneg_right (by omega) (by decide)
        have e9 : 18446744073709551616 * mag b = mag b * 18446744073709551616 := Int.mul_comm _ _
        omega)⟩
      rw [if_pos h2, div64_eq k hk (by omega) (by omega) (by omega), e']
      simp only [Option.bind_some]
      rw [signed_eq _ _ hq]
      rfl
    · rw [if_neg h2, signed_eq _ _ (by omega), sgn_great _ _ (by omega), sgn_great _ _ (by
        apply Int.le_ediv_of_mul_le m3
        have : 1099511627776 * mag b ≤ mag b * 18446744073709551616 := by have := Int.mul_comm (1099511627776 : Int) (mag b); omega
        have : mag b * 18446744073709551616 ≤ mag a * 65536 / 18446744073709551616 * 18446744073709551616 := Int.mul_le_mul_of_nonneg_right (by omega) (by decide)
        omega)]
      rfl

theorem power_l0 (n : Int) (hn : n ≤ 63) : ∀ (d k : Nat) (p i : Int), d < k → 0 ≤ i → n - i = d → 0 < p → p * 2 ^ d < 18446744073709551616 → joustref03_power.l0 k n p i = some (p * 2 ^ d) := by
  intro d
  induction d with
  | zero =>
    intro k p i hk hi hd hp hb
    obtain ⟨k, rfl⟩ : ∃ m, k = m + 1 := ⟨k - 1, by omega⟩
    rw [joustref03_power.l0, if_neg (by omega)]; simp
  | succ d ih =>
    intro k p i hk hi hd hp hb
    obtain ⟨k, rfl⟩ : ∃ m, k = m + 1 := ⟨k - 1, by omega⟩
    have hpd := two_pow_pos d
    have e : p * 2 ^ (d + 1) = p * 2 * 2 ^ d := by rw [Int.pow_succ]; grind
    rw [e] at hb
    have hle : p * 2 * 1 ≤ p * 2 * 2 ^ d := Int.mul_le_mul_of_nonneg_left (by omega) (by omega)
    rw [joustref03_power.l0, if_pos (by omega), u64_self (by omega), w64_self (n := i + 1) (by unfold I64; omega), ih k (p * 2) (i + 1) (by omega) (by omega) (by omega) (by omega) hb, e]
theorem power_eq (n k : Nat) (hn : n ≤ 63) (hk : n < k) : joustref03_power.f k (n : Int) = some (2 ^ n) := by
  unfold joustref03_power.f
  have hp : (2 : Int) ^ n ≤ 2 ^ 63 := by
    have h1 : (2 : Nat) ^ n ≤ 2 ^ 63 := Nat.pow_le_pow_right (by decide) hn
    have e : ((2 : Int) ^ n) = ((2 ^ n : Nat) : Int) := by simp
    rw [e]; omega
  rw [power_l0 (n : Int) (by omega) n k 1 0 hk (by omega) (by omega) (by decide) (by omega)]
  simp

/-- the long division's state behind bit j -/
def cap4 (q : Int) : Int := if 4398046511104 < q then 4398046511104 else q
theorem long_div (X Y : Int) (hX : 0 ≤ X ∧ X ≤ 9223372036854775808) (hY : 0 < Y ∧ Y ≤ 9223372036854775808) (ng : Bool) : ∀ (j k : Nat), j ≤ 80 → 2 * j + 100 ≤ k →
    joustref03_Div.l0 k ng X Y (cap4 (X * 65536 / 2 ^ j / Y)) (X * 65536 / 2 ^ j % Y) ((j : Int) - 1) = some (if ng then lim (-(cap4 (X * 65536 / Y) + if X * 65536 % Y > 0 then 1 else 0)) else lim (cap4 (X * 65536 / Y))) := by
  intro j
  induction j with
  | zero =>
    intro k _ hk
    obtain ⟨k, rfl⟩ : ∃ m, k = m + 1 := ⟨k - 1, by omega⟩
    have hq : 0 ≤ X * 65536 / Y := Int.ediv_nonneg (by omega) (by omega)
    have hc : 0 ≤ cap4 (X * 65536 / Y) ∧ cap4 (X * 65536 / Y) ≤ 4398046511104 := by unfold cap4; split <;> omega
    rw [joustref03_Div.l0, if_neg (by omega)]
    simp only [Int.pow_zero, Int.ediv_one]
    rw [u64_self (n := cap4 (X * 65536 / Y) + 1) (by omega), rbounded_eq _ (by omega), rbounded_eq _ (by omega)]
    simp only [Option.bind_some]
    cases ng
    · simp
    · simp only [if_true]
      split <;> simp
  | succ j ih =>
    intro k hj hk
    obtain ⟨k, rfl⟩ : ∃ m, k = m + 1 + 1 := ⟨k - 2, by omega⟩
    have hp := two_pow_pos j
    obtain ⟨A, hA⟩ : ∃ A, X * 65536 / 2 ^ (j + 1) = A := ⟨_, rfl⟩
    obtain ⟨B, hB⟩ : ∃ B, X * 65536 / 2 ^ j = B := ⟨_, rfl⟩
    have hAB : B / 2 = A := by
      rw [← hA, ← hB, Int.ediv_ediv_of_nonneg (Int.le_of_lt hp), Int.pow_succ]
    have hA0 : 0 ≤ A := by rw [← hA]; exact Int.ediv_nonneg (by omega) (Int.le_of_lt (two_pow_pos _))
    have hbit : ∀ rest, (if ((j + 1 : Nat) : Int) - 1 ≥ 16 then ((joustref03_power.f (k + 1) (wrap64 (((j + 1 : Nat) : Int) - 1 - 16))).bind fun t151 => (if t151 = 0 then (none) else (joustref03_Div.j2 (k + 1) ng X Y (cap4 (A / Y)) rest (((j + 1 : Nat) : Int) - 1) (Int.tmod (IntKind.u64.wrap (Int.tdiv X t151)) 2)))) else (joustref03_Div.j2 (k + 1) ng X Y (cap4 (A / Y)) rest (((j + 1 : Nat) : Int) - 1) 0)) = joustref03_Div.j2 (k + 1) ng X Y (cap4 (A / Y)) rest (j : Int) (B % 2) := fun rest => by
      have ej : ((j + 1 : Nat) : Int) - 1 = (j : Int) := by omega
      rw [ej]
      by_cases h16 : (j : Int) ≥ 16
      · obtain ⟨i, rfl⟩ : ∃ i, j = i + 16 := ⟨j - 16, by omega⟩
        have ew : wrap64 (((i + 16 : Nat) : Int) - 16) = (i : Int) := by unfold wrap64; omega
        have hpi := two_pow_pos i
        have eB : X / 2 ^ i = B := by
          rw [← hB, Int.pow_add]
          exact (Int.mul_ediv_mul_of_pos_left X _ (by decide : (0 : Int) < 2 ^ 16)).symm
        have hBX : 0 ≤ X / 2 ^ i ∧ X / 2 ^ i ≤ X := ⟨Int.ediv_nonneg hX.1 (Int.le_of_lt hpi), Int.ediv_le_self _ hX.1⟩
        rw [if_pos h16, ew, power_eq i (k + 1) (by omega) (by omega)]
        simp only [Option.bind_some]
        rw [if_neg (by omega), tdiv_pos hX.1, u64_self (by omega), tmod_pos hBX.1, eB]
      · have e2 : B % 2 = 0 := by
          rw [← hB]
          have : (65536 : Int) = 2 ^ j * (2 * 2 ^ (15 - j)) := by
            have h9 : (2 : Int) ^ j * (2 * 2 ^ (15 - j)) = 2 ^ (j + 1 + (15 - j)) := by rw [Int.pow_add, Int.pow_succ]; grind
            rw [h9, show j + 1 + (15 - j) = 16 by omega]; rfl
          have h8 : X * 65536 = X * (2 * 2 ^ (15 - j)) * 2 ^ j := by
            calc X * 65536 = X * (2 ^ j * (2 * 2 ^ (15 - j))) := by rw [← this]
              _ = X * (2 * 2 ^ (15 - j)) * 2 ^ j := by grind
          rw [h8, Int.mul_ediv_cancel _ (by omega)]
          have : X * (2 * 2 ^ (15 - j)) = 2 * (X * 2 ^ (15 - j)) := by grind
          rw [this]; omega
        rw [if_neg h16, e2]
    have hN : cap4 (B / Y) = cap4 (cap4 (A / Y) * 2 + if A % Y * 2 + B % 2 ≥ Y then 1 else 0) ∧ B % Y = (if A % Y * 2 + B % 2 ≥ Y then A % Y * 2 + B % 2 - Y else A % Y * 2 + B % 2) := by
      have e1 := Int.mul_ediv_add_emod A Y
      have m1 := Int.emod_nonneg A (show Y ≠ 0 by omega)
      have m2 := Int.emod_lt_of_pos A hY.1
      have hq : 0 ≤ A / Y := Int.ediv_nonneg hA0 (by omega)
      have hBe : B = 2 * A + B % 2 := by omega
      obtain ⟨c, hc⟩ : ∃ c, B % 2 = c := ⟨_, rfl⟩
      rw [hc] at hBe ⊢
      have hcb : 0 ≤ c ∧ c ≤ 1 := by omega
      by_cases h : A % Y * 2 + c ≥ Y
      · have e2 : B = (A % Y * 2 + c - Y) + (A / Y * 2 + 1) * Y := by
          have : (A / Y * 2 + 1) * Y = 2 * (Y * (A / Y)) + Y := by grind
          rw [this]; omega
        have e3 : B / Y = A / Y * 2 + 1 := by
          rw [e2, Int.add_mul_ediv_right _ _ (by omega), Int.ediv_eq_zero_of_lt (by omega) (by omega)]; omega
        have e4 : B % Y = A % Y * 2 + c - Y := by
          rw [e2, Int.add_mul_emod_self_right]; exact Int.emod_eq_of_lt (by omega) (by omega)
        rw [if_pos h, if_pos h, e3, e4]
        refine ⟨?_, rfl⟩
        unfold cap4; repeat' split
        all_goals omega
      · have e2 : B = (A % Y * 2 + c) + (A / Y * 2) * Y := by
          have : (A / Y * 2) * Y = 2 * (Y * (A / Y)) := by grind
          rw [this]; omega
        have e3 : B / Y = A / Y * 2 := by
          rw [e2, Int.add_mul_ediv_right _ _ (by omega), Int.ediv_eq_zero_of_lt (by omega) (by omega)]; omega
        have e4 : B % Y = A % Y * 2 + c := by
          rw [e2, Int.add_mul_emod_self_right]; exact Int.emod_eq_of_lt (by omega) (by omega)
        rw [if_neg h, if_neg h, e3, e4]
        refine ⟨?_, rfl⟩
        unfold cap4; repeat' split
        all_goals omega
    have hc := ih k (by omega) (by omega)
    rw [hB, hN.1, hN.2] at hc
    have m1 := Int.emod_nonneg A (show Y ≠ 0 by omega)
    have m2 := Int.emod_lt_of_pos A hY.1
    have hq : 0 ≤ A / Y := Int.ediv_nonneg hA0 (by omega)
    have hcp : 0 ≤ cap4 (A / Y) ∧ cap4 (A / Y) ≤ 4398046511104 := by unfold cap4; split <;> omega
    have hw : wrap64 ((j : Int) - 1) = (j : Int) - 1 := w64_self (by unfold I64; omega)
    rw [hA, joustref03_Div.l0, if_pos (by omega), hbit, joustref03_Div.j2]
    generalize cap4 (A / Y) = n at *
    generalize A % Y = r at *
    generalize hbb : B % 2 = c at *
    have hcb : 0 ≤ c ∧ c ≤ 1 := by omega
    rw [u64_self (n := r * 2) (by omega), u64_self (n := r * 2 + c) (by omega), u64_self (n := n * 2) (by omega), u64_self (n := n * 2 + 1) (by omega), hw]
    rw [← hc]
    by_cases h : r * 2 + c ≥ Y
    · rw [if_pos h, u64_self (n := r * 2 + c - Y) (by omega)]
      simp only [if_pos h]
      unfold cap4
      by_cases h2 : n * 2 + 1 > 4398046511104
      · rw [if_pos h2, if_pos h2]
      · rw [if_neg h2, if_neg h2]
    · rw [if_neg h]
      simp only [if_neg h, Int.add_zero]
      unfold cap4
      by_cases h2 : n * 2 > 4398046511104
      · rw [if_pos h2, if_pos h2]
      · rw [if_neg h2, if_neg h2]

theorem rdiv_eq (k : Nat) (hk : 300 ≤ k) {a b : Int} (ha : I64 a) (hb : I64 b) : joustref03_Div.f k a b = some (divV a b) := by
  unfold joustref03_Div.f divV
  by_cases h0 : b = 0
  · rw [if_pos h0, if_pos h0]
    by_cases h1 : a = 0
    · subst h1; rfl
    · rw [if_neg h1, rbounded_eq _ (by omega)]
      simp only [Option.bind_some]
      by_cases h2 : a < 0
      · simp only [decide_eq_true h2, if_true]
        rw [if_neg (by omega), if_pos h2]; rfl
      · simp only [decide_eq_false h2, Bool.false_eq_true, if_false]
        rw [if_pos (by omega)]; rfl
  · rw [if_neg h0, if_neg h0]
    obtain ⟨k, rfl⟩ : ∃ m, k = m + 1 := ⟨k - 1, by omega⟩
    have m1 := mag_bd ha
    have m2 := mag_bd hb
    have m3 := mag_pos h0
    have hl : ∀ ng, joustref03_Div.j0 (k + 1) a b ng = some (if ng then lim (-(cap4 (mag a * 65536 / mag b) + if mag a * 65536 % mag b > 0 then 1 else 0)) else lim (cap4 (mag a * 65536 / mag b))) := fun ng => by
      rw [joustref03_Div.j0, rsize_eq ha, rsize_eq hb]
      simp only [Option.bind_some]
      have := long_div (mag a) (mag b) m1 ⟨m3, m2.2⟩ ng 80 k (by decide) (by omega)
      rw [Int.ediv_eq_zero_of_lt (by omega : 0 ≤ mag a * 65536) (by
        show mag a * 65536 < 1208925819614629174706176
        omega), Int.zero_ediv, Int.zero_emod] at this
      exact this
    rw [hl, hl]
    have hq : 0 ≤ mag a * 65536 / mag b := Int.ediv_nonneg (by omega) (by omega)
    have hr : 0 ≤ mag a * 65536 % mag b := Int.emod_nonneg _ (by omega)
    show (if neg2 a b = true then _ else _) = some (sgn (neg2 a b) _ _)
    unfold sgn
    cases hn : neg2 a b
    · simp only [Bool.false_eq_true, if_false]
      congr 1
      unfold lim cap4
      repeat' split
      all_goals omega
    · simp only [if_true]
      by_cases ha0 : a = 0
      · subst ha0
        simp [mag, lim, cap4]
      · have hne : (a != 0) = true := by simpa using ha0
        rw [hne]
        simp only [if_true]
        congr 1
        generalize mag a * 65536 / mag b = q at *
        generalize mag a * 65536 % mag b = r at *
        by_cases h5 : r = 0
        · subst h5
          simp
          unfold lim cap4
          repeat' split
          all_goals omega
        · have h6 : (r != 0) = true := by simpa using h5
          rw [if_pos (by omega), if_pos h6]
          unfold lim cap4
          repeat' split
          all_goals omega
end Go.Proofs.YtnknbikkgohlmaaDoor.FixM
