/- FixBounds, FixRounds: plain. -/
import Derived.Test.YtnknbikkgohlmaaDoorFixE
import Derived.Test.YtnknbikkgohlmaaDoorVFixBoundsx3
import Derived.Test.YtnknbikkgohlmaaDoorVFixRoundsx3
namespace Go.Proofs.YtnknbikkgohlmaaDoor.FixM
open Go.RowKit Go.Proofs.YtnknbikkgohlmaaDoor Go.Proofs.YtnknbikkgohlmaaDoor.VFixB Go.Proofs.YtnknbikkgohlmaaDoorW.PrintWords Go.Proofs.YtnknbikkgohlmaaDoorW.PrintLast Go.Proofs.YtnknbikkgohlmaaDoorW.PrintMore

theorem i64_wf {a : Int} (h : (Lit.int .i64 a).wf = true) : I64 a := by
  simp [Lit.wf, IntKind.min, IntKind.max, IntKind.signed, IntKind.bits] at h
  exact h
theorem lim_in (x : Int) : -1099511627776 ≤ lim x ∧ lim x ≤ 1099511627776 := by unfold lim; repeat' split
                                                                                all_goals omega
theorem within_eq {x : Int} (h : -1099511627776 ≤ x ∧ x ≤ 1099511627776) : joustlaw03_within.f x = some true := by
  unfold joustlaw03_within.f; rw [if_pos (by omega), decide_eq_true (by omega)]
theorem sgn_in (n : Bool) (q : Int) (c : Bool) : -1099511627776 ≤ sgn n q c ∧ sgn n q c ≤ 1099511627776 := by unfold sgn; split <;> exact lim_in _
theorem divV_in (a b : Int) : -1099511627776 ≤ divV a b ∧ divV a b ≤ 1099511627776 := by
  unfold divV
  repeat' split
  all_goals first | omega | exact sgn_in _ _ _
theorem root_lt {a R : Int} (ha : I64 a) (h : IsRoot (a * 65536) R) : R < 1099511627776 := by
  obtain ⟨h0, h1, _⟩ := h
  unfold I64 at ha
  by_cases hc : R < 1099511627776
  · exact hc
  · have := Int.mul_le_mul (show (1099511627776 : Int) ≤ R by omega) (show (1099511627776 : Int) ≤ R by omega) (by decide) h0
    omega
theorem divV_one (a : Int) : divV a 65536 = lim a := by
  unfold divV
  rw [if_neg (by decide)]
  have e1 : mag a * 65536 / mag 65536 = mag a := by show mag a * 65536 / 65536 = mag a; omega
  have e2 : (mag a * 65536 % mag 65536 != 0) = false := by show (mag a * 65536 % 65536 != 0) = false; rw [show mag a * 65536 % 65536 = 0 by omega]; rfl
  rw [e1, e2]
  unfold sgn neg2 mag
  by_cases h : a < 0
  · simp [h]
  · simp [h]
theorem divV_zero (b : Int) : divV 0 b = 0 := by
  unfold divV
  by_cases h : b = 0
  · rw [if_pos h]; rfl
  · rw [if_neg h]
    have : mag 0 = 0 := rfl
    rw [this]
    simp [sgn, lim]
theorem divV_self {a : Int} (h : a ≠ 0) : divV a a = 65536 := by
  unfold divV
  have hm := mag_pos h
  rw [if_neg h, Int.mul_comm, Int.mul_ediv_cancel _ (by omega), Int.mul_emod_left]
  simp [neg2, sgn, lim]
theorem mulV_one (a : Int) : mulV a 65536 = lim a := by unfold mulV; rw [Int.mul_ediv_cancel _ (by decide)]
theorem mulV_zero (a : Int) : mulV a 0 = 0 := by unfold mulV; rw [Int.mul_zero]; rfl

theorem fixBounds : VFixBounds.joustlaw03_FixBounds.Pure := by
  intro a b ha hb
  have ha := i64_wf ha
  have hb := i64_wf hb
  have i1 : I64 65536 := by unfold I64; omega
  have i0 : I64 0 := by unfold I64; omega
  refine ⟨400, ?_⟩
  unfold VFixBounds.joustlaw03_FixBounds.f joustlaw03_fixed.f
  obtain ⟨R, hR, hR1, hR2⟩ := root_eq 400 (by decide) ha
  have hRM : R < 1099511627776 := by
    rcases hR2 with ⟨_, h⟩ | ⟨_, h⟩
    · omega
    · exact root_lt ha h
  have hR0 : 0 ≤ R := by
    rcases hR2 with ⟨_, h⟩ | ⟨_, h⟩
    · omega
    · exact h.1
  rw [add_eq 399 ha hb, add_eq 399 hb ha, mul_eq ha hb, mul_eq hb ha, div_eq 400 (by decide) ha hb, hR]
  simp only [Option.bind_some, if_true]
  rw [within_eq (lim_in (a + b)), within_eq (show -1099511627776 ≤ mulV a b ∧ mulV a b ≤ 1099511627776 from lim_in _), within_eq (divV_in a b)]
  simp only [Option.bind_some, if_true]
  rw [if_neg (by omega), if_neg (by omega), if_pos (by rw [Int.add_comm])]
  have hc : (mulV a b != mulV b a) = false := by unfold mulV; rw [Int.mul_comm]; simp
  rw [hc, VFixBounds.joustlaw03_FixBounds.j0]
  have hcl : fix_Clamp.f a (-1099511627776) 1099511627776 = some (lim a) := by
    have := bounded_eq a
    unfold fix_bounded.f at this
    cases h : fix_Clamp.f a (-1099511627776) 1099511627776 with
    | none => rw [h] at this; cases this
    | some z => rw [h] at this; exact this
  rw [hcl, add_eq 398 ha i0, mul_eq ha i1, div_eq 399 (by decide) ha i1, mul_eq ha i0, div_eq 399 (by decide) i0 hb, div_eq 399 (by decide) ha ha, divV_one, mulV_one, mulV_zero, divV_zero, Int.add_zero]
  simp only [Option.bind_some, if_true, Bool.false_eq_true, if_false]
  by_cases h : a = 0
  · rw [if_pos h]
  · rw [if_neg h, divV_self h]; rfl

/-- a root, or 0 -/
theorem rounds_root (k : Nat) (hk : 42 ≤ k) {x : Int} (hx : -2147483648 < x ∧ x < 2147483648) :
    ((fix_Root.f k x).bind fun t133 => (if x < 0 then (some (t133 == 0)) else (if (wrap64 (t133 * t133)) ≤ (wrap64 (x * 65536)) then (some (decide ((wrap64 ((wrap64 (t133 + 1)) * (wrap64 (t133 + 1)))) > (wrap64 (x * 65536))))) else (some false)))) = some true := by
  obtain ⟨R, hR, hR1, hR2⟩ := root_eq k hk (a := x) (by unfold I64; omega)
  rw [hR]
  simp only [Option.bind_some]
  by_cases h : x < 0
  · rw [if_pos h]
    rcases hR2 with ⟨_, h2⟩ | ⟨h1, _⟩
    · rw [h2]; rfl
    · omega
  · rw [if_neg h]
    have hr : IsRoot (x * 65536) R := by
      rcases hR2 with ⟨h1, h2⟩ | ⟨_, h2⟩
      · obtain rfl : x = 0 := by omega
        subst h2; exact ⟨by decide, by decide, by decide⟩
      · exact h2
    obtain ⟨r0, r1, r2⟩ := hr
    have rb : R < 16777216 := by
      by_cases hc : R < 16777216
      · exact hc
      · have := Int.mul_le_mul (show (16777216 : Int) ≤ R by omega) (show (16777216 : Int) ≤ R by omega) (by decide) r0
        omega
    have rr := mul_bd (show 0 ≤ R + 1 ∧ R + 1 ≤ 16777216 by omega) (show 0 ≤ R + 1 ∧ R + 1 ≤ 16777216 by omega)
    have rr0 : 0 ≤ R * R := Int.mul_nonneg r0 r0
    rw [w64_self (n := R + 1) (by unfold I64; omega), w64_self (n := R * R) (by unfold I64; omega), w64_self (n := x * 65536) (by unfold I64; omega), w64_self (n := (R + 1) * (R + 1)) (by unfold I64; omega), if_pos r1, decide_eq_true r2]
theorem tmod_bd (a : Int) : -2147483648 < Int.tmod a 2147483648 ∧ Int.tmod a 2147483648 < 2147483648 := by
  constructor
  · have := Int.lt_tmod_of_pos a (by decide : (0 : Int) < 2147483648); omega
  · exact Int.tmod_lt_of_pos a (by decide)
theorem mul_abs {x y m : Int} (hx : -m < x ∧ x < m) (hy : -m < y ∧ y < m) : -(m * m) < x * y ∧ x * y < m * m := by
  have hm : 0 < m := by omega
  have h1 : mag x * mag y = mag (x * y) := mag_mul x y
  have hx1 : 0 ≤ mag x ∧ mag x ≤ m - 1 := by unfold mag; split <;> omega
  have hy1 : 0 ≤ mag y ∧ mag y ≤ m - 1 := by unfold mag; split <;> omega
  have h2 := mul_bd hx1 hy1
  have h3 : (m - 1) * (m - 1) = m * m - 2 * m + 1 := by grind
  rw [h1, h3] at h2
  unfold mag at h2
  split at h2 <;> omega
theorem fixRounds : VFixRounds.joustlaw03_FixRounds.Pure := by
  intro a b _ _
  obtain ⟨x, hx⟩ : ∃ x, Int.tmod a 2147483648 = x := ⟨_, rfl⟩
  obtain ⟨y, hy⟩ : ∃ y, Int.tmod b 2147483648 = y := ⟨_, rfl⟩
  have bx := tmod_bd a
  have by_ := tmod_bd b
  rw [hx] at bx
  rw [hy] at by_
  have ix : I64 x := by unfold I64; omega
  have iy : I64 y := by unfold I64; omega
  refine ⟨400, ?_⟩
  unfold VFixRounds.joustlaw03_FixRounds.f joustlaw03_fixed.f
  rw [hx, hy, add_eq 399 ix iy, mul_eq ix iy]
  simp only [Option.bind_some, if_true]
  have hl : lim (x + y) = x + y := by unfold lim; repeat' split
                                      all_goals omega
  have hP := mul_abs (m := 2147483648) (x := x) (by omega) (show -2147483648 < y ∧ y < 2147483648 by omega)
  unfold mulV
  obtain ⟨P, hPe⟩ : ∃ P, x * y = P := ⟨_, rfl⟩
  rw [hPe] at hP ⊢
  rw [hl, w64_self (n := x + y) (by unfold I64; omega), w64_self (n := P) (by unfold I64; omega), if_pos rfl]
  have hp : (lim (P / 65536) = P / 65536 ∧ -1099511627776 ≤ P / 65536 ∧ P / 65536 ≤ 1099511627776) ∨ (lim (P / 65536) = 1099511627776 ∧ 1099511627776 < P / 65536) ∨ (lim (P / 65536) = -1099511627776 ∧ P / 65536 < -1099511627776) := by
    unfold lim; repeat' split
    all_goals omega
  generalize lim (P / 65536) = p at *
  have hpw : wrap64 (p * 65536) = p * 65536 := w64_self (by unfold I64; omega)
  rw [hpw]
  -- behind the first test
  have key : ∀ k, 100 ≤ k → VFixRounds.joustlaw03_FixRounds.j0 k x y p false = some true := fun k hk => by
    obtain ⟨k, rfl⟩ : ∃ m, k = m + 1 + 1 + 1 + 1 := ⟨k - 4, by omega⟩
    rw [VFixRounds.joustlaw03_FixRounds.j0, if_neg (by decide), hPe, w64_self (n := P) (by unfold I64; omega)]
    have t1 : ((decide (P ≥ 72057594037927936)) != (p == 1099511627776)) = false := by
      by_cases h : P ≥ 72057594037927936
      · rw [decide_eq_true h, show p = 1099511627776 by omega]; rfl
      · rw [decide_eq_false h, show (p == 1099511627776) = false by simp; omega]; rfl
    have t2 : ((decide (P < -72057594037862400)) != (p == (-1099511627776))) = false := by
      by_cases h : P < -72057594037862400
      · rw [decide_eq_true h, show p = -1099511627776 by omega]; rfl
      · rw [decide_eq_false h, show (p == -1099511627776) = false by simp; omega]; rfl
    rw [t1, t2, if_neg (by decide), VFixRounds.joustlaw03_FixRounds.j1, if_neg (by decide)]
    by_cases hy0 : y = 0
    · rw [if_pos hy0]; exact rounds_root _ (by omega) (by omega)
    · rw [if_neg hy0, div_eq _ (by omega) ix iy]
      simp only [Option.bind_some]
      have j3f : VFixRounds.joustlaw03_FixRounds.j3 (k + 1) x false = some true := by
        rw [VFixRounds.joustlaw03_FixRounds.j3, if_neg (by decide)]; exact rounds_root _ (by omega) (by omega)
      by_cases hq : -1099511627776 < divV x y ∧ divV x y < 1099511627776
      · rw [if_pos hq.1, decide_eq_true hq.2, VFixRounds.joustlaw03_FixRounds.j2, if_pos rfl]
        -- the rest of the quotient
        have hd : ∃ e, x * 65536 - divV x y * y = e ∧ (0 < y → 0 ≤ e ∧ e < y) ∧ (y < 0 → y < e ∧ e ≤ 0) := by
          refine ⟨_, rfl, ?_⟩
          have hm := mag_pos hy0
          have e1 := Int.mul_ediv_add_emod (mag x * 65536) (mag y)
          have m1 := Int.emod_nonneg (mag x * 65536) (show mag y ≠ 0 by omega)
          have m2 := Int.emod_lt_of_pos (mag x * 65536) hm
          unfold divV at hq ⊢
          rw [if_neg hy0] at hq ⊢
          have hqn : 0 ≤ mag x * 65536 / mag y := Int.ediv_nonneg (by have := mag_bd ix; omega) (by omega)
          generalize hQ : mag x * 65536 / mag y = Q at *
          generalize hRR : mag x * 65536 % mag y = R at *
          have hcc : (R != 0) = decide (R ≠ 0) := bne0 R
          rw [hcc] at hq ⊢
          unfold neg2 sgn at hq ⊢
          by_cases h1 : x < 0 <;> by_cases h2 : y < 0
          all_goals simp only [h1, h2, decide_true, decide_false, bne_self_eq_false, Bool.false_eq_true, if_false, if_true, bne_iff_ne, ne_eq, not_false_eq_true, reduceCtorEq, decide_eq_true_eq] at hq ⊢
          · have hx' : mag x = -x := by unfold mag; rw [if_pos h1]
            have hy' : mag y = -y := by unfold mag; rw [if_pos h2]
            rw [hx', hy'] at e1
            rw [hy'] at m2
            have : lim Q = Q := by unfold lim at hq ⊢; repeat' split at hq
                                   all_goals (repeat' split) <;> omega
            rw [this]
            have e2 : Q * y = y * Q := Int.mul_comm _ _
            have e3 : -y * Q = -(y * Q) := Int.neg_mul _ _
            exact ⟨fun _ => ⟨by omega, by omega⟩, fun hf => by first | exact hf.elim | exact ⟨by omega, by omega⟩⟩
          · have hx' : mag x = -x := by unfold mag; rw [if_pos h1]
            have hy' : mag y = y := by unfold mag; rw [if_neg h2]
            rw [hx', hy'] at e1
            rw [hy'] at m2
            by_cases hR0 : R = 0
            · simp only [hR0, not_true, if_false, Int.add_zero] at hq ⊢
              have : lim (-Q) = -Q := by unfold lim at hq ⊢; repeat' split at hq
                                         all_goals (repeat' split) <;> omega
              rw [this]
              have e2 : -Q * y = -(y * Q) := by grind
              exact ⟨fun _ => ⟨by omega, by omega⟩, fun hf => by first | exact hf.elim | exact ⟨by omega, by omega⟩⟩
            · simp only [hR0, not_false_eq_true, if_true] at hq ⊢
              have : lim (-(Q + 1)) = -(Q + 1) := by unfold lim at hq ⊢; repeat' split at hq
                                                     all_goals (repeat' split) <;> omega
              rw [this]
              have e2 : -(Q + 1) * y = -(y * Q) - y := by grind
              exact ⟨fun _ => ⟨by omega, by omega⟩, fun hf => by first | exact hf.elim | exact ⟨by omega, by omega⟩⟩
          · have hx' : mag x = x := by unfold mag; rw [if_neg h1]
            have hy' : mag y = -y := by unfold mag; rw [if_pos h2]
            rw [hx', hy'] at e1
            rw [hy'] at m2
            by_cases hR0 : R = 0
            · simp only [hR0, not_true, if_false, Int.add_zero] at hq ⊢
              have : lim (-Q) = -Q := by unfold lim at hq ⊢; repeat' split at hq
                                         all_goals (repeat' split) <;> omega
              rw [this]
              have e2 : -Q * y = -y * Q := by grind
              exact ⟨fun _ => ⟨by omega, by omega⟩, fun hf => by first | exact hf.elim | exact ⟨by omega, by omega⟩⟩
            · simp only [hR0, not_false_eq_true, if_true] at hq ⊢
              have : lim (-(Q + 1)) = -(Q + 1) := by unfold lim at hq ⊢; repeat' split at hq
                                                     all_goals (repeat' split) <;> omega
              rw [this]
              have e2 : -(Q + 1) * y = -y * Q - y := by grind
              exact ⟨fun _ => ⟨by omega, by omega⟩, fun hf => by first | exact hf.elim | exact ⟨by omega, by omega⟩⟩
          · have hx' : mag x = x := by unfold mag; rw [if_neg h1]
            have hy' : mag y = y := by unfold mag; rw [if_neg h2]
            rw [hx', hy'] at e1
            rw [hy'] at m2
            have : lim Q = Q := by unfold lim at hq ⊢; repeat' split at hq
                                   all_goals (repeat' split) <;> omega
            rw [this]
            have e2 : Q * y = y * Q := Int.mul_comm _ _
            exact ⟨fun _ => ⟨by omega, by omega⟩, fun hf => by first | exact hf.elim | exact ⟨by omega, by omega⟩⟩
        obtain ⟨e, he, hd1, hd2⟩ := hd
        have hw : wrap64 ((wrap64 (x * 65536)) - (wrap64 (divV x y * y))) = e := by
          have h9 := mul_abs (m := 1099511627776) (x := divV x y) (y := y) (by omega) (by omega)
          have h10 : wrap64 (divV x y * y) = divV x y * y - 18446744073709551616 * ((divV x y * y + 9223372036854775808) / 18446744073709551616) := by
            generalize divV x y * y = z; unfold wrap64; omega
          rw [h10, w64_self (n := x * 65536) (by unfold I64; omega)]
          unfold wrap64
          generalize divV x y * y = z at *
          omega
        rw [hw]
        by_cases hyp : 0 < y
        · obtain ⟨d1, d2⟩ := hd1 hyp
          rw [if_pos (by omega), if_neg (by omega), if_neg (by omega), if_neg (by omega)]; exact j3f
        · obtain ⟨d1, d2⟩ := hd2 (by omega)
          rw [if_neg (by omega), if_pos (by omega), if_neg (by omega), decide_eq_false (by omega)]; exact j3f
      · have hj2 : VFixRounds.joustlaw03_FixRounds.j2 (k + 1 + 1) x y (divV x y) false = some true := by
          rw [VFixRounds.joustlaw03_FixRounds.j2, if_neg (by decide)]; exact rounds_root _ (by omega) (by omega)
        by_cases hq1 : divV x y > -1099511627776
        · rw [if_pos hq1, decide_eq_false (by omega)]; exact hj2
        · rw [if_neg hq1]; exact hj2
  by_cases h1 : p > -1099511627776
  · rw [if_pos h1]
    by_cases h2 : p < 1099511627776
    · rw [if_pos h2, w64_self (n := P - p * 65536) (by unfold I64; omega), if_neg (by omega), decide_eq_false (by omega)]; exact key 400 (by decide)
    · rw [if_neg h2]; exact key 400 (by decide)
  · rw [if_neg h1]; exact key 400 (by decide)
end Go.Proofs.YtnknbikkgohlmaaDoor.FixM
