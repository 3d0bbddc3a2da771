/- The document's numbers: the walks. -/
import Derived.Test.YtinjlkceplhibaaDoorVxD
namespace Go.Proofs.YtinjlkceplhibaaDoor
open Go.RowKit

theorem rclamp_any (w : World) (x lo hi : Int) (h : lo ≤ hi) : Calls Tryd.prog 65 #[.int .i64 x, .int .i64 lo, .int .i64 hi] w fun e w' => e = .returned (.int .i64 (if hi < (if x < lo then lo else x) then hi else (if x < lo then lo else x))) ∧ w' = w := by
  by_cases c1 : x < lo
  · have c2 : ¬ hi < lo := by omega
    rw [if_pos c1, if_neg c2]
    go_enter Tryd.func65, Tryd.ntmps65
    go_wp2
    go_ret
    exact ⟨rfl, rfl⟩
  · rw [if_neg c1]
    by_cases c2 : hi < x
    · rw [if_pos c2]
      go_enter Tryd.func65, Tryd.ntmps65
      go_wp2
      go_ret
      exact ⟨rfl, rfl⟩
    · rw [if_neg c2]
      go_enter Tryd.func65, Tryd.ntmps65
      go_wp2
      go_ret
      exact ⟨rfl, rfl⟩
theorem r3size_any (w : World) (a : Int) (ha : Bd.I64 a) : Calls Tryd.prog 94 #[.int .i64 a] w fun e w' => e = .returned (.int .u64 (Vx.mag a)) ∧ w' = w := by
  have hm : Vx.mag a = if a < 0 then -a else a := rfl
  unfold Bd.I64 at ha
  generalize Vx.mag a = m at *
  by_cases h : a < 0
  · have e0 : IntKind.i64.wrap (a + 1) = a + 1 := wrap_in _ (by unfold Bd.I64; omega)
    have e1 : IntKind.i64.wrap (-(a + 1)) = -(a + 1) := wrap_in _ (by unfold Bd.I64; omega)
    have e2 : IntKind.u64.wrap (-(a + 1)) = -(a + 1) := u64_in (by omega)
    have e3 : IntKind.u64.wrap (-(a + 1) + 1) = -(a + 1) + 1 := u64_in (by omega)
    rw [if_pos h] at hm
    subst hm
    go_enter Tryd.func94, Tryd.ntmps94
    go_wp2
    go_ret
    exact ⟨ret_int (by omega), rfl⟩
  · have e2 : IntKind.u64.wrap a = a := u64_in (by omega)
    rw [if_neg h] at hm
    subst hm
    go_enter Tryd.func94, Tryd.ntmps94
    go_wp2
    go_ret
    exact ⟨rfl, rfl⟩
theorem r3bounded_any (w : World) (n : Bool) (q : Int) (hq : 0 ≤ q ∧ q < 18446744073709551616) : Calls Tryd.prog 95 #[.bool n, .int .u64 q] w fun e w' => e = .returned (.int .i64 (if n then Vx.lim (-q) else Vx.lim q)) ∧ w' = w := by
  by_cases hb : 1099511627776 < q
  · have e1 : Vx.lim (-q) = -1099511627776 := by unfold Vx.lim; (repeat' split) <;> omega
    have e2 : Vx.lim q = 1099511627776 := by unfold Vx.lim; (repeat' split) <;> omega
    rw [e1, e2]
    cases n with
    | false =>
      go_enter Tryd.func95, Tryd.ntmps95
      go_wp2
      go_ret
      exact ⟨ret_int (by simp), rfl⟩
    | true =>
      go_enter Tryd.func95, Tryd.ntmps95
      go_wp2
      go_ret
      exact ⟨ret_int (by simp), rfl⟩
  · have e1 : Vx.lim (-q) = -q := by unfold Vx.lim; (repeat' split) <;> omega
    have e2 : Vx.lim q = q := by unfold Vx.lim; (repeat' split) <;> omega
    rw [e1, e2]
    have e3 : IntKind.i64.wrap q = q := wrap_in _ (by unfold Bd.I64; omega)
    have e4 : IntKind.i64.wrap (-q) = -q := wrap_in _ (by unfold Bd.I64; omega)
    clear e1 e2
    cases n with
    | false =>
      go_enter Tryd.func95, Tryd.ntmps95
      go_wp2
      go_ret
      exact ⟨ret_int (by simp), rfl⟩
    | true =>
      go_enter Tryd.func95, Tryd.ntmps95
      go_wp2
      go_ret
      exact ⟨ret_int (by simp), rfl⟩
theorem r3add_any (w : World) (a b : Int) (ha : Bd.I64 a) (hb : Bd.I64 b) : Calls Tryd.prog 71 #[.int .i64 a, .int .i64 b] w fun e w' => e = .returned (.int .i64 (Vx.lim (a + b))) ∧ w' = w := by
  have hs1 := fun q : World => r3size_any q a ha
  have hs2 := fun q : World => r3size_any q b hb
  have hm1 : Vx.mag a = if a < 0 then -a else a := rfl
  have hm2 : Vx.mag b = if b < 0 then -b else b := rfl
  unfold Bd.I64 at ha hb
  obtain ⟨R, hR⟩ : ∃ R, Vx.lim (a + b) = R := ⟨_, rfl⟩
  rw [hR]
  have hRv : R = if a + b < -1099511627776 then -1099511627776 else if 1099511627776 < a + b then 1099511627776 else a + b := by rw [← hR]; rfl
  by_cases c : (decide (a < 0) != decide (b < 0)) = true
  · have c' : (!(decide (a < 0)) == (decide (b < 0))) = true := c
    have hab : -9223372036854775808 ≤ a + b ∧ a + b ≤ 9223372036854775807 := by
      by_cases h1 : a < 0 <;> by_cases h2 : b < 0 <;> simp [h1, h2] at c <;> omega
    have ew : IntKind.i64.wrap (a + b) = a + b := wrap_in _ hab
    have hcl := fun q : World => rclamp_any q (a + b) (-1099511627776) 1099511627776 (by decide)
    have hL : (if 1099511627776 < (if a + b < -1099511627776 then -1099511627776 else a + b) then 1099511627776 else (if a + b < -1099511627776 then -1099511627776 else a + b)) = R := by rw [hRv]; (repeat' split) <;> omega
    simp only [hL] at hcl
    have HCL := Lib.hid hcl
    clear hs1 hs2 hm1 hm2 hR hRv hcl c hL
    go_enter Tryd.func71, Tryd.ntmps71
    go_wp2_with (go_at_call 65; refine (HCL.out _).mono ?_; rintro r wz ⟨rfl, rfl⟩)
    go_ret
    exact ⟨rfl, rfl⟩
  · have hsame : (a < 0 ∧ b < 0) ∨ (¬ a < 0 ∧ ¬ b < 0) := by
      by_cases h1 : a < 0 <;> by_cases h2 : b < 0 <;> simp [h1, h2] at c <;> omega
    clear hm1 hm2
    rcases hsame with ⟨c1, c2⟩ | ⟨c1, c2⟩
    · have hbo := fun (q : World) (x : Int) (hx : 0 ≤ x ∧ x < 18446744073709551616) => r3bounded_any q true x hx
      simp only [if_true] at hbo
      have m1 : Vx.mag a = -a := by unfold Vx.mag; rw [if_pos c1]
      have m2 : Vx.mag b = -b := by unfold Vx.mag; rw [if_pos c2]
      simp only [m1] at hs1
      simp only [m2] at hs2
      have HS1 := Lib.hid hs1; have HS2 := Lib.hid hs2; have HBO := Lib.hid hbo; have HR := Lib.hid hRv
      clear hs1 hs2 hR hRv hbo c m1 m2
      by_cases cx1 : 1099511627776 < -a
      · go_enter Tryd.func71, Tryd.ntmps71
        go_wp2_with (first | (go_at_call 94; (with_reducible refine (HS1.out _).mono ?_); rintro r wz ⟨rfl, rfl⟩) | (go_at_call 94; (with_reducible refine (HS2.out _).mono ?_); rintro r wz ⟨rfl, rfl⟩) | (go_at_call 95; refine (HBO.out _ _ (by omega)).mono ?_; rintro r wz ⟨rfl, rfl⟩))
        go_ret
        exact ⟨ret_int (by rw [HR.out]; unfold Vx.lim; (repeat' split) <;> omega), rfl⟩
      · by_cases cx2 : 1099511627776 < -b
        · go_enter Tryd.func71, Tryd.ntmps71
          go_wp2_with (first | (go_at_call 94; (with_reducible refine (HS1.out _).mono ?_); rintro r wz ⟨rfl, rfl⟩) | (go_at_call 94; (with_reducible refine (HS2.out _).mono ?_); rintro r wz ⟨rfl, rfl⟩) | (go_at_call 95; refine (HBO.out _ _ (by omega)).mono ?_; rintro r wz ⟨rfl, rfl⟩))
          go_ret
          exact ⟨ret_int (by rw [HR.out]; unfold Vx.lim; (repeat' split) <;> omega), rfl⟩
        · have es : IntKind.u64.wrap (-a + -b) = -a + -b := u64_in (by omega)
          go_enter Tryd.func71, Tryd.ntmps71
          go_wp2_with (first | (go_at_call 94; (with_reducible refine (HS1.out _).mono ?_); rintro r wz ⟨rfl, rfl⟩) | (go_at_call 94; (with_reducible refine (HS2.out _).mono ?_); rintro r wz ⟨rfl, rfl⟩) | (go_at_call 95; refine (HBO.out _ _ (by omega)).mono ?_; rintro r wz ⟨rfl, rfl⟩))
          go_ret
          exact ⟨ret_int (by rw [HR.out]; unfold Vx.lim; (repeat' split) <;> omega), rfl⟩
    · have d1 : decide (a < 0) = false := decide_eq_false c1
      have d2 : decide (b < 0) = false := decide_eq_false c2
      have hbo := fun (q : World) (x : Int) (hx : 0 ≤ x ∧ x < 18446744073709551616) => r3bounded_any q false x hx
      simp only [if_false, Bool.false_eq_true] at hbo
      have m1 : Vx.mag a = a := by unfold Vx.mag; rw [if_neg c1]
      have m2 : Vx.mag b = b := by unfold Vx.mag; rw [if_neg c2]
      simp only [m1] at hs1
      simp only [m2] at hs2
      have HS1 := Lib.hid hs1; have HS2 := Lib.hid hs2; have HBO := Lib.hid hbo; have HR := Lib.hid hRv
      clear hs1 hs2 hR hRv hbo c m1 m2
      by_cases cx1 : 1099511627776 < a
      · go_enter Tryd.func71, Tryd.ntmps71
        go_wp2_with (first | (go_at_call 94; (with_reducible refine (HS1.out _).mono ?_); rintro r wz ⟨rfl, rfl⟩) | (go_at_call 94; (with_reducible refine (HS2.out _).mono ?_); rintro r wz ⟨rfl, rfl⟩) | (go_at_call 95; refine (HBO.out _ _ (by omega)).mono ?_; rintro r wz ⟨rfl, rfl⟩))
        go_ret
        exact ⟨ret_int (by rw [HR.out]; unfold Vx.lim; (repeat' split) <;> omega), rfl⟩
      · by_cases cx2 : 1099511627776 < b
        · go_enter Tryd.func71, Tryd.ntmps71
          go_wp2_with (first | (go_at_call 94; (with_reducible refine (HS1.out _).mono ?_); rintro r wz ⟨rfl, rfl⟩) | (go_at_call 94; (with_reducible refine (HS2.out _).mono ?_); rintro r wz ⟨rfl, rfl⟩) | (go_at_call 95; refine (HBO.out _ _ (by omega)).mono ?_; rintro r wz ⟨rfl, rfl⟩))
          go_ret
          exact ⟨ret_int (by rw [HR.out]; unfold Vx.lim; (repeat' split) <;> omega), rfl⟩
        · have es : IntKind.u64.wrap (a + b) = a + b := u64_in (by omega)
          go_enter Tryd.func71, Tryd.ntmps71
          go_wp2_with (first | (go_at_call 94; (with_reducible refine (HS1.out _).mono ?_); rintro r wz ⟨rfl, rfl⟩) | (go_at_call 94; (with_reducible refine (HS2.out _).mono ?_); rintro r wz ⟨rfl, rfl⟩) | (go_at_call 95; refine (HBO.out _ _ (by omega)).mono ?_; rintro r wz ⟨rfl, rfl⟩))
          go_ret
          exact ⟨ret_int (by rw [HR.out]; unfold Vx.lim; (repeat' split) <;> omega), rfl⟩
end Go.Proofs.YtinjlkceplhibaaDoor
