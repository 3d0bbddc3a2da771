/- fix and vec: the walks of the small functions of numbers. -/
import Derived.Test.YtinjlkceplhibaaDoorVxA
import Derived.Test.YtinjlkceplhibaaDoorFixP
namespace Go.Proofs.YtinjlkceplhibaaDoor
open Go.RowKit

theorem wrap_in (x : Int) (h : Bd.I64 x) : IntKind.i64.wrap x = x := by unfold Bd.I64 at h; rw [IntKind.wrap_i64]; omega
theorem u64_in {n : Int} (h : 0 ≤ n ∧ n < 18446744073709551616) : IntKind.u64.wrap n = n := by rw [IntKind.wrap_u64]; omega
theorem fsize_any (w : World) (a : Int) (ha : Bd.I64 a) : Calls Tryd.prog 115 #[.int .i64 a] w fun e w' => e = .returned (.int .u64 (Vx.mag a)) ∧ w' = w := by
  have hm : Vx.mag a = if a < 0 then -a else a := rfl
  have h1 : a < 0 → IntKind.u64.wrap (-(IntKind.u64.wrap a)) = -a := fun h => by unfold Bd.I64 at ha; rw [IntKind.wrap_u64, IntKind.wrap_u64]; omega
  have h2 : ¬ a < 0 → IntKind.u64.wrap a = a := fun h => by unfold Bd.I64 at ha; rw [IntKind.wrap_u64]; omega
  generalize Vx.mag a = m at *
  by_cases h : a < 0
  · have e1 := h1 h
    rw [if_pos h] at hm
    subst hm
    clear h1 h2
    go_enter Tryd.func115, Tryd.ntmps115
    go_wp2
    go_ret
    exact ⟨rfl, rfl⟩
  · have e1 := h2 h
    rw [if_neg h] at hm
    subst hm
    clear h1 h2
    go_enter Tryd.func115, Tryd.ntmps115
    go_wp2
    go_ret
    exact ⟨rfl, rfl⟩
theorem clamp_any (w : World) (x lo hi : Int) : Calls Tryd.prog 117 #[.int .i64 x, .int .i64 lo, .int .i64 hi] w fun e w' => e = .returned (.int .i64 (if hi < (if x < lo then lo else x) then hi else (if x < lo then lo else x))) ∧ w' = w := by
  go_enter Tryd.func117, Tryd.ntmps117
  go_wp2
  all_goals (go_ret; refine ⟨ret_int ?_, rfl⟩; repeat' split)
  all_goals omega
theorem within_any (w : World) (x lo hi : Int) : Calls Tryd.prog 90 #[.int .i64 x, .int .i64 lo, .int .i64 hi] w fun e w' => e = .returned (.int .i64 (if hi < (if x < lo then lo else x) then hi else (if x < lo then lo else x))) ∧ w' = w := by
  go_enter Tryd.func90, Tryd.ntmps90
  go_wp2
  all_goals (go_ret; refine ⟨ret_int ?_, rfl⟩; repeat' split)
  all_goals omega
theorem fbounded_any (w : World) (x : Int) : Calls Tryd.prog 112 #[.int .i64 x] w fun e w' => e = .returned (.int .i64 (Vx.lim x)) ∧ w' = w := by
  have h : (if 1099511627776 < (if x < -1099511627776 then -1099511627776 else x) then 1099511627776 else (if x < -1099511627776 then -1099511627776 else x)) = Vx.lim x := by unfold Vx.lim; (repeat' split) <;> omega
  have hc := fun q : World => clamp_any q x (-1099511627776) 1099511627776
  simp only [h] at hc
  have HC := Lib.hid hc
  clear hc h
  go_enter Tryd.func112, Tryd.ntmps112
  go_wp2_with (go_at_call 117; refine (HC.out _).mono ?_; rintro r wz ⟨rfl, rfl⟩)
  go_ret
  exact ⟨rfl, rfl⟩
theorem vbounded_any (w : World) (x : Int) : Calls Tryd.prog 61 #[.int .i64 x] w fun e w' => e = .returned (.int .i64 (Vx.lim x)) ∧ w' = w := by
  have h : (if 1099511627776 < (if x < -1099511627776 then -1099511627776 else x) then 1099511627776 else (if x < -1099511627776 then -1099511627776 else x)) = Vx.lim x := by unfold Vx.lim; (repeat' split) <;> omega
  have hc := fun q : World => within_any q x (-1099511627776) 1099511627776
  simp only [h] at hc
  have HC := Lib.hid hc
  clear hc h
  go_enter Tryd.func61, Tryd.ntmps61
  go_wp2_with (go_at_call 90; refine (HC.out _).mono ?_; rintro r wz ⟨rfl, rfl⟩)
  go_ret
  exact ⟨rfl, rfl⟩
theorem vsum_any (w : World) (a b : Int) (ha : Bd.I64 a) (hb : Bd.I64 b) : Calls Tryd.prog 62 #[.int .i64 a, .int .i64 b] w fun e w' => e = .returned (.int .i64 (Vx.sat (a + b))) ∧ w' = w := by
  unfold Bd.I64 at ha hb
  have hw : (IntKind.i64.wrap (a + b) = a + b ∧ -9223372036854775808 ≤ a + b ∧ a + b ≤ 9223372036854775807) ∨ (a + b > 9223372036854775807 ∧ IntKind.i64.wrap (a + b) = a + b - 18446744073709551616) ∨ (a + b < -9223372036854775808 ∧ IntKind.i64.wrap (a + b) = a + b + 18446744073709551616) := by rw [IntKind.wrap_i64]; omega
  obtain ⟨s, hs⟩ : ∃ s, IntKind.i64.wrap (a + b) = s := ⟨_, rfl⟩
  rw [hs] at hw
  have hr : Vx.sat (a + b) = if 9223372036854775807 < a + b then 9223372036854775807 else if a + b < -9223372036854775808 then -9223372036854775808 else a + b := rfl
  generalize Vx.sat (a + b) = r at *
  have HR := Lib.hid hr; have HW := Lib.hid hw
  clear hr hw
  go_enter Tryd.func62, Tryd.ntmps62
  go_wp2
  all_goals (go_ret; refine ⟨ret_int ?_, rfl⟩; have h1 := HR.out; have h2 := HW.out; rw [h1]; clear h1; repeat' split)
  all_goals omega
theorem vless_any (w : World) (a b : Int) (ha : Bd.I64 a) (hb : Bd.I64 b) : Calls Tryd.prog 109 #[.int .i64 a, .int .i64 b] w fun e w' => e = .returned (.int .i64 (Vx.sat (a - b))) ∧ w' = w := by
  unfold Bd.I64 at ha hb
  have hw : (IntKind.i64.wrap (a - b) = a - b ∧ -9223372036854775808 ≤ a - b ∧ a - b ≤ 9223372036854775807) ∨ (a - b > 9223372036854775807 ∧ IntKind.i64.wrap (a - b) = a - b - 18446744073709551616) ∨ (a - b < -9223372036854775808 ∧ IntKind.i64.wrap (a - b) = a - b + 18446744073709551616) := by rw [IntKind.wrap_i64]; omega
  obtain ⟨s, hs⟩ : ∃ s, IntKind.i64.wrap (a - b) = s := ⟨_, rfl⟩
  rw [hs] at hw
  have hr : Vx.sat (a - b) = if 9223372036854775807 < a - b then 9223372036854775807 else if a - b < -9223372036854775808 then -9223372036854775808 else a - b := rfl
  generalize Vx.sat (a - b) = r at *
  have HR := Lib.hid hr; have HW := Lib.hid hw
  clear hr hw
  go_enter Tryd.func109, Tryd.ntmps109
  go_wp2
  all_goals (go_ret; refine ⟨ret_int ?_, rfl⟩; have h1 := HR.out; have h2 := HW.out; rw [h1]; clear h1; repeat' split)
  all_goals omega
theorem fadd_any (w : World) (a b : Int) (ha : Bd.I64 a) (hb : Bd.I64 b) : Calls Tryd.prog 101 #[.int .i64 a, .int .i64 b] w fun e w' => e = .returned (.int .i64 (Vx.lim (a + b))) ∧ w' = w := by
  unfold Bd.I64 at ha hb
  have hw : (IntKind.i64.wrap (a + b) = a + b ∧ -9223372036854775808 ≤ a + b ∧ a + b ≤ 9223372036854775807) ∨ (a + b > 9223372036854775807 ∧ IntKind.i64.wrap (a + b) = a + b - 18446744073709551616) ∨ (a + b < -9223372036854775808 ∧ IntKind.i64.wrap (a + b) = a + b + 18446744073709551616) := by rw [IntKind.wrap_i64]; omega
  obtain ⟨s, hs⟩ : ∃ s, IntKind.i64.wrap (a + b) = s := ⟨_, rfl⟩
  rw [hs] at hw
  have hr : Vx.lim (a + b) = if a + b < -1099511627776 then -1099511627776 else if 1099511627776 < a + b then 1099511627776 else a + b := rfl
  generalize Vx.lim (a + b) = r at *
  have hl : Vx.lim s = if s < -1099511627776 then -1099511627776 else if 1099511627776 < s then 1099511627776 else s := rfl
  have hc := fun q : World => fbounded_any q s
  generalize Vx.lim s = ls at *
  have HR := Lib.hid hr; have HW := Lib.hid hw; have HC := Lib.hid hc; have HL := Lib.hid hl
  clear hr hw hc hl
  go_enter Tryd.func101, Tryd.ntmps101
  go_wp2_with (go_at_call 112; refine (HC.out _).mono ?_; rintro r wz ⟨rfl, rfl⟩)
  all_goals (go_ret; refine ⟨ret_int ?_, rfl⟩; have h1 := HR.out; have h2 := HW.out; have h3 := HL.out; rw [h1]; clear h1; try rw [h3]; clear h3; repeat' split)
  all_goals omega
theorem vturn_any (w : World) (a b : Int) : Calls Tryd.prog 98 #[.int .i64 a, .int .i64 b] w fun e w' => e = .returned (.int .i64 ((a + b) % 256)) ∧ w' = w := by
  have e1 := and255 a
  have e2 := and255 b
  have e3 := and255 (a % 256 + b % 256)
  have e4 : IntKind.i64.wrap (a % 256 + b % 256) = a % 256 + b % 256 := wrap_in _ (by unfold Bd.I64; omega)
  have e5 : (a % 256 + b % 256) % 256 = (a + b) % 256 := by omega
  have H5 := Lib.hid e5
  clear e5
  go_enter Tryd.func98, Tryd.ntmps98
  go_wp2
  go_ret
  exact ⟨ret_int (by first | exact H5.out | (have := H5.out; omega)), rfl⟩
end Go.Proofs.YtinjlkceplhibaaDoor
