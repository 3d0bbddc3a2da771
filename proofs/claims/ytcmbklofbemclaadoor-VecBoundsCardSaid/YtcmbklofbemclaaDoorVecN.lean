/- vec: what the printed functions come to. -/
import Derived.Test.YtcmbklofbemclaaDoorVecM
namespace Go.Proofs.YtcmbklofbemclaaDoor.FixM
open Go.RowKit Go.Proofs.YtcmbklofbemclaaDoor Go.Proofs.YtcmbklofbemclaaDoor.VVecB Go.Proofs.YtcmbklofbemclaaDoorW.PrintWords Go.Proofs.YtcmbklofbemclaaDoorW.PrintLast Go.Proofs.YtcmbklofbemclaaDoorW.PrintMore

/-- within m on both sides -/
def keep (x m : Int) : Int := if x > m then m else if x < -m then -m else x
theorem keep_bd {x m : Int} (h : 0 ≤ m) : -m ≤ keep x m ∧ keep x m ≤ m := by
  unfold keep
  repeat' split
  all_goals omega
theorem keep_lim (x : Int) : keep x 1099511627776 = lim x := by
  unfold keep lim
  repeat' split
  all_goals omega
theorem keep_id {x m : Int} (h : -m ≤ x ∧ x ≤ m) : keep x m = x := by
  unfold keep
  repeat' split
  all_goals omega
theorem within_keep (x : Int) {m : Int} (h : 0 ≤ m) : vec_within_int64.f x (-m) m = some (keep x m) := by
  unfold vec_within_int64.f mn mx keep
  congr 1
  repeat' split
  all_goals omega
theorem rkeep_eq (x : Int) {m : Int} (h : 0 ≤ m ∧ m ≤ 9223372036854775807) : joustref13_keep.f x m = some (keep x m) := by
  unfold joustref13_keep.f keep
  rw [w64_self (n := -m) (by unfold I64; omega)]
  split <;> first | rfl | (split <;> rfl)
/-- a sum that is too great for an int64 is the greatest -/
def sat (x : Int) : Int := if 9223372036854775807 < x then 9223372036854775807 else if x < -9223372036854775808 then -9223372036854775808 else x
theorem sat_keep (x : Int) {m : Int} (h : 0 ≤ m ∧ m ≤ 9223372036854775807) : keep (sat x) m = keep x m := by
  unfold keep sat
  repeat' split
  all_goals omega
theorem sum_eq (k : Nat) {a b : Int} (ha : I64 a) (hb : I64 b) : vec_sum.f (k + 1) a b = some (sat (a + b)) := by
  unfold vec_sum.f
  simp only [vec_sum.j0]
  unfold I64 at ha hb
  have hw : wrap64 (a + b) = a + b ∧ -9223372036854775808 ≤ a + b ∧ a + b ≤ 9223372036854775807 ∨ (a + b > 9223372036854775807 ∧ wrap64 (a + b) = a + b - 18446744073709551616) ∨ (a + b < -9223372036854775808 ∧ wrap64 (a + b) = a + b + 18446744073709551616) := by unfold wrap64; omega
  generalize wrap64 (a + b) = s at *
  unfold sat
  repeat' split
  all_goals simp_all
  all_goals omega
theorem less_eq (k : Nat) {a b : Int} (ha : I64 a) (hb : I64 b) : vec_less.f (k + 1) a b = some (sat (a - b)) := by
  unfold vec_less.f
  simp only [vec_less.j0]
  unfold I64 at ha hb
  have hw : wrap64 (a - b) = a - b ∧ -9223372036854775808 ≤ a - b ∧ a - b ≤ 9223372036854775807 ∨ (a - b > 9223372036854775807 ∧ wrap64 (a - b) = a - b - 18446744073709551616) ∨ (a - b < -9223372036854775808 ∧ wrap64 (a - b) = a - b + 18446744073709551616) := by unfold wrap64; omega
  generalize wrap64 (a - b) = s at *
  unfold sat
  repeat' split
  all_goals simp_all
  all_goals omega
theorem vbounded_eq (x : Int) : vec_bounded.f x = some (lim x) := by
  unfold vec_bounded.f
  rw [within_keep x (by decide), keep_lim]; rfl
theorem sat_lim (x : Int) : lim (sat x) = lim x := by rw [← keep_lim, ← keep_lim, sat_keep x (by decide)]
theorem vadd_eq (k : Nat) {a b c d : Int} (ha : I64 a) (hb : I64 b) (hc : I64 c) (hd : I64 d) : vec_Add.f (k + 1) a b c d = some (lim (a + c), lim (b + d)) := by
  unfold vec_Add.f
  rw [sum_eq k ha hc, sum_eq k hb hd]
  simp only [Option.bind_some, vbounded_eq, sat_lim]
theorem vsub_eq (k : Nat) {a b c d : Int} (ha : I64 a) (hb : I64 b) (hc : I64 c) (hd : I64 d) : vec_Sub.f (k + 1) a b c d = some (lim (a - c), lim (b - d)) := by
  unfold vec_Sub.f
  rw [less_eq k ha hc, less_eq k hb hd]
  simp only [Option.bind_some, vbounded_eq, sat_lim]
theorem rsum_eq (k : Nat) {a b m : Int} (ha : I64 a) (hb : I64 b) (hm : 0 ≤ m ∧ m ≤ 9223372036854775807) : joustref13_Sum.f (k + 1) a b m = some (keep (a + b) m) := by
  unfold joustref13_Sum.f
  simp only [joustref13_Sum.j0, rkeep_eq _ hm, Option.bind_some]
  unfold I64 at ha hb
  by_cases h1 : a ≥ 0
  · by_cases h2 : b ≥ 0
    · rw [if_pos h1, if_pos h2, w64_self (n := 9223372036854775807 - b) (by unfold I64; omega)]
      by_cases h3 : a > 9223372036854775807 - b
      · rw [decide_eq_true h3, if_pos rfl]
        congr 1; unfold keep; repeat' split
        all_goals omega
      · rw [decide_eq_false h3, if_neg (by decide), if_neg (by omega), w64_self (n := a + b) (by unfold I64; omega)]
    · rw [if_pos h1, if_neg h2, if_neg (by decide), if_neg (by omega), w64_self (n := a + b) (by unfold I64; omega)]
  · rw [if_neg h1, if_neg (by decide), if_pos (by omega)]
    by_cases h2 : b < 0
    · rw [if_pos h2, w64_self (n := -9223372036854775808 - b) (by unfold I64; omega), w64_self (n := -m) (by unfold I64; omega)]
      by_cases h3 : a < -9223372036854775808 - b
      · rw [if_pos h3]
        congr 1; unfold keep; repeat' split
        all_goals omega
      · rw [if_neg h3, w64_self (n := a + b) (by unfold I64; omega)]
    · rw [if_neg h2, w64_self (n := a + b) (by unfold I64; omega)]
theorem rless_eq (k : Nat) {a b m : Int} (ha : I64 a) (hb : I64 b) (hm : 0 ≤ m ∧ m ≤ 9223372036854775807) : joustref13_Less.f (k + 1) a b m = some (keep (a - b) m) := by
  unfold joustref13_Less.f
  simp only [joustref13_Less.j0, rkeep_eq _ hm, Option.bind_some]
  unfold I64 at ha hb
  by_cases h1 : b < 0
  · rw [if_pos h1, w64_self (n := 9223372036854775807 + b) (by unfold I64; omega)]
    by_cases h3 : a > 9223372036854775807 + b
    · rw [decide_eq_true h3, if_pos rfl]
      congr 1; unfold keep; repeat' split
      all_goals omega
    · rw [decide_eq_false h3, if_neg (by decide), if_neg (by omega), w64_self (n := a - b) (by unfold I64; omega)]
  · rw [if_neg h1, if_neg (by decide)]
    by_cases h2 : b > 0
    · rw [if_pos h2, w64_self (n := -9223372036854775808 + b) (by unfold I64; omega), w64_self (n := -m) (by unfold I64; omega)]
      by_cases h3 : a < -9223372036854775808 + b
      · rw [if_pos h3]
        congr 1; unfold keep; repeat' split
        all_goals omega
      · rw [if_neg h3, w64_self (n := a - b) (by unfold I64; omega)]
    · rw [if_neg h2, w64_self (n := a - b) (by unfold I64; omega)]
theorem radd2_eq (k : Nat) {a b c d : Int} (ha : I64 a) (hb : I64 b) (hc : I64 c) (hd : I64 d) : joustref13_Add.f (k + 1) a b c d = some (lim (a + c), lim (b + d)) := by
  unfold joustref13_Add.f
  rw [rsum_eq k ha hc (by decide), rsum_eq k hb hd (by decide), keep_lim, keep_lim]; rfl
theorem rsub2_eq (k : Nat) {a b c d : Int} (ha : I64 a) (hb : I64 b) (hc : I64 c) (hd : I64 d) : joustref13_Sub.f (k + 1) a b c d = some (lim (a - c), lim (b - d)) := by
  unfold joustref13_Sub.f
  rw [rless_eq k ha hc (by decide), rless_eq k hb hd (by decide), keep_lim, keep_lim]; rfl
theorem scale_eq {a b k : Int} (ha : I64 a) (hb : I64 b) (hk : I64 k) : vec_Scale.f a b k = some (mulV a k, mulV b k) := by
  unfold vec_Scale.f; rw [mul_eq ha hk, mul_eq hb hk]; rfl
theorem rscale_eq {a b k : Int} (ha : I64 a) (hb : I64 b) (hk : I64 k) : joustref13_Scale.f a b k = some (mulV a k, mulV b k) := by
  unfold joustref13_Scale.f; rw [rmul_eq ha hk, rmul_eq hb hk]; rfl
/-- the bound that Cap takes -/
def capM (k : Int) : Int := if k < 0 then 0 else if k > 1099511627776 then 1099511627776 else k
theorem capM_bd (k : Int) : 0 ≤ capM k ∧ capM k ≤ 1099511627776 := by
  unfold capM
  repeat' split
  all_goals omega
theorem cap_eq (a b k : Int) : vec_Cap.f a b k = some (keep a (capM k), keep b (capM k)) := by
  unfold vec_Cap.f
  have h : vec_within_int64.f k 0 1099511627776 = some (capM k) := by
    unfold vec_within_int64.f mn mx capM
    congr 1
    repeat' split
    all_goals omega
  have hb := capM_bd k
  rw [h]
  simp only [Option.bind_some]
  rw [w64_self (n := -capM k) (by unfold I64; omega), within_keep _ hb.1, within_keep _ hb.1]; rfl
theorem rcap_eq (n : Nat) (a b k : Int) : joustref13_Cap.f (n + 1) a b k = some (keep a (capM k), keep b (capM k)) := by
  unfold joustref13_Cap.f
  simp only [joustref13_Cap.j0]
  unfold capM
  by_cases h : k < 0
  · rw [if_pos h, if_pos h, if_neg (by decide), rkeep_eq _ (by decide), rkeep_eq _ (by decide)]; rfl
  · rw [if_neg h, if_neg h]
    by_cases h2 : k > 1099511627776
    · rw [if_pos h2, if_pos h2, rkeep_eq _ (by decide), rkeep_eq _ (by decide)]; rfl
    · rw [if_neg h2, if_neg h2, rkeep_eq _ (by omega), rkeep_eq _ (by omega)]; rfl
/-- a difference, as far as distances count it -/
def dif (a b : Int) : Int := keep (a - b) 2147483647
theorem dif_bd (a b : Int) : -2147483647 ≤ dif a b ∧ dif a b ≤ 2147483647 := keep_bd (by decide)
theorem way_eq (k : Nat) {a b c d : Int} (ha : I64 a) (hb : I64 b) (hc : I64 c) (hd : I64 d) : vec_way.f (k + 1) a b c d = some (dif c a, dif d b) := by
  unfold vec_way.f
  rw [less_eq k hc ha, less_eq k hd hb]
  simp only [Option.bind_some]
  rw [within_keep _ (by decide), within_keep _ (by decide)]
  simp only [Option.bind_some]
  rw [sat_keep _ (by decide), sat_keep _ (by decide)]; rfl
def sq (x : Int) : Int := x * x
theorem sq_bd {x m : Int} (h : -m ≤ x ∧ x ≤ m) : 0 ≤ sq x ∧ sq x ≤ m * m := by
  have h1 : mag x * mag x = mag (x * x) := mag_mul x x
  have h2 := mul_bd (show 0 ≤ mag x ∧ mag x ≤ m by unfold mag; split <;> omega) (show 0 ≤ mag x ∧ mag x ≤ m by unfold mag; split <;> omega)
  have h3 : 0 ≤ x * x := by
    by_cases h : 0 ≤ x
    · exact Int.mul_nonneg h h
    · have := Int.mul_pos_of_neg_of_neg (show x < 0 by omega) (show x < 0 by omega); omega
  rw [h1] at h2
  unfold mag at h2
  rw [if_neg (by omega)] at h2
  exact h2
/-- the squared distance -/
def dist (a b c d : Int) : Int := sq (dif c a) + sq (dif d b)
theorem dist_bd (a b c d : Int) : 0 ≤ dist a b c d ∧ dist a b c d ≤ 9223372028264841218 := by
  have h1 := sq_bd (dif_bd c a)
  have h2 := sq_bd (dif_bd d b)
  unfold dist
  omega
theorem dist2_eq (k : Nat) {a b c d : Int} (ha : I64 a) (hb : I64 b) (hc : I64 c) (hd : I64 d) : vec_Dist2.f (k + 1) a b c d = some (dist a b c d) := by
  unfold vec_Dist2.f
  rw [way_eq k ha hb hc hd]
  have h1 := sq_bd (dif_bd c a)
  have h2 := sq_bd (dif_bd d b)
  unfold dist
  simp only [Option.bind_some]
  show some (wrap64 (wrap64 (sq (dif c a)) + wrap64 (sq (dif d b)))) = _
  rw [w64_self (n := sq (dif c a)) (by unfold I64; omega), w64_self (n := sq (dif d b)) (by unfold I64; omega), w64_self (by unfold I64; omega)]
theorem dif_neg (a b : Int) : dif a b = - dif b a := by
  unfold dif keep
  repeat' split
  all_goals omega
theorem sq_neg (x : Int) : sq (-x) = sq x := by unfold sq; grind
theorem rdist2_eq (k : Nat) {a b c d : Int} (ha : I64 a) (hb : I64 b) (hc : I64 c) (hd : I64 d) : joustref13_Dist2.f (k + 1) a b c d = some (dist a b c d) := by
  unfold joustref13_Dist2.f
  rw [rless_eq k ha hc (by decide), rless_eq k hb hd (by decide)]
  have h1 := sq_bd (dif_bd c a)
  have h2 := sq_bd (dif_bd d b)
  simp only [Option.bind_some]
  show some (wrap64 (wrap64 (sq (dif a c)) + wrap64 (sq (dif b d)))) = _
  rw [dif_neg a c, dif_neg b d, sq_neg, sq_neg]
  unfold dist
  rw [w64_self (n := sq (dif c a)) (by unfold I64; omega), w64_self (n := sq (dif d b)) (by unfold I64; omega), w64_self (by unfold I64; omega)]
/-- is the way at most r? -/
def nearB (a b c d r : Int) : Bool := if r < 0 then false else if r ≥ 3037000500 then true else decide (dist a b c d ≤ r * r)
theorem near_eq (k : Nat) {a b c d r : Int} (ha : I64 a) (hb : I64 b) (hc : I64 c) (hd : I64 d) : vec_Within.f (k + 1) a b c d r = some (nearB a b c d r) := by
  unfold vec_Within.f nearB
  by_cases h1 : r < 0
  · rw [if_pos h1, if_pos h1]
  · rw [if_neg h1, if_neg h1]
    by_cases h2 : r ≥ 3037000500
    · rw [if_pos h2, if_pos h2]
    · have := mul_bd (show 0 ≤ r ∧ r ≤ 3037000499 by omega) (show 0 ≤ r ∧ r ≤ 3037000499 by omega)
      rw [if_neg h2, if_neg h2, dist2_eq k ha hb hc hd, w64_self (n := r * r) (by unfold I64; omega)]; rfl
theorem rnear_eq (k : Nat) {a b c d r : Int} (ha : I64 a) (hb : I64 b) (hc : I64 c) (hd : I64 d) : joustref13_Within.f (k + 1) a b c d r = some (nearB a b c d r) := by
  unfold joustref13_Within.f nearB
  by_cases h1 : r < 0
  · rw [if_pos h1, if_pos h1]
  · rw [if_neg h1, if_neg h1]
    by_cases h2 : r ≥ 3037000500
    · rw [if_pos h2, if_pos h2]
    · have := mul_bd (show 0 ≤ r ∧ r ≤ 3037000499 by omega) (show 0 ≤ r ∧ r ≤ 3037000499 by omega)
      rw [if_neg h2, if_neg h2, rdist2_eq k ha hb hc hd, w64_self (n := r * r) (by unfold I64; omega)]; rfl
theorem turn_eq (a b : Int) : vec_Turn.f a b = some ((a + b) % 256) := by
  unfold vec_Turn.f
  rw [and255, and255, and255]
  congr 1
  unfold wrap64
  omega
theorem rturn_eq (a b : Int) : joustref13_Turn.f a b = some ((a + b) % 256) := by
  unfold joustref13_Turn.f
  have h1 := Int.lt_tmod_of_pos a (by decide : (0 : Int) < 256)
  have h2 := Int.tmod_lt_of_pos a (by decide : (0 : Int) < 256)
  have h3 := Int.mul_tdiv_add_tmod a 256
  have h4 := Int.lt_tmod_of_pos b (by decide : (0 : Int) < 256)
  have h5 := Int.tmod_lt_of_pos b (by decide : (0 : Int) < 256)
  have h6 := Int.mul_tdiv_add_tmod b 256
  have hw : wrap64 ((wrap64 ((Int.tmod a 256) + (Int.tmod b 256))) + 512) = Int.tmod a 256 + Int.tmod b 256 + 512 := by unfold wrap64; omega
  rw [hw, tmod_pos (by omega)]
  congr 1
  omega
theorem unit_eq (k : Nat) (h : Int) : vec_Unit.f k h = some (sinT (h + 64), sinT h) := by
  unfold vec_Unit.f; rw [cos_eq]; rfl
theorem runit_eq (k : Nat) (hk : 4 ≤ k) {h : Int} (hh : I64 h) : joustref13_Unit.f k h = some (sinT (h + 64), sinT h) := by
  unfold joustref13_Unit.f; rw [rcos_eq k hk hh, rsin_eq k hk hh]; rfl
end Go.Proofs.YtcmbklofbemclaaDoor.FixM
