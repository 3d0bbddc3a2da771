/- vec: Len and Toward, plain. -/
import Derived.Test.YtcmbklofbemclaaDoorVecN
namespace Go.Proofs.YtcmbklofbemclaaDoor.FixM
open Go.RowKit Go.Proofs.YtcmbklofbemclaaDoor Go.Proofs.YtcmbklofbemclaaDoor.VVecB Go.Proofs.YtcmbklofbemclaaDoorW.PrintWords Go.Proofs.YtcmbklofbemclaaDoorW.PrintLast Go.Proofs.YtcmbklofbemclaaDoorW.PrintMore

/-- the root of N, rounded down -/
def IsRoot (N R : Int) : Prop := 0 ≤ R ∧ R * R ≤ N ∧ N < (R + 1) * (R + 1)
theorem IsRoot.uniq {N R S : Int} (h : IsRoot N R) (k : IsRoot N S) : R = S := by
  obtain ⟨h0, h1, h2⟩ := h
  obtain ⟨k0, k1, k2⟩ := k
  have a : ∀ x y : Int, 0 ≤ x → 0 ≤ y → x * x < (y + 1) * (y + 1) → x ≤ y := fun x y hx hy hlt => by
    by_cases hc : x ≤ y
    · exact hc
    · have := Int.mul_le_mul (show y + 1 ≤ x by omega) (show y + 1 ≤ x by omega) (by omega) hx
      omega
  have := a R S h0 k0 (by omega)
  have := a S R k0 h0 (by omega)
  omega
theorem two_pow_pos (j : Nat) : (0 : Int) < 2 ^ j := Int.pow_pos (by decide)
theorem len_loop (n : Int) : ∀ (j k : Nat) (lo hi : Int), j + 1 ≤ k → 0 ≤ lo → lo ≤ hi → hi ≤ 3037000499 → hi - lo < 2 ^ j → lo * lo ≤ n → n < (hi + 1) * (hi + 1) → ∃ R, vec_Len.l0 k n lo hi = some R ∧ IsRoot n R ∧ R ≤ 3037000499 := by
  intro j
  induction j with
  | zero =>
    intro k lo hi hk h0 h1 h2 h3 h4 h5
    obtain ⟨k, rfl⟩ : ∃ m, k = m + 1 := ⟨k - 1, by omega⟩
    simp only [Int.pow_zero] at h3
    obtain rfl : hi = lo := by omega
    refine ⟨hi, ?_, ⟨h0, h4, h5⟩, h2⟩
    rw [vec_Len.l0, if_neg (by omega)]
  | succ j ih =>
    intro k lo hi hk h0 h1 h2 h3 h4 h5
    obtain ⟨k, rfl⟩ : ∃ m, k = m + 1 := ⟨k - 1, by omega⟩
    have hp : (2 : Int) ^ (j + 1) = 2 * 2 ^ j := by rw [Int.pow_succ]; omega
    rw [hp] at h3
    generalize (2 : Int) ^ j = q at *
    by_cases hlt : lo < hi
    · have e1 : wrap64 (wrap64 (hi - lo) + 1) = hi - lo + 1 := by unfold wrap64; omega
      obtain ⟨m, hm⟩ : ∃ m, lo + (hi - lo + 1) / 2 = m := ⟨_, rfl⟩
      have e2 : wrap64 (lo + wrap64 (Int.tdiv (hi - lo + 1) 2)) = m := by rw [tdiv_pos (by omega), ← hm]; unfold wrap64; omega
      have mm := mul_bd (show 0 ≤ m ∧ m ≤ 3037000499 by omega) (show 0 ≤ m ∧ m ≤ 3037000499 by omega)
      rw [vec_Len.l0, if_pos hlt, e1, e2, w64_self (n := m * m) (by unfold I64; omega), w64_self (n := m - 1) (by unfold I64; omega)]
      by_cases hc : m * m ≤ n
      · rw [if_pos hc]
        exact ih k m hi (by omega) (by omega) (by omega) h2 (by omega) hc h5
      · rw [if_neg hc]
        exact ih k lo (m - 1) (by omega) h0 (by omega) (by omega) (by omega) h4 (by rw [show m - 1 + 1 = m by omega]; omega)
    · obtain rfl : hi = lo := by omega
      refine ⟨hi, ?_, ⟨h0, h4, h5⟩, h2⟩
      rw [vec_Len.l0, if_neg (by omega)]
/-- the squared length, as far as it counts -/
def len2 (a b : Int) : Int := sq (keep a 2147483647) + sq (keep b 2147483647)
theorem len2_bd (a b : Int) : 0 ≤ len2 a b ∧ len2 a b ≤ 9223372028264841218 := by
  have h1 := sq_bd (keep_bd (x := a) (m := 2147483647) (by decide))
  have h2 := sq_bd (keep_bd (x := b) (m := 2147483647) (by decide))
  unfold len2
  omega
theorem len_eq (k : Nat) (hk : 34 ≤ k) (a b : Int) : ∃ R, vec_Len.f k a b = some R ∧ IsRoot (len2 a b) R ∧ R ≤ 3037000499 := by
  unfold vec_Len.f
  rw [within_keep _ (by decide), within_keep _ (by decide)]
  have h1 := sq_bd (keep_bd (x := a) (m := 2147483647) (by decide))
  have h2 := sq_bd (keep_bd (x := b) (m := 2147483647) (by decide))
  have h3 := len2_bd a b
  simp only [Option.bind_some]
  have e : wrap64 (wrap64 (keep a 2147483647 * keep a 2147483647) + wrap64 (keep b 2147483647 * keep b 2147483647)) = len2 a b := by
    show wrap64 (wrap64 (sq (keep a 2147483647)) + wrap64 (sq (keep b 2147483647))) = len2 a b
    unfold len2 at h3 ⊢
    rw [w64_self (n := sq (keep a 2147483647)) (by unfold I64; omega), w64_self (n := sq (keep b 2147483647)) (by unfold I64; omega), w64_self (by unfold I64; omega)]
  rw [e]
  exact len_loop (len2 a b) 32 k 0 3037000499 (by omega) (by decide) (by decide) (by decide) (by decide) (by omega) (by omega)
theorem rlen_loop (n : Int) : ∀ (j k : Nat) (r : Int), j ≤ 31 → j + 2 ≤ k → 0 ≤ r → r + 2 * 2 ^ j ≤ 4294967296 → r * r ≤ n → n < (r + 2 * 2 ^ j) * (r + 2 * 2 ^ j) → ∃ R, joustref13_Len.l0 k n r (2 ^ j) = some R ∧ IsRoot n R := by
  intro j
  induction j with
  | zero =>
    intro k r _ hk h0 h1 h2 h3
    obtain ⟨k, rfl⟩ : ∃ m, k = m + 1 + 1 := ⟨k - 2, by omega⟩
    simp only [Int.pow_zero] at *
    have e0 : IntKind.u64.wrap (Int.tdiv 1 2) = 0 := by decide
    have ee : ∀ x : Int, 0 ≤ x ∧ x ≤ 4294967296 → joustref13_Len.l0 (k + 1) n x 0 = some x := fun x hx => by
      rw [joustref13_Len.l0, if_neg (by omega), w64_self (by unfold I64; omega)]
    have mm := mul_bd (show 0 ≤ r + 1 ∧ r + 1 ≤ 4294967295 by omega) (show 0 ≤ r + 1 ∧ r + 1 ≤ 4294967295 by omega)
    rw [joustref13_Len.l0, if_pos (by omega), u64_self (n := r + 1) (by omega), u64_self (n := (r + 1) * (r + 1)) (by omega), e0, ee r (by omega), ee (r + 1) (by omega)]
    by_cases hc : (r + 1) * (r + 1) ≤ n
    · rw [if_pos hc]; exact ⟨r + 1, rfl, by omega, hc, by rw [show r + 1 + 1 = r + 2 * 1 by omega]; exact h3⟩
    · rw [if_neg hc]; exact ⟨r, rfl, h0, h2, by omega⟩
  | succ j ih =>
    intro k r hj hk h0 h1 h2 h3
    obtain ⟨k, rfl⟩ : ∃ m, k = m + 1 := ⟨k - 1, by omega⟩
    have hp : (2 : Int) ^ (j + 1) = 2 * 2 ^ j := by rw [Int.pow_succ]; omega
    have hq := two_pow_pos j
    have ih' := ih
    rw [hp] at h1 h3 ⊢
    have ed : IntKind.u64.wrap (Int.tdiv (2 * 2 ^ j) 2) = 2 ^ j := by
      rw [tdiv_pos (by omega), show 2 * (2 : Int) ^ j / 2 = 2 ^ j by omega, u64_self (by omega)]
    have mm := mul_bd (show 0 ≤ r + 2 * 2 ^ j ∧ r + 2 * 2 ^ j ≤ 4294967295 by omega) (show 0 ≤ r + 2 * 2 ^ j ∧ r + 2 * 2 ^ j ≤ 4294967295 by omega)
    rw [joustref13_Len.l0, if_pos (by omega), u64_self (n := r + 2 * 2 ^ j) (by omega), u64_self (n := (r + 2 * 2 ^ j) * (r + 2 * 2 ^ j)) (by omega), ed]
    by_cases hc : (r + 2 * 2 ^ j) * (r + 2 * 2 ^ j) ≤ n
    · rw [if_pos hc]
      refine ih' k (r + 2 * 2 ^ j) (by omega) (by omega) (by omega) (by omega) hc ?_
      rw [show r + 2 * 2 ^ j + 2 * 2 ^ j = r + 2 * (2 * 2 ^ j) by omega]; exact h3
    · rw [if_neg hc]
      exact ih' k r (by omega) (by omega) h0 (by omega) h2 (by omega)
theorem rlen_eq (k : Nat) (hk : 34 ≤ k) (a b : Int) : ∃ R, joustref13_Len.f k a b = some R ∧ IsRoot (len2 a b) R := by
  unfold joustref13_Len.f
  rw [rkeep_eq _ (by decide), rkeep_eq _ (by decide)]
  have h1 := sq_bd (keep_bd (x := a) (m := 2147483647) (by decide))
  have h2 := sq_bd (keep_bd (x := b) (m := 2147483647) (by decide))
  have h3 := len2_bd a b
  simp only [Option.bind_some]
  have e : IntKind.u64.wrap (IntKind.u64.wrap (wrap64 (keep a 2147483647 * keep a 2147483647)) + IntKind.u64.wrap (wrap64 (keep b 2147483647 * keep b 2147483647))) = len2 a b := by
    show IntKind.u64.wrap (IntKind.u64.wrap (wrap64 (sq (keep a 2147483647))) + IntKind.u64.wrap (wrap64 (sq (keep b 2147483647)))) = len2 a b
    unfold len2 at h3 ⊢
    rw [w64_self (n := sq (keep a 2147483647)) (by unfold I64; omega), w64_self (n := sq (keep b 2147483647)) (by unfold I64; omega), u64_self (n := sq (keep a 2147483647)) (by omega), u64_self (n := sq (keep b 2147483647)) (by omega), u64_self (by omega)]
  rw [e]
  exact rlen_loop (len2 a b) 31 k 0 (by decide) (by omega) (by decide) (by decide) (by omega) (by
    show len2 a b < (0 + 2 * 2147483648) * (0 + 2 * 2147483648)
    omega)

/-- how far a heading goes that way -/
def along (dx dy : Int) (h : Int) : Int := sinT (h + 64) * dx + sinT h * dy
theorem along_bd {dx dy : Int} (hx : -2147483647 ≤ dx ∧ dx ≤ 2147483647) (hy : -2147483647 ≤ dy ∧ dy ≤ 2147483647) (h : Int) : -562949953421312 ≤ along dx dy h ∧ along dx dy h ≤ 562949953421312 ∧ wrap64 (wrap64 (sinT (h + 64) * dx) + wrap64 (sinT h * dy)) = along dx dy h := by
  have b1 := sinT_bd (h + 64)
  have b2 := sinT_bd h
  have m1 : ∀ s d : Int, (-65536 ≤ s ∧ s ≤ 65536) → (-2147483647 ≤ d ∧ d ≤ 2147483647) → -(140737488355328) ≤ s * d ∧ s * d ≤ 140737488355328 := fun s d hs hd => by
    have h1 := mag_mul s d
    have h2 := mul_bd (show 0 ≤ mag s ∧ mag s ≤ 65536 by unfold mag; split <;> omega) (show 0 ≤ mag d ∧ mag d ≤ 2147483647 by unfold mag; split <;> omega)
    rw [h1] at h2
    unfold mag at h2
    split at h2 <;> omega
  have h1 := m1 _ _ b1 hx
  have h2 := m1 _ _ b2 hy
  unfold along
  generalize sinT (h + 64) * dx = p at *
  generalize sinT h * dy = q at *
  refine ⟨by omega, by omega, ?_⟩
  rw [w64_self (n := p) (by unfold I64; omega), w64_self (n := q) (by unfold I64; omega), w64_self (by unfold I64; omega)]
/-- the first heading with the greatest product, from h on -/
def scan (dx dy : Int) : Nat → Int → Int → Int → Int
  | 0, _, at_, _ => at_
  | d + 1, best, at_, h => if along dx dy h > best then scan dx dy d (along dx dy h) h (h + 1) else scan dx dy d best at_ (h + 1)
theorem toward_l0 {dx dy : Int} (hx : -2147483647 ≤ dx ∧ dx ≤ 2147483647) (hy : -2147483647 ≤ dy ∧ dy ≤ 2147483647) : ∀ (d k : Nat) (best at_ h : Int), d + 2 ≤ k → 0 ≤ h → h + d = 256 → vec_Toward.l0 k dx dy best at_ h = some (scan dx dy d best at_ h) := by
  intro d
  induction d with
  | zero =>
    intro k best at_ h hk h0 h1
    obtain ⟨k, rfl⟩ : ∃ m, k = m + 1 := ⟨k - 1, by omega⟩
    rw [vec_Toward.l0, if_neg (by omega)]; rfl
  | succ d ih =>
    intro k best at_ h hk h0 h1
    obtain ⟨k, rfl⟩ : ∃ m, k = m + 1 := ⟨k - 1, by omega⟩
    obtain ⟨_, _, e⟩ := along_bd hx hy h
    rw [vec_Toward.l0, if_pos (by omega), unit_eq]
    simp only [Option.bind_some]
    rw [e, w64_self (n := h + 1) (by unfold I64; omega), ih k _ h (h + 1) (by omega) (by omega) (by omega), ih k best at_ (h + 1) (by omega) (by omega) (by omega), scan]
    split <;> rfl
theorem rtoward_l0 {dx dy : Int} (hx : -2147483647 ≤ dx ∧ dx ≤ 2147483647) (hy : -2147483647 ≤ dy ∧ dy ≤ 2147483647) : ∀ (d k : Nat) (best at_ h : Int), d + 6 ≤ k → 0 ≤ h → h + d = 256 → joustref13_Toward.l0 k dx dy at_ best h = some (scan dx dy d best at_ h) := by
  intro d
  induction d with
  | zero =>
    intro k best at_ h hk h0 h1
    obtain ⟨k, rfl⟩ : ∃ m, k = m + 1 := ⟨k - 1, by omega⟩
    rw [joustref13_Toward.l0, if_neg (by omega)]; rfl
  | succ d ih =>
    intro k best at_ h hk h0 h1
    obtain ⟨k, rfl⟩ : ∃ m, k = m + 1 := ⟨k - 1, by omega⟩
    obtain ⟨_, _, e⟩ := along_bd hx hy h
    rw [joustref13_Toward.l0, if_pos (by omega), runit_eq k (by omega) (by unfold I64; omega)]
    simp only [Option.bind_some]
    rw [e, w64_self (n := h + 1) (by unfold I64; omega), ih k _ h (h + 1) (by omega) (by omega) (by omega), ih k best at_ (h + 1) (by omega) (by omega) (by omega), scan]
    split <;> rfl
/-- the heading from one place to another -/
def towardV (a b c d : Int) : Int := if a = c ∧ b = d then 0 else scan (dif c a) (dif d b) 256 (-9223372036854775808) 0 0
theorem toward_eq (k : Nat) (hk : 300 ≤ k) {a b c d : Int} (ha : I64 a) (hb : I64 b) (hc : I64 c) (hd : I64 d) : vec_Toward.f k a b c d = some (towardV a b c d) := by
  obtain ⟨k, rfl⟩ : ∃ m, k = m + 1 := ⟨k - 1, by omega⟩
  unfold vec_Toward.f towardV
  by_cases h : a = c ∧ b = d
  · rw [if_pos h, if_pos (by obtain ⟨rfl, rfl⟩ := h; simp)]
  · rw [if_neg h, if_neg (by simpa using h), way_eq k ha hb hc hd]
    simp only [Option.bind_some]
    exact toward_l0 (dif_bd _ _) (dif_bd _ _) 256 (k + 1) _ _ _ (by omega) (by decide) (by decide)
theorem dif_zero {a b : Int} : dif a b = 0 ↔ a = b := by
  unfold dif keep
  constructor
  · intro h; (repeat' split at h) <;> omega
  · intro h; subst h; (repeat' split) <;> omega
theorem rtoward_eq (k : Nat) (hk : 300 ≤ k) {a b c d : Int} (ha : I64 a) (hb : I64 b) (hc : I64 c) (hd : I64 d) : joustref13_Toward.f k a b c d = some (towardV a b c d) := by
  obtain ⟨k, rfl⟩ : ∃ m, k = m + 1 := ⟨k - 1, by omega⟩
  unfold joustref13_Toward.f towardV
  rw [rless_eq k hc ha (by decide), rless_eq k hd hb (by decide)]
  simp only [Option.bind_some]
  show (if dif c a = 0 then joustref13_Toward.j0 (k + 1) (dif c a) (dif d b) (dif d b == 0) else joustref13_Toward.j0 (k + 1) (dif c a) (dif d b) false) = _
  have e : ∀ β, joustref13_Toward.j0 (k + 1) (dif c a) (dif d b) β = if β = true then some 0 else some (scan (dif c a) (dif d b) 256 (-9223372036854775808) 0 0) := fun β => by
    rw [joustref13_Toward.j0, rtoward_l0 (dif_bd _ _) (dif_bd _ _) 256 k _ _ _ (by omega) (by decide) (by decide)]
  rw [e, e]
  by_cases h1 : c = a
  · subst h1
    rw [if_pos (dif_zero.2 rfl)]
    by_cases h2 : d = b
    · subst h2
      have h3 : (dif d d == 0) = true := by rw [dif_zero.2 rfl]; rfl
      rw [h3, if_pos rfl, if_pos ⟨rfl, rfl⟩]
    · have h3 : (dif d b == 0) = false := by simpa using fun h => h2 (dif_zero.1 h)
      rw [h3, if_neg (by decide), if_neg (fun h => h2 h.2.symm)]
  · rw [if_neg (fun h => h1 (dif_zero.1 h)), if_neg (by decide), if_neg (fun h => h1 h.1.symm)]
end Go.Proofs.YtcmbklofbemclaaDoor.FixM
