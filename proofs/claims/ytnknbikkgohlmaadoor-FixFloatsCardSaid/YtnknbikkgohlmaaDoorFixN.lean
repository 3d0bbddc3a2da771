/- fix: roots. -/
import Derived.Test.YtnknbikkgohlmaaDoorFixM
namespace Go.Proofs.YtnknbikkgohlmaaDoor.FixM
open Go.RowKit Go.Proofs.YtnknbikkgohlmaaDoor Go.Proofs.YtnknbikkgohlmaaDoor.VFixB Go.Proofs.YtnknbikkgohlmaaDoorW.PrintWords Go.Proofs.YtnknbikkgohlmaaDoorW.PrintLast Go.Proofs.YtnknbikkgohlmaaDoorW.PrintMore

theorem le_pair {m n : Int} : (m / 18446744073709551616 < n / 18446744073709551616 ∨ (m / 18446744073709551616 = n / 18446744073709551616 ∧ m % 18446744073709551616 ≤ n % 18446744073709551616)) ↔ m ≤ n := by omega
theorem two_pow_pos (j : Nat) : (0 : Int) < 2 ^ j := Int.pow_pos (by decide)
theorem pow_half (j : Nat) : (2 : Int) ^ (j + 1) / 2 = 2 ^ j := by rw [Int.pow_succ]; omega
/-- a step from r by a bit b -/
theorem root_step {N r b : Int} (h1 : r * r ≤ N) (h2 : N < (r + 2 * b) * (r + 2 * b)) :
    ((r + b) * (r + b) ≤ N → (r + b) * (r + b) ≤ N ∧ N < ((r + b) + b) * ((r + b) + b)) ∧ (¬ (r + b) * (r + b) ≤ N → r * r ≤ N ∧ N < (r + b) * (r + b)) := by
  refine ⟨fun h => ⟨h, ?_⟩, fun h => ⟨h1, by omega⟩⟩
  have : r + b + b = r + 2 * b := by omega
  rw [this]; exact h2

theorem root_end (k : Nat) (hi lo r : Int) (hr : 0 ≤ r ∧ r < 2199023255552) : fix_Root.l0 (k + 1) hi lo r 0 = some r := by
  simp only [fix_Root.l0]
  rw [if_neg (by omega), w64_self (by unfold I64; omega)]
theorem root_loop (N : Int) (_hN : 0 ≤ N) : ∀ (j k : Nat) (r : Int), j ≤ 40 → j + 2 ≤ k → 0 ≤ r → r % 2 ^ (j + 1) = 0 → r + 2 ^ (j + 1) ≤ 2199023255552 → r * r ≤ N → N < (r + 2 * 2 ^ j) * (r + 2 * 2 ^ j) →
    ∃ R, fix_Root.l0 k (N / 18446744073709551616) (N % 18446744073709551616) r (2 ^ j) = some R ∧ 0 ≤ R ∧ R < 2199023255552 ∧ R * R ≤ N ∧ N < (R + 1) * (R + 1) := by
  intro j
  induction j with
  | zero =>
    intro k r hj hk hr hm hb h1 h2
    obtain ⟨k, rfl⟩ : ∃ m, k = m + 1 + 1 := ⟨k - 2, by omega⟩
    rw [fix_Root.l0]
    simp only [Nat.zero_add, Int.pow_one, Int.pow_zero] at *
    rw [if_pos (by omega), or_add 1 (by decide) (by omega) (by simpa using hm) (by omega), mul64_eq (by omega) (by omega)]
    simp only [Option.bind_some]
    obtain ⟨s1, s2⟩ := root_step h1 h2
    have e0 : (1 : Int) / 2 = 0 := by decide
    rw [e0, root_end k _ _ r (by omega), root_end k _ _ (r + 1) (by omega)]
    by_cases h3 : (r + 1) * (r + 1) ≤ N
    · have h4 := le_pair.2 h3
      obtain ⟨a1, a2⟩ := s1 h3
      refine ⟨r + 1, ?_, by omega, by omega, a1, a2⟩
      rcases h4 with h4 | ⟨h4, h5⟩
      · rw [if_pos h4]
      · rw [if_neg (by omega), if_pos h4, if_pos h5]
    · have h4 := fun h => h3 (le_pair.1 h)
      obtain ⟨a1, a2⟩ := s2 h3
      refine ⟨r, ?_, by omega, by omega, a1, a2⟩
      rw [if_neg (fun h => h4 (Or.inl h))]
      by_cases h5 : (r + 1) * (r + 1) / 18446744073709551616 = N / 18446744073709551616
      · rw [if_pos h5, if_neg (fun h => h4 (Or.inr ⟨h5, h⟩))]
      · rw [if_neg h5]
  | succ j ih =>
    intro k r hj hk hr hm hb h1 h2
    obtain ⟨k, rfl⟩ : ∃ m, k = m + 1 := ⟨k - 1, by omega⟩
    have hp := two_pow_pos (j + 1)
    have hd : (2 : Int) ^ (j + 1 + 1) = 2 * 2 ^ (j + 1) := by rw [Int.pow_succ]; omega
    have hd2 : (2 : Int) ^ (j + 1) = 2 * 2 ^ j := by rw [Int.pow_succ]; omega
    rw [fix_Root.l0, if_pos hp, or_add (j + 1 + 1) (by omega) (by omega) hm (by omega), mul64_eq (by omega) (by omega), pow_half]
    simp only [Option.bind_some]
    obtain ⟨s1, s2⟩ := root_step h1 h2
    rw [hd] at hm hb
    by_cases h3 : (r + 2 ^ (j + 1)) * (r + 2 ^ (j + 1)) ≤ N
    · have h4 := le_pair.2 h3
      obtain ⟨a1, a2⟩ := s1 h3
      obtain ⟨R, hR, hrest⟩ := ih k (r + 2 ^ (j + 1)) (by omega) (by omega) (by omega) (by
        generalize (2 : Int) ^ (j + 1) = b at *
        have := Int.emod_emod_of_dvd r (show b ∣ 2 * b from ⟨2, by omega⟩)
        rw [hm] at this
        rw [Int.add_emod, ← this]; simp) (by omega) a1 (by rw [← hd2]; exact a2)
      refine ⟨R, ?_, hrest⟩
      rcases h4 with h4 | ⟨h4, h5⟩
      · rw [if_pos h4]; exact hR
      · rw [if_neg (by omega), if_pos h4, if_pos h5]; exact hR
    · have h4 := fun h => h3 (le_pair.1 h)
      obtain ⟨a1, a2⟩ := s2 h3
      obtain ⟨R, hR, hrest⟩ := ih k r (by omega) (by omega) (by omega) (by
        generalize (2 : Int) ^ (j + 1) = b at *
        have := Int.emod_emod_of_dvd r (show b ∣ 2 * b from ⟨2, by omega⟩)
        rw [hm] at this
        rw [← this]; simp) (by omega) a1 (by rw [← hd2]; exact a2)
      refine ⟨R, ?_, hrest⟩
      rw [if_neg (fun h => h4 (Or.inl h))]
      by_cases h5 : (r + 2 ^ (j + 1)) * (r + 2 ^ (j + 1)) / 18446744073709551616 = N / 18446744073709551616
      · rw [if_pos h5, if_neg (fun h => h4 (Or.inr ⟨h5, h⟩))]; exact hR
      · rw [if_neg h5]; exact hR

/-- the root of N, rounded down -/
def IsRoot (N R : Int) : Prop := 0 ≤ R ∧ R * R ≤ N ∧ N < (R + 1) * (R + 1)
theorem IsRoot.uniq {N R S : Int} (h : IsRoot N R) (k : IsRoot N S) : R = S := by
  obtain ⟨h0, h1, h2⟩ := h
  obtain ⟨k0, k1, k2⟩ := k
  have a : ∀ x y : Int, 0 ≤ x → 0 ≤ y → x * x < (y + 1) * (y + 1) → x ≤ y := fun x y hx hy hlt => by
    by_cases hc : x ≤ y
    · exact hc
    · have := Int.mul_le_mul (show y + 1 ≤ x by omega) (show y + 1 ≤ x by omega) (by omega) hx
      omega
  have := a R S h0 k0 (by omega)
  have := a S R k0 h0 (by omega)
  omega
theorem root_eq (k : Nat) (hk : 42 ≤ k) {a : Int} (ha : I64 a) : ∃ R, fix_Root.f k a = some R ∧ R < 2199023255552 ∧ ((a ≤ 0 ∧ R = 0) ∨ (0 < a ∧ IsRoot (a * 65536) R)) := by
  unfold fix_Root.f
  unfold I64 at ha
  by_cases h : a ≤ 0
  · rw [if_pos h]; exact ⟨0, rfl, by decide, Or.inl ⟨h, rfl⟩⟩
  · rw [if_neg h, u64_self (by omega), mul64_eq (by omega) (by omega)]
    simp only [Option.bind_some]
    obtain ⟨R, hR, r1, r2, r3, r4⟩ := root_loop (a * 65536) (by omega) 40 k 0 (by decide) (by omega) (by decide) (by decide) (by decide) (by omega) (by
      show a * 65536 < (0 + 2 * 1099511627776) * (0 + 2 * 1099511627776)
      omega)
    exact ⟨R, hR, r2, Or.inr ⟨by omega, r1, r3, r4⟩⟩

theorem rroot_end (k : Nat) (hi lo r : Int) (hr : 0 ≤ r ∧ r < 2199023255552) : joustref03_Root.l0 (k + 1) hi lo r 0 = some r := by
  simp only [joustref03_Root.l0]
  rw [if_neg (by omega), w64_self (by unfold I64; omega)]
theorem rroot_loop (N : Int) (_hN : 0 ≤ N) : ∀ (j k : Nat) (r : Int), j ≤ 40 → j + 2 ≤ k → 0 ≤ r → r + 2 ^ (j + 1) ≤ 2199023255552 → r * r ≤ N → N < (r + 2 * 2 ^ j) * (r + 2 * 2 ^ j) →
    ∃ R, joustref03_Root.l0 k (N / 18446744073709551616) (N % 18446744073709551616) r (2 ^ j) = some R ∧ 0 ≤ R ∧ R < 2199023255552 ∧ R * R ≤ N ∧ N < (R + 1) * (R + 1) := by
  intro j
  induction j with
  | zero =>
    intro k r hj hk hr hb h1 h2
    obtain ⟨k, rfl⟩ : ∃ m, k = m + 1 + 1 := ⟨k - 2, by omega⟩
    rw [joustref03_Root.l0]
    simp only [Nat.zero_add, Int.pow_one, Int.pow_zero] at *
    rw [if_pos (by omega), u64_self (n := r + 1) (by omega), product_eq (by omega) (by omega)]
    simp only [Option.bind_some]
    obtain ⟨s1, s2⟩ := root_step h1 h2
    have e0 : IntKind.u64.wrap (Int.tdiv 1 2) = 0 := by decide
    rw [e0, rroot_end k _ _ r (by omega), rroot_end k _ _ (r + 1) (by omega)]
    by_cases h3 : (r + 1) * (r + 1) ≤ N
    · have h4 := le_pair.2 h3
      obtain ⟨a1, a2⟩ := s1 h3
      refine ⟨r + 1, ?_, by omega, by omega, a1, a2⟩
      rcases h4 with h4 | ⟨h4, h5⟩
      · rw [if_pos h4]
      · rw [if_neg (by omega), if_pos h4, if_pos h5]
    · have h4 := fun h => h3 (le_pair.1 h)
      obtain ⟨a1, a2⟩ := s2 h3
      refine ⟨r, ?_, by omega, by omega, a1, a2⟩
      rw [if_neg (fun h => h4 (Or.inl h))]
      by_cases h5 : (r + 1) * (r + 1) / 18446744073709551616 = N / 18446744073709551616
      · rw [if_pos h5, if_neg (fun h => h4 (Or.inr ⟨h5, h⟩))]
      · rw [if_neg h5]
  | succ j ih =>
    intro k r hj hk hr hb h1 h2
    obtain ⟨k, rfl⟩ : ∃ m, k = m + 1 := ⟨k - 1, by omega⟩
    have hp := two_pow_pos (j + 1)
    have hd : (2 : Int) ^ (j + 1 + 1) = 2 * 2 ^ (j + 1) := by rw [Int.pow_succ]; omega
    have hd2 : (2 : Int) ^ (j + 1) = 2 * 2 ^ j := by rw [Int.pow_succ]; omega
    rw [hd] at hb
    rw [joustref03_Root.l0, if_pos hp, u64_self (n := r + 2 ^ (j + 1)) (by omega), product_eq (by omega) (by omega), tdiv_pos (by omega), pow_half, u64_self (n := 2 ^ j) (by have := two_pow_pos j; omega)]
    simp only [Option.bind_some]
    obtain ⟨s1, s2⟩ := root_step h1 h2
    by_cases h3 : (r + 2 ^ (j + 1)) * (r + 2 ^ (j + 1)) ≤ N
    · have h4 := le_pair.2 h3
      obtain ⟨a1, a2⟩ := s1 h3
      obtain ⟨R, hR, hrest⟩ := ih k (r + 2 ^ (j + 1)) (by omega) (by omega) (by omega) (by omega) a1 (by rw [← hd2]; exact a2)
      refine ⟨R, ?_, hrest⟩
      rcases h4 with h4 | ⟨h4, h5⟩
      · rw [if_pos h4]; exact hR
      · rw [if_neg (by omega), if_pos h4, if_pos h5]; exact hR
    · have h4 := fun h => h3 (le_pair.1 h)
      obtain ⟨a1, a2⟩ := s2 h3
      obtain ⟨R, hR, hrest⟩ := ih k r (by omega) (by omega) (by omega) (by omega) a1 (by rw [← hd2]; exact a2)
      refine ⟨R, ?_, hrest⟩
      rw [if_neg (fun h => h4 (Or.inl h))]
      by_cases h5 : (r + 2 ^ (j + 1)) * (r + 2 ^ (j + 1)) / 18446744073709551616 = N / 18446744073709551616
      · rw [if_pos h5, if_neg (fun h => h4 (Or.inr ⟨h5, h⟩))]; exact hR
      · rw [if_neg h5]; exact hR
theorem rroot_eq (k : Nat) (hk : 42 ≤ k) {a : Int} (ha : I64 a) : ∃ R, joustref03_Root.f k a = some R ∧ ((a ≤ 0 ∧ R = 0) ∨ (0 < a ∧ IsRoot (a * 65536) R)) := by
  unfold joustref03_Root.f
  unfold I64 at ha
  by_cases h : a < 0
  · rw [if_pos h]; exact ⟨0, rfl, Or.inl ⟨by omega, rfl⟩⟩
  · rw [if_neg h, u64_self (by omega), product_eq (by omega) (by omega)]
    simp only [Option.bind_some]
    obtain ⟨R, hR, r1, r2, r3, r4⟩ := rroot_loop (a * 65536) (by omega) 40 k 0 (by decide) (by omega) (by decide) (by decide) (by omega) (by
      show a * 65536 < (0 + 2 * 1099511627776) * (0 + 2 * 1099511627776)
      omega)
    refine ⟨R, hR, ?_⟩
    by_cases h0 : a = 0
    · subst h0
      left
      refine ⟨by omega, ?_⟩
      have : IsRoot 0 R := ⟨r1, r3, r4⟩
      exact this.uniq ⟨by omega, by omega, by omega⟩
    · exact Or.inr ⟨by omega, r1, r3, r4⟩
end Go.Proofs.YtnknbikkgohlmaaDoor.FixM
