/- fix: quotients. -/
import Derived.Test.YtnknbikkgohlmaaDoorFixN
namespace Go.Proofs.YtnknbikkgohlmaaDoor.FixM
open Go.RowKit Go.Proofs.YtnknbikkgohlmaaDoor Go.Proofs.YtnknbikkgohlmaaDoor.VFixB Go.Proofs.YtnknbikkgohlmaaDoorW.PrintWords Go.Proofs.YtnknbikkgohlmaaDoorW.PrintLast Go.Proofs.YtnknbikkgohlmaaDoorW.PrintMore

/-- how many bits a byte has -/
def lenOk (t : Int) (i : Int) : Bool := (decide (t = 0) && decide (i < 1)) || (decide (t = 1) && decide (1 ≤ i) && decide (i < 2)) || (decide (t = 2) && decide (2 ≤ i) && decide (i < 4)) || (decide (t = 3) && decide (4 ≤ i) && decide (i < 8)) || (decide (t = 4) && decide (8 ≤ i) && decide (i < 16)) || (decide (t = 5) && decide (16 ≤ i) && decide (i < 32)) || (decide (t = 6) && decide (32 ≤ i) && decide (i < 64)) || (decide (t = 7) && decide (64 ≤ i) && decide (i < 128)) || (decide (t = 8) && decide (128 ≤ i))
theorem tab_nat : (List.range 256).all (fun i => lenOk (bt (⟨#[0, 1, 2, 2, 3, 3, 3, 3, 4, 4, 4, 4, 4, 4, 4, 4, 5, 5, 5, 5, 5, 5, 5, 5, 5, 5, 5, 5, 5, 5, 5, 5, 6, 6, 6, 6, 6, 6, 6, 6, 6, 6, 6, 6, 6, 6, 6, 6, 6, 6, 6, 6, 6, 6, 6, 6, 6, 6, 6, 6, 6, 6, 6, 6, 7, 7, 7, 7, 7, 7, 7, 7, 7, 7, 7, 7, 7, 7, 7, 7, 7, 7, 7, 7, 7, 7, 7, 7, 7, 7, 7, 7, 7, 7, 7, 7, 7, 7, 7, 7, 7, 7, 7, 7, 7, 7, 7, 7, 7, 7, 7, 7, 7, 7, 7, 7, 7, 7, 7, 7, 7, 7, 7, 7, 7, 7, 7, 7, 8, 8, 8, 8, 8, 8, 8, 8, 8, 8, 8, 8, 8, 8, 8, 8, 8, 8, 8, 8, 8, 8, 8, 8, 8, 8, 8, 8, 8, 8, 8, 8, 8, 8, 8, 8, 8, 8, 8, 8, 8, 8, 8, 8, 8, 8, 8, 8, 8, 8, 8, 8, 8, 8, 8, 8, 8, 8, 8, 8, 8, 8, 8, 8, 8, 8, 8, 8, 8, 8, 8, 8, 8, 8, 8, 8, 8, 8, 8, 8, 8, 8, 8, 8, 8, 8, 8, 8, 8, 8, 8, 8, 8, 8, 8, 8, 8, 8, 8, 8, 8, 8, 8, 8, 8, 8, 8, 8, 8, 8, 8, 8, 8, 8, 8, 8, 8, 8, 8, 8, 8, 8, 8, 8, 8, 8, 8, 8]⟩ : ByteArray) (i : Int)) (i : Int)) = true := by decide +kernel
theorem tab_ok (i : Int) (h : 0 ≤ i ∧ i < 256) : ∃ T : Nat, bt (⟨#[0, 1, 2, 2, 3, 3, 3, 3, 4, 4, 4, 4, 4, 4, 4, 4, 5, 5, 5, 5, 5, 5, 5, 5, 5, 5, 5, 5, 5, 5, 5, 5, 6, 6, 6, 6, 6, 6, 6, 6, 6, 6, 6, 6, 6, 6, 6, 6, 6, 6, 6, 6, 6, 6, 6, 6, 6, 6, 6, 6, 6, 6, 6, 6, 7, 7, 7, 7, 7, 7, 7, 7, 7, 7, 7, 7, 7, 7, 7, 7, 7, 7, 7, 7, 7, 7, 7, 7, 7, 7, 7, 7, 7, 7, 7, 7, 7, 7, 7, 7, 7, 7, 7, 7, 7, 7, 7, 7, 7, 7, 7, 7, 7, 7, 7, 7, 7, 7, 7, 7, 7, 7, 7, 7, 7, 7, 7, 7, 8, 8, 8, 8, 8, 8, 8, 8, 8, 8, 8, 8, 8, 8, 8, 8, 8, 8, 8, 8, 8, 8, 8, 8, 8, 8, 8, 8, 8, 8, 8, 8, 8, 8, 8, 8, 8, 8, 8, 8, 8, 8, 8, 8, 8, 8, 8, 8, 8, 8, 8, 8, 8, 8, 8, 8, 8, 8, 8, 8, 8, 8, 8, 8, 8, 8, 8, 8, 8, 8, 8, 8, 8, 8, 8, 8, 8, 8, 8, 8, 8, 8, 8, 8, 8, 8, 8, 8, 8, 8, 8, 8, 8, 8, 8, 8, 8, 8, 8, 8, 8, 8, 8, 8, 8, 8, 8, 8, 8, 8, 8, 8, 8, 8, 8, 8, 8, 8, 8, 8, 8, 8, 8, 8, 8, 8, 8, 8]⟩ : ByteArray) i = (T : Int) ∧ T ≤ 8 ∧ i < 2 ^ T ∧ (0 < i → (2 : Int) ^ T ≤ 2 * i) := by
  obtain ⟨n, rfl⟩ : ∃ n : Nat, i = n := ⟨i.toNat, by omega⟩
  have h1 := List.all_eq_true.1 tab_nat n (List.mem_range.2 (by omega))
  generalize bt _ (n : Int) = t at *
  unfold lenOk at h1
  simp only [Bool.or_eq_true, Bool.and_eq_true, decide_eq_true_eq] at h1
  rcases h1 with (((((((h1 | h1) | h1) | h1) | h1) | h1) | h1) | h1) | h1
  · exact ⟨0, by omega, by omega, by simp; omega, by simp; omega⟩
  · exact ⟨1, by omega, by omega, by simp; omega, by simp; omega⟩
  · exact ⟨2, by omega, by omega, by simp; omega, by simp; omega⟩
  · exact ⟨3, by omega, by omega, by simp; omega, by simp; omega⟩
  · exact ⟨4, by omega, by omega, by simp; omega, by simp; omega⟩
  · exact ⟨5, by omega, by omega, by simp; omega, by simp; omega⟩
  · exact ⟨6, by omega, by omega, by simp; omega, by simp; omega⟩
  · exact ⟨7, by omega, by omega, by simp; omega, by simp; omega⟩
  · exact ⟨8, by omega, by omega, by simp; omega, by simp; omega⟩
theorem pow_add8 (T : Nat) : (2 : Int) ^ (T + 8) = 2 ^ T * 256 := by rw [Int.pow_add]; rfl
theorem pow_add16 (T : Nat) : (2 : Int) ^ (T + 16) = 2 ^ T * 65536 := by rw [Int.pow_add]; rfl
theorem pow_add24 (T : Nat) : (2 : Int) ^ (T + 24) = 2 ^ T * 16777216 := by rw [Int.pow_add]; rfl
theorem pow_add32 (T : Nat) : (2 : Int) ^ (T + 32) = 2 ^ T * 4294967296 := by rw [Int.pow_add]; rfl
set_option maxRecDepth 100000 in
theorem len_j0 (k : Nat) (x n : Int) (hx : 0 ≤ x ∧ x < 4294967296) (hn : 0 ≤ n ∧ n ≤ 64) : ∃ L : Nat, bits_Len64.j0 (k + 1) x n = some (n + L) ∧ L ≤ 32 ∧ x < 2 ^ L ∧ (0 < x → (2 : Int) ^ L ≤ 2 * x) := by
  rw [bits_Len64.j0]
  by_cases h1 : x ≥ 65536
  · rw [if_pos h1]
    by_cases h2 : x / 65536 ≥ 256
    · rw [if_pos h2, if_pos (by omega), if_pos (by omega)]
      obtain ⟨T, e, t1, t2, t3⟩ := tab_ok (x / 65536 / 256 % 256) (by omega)
      rw [e]
      have hp := two_pow_pos T
      refine ⟨T + 24, by congr 1; unfold wrap64; omega, by omega, ?_, fun _ => ?_⟩ <;> rw [pow_add24] <;> generalize (2 : Int) ^ T = p at * <;> omega
    · rw [if_neg h2, if_pos (by omega), if_pos (by omega)]
      obtain ⟨T, e, t1, t2, t3⟩ := tab_ok (x / 65536 % 256) (by omega)
      rw [e]
      have hp := two_pow_pos T
      refine ⟨T + 16, by congr 1; unfold wrap64; omega, by omega, ?_, fun _ => ?_⟩ <;> rw [pow_add16] <;> generalize (2 : Int) ^ T = p at * <;> omega
  · rw [if_neg h1]
    by_cases h2 : x ≥ 256
    · rw [if_pos h2, if_pos (by omega), if_pos (by omega)]
      obtain ⟨T, e, t1, t2, t3⟩ := tab_ok (x / 256 % 256) (by omega)
      rw [e]
      have hp := two_pow_pos T
      refine ⟨T + 8, by congr 1; unfold wrap64; omega, by omega, ?_, fun _ => ?_⟩ <;> rw [pow_add8] <;> generalize (2 : Int) ^ T = p at * <;> omega
    · rw [if_neg h2, if_pos (by omega), if_pos (by omega)]
      obtain ⟨T, e, t1, t2, t3⟩ := tab_ok (x % 256) (by omega)
      rw [e]
      refine ⟨T, by congr 1; unfold wrap64; omega, by omega, by omega, fun _ => by omega⟩
theorem lead_eq (k : Nat) {y : Int} (hy : 0 < y ∧ y < 18446744073709551616) : ∃ s : Nat, bits_LeadingZeros64.f (k + 1) y = some (s : Int) ∧ s ≤ 63 ∧ 9223372036854775808 ≤ y * 2 ^ s ∧ y * 2 ^ s < 18446744073709551616 := by
  unfold bits_LeadingZeros64.f bits_Len64.f
  have key : ∀ L : Nat, L ≤ 64 → y < 2 ^ L → (2 : Int) ^ L ≤ 2 * y → 9223372036854775808 ≤ y * 2 ^ (64 - L) ∧ y * 2 ^ (64 - L) < 18446744073709551616 := fun L hL h1 h2 => by
    have hp := two_pow_pos (64 - L)
    have e : (2 : Int) ^ L * 2 ^ (64 - L) = 18446744073709551616 := by rw [← Int.pow_add, show L + (64 - L) = 64 by omega]; rfl
    have a1 := Int.mul_lt_mul_of_pos_right h1 hp
    have a2 := Int.mul_le_mul_of_nonneg_right h2 (Int.le_of_lt hp)
    rw [e] at a1 a2
    rw [Int.mul_assoc] at a2
    omega
  by_cases h : y ≥ 4294967296
  · rw [if_pos h]
    obtain ⟨L, e, l1, l2, l3⟩ := len_j0 k (y / 4294967296) 32 (by omega) (by omega)
    rw [e]
    simp only [Option.bind_some]
    have hp := two_pow_pos L
    have h1 : y < 2 ^ (L + 32) := by rw [pow_add32]; generalize (2 : Int) ^ L = p at *; omega
    have h2 : (2 : Int) ^ (L + 32) ≤ 2 * y := by rw [pow_add32]; have := l3 (by omega); generalize (2 : Int) ^ L = p at *; omega
    refine ⟨64 - (L + 32), by congr 1; unfold wrap64; omega, by omega, key (L + 32) (by omega) h1 h2⟩
  · rw [if_neg h]
    obtain ⟨L, e, l1, l2, l3⟩ := len_j0 k y 0 (by omega) (by omega)
    rw [e]
    simp only [Option.bind_some]
    have hL : 1 ≤ L := by
      rcases Nat.eq_zero_or_pos L with h0 | h0
      · subst h0; simp at l2; omega
      · exact h0
    exact ⟨64 - L, by congr 1; unfold wrap64; omega, by omega, key L (by omega) l2 (l3 hy.1)⟩

/-- a digit of a quotient: the guess q with its rest rh, and what is to be found -/
structure Guess (Y y1 y0 u v q rh : Int) : Prop where
  sum : q * y1 + rh = u
  up : (u * 4294967296 + v) / Y ≤ q
  top : 0 ≤ q ∧ q ≤ 4294967297
  rest : 0 ≤ rh
structure Norm (Y y1 y0 u v : Int) : Prop where
  y : Y = y1 * 4294967296 + y0
  y1b : 2147483648 ≤ y1 ∧ y1 < 4294967296
  y0b : 0 ≤ y0 ∧ y0 < 4294967296
  ub : 0 ≤ u ∧ u < Y
  vb : 0 ≤ v ∧ v < 4294967296
theorem Norm.first {Y y1 y0 u v : Int} (h : Norm Y y1 y0 u v) : Guess Y y1 y0 u v (u / y1) (u - u / y1 * y1) ∧ u - u / y1 * y1 < 4294967296 := by
  obtain ⟨hy, ⟨h1, h2⟩, ⟨h3, h4⟩, ⟨h5, h6⟩, ⟨h7, h8⟩⟩ := h
  have hq0 : 0 ≤ u / y1 := Int.ediv_nonneg h5 (by omega)
  have e := Int.mul_ediv_add_emod u y1
  have m1 := Int.emod_nonneg u (show y1 ≠ 0 by omega)
  have m2 := Int.emod_lt_of_pos u (show 0 < y1 by omega)
  rw [Int.mul_comm] at e
  refine ⟨⟨by omega, ?_, ⟨hq0, ?_⟩, by omega⟩, by omega⟩
  · -- Y * (q + 1) > u * B + v
    apply Int.le_of_lt_add_one
    apply Int.ediv_lt_of_lt_mul (by omega)
    have h9 : u < (u / y1 + 1) * y1 := by rw [Int.add_mul]; omega
    have h10 : (u + 1) * 4294967296 ≤ (u / y1 + 1) * y1 * 4294967296 := Int.mul_le_mul_of_nonneg_right (by omega) (by decide)
    have h11 : (u / y1 + 1) * Y = (u / y1 + 1) * y1 * 4294967296 + (u / y1 + 1) * y0 := by rw [hy]; grind
    have h12 : 0 ≤ (u / y1 + 1) * y0 := Int.mul_nonneg (by omega) h3
    omega
  · apply Int.le_of_lt_add_one
    apply Int.ediv_lt_of_lt_mul (by omega)
    omega
theorem Guess.step {Y y1 y0 u v q rh : Int} (h : Norm Y y1 y0 u v) (g : Guess Y y1 y0 u v q rh) (hc : 4294967296 ≤ q ∨ rh * 4294967296 + v < q * y0) : Guess Y y1 y0 u v (q - 1) (rh + y1) := by
  obtain ⟨hy, ⟨h1, h2⟩, ⟨h3, h4⟩, ⟨h5, h6⟩, ⟨h7, h8⟩⟩ := h
  obtain ⟨g1, g2, ⟨g3, g4⟩, g5⟩ := g
  have hlt : (u * 4294967296 + v) / Y < q := by
    apply Int.ediv_lt_of_lt_mul (by omega)
    have e : q * Y = q * y1 * 4294967296 + q * y0 := by rw [hy]; grind
    rcases hc with hc | hc
    · have h9 : 4294967296 * Y ≤ q * Y := Int.mul_le_mul_of_nonneg_right hc (by omega)
      omega
    · rw [e]; omega
  have hq0 : 0 ≤ (u * 4294967296 + v) / Y := Int.ediv_nonneg (by omega) (by omega)
  exact ⟨by rw [Int.sub_mul]; omega, by omega, ⟨by omega, by omega⟩, by omega⟩
theorem Guess.done {Y y1 y0 u v q rh : Int} (h : Norm Y y1 y0 u v) (g : Guess Y y1 y0 u v q rh) (hc : q * y0 ≤ rh * 4294967296 + v) : q = (u * 4294967296 + v) / Y := by
  obtain ⟨hy, ⟨h1, h2⟩, ⟨h3, h4⟩, ⟨h5, h6⟩, ⟨h7, h8⟩⟩ := h
  obtain ⟨g1, g2, ⟨g3, g4⟩, g5⟩ := g
  have e : q * Y = q * y1 * 4294967296 + q * y0 := by rw [hy]; grind
  have : q ≤ (u * 4294967296 + v) / Y := by
    apply Int.le_ediv_of_mul_le (by omega)
    rw [e]; omega
  omega
theorem Norm.lt {Y y1 y0 u v : Int} (h : Norm Y y1 y0 u v) : 0 ≤ (u * 4294967296 + v) / Y ∧ (u * 4294967296 + v) / Y < 4294967296 := by
  obtain ⟨hy, ⟨h1, h2⟩, ⟨h3, h4⟩, ⟨h5, h6⟩, ⟨h7, h8⟩⟩ := h
  exact ⟨Int.ediv_nonneg (by omega) (by omega), Int.ediv_lt_of_lt_mul (by omega) (by omega)⟩

/-- the first digit's loop -/
theorem loop0 {Y y1 y0 u v : Int} (h : Norm Y y1 y0 u v) (s un0 : Int) : ∀ (d k : Nat) (q rh : Int), 2 * d + 2 ≤ k → Guess Y y1 y0 u v q rh → rh < 4294967296 → 4294967296 - d * 2147483648 ≤ rh →
    ∃ k', k ≤ k' + 2 * d + 2 ∧ bits_Div64.l0 k Y s y1 y0 u v un0 q rh = bits_Div64.j2 k' Y s y1 y0 u v un0 ((u * 4294967296 + v) / Y) := by
  intro d
  induction d with
  | zero => intro k q rh _ _ h1 h2; exact absurd h1 (by omega)
  | succ d ih =>
    intro k q rh hk g h1 h2
    obtain ⟨k, rfl⟩ : ∃ m, k = m + 1 + 1 := ⟨k - 2, by omega⟩
    have hn := h.lt
    obtain ⟨hy, ⟨y1a, y1b⟩, ⟨y0a, y0b⟩, ⟨ua, ub⟩, ⟨va, vb⟩⟩ := h
    have h' : Norm Y y1 y0 u v := ⟨hy, ⟨y1a, y1b⟩, ⟨y0a, y0b⟩, ⟨ua, ub⟩, ⟨va, vb⟩⟩
    have hqy := mul_bd g.top (show 0 ≤ y0 ∧ y0 ≤ 4294967295 by omega)
    have hrh : 0 ≤ 4294967296 * rh ∧ 4294967296 * rh ≤ 4294967296 * 4294967295 := by have := g.rest; omega
    rw [bits_Div64.l0]
    rw [u64_self (n := q * y0) (by omega), u64_self (n := 4294967296 * rh) (by omega), u64_self (n := 4294967296 * rh + v) (by omega)]
    have hcase : (4294967296 ≤ q ∨ rh * 4294967296 + v < q * y0) → (if q ≥ 4294967296 then bits_Div64.j1 (k + 1) Y s y1 y0 u v un0 q rh true else bits_Div64.j1 (k + 1) Y s y1 y0 u v un0 q rh (decide (q * y0 > 4294967296 * rh + v))) = bits_Div64.j1 (k + 1) Y s y1 y0 u v un0 q rh true := fun hc => by
      by_cases hq : q ≥ 4294967296
      · rw [if_pos hq]
      · rw [if_neg hq, decide_eq_true (by omega)]
    by_cases hc : 4294967296 ≤ q ∨ rh * 4294967296 + v < q * y0
    · rw [hcase hc, bits_Div64.j1, if_pos rfl]
      have g2 := g.step h' hc
      have hq1 : 1 ≤ q := by have := g2.top; omega
      rw [u64_self (n := rh + y1) (by omega), u64_self (n := q - 1) (by have := g2.top; omega)]
      by_cases hr : rh + y1 ≥ 4294967296
      · rw [if_pos hr]
        refine ⟨k, by omega, ?_⟩
        have hd := g2.done h' (by
          have := mul_bd (show 0 ≤ q - 1 ∧ q - 1 ≤ 4294967296 by have := g2.top; have := g.top; omega) (show 0 ≤ y0 ∧ y0 ≤ 4294967295 by omega)
          omega)
        rw [← hd]
      · rw [if_neg hr]
        obtain ⟨k', hk', e⟩ := ih k (q - 1) (rh + y1) (by omega) g2 (by omega) (by omega)
        exact ⟨k', by omega, e⟩
    · have hq : ¬ q ≥ 4294967296 := fun h => hc (Or.inl h)
      rw [if_neg hq, decide_eq_false (by omega), bits_Div64.j1, if_neg (by decide)]
      refine ⟨k, by omega, ?_⟩
      have hd := g.done h' (by omega)
      rw [← hd]

/-- the second digit's loop -/
theorem loop1 {Y y1 y0 u v : Int} (h : Norm Y y1 y0 u v) (s q1 : Int) (hs : 0 ≤ s) (hq1 : 0 ≤ q1 ∧ q1 < 4294967296) : ∀ (d k : Nat) (q rh : Int), 2 * d + 2 ≤ k → Guess Y y1 y0 u v q rh → rh < 4294967296 → 4294967296 - d * 2147483648 ≤ rh →
    bits_Div64.l1 k Y s y1 y0 v q1 rh u q = some (q1 * 4294967296 + (u * 4294967296 + v) / Y, shr .u64 ((u * 4294967296 + v) % Y) s) := by
  intro d
  induction d with
  | zero => intro k q rh _ _ h1 h2; exact absurd h1 (by omega)
  | succ d ih =>
    intro k q rh hk g h1 h2
    obtain ⟨k, rfl⟩ : ∃ m, k = m + 1 + 1 := ⟨k - 2, by omega⟩
    have hn := h.lt
    obtain ⟨hy, ⟨y1a, y1b⟩, ⟨y0a, y0b⟩, ⟨ua, ub⟩, ⟨va, vb⟩⟩ := h
    have h' : Norm Y y1 y0 u v := ⟨hy, ⟨y1a, y1b⟩, ⟨y0a, y0b⟩, ⟨ua, ub⟩, ⟨va, vb⟩⟩
    have hqy := mul_bd g.top (show 0 ≤ y0 ∧ y0 ≤ 4294967295 by omega)
    have hrh : 0 ≤ 4294967296 * rh ∧ 4294967296 * rh ≤ 4294967296 * 4294967295 := by have := g.rest; omega
    have fin : ∀ z, z = (u * 4294967296 + v) / Y → (some (IntKind.u64.wrap ((IntKind.u64.wrap (q1 * 4294967296)) + z), shr .u64 (IntKind.u64.wrap ((IntKind.u64.wrap ((IntKind.u64.wrap (u * 4294967296)) + v)) - (IntKind.u64.wrap (z * Y)))) s) : Option (Int × Int)) = some (q1 * 4294967296 + (u * 4294967296 + v) / Y, shr .u64 ((u * 4294967296 + v) % Y) s) := fun z hz => by
      subst hz
      have e := Int.mul_ediv_add_emod (u * 4294967296 + v) Y
      have m1 := Int.emod_nonneg (u * 4294967296 + v) (show Y ≠ 0 by omega)
      have m2 := Int.emod_lt_of_pos (u * 4294967296 + v) (show 0 < Y by omega)
      rw [Int.mul_comm] at e
      congr 2
      · rw [u64_self (n := q1 * 4294967296) (by omega), u64_self (by omega)]
      · congr 1
        rw [IntKind.wrap_u64, IntKind.wrap_u64, IntKind.wrap_u64, IntKind.wrap_u64]
        generalize (u * 4294967296 + v) / Y * Y = p at *
        generalize (u * 4294967296 + v) % Y = r at *
        omega
    rw [bits_Div64.l1]
    rw [u64_self (n := q * y0) (by omega), u64_self (n := 4294967296 * rh) (by omega), u64_self (n := 4294967296 * rh + v) (by omega)]
    have hcase : (4294967296 ≤ q ∨ rh * 4294967296 + v < q * y0) → (if q ≥ 4294967296 then bits_Div64.j4 (k + 1) Y s y1 y0 v q1 rh u q true else bits_Div64.j4 (k + 1) Y s y1 y0 v q1 rh u q (decide (q * y0 > 4294967296 * rh + v))) = bits_Div64.j4 (k + 1) Y s y1 y0 v q1 rh u q true := fun hc => by
      by_cases hq : q ≥ 4294967296
      · rw [if_pos hq]
      · rw [if_neg hq, decide_eq_true (by omega)]
    by_cases hc : 4294967296 ≤ q ∨ rh * 4294967296 + v < q * y0
    · rw [hcase hc, bits_Div64.j4, if_pos rfl]
      have g2 := g.step h' hc
      have hqq : 1 ≤ q := by have := g2.top; omega
      rw [u64_self (n := rh + y1) (by omega), u64_self (n := q - 1) (by have := g2.top; omega)]
      by_cases hr : rh + y1 ≥ 4294967296
      · rw [if_pos hr, if_pos hs]
        exact fin _ (g2.done h' (by
          have := mul_bd (show 0 ≤ q - 1 ∧ q - 1 ≤ 4294967296 by have := g2.top; have := g.top; omega) (show 0 ≤ y0 ∧ y0 ≤ 4294967295 by omega)
          omega))
      · rw [if_neg hr]
        exact ih k (q - 1) (rh + y1) (by omega) g2 (by omega) (by omega)
    · have hq : ¬ q ≥ 4294967296 := fun h => hc (Or.inl h)
      rw [if_neg hq, decide_eq_false (by omega), bits_Div64.j4, if_neg (by decide), if_pos hs]
      exact fin _ (g.done h' (by omega))

theorem div64_eq (k : Nat) (hk : 16 ≤ k) {hi lo y : Int} (hh : 0 ≤ hi ∧ hi < y) (hl : 0 ≤ lo ∧ lo < 18446744073709551616) (hy : y < 18446744073709551616) :
    bits_Div64.f k hi lo y = some ((hi * 18446744073709551616 + lo) / y, (hi * 18446744073709551616 + lo) % y) := by
  unfold bits_Div64.f
  rw [if_neg (by omega), if_neg (by omega)]
  by_cases h0 : hi = 0
  · subst h0
    rw [if_pos rfl, tdiv_pos hl.1, tmod_pos hl.1, Int.zero_mul, Int.zero_add, u64_self]
    exact ⟨Int.ediv_nonneg hl.1 (by omega), Int.lt_of_le_of_lt (Int.ediv_le_self _ hl.1) hl.2⟩
  · rw [if_neg h0]
    obtain ⟨k, rfl⟩ : ∃ m, k = m + 1 := ⟨k - 1, by omega⟩
    obtain ⟨s, e, s1, s2, s3⟩ := lead_eq k (y := y) (by omega)
    rw [e]
    simp only [Option.bind_some]
    have hw : IntKind.u64.wrap (s : Int) = (s : Int) := u64_self (by omega)
    have hw2 : IntKind.u64.wrap (64 - (s : Int)) = ((64 - s : Nat) : Int) := by rw [u64_self (by omega)]; omega
    rw [hw, hw2, if_pos (by omega), if_pos (by omega)]
    have hp := two_pow_pos s
    have hp2 := two_pow_pos (64 - s)
    have hpp : (2 : Int) ^ s * 2 ^ (64 - s) = 18446744073709551616 := by rw [← Int.pow_add, show s + (64 - s) = 64 by omega]; rfl
    have eshl : ∀ x : Int, shl .u64 x (s : Int) = x * 2 ^ s % 18446744073709551616 := fun x => by
      unfold shl
      rw [Int.toNat_natCast, show min s IntKind.u64.bits = s by simp [IntKind.bits]; omega, IntKind.wrap_u64]
    have eshr : ∀ x : Int, shr .u64 x ((64 - s : Nat) : Int) = x / 2 ^ (64 - s) := fun x => by
      unfold shr
      rw [Int.toNat_natCast, show min (64 - s) IntKind.u64.bits = 64 - s by simp [IntKind.bits]]
    have eshr2 : ∀ x : Int, shr .u64 x (s : Int) = x / 2 ^ s := fun x => by
      unfold shr
      rw [Int.toNat_natCast, show min s IntKind.u64.bits = s by simp [IntKind.bits]; omega]
    have hhs : hi * 2 ^ s < y * 2 ^ s := Int.mul_lt_mul_of_pos_right hh.2 hp
    have hhs0 : 0 ≤ hi * 2 ^ s := Int.mul_nonneg hh.1 (Int.le_of_lt hp)
    have hlo1 : 0 ≤ lo / 2 ^ (64 - s) ∧ lo / 2 ^ (64 - s) < 2 ^ s := ⟨Int.ediv_nonneg hl.1 (Int.le_of_lt hp2), Int.ediv_lt_of_lt_mul hp2 (by rw [hpp]; exact hl.2)⟩
    have hor : Go.bits .or .u64 (shl .u64 hi (s : Int)) (shr .u64 lo ((64 - s : Nat) : Int)) = hi * 2 ^ s + lo / 2 ^ (64 - s) := by
      rw [eshl, eshr, Int.emod_eq_of_lt hhs0 (by omega)]
      exact or_add s (by omega) ⟨hhs0, by omega⟩ (Int.mul_emod_left hi _) hlo1
    rw [hor]
    have hY : shl .u64 y (s : Int) = y * 2 ^ s := by rw [eshl, Int.emod_eq_of_lt (by omega) s3]
    have hL : shl .u64 lo (s : Int) = lo * 2 ^ s % 18446744073709551616 := eshl lo
    rw [hY, hL]
    obtain ⟨Y, hYe⟩ : ∃ Y, y * 2 ^ s = Y := ⟨_, rfl⟩
    obtain ⟨u, hu⟩ : ∃ u, hi * 2 ^ s + lo / 2 ^ (64 - s) = u := ⟨_, rfl⟩
    obtain ⟨v, hv⟩ : ∃ v, lo * 2 ^ s % 18446744073709551616 = v := ⟨_, rfl⟩
    -- N * 2^s = u * U + v
    have hN : (hi * 18446744073709551616 + lo) * 2 ^ s = u * 18446744073709551616 + v := by
      have e1 := Int.mul_ediv_add_emod (lo * 2 ^ s) 18446744073709551616
      have e2 : lo * 2 ^ s / 18446744073709551616 = lo / 2 ^ (64 - s) := by
        rw [← hpp, Int.mul_comm ((2 : Int) ^ s)]
        exact Int.mul_ediv_mul_of_pos_left _ _ hp
      rw [e2, hv] at e1
      rw [← hu, Int.add_mul, Int.add_mul, ← e1]
      grind
    have hvb : 0 ≤ v ∧ v < 18446744073709551616 := by omega
    have hu0 : 0 ≤ u := by omega
    have hNlt : hi * 18446744073709551616 + lo < y * 18446744073709551616 := by
      have : (hi + 1) * 18446744073709551616 ≤ y * 18446744073709551616 := Int.mul_le_mul_of_nonneg_right (by omega) (by decide)
      omega
    have huY : u < Y := by
      have h9 : (hi * 18446744073709551616 + lo) * 2 ^ s < y * 18446744073709551616 * 2 ^ s := Int.mul_lt_mul_of_pos_right hNlt hp
      have h10 : y * 18446744073709551616 * 2 ^ s = Y * 18446744073709551616 := by rw [← hYe]; grind
      rw [hN, h10] at h9
      omega
    have hres : (hi * 18446744073709551616 + lo) / y = (u * 18446744073709551616 + v) / Y := by
      rw [← hN, ← hYe]
      exact (Int.mul_ediv_mul_of_pos_left _ _ hp).symm
    have hrem : (hi * 18446744073709551616 + lo) % y = ((u * 18446744073709551616 + v) % Y) / 2 ^ s := by
      rw [← hN, ← hYe, Int.mul_comm _ ((2 : Int) ^ s), Int.mul_comm y ((2 : Int) ^ s), Int.mul_emod_mul_of_pos _ _ hp, Int.mul_ediv_cancel_left _ (by omega)]
    rw [hres, hrem, hYe, hu, hv]
    rw [hYe] at s2 s3
    clear hres hrem hN hNlt hu hv hYe hY hL hor hlo1 hhs hhs0 hpp hp2 eshl eshr e
    rw [and32 (by omega), and32 (by omega)]
    have hn1 : Norm Y (Y / 4294967296) (Y % 4294967296) u (v / 4294967296) := ⟨by omega, by omega, by omega, ⟨hu0, huY⟩, by omega⟩
    obtain ⟨g1, r1⟩ := hn1.first
    have hlt1 := hn1.lt
    rw [if_neg (by omega), tdiv_pos hu0]
    have hr0 := g1.rest
    have hqt := g1.top
    have hqm : 0 ≤ u / (Y / 4294967296) * (Y / 4294967296) := Int.mul_nonneg hqt.1 (by omega)
    rw [u64_self (n := u / (Y / 4294967296)) (by omega), u64_self (n := u / (Y / 4294967296) * (Y / 4294967296)) (by have := g1.sum; omega), u64_self (n := u - u / (Y / 4294967296) * (Y / 4294967296)) (by omega)]
    obtain ⟨k', hk', e1⟩ := loop0 hn1 (s : Int) (v % 4294967296) 2 (k + 1) _ _ (by omega) g1 r1 (by omega)
    rw [e1]
    clear e1
    obtain ⟨k', rfl⟩ : ∃ m, k' = m + 1 := ⟨k' - 1, by omega⟩
    rw [bits_Div64.j2, if_neg (by omega)]
    obtain ⟨Q1, hQ1⟩ : ∃ Q1, (u * 4294967296 + v / 4294967296) / Y = Q1 := ⟨_, rfl⟩
    have e2 := Int.mul_ediv_add_emod (u * 4294967296 + v / 4294967296) Y
    have m1 := Int.emod_nonneg (u * 4294967296 + v / 4294967296) (show Y ≠ 0 by omega)
    have m2 := Int.emod_lt_of_pos (u * 4294967296 + v / 4294967296) (show 0 < Y by omega)
    rw [hQ1] at e2 hlt1 ⊢
    rw [Int.mul_comm] at e2
    obtain ⟨R1, hR1⟩ : ∃ R1, (u * 4294967296 + v / 4294967296) % Y = R1 := ⟨_, rfl⟩
    rw [hR1] at e2 m1 m2
    have hun : IntKind.u64.wrap (IntKind.u64.wrap (IntKind.u64.wrap (u * 4294967296) + v / 4294967296) - IntKind.u64.wrap (Q1 * Y)) = R1 := by
      rw [IntKind.wrap_u64, IntKind.wrap_u64, IntKind.wrap_u64, IntKind.wrap_u64]
      generalize Q1 * Y = p at *
      omega
    rw [hun]
    have hn2 : Norm Y (Y / 4294967296) (Y % 4294967296) R1 (v % 4294967296) := ⟨by omega, by omega, by omega, ⟨m1, m2⟩, by omega⟩
    obtain ⟨g2, r2⟩ := hn2.first
    rw [tdiv_pos m1]
    have hr0' := g2.rest
    have hqt' := g2.top
    have hqm' : 0 ≤ R1 / (Y / 4294967296) * (Y / 4294967296) := Int.mul_nonneg hqt'.1 (by omega)
    rw [u64_self (n := R1 / (Y / 4294967296)) (by omega), u64_self (n := R1 / (Y / 4294967296) * (Y / 4294967296)) (by have := g2.sum; omega), u64_self (n := R1 - R1 / (Y / 4294967296) * (Y / 4294967296)) (by omega)]
    rw [loop1 hn2 (s : Int) Q1 (by omega) hlt1 2 k' _ _ (by omega) g2 r2 (by omega), eshr2]
    have hsplit : u * 18446744073709551616 + v = Q1 * 4294967296 * Y + (R1 * 4294967296 + v % 4294967296) := by
      have : Q1 * 4294967296 * Y = Q1 * Y * 4294967296 := by grind
      rw [this]
      generalize Q1 * Y = p at *
      omega
    rw [hsplit]
    have hYpos : Y ≠ 0 := by omega
    congr 2
    · rw [Int.add_comm (Q1 * 4294967296 * Y), Int.add_mul_ediv_right _ _ hYpos, Int.add_comm]
    · rw [Int.add_comm (Q1 * 4294967296 * Y), Int.add_mul_emod_self_right]
end Go.Proofs.YtnknbikkgohlmaaDoor.FixM
