/- FixFloats: the plain part: floats written and read. -/
import Derived.Test.YtnknbikkgohlmaaDoorFixF
set_option exponentiation.threshold 2000
namespace Go.Proofs.YtnknbikkgohlmaaDoor.Flt
open Go Ieee

/-- the number that is kept, exactly -/
theorem cut_exact (neg : Bool) (n drop : Nat) (way : Toward) (h : 2 ^ drop ∣ n) : way.cut neg n drop = n / 2 ^ drop := by
  obtain ⟨k, rfl⟩ := h
  unfold Toward.cut
  have hg : (2:Nat) ^ (min drop ((2 ^ drop * k).log2 + 2)) ∣ 2 ^ drop * k := Nat.dvd_trans (Nat.pow_dvd_pow 2 (Nat.min_le_left _ _)) (Nat.dvd_mul_right _ _)
  have hk : (2 ^ drop * k) / 2 ^ (min drop ((2 ^ drop * k).log2 + 2)) = (2 ^ drop * k) / 2 ^ drop ∧ (2 ^ drop * k) % 2 ^ (min drop ((2 ^ drop * k).log2 + 2)) = 0 := by
    refine ⟨?_, Nat.mod_eq_zero_of_dvd hg⟩
    rcases Nat.eq_zero_or_pos k with rfl | hk
    · simp
    · have h1 : 2 ^ drop ≤ 2 ^ drop * k := Nat.le_mul_of_pos_right _ hk
      have h2 : drop ≤ (2 ^ drop * k).log2 := (Nat.le_log2 (by have := Nat.two_pow_pos drop; omega)).2 h1
      rw [Nat.min_eq_left (by omega)]
  simp only [Nat.one_shiftLeft, hk.1, hk.2]
  have := Nat.two_pow_pos (min drop ((2 ^ drop * k).log2 + 2))
  cases way <;> simp

/-- 'mag * 2 ^ place' written where it is exact: K at the place last. -/
theorem nearest_eq (f : Format) (neg : Bool) (mag : Nat) (place : Int) (hm : mag ≠ 0) (last : Int) (hl : max (place + mag.log2 - f.fractionBits) f.leastPlace = last) (K : Nat)
    (hK : mag <<< (place - last).toNat = K * 2 ^ (last - place).toNat) : f.nearest neg mag place = f.word neg (min ((last - f.leastPlace).toNat * f.binade + K) f.infRung) := by
  unfold Format.nearest
  rw [if_neg hm]
  dsimp only
  rw [hl, hK, cut_exact _ _ _ _ (Nat.dvd_mul_left _ _), Nat.mul_div_cancel _ (Nat.two_pow_pos _)]

theorem read_word_parts (f : Format) (neg : Bool) (R : Nat) (h : R < f.signWeight) : (f.word neg R / f.signWeight % 2 == 1) = neg ∧ f.word neg R % f.signWeight = R := by
  unfold Format.word
  have hp : 0 < f.signWeight := Nat.two_pow_pos _
  cases neg
  · simp only [Bool.false_eq_true, if_false]
    rw [Nat.div_eq_of_lt h, Nat.mod_eq_of_lt h]
    exact ⟨rfl, rfl⟩
  · simp only [if_true]
    rw [Nat.add_div_left _ hp, Nat.div_eq_of_lt h, Nat.add_mod_left, Nat.mod_eq_of_lt h]
    exact ⟨rfl, rfl⟩

theorem read_word (f : Format) (neg : Bool) (K : Nat) (last : Int) (h1 : K < 2 * f.binade) (h2 : last = f.leastPlace ∨ f.binade ≤ K) (h3 : f.leastPlace ≤ last) (h4 : (last - f.leastPlace).toNat * f.binade + K < f.infRung) :
    f.read (f.word neg ((last - f.leastPlace).toNat * f.binade + K)) = .number neg K last := by
  have hs := f.infRung_lt
  have hb : 0 < f.binade := Nat.two_pow_pos _
  have hw := read_word_parts f neg ((last - f.leastPlace).toNat * f.binade + K) (by omega)
  unfold Format.read
  dsimp only
  rw [hw.1, hw.2]
  by_cases hK : K < f.binade
  · have : last = f.leastPlace := by omega
    subst this
    simp [hK]
  · obtain ⟨K', rfl⟩ : ∃ K', K = f.binade + K' := ⟨K - f.binade, by omega⟩
    obtain ⟨E, hE⟩ : ∃ E, (last - f.leastPlace).toNat = E := ⟨_, rfl⟩
    rw [hE] at h4 ⊢
    have e1 : E * f.binade + (f.binade + K') = K' + (E + 1) * f.binade := by rw [Nat.add_mul]; omega
    have e2 : ¬ E * f.binade + (f.binade + K') < f.binade := by
      have : 0 ≤ E * f.binade := Nat.zero_le _
      omega
    rw [if_neg e2, if_pos h4, e1, Nat.add_mul_div_right _ _ hb, Nat.add_mul_mod_self_right, Nat.div_eq_of_lt (by omega), Nat.mod_eq_of_lt (by omega)]
    congr 1
    omega

theorem read_inf (f : Format) (neg : Bool) (h : f.binade ≤ f.infRung) : f.read (f.word neg f.infRung) = .infinity neg := by
  have hw := read_word_parts f neg f.infRung f.infRung_lt
  unfold Format.read
  dsimp only
  rw [hw.1, hw.2, if_neg (by omega), if_neg (by omega), if_pos rfl]

/-- written and read again: a number that the format has, with the digits that it keeps -/
theorem write_read (f : Format) (s : Bool) (mag : Nat) (place : Int) (hm : mag ≠ 0) (last : Int) (hl : max (place + mag.log2 - f.fractionBits) f.leastPlace = last) (K : Nat)
    (hK : mag <<< (place - last).toNat = K * 2 ^ (last - place).toNat) (h1 : K < 2 * f.binade) (h2 : last = f.leastPlace ∨ f.binade ≤ K) (h4 : (last - f.leastPlace).toNat * f.binade + K < f.infRung) :
    f.read (f.nearest s mag place) = .number s K last := by
  rw [nearest_eq f s mag place hm last hl K hK, Nat.min_eq_left (by omega)]
  exact read_word f s K last h1 h2 (by omega) h4
/-- too great for the format -/
theorem write_over (f : Format) (s : Bool) (mag : Nat) (place : Int) (hm : mag ≠ 0) (last : Int) (hl : max (place + mag.log2 - f.fractionBits) f.leastPlace = last) (K : Nat)
    (hK : mag <<< (place - last).toNat = K * 2 ^ (last - place).toNat) (h4 : f.infRung ≤ (last - f.leastPlace).toNat * f.binade + K) (hb : f.binade ≤ f.infRung) :
    f.read (f.nearest s mag place) = .infinity s := by
  rw [nearest_eq f s mag place hm last hl K hK, Nat.min_eq_right h4]
  exact read_inf f s hb
theorem write_zero (f : Format) (s : Bool) (place : Int) (hb : f.binade ≤ f.infRung) : f.read (f.nearest s 0 place) = .number s 0 f.leastPlace := by
  unfold Format.nearest
  rw [if_pos rfl]
  have := read_word f s 0 f.leastPlace (by have : 0 < f.binade := Nat.two_pow_pos _; omega) (Or.inl rfl) (Int.le_refl _) (by have : 0 < f.binade := Nat.two_pow_pos _; simp; omega)
  simpa using this

theorem single_read (b : Nat) : (∃ s m e, single.read b = .number s m e ∧ m < 16777216 ∧ -149 ≤ e ∧ e ≤ 104 ∧ (m < 8388608 → e = -149)) ∨ (∃ s, single.read b = .infinity s) ∨ ∃ s t, single.read b = .nan s t := by
  have e1 : single.binade = 8388608 := by decide
  have e2 : single.infRung = 2139095040 := by decide
  have e3 : single.leastPlace = -149 := by decide
  unfold Format.read
  dsimp only
  rw [e1, e2, e3]
  generalize b % single.signWeight = r
  split
  · exact Or.inl ⟨_, _, _, rfl, by omega, by omega, by omega, by omega⟩
  · split
    · exact Or.inl ⟨_, _, _, rfl, by omega, by omega, by omega, by omega⟩
    · split
      · exact Or.inr (Or.inl ⟨_, rfl⟩)
      · exact Or.inr (Or.inr ⟨_, _, rfl⟩)

theorem log2_lt {m k : Nat} (h0 : m ≠ 0) (h : m < 2 ^ k) : m.log2 < k := (Nat.log2_lt h0).2 h
theorem log2_bounds {m : Nat} (h0 : m ≠ 0) : 2 ^ m.log2 ≤ m ∧ m < 2 ^ (m.log2 + 1) := ⟨Nat.log2_self_le h0, Nat.lt_log2_self⟩

/-- a number's digits moved up to their place -/
theorem up_bounds {m k : Nat} (h0 : m ≠ 0) (h : m.log2 ≤ k) : 2 ^ k ≤ m * 2 ^ (k - m.log2) ∧ m * 2 ^ (k - m.log2) < 2 ^ (k + 1) := by
  obtain ⟨a, b⟩ := log2_bounds h0
  have e1 : 2 ^ k = 2 ^ m.log2 * 2 ^ (k - m.log2) := by rw [← Nat.pow_add]; congr 1; omega
  have e2 : 2 ^ (k + 1) = 2 ^ (m.log2 + 1) * 2 ^ (k - m.log2) := by rw [← Nat.pow_add]; congr 1; omega
  rw [e2, e1]
  exact ⟨Nat.mul_le_mul_right _ a, Nat.mul_lt_mul_of_pos_right b (Nat.two_pow_pos _)⟩
theorem log2_mul_pow {m k : Nat} (h0 : m ≠ 0) : (m * 2 ^ k).log2 = m.log2 + k := by
  obtain ⟨a, b⟩ := log2_bounds h0
  have hp := Nat.two_pow_pos k
  have h1 : m * 2 ^ k ≠ 0 := by
    have := Nat.mul_pos (Nat.pos_of_ne_zero h0) hp
    omega
  refine (Nat.log2_eq_iff h1).2 ⟨?_, ?_⟩
  · rw [Nat.pow_add]; exact Nat.mul_le_mul_right _ a
  · rw [show m.log2 + k + 1 = (m.log2 + 1) + k by omega, Nat.pow_add]; exact Nat.mul_lt_mul_of_pos_right b hp

/-- a float32 as a float64 -/
theorem wide_read (s : Bool) (m : Nat) (e : Int) (h0 : m ≠ 0) (hm : m < 16777216) (he : -149 ≤ e) (he2 : e ≤ 104) :
    double.read (double.nearest s m e) = .number s (m * 2 ^ (52 - m.log2)) (e + m.log2 - 52) := by
  have e1 : double.binade = 2 ^ 52 := by decide
  have e2 : double.infRung = 9218868437227405312 := by decide
  have e3 : double.leastPlace = -1074 := by decide
  have e4 : double.fractionBits = 52 := rfl
  have hl := log2_lt (k := 24) h0 hm
  have hu := up_bounds (k := 52) h0 (by omega)
  refine write_read double s m e h0 (e + m.log2 - 52) (by rw [e3, e4]; omega) _ ?_ (by rw [e1]; omega) (Or.inr (by rw [e1]; omega)) (by rw [e1, e2, e3]; omega)
  rw [Nat.shiftLeft_eq, show (e + ↑m.log2 - 52 - e).toNat = 0 by omega, Nat.pow_zero, Nat.mul_one]
  congr 2
  omega
/-- times 65536 -/
theorem times_read (s : Bool) (K : Nat) (L : Int) (h1 : 2 ^ 52 ≤ K) (h2 : K < 2 ^ 53) (h3 : -300 ≤ L) (h4 : L ≤ 300) :
    double.read (double.nearest s (K * 2 ^ 52) (L - 36)) = .number s K (L + 16) := by
  have e1 : double.binade = 2 ^ 52 := by decide
  have e2 : double.infRung = 9218868437227405312 := by decide
  have e3 : double.leastPlace = -1074 := by decide
  have e4 : double.fractionBits = 52 := rfl
  have h0 : K ≠ 0 := by omega
  have hl : K.log2 = 52 := (Nat.log2_eq_iff h0).2 ⟨h1, h2⟩
  have hl2 := log2_mul_pow (k := 52) h0
  refine write_read double s _ _ (by omega) (L + 16) (by rw [e3, e4, hl2, hl]; omega) K ?_ (by rw [e1]; omega) (Or.inr (by rw [e1]; omega)) (by rw [e1, e2, e3]; omega)
  rw [show (L - 36 - (L + 16)).toNat = 0 by omega, show (L + 16 - (L - 36)).toNat = 52 by omega]
  rfl
def sg (s : Bool) (X : Nat) : Int := if s then -(X : Int) else X
theorem sg_mul (s : Bool) (X k : Nat) : sg s (X * k) = sg s X * k := by
  unfold sg
  cases s <;> simp [Int.neg_mul]
theorem compare_mul (x y : Int) (k : Nat) (hk : 0 < k) : compare (x * k) (y * k) = compare x y := by
  have hk' : (0 : Int) < k := by omega
  rcases Int.lt_trichotomy x y with h | h | h
  · rw [Int.compare_eq_lt.2 h, Int.compare_eq_lt.2 (Int.mul_lt_mul_of_pos_right h hk')]
  · subst h; simp
  · rw [Int.compare_eq_gt.2 h, Int.compare_eq_gt.2 (Int.mul_lt_mul_of_pos_right h hk')]
/-- a magnitude in units of '2 ^ -C' -/
def scale (C : Nat) (K : Nat) (P : Int) : Nat := K * 2 ^ (P + C).toNat
theorem order_scale (C : Nat) (s t : Bool) (m n : Nat) (i j : Int) (hi : -(C : Int) ≤ i) (hj : -(C : Int) ≤ j) : Datum.order (.number s m i) (.number t n j) = some (compare (sg s (scale C m i)) (sg t (scale C n j))) := by
  unfold Datum.order
  dsimp only
  congr 1
  have e : ∀ (s : Bool) (m : Nat) (i : Int), min i j ≤ i → True := fun _ _ _ _ => trivial
  obtain ⟨b, hb⟩ : ∃ b, min i j = b := ⟨_, rfl⟩
  rw [hb]
  have hbi : b ≤ i := by omega
  have hbj : b ≤ j := by omega
  have hb0 : -(C : Int) ≤ b := by omega
  have key : ∀ (s : Bool) (m : Nat) (i : Int), b ≤ i → sg s (scale C m i) = signed s m (i - b).toNat * ((2 ^ (b + C).toNat : Nat) : Int) := by
    intro s m i h
    have : scale C m i = (m <<< (i - b).toNat) * 2 ^ (b + C).toNat := by
      unfold scale
      rw [Nat.shiftLeft_eq, Nat.mul_assoc, ← Nat.pow_add]
      congr 2
      omega
    rw [this, sg_mul]
    rfl
  rw [key s m i hbi, key t n j hbj, compare_mul _ _ _ (Nat.two_pow_pos _)]
theorem toInt_scale (C : Nat) (s : Bool) (K : Nat) (P : Int) (hP : -(C : Int) ≤ P) : Datum.toInt .zero (.number s K P) = some (sg s (scale C K P / 2 ^ C)) := by
  unfold Datum.toInt Datum.integral
  dsimp only
  congr 1
  have hc : Toward.zero.cut s (K <<< P.toNat) (-P).toNat = scale C K P / 2 ^ C := by
    unfold scale
    rcases Int.le_total 0 P with h | h
    · rw [show (-P).toNat = 0 by omega, cut_exact _ _ _ _ (by simp), Nat.pow_zero, Nat.div_one, show (P + C).toNat = P.toNat + C by omega, Nat.pow_add, ← Nat.mul_assoc, Nat.mul_div_cancel _ (Nat.two_pow_pos _), Nat.shiftLeft_eq]
    · obtain ⟨q, hq⟩ : ∃ q, (-P).toNat = q := ⟨_, rfl⟩
      have e1 : K * 2 ^ (P + C).toNat / 2 ^ C = K / 2 ^ q := by
        have : C = q + (P + C).toNat := by omega
        conv => lhs; rw [this, Nat.pow_add]
        rw [show (P + ↑(q + (P + ↑C).toNat) : Int).toNat = (P + C).toNat by omega]
        exact Nat.mul_div_mul_right _ _ (Nat.two_pow_pos _)
      rw [e1, hq, show P.toNat = 0 by omega]
      unfold Toward.cut
      simp only [Nat.one_shiftLeft, Nat.shiftLeft_zero, Bool.toNat_false, Nat.add_zero]
      rcases Nat.le_total q (K.log2 + 2) with h2 | h2
      · rw [Nat.min_eq_left h2]
      · rw [Nat.min_eq_right h2]
        have hk : K < 2 ^ (K.log2 + 1) := Nat.lt_log2_self
        have h3 : 2 ^ (K.log2 + 1) ≤ 2 ^ (K.log2 + 2) := Nat.pow_le_pow_right (by omega) (by omega)
        have h4 : 2 ^ (K.log2 + 2) ≤ 2 ^ q := Nat.pow_le_pow_right (by omega) h2
        rw [Nat.div_eq_of_lt (by omega), Nat.div_eq_of_lt (by omega)]
  rw [hc]
  unfold signed sg
  simp
/-- the document's number: cut towards nought, kept within the bound -/
def ansX (C : Nat) (s : Bool) (X : Nat) : Int := if 1099511627776 * 2 ^ C ≤ X then (if s then -1099511627776 else 1099511627776) else sg s (X / 2 ^ C)
theorem mul_read {f : Format} {x y : Nat} {s t : Bool} {m n : Nat} {i j : Int} (hx : f.read x = .number s m i) (hy : f.read y = .number t n j) : f.mul x y = some (f.nearest (s ^^ t) (m * n) (i + j)) := by
  unfold Format.mul
  rw [hx, hy]
  rfl
theorem c64 : double.read 4679240012837945344 = .number false 4503599627370496 (-36) := by decide +kernel
theorem c32 : single.read 1199570944 = .number false 8388608 (-7) := by decide +kernel
theorem scale_zero (C : Nat) (P : Int) : scale C 0 P = 0 := Nat.zero_mul _
theorem scale_up (C : Nat) (m k : Nat) (P : Int) (h : -(C : Int) ≤ P) : scale C (m * 2 ^ k) P = scale C m (P + k) := by
  unfold scale
  rw [Nat.mul_assoc, ← Nat.pow_add]
  congr 2
  omega
theorem bin64 : double.binade ≤ double.infRung := by decide
theorem bin32 : single.binade ≤ single.infRung := by decide
/-- the program's product -/
theorem prog_num (b : Nat) (s : Bool) (m : Nat) (e : Int) (h : single.read b = .number s m e) (hm : m < 16777216) (he : -149 ≤ e) (he2 : e ≤ 104) :
    ∃ d p K P, floatToFloatBits .f32 b .f64 = some d ∧ floatBits .mul .f64 d 4679240012837945344 = some p ∧ double.read p = .number s K P ∧ -(1200 : Nat) ≤ P ∧ scale 1200 K P = scale 1200 m (e + 16) := by
  by_cases h0 : m = 0
  · subst h0
    have hz : double.read (double.nearest s 0 e) = .number s 0 double.leastPlace := write_zero double s e bin64
    refine ⟨double.nearest s 0 e, double.nearest s 0 (double.leastPlace + -36), 0, double.leastPlace, ?_, ?_, ?_, by decide, ?_⟩
    · unfold floatToFloatBits
      rw [if_neg (by decide)]
      show (match single.read b with | .nan _ _ => none | .infinity s => _ | .number s m e => _) = _
      rw [h]
      show (if (double.read (double.nearest s 0 e)).isInfinity = true then none else some (double.nearest s 0 e)) = _
      rw [hz]
      rfl
    · show double.mul _ _ = _
      rw [mul_read hz c64]
      simp
    · exact write_zero double s _ bin64
    · rw [scale_zero, scale_zero]
  · have hw := wide_read s m e h0 hm he he2
    have hl := log2_lt (k := 24) h0 hm
    have hu := up_bounds (k := 52) h0 (by omega)
    refine ⟨double.nearest s m e, double.nearest s (m * 2 ^ (52 - m.log2) * 2 ^ 52) (e + m.log2 - 52 - 36), m * 2 ^ (52 - m.log2), e + m.log2 - 52 + 16, ?_, ?_, ?_, by omega, ?_⟩
    · unfold floatToFloatBits
      rw [if_neg (by decide)]
      show (match single.read b with | .nan _ _ => none | .infinity s => _ | .number s m e => _) = _
      rw [h]
      show (if (double.read (double.nearest s m e)).isInfinity = true then none else some (double.nearest s m e)) = _
      rw [hw]
      rfl
    · show double.mul _ _ = _
      rw [mul_read hw c64]
      simp only [Bool.xor_false]
      rfl
    · exact times_read s _ _ hu.1 hu.2 (by omega) (by omega)
    · rw [scale_up _ _ _ _ (by omega)]
      congr 1
      omega
/-- the document's product -/
theorem ref_num (b : Nat) (s : Bool) (m : Nat) (e : Int) (h : single.read b = .number s m e) (hm : m < 16777216) (he : -149 ≤ e) (he2 : e ≤ 104) (hsub : m < 8388608 → e = -149) :
    ∃ p, floatBits .mul .f32 b 1199570944 = some p ∧ ((∃ K P, single.read p = .number s K P ∧ -(1200 : Nat) ≤ P ∧ scale 1200 K P = scale 1200 m (e + 16)) ∨ (single.read p = .infinity s ∧ 1099511627776 * 2 ^ 1200 ≤ scale 1200 m (e + 16))) := by
  have hp : floatBits .mul .f32 b 1199570944 = some (single.nearest s (m * 8388608) (e + -7)) := by
    show single.mul _ _ = _
    rw [mul_read h c32]
    simp only [Bool.xor_false]
  refine ⟨_, hp, ?_⟩
  have e1 : single.binade = 8388608 := by decide
  have e2 : single.infRung = 2139095040 := by decide
  have e3 : single.leastPlace = -149 := by decide
  have e4 : single.fractionBits = 23 := rfl
  by_cases h0 : m = 0
  · subst h0
    refine Or.inl ⟨0, -149, ?_, by omega, by rw [scale_zero, scale_zero]⟩
    have := write_zero single s (e + -7) bin32
    rw [e3] at this
    simpa using this
  · have hl2 : (m * 8388608).log2 = m.log2 + 23 := log2_mul_pow (k := 23) h0
    have hne : m * 8388608 ≠ 0 := by omega
    by_cases hn : m < 8388608
    · have hE := hsub hn
      subst hE
      have hl := log2_lt (k := 23) h0 hn
      have hu := up_bounds (k := 23) h0 (by omega)
      by_cases h7 : 7 ≤ m.log2
      · refine Or.inl ⟨m * 2 ^ (23 - m.log2), -156 + m.log2, ?_, by omega, ?_⟩
        · refine write_read single s _ _ hne (-156 + m.log2) (by rw [e3, e4, hl2]; omega) _ ?_ (by rw [e1]; omega) (Or.inr (by rw [e1]; omega)) (by rw [e1, e2, e3]; omega)
          rw [show (-149 + -7 - (-156 + (m.log2 : Int))).toNat = 0 by omega, show (-156 + (m.log2 : Int) - (-149 + -7)).toNat = m.log2 by omega, Nat.shiftLeft_zero, Nat.mul_assoc, ← Nat.pow_add, show 23 - m.log2 + m.log2 = 23 by omega]
        · rw [scale_up _ _ _ _ (by omega)]
          congr 1
          omega
      · have hm7 : m < 128 := by
          have := (log2_bounds h0).2
          have h3 : 2 ^ (m.log2 + 1) ≤ 2 ^ 7 := Nat.pow_le_pow_right (by omega) (by omega)
          omega
        refine Or.inl ⟨m * 2 ^ 16, -149, ?_, by omega, ?_⟩
        · refine write_read single s _ _ hne (-149) (by rw [e3, e4, hl2]; omega) _ ?_ (by rw [e1]; omega) (Or.inl (by rw [e3])) (by rw [e1, e2, e3]; omega)
          rw [show (-149 + -7 - (-149 : Int)).toNat = 0 by omega, show (-149 - (-149 + -7) : Int).toNat = 7 by omega, Nat.shiftLeft_zero, Nat.mul_assoc]
        · rw [scale_up _ _ _ _ (by omega)]
          congr 1
    · have hl : m.log2 = 23 := (Nat.log2_eq_iff h0).2 ⟨by omega, by omega⟩
      have hK : (m * 8388608) <<< (e + -7 - (e + 16)).toNat = m * 2 ^ (e + 16 - (e + -7)).toNat := by
        rw [show (e + -7 - (e + 16)).toNat = 0 by omega, show (e + 16 - (e + -7)).toNat = 23 by omega]
        rfl
      by_cases ho : e + 16 ≤ 104
      · refine Or.inl ⟨m, e + 16, ?_, by omega, rfl⟩
        exact write_read single s _ _ hne (e + 16) (by rw [e3, e4, hl2]; omega) m hK (by rw [e1]; omega) (Or.inr (by rw [e1]; omega)) (by rw [e1, e2, e3]; omega)
      · refine Or.inr ⟨?_, ?_⟩
        · exact write_over single s _ _ hne (e + 16) (by rw [e3, e4, hl2]; omega) m hK (by rw [e1, e2, e3]; omega) bin32
        · unfold scale
          have h1 : (2:Nat) ^ 1200 ≤ 2 ^ (e + 16 + (1200 : Nat)).toNat := Nat.pow_le_pow_right (by omega) (by omega)
          have h2 : (e + 16 + (1200 : Nat)).toNat = 40 + (1200 + (e + 16 - 40).toNat) := by omega
          rw [h2, Nat.pow_add 2 40, ← Nat.mul_assoc, Nat.pow_add 2 1200]
          refine Nat.mul_le_mul ?_ (Nat.le_mul_of_pos_right _ (Nat.two_pow_pos _))
          omega
theorem order_refl (f : Format) (p : Nat) (s : Bool) (K : Nat) (P : Int) (h : f.read p = .number s K P) : f.order p p = some .eq := by
  unfold Format.order
  rw [h]
  show some (compare _ _) = _
  rw [Int.compare_eq_eq.2 rfl]
theorem order_inf (f : Format) (p : Nat) (s : Bool) (h : f.read p = .infinity s) : f.order p p = some .eq := by
  unfold Format.order
  rw [h]
  cases s <;> rfl
theorem order_num (f : Format) (p q : Nat) (s t : Bool) (K n : Nat) (P j : Int) (h : f.read p = .number s K P) (hq : f.read q = .number t n j) (hP : -(1200 : Nat) ≤ P) (hj : -(1200 : Nat) ≤ j) :
    f.order p q = some (compare (sg s (scale 1200 K P)) (sg t (scale 1200 n j))) := by
  unfold Format.order
  rw [h, hq]
  exact order_scale 1200 s t K n P j hP hj
def geB (o : Option Ordering) : Bool := o == some .gt || o == some .eq
def leB (o : Option Ordering) : Bool := o == some .lt || o == some .eq
theorem geB_compare (x y : Int) : geB (some (compare x y)) = decide (y ≤ x) := by
  rcases Int.lt_trichotomy x y with h | h | h
  · rw [Int.compare_eq_lt.2 h]; have : ¬ y ≤ x := by omega
    simp [geB, this]
  · rw [Int.compare_eq_eq.2 h]; subst h; simp [geB]
  · rw [Int.compare_eq_gt.2 h]; have : y ≤ x := by omega
    simp [geB, this]
theorem leB_compare (x y : Int) : leB (some (compare x y)) = decide (x ≤ y) := by
  rcases Int.lt_trichotomy x y with h | h | h
  · rw [Int.compare_eq_lt.2 h]; have : x ≤ y := by omega
    simp [leB, this]
  · rw [Int.compare_eq_eq.2 h]; subst h; simp [leB]
  · rw [Int.compare_eq_gt.2 h]; have : ¬ x ≤ y := by omega
    simp [leB, this]
/-- the two bounds, of either kind -/
structure Bnd (f : Format) (mx mn : Nat) : Prop where
  mx : ∃ n j, f.read mx = .number false n j ∧ -(1200 : Nat) ≤ j ∧ scale 1200 n j = 1099511627776 * 2 ^ 1200
  mn : ∃ n j, f.read mn = .number true n j ∧ -(1200 : Nat) ≤ j ∧ scale 1200 n j = 1099511627776 * 2 ^ 1200
theorem scale_bnd (n : Nat) (q : Nat) (hn : n = 1099511627776 * 2 ^ q) (hq : q ≤ 1200) : scale 1200 n (-(q : Int)) = 1099511627776 * 2 ^ 1200 := by
  unfold scale
  rw [hn, Nat.mul_assoc, ← Nat.pow_add]
  congr 2
  omega
theorem scale_bnd32 : scale 1200 8388608 17 = 1099511627776 * 2 ^ 1200 := by
  unfold scale
  rw [show ((17 : Int) + (1200 : Nat)).toNat = 17 + 1200 by omega, Nat.pow_add, ← Nat.mul_assoc]
theorem bnd64 : Bnd double 4787326403894837248 14010698440749613056 :=
  ⟨⟨4503599627370496, -12, by decide +kernel, by omega, scale_bnd _ 12 (by decide) (by omega)⟩, ⟨4503599627370496, -12, by decide +kernel, by omega, scale_bnd _ 12 (by decide) (by omega)⟩⟩
theorem bnd32 : Bnd single 1400897536 3548381184 :=
  ⟨⟨8388608, 17, by decide +kernel, by omega, scale_bnd32⟩, ⟨8388608, 17, by decide +kernel, by omega, scale_bnd32⟩⟩
/-- what the comparisons tell of a product -/
theorem told_num {f : Format} {mx mn p : Nat} (hb : Bnd f mx mn) {s : Bool} {K : Nat} {P : Int} (h : f.read p = .number s K P) (hP : -(1200 : Nat) ≤ P) :
    (geB (f.order p mx) = true ∧ ansX 1200 s (scale 1200 K P) = 1099511627776) ∨ (geB (f.order p mx) = false ∧ leB (f.order p mn) = true ∧ ansX 1200 s (scale 1200 K P) = -1099511627776) ∨
      (geB (f.order p mx) = false ∧ leB (f.order p mn) = false ∧ Datum.toInt .zero (f.read p) = some (ansX 1200 s (scale 1200 K P)) ∧ -1099511627776 ≤ ansX 1200 s (scale 1200 K P) ∧ ansX 1200 s (scale 1200 K P) ≤ 1099511627776) := by
  obtain ⟨n, j, h1, h2, h3⟩ := hb.mx
  obtain ⟨n', j', k1, k2, k3⟩ := hb.mn
  rw [order_num f p mx s false K n P j h h1 hP h2, order_num f p mn s true K n' P j' h k1 hP k2, geB_compare, leB_compare, h3, k3, h, toInt_scale 1200 s K P hP]
  unfold ansX
  generalize scale 1200 K P = X
  have hT : 0 < 2 ^ 1200 := Nat.two_pow_pos 1200
  generalize 2 ^ 1200 = T at *
  by_cases hX : 1099511627776 * T ≤ X
  · rw [if_pos hX]
    cases s
    · left
      simp [sg]
      omega
    · right; left
      simp [sg]
      omega
  · right; right
    rw [if_neg hX]
    have hd : X / T < 1099511627776 := by
      refine Nat.div_lt_of_lt_mul ?_
      rw [Nat.mul_comm]
      omega
    generalize X / T = q at *
    cases s <;> simp [sg] <;> omega
/-- what Of tells -/
def ofv (b : Nat) : Int := match single.read b with
  | .number s m e => ansX 1200 s (scale 1200 m (e + 16))
  | .infinity s => if s then -1099511627776 else 1099511627776
  | .nan _ _ => 0
theorem ofv_num {b : Nat} {s : Bool} {m : Nat} {e : Int} (h : single.read b = .number s m e) : ofv b = ansX 1200 s (scale 1200 m (e + 16)) := by unfold ofv; rw [h]
theorem ofv_inf {b : Nat} {s : Bool} (h : single.read b = .infinity s) : ofv b = if s then -1099511627776 else 1099511627776 := by unfold ofv; rw [h]
theorem ofv_nan {b : Nat} {s : Bool} {t : Nat} (h : single.read b = .nan s t) : ofv b = 0 := by unfold ofv; rw [h]

/-- whole numbers that the format has -/
theorem int_read (n : Int) (h0 : n ≠ 0) (h1 : -16777216 ≤ n) (h2 : n ≤ 16777216) : ∃ K L, single.read (floatOfInt .f32 n) = .number (decide (n < 0)) K L ∧ 8388608 ≤ K ∧ K < 16777216 ∧ -23 ≤ L ∧ L ≤ 1 ∧ scale 1200 K L = scale 1200 n.natAbs 0 := by
  have e1 : single.binade = 8388608 := by decide
  have e2 : single.infRung = 2139095040 := by decide
  have e3 : single.leastPlace = -149 := by decide
  have e4 : single.fractionBits = 23 := rfl
  have hf : floatOfInt .f32 n = single.nearest (decide (n < 0)) n.natAbs 0 := rfl
  rw [hf]
  generalize decide (n < 0) = s
  obtain ⟨m, hm⟩ : ∃ m, n.natAbs = m := ⟨_, rfl⟩
  rw [hm]
  have hm0 : m ≠ 0 := by omega
  by_cases hb : m = 16777216
  · subst hb
    refine ⟨8388608, 1, ?_, by omega, by omega, by omega, by omega, by decide +kernel⟩
    exact write_read single s _ _ hm0 1 (by rw [e3, e4]; decide) 8388608 (by decide) (by rw [e1]; omega) (Or.inr (by rw [e1]; omega)) (by rw [e1, e2, e3]; omega)
  · have hl := log2_lt (k := 24) hm0 (by omega)
    have hu := up_bounds (k := 23) hm0 (by omega)
    refine ⟨m * 2 ^ (23 - m.log2), m.log2 - 23, ?_, by omega, by omega, by omega, by omega, ?_⟩
    · refine write_read single s _ _ hm0 (m.log2 - 23) (by rw [e3, e4]; omega) _ ?_ (by rw [e1]; omega) (Or.inr (by rw [e1]; omega)) (by rw [e1, e2, e3]; omega)
      rw [show ((m.log2 : Int) - 23 - 0).toNat = 0 by omega, show (0 - ((m.log2 : Int) - 23)).toNat = 23 - m.log2 by omega, Nat.pow_zero, Nat.mul_one, Nat.shiftLeft_eq]
    · rw [scale_up _ _ _ _ (by omega)]
      congr 1
      omega
theorem div_read {x y : Nat} {s t : Bool} {m n : Nat} {i j : Int} (hx : single.read x = .number s m i) (hy : single.read y = .number t n j) (hn : n ≠ 0) :
    single.div x y = some (single.nearest (s ^^ t) (2 * ((m <<< (25 + n.log2 - m.log2)) / n) + ((m <<< (25 + n.log2 - m.log2)) % n != 0).toNat) (i - j - (25 + n.log2 - m.log2 : Nat) - 1)) := by
  unfold Format.div
  rw [hx, hy]
  unfold Datum.quotient
  dsimp only
  rw [if_neg hn]
  rfl
/-- Float tells a number, always -/
theorem float_some (a : Int) : ∃ r, floatBits .quo .f32 (floatOfInt .f32 a) 1199570944 = some r := by
  rcases single_read (floatOfInt .f32 a) with ⟨s, m, e, h, _⟩ | ⟨s, h⟩ | ⟨s, t, h⟩
  · exact ⟨_, div_read h c32 (by decide)⟩
  · refine ⟨single.write (.infinity (s ^^ false)), (?_ : single.div _ _ = _)⟩
    unfold Format.div
    rw [h, c32]
    rfl
  · exfalso
    have hw : ∀ (neg : Bool) (mag : Nat) (place : Int), ∃ R, R ≤ single.infRung ∧ single.nearest neg mag place = single.word neg R := by
      intro neg mag place
      unfold Format.nearest
      dsimp only
      split
      · exact ⟨0, Nat.zero_le _, rfl⟩
      · exact ⟨_, Nat.min_le_right _ _, rfl⟩
    obtain ⟨R, hR, he⟩ := hw (a < 0) a.natAbs 0
    have hf : floatOfInt .f32 a = single.nearest (decide (a < 0)) a.natAbs 0 := rfl
    rw [hf, he] at h
    have hp := read_word_parts single (decide (a < 0)) R (Nat.lt_of_le_of_lt hR single.infRung_lt)
    unfold Format.read at h
    dsimp only at h
    rw [hp.2] at h
    split at h
    · cases h
    · split at h
      · cases h
      · split at h
        · cases h
        · omega
/-- small numbers go and come back -/
theorem back (n : Int) (h1 : -16777216 ≤ n) (h2 : n ≤ 16777216) (r : Nat) (hr : floatBits .quo .f32 (floatOfInt .f32 n) 1199570944 = some r) : ofv r = n := by
  have e1 : single.binade = 8388608 := by decide
  have e2 : single.infRung = 2139095040 := by decide
  have e3 : single.leastPlace = -149 := by decide
  have e4 : single.fractionBits = 23 := rfl
  by_cases h0 : n = 0
  · subst h0
    have : floatBits .quo .f32 (floatOfInt .f32 0) 1199570944 = some 0 := by decide +kernel
    rw [this] at hr
    cases hr
    have h : single.read 0 = .number false 0 (-149) := by decide +kernel
    rw [ofv_num h, scale_zero]
    unfold ansX
    have hT := Nat.two_pow_pos 1200
    rw [if_neg (by omega), Nat.zero_div]
    rfl
  · obtain ⟨K, L, h, hK1, hK2, hL1, hL2, hs⟩ := int_read n h0 h1 h2
    have hl : K.log2 = 23 := (Nat.log2_eq_iff (by omega)).2 ⟨by omega, by omega⟩
    have hq : single.div (floatOfInt .f32 n) 1199570944 = some (single.nearest (decide (n < 0)) (K * 8) (L - 19)) := by
      rw [div_read h c32 (by decide), hl]
      have hlog : Nat.log2 8388608 = 23 := by decide
      rw [hlog]
      have hsh : K <<< (25 + 23 - 23) = (K * 4) * 8388608 := by rw [Nat.shiftLeft_eq, Nat.mul_assoc]
      rw [hsh, Nat.mul_div_cancel _ (by omega), Nat.mul_mod_left]
      have hg : ∀ (q : Bool) (a b : Nat) (c d : Int), a = b → c = d → some (single.nearest q a c) = some (single.nearest q b d) := by
        intro q a b c d h1 h2
        rw [h1, h2]
      rw [Bool.xor_false]
      exact hg _ _ _ _ _ (by simp; omega) (by omega)
    have hr' : single.div (floatOfInt .f32 n) 1199570944 = some r := hr
    rw [hq] at hr'
    have hr2 := Option.some.inj hr'
    subst hr2
    clear hq hr hr'
    have hl8 : (K * 8).log2 = K.log2 + 3 := log2_mul_pow (k := 3) (by omega)
    have hread : single.read (single.nearest (decide (n < 0)) (K * 8) (L - 19)) = .number (decide (n < 0)) K (L - 16) := by
      refine write_read single _ _ _ (by omega) (L - 16) (by rw [e3, e4, hl8, hl]; omega) K ?_ (by rw [e1]; omega) (Or.inr (by rw [e1]; omega)) (by rw [e1, e2, e3]; omega)
      rw [show (L - 19 - (L - 16)).toNat = 0 by omega, show (L - 16 - (L - 19)).toNat = 3 by omega]
      rfl
    rw [ofv_num hread, show L - 16 + 16 = L by omega, hs]
    unfold ansX scale
    rw [show ((0 : Int) + (1200 : Nat)).toNat = 1200 by omega]
    have hT : 0 < 2 ^ 1200 := Nat.two_pow_pos 1200
    generalize 2 ^ 1200 = T at *
    have hlt : n.natAbs * T < 1099511627776 * T := Nat.mul_lt_mul_of_pos_right (by omega) hT
    rw [if_neg (by omega), Nat.mul_div_cancel _ hT]
    unfold sg
    by_cases hn : n < 0 <;> simp [hn] <;> omega
/-- a float less itself: nought, or no number -/
theorem self_sub (b : Nat) : floatBits .sub .f32 b b = none ∨ (∃ r, floatBits .sub .f32 b b = some r ∧ ofv r = 0) := by
  show single.sub b b = none ∨ ∃ r, single.sub b b = some r ∧ _
  unfold Format.sub
  rcases single_read b with ⟨s, m, e, h, _⟩ | ⟨s, h⟩ | ⟨s, t, h⟩
  · right
    rw [h]
    refine ⟨0, ?_, ?_⟩
    · unfold Datum.opposite Datum.sum signed
      dsimp only
      have hz : ∀ x : Int, ((if s = true then -x else x) + if (!s) = true then -x else x) = 0 := by intro x; cases s <;> simp <;> omega
      rw [hz]
      cases s <;> simp [Format.write, Format.nearest, Format.word]
    · have h : single.read 0 = .number false 0 (-149) := by decide +kernel
      rw [ofv_num h, scale_zero]
      unfold ansX
      have hT := Nat.two_pow_pos 1200
      rw [if_neg (by omega), Nat.zero_div]
      rfl
  · left
    rw [h]
    cases s <;> rfl
  · left
    rw [h]
    rfl
def nanAt (q : Question) (w : World) : Nat := q.cut (w.tape w.drawn q)
theorem run_nan_arith {P : Program} (w : World) (op : BinOp) (ho : op = .sub ∨ op = .mul) (t : TypeId) (k : FloatKind) (x y : Nat) (h : floatBits op k x y = none) : (binOp op t (.float k x) (.float k y)).run P w = .ok (.float k (nanAt (.nanBits k x y) w)) w.drew := by
  unfold floatBits at h
  rcases ho with rfl | rfl <;> simp only at h <;> simp [binOp, Op.floatArith, h, nanAt, Question.forced]
theorem run_nan_conv {P : Program} (w : World) (src dst : TypeId) (b : Nat) (s : Bool) (t : Nat) (hs : (P.underlying src).isSome = true) (hd : P.underlying dst = some (.float .f64)) (h : single.read b = .nan s t) :
    (convert src dst (.float .f32 b)).run P w = .ok (.float .f64 (nanAt (.nanConv .f64 b) w)) w.drew := by
  obtain ⟨u, hs'⟩ := Option.isSome_iff_exists.1 hs
  have h' : FloatKind.f32.decode b = .nan s t := h
  cases u <;> simp [convert, run_underlying hs', run_underlying hd, Conv.floatToFloat, h', nanAt, Question.forced]
theorem read_single_nan (n : Nat) (h : 2139095040 < n % 2147483648) : ∃ s t, single.read n = .nan s t := by
  have e1 : single.binade = 8388608 := by decide
  have e2 : single.infRung = 2139095040 := by decide
  have e4 : single.signWeight = 2147483648 := by decide
  unfold Format.read
  dsimp only
  rw [e1, e2, e4, if_neg (by omega), if_neg (by omega), if_neg (by omega)]
  exact ⟨_, _, rfl⟩
theorem read_double_nan (n : Nat) (h : 9218868437227405312 < n % 9223372036854775808) : ∃ s t, double.read n = .nan s t := by
  have e1 : double.binade = 4503599627370496 := by decide
  have e2 : double.infRung = 9218868437227405312 := by decide
  have e4 : double.signWeight = 9223372036854775808 := by decide
  unfold Format.read
  dsimp only
  rw [e1, e2, e4, if_neg (by omega), if_neg (by omega), if_neg (by omega)]
  exact ⟨_, _, rfl⟩
theorem nan_form (H I R : Nat) (c d : Nat) (hc : c < 2) (hd : d < R) (hI : I + R + 1 ≤ H) : I < (c * H + I + 1 + d) % H := by
  have h1 : I + 1 + d < H := by omega
  rcases (show c = 0 ∨ c = 1 by omega) with rfl | rfl
  · rw [Nat.zero_mul, Nat.zero_add, Nat.mod_eq_of_lt h1]; omega
  · rw [Nat.one_mul, Nat.add_assoc, Nat.add_assoc, Nat.add_mod_left, Nat.mod_eq_of_lt (by omega)]; omega
theorem nan32 (x y : Nat) (w : World) : ∃ s t, single.read (nanAt (.nanBits .f32 x y) w) = .nan s t := by
  refine read_single_nan _ ?_
  unfold nanAt Question.cut
  dsimp only
  exact nan_form 2147483648 2139095040 8388607 _ _ (Nat.mod_lt _ (by omega)) (Nat.mod_lt _ (by omega)) (by omega)
theorem nan64 (x y : Nat) (w : World) : ∃ s t, double.read (nanAt (.nanBits .f64 x y) w) = .nan s t := by
  refine read_double_nan _ ?_
  unfold nanAt Question.cut
  dsimp only
  exact nan_form 9223372036854775808 9218868437227405312 4503599627370495 _ _ (Nat.mod_lt _ (by omega)) (Nat.mod_lt _ (by omega)) (by omega)
theorem nanC64 (b : Nat) (w : World) : ∃ s t, double.read (nanAt (.nanConv .f64 b) w) = .nan s t := by
  refine read_double_nan _ ?_
  unfold nanAt Question.cut
  dsimp only
  exact nan_form 9223372036854775808 9218868437227405312 4503599627370495 _ _ (Nat.mod_lt _ (by omega)) (Nat.mod_lt _ (by omega)) (by omega)
theorem order_nan {f : Format} {p : Nat} (h : ∃ s t, f.read p = .nan s t) (q : Nat) : f.order p q = none := by
  obtain ⟨s, t, h⟩ := h
  unfold Format.order
  rw [h]
  rfl
theorem mul_nan {p : Nat} (h : ∃ s t, double.read p = .nan s t) (q : Nat) : floatBits .mul .f64 p q = none := by
  obtain ⟨s, t, h⟩ := h
  show double.mul p q = none
  unfold Format.mul
  rw [h]
  rfl
/-- infinities: the program's -/
theorem inf_bits {b : Nat} {s : Bool} (h : single.read b = .infinity s) : floatToFloatBits .f32 b .f64 = some (double.write (.infinity s)) ∧ floatBits .mul .f64 (double.write (.infinity s)) 4679240012837945344 = some (double.write (.infinity s)) ∧ floatBits .mul .f32 b 1199570944 = some (single.write (.infinity s)) := by
  refine ⟨?_, ?_, ?_⟩
  · unfold floatToFloatBits
    rw [if_neg (by decide)]
    show (match single.read b with | .nan _ _ => none | .infinity s => _ | .number s m e => _) = _
    rw [h]
    rfl
  · cases s <;> decide +kernel
  · show single.mul _ _ = _
    unfold Format.mul
    rw [h, c32]
    cases s <;> rfl
theorem inf_told (s : Bool) : double.order (double.write (.infinity s)) (double.write (.infinity s)) = some .eq ∧ geB (double.order (double.write (.infinity s)) 4787326403894837248) = !s ∧ leB (double.order (double.write (.infinity s)) 14010698440749613056) = s ∧
    geB (single.order (single.write (.infinity s)) 1400897536) = !s ∧ leB (single.order (single.write (.infinity s)) 3548381184) = s := by
  cases s <;> decide +kernel
theorem order_of_inf {f : Format} {p : Nat} {s : Bool} (h : f.read p = .infinity s) (q : Nat) (hb : f.binade ≤ f.infRung := by decide) : f.order p q = f.order (f.write (.infinity s)) q := by
  unfold Format.order
  rw [h]
  show _ = Datum.order (f.read (f.word s f.infRung)) _
  rw [read_inf f s hb]
end Go.Proofs.YtnknbikkgohlmaaDoor.Flt
