/- VecToward: plain. -/
import Derived.Test.YtcmbklofbemclaaDoorVecT
import Derived.Test.YtcmbklofbemclaaDoorVVecTowardx5
namespace Go.Proofs.YtcmbklofbemclaaDoor.FixM
open Go.RowKit Go.Proofs.YtcmbklofbemclaaDoor Go.Proofs.YtcmbklofbemclaaDoor.VVecB Go.Proofs.YtcmbklofbemclaaDoorW.PrintWords Go.Proofs.YtcmbklofbemclaaDoorW.PrintLast Go.Proofs.YtcmbklofbemclaaDoorW.PrintMore

theorem small_eq (a b c d : Int) : joustlaw13_small.f a b c d = some (decide ((-536870912 ≤ a ∧ a ≤ 536870912) ∧ (-536870912 ≤ b ∧ b ≤ 536870912) ∧ (-536870912 ≤ c ∧ c ≤ 536870912) ∧ (-536870912 ≤ d ∧ d ≤ 536870912))) := by
  unfold joustlaw13_small.f
  rw [in_eq (by decide), in_eq (by decide), in_eq (by decide), in_eq (by decide)]
  simp only [Option.bind_some]
  by_cases h1 : -536870912 ≤ a ∧ a ≤ 536870912
  · rw [decide_eq_true h1, if_pos rfl]
    by_cases h2 : -536870912 ≤ b ∧ b ≤ 536870912
    · rw [decide_eq_true h2, if_pos rfl]
      by_cases h3 : -536870912 ≤ c ∧ c ≤ 536870912
      · rw [decide_eq_true h3, if_pos rfl]
        congr 1
        exact decide_eq_decide.2 ⟨fun h => ⟨h1, h2, h3, h⟩, fun h => h.2.2.2⟩
      · rw [decide_eq_false h3, if_neg (by decide), decide_eq_false (fun h => h3 h.2.2.1)]
    · rw [decide_eq_false h2, if_neg (by decide), decide_eq_false (fun h => h2 h.2.1)]
  · rw [decide_eq_false h1, if_neg (by decide), decide_eq_false (fun h => h1 h.1)]
theorem towardV_bd (a b c d : Int) : 0 ≤ towardV a b c d ∧ towardV a b c d < 256 := by
  unfold towardV
  split
  · omega
  · obtain ⟨t, e, h0, h1, _⟩ := scan_all (dif_bd c a) (dif_bd d b)
    rw [e]; exact ⟨h0, h1⟩
theorem along_mod (dx dy h : Int) : along dx dy (h % 256) = along dx dy h := by
  unfold along; rw [sinT_mod, sinT_eq (a := h % 256 + 64) (b := h + 64) (by omega)]
theorem along_neg (dx dy h : Int) : along (-dx) (-dy) h = along dx dy (h + 128) := by
  unfold along
  rw [sin_half h, show h + 128 + 64 = h + 64 + 128 by omega, sin_half (h + 64)]
  grind
theorem along_zero (h : Int) : along 0 0 h = 0 := by unfold along; simp

/-- the last test: from any place a heading's unit lies that way -/
theorem toward_unit {a b : Int} (ha : -536870912 ≤ a ∧ a ≤ 536870912) (hb : -536870912 ≤ b ∧ b ≤ 536870912) (h : Int) : towardV a b (lim (a + sinT (h + 64))) (lim (b + sinT h)) = h % 256 := by
  have b1 := sinT_bd (h + 64)
  have b2 := sinT_bd h
  have l1 : lim (a + sinT (h + 64)) = a + sinT (h + 64) := by
    unfold lim; repeat' split
    all_goals omega
  have l2 : lim (b + sinT h) = b + sinT h := by
    unfold lim; repeat' split
    all_goals omega
  rw [l1, l2]
  have d1 : dif (a + sinT (h + 64)) a = sinT (h + 64) := by
    unfold dif; rw [keep_id (by omega)]; omega
  have d2 : dif (b + sinT h) b = sinT h := by
    unfold dif; rw [keep_id (by omega)]; omega
  have hw := unit_way h
  unfold towardV
  rw [d1, d2]
  by_cases hz : a = a + sinT (h + 64) ∧ b = b + sinT h
  · exfalso
    obtain ⟨z1, z2⟩ := hz
    have e1 : sinT (h + 64) = 0 := by omega
    have e2 : sinT h = 0 := by omega
    obtain ⟨m, hm⟩ : ∃ m : Nat, h % 256 = (m : Int) := ⟨(h % 256).toNat, by omega⟩
    have t1 := of_decide_eq_true (List.all_eq_true.1 unit_tab m (List.mem_range.2 (by omega)))
    rw [sinT_eq (a := (m : Int) + 64) (b := h + 64) (by omega), sinT_eq (a := (m : Int)) (b := h) (by omega), e1, e2] at t1
    have t2 : (unitTab.all fun u => !(u == (0, 0))) = true := by decide +kernel
    have t3 := List.all_eq_true.1 t2 _ (List.mem_of_getElem? t1)
    simp at t3
  · rw [if_neg hz, hw]
theorem j2_true (k : Nat) (hk : 301 ≤ k) {a b : Int} (ha : -536870912 ≤ a ∧ a ≤ 536870912) (hb : -536870912 ≤ b ∧ b ≤ 536870912) (h : Int) : VVecToward.joustlaw13_VecToward.j2 k h false a b = some true := by
  obtain ⟨k, rfl⟩ : ∃ m, k = m + 1 + 1 := ⟨k - 2, by omega⟩
  have b1 := sinT_bd (h + 64)
  have b2 := sinT_bd h
  have i1 := lim_in (a + sinT (h + 64))
  have i2 := lim_in (b + sinT h)
  rw [VVecToward.joustlaw13_VecToward.j2, if_neg (by decide), unit_eq]
  simp only [Option.bind_some]
  rw [vadd_eq k (by unfold I64; omega) (by unfold I64; omega) (by unfold I64; omega) (by unfold I64; omega)]
  simp only [Option.bind_some]
  rw [toward_eq (k + 1) (by omega) (by unfold I64; omega) (by unfold I64; omega) (by unfold I64; omega) (by unfold I64; omega), turn_eq, toward_unit ha hb]
  simp only [Option.bind_some, Int.add_zero]
  rw [beq_self_eq_true]
/-- the loop over all headings -/
theorem toward_loop {a b c d : Int} (ha : -536870912 ≤ a ∧ a ≤ 536870912) (hb : -536870912 ≤ b ∧ b ≤ 536870912) (hc : -536870912 ≤ c ∧ c ≤ 536870912) (hd : -536870912 ≤ d ∧ d ≤ 536870912) (h t : Int) (ht : towardV a b c d = t)
    (hmax : ∀ i, 0 ≤ i → i < 256 → along (c - a) (d - b) i ≤ along (c - a) (d - b) t) (hfirst : ∀ i, 0 ≤ i → i < t → along (c - a) (d - b) i < along (c - a) (d - b) t) :
    ∀ (n k : Nat) (al : Bool) (i : Int), n + 400 ≤ k → 0 ≤ i → i + n = 256 → (al = true → ∀ j, 0 ≤ j → j < i → j = t ∨ along (c - a) (d - b) j < along (c - a) (d - b) t) →
    VVecToward.joustlaw13_VecToward.l0 k h t (along (c - a) (d - b) t) al i a b c d (c - a) (d - b) = some true := by
  have hx : -2147483647 ≤ c - a ∧ c - a ≤ 2147483647 := by omega
  have hy : -2147483647 ≤ d - b ∧ d - b ≤ 2147483647 := by omega
  have htb := towardV_bd a b c d
  rw [ht] at htb
  intro n
  induction n with
  | zero =>
    intro k al i hk h0 h1 hal
    obtain ⟨k, rfl⟩ : ∃ m, k = m + 1 := ⟨k - 1, by omega⟩
    rw [VVecToward.joustlaw13_VecToward.l0, if_neg (by omega)]
    cases al with
    | false => rw [if_neg (by decide)]; exact j2_true k (by omega) ha hb h
    | true =>
      rw [if_pos rfl, toward_eq k (by omega) (by unfold I64; omega) (by unfold I64; omega) (by unfold I64; omega) (by unfold I64; omega), turn_eq]
      simp only [Option.bind_some]
      have hone : ∀ j, 0 ≤ j → j < 256 → j = t ∨ along (c - a) (d - b) j < along (c - a) (d - b) t := fun j j0 j1 => hal rfl j j0 (by omega)
      have hne : ¬ (c = a ∧ d = b) := fun hz => by
        obtain ⟨rfl, rfl⟩ := hz
        have h5 := hone ((t + 1) % 256) (by omega) (by omega)
        rw [Int.sub_self, Int.sub_self, along_zero, along_zero] at h5
        omega
      have e : towardV c d a b = (t + 128) % 256 := by
        unfold towardV
        rw [if_neg hne]
        have d1 : dif a c = -(c - a) := by unfold dif; rw [keep_id (by omega)]; omega
        have d2 : dif b d = -(d - b) := by unfold dif; rw [keep_id (by omega)]; omega
        rw [d1, d2]
        refine scan_one (by omega) (by omega) (by omega) fun j j0 j1 jne => ?_
        rw [along_neg, along_neg, ← along_mod _ _ (j + 128), ← along_mod _ _ ((t + 128) % 256 + 128)]
        have e2 : ((t + 128) % 256 + 128) % 256 = t := by omega
        rw [e2]
        rcases hone ((j + 128) % 256) (by omega) (by omega) with h5 | h5
        · omega
        · exact h5
      rw [e]
      have hb0 : ((t + 128) % 256 != (t + 128) % 256) = false := by simp
      rw [hb0]
      exact j2_true k (by omega) ha hb h
  | succ n ih =>
    intro k al i hk h0 h1 hal
    obtain ⟨k, rfl⟩ : ∃ m, k = m + 1 := ⟨k - 1, by omega⟩
    obtain ⟨_, _, e⟩ := along_bd hx hy i
    have hle := hmax i h0 (by omega)
    rw [VVecToward.joustlaw13_VecToward.l0, if_pos (by omega), unit_eq]
    simp only [Option.bind_some]
    rw [e, w64_self (n := i + 1) (by unfold I64; omega), if_neg (by omega)]
    have hA : al = true → i = t → VVecToward.joustlaw13_VecToward.l0 k h t (along (c - a) (d - b) t) true (i + 1) a b c d (c - a) (d - b) = some true := fun hh hit => ih k true (i + 1) (by omega) (by omega) (by omega) fun _ j j0 j1 => by
      by_cases hj : j = i
      · left; omega
      · exact hal hh j j0 (by omega)
    have hB : al = true → ¬ i = t → VVecToward.joustlaw13_VecToward.l0 k h t (along (c - a) (d - b) t) (decide (along (c - a) (d - b) i < along (c - a) (d - b) t)) (i + 1) a b c d (c - a) (d - b) = some true := fun hh _ => ih k _ (i + 1) (by omega) (by omega) (by omega) fun hlt j j0 j1 => by
      by_cases hj : j = i
      · right; subst hj; exact of_decide_eq_true hlt
      · exact hal hh j j0 (by omega)
    have hC : VVecToward.joustlaw13_VecToward.l0 k h t (along (c - a) (d - b) t) false (i + 1) a b c d (c - a) (d - b) = some true := ih k false (i + 1) (by omega) (by omega) (by omega) (fun hf => by cases hf)
    have hD : (if al = true then (if i = t then (VVecToward.joustlaw13_VecToward.l0 k h t (along (c - a) (d - b) t) true (i + 1) a b c d (c - a) (d - b)) else (VVecToward.joustlaw13_VecToward.l0 k h t (along (c - a) (d - b) t) (decide (along (c - a) (d - b) i < along (c - a) (d - b) t)) (i + 1) a b c d (c - a) (d - b))) else (VVecToward.joustlaw13_VecToward.l0 k h t (along (c - a) (d - b) t) false (i + 1) a b c d (c - a) (d - b))) = some true := by
      by_cases hal2 : al = true
      · rw [if_pos hal2]
        by_cases hit : i = t
        · rw [if_pos hit]; exact hA hal2 hit
        · rw [if_neg hit]; exact hB hal2 hit
      · rw [if_neg hal2]; exact hC
    by_cases heq : along (c - a) (d - b) i = along (c - a) (d - b) t
    · rw [if_pos heq, if_neg (fun hlt => by have := hfirst i h0 hlt; omega)]; exact hD
    · rw [if_neg heq]; exact hD
theorem vecToward (a b c d h : Int) (ha : I64 a) (hb : I64 b) (hc : I64 c) (hd : I64 d) : ∃ k, VVecToward.joustlaw13_VecToward.f k a b c d h = some true := by
  obtain ⟨m, hm⟩ : ∃ m : Nat, 1000 ≤ m := ⟨1000, Nat.le_refl _⟩
  refine ⟨400 + (m + 1 + 1), ?_⟩
  unfold VVecToward.joustlaw13_VecToward.f
  rw [alive_more]
  simp only [Option.bind_some, if_true]
  have htb := towardV_bd a b c d
  have hself : towardV a b a b = 0 := by unfold towardV; rw [if_pos ⟨rfl, rfl⟩]
  rw [toward_eq _ (by omega) ha hb hc hd, toward_eq _ (by omega) ha hb ha hb, hself]
  simp only [Option.bind_some]
  rw [if_neg (by omega), if_neg (by omega)]
  have h0 : ((0 : Int) != 0) = false := rfl
  rw [h0]
  obtain ⟨q, hq⟩ : ∃ q, 400 + (m + 1 + 1) = q + 1 + 1 := ⟨400 + m, by omega⟩
  rw [hq, VVecToward.joustlaw13_VecToward.j0, if_neg (by decide), small_eq]
  simp only [Option.bind_some]
  by_cases hs : (-536870912 ≤ a ∧ a ≤ 536870912) ∧ (-536870912 ≤ b ∧ b ≤ 536870912) ∧ (-536870912 ≤ c ∧ c ≤ 536870912) ∧ (-536870912 ≤ d ∧ d ≤ 536870912)
  · rw [decide_eq_true hs, if_pos rfl]
    obtain ⟨s1, s2, s3, s4⟩ := hs
    have l1 : lim (c - a) = c - a := by
      unfold lim; repeat' split
      all_goals omega
    have l2 : lim (d - b) = d - b := by
      unfold lim; repeat' split
      all_goals omega
    rw [vsub_eq q hc hd ha hb, l1, l2, unit_eq]
    simp only [Option.bind_some]
    obtain ⟨_, _, e⟩ := along_bd (dx := c - a) (dy := d - b) (by omega) (by omega) (towardV a b c d)
    rw [e]
    have d1 : dif c a = c - a := by unfold dif; rw [keep_id (by omega)]
    have d2 : dif d b = d - b := by unfold dif; rw [keep_id (by omega)]
    have hscan : (∀ i, 0 ≤ i → i < 256 → along (c - a) (d - b) i ≤ along (c - a) (d - b) (towardV a b c d)) ∧ (∀ i, 0 ≤ i → i < towardV a b c d → along (c - a) (d - b) i < along (c - a) (d - b) (towardV a b c d)) := by
      unfold towardV
      by_cases hz : a = c ∧ b = d
      · rw [if_pos hz]
        obtain ⟨rfl, rfl⟩ := hz
        rw [Int.sub_self, Int.sub_self]
        exact ⟨fun i _ _ => by rw [along_zero, along_zero]; omega, fun i h1 h2 => by omega⟩
      · rw [if_neg hz, d1, d2]
        obtain ⟨t, et, _, _, h3, h4⟩ := scan_all (dx := c - a) (dy := d - b) (by omega) (by omega)
        rw [et]; exact ⟨h3, h4⟩
    exact toward_loop s1 s2 s3 s4 h _ rfl hscan.1 hscan.2 256 (q + 1) true 0 (by omega) (by omega) (by omega) (fun _ j j0 j1 => by omega)
  · rw [decide_eq_false hs, if_neg (by decide)]
end Go.Proofs.YtcmbklofbemclaaDoor.FixM
