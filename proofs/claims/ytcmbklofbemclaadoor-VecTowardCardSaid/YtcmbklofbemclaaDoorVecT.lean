/- vec: scans and units, plain. -/
import Derived.Test.YtcmbklofbemclaaDoorVecL
namespace Go.Proofs.YtcmbklofbemclaaDoor.FixM
open Go.RowKit Go.Proofs.YtcmbklofbemclaaDoor Go.Proofs.YtcmbklofbemclaaDoor.VVecB Go.Proofs.YtcmbklofbemclaaDoorW.PrintWords Go.Proofs.YtcmbklofbemclaaDoorW.PrintLast Go.Proofs.YtcmbklofbemclaaDoorW.PrintMore

theorem sinT_mod (h : Int) : sinT (h % 256) = sinT h := by unfold sinT; congr 2; omega
theorem sinT_eq {a b : Int} (h : a % 256 = b % 256) : sinT a = sinT b := by unfold sinT; rw [h]
theorem half_nat : (List.range 256).all (fun i => decide (sinT ((i : Int) + 128) = -sinT (i : Int))) = true := by decide +kernel
theorem sin_half (h : Int) : sinT (h + 128) = -sinT h := by
  obtain ⟨m, hm⟩ : ∃ m : Nat, h % 256 = (m : Int) := ⟨(h % 256).toNat, by omega⟩
  have h1 := List.all_eq_true.1 half_nat m (List.mem_range.2 (by omega))
  have h2 := of_decide_eq_true h1
  rw [sinT_eq (a := h + 128) (b := (m : Int) + 128) (by omega), sinT_eq (a := h) (b := (m : Int)) (by omega)]
  exact h2
theorem alive_eq : joustlaw13_alive.f 400 = some true := by decide +kernel
theorem alive_more (k : Nat) : joustlaw13_alive.f (400 + k) = some true := by
  induction k with
  | zero => exact alive_eq
  | succ k ih => exact joustlaw13_alive.mono (400 + k) true ih
theorem in_eq {x m : Int} (hm : 0 ≤ m ∧ m ≤ 9223372036854775807) : joustlaw13_in.f x m = some (decide (-m ≤ x ∧ x ≤ m)) := by
  unfold joustlaw13_in.f
  rw [w64_self (n := -m) (by unfold I64; omega)]
  by_cases h : x ≥ -m
  · rw [if_pos h]
    by_cases h2 : x ≤ m
    · rw [decide_eq_true h2, decide_eq_true ⟨h, h2⟩]
    · rw [decide_eq_false h2, decide_eq_false (fun h => h2 h.2)]
  · rw [if_neg h, decide_eq_false (fun h2 => h h2.1)]
theorem beq2 {a b c d : Int} (h1 : a = c) (h2 : b = d) : (a == c && (b == d)) = true := by subst h1 h2; simp
/-- what a scan finds -/
theorem scan_spec (dx dy : Int) : ∀ (d : Nat) (best at_ h : Int),
    (scan dx dy d best at_ h = at_ ∧ ∀ i, h ≤ i → i < h + d → along dx dy i ≤ best) ∨
    (h ≤ scan dx dy d best at_ h ∧ scan dx dy d best at_ h < h + d ∧ best < along dx dy (scan dx dy d best at_ h) ∧ (∀ i, h ≤ i → i < h + d → along dx dy i ≤ along dx dy (scan dx dy d best at_ h)) ∧ (∀ i, h ≤ i → i < scan dx dy d best at_ h → along dx dy i < along dx dy (scan dx dy d best at_ h))) := by
  intro d
  induction d with
  | zero => intro best at_ h; left; exact ⟨rfl, fun i h1 h2 => by omega⟩
  | succ d ih =>
    intro best at_ h
    rw [scan]
    by_cases hc : along dx dy h > best
    · rw [if_pos hc]
      rcases ih (along dx dy h) h (h + 1) with ⟨h1, h2⟩ | ⟨h1, h2, h3, h4, h5⟩
      · right
        rw [h1]
        refine ⟨by omega, by omega, hc, fun i hi1 hi2 => ?_, fun i hi1 hi2 => by omega⟩
        by_cases hih : i = h
        · subst hih; omega
        · exact h2 i (by omega) (by omega)
      · right
        refine ⟨by omega, by omega, by omega, fun i hi1 hi2 => ?_, fun i hi1 hi2 => ?_⟩
        · by_cases hih : i = h
          · subst hih; omega
          · exact h4 i (by omega) (by omega)
        · by_cases hih : i = h
          · subst hih; exact h3
          · exact h5 i (by omega) hi2
    · rw [if_neg hc]
      rcases ih best at_ (h + 1) with ⟨h1, h2⟩ | ⟨h1, h2, h3, h4, h5⟩
      · left
        refine ⟨h1, fun i hi1 hi2 => ?_⟩
        by_cases hih : i = h
        · subst hih; omega
        · exact h2 i (by omega) (by omega)
      · right
        refine ⟨by omega, by omega, h3, fun i hi1 hi2 => ?_, fun i hi1 hi2 => ?_⟩
        · by_cases hih : i = h
          · subst hih; omega
          · exact h4 i (by omega) (by omega)
        · by_cases hih : i = h
          · subst hih; omega
          · exact h5 i (by omega) hi2
/-- the whole scan -/
theorem scan_all {dx dy : Int} (hx : -2147483647 ≤ dx ∧ dx ≤ 2147483647) (hy : -2147483647 ≤ dy ∧ dy ≤ 2147483647) :
    ∃ t, scan dx dy 256 (-9223372036854775808) 0 0 = t ∧ 0 ≤ t ∧ t < 256 ∧ (∀ i, 0 ≤ i → i < 256 → along dx dy i ≤ along dx dy t) ∧ (∀ i, 0 ≤ i → i < t → along dx dy i < along dx dy t) := by
  refine ⟨_, rfl, ?_⟩
  rcases scan_spec dx dy 256 (-9223372036854775808) 0 0 with ⟨_, h2⟩ | ⟨h1, h2, _, h4, h5⟩
  · have := h2 0 (by decide) (by decide)
    have := (along_bd hx hy 0).1
    omega
  · exact ⟨h1, by omega, fun i a b => h4 i a (by omega), h5⟩
/-- the one with the greatest product -/
theorem scan_one {dx dy : Int} (hx : -2147483647 ≤ dx ∧ dx ≤ 2147483647) (hy : -2147483647 ≤ dy ∧ dy ≤ 2147483647) {t : Int} (ht : 0 ≤ t ∧ t < 256) (h : ∀ i, 0 ≤ i → i < 256 → i ≠ t → along dx dy i < along dx dy t) : scan dx dy 256 (-9223372036854775808) 0 0 = t := by
  obtain ⟨r, e, r0, r1, r2, _⟩ := scan_all hx hy
  rw [e]
  by_cases hr : r = t
  · exact hr
  · have := h r r0 r1 hr
    have := r2 t ht.1 ht.2
    omega
def unitTab : List (Int × Int) := [(65536, 0), (65516, 1608), (65457, 3216), (65358, 4821), (65220, 6424), (65043, 8022), (64827, 9616), (64571, 11204), (64277, 12785), (63944, 14359), (63572, 15924), (63162, 17479), (62714, 19024), (62228, 20557), (61705, 22078), (61145, 23586), (60547, 25080), (59914, 26558), (59244, 28020), (58538, 29466), (57798, 30893), (57022, 32303), (56212, 33692), (55368, 35062), (54491, 36410), (53581, 37736), (52639, 39040), (51665, 40320), (50660, 41576), (49624, 42806), (48559, 44011), (47464, 45190), (46341, 46341), (45190, 47464), (44011, 48559), (42806, 49624), (41576, 50660), (40320, 51665), (39040, 52639), (37736, 53581), (36410, 54491), (35062, 55368), (33692, 56212), (32303, 57022), (30893, 57798), (29466, 58538), (28020, 59244), (26558, 59914), (25080, 60547), (23586, 61145), (22078, 61705), (20557, 62228), (19024, 62714), (17479, 63162), (15924, 63572), (14359, 63944), (12785, 64277), (11204, 64571), (9616, 64827), (8022, 65043), (6424, 65220), (4821, 65358), (3216, 65457), (1608, 65516), (0, 65536), (-1608, 65516), (-3216, 65457), (-4821, 65358), (-6424, 65220), (-8022, 65043), (-9616, 64827), (-11204, 64571), (-12785, 64277), (-14359, 63944), (-15924, 63572), (-17479, 63162), (-19024, 62714), (-20557, 62228), (-22078, 61705), (-23586, 61145), (-25080, 60547), (-26558, 59914), (-28020, 59244), (-29466, 58538), (-30893, 57798), (-32303, 57022), (-33692, 56212), (-35062, 55368), (-36410, 54491), (-37736, 53581), (-39040, 52639), (-40320, 51665), (-41576, 50660), (-42806, 49624), (-44011, 48559), (-45190, 47464), (-46341, 46341), (-47464, 45190), (-48559, 44011), (-49624, 42806), (-50660, 41576), (-51665, 40320), (-52639, 39040), (-53581, 37736), (-54491, 36410), (-55368, 35062), (-56212, 33692), (-57022, 32303), (-57798, 30893), (-58538, 29466), (-59244, 28020), (-59914, 26558), (-60547, 25080), (-61145, 23586), (-61705, 22078), (-62228, 20557), (-62714, 19024), (-63162, 17479), (-63572, 15924), (-63944, 14359), (-64277, 12785), (-64571, 11204), (-64827, 9616), (-65043, 8022), (-65220, 6424), (-65358, 4821), (-65457, 3216), (-65516, 1608), (-65536, 0), (-65516, -1608), (-65457, -3216), (-65358, -4821), (-65220, -6424), (-65043, -8022), (-64827, -9616), (-64571, -11204), (-64277, -12785), (-63944, -14359), (-63572, -15924), (-63162, -17479), (-62714, -19024), (-62228, -20557), (-61705, -22078), (-61145, -23586), (-60547, -25080), (-59914, -26558), (-59244, -28020), (-58538, -29466), (-57798, -30893), (-57022, -32303), (-56212, -33692), (-55368, -35062), (-54491, -36410), (-53581, -37736), (-52639, -39040), (-51665, -40320), (-50660, -41576), (-49624, -42806), (-48559, -44011), (-47464, -45190), (-46341, -46341), (-45190, -47464), (-44011, -48559), (-42806, -49624), (-41576, -50660), (-40320, -51665), (-39040, -52639), (-37736, -53581), (-36410, -54491), (-35062, -55368), (-33692, -56212), (-32303, -57022), (-30893, -57798), (-29466, -58538), (-28020, -59244), (-26558, -59914), (-25080, -60547), (-23586, -61145), (-22078, -61705), (-20557, -62228), (-19024, -62714), (-17479, -63162), (-15924, -63572), (-14359, -63944), (-12785, -64277), (-11204, -64571), (-9616, -64827), (-8022, -65043), (-6424, -65220), (-4821, -65358), (-3216, -65457), (-1608, -65516), (0, -65536), (1608, -65516), (3216, -65457), (4821, -65358), (6424, -65220), (8022, -65043), (9616, -64827), (11204, -64571), (12785, -64277), (14359, -63944), (15924, -63572), (17479, -63162), (19024, -62714), (20557, -62228), (22078, -61705), (23586, -61145), (25080, -60547), (26558, -59914), (28020, -59244), (29466, -58538), (30893, -57798), (32303, -57022), (33692, -56212), (35062, -55368), (36410, -54491), (37736, -53581), (39040, -52639), (40320, -51665), (41576, -50660), (42806, -49624), (44011, -48559), (45190, -47464), (46341, -46341), (47464, -45190), (48559, -44011), (49624, -42806), (50660, -41576), (51665, -40320), (52639, -39040), (53581, -37736), (54491, -36410), (55368, -35062), (56212, -33692), (57022, -32303), (57798, -30893), (58538, -29466), (59244, -28020), (59914, -26558), (60547, -25080), (61145, -23586), (61705, -22078), (62228, -20557), (62714, -19024), (63162, -17479), (63572, -15924), (63944, -14359), (64277, -12785), (64571, -11204), (64827, -9616), (65043, -8022), (65220, -6424), (65358, -4821), (65457, -3216), (65516, -1608)]
theorem unit_tab : (List.range 256).all (fun i => decide (unitTab[i]? = some (sinT ((i : Int) + 64), sinT (i : Int)))) = true := by decide +kernel
theorem unit_best : (unitTab.zipIdx.all fun u => unitTab.zipIdx.all fun v => u.2 == v.2 || decide (v.1.1 * u.1.1 + v.1.2 * u.1.2 < u.1.1 * u.1.1 + u.1.2 * u.1.2)) = true := by decide +kernel
theorem unit_way (h : Int) : scan (sinT (h + 64)) (sinT h) 256 (-9223372036854775808) 0 0 = h % 256 := by
  have b1 := sinT_bd (h + 64)
  have b2 := sinT_bd h
  refine scan_one (by omega) (by omega) (by omega) fun i h0 h1 hne => ?_
  obtain ⟨m, hm⟩ : ∃ m : Nat, h % 256 = (m : Int) := ⟨(h % 256).toNat, by omega⟩
  obtain ⟨n, rfl⟩ : ∃ n : Nat, i = (n : Int) := ⟨i.toNat, by omega⟩
  have t1 := of_decide_eq_true (List.all_eq_true.1 unit_tab m (List.mem_range.2 (by omega)))
  have t2 := of_decide_eq_true (List.all_eq_true.1 unit_tab n (List.mem_range.2 (by omega)))
  have k1 := List.all_eq_true.1 unit_best ((sinT ((m : Int) + 64), sinT (m : Int)), m) (List.mem_zipIdx_iff_getElem?.2 t1)
  have k2 := List.all_eq_true.1 k1 ((sinT ((n : Int) + 64), sinT (n : Int)), n) (List.mem_zipIdx_iff_getElem?.2 t2)
  simp only [Bool.or_eq_true, beq_iff_eq, decide_eq_true_eq] at k2
  rw [hm]
  unfold along
  rw [sinT_eq (a := h + 64) (b := (m : Int) + 64) (by omega), sinT_eq (a := h) (b := (m : Int)) (by omega)]
  rcases k2 with k2 | k2
  · omega
  · exact k2
end Go.Proofs.YtcmbklofbemclaaDoor.FixM
