/- FixB and what it calls: printed by wip/gen/vprint.py (functions joust/fix.Sin are given) -/
import Derived.Test.YtnknbikkgohlmaaDoorVFixBx0
import Derived.Test.YtnknbikkgohlmaaDoorVFixBx3
namespace Go.Proofs.YtnknbikkgohlmaaDoor.VFixB
open Go.RowKit Go.Proofs.YtnknbikkgohlmaaDoorW.PrintWords Go.Proofs.YtnknbikkgohlmaaDoorW.PrintLast Go.Proofs.YtnknbikkgohlmaaDoorW.PrintMore
attribute [local go_sem] max2_int min2_int max_two min_two max_three min_three max_four min_four   -- for this text's walks alone
set_option linter.unusedVariables false
set_option linter.unusedSimpArgs false

/-! ### joustref03_Div: function 38 -/
mutual
def joustref03_Div.j0 : Nat → Int → Int → Bool → Option (Int)
  | 0, _, _, _ => none
  | k + 1, x0, x1, x5 => (joustref03_size.f x0).bind fun t146 => ((joustref03_size.f x1).bind fun t147 => (joustref03_Div.l0 k x5 t146 t147 0 0 79))
def joustref03_Div.l0 : Nat → Bool → Int → Int → Int → Int → Int → Option (Int)
  | 0, _, _, _, _, _, _ => none
  | k + 1, x5, x6, x7, x8, x9, x10 => if x10 ≥ 0 then (if x10 ≥ 16 then ((joustref03_power.f k (wrap64 (x10 - 16))).bind fun t151 => (if t151 = 0 then (none) else (joustref03_Div.j2 k x5 x6 x7 x8 x9 x10 (Int.tmod (IntKind.u64.wrap (Int.tdiv x6 t151)) 2)))) else (joustref03_Div.j2 k x5 x6 x7 x8 x9 x10 0)) else (if x5 = true then (if x9 > 0 then ((joustref03_bounded.f x5 (IntKind.u64.wrap (x8 + 1))).bind fun t148 => (some t148)) else ((joustref03_bounded.f x5 x8).bind fun t149 => (some t149))) else ((joustref03_bounded.f x5 x8).bind fun t150 => (some t150)))
def joustref03_Div.j2 : Nat → Bool → Int → Int → Int → Int → Int → Int → Option (Int)
  | 0, _, _, _, _, _, _, _ => none
  | k + 1, x5, x6, x7, x8, x9, x10, x11 => if (IntKind.u64.wrap ((IntKind.u64.wrap (x9 * 2)) + x11)) ≥ x7 then (if (IntKind.u64.wrap ((IntKind.u64.wrap (x8 * 2)) + 1)) > 4398046511104 then (joustref03_Div.l0 k x5 x6 x7 4398046511104 (IntKind.u64.wrap ((IntKind.u64.wrap ((IntKind.u64.wrap (x9 * 2)) + x11)) - x7)) (wrap64 (x10 - 1))) else (joustref03_Div.l0 k x5 x6 x7 (IntKind.u64.wrap ((IntKind.u64.wrap (x8 * 2)) + 1)) (IntKind.u64.wrap ((IntKind.u64.wrap ((IntKind.u64.wrap (x9 * 2)) + x11)) - x7)) (wrap64 (x10 - 1)))) else (if (IntKind.u64.wrap (x8 * 2)) > 4398046511104 then (joustref03_Div.l0 k x5 x6 x7 4398046511104 (IntKind.u64.wrap ((IntKind.u64.wrap (x9 * 2)) + x11)) (wrap64 (x10 - 1))) else (joustref03_Div.l0 k x5 x6 x7 (IntKind.u64.wrap (x8 * 2)) (IntKind.u64.wrap ((IntKind.u64.wrap (x9 * 2)) + x11)) (wrap64 (x10 - 1))))
end
def joustref03_Div.f (k : Nat) (a0 : Int) (a1 : Int) : Option (Int) := if a1 = 0 then (if a0 = 0 then (some 0) else ((joustref03_bounded.f (decide (a0 < 0)) 1099511627776).bind fun t145 => (some t145))) else (if ((decide (a0 < 0)) != (decide (a1 < 0))) = true then (joustref03_Div.j0 k a0 a1 (a0 != 0)) else (joustref03_Div.j0 k a0 a1 false))
theorem joustref03_Div.mono_l : ∀ k, (∀ y0 y1 y2, LeO (joustref03_Div.j0 k y0 y1 y2) (joustref03_Div.j0 (k + 1) y0 y1 y2)) ∧ (∀ y0 y1 y2 y3 y4 y5, LeO (joustref03_Div.l0 k y0 y1 y2 y3 y4 y5) (joustref03_Div.l0 (k + 1) y0 y1 y2 y3 y4 y5)) ∧ (∀ y0 y1 y2 y3 y4 y5 y6, LeO (joustref03_Div.j2 k y0 y1 y2 y3 y4 y5 y6) (joustref03_Div.j2 (k + 1) y0 y1 y2 y3 y4 y5 y6))
  | 0 => ⟨fun _ _ _ r h => by simp [joustref03_Div.j0] at h, fun _ _ _ _ _ _ r h => by simp [joustref03_Div.l0] at h, fun _ _ _ _ _ _ _ r h => by simp [joustref03_Div.j2] at h⟩
  | k + 1 => by
    obtain ⟨ih0, ih1, ih2⟩ := joustref03_Div.mono_l k
    refine ⟨?_, ?_, ?_⟩
    · intro y0 y1 y2
      unfold joustref03_Div.j0
      repeat' first
      | (with_reducible exact ih0 _ _ _)
      | (with_reducible exact ih1 _ _ _ _ _ _)
      | (with_reducible exact ih2 _ _ _ _ _ _ _)
      | (with_reducible exact joustref03_power.mono _ _)
      | (with_reducible exact LeO.refl _)
      | (with_reducible exact LeO.none _)
      | (with_reducible refine LeO.ite ?_ ?_)
      | (with_reducible refine LeO.bind ?_ (fun _ => ?_))
      | exact ih0 _ _ _
      | exact ih1 _ _ _ _ _ _
      | exact ih2 _ _ _ _ _ _ _
      | exact joustref03_power.mono _ _
      | exact LeO.none _
      | refine LeO.ite ?_ ?_
      | refine LeO.bind ?_ (fun _ => ?_)
    · intro y0 y1 y2 y3 y4 y5
      unfold joustref03_Div.l0
      repeat' first
      | (with_reducible exact ih0 _ _ _)
      | (with_reducible exact ih1 _ _ _ _ _ _)
      | (with_reducible exact ih2 _ _ _ _ _ _ _)
      | (with_reducible exact joustref03_power.mono _ _)
      | (with_reducible exact LeO.refl _)
      | (with_reducible exact LeO.none _)
      | (with_reducible refine LeO.ite ?_ ?_)
      | (with_reducible refine LeO.bind ?_ (fun _ => ?_))
      | exact ih0 _ _ _
      | exact ih1 _ _ _ _ _ _
      | exact ih2 _ _ _ _ _ _ _
      | exact joustref03_power.mono _ _
      | exact LeO.none _
      | refine LeO.ite ?_ ?_
      | refine LeO.bind ?_ (fun _ => ?_)
    · intro y0 y1 y2 y3 y4 y5 y6
      unfold joustref03_Div.j2
      repeat' first
      | (with_reducible exact ih0 _ _ _)
      | (with_reducible exact ih1 _ _ _ _ _ _)
      | (with_reducible exact ih2 _ _ _ _ _ _ _)
      | (with_reducible exact joustref03_power.mono _ _)
      | (with_reducible exact LeO.refl _)
      | (with_reducible exact LeO.none _)
      | (with_reducible refine LeO.ite ?_ ?_)
      | (with_reducible refine LeO.bind ?_ (fun _ => ?_))
      | exact ih0 _ _ _
      | exact ih1 _ _ _ _ _ _
      | exact ih2 _ _ _ _ _ _ _
      | exact joustref03_power.mono _ _
      | exact LeO.none _
      | refine LeO.ite ?_ ?_
      | refine LeO.bind ?_ (fun _ => ?_)
theorem joustref03_Div.mono : ∀ a0 a1 k, LeO (joustref03_Div.f k a0 a1) (joustref03_Div.f (k + 1) a0 a1) := by
  intro a0 a1 k
  obtain ⟨ih0, ih1, ih2⟩ := joustref03_Div.mono_l k
  unfold joustref03_Div.f
  repeat' first
      | (with_reducible exact ih0 _ _ _)
      | (with_reducible exact ih1 _ _ _ _ _ _)
      | (with_reducible exact ih2 _ _ _ _ _ _ _)
      | (with_reducible exact joustref03_power.mono _ _)
      | (with_reducible exact LeO.refl _)
      | (with_reducible exact LeO.none _)
      | (with_reducible refine LeO.ite ?_ ?_)
      | (with_reducible refine LeO.bind ?_ (fun _ => ?_))
      | exact ih0 _ _ _
      | exact ih1 _ _ _ _ _ _
      | exact ih2 _ _ _ _ _ _ _
      | exact joustref03_power.mono _ _
      | exact LeO.none _
      | refine LeO.ite ?_ ?_
      | refine LeO.bind ?_ (fun _ => ?_)
set_option maxHeartbeats 8000000 in
set_option maxRecDepth 100000 in
theorem joustref03_Div.calls (k : Nat) (a0 : Int) (a1 : Int) (r : Int) (w : World) (h : joustref03_Div.f k a0 a1 = some r) :
    Calls Tryd.prog 38 #[.int .i64 a0, .int .i64 a1] w fun e w' => e = .returned (.int .i64 r) ∧ Drawn0 w w' := by
  have H : (if a1 = 0 then (if a0 = 0 then (some 0) else ((joustref03_bounded.f (decide (a0 < 0)) 1099511627776).bind fun t145 => (some t145))) else (if ((decide (a0 < 0)) != (decide (a1 < 0))) = true then (joustref03_Div.j0 k a0 a1 (a0 != 0)) else (joustref03_Div.j0 k a0 a1 false))) = some r := h
  clear h
  by_cases c3 : a1 = 0
  · rw [if_pos c3] at H
    have c3b0 : (a1 == 0) = true := beq_iff_eq.mpr c3
    have c3b1 : (a1 != 0) = false := bne_eq_false_iff_eq.mpr c3
    clear c3
    by_cases c4 : a0 = 0
    · rw [if_pos c4] at H
      have c4b0 : (a0 == 0) = true := beq_iff_eq.mpr c4
      have c4b1 : (a0 != 0) = false := bne_eq_false_iff_eq.mpr c4
      clear c4
      obtain rfl := Option.some.inj H
      go_enter Tryd.func38, Tryd.ntmps38
      go_wp2
      go_ret
      exact ⟨by first | rfl | (simp; done) | (simp [*]; done), by repeat (first | exact Drawn0.refl _ | apply Drawn0.step)⟩
    · rw [if_neg c4] at H
      have c4b0 : (a0 == 0) = false := beq_eq_false_iff_ne.mpr c4
      have c4b1 : (a0 != 0) = true := bne_iff_ne.mpr c4
      replace H := Option.bind_eq_some_iff.mp H
      obtain ⟨t145, A50, H⟩ := H
      replace H : (some t145) = some r := H
      have A5 := Aside0.mk A50
      clear A50
      obtain rfl := Option.some.inj H
      go_enter Tryd.func38, Tryd.ntmps38
      go_wp2_with (first | ((with_reducible refine gate_callee (f := 70) rfl ?_); refine goesL_ (some 18) rfl rfl Tryd.func70 (by kernel_rfl) rfl #[.bool (decide (a0 < 0)), .int .u64 1099511627776] rfl (by (try simp only [List.map_toArray, List.map_cons, List.map_nil]); first | done | rfl | (simp only [List.length_drop, List.length_take]; rfl)) ?_; (with_reducible refine (joustref03_bounded.calls (decide (a0 < 0)) 1099511627776 t145 _ A5.out).mono ?_); rintro e w' ⟨rfl, ⟨nd, rfl⟩⟩; refine ⟨_, rfl, ?_⟩))
      go_ret
      exact ⟨by first | rfl | (simp; done) | (simp [*]; done), by repeat (first | exact Drawn0.refl _ | apply Drawn0.step)⟩
  · rw [if_neg c3] at H
    have c3b0 : (a1 == 0) = false := beq_eq_false_iff_ne.mpr c3
    have c3b1 : (a1 != 0) = true := bne_iff_ne.mpr c3
    have HC6 := Aside0.mk H
    clear H
    go_enter Tryd.func38, Tryd.ntmps38
    go_upto_region 5 with (fail)
    go_cut [5] (fun v5 wc => ∃ (kq : Nat) (x5_5 : Bool), v5 = .bool x5_5 ∧ Aside0 (joustref03_Div.j0 kq a0 a1 x5_5 = some r) ∧ Aside0 (kq ≤ k) ∧ Drawn0 w wc)
    case first =>
      have H := HC6.out
      clear HC6
      by_cases c7 : ((decide (a0 < 0)) != (decide (a1 < 0))) = true
      · rw [if_pos c7] at H
        have c7b0 : ((decide (a0 < 0)) != (decide (a1 < 0))) = true := c7
        (try simp only [c7b0] at H)
        (try (have c7b1 : decide ((decide (a0 < 0)) = (decide (a1 < 0))) = false := by simpa using c7))
        (try (have c7b2 : ((decide (a0 < 0)) == (decide (a1 < 0))) = false := by simpa using c7))
        (try (have c7b3 : ¬ ((decide (a0 < 0)) = (decide (a1 < 0))) := by simpa using c7))
        clear c7
        (first | rw [c7b0] | (simp only [i64_w, i32_w]; rw [c7b0]) | skip)
        have H' := Aside0.mk H
        clear H
        go_wp2
        go_meet
        case rel => exact ⟨_, ((a0 != 0)), (by first | rfl | (simp; done) | (simp [*]; done)), H', ⟨by first | omega | exact Nat.le_refl _⟩, by repeat (first | exact Drawn0.refl _ | apply Drawn0.step)⟩
      · rw [if_neg c7] at H
        have c7b0 : ((decide (a0 < 0)) != (decide (a1 < 0))) = false := by simpa using c7
        (try simp only [c7b0] at H)
        (try (have c7b1 : decide ((decide (a0 < 0)) = (decide (a1 < 0))) = true := by simpa using c7))
        (try (have c7b2 : ((decide (a0 < 0)) == (decide (a1 < 0))) = true := by simpa using c7))
        clear c7
        (first | rw [c7b0] | (simp only [i64_w, i32_w]; rw [c7b0]) | skip)
        have H' := Aside0.mk H
        clear H
        go_wp2
        go_meet
        case rel => exact ⟨_, (false), (by first | rfl | (simp; done) | (simp [*]; done)), H', ⟨by first | omega | exact Nat.le_refl _⟩, by repeat (first | exact Drawn0.refl _ | apply Drawn0.step)⟩
    case rest =>
      clear HC6
      try clear p2
      try clear c3
      try clear c3b0
      try clear c3b1
      try clear c4
      try clear c4b0
      try clear c4b1
      try clear c7
      try clear c7b0
      try clear c7b1
      try clear c7b2
      obtain ⟨kq, x5_5, rfl, HA, HJ5, ⟨mc5, rfl⟩⟩ := hcut
      cases kq with
      | zero => exact absurd HA.out (by simp [joustref03_Div.j0])
      | succ kj5 =>
        have H := HA.out
        clear HA
        simp only [joustref03_Div.j0] at H
        replace H := Option.bind_eq_some_iff.mp H
        obtain ⟨t146, A80, H⟩ := H
        replace H : ((joustref03_size.f a1).bind fun t147 => (joustref03_Div.l0 kj5 x5_5 t146 t147 0 0 79)) = some r := H
        have A8 := Aside0.mk A80
        clear A80
        replace H := Option.bind_eq_some_iff.mp H
        obtain ⟨t147, A90, H⟩ := H
        replace H : (joustref03_Div.l0 kj5 x5_5 t146 t147 0 0 79) = some r := H
        have A9 := Aside0.mk A90
        clear A90
        have H' := Aside0.mk H
        clear H
        go_wp2_with (first | ((with_reducible refine gate_callee (f := 69) rfl ?_); refine goesL_ (some 29) rfl rfl Tryd.func69 (by kernel_rfl) rfl #[.int .i64 a0] rfl (by (try simp only [List.map_toArray, List.map_cons, List.map_nil]); first | done | rfl | (simp only [List.length_drop, List.length_take]; rfl)) ?_; (with_reducible refine (joustref03_size.calls a0 t146 _ A8.out).mono ?_); rintro e w' ⟨rfl, ⟨nd, rfl⟩⟩; refine ⟨_, rfl, ?_⟩) | ((with_reducible refine gate_callee (f := 69) rfl ?_); refine goesL_ (some 31) rfl rfl Tryd.func69 (by kernel_rfl) rfl #[.int .i64 a1] rfl (by (try simp only [List.map_toArray, List.map_cons, List.map_nil]); first | done | rfl | (simp only [List.length_drop, List.length_take]; rfl)) ?_; (with_reducible refine (joustref03_size.calls a1 t147 _ A9.out).mono ?_); rintro e w' ⟨rfl, ⟨nd, rfl⟩⟩; refine ⟨_, rfl, ?_⟩))
        go_loopg [8, 9, 10] kj5 (fun kq v8 v9 v10 w' => ∃ (x8_2 : Int) (x9_2 : Int) (x10_2 : Int), v8 = .int .u64 x8_2 ∧ v9 = .int .u64 x9_2 ∧ v10 = .int .i64 x10_2 ∧ Aside0 (joustref03_Div.l0 kq x5_5 t146 t147 x8_2 x9_2 x10_2 = some r) ∧ Aside0 (kq ≤ kj5) ∧ Drawn0 w w')
        case atStart => exact ⟨(0), (0), (79), (by first | rfl | (simp; done) | (simp [*]; done)), (by first | rfl | (simp; done) | (simp [*]; done)), (by first | rfl | (simp; done) | (simp [*]; done)), H', ⟨Nat.le_refl _⟩, by repeat (first | exact Drawn0.refl _ | apply Drawn0.step)⟩
        case round =>
          clear H'
          try clear p2
          try clear c3
          try clear c3b0
          try clear c3b1
          try clear c4
          try clear c4b0
          try clear c4b1
          try clear c5
          try clear c6
          try clear c7
          try clear c7b0
          try clear c7b1
          try clear c7b2
          try clear p2
          obtain ⟨x8_2, x9_2, x10_2, rfl, rfl, rfl, HA, HK2, ⟨m2, rfl⟩⟩ := hrel
          cases gk with
          | zero => exact absurd HA.out (by simp [joustref03_Div.l0])
          | succ k2 =>
            have H := HA.out
            clear HA
            simp only [joustref03_Div.l0] at H
            by_cases c10 : x10_2 ≥ 0
            · rw [if_pos c10] at H
              have c10b0 : decide (0 ≤ x10_2) = true := decide_eq_true c10
              clear c10
              have HC11 := Aside0.mk H
              clear H
              go_upto_if 37 with (fail)
              go_cut [11] (fun v11 wc => ∃ (kq : Nat) (x11_10 : Int), v11 = .int .u64 x11_10 ∧ Aside0 (joustref03_Div.j2 kq x5_5 t146 t147 x8_2 x9_2 x10_2 x11_10 = some r) ∧ Aside0 (kq ≤ k2) ∧ Drawn0 w wc)
              case first =>
                have H := HC11.out
                clear HC11
                by_cases c12 : x10_2 ≥ 16
                · rw [if_pos c12] at H
                  have c12b0 : decide (16 ≤ x10_2) = true := decide_eq_true c12
                  clear c12
                  (first | rw [c12b0] | (simp only [i64_w, i32_w]; rw [c12b0]) | skip)
                  replace H := Option.bind_eq_some_iff.mp H
                  obtain ⟨t151, A130, H⟩ := H
                  replace H : (if t151 = 0 then (none) else (joustref03_Div.j2 k2 x5_5 t146 t147 x8_2 x9_2 x10_2 (Int.tmod (IntKind.u64.wrap (Int.tdiv t146 t151)) 2))) = some r := H
                  have A13 := Aside0.mk A130
                  clear A130
                  by_cases c14 : t151 = 0
                  · rw [if_pos c14] at H
                    exact absurd H (by simp)
                  · rw [if_neg c14] at H
                    have c14b0 : (t151 == 0) = false := beq_eq_false_iff_ne.mpr c14
                    have c14b1 : (t151 != 0) = true := bne_iff_ne.mpr c14
                    have H' := Aside0.mk H
                    clear H
                    go_wp2_with (first | ((with_reducible refine gate_callee (f := 74) rfl ?_); refine goesL_ (some 41) rfl rfl Tryd.func74 (by kernel_rfl) rfl #[.int .i64 (wrap64 (x10_2 - 16))] rfl (by (try simp only [List.map_toArray, List.map_cons, List.map_nil]); first | done | rfl | (simp only [List.length_drop, List.length_take]; rfl)) ?_; (with_reducible refine (joustref03_power.calls k2 (wrap64 (x10_2 - 16)) t151 _ A13.out).mono ?_); rintro e w' ⟨rfl, ⟨nd, rfl⟩⟩; refine ⟨_, rfl, ?_⟩))
                    go_meet
                    case rel => exact ⟨_, (Int.tmod (IntKind.u64.wrap (Int.tdiv t146 t151)) 2), (by first | rfl | (simp; done) | (simp [*]; done)), H', ⟨by have := HJ5.out; have := HK2.out; first | omega | exact Nat.le_refl _⟩, by repeat (first | exact Drawn0.refl _ | apply Drawn0.step)⟩
                · rw [if_neg c12] at H
                  have c12b0 : decide (16 ≤ x10_2) = false := decide_eq_false c12
                  clear c12
                  (first | rw [c12b0] | (simp only [i64_w, i32_w]; rw [c12b0]) | skip)
                  have H' := Aside0.mk H
                  clear H
                  go_wp2
                  go_meet
                  case rel => exact ⟨_, (0), (by first | rfl | (simp; done) | (simp [*]; done)), H', ⟨by have := HJ5.out; have := HK2.out; first | omega | exact Nat.le_refl _⟩, by repeat (first | exact Drawn0.refl _ | apply Drawn0.step)⟩
              case rest =>
                clear HC11
                try clear c1
                try clear p2
                try clear c3
                try clear c3b0
                try clear c3b1
                try clear c4
                try clear c4b0
                try clear c4b1
                try clear c5
                try clear c6
                try clear p6
                try clear c7
                try clear c7b0
                try clear c7b1
                try clear c7b2
                try clear c10
                try clear c10b0
                try clear c12
                try clear c12b0
                try clear c14
                try clear c14b0
                try clear c14b1
                try clear p2
                obtain ⟨kq, x11_10, rfl, HA, HJ10, ⟨mc10, rfl⟩⟩ := hcut
                cases kq with
                | zero => exact absurd HA.out (by simp [joustref03_Div.j2])
                | succ kj10 =>
                  have H := HA.out
                  clear HA
                  simp only [joustref03_Div.j2] at H
                  by_cases c15 : (IntKind.u64.wrap ((IntKind.u64.wrap (x9_2 * 2)) + x11_10)) ≥ t147
                  · rw [if_pos c15] at H
                    have c15b0 : decide (t147 ≤ (IntKind.u64.wrap ((IntKind.u64.wrap (x9_2 * 2)) + x11_10))) = true := decide_eq_true c15
                    clear c15
                    by_cases c16 : (IntKind.u64.wrap ((IntKind.u64.wrap (x8_2 * 2)) + 1)) > 4398046511104
                    · rw [if_pos c16] at H
                      have c16b0 : decide (4398046511104 < (IntKind.u64.wrap ((IntKind.u64.wrap (x8_2 * 2)) + 1))) = true := decide_eq_true c16
                      clear c16
                      have H' := Aside0.mk H
                      clear H
                      go_wp2
                      go_roundg kj10
                      case measure => have := HJ5.out; have := HK2.out; have := HJ10.out; omega
                      case rel => exact ⟨(4398046511104), (IntKind.u64.wrap ((IntKind.u64.wrap ((IntKind.u64.wrap (x9_2 * 2)) + x11_10)) - t147)), (wrap64 (x10_2 - 1)), (by first | rfl | (simp; done) | (simp [*]; done)), (by first | rfl | (simp; done) | (simp [*]; done)), (by first | rfl | (simp; done) | (simp [*]; done)), H', ⟨by have := HJ5.out; have := HK2.out; have := HJ10.out; omega⟩, by repeat (first | exact Drawn0.refl _ | apply Drawn0.step)⟩
                    · rw [if_neg c16] at H
                      have c16b0 : decide (4398046511104 < (IntKind.u64.wrap ((IntKind.u64.wrap (x8_2 * 2)) + 1))) = false := decide_eq_false c16
                      clear c16
                      have H' := Aside0.mk H
                      clear H
                      go_wp2
                      go_roundg kj10
                      case measure => have := HJ5.out; have := HK2.out; have := HJ10.out; omega
                      case rel => exact ⟨(IntKind.u64.wrap ((IntKind.u64.wrap (x8_2 * 2)) + 1)), (IntKind.u64.wrap ((IntKind.u64.wrap ((IntKind.u64.wrap (x9_2 * 2)) + x11_10)) - t147)), (wrap64 (x10_2 - 1)), (by first | rfl | (simp; done) | (simp [*]; done)), (by first | rfl | (simp; done) | (simp [*]; done)), (by first | rfl | (simp; done) | (simp [*]; done)), H', ⟨by have := HJ5.out; have := HK2.out; have := HJ10.out; omega⟩, by repeat (first | exact Drawn0.refl _ | apply Drawn0.step)⟩
                  · rw [if_neg c15] at H
                    have c15b0 : decide (t147 ≤ (IntKind.u64.wrap ((IntKind.u64.wrap (x9_2 * 2)) + x11_10))) = false := decide_eq_false c15
                    clear c15
                    by_cases c17 : (IntKind.u64.wrap (x8_2 * 2)) > 4398046511104
                    · rw [if_pos c17] at H
                      have c17b0 : decide (4398046511104 < (IntKind.u64.wrap (x8_2 * 2))) = true := decide_eq_true c17
                      clear c17
                      have H' := Aside0.mk H
                      clear H
                      go_wp2
                      go_roundg kj10
                      case measure => have := HJ5.out; have := HK2.out; have := HJ10.out; omega
                      case rel => exact ⟨(4398046511104), (IntKind.u64.wrap ((IntKind.u64.wrap (x9_2 * 2)) + x11_10)), (wrap64 (x10_2 - 1)), (by first | rfl | (simp; done) | (simp [*]; done)), (by first | rfl | (simp; done) | (simp [*]; done)), (by first | rfl | (simp; done) | (simp [*]; done)), H', ⟨by have := HJ5.out; have := HK2.out; have := HJ10.out; omega⟩, by repeat (first | exact Drawn0.refl _ | apply Drawn0.step)⟩
                    · rw [if_neg c17] at H
                      have c17b0 : decide (4398046511104 < (IntKind.u64.wrap (x8_2 * 2))) = false := decide_eq_false c17
                      clear c17
                      have H' := Aside0.mk H
                      clear H
                      go_wp2
                      go_roundg kj10
                      case measure => have := HJ5.out; have := HK2.out; have := HJ10.out; omega
                      case rel => exact ⟨(IntKind.u64.wrap (x8_2 * 2)), (IntKind.u64.wrap ((IntKind.u64.wrap (x9_2 * 2)) + x11_10)), (wrap64 (x10_2 - 1)), (by first | rfl | (simp; done) | (simp [*]; done)), (by first | rfl | (simp; done) | (simp [*]; done)), (by first | rfl | (simp; done) | (simp [*]; done)), H', ⟨by have := HJ5.out; have := HK2.out; have := HJ10.out; omega⟩, by repeat (first | exact Drawn0.refl _ | apply Drawn0.step)⟩
            · rw [if_neg c10] at H
              have c10b0 : decide (0 ≤ x10_2) = false := decide_eq_false c10
              clear c10
              by_cases c18 : x5_5 = true
              · subst c18
                have H1 : (if x9_2 > 0 then ((joustref03_bounded.f true (IntKind.u64.wrap (x8_2 + 1))).bind fun t148 => (some t148)) else ((joustref03_bounded.f true x8_2).bind fun t149 => (some t149))) = some r := by rw [if_pos rfl] at H; exact H
                clear H
                have H := H1
                clear H1
                by_cases c19 : x9_2 > 0
                · rw [if_pos c19] at H
                  have c19b0 : decide (0 < x9_2) = true := decide_eq_true c19
                  clear c19
                  replace H := Option.bind_eq_some_iff.mp H
                  obtain ⟨t148, A200, H⟩ := H
                  replace H : (some t148) = some r := H
                  have A20 := Aside0.mk A200
                  clear A200
                  obtain rfl := Option.some.inj H
                  go_wp2_with (first | ((with_reducible refine gate_callee (f := 70) rfl ?_); refine goesL_ (some 69) rfl rfl Tryd.func70 (by kernel_rfl) rfl #[.bool true, .int .u64 (IntKind.u64.wrap (x8_2 + 1))] rfl (by (try simp only [List.map_toArray, List.map_cons, List.map_nil]); first | done | rfl | (simp only [List.length_drop, List.length_take]; rfl)) ?_; (with_reducible refine (joustref03_bounded.calls true (IntKind.u64.wrap (x8_2 + 1)) t148 _ A20.out).mono ?_); rintro e w' ⟨rfl, ⟨nd, rfl⟩⟩; refine ⟨_, rfl, ?_⟩))
                  go_ret
                  exact ⟨by first | rfl | (simp; done) | (simp [*]; done), by repeat (first | exact Drawn0.refl _ | apply Drawn0.step)⟩
                · rw [if_neg c19] at H
                  have c19b0 : decide (0 < x9_2) = false := decide_eq_false c19
                  clear c19
                  replace H := Option.bind_eq_some_iff.mp H
                  obtain ⟨t149, A210, H⟩ := H
                  replace H : (some t149) = some r := H
                  have A21 := Aside0.mk A210
                  clear A210
                  obtain rfl := Option.some.inj H
                  go_wp2_with (first | ((with_reducible refine gate_callee (f := 70) rfl ?_); refine goesL_ (some 69) rfl rfl Tryd.func70 (by kernel_rfl) rfl #[.bool true, .int .u64 x8_2] rfl (by (try simp only [List.map_toArray, List.map_cons, List.map_nil]); first | done | rfl | (simp only [List.length_drop, List.length_take]; rfl)) ?_; (with_reducible refine (joustref03_bounded.calls true x8_2 t149 _ A21.out).mono ?_); rintro e w' ⟨rfl, ⟨nd, rfl⟩⟩; refine ⟨_, rfl, ?_⟩))
                  go_ret
                  exact ⟨by first | rfl | (simp; done) | (simp [*]; done), by repeat (first | exact Drawn0.refl _ | apply Drawn0.step)⟩
              · replace c18 := Bool.eq_false_iff.mpr c18
                subst c18
                have H1 : ((joustref03_bounded.f false x8_2).bind fun t150 => (some t150)) = some r := by rw [if_neg (show ¬ (false = true) by decide)] at H; exact H
                clear H
                have H := H1
                clear H1
                replace H := Option.bind_eq_some_iff.mp H
                obtain ⟨t150, A220, H⟩ := H
                replace H : (some t150) = some r := H
                have A22 := Aside0.mk A220
                clear A220
                obtain rfl := Option.some.inj H
                go_wp2_with (first | ((with_reducible refine gate_callee (f := 70) rfl ?_); refine goesL_ (some 69) rfl rfl Tryd.func70 (by kernel_rfl) rfl #[.bool false, .int .u64 x8_2] rfl (by (try simp only [List.map_toArray, List.map_cons, List.map_nil]); first | done | rfl | (simp only [List.length_drop, List.length_take]; rfl)) ?_; (with_reducible refine (joustref03_bounded.calls false x8_2 t150 _ A22.out).mono ?_); rintro e w' ⟨rfl, ⟨nd, rfl⟩⟩; refine ⟨_, rfl, ?_⟩))
                go_ret
                exact ⟨by first | rfl | (simp; done) | (simp [*]; done), by repeat (first | exact Drawn0.refl _ | apply Drawn0.step)⟩

/-! ### joustref03_Root: function 32 -/
def joustref03_Root.l0 : Nat → Int → Int → Int → Int → Option (Int)
  | 0, _, _, _, _ => none
  | k + 1, x3, x4, x5, x6 => if x6 > 0 then ((joustref03_product.f (IntKind.u64.wrap (x5 + x6)) (IntKind.u64.wrap (x5 + x6))).bind fun bt154 => (if bt154.1 < x3 then (joustref03_Root.l0 k x3 x4 (IntKind.u64.wrap (x5 + x6)) (IntKind.u64.wrap (Int.tdiv x6 2))) else (if bt154.1 = x3 then (if bt154.2 ≤ x4 then (joustref03_Root.l0 k x3 x4 (IntKind.u64.wrap (x5 + x6)) (IntKind.u64.wrap (Int.tdiv x6 2))) else (joustref03_Root.l0 k x3 x4 x5 (IntKind.u64.wrap (Int.tdiv x6 2)))) else (joustref03_Root.l0 k x3 x4 x5 (IntKind.u64.wrap (Int.tdiv x6 2)))))) else (some (wrap64 (x5)))
def joustref03_Root.f (k : Nat) (a0 : Int) : Option (Int) := if a0 < 0 then (some 0) else ((joustref03_product.f (IntKind.u64.wrap (a0)) 65536).bind fun bt152 => (joustref03_Root.l0 k bt152.1 bt152.2 0 1099511627776))
theorem joustref03_Root.mono_l : ∀ k, (∀ y0 y1 y2 y3, LeO (joustref03_Root.l0 k y0 y1 y2 y3) (joustref03_Root.l0 (k + 1) y0 y1 y2 y3))
  | 0 => fun _ _ _ _ r h => by simp [joustref03_Root.l0] at h
  | k + 1 => by
    have ih0 := joustref03_Root.mono_l k
    · intro y0 y1 y2 y3
      unfold joustref03_Root.l0
      repeat' first
      | (with_reducible exact ih0 _ _ _ _)
      | (with_reducible exact LeO.refl _)
      | (with_reducible exact LeO.none _)
      | (with_reducible refine LeO.ite ?_ ?_)
      | (with_reducible refine LeO.bind ?_ (fun _ => ?_))
      | exact ih0 _ _ _ _
      | exact LeO.none _
      | refine LeO.ite ?_ ?_
      | refine LeO.bind ?_ (fun _ => ?_)
theorem joustref03_Root.mono : ∀ a0 k, LeO (joustref03_Root.f k a0) (joustref03_Root.f (k + 1) a0) := by
  intro a0 k
  have ih0 := joustref03_Root.mono_l k
  unfold joustref03_Root.f
  repeat' first
      | (with_reducible exact ih0 _ _ _ _)
      | (with_reducible exact LeO.refl _)
      | (with_reducible exact LeO.none _)
      | (with_reducible refine LeO.ite ?_ ?_)
      | (with_reducible refine LeO.bind ?_ (fun _ => ?_))
      | exact ih0 _ _ _ _
      | exact LeO.none _
      | refine LeO.ite ?_ ?_
      | refine LeO.bind ?_ (fun _ => ?_)
set_option maxHeartbeats 8000000 in
set_option maxRecDepth 100000 in
theorem joustref03_Root.calls (k : Nat) (a0 : Int) (r : Int) (w : World) (h : joustref03_Root.f k a0 = some r) :
    Calls Tryd.prog 32 #[.int .i64 a0] w fun e w' => e = .returned (.int .i64 r) ∧ Drawn0 w w' := by
  have H : (if a0 < 0 then (some 0) else ((joustref03_product.f (IntKind.u64.wrap (a0)) 65536).bind fun bt152 => (joustref03_Root.l0 k bt152.1 bt152.2 0 1099511627776))) = some r := h
  clear h
  by_cases c2 : a0 < 0
  · rw [if_pos c2] at H
    have c2b0 : decide (a0 < 0) = true := decide_eq_true c2
    clear c2
    obtain rfl := Option.some.inj H
    go_enter Tryd.func32, Tryd.ntmps32
    go_wp2
    go_ret
    exact ⟨by first | rfl | (simp; done) | (simp [*]; done), by repeat (first | exact Drawn0.refl _ | apply Drawn0.step)⟩
  · rw [if_neg c2] at H
    have c2b0 : decide (a0 < 0) = false := decide_eq_false c2
    clear c2
    replace H := Option.bind_eq_some_iff.mp H
    obtain ⟨⟨t152, t153⟩, A30, H⟩ := H
    replace H : (joustref03_Root.l0 k t152 t153 0 1099511627776) = some r := H
    have A3 := Aside0.mk A30
    clear A30
    have H' := Aside0.mk H
    clear H
    go_enter Tryd.func32, Tryd.ntmps32
    go_wp2_with (first | ((with_reducible refine gate_callee (f := 67) rfl ?_); refine goesL_ (some 14) rfl rfl Tryd.func67 (by kernel_rfl) rfl #[.int .u64 (IntKind.u64.wrap (a0)), .int .u64 65536] rfl (by (try simp only [List.map_toArray, List.map_cons, List.map_nil]); first | done | rfl | (simp only [List.length_drop, List.length_take]; rfl)) ?_; (with_reducible refine (joustref03_product.calls (IntKind.u64.wrap (a0)) 65536 t152 t153 _ A3.out).mono ?_); rintro e w' ⟨rfl, ⟨nd, rfl⟩⟩; refine ⟨_, rfl, ?_⟩))
    go_loopg [5, 6] k (fun kq v5 v6 w' => ∃ (x5_1 : Int) (x6_1 : Int), v5 = .int .u64 x5_1 ∧ v6 = .int .u64 x6_1 ∧ Aside0 (joustref03_Root.l0 kq t152 t153 x5_1 x6_1 = some r) ∧ Aside0 (kq ≤ k) ∧ Drawn0 w w')
    case atStart => exact ⟨(0), (1099511627776), (by first | rfl | (simp; done) | (simp [*]; done)), (by first | rfl | (simp; done) | (simp [*]; done)), H', ⟨Nat.le_refl _⟩, by repeat (first | exact Drawn0.refl _ | apply Drawn0.step)⟩
    case round =>
      clear H'
      try clear c2
      try clear c2b0
      try clear p2
      try clear c3
      obtain ⟨x5_1, x6_1, rfl, rfl, HA, HK1, ⟨m1, rfl⟩⟩ := hrel
      cases gk with
      | zero => exact absurd HA.out (by simp [joustref03_Root.l0])
      | succ k1 =>
        have H := HA.out
        clear HA
        simp only [joustref03_Root.l0] at H
        by_cases c4 : x6_1 > 0
        · rw [if_pos c4] at H
          have c4b0 : decide (0 < x6_1) = true := decide_eq_true c4
          clear c4
          replace H := Option.bind_eq_some_iff.mp H
          obtain ⟨⟨t154, t155⟩, A50, H⟩ := H
          replace H : (if t154 < t152 then (joustref03_Root.l0 k1 t152 t153 (IntKind.u64.wrap (x5_1 + x6_1)) (IntKind.u64.wrap (Int.tdiv x6_1 2))) else (if t154 = t152 then (if t155 ≤ t153 then (joustref03_Root.l0 k1 t152 t153 (IntKind.u64.wrap (x5_1 + x6_1)) (IntKind.u64.wrap (Int.tdiv x6_1 2))) else (joustref03_Root.l0 k1 t152 t153 x5_1 (IntKind.u64.wrap (Int.tdiv x6_1 2)))) else (joustref03_Root.l0 k1 t152 t153 x5_1 (IntKind.u64.wrap (Int.tdiv x6_1 2))))) = some r := H
          have A5 := Aside0.mk A50
          clear A50
          by_cases c6 : t154 < t152
          · rw [if_pos c6] at H
            have c6b0 : decide (t154 < t152) = true := decide_eq_true c6
            clear c6
            have H' := Aside0.mk H
            clear H
            go_wp2_with (first | ((with_reducible refine gate_callee (f := 67) rfl ?_); refine goesL_ (some 28) rfl rfl Tryd.func67 (by kernel_rfl) rfl #[.int .u64 (IntKind.u64.wrap (x5_1 + x6_1)), .int .u64 (IntKind.u64.wrap (x5_1 + x6_1))] rfl (by (try simp only [List.map_toArray, List.map_cons, List.map_nil]); first | done | rfl | (simp only [List.length_drop, List.length_take]; rfl)) ?_; (with_reducible refine (joustref03_product.calls (IntKind.u64.wrap (x5_1 + x6_1)) (IntKind.u64.wrap (x5_1 + x6_1)) t154 t155 _ A5.out).mono ?_); rintro e w' ⟨rfl, ⟨nd, rfl⟩⟩; refine ⟨_, rfl, ?_⟩))
            go_roundg k1
            case measure => have := HK1.out; omega
            case rel => exact ⟨(IntKind.u64.wrap (x5_1 + x6_1)), (IntKind.u64.wrap (Int.tdiv x6_1 2)), (by first | rfl | (simp; done) | (simp [*]; done)), (by first | rfl | (simp; done) | (simp [*]; done)), H', ⟨by have := HK1.out; omega⟩, by repeat (first | exact Drawn0.refl _ | apply Drawn0.step)⟩
          · rw [if_neg c6] at H
            have c6b0 : decide (t154 < t152) = false := decide_eq_false c6
            clear c6
            by_cases c7 : t154 = t152
            · rw [if_pos c7] at H
              have c7b0 : (t154 == t152) = true := beq_iff_eq.mpr c7
              have c7b1 : (t154 != t152) = false := bne_eq_false_iff_eq.mpr c7
              clear c7
              by_cases c8 : t155 ≤ t153
              · rw [if_pos c8] at H
                have c8b0 : decide (t155 ≤ t153) = true := decide_eq_true c8
                clear c8
                have H' := Aside0.mk H
                clear H
                go_wp2_with (first | ((with_reducible refine gate_callee (f := 67) rfl ?_); refine goesL_ (some 28) rfl rfl Tryd.func67 (by kernel_rfl) rfl #[.int .u64 (IntKind.u64.wrap (x5_1 + x6_1)), .int .u64 (IntKind.u64.wrap (x5_1 + x6_1))] rfl (by (try simp only [List.map_toArray, List.map_cons, List.map_nil]); first | done | rfl | (simp only [List.length_drop, List.length_take]; rfl)) ?_; (with_reducible refine (joustref03_product.calls (IntKind.u64.wrap (x5_1 + x6_1)) (IntKind.u64.wrap (x5_1 + x6_1)) t154 t155 _ A5.out).mono ?_); rintro e w' ⟨rfl, ⟨nd, rfl⟩⟩; refine ⟨_, rfl, ?_⟩))
                go_roundg k1
                case measure => have := HK1.out; omega
                case rel => exact ⟨(IntKind.u64.wrap (x5_1 + x6_1)), (IntKind.u64.wrap (Int.tdiv x6_1 2)), (by first | rfl | (simp; done) | (simp [*]; done)), (by first | rfl | (simp; done) | (simp [*]; done)), H', ⟨by have := HK1.out; omega⟩, by repeat (first | exact Drawn0.refl _ | apply Drawn0.step)⟩
              · rw [if_neg c8] at H
                have c8b0 : decide (t155 ≤ t153) = false := decide_eq_false c8
                clear c8
                have H' := Aside0.mk H
                clear H
                go_wp2_with (first | ((with_reducible refine gate_callee (f := 67) rfl ?_); refine goesL_ (some 28) rfl rfl Tryd.func67 (by kernel_rfl) rfl #[.int .u64 (IntKind.u64.wrap (x5_1 + x6_1)), .int .u64 (IntKind.u64.wrap (x5_1 + x6_1))] rfl (by (try simp only [List.map_toArray, List.map_cons, List.map_nil]); first | done | rfl | (simp only [List.length_drop, List.length_take]; rfl)) ?_; (with_reducible refine (joustref03_product.calls (IntKind.u64.wrap (x5_1 + x6_1)) (IntKind.u64.wrap (x5_1 + x6_1)) t154 t155 _ A5.out).mono ?_); rintro e w' ⟨rfl, ⟨nd, rfl⟩⟩; refine ⟨_, rfl, ?_⟩))
                go_roundg k1
                case measure => have := HK1.out; omega
                case rel => exact ⟨(x5_1), (IntKind.u64.wrap (Int.tdiv x6_1 2)), (by first | rfl | (simp; done) | (simp [*]; done)), (by first | rfl | (simp; done) | (simp [*]; done)), H', ⟨by have := HK1.out; omega⟩, by repeat (first | exact Drawn0.refl _ | apply Drawn0.step)⟩
            · rw [if_neg c7] at H
              have c7b0 : (t154 == t152) = false := beq_eq_false_iff_ne.mpr c7
              have c7b1 : (t154 != t152) = true := bne_iff_ne.mpr c7
              have H' := Aside0.mk H
              clear H
              go_wp2_with (first | ((with_reducible refine gate_callee (f := 67) rfl ?_); refine goesL_ (some 28) rfl rfl Tryd.func67 (by kernel_rfl) rfl #[.int .u64 (IntKind.u64.wrap (x5_1 + x6_1)), .int .u64 (IntKind.u64.wrap (x5_1 + x6_1))] rfl (by (try simp only [List.map_toArray, List.map_cons, List.map_nil]); first | done | rfl | (simp only [List.length_drop, List.length_take]; rfl)) ?_; (with_reducible refine (joustref03_product.calls (IntKind.u64.wrap (x5_1 + x6_1)) (IntKind.u64.wrap (x5_1 + x6_1)) t154 t155 _ A5.out).mono ?_); rintro e w' ⟨rfl, ⟨nd, rfl⟩⟩; refine ⟨_, rfl, ?_⟩))
              go_roundg k1
              case measure => have := HK1.out; omega
              case rel => exact ⟨(x5_1), (IntKind.u64.wrap (Int.tdiv x6_1 2)), (by first | rfl | (simp; done) | (simp [*]; done)), (by first | rfl | (simp; done) | (simp [*]; done)), H', ⟨by have := HK1.out; omega⟩, by repeat (first | exact Drawn0.refl _ | apply Drawn0.step)⟩
        · rw [if_neg c4] at H
          have c4b0 : decide (0 < x6_1) = false := decide_eq_false c4
          clear c4
          obtain rfl := Option.some.inj H
          go_wp2
          go_ret
          exact ⟨by first | rfl | (simp; done) | (simp [*]; done), by repeat (first | exact Drawn0.refl _ | apply Drawn0.step)⟩

/-! ### joustref03_sines: function 75 -/
def joustref03_sines.f  : Option (List Int) := some (([0, 1608, 3216, 4821, 6424, 8022, 9616, 11204, 12785, 14359, 15924, 17479, 19024, 20557, 22078, 23586, 25080, 26558, 28020, 29466, 30893, 32303, 33692, 35062, 36410, 37736, 39040, 40320, 41576, 42806, 44011, 45190, 46341, 47464, 48559, 49624, 50660, 51665, 52639, 53581, 54491, 55368, 56212, 57022, 57798, 58538, 59244, 59914, 60547, 61145, 61705, 62228, 62714, 63162, 63572, 63944, 64277, 64571, 64827, 65043, 65220, 65358, 65457, 65516, 65536] : List Int))
set_option maxHeartbeats 8000000 in
set_option maxRecDepth 100000 in
theorem joustref03_sines.calls  (r : List Int) (w : World) (h : joustref03_sines.f  = some r) :
    Calls Tryd.prog 75 #[] w fun e w' => ∃ v0_ : Value, e = .returned (v0_) ∧ Kd.R (Kd.int .i64) 2 w' w.heap.size (fun _ => True) v0_ r ∧ Below w.heap.size w w' := by
  have HB := Aside0.mk (Below.refl w.heap.size w)
  have H : (some (([0, 1608, 3216, 4821, 6424, 8022, 9616, 11204, 12785, 14359, 15924, 17479, 19024, 20557, 22078, 23586, 25080, 26558, 28020, 29466, 30893, 32303, 33692, 35062, 36410, 37736, 39040, 40320, 41576, 42806, 44011, 45190, 46341, 47464, 48559, 49624, 50660, 51665, 52639, 53581, 54491, 55368, 56212, 57022, 57798, 58538, 59244, 59914, 60547, 61145, 61705, 62228, 62714, 63162, 63572, 63944, 64277, 64571, 64827, 65043, 65220, 65358, 65457, 65516, 65536] : List Int))) = some r := h
  clear h
  obtain ⟨y156, hy156⟩ : ∃ y_ : List Int, y_ = (([0, 1608, 3216, 4821, 6424, 8022, 9616, 11204, 12785, 14359, 15924, 17479, 19024, 20557, 22078, 23586, 25080, 26558, 28020, 29466, 30893, 32303, 33692, 35062, 36410, 37736, 39040, 40320, 41576, 42806, 44011, 45190, 46341, 47464, 48559, 49624, 50660, 51665, 52639, 53581, 54491, 55368, 56212, 57022, 57798, 58538, 59244, 59914, 60547, 61145, 61705, 62228, 62714, 63162, 63572, 63944, 64277, 64571, 64827, 65043, 65220, 65358, 65457, 65516, 65536] : List Int)) := ⟨_, rfl⟩
  replace H : (some y156) = some r := by first | (rw [hy156]; with_reducible exact H) | (have H2_ := (Option.bind_some _ _).symm.trans H; rw [hy156]; with_reducible exact H2_) | (have H2_ := (Option.bind_some _ _).symm.trans H; with_reducible exact H2_) | with_reducible exact H | (rw [hy156]; exact H) | exact H
  have Ny156 := Aside0.mk hy156
  clear hy156
  obtain rfl := Option.some.inj H
  go_enter Tryd.func75, Tryd.ntmps75
  go_wp2_with (first | ((with_reducible refine gate_dst (N := 1) rfl ?_); refine Kd.R_lit (Kd.int .i64) _ 2 ?hg (N := 1) ?hd (xs := ([0, 1608, 3216, 4821, 6424, 8022, 9616, 11204, 12785, 14359, 15924, 17479, 19024, 20557, 22078, 23586, 25080, 26558, 28020, 29466, 30893, 32303, 33692, 35062, 36410, 37736, 39040, 40320, 41576, 42806, 44011, 45190, 46341, 47464, 48559, 49624, 50660, 51665, 52639, 53581, 54491, 55368, 56212, 57022, 57798, 58538, 59244, 59914, 60547, 61145, 61705, 62228, 62714, 63162, 63572, 63944, 64277, 64571, 64827, 65043, 65220, 65358, 65457, 65516, 65536] : List Int)) (inner := [.int .i64 0, .int .i64 1608, .int .i64 3216, .int .i64 4821, .int .i64 6424, .int .i64 8022, .int .i64 9616, .int .i64 11204, .int .i64 12785, .int .i64 14359, .int .i64 15924, .int .i64 17479, .int .i64 19024, .int .i64 20557, .int .i64 22078, .int .i64 23586, .int .i64 25080, .int .i64 26558, .int .i64 28020, .int .i64 29466, .int .i64 30893, .int .i64 32303, .int .i64 33692, .int .i64 35062, .int .i64 36410, .int .i64 37736, .int .i64 39040, .int .i64 40320, .int .i64 41576, .int .i64 42806, .int .i64 44011, .int .i64 45190, .int .i64 46341, .int .i64 47464, .int .i64 48559, .int .i64 49624, .int .i64 50660, .int .i64 51665, .int .i64 52639, .int .i64 53581, .int .i64 54491, .int .i64 55368, .int .i64 56212, .int .i64 57022, .int .i64 57798, .int .i64 58538, .int .i64 59244, .int .i64 59914, .int .i64 60547, .int .i64 61145, .int .i64 61705, .int .i64 62228, .int .i64 62714, .int .i64 63162, .int .i64 63572, .int .i64 63944, .int .i64 64277, .int .i64 64571, .int .i64 64827, .int .i64 65043, .int .i64 65220, .int .i64 65358, .int .i64 65457, .int .i64 65516, .int .i64 65536]) (ok := fun _ => True) (okp := fun _ => True) ?hr ?hp (fun _ hk => hk) trivial (Below.refl _ _) (Nat.le_refl _) (by simp) ?_; (case hd => rfl); (case hg => rfl); (case hr => first | (go_simp; done) | (go_simp; rfl)); (case hp => exact (Reps.one (show Kd.M (Kd.int .i64) _ _ _ 0 [.int .i64 0] from rfl) (Reps.one (show Kd.M (Kd.int .i64) _ _ _ 1608 [.int .i64 1608] from rfl) (Reps.one (show Kd.M (Kd.int .i64) _ _ _ 3216 [.int .i64 3216] from rfl) (Reps.one (show Kd.M (Kd.int .i64) _ _ _ 4821 [.int .i64 4821] from rfl) (Reps.one (show Kd.M (Kd.int .i64) _ _ _ 6424 [.int .i64 6424] from rfl) (Reps.one (show Kd.M (Kd.int .i64) _ _ _ 8022 [.int .i64 8022] from rfl) (Reps.one (show Kd.M (Kd.int .i64) _ _ _ 9616 [.int .i64 9616] from rfl) (Reps.one (show Kd.M (Kd.int .i64) _ _ _ 11204 [.int .i64 11204] from rfl) (Reps.one (show Kd.M (Kd.int .i64) _ _ _ 12785 [.int .i64 12785] from rfl) (Reps.one (show Kd.M (Kd.int .i64) _ _ _ 14359 [.int .i64 14359] from rfl) (Reps.one (show Kd.M (Kd.int .i64) _ _ _ 15924 [.int .i64 15924] from rfl) (Reps.one (show Kd.M (Kd.int .i64) _ _ _ 17479 [.int .i64 17479] from rfl) (Reps.one (show Kd.M (Kd.int .i64) _ _ _ 19024 [.int .i64 19024] from rfl) (Reps.one (show Kd.M (Kd.int .i64) _ _ _ 20557 [.int .i64 20557] from rfl) (Reps.one (show Kd.M (Kd.int .i64) _ _ _ 22078 [.int .i64 22078] from rfl) (Reps.one (show Kd.M (Kd.int .i64) _ _ _ 23586 [.int .i64 23586] from rfl) (Reps.one (show Kd.M (Kd.int .i64) _ _ _ 25080 [.int .i64 25080] from rfl) (Reps.one (show Kd.M (Kd.int .i64) _ _ _ 26558 [.int .i64 26558] from rfl) (Reps.one (show Kd.M (Kd.int .i64) _ _ _ 28020 [.int .i64 28020] from rfl) (Reps.one (show Kd.M (Kd.int .i64) _ _ _ 29466 [.int .i64 29466] from rfl) (Reps.one (show Kd.M (Kd.int .i64) _ _ _ 30893 [.int .i64 30893] from rfl) (Reps.one (show Kd.M (Kd.int .i64) _ _ _ 32303 [.int .i64 32303] from rfl) (Reps.one (show Kd.M (Kd.int .i64) _ _ _ 33692 [.int .i64 33692] from rfl) (Reps.one (show Kd.M (Kd.int .i64) _ _ _ 35062 [.int .i64 35062] from rfl) (Reps.one (show Kd.M (Kd.int .i64) _ _ _ 36410 [.int .i64 36410] from rfl) (Reps.one (show Kd.M (Kd.int .i64) _ _ _ 37736 [.int .i64 37736] from rfl) (Reps.one (show Kd.M (Kd.int .i64) _ _ _ 39040 [.int .i64 39040] from rfl) (Reps.one (show Kd.M (Kd.int .i64) _ _ _ 40320 [.int .i64 40320] from rfl) (Reps.one (show Kd.M (Kd.int .i64) _ _ _ 41576 [.int .i64 41576] from rfl) (Reps.one (show Kd.M (Kd.int .i64) _ _ _ 42806 [.int .i64 42806] from rfl) (Reps.one (show Kd.M (Kd.int .i64) _ _ _ 44011 [.int .i64 44011] from rfl) (Reps.one (show Kd.M (Kd.int .i64) _ _ _ 45190 [.int .i64 45190] from rfl) (Reps.one (show Kd.M (Kd.int .i64) _ _ _ 46341 [.int .i64 46341] from rfl) (Reps.one (show Kd.M (Kd.int .i64) _ _ _ 47464 [.int .i64 47464] from rfl) (Reps.one (show Kd.M (Kd.int .i64) _ _ _ 48559 [.int .i64 48559] from rfl) (Reps.one (show Kd.M (Kd.int .i64) _ _ _ 49624 [.int .i64 49624] from rfl) (Reps.one (show Kd.M (Kd.int .i64) _ _ _ 50660 [.int .i64 50660] from rfl) (Reps.one (show Kd.M (Kd.int .i64) _ _ _ 51665 [.int .i64 51665] from rfl) (Reps.one (show Kd.M (Kd.int .i64) _ _ _ 52639 [.int .i64 52639] from rfl) (Reps.one (show Kd.M (Kd.int .i64) _ _ _ 53581 [.int .i64 53581] from rfl) (Reps.one (show Kd.M (Kd.int .i64) _ _ _ 54491 [.int .i64 54491] from rfl) (Reps.one (show Kd.M (Kd.int .i64) _ _ _ 55368 [.int .i64 55368] from rfl) (Reps.one (show Kd.M (Kd.int .i64) _ _ _ 56212 [.int .i64 56212] from rfl) (Reps.one (show Kd.M (Kd.int .i64) _ _ _ 57022 [.int .i64 57022] from rfl) (Reps.one (show Kd.M (Kd.int .i64) _ _ _ 57798 [.int .i64 57798] from rfl) (Reps.one (show Kd.M (Kd.int .i64) _ _ _ 58538 [.int .i64 58538] from rfl) (Reps.one (show Kd.M (Kd.int .i64) _ _ _ 59244 [.int .i64 59244] from rfl) (Reps.one (show Kd.M (Kd.int .i64) _ _ _ 59914 [.int .i64 59914] from rfl) (Reps.one (show Kd.M (Kd.int .i64) _ _ _ 60547 [.int .i64 60547] from rfl) (Reps.one (show Kd.M (Kd.int .i64) _ _ _ 61145 [.int .i64 61145] from rfl) (Reps.one (show Kd.M (Kd.int .i64) _ _ _ 61705 [.int .i64 61705] from rfl) (Reps.one (show Kd.M (Kd.int .i64) _ _ _ 62228 [.int .i64 62228] from rfl) (Reps.one (show Kd.M (Kd.int .i64) _ _ _ 62714 [.int .i64 62714] from rfl) (Reps.one (show Kd.M (Kd.int .i64) _ _ _ 63162 [.int .i64 63162] from rfl) (Reps.one (show Kd.M (Kd.int .i64) _ _ _ 63572 [.int .i64 63572] from rfl) (Reps.one (show Kd.M (Kd.int .i64) _ _ _ 63944 [.int .i64 63944] from rfl) (Reps.one (show Kd.M (Kd.int .i64) _ _ _ 64277 [.int .i64 64277] from rfl) (Reps.one (show Kd.M (Kd.int .i64) _ _ _ 64571 [.int .i64 64571] from rfl) (Reps.one (show Kd.M (Kd.int .i64) _ _ _ 64827 [.int .i64 64827] from rfl) (Reps.one (show Kd.M (Kd.int .i64) _ _ _ 65043 [.int .i64 65043] from rfl) (Reps.one (show Kd.M (Kd.int .i64) _ _ _ 65220 [.int .i64 65220] from rfl) (Reps.one (show Kd.M (Kd.int .i64) _ _ _ 65358 [.int .i64 65358] from rfl) (Reps.one (show Kd.M (Kd.int .i64) _ _ _ 65457 [.int .i64 65457] from rfl) (Reps.one (show Kd.M (Kd.int .i64) _ _ _ 65516 [.int .i64 65516] from rfl) (Reps.one (show Kd.M (Kd.int .i64) _ _ _ 65536 [.int .i64 65536] from rfl) (Reps.none _ _))))))))))))))))))))))))))))))))))))))))))))))))))))))))))))))))))); intro v157 w1 ho2 hb hg_ hnew_; clear hg_ hnew_; (first | rw [← Ny156.out] at ho2 | (simp only [Int.reduceToNat] at ho2; rw [← Ny156.out] at ho2)); have n0_ := Aside0.mk (Kd.R_lower ho2 (below_size (by repeat (first | (with_reducible first | exact HB.out | apply below_alloc | apply pw_below_drewN | apply below_drew1) | exact HB.out)))); have n1_ := Aside0.mk (below_step (by repeat (first | (with_reducible first | exact HB.out | apply below_alloc | apply pw_below_drewN | apply below_drew1) | exact HB.out)) hb); clear HB; have HO158 := n0_; have HB := n1_; clear n0_ n1_; clear hb ho2))
  go_ret
  exact ⟨_, by first | rfl | (simp [errW_none, errW_some] <;> rfl) | (simp [*, errW_none, errW_some] <;> rfl), by (with_reducible repeat (first | apply Kd.R_alloc | apply Kd.R_drewN | apply Kd.R_drew)); exact HO158.out, by repeat (first | (with_reducible first | exact HB.out | apply below_alloc | apply pw_below_drewN | apply below_drew1) | exact HB.out)⟩

/-! ### joustref03_Sin: function 42 -/
mutual
def joustref03_Sin.j0 : Nat → Int → Option (Int)
  | 0, _ => none
  | k + 1, x0 => if x0 ≥ 128 then ((joustref03_Sin.f k (wrap64 (x0 - 128))).bind fun t159 => (some (wrap64 (-t159)))) else (if x0 > 64 then ((joustref03_sines.f).bind fun t160 => (if 0 ≤ (wrap64 (128 - x0)) then (if (wrap64 (128 - x0)) < (t160.length : Int) then (some (rd t160 (wrap64 (128 - x0)))) else (none)) else (none))) else ((joustref03_sines.f).bind fun t164 => (if 0 ≤ x0 then (if x0 < (t164.length : Int) then (some (rd t164 x0)) else (none)) else (none))))
def joustref03_Sin.f : Nat → Int → Option (Int)
  | 0, _ => none
  | k + 1, a0 => if (Int.tmod a0 256) < 0 then (joustref03_Sin.j0 k (wrap64 ((Int.tmod a0 256) + 256))) else (joustref03_Sin.j0 k (Int.tmod a0 256))
end
theorem joustref03_Sin.mono_l : ∀ k, (∀ y0, LeO (joustref03_Sin.f k y0) (joustref03_Sin.f (k + 1) y0)) ∧ (∀ y0, LeO (joustref03_Sin.j0 k y0) (joustref03_Sin.j0 (k + 1) y0))
  | 0 => ⟨fun _ r h => by simp [joustref03_Sin.f] at h, fun _ r h => by simp [joustref03_Sin.j0] at h⟩
  | k + 1 => by
    obtain ⟨ih0, ih1⟩ := joustref03_Sin.mono_l k
    refine ⟨?_, ?_⟩
    · intro y0
      unfold joustref03_Sin.f
      repeat' first
      | (with_reducible exact ih0 _)
      | (with_reducible exact ih1 _)
      | (with_reducible exact LeO.refl _)
      | (with_reducible exact LeO.none _)
      | (with_reducible refine LeO.ite ?_ ?_)
      | (with_reducible refine LeO.bind ?_ (fun _ => ?_))
      | exact ih0 _
      | exact ih1 _
      | exact LeO.none _
      | refine LeO.ite ?_ ?_
      | refine LeO.bind ?_ (fun _ => ?_)
    · intro y0
      unfold joustref03_Sin.j0
      repeat' first
      | (with_reducible exact ih0 _)
      | (with_reducible exact ih1 _)
      | (with_reducible exact LeO.refl _)
      | (with_reducible exact LeO.none _)
      | (with_reducible refine LeO.ite ?_ ?_)
      | (with_reducible refine LeO.bind ?_ (fun _ => ?_))
      | exact ih0 _
      | exact ih1 _
      | exact LeO.none _
      | refine LeO.ite ?_ ?_
      | refine LeO.bind ?_ (fun _ => ?_)
theorem joustref03_Sin.mono : ∀ a0 k, LeO (joustref03_Sin.f k a0) (joustref03_Sin.f (k + 1) a0) := by
  intro a0 k
  obtain ⟨ih0, ih1⟩ := joustref03_Sin.mono_l k
  exact ih0 a0
set_option maxHeartbeats 8000000 in
set_option maxRecDepth 100000 in
theorem joustref03_Sin.calls (k : Nat) : ∀ (a0 : Int) (r : Int) (w : World) (h : joustref03_Sin.f k a0 = some r),
    Calls Tryd.prog 42 #[.int .i64 a0] w fun e w' => e = .returned (.int .i64 r) ∧ Below w.heap.size w w' := by
  induction k using Nat.strongRecOn with
  | _ k ih =>
  intro a0 r w h
  cases k with
  | zero => exact absurd h (by simp [joustref03_Sin.f])
  | succ k =>
  simp only [joustref03_Sin.f] at h
  have HB := Aside0.mk (Below.refl w.heap.size w)
  have H : (if (Int.tmod a0 256) < 0 then (joustref03_Sin.j0 k (wrap64 ((Int.tmod a0 256) + 256))) else (joustref03_Sin.j0 k (Int.tmod a0 256))) = some r := h
  clear h
  have HC2 := Aside0.mk H
  clear H
  go_enter Tryd.func42, Tryd.ntmps42
  go_upto_if 6 with (fail)
  go_cut [0] (fun v0 wc => ∃ (kq : Nat) (x0_1 : Int), v0 = .int .i64 x0_1 ∧ Aside0 (joustref03_Sin.j0 kq x0_1 = some r) ∧ Aside0 (kq ≤ k) ∧ Aside0 (Below w.heap.size w wc))
  case first =>
    have H := HC2.out
    clear HC2
    by_cases c3 : (Int.tmod a0 256) < 0
    · rw [if_pos c3] at H
      have c3b0 : decide ((Int.tmod a0 256) < 0) = true := decide_eq_true c3
      clear c3
      (first | rw [c3b0] | (simp only [i64_w, i32_w]; rw [c3b0]) | skip)
      have H' := Aside0.mk H
      clear H
      go_wp2
      go_meet
      case rel => exact ⟨_, (wrap64 ((Int.tmod a0 256) + 256)), (by first | rfl | (simp; done) | (simp [*]; done)), H', ⟨by first | omega | exact Nat.le_refl _⟩, ⟨by repeat (first | (with_reducible first | exact HB.out | apply below_alloc | apply pw_below_drewN | apply below_drew1) | exact HB.out)⟩⟩
    · rw [if_neg c3] at H
      have c3b0 : decide ((Int.tmod a0 256) < 0) = false := decide_eq_false c3
      clear c3
      (first | rw [c3b0] | (simp only [i64_w, i32_w]; rw [c3b0]) | skip)
      have H' := Aside0.mk H
      clear H
      go_wp2
      go_meet
      case rel => exact ⟨_, (Int.tmod a0 256), (by first | rfl | (simp; done) | (simp [*]; done)), H', ⟨by first | omega | exact Nat.le_refl _⟩, ⟨by repeat (first | (with_reducible first | exact HB.out | apply below_alloc | apply pw_below_drewN | apply below_drew1) | exact HB.out)⟩⟩
  case rest =>
    clear HC2
    try clear p2
    try clear c3
    try clear c3b0
    obtain ⟨kq, x0_1, rfl, HA, HJ1, HB⟩ := hcut
    cases kq with
    | zero => exact absurd HA.out (by simp [joustref03_Sin.j0])
    | succ kj1 =>
      have H := HA.out
      clear HA
      simp only [joustref03_Sin.j0] at H
      by_cases c4 : x0_1 ≥ 128
      · rw [if_pos c4] at H
        have c4b0 : decide (128 ≤ x0_1) = true := decide_eq_true c4
        clear c4
        replace H := Option.bind_eq_some_iff.mp H
        obtain ⟨t159, A50, H⟩ := H
        replace H : (some (wrap64 (-t159))) = some r := H
        have A5 := Aside0.mk A50
        clear A50
        obtain rfl := Option.some.inj H
        go_wp2_with (first | ((with_reducible refine gate_callee (f := 42) rfl ?_); refine goesL_ (some 13) rfl rfl Tryd.func42 (by kernel_rfl) rfl #[.int .i64 (wrap64 (x0_1 - 128))] rfl (by (try simp only [List.map_toArray, List.map_cons, List.map_nil]); first | done | rfl | (simp only [List.length_drop, List.length_take]; rfl)) ?_; (with_reducible refine (ih kj1 (by have := HJ1.out; omega) (wrap64 (x0_1 - 128)) t159 _ A5.out).mono ?_); rintro e w6 ⟨rfl, hb⟩; refine ⟨_, rfl, ?_⟩; have n0_ := Aside0.mk (below_step (by repeat (first | (with_reducible first | exact HB.out | apply below_alloc | apply pw_below_drewN | apply below_drew1) | exact HB.out)) hb); clear HB; have HB := n0_; clear n0_; (try clear hb); (try clear hb2); (try clear hk); (try clear hi)))
        go_ret
        exact ⟨by first | rfl | (simp [errW_none, errW_some] <;> rfl) | (simp [*, errW_none, errW_some] <;> rfl), by repeat (first | (with_reducible first | exact HB.out | apply below_alloc | apply pw_below_drewN | apply below_drew1) | exact HB.out)⟩
      · rw [if_neg c4] at H
        have c4b0 : decide (128 ≤ x0_1) = false := decide_eq_false c4
        clear c4
        by_cases c7 : x0_1 > 64
        · rw [if_pos c7] at H
          have c7b0 : decide (64 < x0_1) = true := decide_eq_true c7
          clear c7
          replace H := Option.bind_eq_some_iff.mp H
          obtain ⟨t160, A80, H⟩ := H
          replace H : (if 0 ≤ (wrap64 (128 - x0_1)) then (if (wrap64 (128 - x0_1)) < (t160.length : Int) then (some (rd t160 (wrap64 (128 - x0_1)))) else (none)) else (none)) = some r := H
          have A8 := Aside0.mk A80
          clear A80
          obtain ⟨ji9, hji9⟩ : ∃ j_ : Int, (wrap64 (128 - x0_1)) = j_ := ⟨_, rfl⟩
          replace H : (if 0 ≤ (ji9) then (if (ji9) < (t160.length : Int) then (some (rd t160 (ji9))) else (none)) else (none)) = some r := by first | (rw [hji9] at H; exact H) | (simp only [hji9] at H ⊢; exact H)
          (try rw [hji9] at A8)
          have hji9w : (IntKind.i64.wrap (128 - x0_1)) = ji9 := (i64_w _).trans hji9
          by_cases c10 : 0 ≤ (ji9)
          · rw [if_pos c10] at H
            have c10b0 : decide (0 ≤ (ji9)) = true := decide_eq_true c10
            clear c10
            by_cases c11 : (ji9) < (t160.length : Int)
            · rw [if_pos c11] at H
              have c11b0 : decide ((ji9) < (t160.length : Int)) = true := decide_eq_true c11
              clear c11
              obtain rfl := Option.some.inj H
              go_wp2_with (first | ((with_reducible refine gate_callee (f := 75) rfl ?_); refine goesL_ (some 19) rfl rfl Tryd.func75 (by kernel_rfl) rfl #[] rfl (by (try simp only [List.map_toArray, List.map_cons, List.map_nil]); first | done | rfl | (simp only [List.length_drop, List.length_take]; rfl)) ?_; (with_reducible refine (joustref03_sines.calls  t160 _ A8.out).mono ?_); rintro e w12 ⟨v161, rfl, ho0, hb⟩; refine ⟨_, rfl, ?_⟩; have n0_ := Aside0.mk (Kd.R_lower ho0 (below_size (by repeat (first | (with_reducible first | exact HB.out | apply below_alloc | apply pw_below_drewN | apply below_drew1) | exact HB.out)))); have n1_ := Aside0.mk (below_step (by repeat (first | (with_reducible first | exact HB.out | apply below_alloc | apply pw_below_drewN | apply below_drew1) | exact HB.out)) hb); clear HB; have HO162 := n0_; have HB := n1_; clear n0_ n1_; (try clear hb); (try clear hb2); (try clear hk); (try clear hi); (try clear ho0); obtain ⟨Ao13, co13, eo13⟩ := Kd.R_slice HO162.out; subst eo13; have p163 : 0 ≤ ((ji9) : Int) := of_decide_eq_true (by first | (with_reducible assumption) | assumption); have q163 : (ji9) < (t160.length : Int) := of_decide_eq_true (by first | (with_reducible assumption) | assumption); obtain ⟨ad163, e163, hx163_0⟩ := Kd.at_int (Kd.R_reads' HO162.out).2.2 (ji9) p163 q163; cases e163; replace p163 := eq_true p163; replace q163 := eq_true q163))
              go_ret
              exact ⟨by first | rfl | (simp [errW_none, errW_some] <;> rfl) | (simp only [← hji9]; first | rfl | (simp [errW_none, errW_some] <;> rfl)) | (simp [*, errW_none, errW_some] <;> rfl), by repeat (first | (with_reducible first | exact HB.out | apply below_alloc | apply pw_below_drewN | apply below_drew1) | exact HB.out)⟩
            · rw [if_neg c11] at H
              exact absurd H (by simp)
          · rw [if_neg c10] at H
            exact absurd H (by simp)
        · rw [if_neg c7] at H
          have c7b0 : decide (64 < x0_1) = false := decide_eq_false c7
          clear c7
          replace H := Option.bind_eq_some_iff.mp H
          obtain ⟨t164, A140, H⟩ := H
          replace H : (if 0 ≤ x0_1 then (if x0_1 < (t164.length : Int) then (some (rd t164 x0_1)) else (none)) else (none)) = some r := H
          have A14 := Aside0.mk A140
          clear A140
          by_cases c15 : 0 ≤ x0_1
          · rw [if_pos c15] at H
            have c15b0 : decide (0 ≤ x0_1) = true := decide_eq_true c15
            clear c15
            by_cases c16 : x0_1 < (t164.length : Int)
            · rw [if_pos c16] at H
              have c16b0 : decide (x0_1 < (t164.length : Int)) = true := decide_eq_true c16
              clear c16
              obtain rfl := Option.some.inj H
              go_wp2_with (first | ((with_reducible refine gate_callee (f := 75) rfl ?_); refine goesL_ (some 19) rfl rfl Tryd.func75 (by kernel_rfl) rfl #[] rfl (by (try simp only [List.map_toArray, List.map_cons, List.map_nil]); first | done | rfl | (simp only [List.length_drop, List.length_take]; rfl)) ?_; (with_reducible refine (joustref03_sines.calls  t164 _ A14.out).mono ?_); rintro e w17 ⟨v165, rfl, ho0, hb⟩; refine ⟨_, rfl, ?_⟩; have n0_ := Aside0.mk (Kd.R_lower ho0 (below_size (by repeat (first | (with_reducible first | exact HB.out | apply below_alloc | apply pw_below_drewN | apply below_drew1) | exact HB.out)))); have n1_ := Aside0.mk (below_step (by repeat (first | (with_reducible first | exact HB.out | apply below_alloc | apply pw_below_drewN | apply below_drew1) | exact HB.out)) hb); clear HB; have HO166 := n0_; have HB := n1_; clear n0_ n1_; (try clear hb); (try clear hb2); (try clear hk); (try clear hi); (try clear ho0); obtain ⟨Ao18, co18, eo18⟩ := Kd.R_slice HO166.out; subst eo18; have p167 : 0 ≤ (x0_1 : Int) := of_decide_eq_true (by first | (with_reducible assumption) | assumption); have q167 : x0_1 < (t164.length : Int) := of_decide_eq_true (by first | (with_reducible assumption) | assumption); obtain ⟨ad167, e167, hx167_0⟩ := Kd.at_int (Kd.R_reads' HO166.out).2.2 x0_1 p167 q167; cases e167; replace p167 := eq_true p167; replace q167 := eq_true q167))
              go_ret
              exact ⟨by first | rfl | (simp [errW_none, errW_some] <;> rfl) | (simp [*, errW_none, errW_some] <;> rfl), by repeat (first | (with_reducible first | exact HB.out | apply below_alloc | apply pw_below_drewN | apply below_drew1) | exact HB.out)⟩
            · rw [if_neg c16] at H
              exact absurd H (by simp)
          · rw [if_neg c15] at H
            exact absurd H (by simp)

/-! ### joustref03_Cos: function 44 -/
def joustref03_Cos.f (k : Nat) (a0 : Int) : Option (Int) := (joustref03_Sin.f k (wrap64 ((Int.tmod a0 256) + 64))).bind fun t168 => (some t168)
theorem joustref03_Cos.mono : ∀ a0 k, LeO (joustref03_Cos.f k a0) (joustref03_Cos.f (k + 1) a0) := by
  intro a0 k
  unfold joustref03_Cos.f
  repeat' first
      | (with_reducible exact joustref03_Sin.mono _ _)
      | (with_reducible exact LeO.refl _)
      | (with_reducible exact LeO.none _)
      | (with_reducible refine LeO.ite ?_ ?_)
      | (with_reducible refine LeO.bind ?_ (fun _ => ?_))
      | exact joustref03_Sin.mono _ _
      | exact LeO.none _
      | refine LeO.ite ?_ ?_
      | refine LeO.bind ?_ (fun _ => ?_)
set_option maxHeartbeats 8000000 in
set_option maxRecDepth 100000 in
theorem joustref03_Cos.calls (k : Nat) (a0 : Int) (r : Int) (w : World) (h : joustref03_Cos.f k a0 = some r) :
    Calls Tryd.prog 44 #[.int .i64 a0] w fun e w' => e = .returned (.int .i64 r) ∧ Below w.heap.size w w' := by
  have HB := Aside0.mk (Below.refl w.heap.size w)
  have H : ((joustref03_Sin.f k (wrap64 ((Int.tmod a0 256) + 64))).bind fun t168 => (some t168)) = some r := h
  clear h
  replace H := Option.bind_eq_some_iff.mp H
  obtain ⟨t168, A20, H⟩ := H
  replace H : (some t168) = some r := H
  have A2 := Aside0.mk A20
  clear A20
  obtain rfl := Option.some.inj H
  go_enter Tryd.func44, Tryd.ntmps44
  go_wp2_with (first | ((with_reducible refine gate_callee (f := 42) rfl ?_); refine goesL_ (some 6) rfl rfl Tryd.func42 (by kernel_rfl) rfl #[.int .i64 (wrap64 ((Int.tmod a0 256) + 64))] rfl (by (try simp only [List.map_toArray, List.map_cons, List.map_nil]); first | done | rfl | (simp only [List.length_drop, List.length_take]; rfl)) ?_; (with_reducible refine (joustref03_Sin.calls k (wrap64 ((Int.tmod a0 256) + 64)) t168 _ A2.out).mono ?_); rintro e w3 ⟨rfl, hb⟩; refine ⟨_, rfl, ?_⟩; have n0_ := Aside0.mk (below_step (by repeat (first | (with_reducible first | exact HB.out | apply below_alloc | apply pw_below_drewN | apply below_drew1) | exact HB.out)) hb); clear HB; have HB := n0_; clear n0_; (try clear hb); (try clear hb2); (try clear hk); (try clear hi)))
  go_ret
  exact ⟨by first | rfl | (simp [errW_none, errW_some] <;> rfl) | (simp [*, errW_none, errW_some] <;> rfl), by repeat (first | (with_reducible first | exact HB.out | apply below_alloc | apply pw_below_drewN | apply below_drew1) | exact HB.out)⟩

/-! ### joustlaw03_within: function 50 -/
def joustlaw03_within.f (a0 : Int) : Option (Bool) := if a0 ≥ (-1099511627776) then (some (decide (a0 ≤ 1099511627776))) else (some false)
set_option maxHeartbeats 8000000 in
set_option maxRecDepth 100000 in
theorem joustlaw03_within.calls (a0 : Int) (r : Bool) (w : World) (h : joustlaw03_within.f a0 = some r) :
    Calls Tryd.prog 50 #[.int .i64 a0] w fun e w' => e = .returned (.bool r) ∧ Drawn0 w w' := by
  have H : (if a0 ≥ (-1099511627776) then (some (decide (a0 ≤ 1099511627776))) else (some false)) = some r := h
  clear h
  by_cases c2 : a0 ≥ (-1099511627776)
  · rw [if_pos c2] at H
    have c2b0 : decide ((-1099511627776) ≤ a0) = true := decide_eq_true c2
    clear c2
    obtain rfl := Option.some.inj H
    go_enter Tryd.func50, Tryd.ntmps50
    go_wp2
    go_ret
    exact ⟨by first | rfl | (simp; done) | (simp [*]; done), by repeat (first | exact Drawn0.refl _ | apply Drawn0.step)⟩
  · rw [if_neg c2] at H
    have c2b0 : decide ((-1099511627776) ≤ a0) = false := decide_eq_false c2
    clear c2
    obtain rfl := Option.some.inj H
    go_enter Tryd.func50, Tryd.ntmps50
    go_wp2
    go_ret
    exact ⟨by first | rfl | (simp; done) | (simp [*]; done), by repeat (first | exact Drawn0.refl _ | apply Drawn0.step)⟩

/-- THE ONE PURE STATEMENT of joustlaw03_within: yours. -/
def joustlaw03_within.Pure : Prop := ∀ (a0 : Int), (Lit.int .i64 a0).wf = true → joustlaw03_within.f a0 = some true
end Go.Proofs.YtnknbikkgohlmaaDoor.VFixB
