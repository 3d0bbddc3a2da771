/- FixB and what it calls: printed by wip/gen/vprint.py (functions joust/fix.Sin are given) -/
import Derived.Test.YtnknbikkgohlmaaDoorVFixBx0
namespace Go.Proofs.YtnknbikkgohlmaaDoor.VFixB
open Go.RowKit Go.Proofs.YtnknbikkgohlmaaDoorW.PrintWords Go.Proofs.YtnknbikkgohlmaaDoorW.PrintLast Go.Proofs.YtnknbikkgohlmaaDoorW.PrintMore
attribute [local go_sem] max2_int min2_int max_two min_two max_three min_three max_four min_four   -- for this text's walks alone
set_option linter.unusedVariables false
set_option linter.unusedSimpArgs false

/-! ### fix_Cos: function 43 -/
def fix_Cos.f (k : Nat) (a0 : Int) : Option (Int) := (fix_Sin.f k (wrap64 ((Go.bits .and .i64 a0 255) + 64))).bind fun t128 => (some t128)
theorem fix_Cos.mono : ∀ a0 k, LeO (fix_Cos.f k a0) (fix_Cos.f (k + 1) a0) := by
  intro a0 k
  unfold fix_Cos.f
  repeat' first
      | (with_reducible exact fix_Sin.mono _ _)
      | (with_reducible exact LeO.refl _)
      | (with_reducible exact LeO.none _)
      | (with_reducible refine LeO.ite ?_ ?_)
      | (with_reducible refine LeO.bind ?_ (fun _ => ?_))
      | exact fix_Sin.mono _ _
      | exact LeO.none _
      | refine LeO.ite ?_ ?_
      | refine LeO.bind ?_ (fun _ => ?_)
set_option maxHeartbeats 8000000 in
set_option maxRecDepth 100000 in
theorem fix_Cos.calls (k : Nat) (a0 : Int) (r : Int) (w : World) (h : fix_Cos.f k a0 = some r) (hG : Sines w) :
    Calls Tryd.prog 43 #[.int .i64 a0] w fun e w' => e = .returned (.int .i64 r) ∧ Drawn0 w w' := by
  have HG := Aside0.mk hG
  clear hG
  have H : ((fix_Sin.f k (wrap64 ((Go.bits .and .i64 a0 255) + 64))).bind fun t128 => (some t128)) = some r := h
  clear h
  replace H := Option.bind_eq_some_iff.mp H
  obtain ⟨t128, A20, H⟩ := H
  replace H : (some t128) = some r := H
  have A2 := Aside0.mk A20
  clear A20
  obtain rfl := Option.some.inj H
  go_enter Tryd.func43, Tryd.ntmps43
  go_wp2_with (first | ((with_reducible refine gate_callee (f := 41) rfl ?_); refine goesL_ (some 6) rfl rfl Tryd.func41 (by kernel_rfl) rfl #[.int .i64 (wrap64 ((Go.bits .and .i64 a0 255) + 64))] rfl (by (try simp only [List.map_toArray, List.map_cons, List.map_nil]); first | done | rfl | (simp only [List.length_drop, List.length_take]; rfl)) ?_; (with_reducible refine (fix_Sin.calls k (wrap64 ((Go.bits .and .i64 a0 255) + 64)) t128 _ A2.out (by first | ((repeat (first | exact HG.out | apply Sines.drewN | apply Sines.drew)); done) | exact Sines.below HG.out (by repeat (first | (with_reducible first | exact HB.out | apply below_alloc | apply pw_below_drewN | apply below_drew1) | exact HB.out)))).mono ?_); rintro e w' ⟨rfl, ⟨nd, rfl⟩⟩; refine ⟨_, rfl, ?_⟩))
  go_ret
  exact ⟨by first | rfl | (simp; done) | (simp [*]; done), by repeat (first | exact Drawn0.refl _ | apply Drawn0.step)⟩

/-! ### joustref03_Clamp: function 40 -/
def joustref03_Clamp.f (a0 : Int) (a1 : Int) (a2 : Int) : Option (Int) := if a0 < a1 then (if a1 > a2 then (some a2) else (some a1)) else (if a0 > a2 then (some a2) else (some a0))
set_option maxHeartbeats 8000000 in
set_option maxRecDepth 100000 in
theorem joustref03_Clamp.calls (a0 : Int) (a1 : Int) (a2 : Int) (r : Int) (w : World) (h : joustref03_Clamp.f a0 a1 a2 = some r) :
    Calls Tryd.prog 40 #[.int .i64 a0, .int .i64 a1, .int .i64 a2] w fun e w' => e = .returned (.int .i64 r) ∧ Drawn0 w w' := by
  have H : (if a0 < a1 then (if a1 > a2 then (some a2) else (some a1)) else (if a0 > a2 then (some a2) else (some a0))) = some r := h
  clear h
  by_cases c4 : a0 < a1
  · rw [if_pos c4] at H
    have c4b0 : decide (a0 < a1) = true := decide_eq_true c4
    clear c4
    by_cases c5 : a1 > a2
    · rw [if_pos c5] at H
      have c5b0 : decide (a2 < a1) = true := decide_eq_true c5
      clear c5
      obtain rfl := Option.some.inj H
      go_enter Tryd.func40, Tryd.ntmps40
      go_wp2
      go_ret
      exact ⟨by first | rfl | (simp; done) | (simp [*]; done), by repeat (first | exact Drawn0.refl _ | apply Drawn0.step)⟩
    · rw [if_neg c5] at H
      have c5b0 : decide (a2 < a1) = false := decide_eq_false c5
      clear c5
      obtain rfl := Option.some.inj H
      go_enter Tryd.func40, Tryd.ntmps40
      go_wp2
      go_ret
      exact ⟨by first | rfl | (simp; done) | (simp [*]; done), by repeat (first | exact Drawn0.refl _ | apply Drawn0.step)⟩
  · rw [if_neg c4] at H
    have c4b0 : decide (a0 < a1) = false := decide_eq_false c4
    clear c4
    by_cases c6 : a0 > a2
    · rw [if_pos c6] at H
      have c6b0 : decide (a2 < a0) = true := decide_eq_true c6
      clear c6
      obtain rfl := Option.some.inj H
      go_enter Tryd.func40, Tryd.ntmps40
      go_wp2
      go_ret
      exact ⟨by first | rfl | (simp; done) | (simp [*]; done), by repeat (first | exact Drawn0.refl _ | apply Drawn0.step)⟩
    · rw [if_neg c6] at H
      have c6b0 : decide (a2 < a0) = false := decide_eq_false c6
      clear c6
      obtain rfl := Option.some.inj H
      go_enter Tryd.func40, Tryd.ntmps40
      go_wp2
      go_ret
      exact ⟨by first | rfl | (simp; done) | (simp [*]; done), by repeat (first | exact Drawn0.refl _ | apply Drawn0.step)⟩

/-! ### joustref03_size: function 69 -/
def joustref03_size.f (a0 : Int) : Option (Int) := if a0 < 0 then (some (IntKind.u64.wrap ((IntKind.u64.wrap (wrap64 (-(wrap64 (a0 + 1))))) + 1))) else (some (IntKind.u64.wrap (a0)))
set_option maxHeartbeats 8000000 in
set_option maxRecDepth 100000 in
theorem joustref03_size.calls (a0 : Int) (r : Int) (w : World) (h : joustref03_size.f a0 = some r) :
    Calls Tryd.prog 69 #[.int .i64 a0] w fun e w' => e = .returned (.int .u64 r) ∧ Drawn0 w w' := by
  have H : (if a0 < 0 then (some (IntKind.u64.wrap ((IntKind.u64.wrap (wrap64 (-(wrap64 (a0 + 1))))) + 1))) else (some (IntKind.u64.wrap (a0)))) = some r := h
  clear h
  by_cases c2 : a0 < 0
  · rw [if_pos c2] at H
    have c2b0 : decide (a0 < 0) = true := decide_eq_true c2
    clear c2
    obtain rfl := Option.some.inj H
    go_enter Tryd.func69, Tryd.ntmps69
    go_wp2
    go_ret
    exact ⟨by first | rfl | (simp; done) | (simp [*]; done), by repeat (first | exact Drawn0.refl _ | apply Drawn0.step)⟩
  · rw [if_neg c2] at H
    have c2b0 : decide (a0 < 0) = false := decide_eq_false c2
    clear c2
    obtain rfl := Option.some.inj H
    go_enter Tryd.func69, Tryd.ntmps69
    go_wp2
    go_ret
    exact ⟨by first | rfl | (simp; done) | (simp [*]; done), by repeat (first | exact Drawn0.refl _ | apply Drawn0.step)⟩

/-! ### joustref03_bounded: function 70 -/
def joustref03_bounded.f (a0 : Bool) (a1 : Int) : Option (Int) := if a1 > 1099511627776 then (if a0 = true then (some (-1099511627776)) else (some 1099511627776)) else (if a0 = true then (some (wrap64 (-(wrap64 (a1))))) else (some (wrap64 (a1))))
set_option maxHeartbeats 8000000 in
set_option maxRecDepth 100000 in
theorem joustref03_bounded.calls (a0 : Bool) (a1 : Int) (r : Int) (w : World) (h : joustref03_bounded.f a0 a1 = some r) :
    Calls Tryd.prog 70 #[.bool a0, .int .u64 a1] w fun e w' => e = .returned (.int .i64 r) ∧ Drawn0 w w' := by
  have H : (if a1 > 1099511627776 then (if a0 = true then (some (-1099511627776)) else (some 1099511627776)) else (if a0 = true then (some (wrap64 (-(wrap64 (a1))))) else (some (wrap64 (a1))))) = some r := h
  clear h
  by_cases c3 : a1 > 1099511627776
  · rw [if_pos c3] at H
    have c3b0 : decide (1099511627776 < a1) = true := decide_eq_true c3
    clear c3
    by_cases c4 : a0 = true
    · subst c4
      have H1 : (some (-1099511627776)) = some r := by rw [if_pos rfl] at H; exact H
      clear H
      have H := H1
      clear H1
      obtain rfl := Option.some.inj H
      go_enter Tryd.func70, Tryd.ntmps70
      go_wp2
      go_ret
      exact ⟨by first | rfl | (simp; done) | (simp [*]; done), by repeat (first | exact Drawn0.refl _ | apply Drawn0.step)⟩
    · replace c4 := Bool.eq_false_iff.mpr c4
      subst c4
      have H1 : (some 1099511627776) = some r := by rw [if_neg (show ¬ (false = true) by decide)] at H; exact H
      clear H
      have H := H1
      clear H1
      obtain rfl := Option.some.inj H
      go_enter Tryd.func70, Tryd.ntmps70
      go_wp2
      go_ret
      exact ⟨by first | rfl | (simp; done) | (simp [*]; done), by repeat (first | exact Drawn0.refl _ | apply Drawn0.step)⟩
  · rw [if_neg c3] at H
    have c3b0 : decide (1099511627776 < a1) = false := decide_eq_false c3
    clear c3
    by_cases c5 : a0 = true
    · subst c5
      have H1 : (some (wrap64 (-(wrap64 (a1))))) = some r := by rw [if_pos rfl] at H; exact H
      clear H
      have H := H1
      clear H1
      obtain rfl := Option.some.inj H
      go_enter Tryd.func70, Tryd.ntmps70
      go_wp2
      go_ret
      exact ⟨by first | rfl | (simp; done) | (simp [*]; done), by repeat (first | exact Drawn0.refl _ | apply Drawn0.step)⟩
    · replace c5 := Bool.eq_false_iff.mpr c5
      subst c5
      have H1 : (some (wrap64 (a1))) = some r := by rw [if_neg (show ¬ (false = true) by decide)] at H; exact H
      clear H
      have H := H1
      clear H1
      obtain rfl := Option.some.inj H
      go_enter Tryd.func70, Tryd.ntmps70
      go_wp2
      go_ret
      exact ⟨by first | rfl | (simp; done) | (simp [*]; done), by repeat (first | exact Drawn0.refl _ | apply Drawn0.step)⟩

/-! ### joustref03_Add: function 34 -/
def joustref03_Add.j0 : Nat → Int → Int → Int → Bool → Option (Int)
  | 0, _, _, _, _ => none
  | k + 1, x0, x5, x6, x25 => if x25 = true then ((joustref03_bounded.f (decide (x0 < 0)) 1099511627776).bind fun t132 => (some t132)) else ((joustref03_bounded.f (decide (x0 < 0)) (IntKind.u64.wrap (x5 + x6))).bind fun t133 => (some t133))
def joustref03_Add.f (k : Nat) (a0 : Int) (a1 : Int) : Option (Int) := if ((decide (a0 < 0)) != (decide (a1 < 0))) = true then ((joustref03_Clamp.f (wrap64 (a0 + a1)) (-1099511627776) 1099511627776).bind fun t129 => (some t129)) else ((joustref03_size.f a0).bind fun t130 => ((joustref03_size.f a1).bind fun t131 => (if t130 > 1099511627776 then (joustref03_Add.j0 k a0 t130 t131 true) else (joustref03_Add.j0 k a0 t130 t131 (decide (t131 > 1099511627776))))))
theorem joustref03_Add.mono_l : ∀ k, (∀ y0 y1 y2 y3, LeO (joustref03_Add.j0 k y0 y1 y2 y3) (joustref03_Add.j0 (k + 1) y0 y1 y2 y3))
  | 0 => fun _ _ _ _ r h => by simp [joustref03_Add.j0] at h
  | k + 1 => by
    have ih0 := joustref03_Add.mono_l k
    · intro y0 y1 y2 y3
      unfold joustref03_Add.j0
      repeat' first
      | (with_reducible exact ih0 _ _ _ _)
      | (with_reducible exact LeO.refl _)
      | (with_reducible exact LeO.none _)
      | (with_reducible refine LeO.ite ?_ ?_)
      | (with_reducible refine LeO.bind ?_ (fun _ => ?_))
      | exact ih0 _ _ _ _
      | exact LeO.none _
      | refine LeO.ite ?_ ?_
      | refine LeO.bind ?_ (fun _ => ?_)
theorem joustref03_Add.mono : ∀ a0 a1 k, LeO (joustref03_Add.f k a0 a1) (joustref03_Add.f (k + 1) a0 a1) := by
  intro a0 a1 k
  have ih0 := joustref03_Add.mono_l k
  unfold joustref03_Add.f
  repeat' first
      | (with_reducible exact ih0 _ _ _ _)
      | (with_reducible exact LeO.refl _)
      | (with_reducible exact LeO.none _)
      | (with_reducible refine LeO.ite ?_ ?_)
      | (with_reducible refine LeO.bind ?_ (fun _ => ?_))
      | exact ih0 _ _ _ _
      | exact LeO.none _
      | refine LeO.ite ?_ ?_
      | refine LeO.bind ?_ (fun _ => ?_)
set_option maxHeartbeats 8000000 in
set_option maxRecDepth 100000 in
theorem joustref03_Add.calls (k : Nat) (a0 : Int) (a1 : Int) (r : Int) (w : World) (h : joustref03_Add.f k a0 a1 = some r) :
    Calls Tryd.prog 34 #[.int .i64 a0, .int .i64 a1] w fun e w' => e = .returned (.int .i64 r) ∧ Drawn0 w w' := by
  have H : (if ((decide (a0 < 0)) != (decide (a1 < 0))) = true then ((joustref03_Clamp.f (wrap64 (a0 + a1)) (-1099511627776) 1099511627776).bind fun t129 => (some t129)) else ((joustref03_size.f a0).bind fun t130 => ((joustref03_size.f a1).bind fun t131 => (if t130 > 1099511627776 then (joustref03_Add.j0 k a0 t130 t131 true) else (joustref03_Add.j0 k a0 t130 t131 (decide (t131 > 1099511627776))))))) = some r := h
  clear h
  by_cases c3 : ((decide (a0 < 0)) != (decide (a1 < 0))) = true
  · rw [if_pos c3] at H
    have c3b0 : ((decide (a0 < 0)) != (decide (a1 < 0))) = true := c3
    (try simp only [c3b0] at H)
    (try (have c3b1 : decide ((decide (a0 < 0)) = (decide (a1 < 0))) = false := by simpa using c3))
    (try (have c3b2 : ((decide (a0 < 0)) == (decide (a1 < 0))) = false := by simpa using c3))
    (try (have c3b3 : ¬ ((decide (a0 < 0)) = (decide (a1 < 0))) := by simpa using c3))
    clear c3
    replace H := Option.bind_eq_some_iff.mp H
    obtain ⟨t129, A40, H⟩ := H
    replace H : (some t129) = some r := H
    have A4 := Aside0.mk A40
    clear A40
    obtain rfl := Option.some.inj H
    go_enter Tryd.func34, Tryd.ntmps34
    go_wp2_with (first | ((with_reducible refine gate_callee (f := 40) rfl ?_); refine goesL_ (some 15) rfl rfl Tryd.func40 (by kernel_rfl) rfl #[.int .i64 (wrap64 (a0 + a1)), .int .i64 (-1099511627776), .int .i64 1099511627776] rfl (by (try simp only [List.map_toArray, List.map_cons, List.map_nil]); first | done | rfl | (simp only [List.length_drop, List.length_take]; rfl)) ?_; (with_reducible refine (joustref03_Clamp.calls (wrap64 (a0 + a1)) (-1099511627776) 1099511627776 t129 _ A4.out).mono ?_); rintro e w' ⟨rfl, ⟨nd, rfl⟩⟩; refine ⟨_, rfl, ?_⟩))
    go_ret
    exact ⟨by first | rfl | (simp; done) | (simp [*]; done), by repeat (first | exact Drawn0.refl _ | apply Drawn0.step)⟩
  · rw [if_neg c3] at H
    have c3b0 : ((decide (a0 < 0)) != (decide (a1 < 0))) = false := by simpa using c3
    (try simp only [c3b0] at H)
    (try (have c3b1 : decide ((decide (a0 < 0)) = (decide (a1 < 0))) = true := by simpa using c3))
    (try (have c3b2 : ((decide (a0 < 0)) == (decide (a1 < 0))) = true := by simpa using c3))
    clear c3
    replace H := Option.bind_eq_some_iff.mp H
    obtain ⟨t130, A50, H⟩ := H
    replace H : ((joustref03_size.f a1).bind fun t131 => (if t130 > 1099511627776 then (joustref03_Add.j0 k a0 t130 t131 true) else (joustref03_Add.j0 k a0 t130 t131 (decide (t131 > 1099511627776))))) = some r := H
    have A5 := Aside0.mk A50
    clear A50
    replace H := Option.bind_eq_some_iff.mp H
    obtain ⟨t131, A60, H⟩ := H
    replace H : (if t130 > 1099511627776 then (joustref03_Add.j0 k a0 t130 t131 true) else (joustref03_Add.j0 k a0 t130 t131 (decide (t131 > 1099511627776)))) = some r := H
    have A6 := Aside0.mk A60
    clear A60
    have HC7 := Aside0.mk H
    clear H
    go_enter Tryd.func34, Tryd.ntmps34
    go_upto_region 5 with (first | ((with_reducible refine gate_callee (f := 69) rfl ?_); refine goesL_ (some 17) rfl rfl Tryd.func69 (by kernel_rfl) rfl #[.int .i64 a0] rfl (by (try simp only [List.map_toArray, List.map_cons, List.map_nil]); first | done | rfl | (simp only [List.length_drop, List.length_take]; rfl)) ?_; (with_reducible refine (joustref03_size.calls a0 t130 _ A5.out).mono ?_); rintro e w' ⟨rfl, ⟨nd, rfl⟩⟩; refine ⟨_, rfl, ?_⟩) | ((with_reducible refine gate_callee (f := 69) rfl ?_); refine goesL_ (some 19) rfl rfl Tryd.func69 (by kernel_rfl) rfl #[.int .i64 a1] rfl (by (try simp only [List.map_toArray, List.map_cons, List.map_nil]); first | done | rfl | (simp only [List.length_drop, List.length_take]; rfl)) ?_; (with_reducible refine (joustref03_size.calls a1 t131 _ A6.out).mono ?_); rintro e w' ⟨rfl, ⟨nd, rfl⟩⟩; refine ⟨_, rfl, ?_⟩))
    (try simp only [Act.put, List.setIfInBounds_toArray, List.set_cons_zero, List.set_cons_succ])
    go_cut [25] (fun v25 wc => ∃ (kq : Nat) (x25_6 : Bool), v25 = .bool x25_6 ∧ Aside0 (joustref03_Add.j0 kq a0 t130 t131 x25_6 = some r) ∧ Aside0 (kq ≤ k) ∧ Drawn0 w wc)
    case first =>
      have H := HC7.out
      clear HC7
      by_cases c8 : t130 > 1099511627776
      · rw [if_pos c8] at H
        have c8b0 : decide (1099511627776 < t130) = true := decide_eq_true c8
        clear c8
        (first | rw [c8b0] | (simp only [i64_w, i32_w]; rw [c8b0]) | skip)
        have H' := Aside0.mk H
        clear H
        go_wp2
        go_meet
        case rel => exact ⟨_, (true), (by first | rfl | (simp; done) | (simp [*]; done)), H', ⟨by first | omega | exact Nat.le_refl _⟩, by repeat (first | exact Drawn0.refl _ | apply Drawn0.step)⟩
      · rw [if_neg c8] at H
        have c8b0 : decide (1099511627776 < t130) = false := decide_eq_false c8
        clear c8
        (first | rw [c8b0] | (simp only [i64_w, i32_w]; rw [c8b0]) | skip)
        have H' := Aside0.mk H
        clear H
        go_wp2
        go_meet
        case rel => exact ⟨_, (decide (t131 > 1099511627776)), (by first | rfl | (simp; done) | (simp [*]; done)), H', ⟨by first | omega | exact Nat.le_refl _⟩, by repeat (first | exact Drawn0.refl _ | apply Drawn0.step)⟩
    case rest =>
      clear HC7
      try clear p2
      try clear c3
      try clear c3b0
      try clear c3b1
      try clear c3b2
      try clear c4
      try clear c6
      try clear p6
      try clear c8
      try clear c8b0
      obtain ⟨kq, x25_6, rfl, HA, HJ6, ⟨mc6, rfl⟩⟩ := hcut
      cases kq with
      | zero => exact absurd HA.out (by simp [joustref03_Add.j0])
      | succ kj6 =>
        have H := HA.out
        clear HA
        simp only [joustref03_Add.j0] at H
        by_cases c9 : x25_6 = true
        · subst c9
          have H1 : ((joustref03_bounded.f (decide (a0 < 0)) 1099511627776).bind fun t132 => (some t132)) = some r := by rw [if_pos rfl] at H; exact H
          clear H
          have H := H1
          clear H1
          replace H := Option.bind_eq_some_iff.mp H
          obtain ⟨t132, A100, H⟩ := H
          replace H : (some t132) = some r := H
          have A10 := Aside0.mk A100
          clear A100
          obtain rfl := Option.some.inj H
          go_wp2_with (first | ((with_reducible refine gate_callee (f := 70) rfl ?_); refine goesL_ (some 28) rfl rfl Tryd.func70 (by kernel_rfl) rfl #[.bool (decide (a0 < 0)), .int .u64 1099511627776] rfl (by (try simp only [List.map_toArray, List.map_cons, List.map_nil]); first | done | rfl | (simp only [List.length_drop, List.length_take]; rfl)) ?_; (with_reducible refine (joustref03_bounded.calls (decide (a0 < 0)) 1099511627776 t132 _ A10.out).mono ?_); rintro e w' ⟨rfl, ⟨nd, rfl⟩⟩; refine ⟨_, rfl, ?_⟩))
          go_ret
          exact ⟨by first | rfl | (simp; done) | (simp [*]; done), by repeat (first | exact Drawn0.refl _ | apply Drawn0.step)⟩
        · replace c9 := Bool.eq_false_iff.mpr c9
          subst c9
          have H1 : ((joustref03_bounded.f (decide (a0 < 0)) (IntKind.u64.wrap (t130 + t131))).bind fun t133 => (some t133)) = some r := by rw [if_neg (show ¬ (false = true) by decide)] at H; exact H
          clear H
          have H := H1
          clear H1
          replace H := Option.bind_eq_some_iff.mp H
          obtain ⟨t133, A110, H⟩ := H
          replace H : (some t133) = some r := H
          have A11 := Aside0.mk A110
          clear A110
          obtain rfl := Option.some.inj H
          go_wp2_with (first | ((with_reducible refine gate_callee (f := 70) rfl ?_); refine goesL_ (some 34) rfl rfl Tryd.func70 (by kernel_rfl) rfl #[.bool (decide (a0 < 0)), .int .u64 (IntKind.u64.wrap (t130 + t131))] rfl (by (try simp only [List.map_toArray, List.map_cons, List.map_nil]); first | done | rfl | (simp only [List.length_drop, List.length_take]; rfl)) ?_; (with_reducible refine (joustref03_bounded.calls (decide (a0 < 0)) (IntKind.u64.wrap (t130 + t131)) t133 _ A11.out).mono ?_); rintro e w' ⟨rfl, ⟨nd, rfl⟩⟩; refine ⟨_, rfl, ?_⟩))
          go_ret
          exact ⟨by first | rfl | (simp; done) | (simp [*]; done), by repeat (first | exact Drawn0.refl _ | apply Drawn0.step)⟩

/-! ### joustref03_product: function 67 -/
def joustref03_product.f (a0 : Int) (a1 : Int) : Option (Int × Int) := some (IntKind.u64.wrap ((IntKind.u64.wrap ((IntKind.u64.wrap ((IntKind.u64.wrap (Int.tdiv a0 4294967296)) * (IntKind.u64.wrap (Int.tdiv a1 4294967296)))) + (IntKind.u64.wrap (Int.tdiv (IntKind.u64.wrap ((IntKind.u64.wrap ((IntKind.u64.wrap (Int.tdiv a0 4294967296)) * (Int.tmod a1 4294967296))) + (IntKind.u64.wrap (Int.tdiv (IntKind.u64.wrap ((Int.tmod a0 4294967296) * (Int.tmod a1 4294967296))) 4294967296)))) 4294967296)))) + (IntKind.u64.wrap (Int.tdiv (IntKind.u64.wrap ((IntKind.u64.wrap ((Int.tmod a0 4294967296) * (IntKind.u64.wrap (Int.tdiv a1 4294967296)))) + (Int.tmod (IntKind.u64.wrap ((IntKind.u64.wrap ((IntKind.u64.wrap (Int.tdiv a0 4294967296)) * (Int.tmod a1 4294967296))) + (IntKind.u64.wrap (Int.tdiv (IntKind.u64.wrap ((Int.tmod a0 4294967296) * (Int.tmod a1 4294967296))) 4294967296)))) 4294967296))) 4294967296))), IntKind.u64.wrap ((IntKind.u64.wrap ((IntKind.u64.wrap ((IntKind.u64.wrap ((Int.tmod a0 4294967296) * (IntKind.u64.wrap (Int.tdiv a1 4294967296)))) + (Int.tmod (IntKind.u64.wrap ((IntKind.u64.wrap ((IntKind.u64.wrap (Int.tdiv a0 4294967296)) * (Int.tmod a1 4294967296))) + (IntKind.u64.wrap (Int.tdiv (IntKind.u64.wrap ((Int.tmod a0 4294967296) * (Int.tmod a1 4294967296))) 4294967296)))) 4294967296))) * 4294967296)) + (Int.tmod (IntKind.u64.wrap ((Int.tmod a0 4294967296) * (Int.tmod a1 4294967296))) 4294967296)))
set_option maxHeartbeats 8000000 in
set_option maxRecDepth 100000 in
theorem joustref03_product.calls (a0 : Int) (a1 : Int) (r1 : Int) (r2 : Int) (w : World) (h : joustref03_product.f a0 a1 = some (r1, r2)) :
    Calls Tryd.prog 67 #[.int .u64 a0, .int .u64 a1] w fun e w' => e = .returned (.tuple #[.int .u64 r1, .int .u64 r2]) ∧ Drawn0 w w' := by
  have H : (some (IntKind.u64.wrap ((IntKind.u64.wrap ((IntKind.u64.wrap ((IntKind.u64.wrap (Int.tdiv a0 4294967296)) * (IntKind.u64.wrap (Int.tdiv a1 4294967296)))) + (IntKind.u64.wrap (Int.tdiv (IntKind.u64.wrap ((IntKind.u64.wrap ((IntKind.u64.wrap (Int.tdiv a0 4294967296)) * (Int.tmod a1 4294967296))) + (IntKind.u64.wrap (Int.tdiv (IntKind.u64.wrap ((Int.tmod a0 4294967296) * (Int.tmod a1 4294967296))) 4294967296)))) 4294967296)))) + (IntKind.u64.wrap (Int.tdiv (IntKind.u64.wrap ((IntKind.u64.wrap ((Int.tmod a0 4294967296) * (IntKind.u64.wrap (Int.tdiv a1 4294967296)))) + (Int.tmod (IntKind.u64.wrap ((IntKind.u64.wrap ((IntKind.u64.wrap (Int.tdiv a0 4294967296)) * (Int.tmod a1 4294967296))) + (IntKind.u64.wrap (Int.tdiv (IntKind.u64.wrap ((Int.tmod a0 4294967296) * (Int.tmod a1 4294967296))) 4294967296)))) 4294967296))) 4294967296))), IntKind.u64.wrap ((IntKind.u64.wrap ((IntKind.u64.wrap ((IntKind.u64.wrap ((Int.tmod a0 4294967296) * (IntKind.u64.wrap (Int.tdiv a1 4294967296)))) + (Int.tmod (IntKind.u64.wrap ((IntKind.u64.wrap ((IntKind.u64.wrap (Int.tdiv a0 4294967296)) * (Int.tmod a1 4294967296))) + (IntKind.u64.wrap (Int.tdiv (IntKind.u64.wrap ((Int.tmod a0 4294967296) * (Int.tmod a1 4294967296))) 4294967296)))) 4294967296))) * 4294967296)) + (Int.tmod (IntKind.u64.wrap ((Int.tmod a0 4294967296) * (Int.tmod a1 4294967296))) 4294967296)))) = some (r1, r2) := h
  clear h
  simp only [Option.some.injEq, Prod.mk.injEq] at H
  obtain ⟨rfl, rfl⟩ := H
  go_enter Tryd.func67, Tryd.ntmps67
  go_wp2
  go_ret2
  exact ⟨by first | rfl | (simp; done) | (simp [*]; done), by repeat (first | exact Drawn0.refl _ | apply Drawn0.step)⟩

/-! ### joustref03_Mul: function 36 -/
def joustref03_Mul.f (a0 : Int) (a1 : Int) : Option (Int) := (joustref03_size.f a0).bind fun t134 => ((joustref03_size.f a1).bind fun t135 => ((joustref03_product.f t134 t135).bind fun bt136 => (if bt136.1 ≥ 65536 then ((joustref03_bounded.f ((decide (a0 < 0)) != (decide (a1 < 0))) 1099511627777).bind fun t138 => (some t138)) else (if (IntKind.u64.wrap ((IntKind.u64.wrap (bt136.1 * 281474976710656)) + (IntKind.u64.wrap (Int.tdiv bt136.2 65536)))) > 1099511627776 then (if ((decide (a0 < 0)) != (decide (a1 < 0))) = true then (if (Int.tmod bt136.2 65536) = 0 then ((joustref03_bounded.f ((decide (a0 < 0)) != (decide (a1 < 0))) 1099511627776).bind fun t139 => (some t139)) else ((joustref03_bounded.f ((decide (a0 < 0)) != (decide (a1 < 0))) (1099511627776 + 1)).bind fun t140 => (some t140))) else ((joustref03_bounded.f ((decide (a0 < 0)) != (decide (a1 < 0))) 1099511627776).bind fun t141 => (some t141))) else (if ((decide (a0 < 0)) != (decide (a1 < 0))) = true then (if (Int.tmod bt136.2 65536) = 0 then ((joustref03_bounded.f ((decide (a0 < 0)) != (decide (a1 < 0))) (IntKind.u64.wrap ((IntKind.u64.wrap (bt136.1 * 281474976710656)) + (IntKind.u64.wrap (Int.tdiv bt136.2 65536))))).bind fun t142 => (some t142)) else ((joustref03_bounded.f ((decide (a0 < 0)) != (decide (a1 < 0))) (IntKind.u64.wrap ((IntKind.u64.wrap ((IntKind.u64.wrap (bt136.1 * 281474976710656)) + (IntKind.u64.wrap (Int.tdiv bt136.2 65536)))) + 1))).bind fun t143 => (some t143))) else ((joustref03_bounded.f ((decide (a0 < 0)) != (decide (a1 < 0))) (IntKind.u64.wrap ((IntKind.u64.wrap (bt136.1 * 281474976710656)) + (IntKind.u64.wrap (Int.tdiv bt136.2 65536))))).bind fun t144 => (some t144)))))))
set_option maxHeartbeats 8000000 in
set_option maxRecDepth 100000 in
theorem joustref03_Mul.calls (a0 : Int) (a1 : Int) (r : Int) (w : World) (h : joustref03_Mul.f a0 a1 = some r) :
    Calls Tryd.prog 36 #[.int .i64 a0, .int .i64 a1] w fun e w' => e = .returned (.int .i64 r) ∧ Drawn0 w w' := by
  have H : ((joustref03_size.f a0).bind fun t134 => ((joustref03_size.f a1).bind fun t135 => ((joustref03_product.f t134 t135).bind fun bt136 => (if bt136.1 ≥ 65536 then ((joustref03_bounded.f ((decide (a0 < 0)) != (decide (a1 < 0))) 1099511627777).bind fun t138 => (some t138)) else (if (IntKind.u64.wrap ((IntKind.u64.wrap (bt136.1 * 281474976710656)) + (IntKind.u64.wrap (Int.tdiv bt136.2 65536)))) > 1099511627776 then (if ((decide (a0 < 0)) != (decide (a1 < 0))) = true then (if (Int.tmod bt136.2 65536) = 0 then ((joustref03_bounded.f ((decide (a0 < 0)) != (decide (a1 < 0))) 1099511627776).bind fun t139 => (some t139)) else ((joustref03_bounded.f ((decide (a0 < 0)) != (decide (a1 < 0))) (1099511627776 + 1)).bind fun t140 => (some t140))) else ((joustref03_bounded.f ((decide (a0 < 0)) != (decide (a1 < 0))) 1099511627776).bind fun t141 => (some t141))) else (if ((decide (a0 < 0)) != (decide (a1 < 0))) = true then (if (Int.tmod bt136.2 65536) = 0 then ((joustref03_bounded.f ((decide (a0 < 0)) != (decide (a1 < 0))) (IntKind.u64.wrap ((IntKind.u64.wrap (bt136.1 * 281474976710656)) + (IntKind.u64.wrap (Int.tdiv bt136.2 65536))))).bind fun t142 => (some t142)) else ((joustref03_bounded.f ((decide (a0 < 0)) != (decide (a1 < 0))) (IntKind.u64.wrap ((IntKind.u64.wrap ((IntKind.u64.wrap (bt136.1 * 281474976710656)) + (IntKind.u64.wrap (Int.tdiv bt136.2 65536)))) + 1))).bind fun t143 => (some t143))) else ((joustref03_bounded.f ((decide (a0 < 0)) != (decide (a1 < 0))) (IntKind.u64.wrap ((IntKind.u64.wrap (bt136.1 * 281474976710656)) + (IntKind.u64.wrap (Int.tdiv bt136.2 65536))))).bind fun t144 => (some t144)))))))) = some r := h
  clear h
  replace H := Option.bind_eq_some_iff.mp H
  obtain ⟨t134, A30, H⟩ := H
  replace H : ((joustref03_size.f a1).bind fun t135 => ((joustref03_product.f t134 t135).bind fun bt136 => (if bt136.1 ≥ 65536 then ((joustref03_bounded.f ((decide (a0 < 0)) != (decide (a1 < 0))) 1099511627777).bind fun t138 => (some t138)) else (if (IntKind.u64.wrap ((IntKind.u64.wrap (bt136.1 * 281474976710656)) + (IntKind.u64.wrap (Int.tdiv bt136.2 65536)))) > 1099511627776 then (if ((decide (a0 < 0)) != (decide (a1 < 0))) = true then (if (Int.tmod bt136.2 65536) = 0 then ((joustref03_bounded.f ((decide (a0 < 0)) != (decide (a1 < 0))) 1099511627776).bind fun t139 => (some t139)) else ((joustref03_bounded.f ((decide (a0 < 0)) != (decide (a1 < 0))) (1099511627776 + 1)).bind fun t140 => (some t140))) else ((joustref03_bounded.f ((decide (a0 < 0)) != (decide (a1 < 0))) 1099511627776).bind fun t141 => (some t141))) else (if ((decide (a0 < 0)) != (decide (a1 < 0))) = true then (if (Int.tmod bt136.2 65536) = 0 then ((joustref03_bounded.f ((decide (a0 < 0)) != (decide (a1 < 0))) (IntKind.u64.wrap ((IntKind.u64.wrap (bt136.1 * 281474976710656)) + (IntKind.u64.wrap (Int.tdiv bt136.2 65536))))).bind fun t142 => (some t142)) else ((joustref03_bounded.f ((decide (a0 < 0)) != (decide (a1 < 0))) (IntKind.u64.wrap ((IntKind.u64.wrap ((IntKind.u64.wrap (bt136.1 * 281474976710656)) + (IntKind.u64.wrap (Int.tdiv bt136.2 65536)))) + 1))).bind fun t143 => (some t143))) else ((joustref03_bounded.f ((decide (a0 < 0)) != (decide (a1 < 0))) (IntKind.u64.wrap ((IntKind.u64.wrap (bt136.1 * 281474976710656)) + (IntKind.u64.wrap (Int.tdiv bt136.2 65536))))).bind fun t144 => (some t144))))))) = some r := H
  have A3 := Aside0.mk A30
  clear A30
  replace H := Option.bind_eq_some_iff.mp H
  obtain ⟨t135, A40, H⟩ := H
  replace H : ((joustref03_product.f t134 t135).bind fun bt136 => (if bt136.1 ≥ 65536 then ((joustref03_bounded.f ((decide (a0 < 0)) != (decide (a1 < 0))) 1099511627777).bind fun t138 => (some t138)) else (if (IntKind.u64.wrap ((IntKind.u64.wrap (bt136.1 * 281474976710656)) + (IntKind.u64.wrap (Int.tdiv bt136.2 65536)))) > 1099511627776 then (if ((decide (a0 < 0)) != (decide (a1 < 0))) = true then (if (Int.tmod bt136.2 65536) = 0 then ((joustref03_bounded.f ((decide (a0 < 0)) != (decide (a1 < 0))) 1099511627776).bind fun t139 => (some t139)) else ((joustref03_bounded.f ((decide (a0 < 0)) != (decide (a1 < 0))) (1099511627776 + 1)).bind fun t140 => (some t140))) else ((joustref03_bounded.f ((decide (a0 < 0)) != (decide (a1 < 0))) 1099511627776).bind fun t141 => (some t141))) else (if ((decide (a0 < 0)) != (decide (a1 < 0))) = true then (if (Int.tmod bt136.2 65536) = 0 then ((joustref03_bounded.f ((decide (a0 < 0)) != (decide (a1 < 0))) (IntKind.u64.wrap ((IntKind.u64.wrap (bt136.1 * 281474976710656)) + (IntKind.u64.wrap (Int.tdiv bt136.2 65536))))).bind fun t142 => (some t142)) else ((joustref03_bounded.f ((decide (a0 < 0)) != (decide (a1 < 0))) (IntKind.u64.wrap ((IntKind.u64.wrap ((IntKind.u64.wrap (bt136.1 * 281474976710656)) + (IntKind.u64.wrap (Int.tdiv bt136.2 65536)))) + 1))).bind fun t143 => (some t143))) else ((joustref03_bounded.f ((decide (a0 < 0)) != (decide (a1 < 0))) (IntKind.u64.wrap ((IntKind.u64.wrap (bt136.1 * 281474976710656)) + (IntKind.u64.wrap (Int.tdiv bt136.2 65536))))).bind fun t144 => (some t144)))))) = some r := H
  have A4 := Aside0.mk A40
  clear A40
  replace H := Option.bind_eq_some_iff.mp H
  obtain ⟨⟨t136, t137⟩, A50, H⟩ := H
  replace H : (if t136 ≥ 65536 then ((joustref03_bounded.f ((decide (a0 < 0)) != (decide (a1 < 0))) 1099511627777).bind fun t138 => (some t138)) else (if (IntKind.u64.wrap ((IntKind.u64.wrap (t136 * 281474976710656)) + (IntKind.u64.wrap (Int.tdiv t137 65536)))) > 1099511627776 then (if ((decide (a0 < 0)) != (decide (a1 < 0))) = true then (if (Int.tmod t137 65536) = 0 then ((joustref03_bounded.f ((decide (a0 < 0)) != (decide (a1 < 0))) 1099511627776).bind fun t139 => (some t139)) else ((joustref03_bounded.f ((decide (a0 < 0)) != (decide (a1 < 0))) (1099511627776 + 1)).bind fun t140 => (some t140))) else ((joustref03_bounded.f ((decide (a0 < 0)) != (decide (a1 < 0))) 1099511627776).bind fun t141 => (some t141))) else (if ((decide (a0 < 0)) != (decide (a1 < 0))) = true then (if (Int.tmod t137 65536) = 0 then ((joustref03_bounded.f ((decide (a0 < 0)) != (decide (a1 < 0))) (IntKind.u64.wrap ((IntKind.u64.wrap (t136 * 281474976710656)) + (IntKind.u64.wrap (Int.tdiv t137 65536))))).bind fun t142 => (some t142)) else ((joustref03_bounded.f ((decide (a0 < 0)) != (decide (a1 < 0))) (IntKind.u64.wrap ((IntKind.u64.wrap ((IntKind.u64.wrap (t136 * 281474976710656)) + (IntKind.u64.wrap (Int.tdiv t137 65536)))) + 1))).bind fun t143 => (some t143))) else ((joustref03_bounded.f ((decide (a0 < 0)) != (decide (a1 < 0))) (IntKind.u64.wrap ((IntKind.u64.wrap (t136 * 281474976710656)) + (IntKind.u64.wrap (Int.tdiv t137 65536))))).bind fun t144 => (some t144))))) = some r := H
  have A5 := Aside0.mk A50
  clear A50
  by_cases c6 : t136 ≥ 65536
  · rw [if_pos c6] at H
    have c6b0 : decide (65536 ≤ t136) = true := decide_eq_true c6
    clear c6
    replace H := Option.bind_eq_some_iff.mp H
    obtain ⟨t138, A70, H⟩ := H
    replace H : (some t138) = some r := H
    have A7 := Aside0.mk A70
    clear A70
    obtain rfl := Option.some.inj H
    go_enter Tryd.func36, Tryd.ntmps36
    go_wp2_with (first | ((with_reducible refine gate_callee (f := 69) rfl ?_); refine goesL_ (some 16) rfl rfl Tryd.func69 (by kernel_rfl) rfl #[.int .i64 a0] rfl (by (try simp only [List.map_toArray, List.map_cons, List.map_nil]); first | done | rfl | (simp only [List.length_drop, List.length_take]; rfl)) ?_; (with_reducible refine (joustref03_size.calls a0 t134 _ A3.out).mono ?_); rintro e w' ⟨rfl, ⟨nd, rfl⟩⟩; refine ⟨_, rfl, ?_⟩) | ((with_reducible refine gate_callee (f := 69) rfl ?_); refine goesL_ (some 18) rfl rfl Tryd.func69 (by kernel_rfl) rfl #[.int .i64 a1] rfl (by (try simp only [List.map_toArray, List.map_cons, List.map_nil]); first | done | rfl | (simp only [List.length_drop, List.length_take]; rfl)) ?_; (with_reducible refine (joustref03_size.calls a1 t135 _ A4.out).mono ?_); rintro e w' ⟨rfl, ⟨nd, rfl⟩⟩; refine ⟨_, rfl, ?_⟩) | ((with_reducible refine gate_callee (f := 67) rfl ?_); refine goesL_ (some 19) rfl rfl Tryd.func67 (by kernel_rfl) rfl #[.int .u64 t134, .int .u64 t135] rfl (by (try simp only [List.map_toArray, List.map_cons, List.map_nil]); first | done | rfl | (simp only [List.length_drop, List.length_take]; rfl)) ?_; (with_reducible refine (joustref03_product.calls t134 t135 t136 t137 _ A5.out).mono ?_); rintro e w' ⟨rfl, ⟨nd, rfl⟩⟩; refine ⟨_, rfl, ?_⟩) | ((with_reducible refine gate_callee (f := 70) rfl ?_); refine goesL_ (some 25) rfl rfl Tryd.func70 (by kernel_rfl) rfl #[.bool ((decide (a0 < 0)) != (decide (a1 < 0))), .int .u64 1099511627777] rfl (by (try simp only [List.map_toArray, List.map_cons, List.map_nil]); first | done | rfl | (simp only [List.length_drop, List.length_take]; rfl)) ?_; (with_reducible refine (joustref03_bounded.calls ((decide (a0 < 0)) != (decide (a1 < 0))) 1099511627777 t138 _ A7.out).mono ?_); rintro e w' ⟨rfl, ⟨nd, rfl⟩⟩; refine ⟨_, rfl, ?_⟩))
    go_ret
    exact ⟨by first | rfl | (simp; done) | (simp [*]; done), by repeat (first | exact Drawn0.refl _ | apply Drawn0.step)⟩
  · rw [if_neg c6] at H
    have c6b0 : decide (65536 ≤ t136) = false := decide_eq_false c6
    clear c6
    by_cases c8 : (IntKind.u64.wrap ((IntKind.u64.wrap (t136 * 281474976710656)) + (IntKind.u64.wrap (Int.tdiv t137 65536)))) > 1099511627776
    · rw [if_pos c8] at H
      have c8b0 : decide (1099511627776 < (IntKind.u64.wrap ((IntKind.u64.wrap (t136 * 281474976710656)) + (IntKind.u64.wrap (Int.tdiv t137 65536))))) = true := decide_eq_true c8
      clear c8
      by_cases c9 : ((decide (a0 < 0)) != (decide (a1 < 0))) = true
      · rw [if_pos c9] at H
        have c9b0 : ((decide (a0 < 0)) != (decide (a1 < 0))) = true := c9
        (try simp only [c9b0] at H)
        (try (have c9b1 : decide ((decide (a0 < 0)) = (decide (a1 < 0))) = false := by simpa using c9))
        (try (have c9b2 : ((decide (a0 < 0)) == (decide (a1 < 0))) = false := by simpa using c9))
        (try (have c9b3 : ¬ ((decide (a0 < 0)) = (decide (a1 < 0))) := by simpa using c9))
        clear c9
        by_cases c10 : (Int.tmod t137 65536) = 0
        · rw [if_pos c10] at H
          have c10b0 : ((Int.tmod t137 65536) == 0) = true := beq_iff_eq.mpr c10
          have c10b1 : ((Int.tmod t137 65536) != 0) = false := bne_eq_false_iff_eq.mpr c10
          clear c10
          replace H := Option.bind_eq_some_iff.mp H
          obtain ⟨t139, A110, H⟩ := H
          replace H : (some t139) = some r := H
          have A11 := Aside0.mk A110
          clear A110
          obtain rfl := Option.some.inj H
          go_enter Tryd.func36, Tryd.ntmps36
          go_wp2_with (first | ((with_reducible refine gate_callee (f := 69) rfl ?_); refine goesL_ (some 16) rfl rfl Tryd.func69 (by kernel_rfl) rfl #[.int .i64 a0] rfl (by (try simp only [List.map_toArray, List.map_cons, List.map_nil]); first | done | rfl | (simp only [List.length_drop, List.length_take]; rfl)) ?_; (with_reducible refine (joustref03_size.calls a0 t134 _ A3.out).mono ?_); rintro e w' ⟨rfl, ⟨nd, rfl⟩⟩; refine ⟨_, rfl, ?_⟩) | ((with_reducible refine gate_callee (f := 69) rfl ?_); refine goesL_ (some 18) rfl rfl Tryd.func69 (by kernel_rfl) rfl #[.int .i64 a1] rfl (by (try simp only [List.map_toArray, List.map_cons, List.map_nil]); first | done | rfl | (simp only [List.length_drop, List.length_take]; rfl)) ?_; (with_reducible refine (joustref03_size.calls a1 t135 _ A4.out).mono ?_); rintro e w' ⟨rfl, ⟨nd, rfl⟩⟩; refine ⟨_, rfl, ?_⟩) | ((with_reducible refine gate_callee (f := 67) rfl ?_); refine goesL_ (some 19) rfl rfl Tryd.func67 (by kernel_rfl) rfl #[.int .u64 t134, .int .u64 t135] rfl (by (try simp only [List.map_toArray, List.map_cons, List.map_nil]); first | done | rfl | (simp only [List.length_drop, List.length_take]; rfl)) ?_; (with_reducible refine (joustref03_product.calls t134 t135 t136 t137 _ A5.out).mono ?_); rintro e w' ⟨rfl, ⟨nd, rfl⟩⟩; refine ⟨_, rfl, ?_⟩) | ((with_reducible refine gate_callee (f := 70) rfl ?_); refine goesL_ (some 43) rfl rfl Tryd.func70 (by kernel_rfl) rfl #[.bool true, .int .u64 1099511627776] rfl (by (try simp only [List.map_toArray, List.map_cons, List.map_nil]); first | done | rfl | (simp only [List.length_drop, List.length_take]; rfl)) ?_; (with_reducible refine (joustref03_bounded.calls true 1099511627776 t139 _ A11.out).mono ?_); rintro e w' ⟨rfl, ⟨nd, rfl⟩⟩; refine ⟨_, rfl, ?_⟩))
          go_ret
          exact ⟨by first | rfl | (simp; done) | (simp [*]; done), by repeat (first | exact Drawn0.refl _ | apply Drawn0.step)⟩
        · rw [if_neg c10] at H
          have c10b0 : ((Int.tmod t137 65536) == 0) = false := beq_eq_false_iff_ne.mpr c10
          have c10b1 : ((Int.tmod t137 65536) != 0) = true := bne_iff_ne.mpr c10
          replace H := Option.bind_eq_some_iff.mp H
          obtain ⟨t140, A120, H⟩ := H
          replace H : (some t140) = some r := H
          have A12 := Aside0.mk A120
          clear A120
          obtain rfl := Option.some.inj H
          go_enter Tryd.func36, Tryd.ntmps36
          go_wp2_with (first | ((with_reducible refine gate_callee (f := 69) rfl ?_); refine goesL_ (some 16) rfl rfl Tryd.func69 (by kernel_rfl) rfl #[.int .i64 a0] rfl (by (try simp only [List.map_toArray, List.map_cons, List.map_nil]); first | done | rfl | (simp only [List.length_drop, List.length_take]; rfl)) ?_; (with_reducible refine (joustref03_size.calls a0 t134 _ A3.out).mono ?_); rintro e w' ⟨rfl, ⟨nd, rfl⟩⟩; refine ⟨_, rfl, ?_⟩) | ((with_reducible refine gate_callee (f := 69) rfl ?_); refine goesL_ (some 18) rfl rfl Tryd.func69 (by kernel_rfl) rfl #[.int .i64 a1] rfl (by (try simp only [List.map_toArray, List.map_cons, List.map_nil]); first | done | rfl | (simp only [List.length_drop, List.length_take]; rfl)) ?_; (with_reducible refine (joustref03_size.calls a1 t135 _ A4.out).mono ?_); rintro e w' ⟨rfl, ⟨nd, rfl⟩⟩; refine ⟨_, rfl, ?_⟩) | ((with_reducible refine gate_callee (f := 67) rfl ?_); refine goesL_ (some 19) rfl rfl Tryd.func67 (by kernel_rfl) rfl #[.int .u64 t134, .int .u64 t135] rfl (by (try simp only [List.map_toArray, List.map_cons, List.map_nil]); first | done | rfl | (simp only [List.length_drop, List.length_take]; rfl)) ?_; (with_reducible refine (joustref03_product.calls t134 t135 t136 t137 _ A5.out).mono ?_); rintro e w' ⟨rfl, ⟨nd, rfl⟩⟩; refine ⟨_, rfl, ?_⟩) | ((with_reducible refine gate_callee (f := 70) rfl ?_); refine goesL_ (some 43) rfl rfl Tryd.func70 (by kernel_rfl) rfl #[.bool true, .int .u64 (1099511627776 + 1)] rfl (by (try simp only [List.map_toArray, List.map_cons, List.map_nil]); first | done | rfl | (simp only [List.length_drop, List.length_take]; rfl)) ?_; (with_reducible refine (joustref03_bounded.calls true (1099511627776 + 1) t140 _ A12.out).mono ?_); rintro e w' ⟨rfl, ⟨nd, rfl⟩⟩; refine ⟨_, rfl, ?_⟩))
          go_ret
          exact ⟨by first | rfl | (simp; done) | (simp [*]; done), by repeat (first | exact Drawn0.refl _ | apply Drawn0.step)⟩
      · rw [if_neg c9] at H
        have c9b0 : ((decide (a0 < 0)) != (decide (a1 < 0))) = false := by simpa using c9
        (try simp only [c9b0] at H)
        (try (have c9b1 : decide ((decide (a0 < 0)) = (decide (a1 < 0))) = true := by simpa using c9))
        (try (have c9b2 : ((decide (a0 < 0)) == (decide (a1 < 0))) = true := by simpa using c9))
        clear c9
        replace H := Option.bind_eq_some_iff.mp H
        obtain ⟨t141, A130, H⟩ := H
        replace H : (some t141) = some r := H
        have A13 := Aside0.mk A130
        clear A130
        obtain rfl := Option.some.inj H
        go_enter Tryd.func36, Tryd.ntmps36
        go_wp2_with (first | ((with_reducible refine gate_callee (f := 69) rfl ?_); refine goesL_ (some 16) rfl rfl Tryd.func69 (by kernel_rfl) rfl #[.int .i64 a0] rfl (by (try simp only [List.map_toArray, List.map_cons, List.map_nil]); first | done | rfl | (simp only [List.length_drop, List.length_take]; rfl)) ?_; (with_reducible refine (joustref03_size.calls a0 t134 _ A3.out).mono ?_); rintro e w' ⟨rfl, ⟨nd, rfl⟩⟩; refine ⟨_, rfl, ?_⟩) | ((with_reducible refine gate_callee (f := 69) rfl ?_); refine goesL_ (some 18) rfl rfl Tryd.func69 (by kernel_rfl) rfl #[.int .i64 a1] rfl (by (try simp only [List.map_toArray, List.map_cons, List.map_nil]); first | done | rfl | (simp only [List.length_drop, List.length_take]; rfl)) ?_; (with_reducible refine (joustref03_size.calls a1 t135 _ A4.out).mono ?_); rintro e w' ⟨rfl, ⟨nd, rfl⟩⟩; refine ⟨_, rfl, ?_⟩) | ((with_reducible refine gate_callee (f := 67) rfl ?_); refine goesL_ (some 19) rfl rfl Tryd.func67 (by kernel_rfl) rfl #[.int .u64 t134, .int .u64 t135] rfl (by (try simp only [List.map_toArray, List.map_cons, List.map_nil]); first | done | rfl | (simp only [List.length_drop, List.length_take]; rfl)) ?_; (with_reducible refine (joustref03_product.calls t134 t135 t136 t137 _ A5.out).mono ?_); rintro e w' ⟨rfl, ⟨nd, rfl⟩⟩; refine ⟨_, rfl, ?_⟩) | ((with_reducible refine gate_callee (f := 70) rfl ?_); refine goesL_ (some 43) rfl rfl Tryd.func70 (by kernel_rfl) rfl #[.bool false, .int .u64 1099511627776] rfl (by (try simp only [List.map_toArray, List.map_cons, List.map_nil]); first | done | rfl | (simp only [List.length_drop, List.length_take]; rfl)) ?_; (with_reducible refine (joustref03_bounded.calls false 1099511627776 t141 _ A13.out).mono ?_); rintro e w' ⟨rfl, ⟨nd, rfl⟩⟩; refine ⟨_, rfl, ?_⟩))
        go_ret
        exact ⟨by first | rfl | (simp; done) | (simp [*]; done), by repeat (first | exact Drawn0.refl _ | apply Drawn0.step)⟩
    · rw [if_neg c8] at H
      have c8b0 : decide (1099511627776 < (IntKind.u64.wrap ((IntKind.u64.wrap (t136 * 281474976710656)) + (IntKind.u64.wrap (Int.tdiv t137 65536))))) = false := decide_eq_false c8
      clear c8
      by_cases c14 : ((decide (a0 < 0)) != (decide (a1 < 0))) = true
      · rw [if_pos c14] at H
        have c14b0 : ((decide (a0 < 0)) != (decide (a1 < 0))) = true := c14
        (try simp only [c14b0] at H)
        (try (have c14b1 : decide ((decide (a0 < 0)) = (decide (a1 < 0))) = false := by simpa using c14))
        (try (have c14b2 : ((decide (a0 < 0)) == (decide (a1 < 0))) = false := by simpa using c14))
        (try (have c14b3 : ¬ ((decide (a0 < 0)) = (decide (a1 < 0))) := by simpa using c14))
        clear c14
        by_cases c15 : (Int.tmod t137 65536) = 0
        · rw [if_pos c15] at H
          have c15b0 : ((Int.tmod t137 65536) == 0) = true := beq_iff_eq.mpr c15
          have c15b1 : ((Int.tmod t137 65536) != 0) = false := bne_eq_false_iff_eq.mpr c15
          clear c15
          replace H := Option.bind_eq_some_iff.mp H
          obtain ⟨t142, A160, H⟩ := H
          replace H : (some t142) = some r := H
          have A16 := Aside0.mk A160
          clear A160
          obtain rfl := Option.some.inj H
          go_enter Tryd.func36, Tryd.ntmps36
          go_wp2_with (first | ((with_reducible refine gate_callee (f := 69) rfl ?_); refine goesL_ (some 16) rfl rfl Tryd.func69 (by kernel_rfl) rfl #[.int .i64 a0] rfl (by (try simp only [List.map_toArray, List.map_cons, List.map_nil]); first | done | rfl | (simp only [List.length_drop, List.length_take]; rfl)) ?_; (with_reducible refine (joustref03_size.calls a0 t134 _ A3.out).mono ?_); rintro e w' ⟨rfl, ⟨nd, rfl⟩⟩; refine ⟨_, rfl, ?_⟩) | ((with_reducible refine gate_callee (f := 69) rfl ?_); refine goesL_ (some 18) rfl rfl Tryd.func69 (by kernel_rfl) rfl #[.int .i64 a1] rfl (by (try simp only [List.map_toArray, List.map_cons, List.map_nil]); first | done | rfl | (simp only [List.length_drop, List.length_take]; rfl)) ?_; (with_reducible refine (joustref03_size.calls a1 t135 _ A4.out).mono ?_); rintro e w' ⟨rfl, ⟨nd, rfl⟩⟩; refine ⟨_, rfl, ?_⟩) | ((with_reducible refine gate_callee (f := 67) rfl ?_); refine goesL_ (some 19) rfl rfl Tryd.func67 (by kernel_rfl) rfl #[.int .u64 t134, .int .u64 t135] rfl (by (try simp only [List.map_toArray, List.map_cons, List.map_nil]); first | done | rfl | (simp only [List.length_drop, List.length_take]; rfl)) ?_; (with_reducible refine (joustref03_product.calls t134 t135 t136 t137 _ A5.out).mono ?_); rintro e w' ⟨rfl, ⟨nd, rfl⟩⟩; refine ⟨_, rfl, ?_⟩) | ((with_reducible refine gate_callee (f := 70) rfl ?_); refine goesL_ (some 43) rfl rfl Tryd.func70 (by kernel_rfl) rfl #[.bool true, .int .u64 (IntKind.u64.wrap ((IntKind.u64.wrap (t136 * 281474976710656)) + (IntKind.u64.wrap (Int.tdiv t137 65536))))] rfl (by (try simp only [List.map_toArray, List.map_cons, List.map_nil]); first | done | rfl | (simp only [List.length_drop, List.length_take]; rfl)) ?_; (with_reducible refine (joustref03_bounded.calls true (IntKind.u64.wrap ((IntKind.u64.wrap (t136 * 281474976710656)) + (IntKind.u64.wrap (Int.tdiv t137 65536)))) t142 _ A16.out).mono ?_); rintro e w' ⟨rfl, ⟨nd, rfl⟩⟩; refine ⟨_, rfl, ?_⟩))
          go_ret
          exact ⟨by first | rfl | (simp; done) | (simp [*]; done), by repeat (first | exact Drawn0.refl _ | apply Drawn0.step)⟩
        · rw [if_neg c15] at H
          have c15b0 : ((Int.tmod t137 65536) == 0) = false := beq_eq_false_iff_ne.mpr c15
          have c15b1 : ((Int.tmod t137 65536) != 0) = true := bne_iff_ne.mpr c15
          replace H := Option.bind_eq_some_iff.mp H
          obtain ⟨t143, A170, H⟩ := H
          replace H : (some t143) = some r := H
          have A17 := Aside0.mk A170
          clear A170
          obtain rfl := Option.some.inj H
          go_enter Tryd.func36, Tryd.ntmps36
          go_wp2_with (first | ((with_reducible refine gate_callee (f := 69) rfl ?_); refine goesL_ (some 16) rfl rfl Tryd.func69 (by kernel_rfl) rfl #[.int .i64 a0] rfl (by (try simp only [List.map_toArray, List.map_cons, List.map_nil]); first | done | rfl | (simp only [List.length_drop, List.length_take]; rfl)) ?_; (with_reducible refine (joustref03_size.calls a0 t134 _ A3.out).mono ?_); rintro e w' ⟨rfl, ⟨nd, rfl⟩⟩; refine ⟨_, rfl, ?_⟩) | ((with_reducible refine gate_callee (f := 69) rfl ?_); refine goesL_ (some 18) rfl rfl Tryd.func69 (by kernel_rfl) rfl #[.int .i64 a1] rfl (by (try simp only [List.map_toArray, List.map_cons, List.map_nil]); first | done | rfl | (simp only [List.length_drop, List.length_take]; rfl)) ?_; (with_reducible refine (joustref03_size.calls a1 t135 _ A4.out).mono ?_); rintro e w' ⟨rfl, ⟨nd, rfl⟩⟩; refine ⟨_, rfl, ?_⟩) | ((with_reducible refine gate_callee (f := 67) rfl ?_); refine goesL_ (some 19) rfl rfl Tryd.func67 (by kernel_rfl) rfl #[.int .u64 t134, .int .u64 t135] rfl (by (try simp only [List.map_toArray, List.map_cons, List.map_nil]); first | done | rfl | (simp only [List.length_drop, List.length_take]; rfl)) ?_; (with_reducible refine (joustref03_product.calls t134 t135 t136 t137 _ A5.out).mono ?_); rintro e w' ⟨rfl, ⟨nd, rfl⟩⟩; refine ⟨_, rfl, ?_⟩) | ((with_reducible refine gate_callee (f := 70) rfl ?_); refine goesL_ (some 43) rfl rfl Tryd.func70 (by kernel_rfl) rfl #[.bool true, .int .u64 (IntKind.u64.wrap ((IntKind.u64.wrap ((IntKind.u64.wrap (t136 * 281474976710656)) + (IntKind.u64.wrap (Int.tdiv t137 65536)))) + 1))] rfl (by (try simp only [List.map_toArray, List.map_cons, List.map_nil]); first | done | rfl | (simp only [List.length_drop, List.length_take]; rfl)) ?_; (with_reducible refine (joustref03_bounded.calls true (IntKind.u64.wrap ((IntKind.u64.wrap ((IntKind.u64.wrap (t136 * 281474976710656)) + (IntKind.u64.wrap (Int.tdiv t137 65536)))) + 1)) t143 _ A17.out).mono ?_); rintro e w' ⟨rfl, ⟨nd, rfl⟩⟩; refine ⟨_, rfl, ?_⟩))
          go_ret
          exact ⟨by first | rfl | (simp; done) | (simp [*]; done), by repeat (first | exact Drawn0.refl _ | apply Drawn0.step)⟩
      · rw [if_neg c14] at H
        have c14b0 : ((decide (a0 < 0)) != (decide (a1 < 0))) = false := by simpa using c14
        (try simp only [c14b0] at H)
        (try (have c14b1 : decide ((decide (a0 < 0)) = (decide (a1 < 0))) = true := by simpa using c14))
        (try (have c14b2 : ((decide (a0 < 0)) == (decide (a1 < 0))) = true := by simpa using c14))
        clear c14
        replace H := Option.bind_eq_some_iff.mp H
        obtain ⟨t144, A180, H⟩ := H
        replace H : (some t144) = some r := H
        have A18 := Aside0.mk A180
        clear A180
        obtain rfl := Option.some.inj H
        go_enter Tryd.func36, Tryd.ntmps36
        go_wp2_with (first | ((with_reducible refine gate_callee (f := 69) rfl ?_); refine goesL_ (some 16) rfl rfl Tryd.func69 (by kernel_rfl) rfl #[.int .i64 a0] rfl (by (try simp only [List.map_toArray, List.map_cons, List.map_nil]); first | done | rfl | (simp only [List.length_drop, List.length_take]; rfl)) ?_; (with_reducible refine (joustref03_size.calls a0 t134 _ A3.out).mono ?_); rintro e w' ⟨rfl, ⟨nd, rfl⟩⟩; refine ⟨_, rfl, ?_⟩) | ((with_reducible refine gate_callee (f := 69) rfl ?_); refine goesL_ (some 18) rfl rfl Tryd.func69 (by kernel_rfl) rfl #[.int .i64 a1] rfl (by (try simp only [List.map_toArray, List.map_cons, List.map_nil]); first | done | rfl | (simp only [List.length_drop, List.length_take]; rfl)) ?_; (with_reducible refine (joustref03_size.calls a1 t135 _ A4.out).mono ?_); rintro e w' ⟨rfl, ⟨nd, rfl⟩⟩; refine ⟨_, rfl, ?_⟩) | ((with_reducible refine gate_callee (f := 67) rfl ?_); refine goesL_ (some 19) rfl rfl Tryd.func67 (by kernel_rfl) rfl #[.int .u64 t134, .int .u64 t135] rfl (by (try simp only [List.map_toArray, List.map_cons, List.map_nil]); first | done | rfl | (simp only [List.length_drop, List.length_take]; rfl)) ?_; (with_reducible refine (joustref03_product.calls t134 t135 t136 t137 _ A5.out).mono ?_); rintro e w' ⟨rfl, ⟨nd, rfl⟩⟩; refine ⟨_, rfl, ?_⟩) | ((with_reducible refine gate_callee (f := 70) rfl ?_); refine goesL_ (some 43) rfl rfl Tryd.func70 (by kernel_rfl) rfl #[.bool false, .int .u64 (IntKind.u64.wrap ((IntKind.u64.wrap (t136 * 281474976710656)) + (IntKind.u64.wrap (Int.tdiv t137 65536))))] rfl (by (try simp only [List.map_toArray, List.map_cons, List.map_nil]); first | done | rfl | (simp only [List.length_drop, List.length_take]; rfl)) ?_; (with_reducible refine (joustref03_bounded.calls false (IntKind.u64.wrap ((IntKind.u64.wrap (t136 * 281474976710656)) + (IntKind.u64.wrap (Int.tdiv t137 65536)))) t144 _ A18.out).mono ?_); rintro e w' ⟨rfl, ⟨nd, rfl⟩⟩; refine ⟨_, rfl, ?_⟩))
        go_ret
        exact ⟨by first | rfl | (simp; done) | (simp [*]; done), by repeat (first | exact Drawn0.refl _ | apply Drawn0.step)⟩

/-! ### joustref03_power: function 74 -/
def joustref03_power.l0 : Nat → Int → Int → Int → Option (Int)
  | 0, _, _, _ => none
  | k + 1, x0, x3, x4 => if x4 < x0 then (joustref03_power.l0 k x0 (IntKind.u64.wrap (x3 * 2)) (wrap64 (x4 + 1))) else (some x3)
def joustref03_power.f (k : Nat) (a0 : Int) : Option (Int) := joustref03_power.l0 k a0 1 0
theorem joustref03_power.mono_l : ∀ k, (∀ y0 y1 y2, LeO (joustref03_power.l0 k y0 y1 y2) (joustref03_power.l0 (k + 1) y0 y1 y2))
  | 0 => fun _ _ _ r h => by simp [joustref03_power.l0] at h
  | k + 1 => by
    have ih0 := joustref03_power.mono_l k
    · intro y0 y1 y2
      unfold joustref03_power.l0
      repeat' first
      | (with_reducible exact ih0 _ _ _)
      | (with_reducible exact LeO.refl _)
      | (with_reducible exact LeO.none _)
      | (with_reducible refine LeO.ite ?_ ?_)
      | (with_reducible refine LeO.bind ?_ (fun _ => ?_))
      | exact ih0 _ _ _
      | exact LeO.none _
      | refine LeO.ite ?_ ?_
      | refine LeO.bind ?_ (fun _ => ?_)
theorem joustref03_power.mono : ∀ a0 k, LeO (joustref03_power.f k a0) (joustref03_power.f (k + 1) a0) := by
  intro a0 k
  have ih0 := joustref03_power.mono_l k
  unfold joustref03_power.f
  repeat' first
      | (with_reducible exact ih0 _ _ _)
      | (with_reducible exact LeO.refl _)
      | (with_reducible exact LeO.none _)
      | (with_reducible refine LeO.ite ?_ ?_)
      | (with_reducible refine LeO.bind ?_ (fun _ => ?_))
      | exact ih0 _ _ _
      | exact LeO.none _
      | refine LeO.ite ?_ ?_
      | refine LeO.bind ?_ (fun _ => ?_)
set_option maxHeartbeats 8000000 in
set_option maxRecDepth 100000 in
theorem joustref03_power.calls (k : Nat) (a0 : Int) (r : Int) (w : World) (h : joustref03_power.f k a0 = some r) :
    Calls Tryd.prog 74 #[.int .i64 a0] w fun e w' => e = .returned (.int .u64 r) ∧ Drawn0 w w' := by
  have H : (joustref03_power.l0 k a0 1 0) = some r := h
  clear h
  have H' := Aside0.mk H
  clear H
  go_enter Tryd.func74, Tryd.ntmps74
  go_wp2
  go_loopg [3, 4] k (fun kq v3 v4 w' => ∃ (x3_1 : Int) (x4_1 : Int), v3 = .int .u64 x3_1 ∧ v4 = .int .i64 x4_1 ∧ Aside0 (joustref03_power.l0 kq a0 x3_1 x4_1 = some r) ∧ Aside0 (kq ≤ k) ∧ Drawn0 w w')
  case atStart => exact ⟨(1), (0), (by first | rfl | (simp; done) | (simp [*]; done)), (by first | rfl | (simp; done) | (simp [*]; done)), H', ⟨Nat.le_refl _⟩, by repeat (first | exact Drawn0.refl _ | apply Drawn0.step)⟩
  case round =>
    clear H'
    obtain ⟨x3_1, x4_1, rfl, rfl, HA, HK1, ⟨m1, rfl⟩⟩ := hrel
    cases gk with
    | zero => exact absurd HA.out (by simp [joustref03_power.l0])
    | succ k1 =>
      have H := HA.out
      clear HA
      simp only [joustref03_power.l0] at H
      by_cases c2 : x4_1 < a0
      · rw [if_pos c2] at H
        have c2b0 : decide (x4_1 < a0) = true := decide_eq_true c2
        clear c2
        have H' := Aside0.mk H
        clear H
        go_wp2
        go_roundg k1
        case measure => have := HK1.out; omega
        case rel => exact ⟨(IntKind.u64.wrap (x3_1 * 2)), (wrap64 (x4_1 + 1)), (by first | rfl | (simp; done) | (simp [*]; done)), (by first | rfl | (simp; done) | (simp [*]; done)), H', ⟨by have := HK1.out; omega⟩, by repeat (first | exact Drawn0.refl _ | apply Drawn0.step)⟩
      · rw [if_neg c2] at H
        have c2b0 : decide (x4_1 < a0) = false := decide_eq_false c2
        clear c2
        obtain rfl := Option.some.inj H
        go_wp2
        go_ret
        exact ⟨by first | rfl | (simp; done) | (simp [*]; done), by repeat (first | exact Drawn0.refl _ | apply Drawn0.step)⟩

end Go.Proofs.YtnknbikkgohlmaaDoor.VFixB
