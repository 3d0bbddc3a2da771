/- FixTurns and what it calls: printed by wip/gen/vprint.py (functions joust/fix.Sin, joust/joustlaw03.fixed are given) -/
import Derived.Test.YtnknbikkgohlmaaDoorVFixTurnsx0
import Derived.Test.YtnknbikkgohlmaaDoorVFixTurnsx2
namespace Go.Proofs.YtnknbikkgohlmaaDoor.VFixTurns
open Go.RowKit Go.Proofs.YtnknbikkgohlmaaDoorW.PrintWords Go.Proofs.YtnknbikkgohlmaaDoorW.PrintLast Go.Proofs.YtnknbikkgohlmaaDoorW.PrintMore Go.Proofs.YtnknbikkgohlmaaDoor.VFixB
attribute [local go_sem] max2_int min2_int max_two min_two max_three min_three max_four min_four   -- for this text's walks alone
set_option linter.unusedVariables false
set_option linter.unusedSimpArgs false

/-! ### joustlaw03_FixTurns: function 10 -/
mutual
def joustlaw03_FixTurns.j0 : Nat → Bool → Option (Bool)
  | 0, _ => none
  | k + 1, x22 => if x22 = true then (some false) else (joustlaw03_FixTurns.l0 k 0)
def joustlaw03_FixTurns.l0 : Nat → Int → Option (Bool)
  | 0, _ => none
  | k + 1, x3 => if x3 < 256 then ((fix_Sin.f k x3).bind fun t148 => ((fix_Cos.f k x3).bind fun t149 => ((joustref03_Sin.f k x3).bind fun t150 => (if t148 = t150 then ((joustref03_Cos.f k x3).bind fun t151 => (if t149 = t151 then (if (wrap64 ((wrap64 ((wrap64 (t148 * t148)) + (wrap64 (t149 * t149)))) - 4294967296)) > 131072 then (joustlaw03_FixTurns.j2 k x3 t148 t149 true) else (joustlaw03_FixTurns.j2 k x3 t148 t149 (decide ((wrap64 ((wrap64 ((wrap64 (t148 * t148)) + (wrap64 (t149 * t149)))) - 4294967296)) < (-131072))))) else (joustlaw03_FixTurns.j2 k x3 t148 t149 true))) else (joustlaw03_FixTurns.j2 k x3 t148 t149 true))))) else (some true)
def joustlaw03_FixTurns.j2 : Nat → Int → Int → Int → Bool → Option (Bool)
  | 0, _, _, _, _ => none
  | k + 1, x3, x4, x5, x56 => if x56 = true then (some false) else ((fix_Sin.f k (wrap64 (x3 + 128))).bind fun t152 => (if t152 = (wrap64 (-x4)) then ((fix_Sin.f k (wrap64 (128 - x3))).bind fun t153 => (if t153 = x4 then ((fix_Cos.f k (wrap64 (-x3))).bind fun t154 => (if t154 = x5 then (if x4 > 65536 then (some false) else (if x4 < (-65536) then (some false) else (joustlaw03_FixTurns.l0 k (wrap64 (x3 + 1))))) else (some false))) else (some false))) else (some false)))
end
def joustlaw03_FixTurns.f (k : Nat) (a0 : Int) : Option (Bool) := (joustlaw03_fixed.f).bind fun t143 => (if t143 = true then ((fix_Sin.f k a0).bind fun t144 => ((joustref03_Sin.f k a0).bind fun t145 => (if t144 = t145 then ((fix_Cos.f k a0).bind fun t146 => ((joustref03_Cos.f k a0).bind fun t147 => (joustlaw03_FixTurns.j0 k (t146 != t147)))) else (joustlaw03_FixTurns.j0 k true)))) else (joustlaw03_FixTurns.j0 k true))
theorem joustlaw03_FixTurns.mono_l : ∀ k, (∀ y0, LeO (joustlaw03_FixTurns.j0 k y0) (joustlaw03_FixTurns.j0 (k + 1) y0)) ∧ (∀ y0, LeO (joustlaw03_FixTurns.l0 k y0) (joustlaw03_FixTurns.l0 (k + 1) y0)) ∧ (∀ y0 y1 y2 y3, LeO (joustlaw03_FixTurns.j2 k y0 y1 y2 y3) (joustlaw03_FixTurns.j2 (k + 1) y0 y1 y2 y3))
  | 0 => ⟨fun _ r h => by simp [joustlaw03_FixTurns.j0] at h, fun _ r h => by simp [joustlaw03_FixTurns.l0] at h, fun _ _ _ _ r h => by simp [joustlaw03_FixTurns.j2] at h⟩
  | k + 1 => by
    obtain ⟨ih0, ih1, ih2⟩ := joustlaw03_FixTurns.mono_l k
    refine ⟨?_, ?_, ?_⟩
    · intro y0
      unfold joustlaw03_FixTurns.j0
      repeat' first
      | (with_reducible exact ih0 _)
      | (with_reducible exact ih1 _)
      | (with_reducible exact ih2 _ _ _ _)
      | (with_reducible exact fix_Cos.mono _ _)
      | (with_reducible exact fix_Sin.mono _ _)
      | (with_reducible exact joustref03_Cos.mono _ _)
      | (with_reducible exact joustref03_Sin.mono _ _)
      | (with_reducible exact LeO.refl _)
      | (with_reducible exact LeO.none _)
      | (with_reducible refine LeO.ite ?_ ?_)
      | (with_reducible refine LeO.bind ?_ (fun _ => ?_))
      | exact ih0 _
      | exact ih1 _
      | exact ih2 _ _ _ _
      | exact fix_Cos.mono _ _
      | exact fix_Sin.mono _ _
      | exact joustref03_Cos.mono _ _
      | exact joustref03_Sin.mono _ _
      | exact LeO.none _
      | refine LeO.ite ?_ ?_
      | refine LeO.bind ?_ (fun _ => ?_)
    · intro y0
      unfold joustlaw03_FixTurns.l0
      repeat' first
      | (with_reducible exact ih0 _)
      | (with_reducible exact ih1 _)
      | (with_reducible exact ih2 _ _ _ _)
      | (with_reducible exact fix_Cos.mono _ _)
      | (with_reducible exact fix_Sin.mono _ _)
      | (with_reducible exact joustref03_Cos.mono _ _)
      | (with_reducible exact joustref03_Sin.mono _ _)
      | (with_reducible exact LeO.refl _)
      | (with_reducible exact LeO.none _)
      | (with_reducible refine LeO.ite ?_ ?_)
      | (with_reducible refine LeO.bind ?_ (fun _ => ?_))
      | exact ih0 _
      | exact ih1 _
      | exact ih2 _ _ _ _
      | exact fix_Cos.mono _ _
      | exact fix_Sin.mono _ _
      | exact joustref03_Cos.mono _ _
      | exact joustref03_Sin.mono _ _
      | exact LeO.none _
      | refine LeO.ite ?_ ?_
      | refine LeO.bind ?_ (fun _ => ?_)
    · intro y0 y1 y2 y3
      unfold joustlaw03_FixTurns.j2
      repeat' first
      | (with_reducible exact ih0 _)
      | (with_reducible exact ih1 _)
      | (with_reducible exact ih2 _ _ _ _)
      | (with_reducible exact fix_Cos.mono _ _)
      | (with_reducible exact fix_Sin.mono _ _)
      | (with_reducible exact joustref03_Cos.mono _ _)
      | (with_reducible exact joustref03_Sin.mono _ _)
      | (with_reducible exact LeO.refl _)
      | (with_reducible exact LeO.none _)
      | (with_reducible refine LeO.ite ?_ ?_)
      | (with_reducible refine LeO.bind ?_ (fun _ => ?_))
      | exact ih0 _
      | exact ih1 _
      | exact ih2 _ _ _ _
      | exact fix_Cos.mono _ _
      | exact fix_Sin.mono _ _
      | exact joustref03_Cos.mono _ _
      | exact joustref03_Sin.mono _ _
      | exact LeO.none _
      | refine LeO.ite ?_ ?_
      | refine LeO.bind ?_ (fun _ => ?_)
theorem joustlaw03_FixTurns.mono : ∀ a0 k, LeO (joustlaw03_FixTurns.f k a0) (joustlaw03_FixTurns.f (k + 1) a0) := by
  intro a0 k
  obtain ⟨ih0, ih1, ih2⟩ := joustlaw03_FixTurns.mono_l k
  unfold joustlaw03_FixTurns.f
  repeat' first
      | (with_reducible exact ih0 _)
      | (with_reducible exact ih1 _)
      | (with_reducible exact ih2 _ _ _ _)
      | (with_reducible exact fix_Cos.mono _ _)
      | (with_reducible exact fix_Sin.mono _ _)
      | (with_reducible exact joustref03_Cos.mono _ _)
      | (with_reducible exact joustref03_Sin.mono _ _)
      | (with_reducible exact LeO.refl _)
      | (with_reducible exact LeO.none _)
      | (with_reducible refine LeO.ite ?_ ?_)
      | (with_reducible refine LeO.bind ?_ (fun _ => ?_))
      | exact ih0 _
      | exact ih1 _
      | exact ih2 _ _ _ _
      | exact fix_Cos.mono _ _
      | exact fix_Sin.mono _ _
      | exact joustref03_Cos.mono _ _
      | exact joustref03_Sin.mono _ _
      | exact LeO.none _
      | refine LeO.ite ?_ ?_
      | refine LeO.bind ?_ (fun _ => ?_)
set_option maxHeartbeats 8000000 in
set_option maxRecDepth 100000 in
theorem joustlaw03_FixTurns.calls (k : Nat) (a0 : Int) (r : Bool) (w : World) (h : joustlaw03_FixTurns.f k a0 = some r) (hG : Sines w) :
    Calls Tryd.prog 10 #[.int .i64 a0] w fun e w' => e = .returned (.bool r) ∧ Below w.heap.size w w' := by
  have HG := Aside0.mk hG
  clear hG
  have HB := Aside0.mk (Below.refl w.heap.size w)
  have H : ((joustlaw03_fixed.f).bind fun t143 => (if t143 = true then ((fix_Sin.f k a0).bind fun t144 => ((joustref03_Sin.f k a0).bind fun t145 => (if t144 = t145 then ((fix_Cos.f k a0).bind fun t146 => ((joustref03_Cos.f k a0).bind fun t147 => (joustlaw03_FixTurns.j0 k (t146 != t147)))) else (joustlaw03_FixTurns.j0 k true)))) else (joustlaw03_FixTurns.j0 k true))) = some r := h
  clear h
  have HC2 := Aside0.mk H
  clear H
  go_enter Tryd.func10, Tryd.ntmps10
  go_upto_region 1 with (fail)
  go_cut [22] (fun v22 wc => ∃ (kq : Nat) (x22_1 : Bool), v22 = .bool x22_1 ∧ Aside0 (joustlaw03_FixTurns.j0 kq x22_1 = some r) ∧ Aside0 (kq ≤ k) ∧ Aside0 (Below w.heap.size w wc))
  case first =>
    have H := HC2.out
    clear HC2
    replace H := Option.bind_eq_some_iff.mp H
    obtain ⟨t143, A30, H⟩ := H
    replace H : (if t143 = true then ((fix_Sin.f k a0).bind fun t144 => ((joustref03_Sin.f k a0).bind fun t145 => (if t144 = t145 then ((fix_Cos.f k a0).bind fun t146 => ((joustref03_Cos.f k a0).bind fun t147 => (joustlaw03_FixTurns.j0 k (t146 != t147)))) else (joustlaw03_FixTurns.j0 k true)))) else (joustlaw03_FixTurns.j0 k true)) = some r := H
    have A3 := Aside0.mk A30
    clear A30
    by_cases c4 : t143 = true
    · subst c4
      have H1 : ((fix_Sin.f k a0).bind fun t144 => ((joustref03_Sin.f k a0).bind fun t145 => (if t144 = t145 then ((fix_Cos.f k a0).bind fun t146 => ((joustref03_Cos.f k a0).bind fun t147 => (joustlaw03_FixTurns.j0 k (t146 != t147)))) else (joustlaw03_FixTurns.j0 k true)))) = some r := by rw [if_pos rfl] at H; exact H
      clear H
      have H := H1
      clear H1
      replace H := Option.bind_eq_some_iff.mp H
      obtain ⟨t144, A50, H⟩ := H
      replace H : ((joustref03_Sin.f k a0).bind fun t145 => (if t144 = t145 then ((fix_Cos.f k a0).bind fun t146 => ((joustref03_Cos.f k a0).bind fun t147 => (joustlaw03_FixTurns.j0 k (t146 != t147)))) else (joustlaw03_FixTurns.j0 k true))) = some r := H
      have A5 := Aside0.mk A50
      clear A50
      replace H := Option.bind_eq_some_iff.mp H
      obtain ⟨t145, A60, H⟩ := H
      replace H : (if t144 = t145 then ((fix_Cos.f k a0).bind fun t146 => ((joustref03_Cos.f k a0).bind fun t147 => (joustlaw03_FixTurns.j0 k (t146 != t147)))) else (joustlaw03_FixTurns.j0 k true)) = some r := H
      have A6 := Aside0.mk A60
      clear A60
      by_cases c7 : t144 = t145
      · rw [if_pos c7] at H
        have c7b0 : (t144 == t145) = true := beq_iff_eq.mpr c7
        have c7b1 : (t144 != t145) = false := bne_eq_false_iff_eq.mpr c7
        clear c7
        (first | rw [c7b0] | (simp only [i64_w, i32_w]; rw [c7b0]) | skip)
        replace H := Option.bind_eq_some_iff.mp H
        obtain ⟨t146, A80, H⟩ := H
        replace H : ((joustref03_Cos.f k a0).bind fun t147 => (joustlaw03_FixTurns.j0 k (t146 != t147))) = some r := H
        have A8 := Aside0.mk A80
        clear A80
        replace H := Option.bind_eq_some_iff.mp H
        obtain ⟨t147, A90, H⟩ := H
        replace H : (joustlaw03_FixTurns.j0 k (t146 != t147)) = some r := H
        have A9 := Aside0.mk A90
        clear A90
        have H' := Aside0.mk H
        clear H
        go_wp2_with (first | ((with_reducible refine gate_callee (f := 30) rfl ?_); refine goesL_ (some 7) rfl rfl Tryd.func30 (by kernel_rfl) rfl #[] rfl (by (try simp only [List.map_toArray, List.map_cons, List.map_nil]); first | done | rfl | (simp only [List.length_drop, List.length_take]; rfl)) ?_; (with_reducible refine (joustlaw03_fixed.calls  true _ A3.out (by first | ((repeat (first | exact HG.out | apply Sines.drewN | apply Sines.drew)); done) | exact Sines.below HG.out (by repeat (first | (with_reducible first | exact HB.out | apply below_alloc | apply pw_below_drewN | apply below_drew1) | exact HB.out)))).mono ?_); rintro e w10 ⟨rfl, hb⟩; refine ⟨_, rfl, ?_⟩; have n0_ := Aside0.mk (below_step (by repeat (first | (with_reducible first | exact HB.out | apply below_alloc | apply pw_below_drewN | apply below_drew1) | exact HB.out)) hb); clear HB; have HB := n0_; clear n0_; (try clear hb); (try clear hb2); (try clear hk); (try clear hi)) | (go_at_call 41; (with_reducible refine (fix_Sin.calls k a0 t144 _ A5.out (by first | ((repeat (first | exact HG.out | apply Sines.drewN | apply Sines.drew)); done) | exact Sines.below HG.out (by repeat (first | (with_reducible first | exact HB.out | apply below_alloc | apply pw_below_drewN | apply below_drew1) | exact HB.out)))).mono ?_); rintro e w' ⟨rfl, ⟨nd, rfl⟩⟩) | (go_at_call 42; (with_reducible refine (joustref03_Sin.calls k a0 t145 _ A6.out).mono ?_); rintro e w11 ⟨rfl, hb⟩; have n0_ := Aside0.mk (below_step (by repeat (first | (with_reducible first | exact HB.out | apply below_alloc | apply pw_below_drewN | apply below_drew1) | exact HB.out)) hb); clear HB; have HB := n0_; clear n0_; (try clear hb); (try clear hb2); (try clear hk); (try clear hi)) | (go_at_call 43; (with_reducible refine (fix_Cos.calls k a0 t146 _ A8.out (by first | ((repeat (first | exact HG.out | apply Sines.drewN | apply Sines.drew)); done) | exact Sines.below HG.out (by repeat (first | (with_reducible first | exact HB.out | apply below_alloc | apply pw_below_drewN | apply below_drew1) | exact HB.out)))).mono ?_); rintro e w' ⟨rfl, ⟨nd, rfl⟩⟩) | (go_at_call 44; (with_reducible refine (joustref03_Cos.calls k a0 t147 _ A9.out).mono ?_); rintro e w12 ⟨rfl, hb⟩; have n0_ := Aside0.mk (below_step (by repeat (first | (with_reducible first | exact HB.out | apply below_alloc | apply pw_below_drewN | apply below_drew1) | exact HB.out)) hb); clear HB; have HB := n0_; clear n0_; (try clear hb); (try clear hb2); (try clear hk); (try clear hi)))
        go_meet
        case rel => exact ⟨_, ((t146 != t147)), (by first | rfl | (simp; done) | (simp [*]; done)), H', ⟨by first | omega | exact Nat.le_refl _⟩, ⟨by repeat (first | (with_reducible first | exact HB.out | apply below_alloc | apply pw_below_drewN | apply below_drew1) | exact HB.out)⟩⟩
      · rw [if_neg c7] at H
        have c7b0 : (t144 == t145) = false := beq_eq_false_iff_ne.mpr c7
        have c7b1 : (t144 != t145) = true := bne_iff_ne.mpr c7
        (first | rw [c7b0] | (simp only [i64_w, i32_w]; rw [c7b0]) | skip)
        have H' := Aside0.mk H
        clear H
        go_wp2_with (first | ((with_reducible refine gate_callee (f := 30) rfl ?_); refine goesL_ (some 7) rfl rfl Tryd.func30 (by kernel_rfl) rfl #[] rfl (by (try simp only [List.map_toArray, List.map_cons, List.map_nil]); first | done | rfl | (simp only [List.length_drop, List.length_take]; rfl)) ?_; (with_reducible refine (joustlaw03_fixed.calls  true _ A3.out (by first | ((repeat (first | exact HG.out | apply Sines.drewN | apply Sines.drew)); done) | exact Sines.below HG.out (by repeat (first | (with_reducible first | exact HB.out | apply below_alloc | apply pw_below_drewN | apply below_drew1) | exact HB.out)))).mono ?_); rintro e w13 ⟨rfl, hb⟩; refine ⟨_, rfl, ?_⟩; have n0_ := Aside0.mk (below_step (by repeat (first | (with_reducible first | exact HB.out | apply below_alloc | apply pw_below_drewN | apply below_drew1) | exact HB.out)) hb); clear HB; have HB := n0_; clear n0_; (try clear hb); (try clear hb2); (try clear hk); (try clear hi)) | (go_at_call 41; (with_reducible refine (fix_Sin.calls k a0 t144 _ A5.out (by first | ((repeat (first | exact HG.out | apply Sines.drewN | apply Sines.drew)); done) | exact Sines.below HG.out (by repeat (first | (with_reducible first | exact HB.out | apply below_alloc | apply pw_below_drewN | apply below_drew1) | exact HB.out)))).mono ?_); rintro e w' ⟨rfl, ⟨nd, rfl⟩⟩) | (go_at_call 42; (with_reducible refine (joustref03_Sin.calls k a0 t145 _ A6.out).mono ?_); rintro e w14 ⟨rfl, hb⟩; have n0_ := Aside0.mk (below_step (by repeat (first | (with_reducible first | exact HB.out | apply below_alloc | apply pw_below_drewN | apply below_drew1) | exact HB.out)) hb); clear HB; have HB := n0_; clear n0_; (try clear hb); (try clear hb2); (try clear hk); (try clear hi)))
        go_meet
        case rel => exact ⟨_, (true), (by first | rfl | (simp; done) | (simp [*]; done)), H', ⟨by first | omega | exact Nat.le_refl _⟩, ⟨by repeat (first | (with_reducible first | exact HB.out | apply below_alloc | apply pw_below_drewN | apply below_drew1) | exact HB.out)⟩⟩
    · replace c4 := Bool.eq_false_iff.mpr c4
      subst c4
      have H1 : (joustlaw03_FixTurns.j0 k true) = some r := by rw [if_neg (show ¬ (false = true) by decide)] at H; exact H
      clear H
      have H := H1
      clear H1
      have H' := Aside0.mk H
      clear H
      go_wp2_with (first | ((with_reducible refine gate_callee (f := 30) rfl ?_); refine goesL_ (some 7) rfl rfl Tryd.func30 (by kernel_rfl) rfl #[] rfl (by (try simp only [List.map_toArray, List.map_cons, List.map_nil]); first | done | rfl | (simp only [List.length_drop, List.length_take]; rfl)) ?_; (with_reducible refine (joustlaw03_fixed.calls  false _ A3.out (by first | ((repeat (first | exact HG.out | apply Sines.drewN | apply Sines.drew)); done) | exact Sines.below HG.out (by repeat (first | (with_reducible first | exact HB.out | apply below_alloc | apply pw_below_drewN | apply below_drew1) | exact HB.out)))).mono ?_); rintro e w15 ⟨rfl, hb⟩; refine ⟨_, rfl, ?_⟩; have n0_ := Aside0.mk (below_step (by repeat (first | (with_reducible first | exact HB.out | apply below_alloc | apply pw_below_drewN | apply below_drew1) | exact HB.out)) hb); clear HB; have HB := n0_; clear n0_; (try clear hb); (try clear hb2); (try clear hk); (try clear hi)))
      go_meet
      case rel => exact ⟨_, (true), (by first | rfl | (simp; done) | (simp [*]; done)), H', ⟨by first | omega | exact Nat.le_refl _⟩, ⟨by repeat (first | (with_reducible first | exact HB.out | apply below_alloc | apply pw_below_drewN | apply below_drew1) | exact HB.out)⟩⟩
  case rest =>
    clear HC2
    try clear c1
    try clear p2
    try clear c3
    try clear c4
    try clear c7
    try clear c7b0
    try clear c7b1
    try clear c10
    obtain ⟨kq, x22_1, rfl, HA, HJ1, HB⟩ := hcut
    cases kq with
    | zero => exact absurd HA.out (by simp [joustlaw03_FixTurns.j0])
    | succ kj1 =>
      have H := HA.out
      clear HA
      simp only [joustlaw03_FixTurns.j0] at H
      by_cases c16 : x22_1 = true
      · subst c16
        have H1 : (some false) = some r := by rw [if_pos rfl] at H; exact H
        clear H
        have H := H1
        clear H1
        obtain rfl := Option.some.inj H
        go_wp2
        go_ret
        exact ⟨by first | rfl | (simp [errW_none, errW_some] <;> rfl) | (simp [*, errW_none, errW_some] <;> rfl), by repeat (first | (with_reducible first | exact HB.out | apply below_alloc | apply pw_below_drewN | apply below_drew1) | exact HB.out)⟩
      · replace c16 := Bool.eq_false_iff.mpr c16
        subst c16
        have H1 : (joustlaw03_FixTurns.l0 kj1 0) = some r := by rw [if_neg (show ¬ (false = true) by decide)] at H; exact H
        clear H
        have H := H1
        clear H1
        have H' := Aside0.mk H
        clear H
        go_wp2
        go_loopg [3] kj1 (fun kq v3 w' => ∃ (x3_2 : Int), v3 = .int .i64 x3_2 ∧ Aside0 (joustlaw03_FixTurns.l0 kq x3_2 = some r) ∧ Aside0 (kq ≤ kj1) ∧ Aside0 (Below w.heap.size w w'))
        case atStart => exact ⟨(0), (by first | rfl | (simp; done) | (simp [*]; done)), H', ⟨Nat.le_refl _⟩, ⟨by repeat (first | (with_reducible first | exact HB.out | apply below_alloc | apply pw_below_drewN | apply below_drew1) | exact HB.out)⟩⟩
        case round =>
          clear H'
          try clear c1
          try clear p2
          try clear c3
          try clear c4
          try clear c7
          try clear c7b0
          try clear c7b1
          try clear c10
          try clear c16
          try clear p2
          obtain ⟨x3_2, rfl, HA, HK2, HB⟩ := hrel
          cases gk with
          | zero => exact absurd HA.out (by simp [joustlaw03_FixTurns.l0])
          | succ k2 =>
            have H := HA.out
            clear HA
            simp only [joustlaw03_FixTurns.l0] at H
            by_cases c17 : x3_2 < 256
            · rw [if_pos c17] at H
              have c17b0 : decide (x3_2 < 256) = true := decide_eq_true c17
              clear c17
              replace H := Option.bind_eq_some_iff.mp H
              obtain ⟨t148, A180, H⟩ := H
              replace H : ((fix_Cos.f k2 x3_2).bind fun t149 => ((joustref03_Sin.f k2 x3_2).bind fun t150 => (if t148 = t150 then ((joustref03_Cos.f k2 x3_2).bind fun t151 => (if t149 = t151 then (if (wrap64 ((wrap64 ((wrap64 (t148 * t148)) + (wrap64 (t149 * t149)))) - 4294967296)) > 131072 then (joustlaw03_FixTurns.j2 k2 x3_2 t148 t149 true) else (joustlaw03_FixTurns.j2 k2 x3_2 t148 t149 (decide ((wrap64 ((wrap64 ((wrap64 (t148 * t148)) + (wrap64 (t149 * t149)))) - 4294967296)) < (-131072))))) else (joustlaw03_FixTurns.j2 k2 x3_2 t148 t149 true))) else (joustlaw03_FixTurns.j2 k2 x3_2 t148 t149 true)))) = some r := H
              have A18 := Aside0.mk A180
              clear A180
              replace H := Option.bind_eq_some_iff.mp H
              obtain ⟨t149, A190, H⟩ := H
              replace H : ((joustref03_Sin.f k2 x3_2).bind fun t150 => (if t148 = t150 then ((joustref03_Cos.f k2 x3_2).bind fun t151 => (if t149 = t151 then (if (wrap64 ((wrap64 ((wrap64 (t148 * t148)) + (wrap64 (t149 * t149)))) - 4294967296)) > 131072 then (joustlaw03_FixTurns.j2 k2 x3_2 t148 t149 true) else (joustlaw03_FixTurns.j2 k2 x3_2 t148 t149 (decide ((wrap64 ((wrap64 ((wrap64 (t148 * t148)) + (wrap64 (t149 * t149)))) - 4294967296)) < (-131072))))) else (joustlaw03_FixTurns.j2 k2 x3_2 t148 t149 true))) else (joustlaw03_FixTurns.j2 k2 x3_2 t148 t149 true))) = some r := H
              have A19 := Aside0.mk A190
              clear A190
              have HC20 := Aside0.mk H
              clear H
              go_upto_region 9 with (first | ((with_reducible refine gate_callee (f := 41) rfl ?_); refine goesL_ (some 28) rfl rfl Tryd.func41 (by kernel_rfl) rfl #[.int .i64 x3_2] rfl (by (try simp only [List.map_toArray, List.map_cons, List.map_nil]); first | done | rfl | (simp only [List.length_drop, List.length_take]; rfl)) ?_; (with_reducible refine (fix_Sin.calls k2 x3_2 t148 _ A18.out (by first | ((repeat (first | exact HG.out | apply Sines.drewN | apply Sines.drew)); done) | exact Sines.below HG.out (by repeat (first | (with_reducible first | exact HB.out | apply below_alloc | apply pw_below_drewN | apply below_drew1) | exact HB.out)))).mono ?_); rintro e w' ⟨rfl, ⟨nd, rfl⟩⟩; refine ⟨_, rfl, ?_⟩) | ((with_reducible refine gate_callee (f := 43) rfl ?_); refine goesL_ (some 30) rfl rfl Tryd.func43 (by kernel_rfl) rfl #[.int .i64 x3_2] rfl (by (try simp only [List.map_toArray, List.map_cons, List.map_nil]); first | done | rfl | (simp only [List.length_drop, List.length_take]; rfl)) ?_; (with_reducible refine (fix_Cos.calls k2 x3_2 t149 _ A19.out (by first | ((repeat (first | exact HG.out | apply Sines.drewN | apply Sines.drew)); done) | exact Sines.below HG.out (by repeat (first | (with_reducible first | exact HB.out | apply below_alloc | apply pw_below_drewN | apply below_drew1) | exact HB.out)))).mono ?_); rintro e w' ⟨rfl, ⟨nd, rfl⟩⟩; refine ⟨_, rfl, ?_⟩))
              (try simp only [Act.put, List.setIfInBounds_toArray, List.set_cons_zero, List.set_cons_succ])
              go_cut [56] (fun v56 wc => ∃ (kq : Nat) (x56_19 : Bool), v56 = .bool x56_19 ∧ Aside0 (joustlaw03_FixTurns.j2 kq x3_2 t148 t149 x56_19 = some r) ∧ Aside0 (kq ≤ k2) ∧ Aside0 (Below w.heap.size w wc))
              case first =>
                have H := HC20.out
                clear HC20
                replace H := Option.bind_eq_some_iff.mp H
                obtain ⟨t150, A210, H⟩ := H
                replace H : (if t148 = t150 then ((joustref03_Cos.f k2 x3_2).bind fun t151 => (if t149 = t151 then (if (wrap64 ((wrap64 ((wrap64 (t148 * t148)) + (wrap64 (t149 * t149)))) - 4294967296)) > 131072 then (joustlaw03_FixTurns.j2 k2 x3_2 t148 t149 true) else (joustlaw03_FixTurns.j2 k2 x3_2 t148 t149 (decide ((wrap64 ((wrap64 ((wrap64 (t148 * t148)) + (wrap64 (t149 * t149)))) - 4294967296)) < (-131072))))) else (joustlaw03_FixTurns.j2 k2 x3_2 t148 t149 true))) else (joustlaw03_FixTurns.j2 k2 x3_2 t148 t149 true)) = some r := H
                have A21 := Aside0.mk A210
                clear A210
                by_cases c22 : t148 = t150
                · rw [if_pos c22] at H
                  have c22b0 : (t148 == t150) = true := beq_iff_eq.mpr c22
                  have c22b1 : (t148 != t150) = false := bne_eq_false_iff_eq.mpr c22
                  clear c22
                  (first | rw [c22b0] | (simp only [i64_w, i32_w]; rw [c22b0]) | skip)
                  replace H := Option.bind_eq_some_iff.mp H
                  obtain ⟨t151, A230, H⟩ := H
                  replace H : (if t149 = t151 then (if (wrap64 ((wrap64 ((wrap64 (t148 * t148)) + (wrap64 (t149 * t149)))) - 4294967296)) > 131072 then (joustlaw03_FixTurns.j2 k2 x3_2 t148 t149 true) else (joustlaw03_FixTurns.j2 k2 x3_2 t148 t149 (decide ((wrap64 ((wrap64 ((wrap64 (t148 * t148)) + (wrap64 (t149 * t149)))) - 4294967296)) < (-131072))))) else (joustlaw03_FixTurns.j2 k2 x3_2 t148 t149 true)) = some r := H
                  have A23 := Aside0.mk A230
                  clear A230
                  by_cases c24 : t149 = t151
                  · rw [if_pos c24] at H
                    have c24b0 : (t149 == t151) = true := beq_iff_eq.mpr c24
                    have c24b1 : (t149 != t151) = false := bne_eq_false_iff_eq.mpr c24
                    clear c24
                    by_cases c25 : (wrap64 ((wrap64 ((wrap64 (t148 * t148)) + (wrap64 (t149 * t149)))) - 4294967296)) > 131072
                    · rw [if_pos c25] at H
                      have c25b0 : decide (131072 < (wrap64 ((wrap64 ((wrap64 (t148 * t148)) + (wrap64 (t149 * t149)))) - 4294967296))) = true := decide_eq_true c25
                      clear c25
                      have H' := Aside0.mk H
                      clear H
                      go_wp2_with (first | ((with_reducible refine gate_callee (f := 42) rfl ?_); refine goesL_ (some 41) rfl rfl Tryd.func42 (by kernel_rfl) rfl #[.int .i64 x3_2] rfl (by (try simp only [List.map_toArray, List.map_cons, List.map_nil]); first | done | rfl | (simp only [List.length_drop, List.length_take]; rfl)) ?_; (with_reducible refine (joustref03_Sin.calls k2 x3_2 t150 _ A21.out).mono ?_); rintro e w26 ⟨rfl, hb⟩; refine ⟨_, rfl, ?_⟩; have n0_ := Aside0.mk (below_step (by repeat (first | (with_reducible first | exact HB.out | apply below_alloc | apply pw_below_drewN | apply below_drew1) | exact HB.out)) hb); clear HB; have HB := n0_; clear n0_; (try clear hb); (try clear hb2); (try clear hk); (try clear hi)) | (go_at_call 44; (with_reducible refine (joustref03_Cos.calls k2 x3_2 t151 _ A23.out).mono ?_); rintro e w27 ⟨rfl, hb⟩; have n0_ := Aside0.mk (below_step (by repeat (first | (with_reducible first | exact HB.out | apply below_alloc | apply pw_below_drewN | apply below_drew1) | exact HB.out)) hb); clear HB; have HB := n0_; clear n0_; (try clear hb); (try clear hb2); (try clear hk); (try clear hi)))
                      go_meet
                      case rel => exact ⟨_, (true), (by first | rfl | (simp; done) | (simp [*]; done)), H', ⟨by have := HJ1.out; have := HK2.out; first | omega | exact Nat.le_refl _⟩, ⟨by repeat (first | (with_reducible first | exact HB.out | apply below_alloc | apply pw_below_drewN | apply below_drew1) | exact HB.out)⟩⟩
                    · rw [if_neg c25] at H
                      have c25b0 : decide (131072 < (wrap64 ((wrap64 ((wrap64 (t148 * t148)) + (wrap64 (t149 * t149)))) - 4294967296))) = false := decide_eq_false c25
                      clear c25
                      have H' := Aside0.mk H
                      clear H
                      go_wp2_with (first | ((with_reducible refine gate_callee (f := 42) rfl ?_); refine goesL_ (some 41) rfl rfl Tryd.func42 (by kernel_rfl) rfl #[.int .i64 x3_2] rfl (by (try simp only [List.map_toArray, List.map_cons, List.map_nil]); first | done | rfl | (simp only [List.length_drop, List.length_take]; rfl)) ?_; (with_reducible refine (joustref03_Sin.calls k2 x3_2 t150 _ A21.out).mono ?_); rintro e w28 ⟨rfl, hb⟩; refine ⟨_, rfl, ?_⟩; have n0_ := Aside0.mk (below_step (by repeat (first | (with_reducible first | exact HB.out | apply below_alloc | apply pw_below_drewN | apply below_drew1) | exact HB.out)) hb); clear HB; have HB := n0_; clear n0_; (try clear hb); (try clear hb2); (try clear hk); (try clear hi)) | (go_at_call 44; (with_reducible refine (joustref03_Cos.calls k2 x3_2 t151 _ A23.out).mono ?_); rintro e w29 ⟨rfl, hb⟩; have n0_ := Aside0.mk (below_step (by repeat (first | (with_reducible first | exact HB.out | apply below_alloc | apply pw_below_drewN | apply below_drew1) | exact HB.out)) hb); clear HB; have HB := n0_; clear n0_; (try clear hb); (try clear hb2); (try clear hk); (try clear hi)))
                      go_meet
                      case rel => exact ⟨_, (decide ((wrap64 ((wrap64 ((wrap64 (t148 * t148)) + (wrap64 (t149 * t149)))) - 4294967296)) < (-131072))), (by first | rfl | (simp; done) | (simp [*]; done)), H', ⟨by have := HJ1.out; have := HK2.out; first | omega | exact Nat.le_refl _⟩, ⟨by repeat (first | (with_reducible first | exact HB.out | apply below_alloc | apply pw_below_drewN | apply below_drew1) | exact HB.out)⟩⟩
                  · rw [if_neg c24] at H
                    have c24b0 : (t149 == t151) = false := beq_eq_false_iff_ne.mpr c24
                    have c24b1 : (t149 != t151) = true := bne_iff_ne.mpr c24
                    have H' := Aside0.mk H
                    clear H
                    go_wp2_with (first | ((with_reducible refine gate_callee (f := 42) rfl ?_); refine goesL_ (some 41) rfl rfl Tryd.func42 (by kernel_rfl) rfl #[.int .i64 x3_2] rfl (by (try simp only [List.map_toArray, List.map_cons, List.map_nil]); first | done | rfl | (simp only [List.length_drop, List.length_take]; rfl)) ?_; (with_reducible refine (joustref03_Sin.calls k2 x3_2 t150 _ A21.out).mono ?_); rintro e w30 ⟨rfl, hb⟩; refine ⟨_, rfl, ?_⟩; have n0_ := Aside0.mk (below_step (by repeat (first | (with_reducible first | exact HB.out | apply below_alloc | apply pw_below_drewN | apply below_drew1) | exact HB.out)) hb); clear HB; have HB := n0_; clear n0_; (try clear hb); (try clear hb2); (try clear hk); (try clear hi)) | (go_at_call 44; (with_reducible refine (joustref03_Cos.calls k2 x3_2 t151 _ A23.out).mono ?_); rintro e w31 ⟨rfl, hb⟩; have n0_ := Aside0.mk (below_step (by repeat (first | (with_reducible first | exact HB.out | apply below_alloc | apply pw_below_drewN | apply below_drew1) | exact HB.out)) hb); clear HB; have HB := n0_; clear n0_; (try clear hb); (try clear hb2); (try clear hk); (try clear hi)))
                    go_meet
                    case rel => exact ⟨_, (true), (by first | rfl | (simp; done) | (simp [*]; done)), H', ⟨by have := HJ1.out; have := HK2.out; first | omega | exact Nat.le_refl _⟩, ⟨by repeat (first | (with_reducible first | exact HB.out | apply below_alloc | apply pw_below_drewN | apply below_drew1) | exact HB.out)⟩⟩
                · rw [if_neg c22] at H
                  have c22b0 : (t148 == t150) = false := beq_eq_false_iff_ne.mpr c22
                  have c22b1 : (t148 != t150) = true := bne_iff_ne.mpr c22
                  (first | rw [c22b0] | (simp only [i64_w, i32_w]; rw [c22b0]) | skip)
                  have H' := Aside0.mk H
                  clear H
                  go_wp2_with (first | ((with_reducible refine gate_callee (f := 42) rfl ?_); refine goesL_ (some 41) rfl rfl Tryd.func42 (by kernel_rfl) rfl #[.int .i64 x3_2] rfl (by (try simp only [List.map_toArray, List.map_cons, List.map_nil]); first | done | rfl | (simp only [List.length_drop, List.length_take]; rfl)) ?_; (with_reducible refine (joustref03_Sin.calls k2 x3_2 t150 _ A21.out).mono ?_); rintro e w32 ⟨rfl, hb⟩; refine ⟨_, rfl, ?_⟩; have n0_ := Aside0.mk (below_step (by repeat (first | (with_reducible first | exact HB.out | apply below_alloc | apply pw_below_drewN | apply below_drew1) | exact HB.out)) hb); clear HB; have HB := n0_; clear n0_; (try clear hb); (try clear hb2); (try clear hk); (try clear hi)))
                  go_meet
                  case rel => exact ⟨_, (true), (by first | rfl | (simp; done) | (simp [*]; done)), H', ⟨by have := HJ1.out; have := HK2.out; first | omega | exact Nat.le_refl _⟩, ⟨by repeat (first | (with_reducible first | exact HB.out | apply below_alloc | apply pw_below_drewN | apply below_drew1) | exact HB.out)⟩⟩
              case rest =>
                clear HC20
                try clear c1
                try clear c2
                try clear p2
                try clear c3
                try clear c4
                try clear p6
                try clear c7
                try clear c7b0
                try clear c7b1
                try clear c10
                try clear c16
                try clear c17
                try clear c17b0
                try clear c22
                try clear c22b0
                try clear c22b1
                try clear c24
                try clear c24b0
                try clear c24b1
                try clear c25
                try clear c25b0
                try clear c30
                try clear p2
                obtain ⟨kq, x56_19, rfl, HA, HJ19, HB⟩ := hcut
                cases kq with
                | zero => exact absurd HA.out (by simp [joustlaw03_FixTurns.j2])
                | succ kj19 =>
                  have H := HA.out
                  clear HA
                  simp only [joustlaw03_FixTurns.j2] at H
                  by_cases c33 : x56_19 = true
                  · subst c33
                    have H1 : (some false) = some r := by rw [if_pos rfl] at H; exact H
                    clear H
                    have H := H1
                    clear H1
                    obtain rfl := Option.some.inj H
                    go_wp2
                    go_ret
                    exact ⟨by first | rfl | (simp [errW_none, errW_some] <;> rfl) | (simp [*, errW_none, errW_some] <;> rfl), by repeat (first | (with_reducible first | exact HB.out | apply below_alloc | apply pw_below_drewN | apply below_drew1) | exact HB.out)⟩
                  · replace c33 := Bool.eq_false_iff.mpr c33
                    subst c33
                    have H1 : ((fix_Sin.f kj19 (wrap64 (x3_2 + 128))).bind fun t152 => (if t152 = (wrap64 (-t148)) then ((fix_Sin.f kj19 (wrap64 (128 - x3_2))).bind fun t153 => (if t153 = t148 then ((fix_Cos.f kj19 (wrap64 (-x3_2))).bind fun t154 => (if t154 = t149 then (if t148 > 65536 then (some false) else (if t148 < (-65536) then (some false) else (joustlaw03_FixTurns.l0 kj19 (wrap64 (x3_2 + 1))))) else (some false))) else (some false))) else (some false))) = some r := by rw [if_neg (show ¬ (false = true) by decide)] at H; exact H
                    clear H
                    have H := H1
                    clear H1
                    replace H := Option.bind_eq_some_iff.mp H
                    obtain ⟨t152, A340, H⟩ := H
                    replace H : (if t152 = (wrap64 (-t148)) then ((fix_Sin.f kj19 (wrap64 (128 - x3_2))).bind fun t153 => (if t153 = t148 then ((fix_Cos.f kj19 (wrap64 (-x3_2))).bind fun t154 => (if t154 = t149 then (if t148 > 65536 then (some false) else (if t148 < (-65536) then (some false) else (joustlaw03_FixTurns.l0 kj19 (wrap64 (x3_2 + 1))))) else (some false))) else (some false))) else (some false)) = some r := H
                    have A34 := Aside0.mk A340
                    clear A340
                    by_cases c35 : t152 = (wrap64 (-t148))
                    · rw [if_pos c35] at H
                      have c35b0 : (t152 == (wrap64 (-t148))) = true := beq_iff_eq.mpr c35
                      have c35b1 : (t152 != (wrap64 (-t148))) = false := bne_eq_false_iff_eq.mpr c35
                      clear c35
                      replace H := Option.bind_eq_some_iff.mp H
                      obtain ⟨t153, A360, H⟩ := H
                      replace H : (if t153 = t148 then ((fix_Cos.f kj19 (wrap64 (-x3_2))).bind fun t154 => (if t154 = t149 then (if t148 > 65536 then (some false) else (if t148 < (-65536) then (some false) else (joustlaw03_FixTurns.l0 kj19 (wrap64 (x3_2 + 1))))) else (some false))) else (some false)) = some r := H
                      have A36 := Aside0.mk A360
                      clear A360
                      by_cases c37 : t153 = t148
                      · rw [if_pos c37] at H
                        have c37b0 : (t153 == t148) = true := beq_iff_eq.mpr c37
                        have c37b1 : (t153 != t148) = false := bne_eq_false_iff_eq.mpr c37
                        clear c37
                        replace H := Option.bind_eq_some_iff.mp H
                        obtain ⟨t154, A380, H⟩ := H
                        replace H : (if t154 = t149 then (if t148 > 65536 then (some false) else (if t148 < (-65536) then (some false) else (joustlaw03_FixTurns.l0 kj19 (wrap64 (x3_2 + 1))))) else (some false)) = some r := H
                        have A38 := Aside0.mk A380
                        clear A380
                        by_cases c39 : t154 = t149
                        · rw [if_pos c39] at H
                          have c39b0 : (t154 == t149) = true := beq_iff_eq.mpr c39
                          have c39b1 : (t154 != t149) = false := bne_eq_false_iff_eq.mpr c39
                          clear c39
                          by_cases c40 : t148 > 65536
                          · rw [if_pos c40] at H
                            have c40b0 : decide (65536 < t148) = true := decide_eq_true c40
                            clear c40
                            obtain rfl := Option.some.inj H
                            go_wp2_with (first | ((with_reducible refine gate_callee (f := 41) rfl ?_); refine goesL_ (some 59) rfl rfl Tryd.func41 (by kernel_rfl) rfl #[.int .i64 (wrap64 (x3_2 + 128))] rfl (by (try simp only [List.map_toArray, List.map_cons, List.map_nil]); first | done | rfl | (simp only [List.length_drop, List.length_take]; rfl)) ?_; (with_reducible refine (fix_Sin.calls kj19 (wrap64 (x3_2 + 128)) t152 _ A34.out (by first | ((repeat (first | exact HG.out | apply Sines.drewN | apply Sines.drew)); done) | exact Sines.below HG.out (by repeat (first | (with_reducible first | exact HB.out | apply below_alloc | apply pw_below_drewN | apply below_drew1) | exact HB.out)))).mono ?_); rintro e w' ⟨rfl, ⟨nd, rfl⟩⟩; refine ⟨_, rfl, ?_⟩) | (go_at_call 41; (with_reducible refine (fix_Sin.calls kj19 (wrap64 (128 - x3_2)) t153 _ A36.out (by first | ((repeat (first | exact HG.out | apply Sines.drewN | apply Sines.drew)); done) | exact Sines.below HG.out (by repeat (first | (with_reducible first | exact HB.out | apply below_alloc | apply pw_below_drewN | apply below_drew1) | exact HB.out)))).mono ?_); rintro e w' ⟨rfl, ⟨nd, rfl⟩⟩) | (go_at_call 43; (with_reducible refine (fix_Cos.calls kj19 (wrap64 (-x3_2)) t154 _ A38.out (by first | ((repeat (first | exact HG.out | apply Sines.drewN | apply Sines.drew)); done) | exact Sines.below HG.out (by repeat (first | (with_reducible first | exact HB.out | apply below_alloc | apply pw_below_drewN | apply below_drew1) | exact HB.out)))).mono ?_); rintro e w' ⟨rfl, ⟨nd, rfl⟩⟩))
                            go_ret
                            exact ⟨by first | rfl | (simp [errW_none, errW_some] <;> rfl) | (simp [*, errW_none, errW_some] <;> rfl), by repeat (first | (with_reducible first | exact HB.out | apply below_alloc | apply pw_below_drewN | apply below_drew1) | exact HB.out)⟩
                          · rw [if_neg c40] at H
                            have c40b0 : decide (65536 < t148) = false := decide_eq_false c40
                            clear c40
                            by_cases c41 : t148 < (-65536)
                            · rw [if_pos c41] at H
                              have c41b0 : decide (t148 < (-65536)) = true := decide_eq_true c41
                              clear c41
                              obtain rfl := Option.some.inj H
                              go_wp2_with (first | ((with_reducible refine gate_callee (f := 41) rfl ?_); refine goesL_ (some 59) rfl rfl Tryd.func41 (by kernel_rfl) rfl #[.int .i64 (wrap64 (x3_2 + 128))] rfl (by (try simp only [List.map_toArray, List.map_cons, List.map_nil]); first | done | rfl | (simp only [List.length_drop, List.length_take]; rfl)) ?_; (with_reducible refine (fix_Sin.calls kj19 (wrap64 (x3_2 + 128)) t152 _ A34.out (by first | ((repeat (first | exact HG.out | apply Sines.drewN | apply Sines.drew)); done) | exact Sines.below HG.out (by repeat (first | (with_reducible first | exact HB.out | apply below_alloc | apply pw_below_drewN | apply below_drew1) | exact HB.out)))).mono ?_); rintro e w' ⟨rfl, ⟨nd, rfl⟩⟩; refine ⟨_, rfl, ?_⟩) | (go_at_call 41; (with_reducible refine (fix_Sin.calls kj19 (wrap64 (128 - x3_2)) t153 _ A36.out (by first | ((repeat (first | exact HG.out | apply Sines.drewN | apply Sines.drew)); done) | exact Sines.below HG.out (by repeat (first | (with_reducible first | exact HB.out | apply below_alloc | apply pw_below_drewN | apply below_drew1) | exact HB.out)))).mono ?_); rintro e w' ⟨rfl, ⟨nd, rfl⟩⟩) | (go_at_call 43; (with_reducible refine (fix_Cos.calls kj19 (wrap64 (-x3_2)) t154 _ A38.out (by first | ((repeat (first | exact HG.out | apply Sines.drewN | apply Sines.drew)); done) | exact Sines.below HG.out (by repeat (first | (with_reducible first | exact HB.out | apply below_alloc | apply pw_below_drewN | apply below_drew1) | exact HB.out)))).mono ?_); rintro e w' ⟨rfl, ⟨nd, rfl⟩⟩))
                              go_ret
                              exact ⟨by first | rfl | (simp [errW_none, errW_some] <;> rfl) | (simp [*, errW_none, errW_some] <;> rfl), by repeat (first | (with_reducible first | exact HB.out | apply below_alloc | apply pw_below_drewN | apply below_drew1) | exact HB.out)⟩
                            · rw [if_neg c41] at H
                              have c41b0 : decide (t148 < (-65536)) = false := decide_eq_false c41
                              clear c41
                              have H' := Aside0.mk H
                              clear H
                              go_wp2_with (first | ((with_reducible refine gate_callee (f := 41) rfl ?_); refine goesL_ (some 59) rfl rfl Tryd.func41 (by kernel_rfl) rfl #[.int .i64 (wrap64 (x3_2 + 128))] rfl (by (try simp only [List.map_toArray, List.map_cons, List.map_nil]); first | done | rfl | (simp only [List.length_drop, List.length_take]; rfl)) ?_; (with_reducible refine (fix_Sin.calls kj19 (wrap64 (x3_2 + 128)) t152 _ A34.out (by first | ((repeat (first | exact HG.out | apply Sines.drewN | apply Sines.drew)); done) | exact Sines.below HG.out (by repeat (first | (with_reducible first | exact HB.out | apply below_alloc | apply pw_below_drewN | apply below_drew1) | exact HB.out)))).mono ?_); rintro e w' ⟨rfl, ⟨nd, rfl⟩⟩; refine ⟨_, rfl, ?_⟩) | (go_at_call 41; (with_reducible refine (fix_Sin.calls kj19 (wrap64 (128 - x3_2)) t153 _ A36.out (by first | ((repeat (first | exact HG.out | apply Sines.drewN | apply Sines.drew)); done) | exact Sines.below HG.out (by repeat (first | (with_reducible first | exact HB.out | apply below_alloc | apply pw_below_drewN | apply below_drew1) | exact HB.out)))).mono ?_); rintro e w' ⟨rfl, ⟨nd, rfl⟩⟩) | (go_at_call 43; (with_reducible refine (fix_Cos.calls kj19 (wrap64 (-x3_2)) t154 _ A38.out (by first | ((repeat (first | exact HG.out | apply Sines.drewN | apply Sines.drew)); done) | exact Sines.below HG.out (by repeat (first | (with_reducible first | exact HB.out | apply below_alloc | apply pw_below_drewN | apply below_drew1) | exact HB.out)))).mono ?_); rintro e w' ⟨rfl, ⟨nd, rfl⟩⟩))
                              go_roundg kj19
                              case measure => have := HJ1.out; have := HK2.out; have := HJ19.out; omega
                              case rel => exact ⟨(wrap64 (x3_2 + 1)), (by first | rfl | (simp; done) | (simp [*]; done)), H', ⟨by have := HJ1.out; have := HK2.out; have := HJ19.out; omega⟩, ⟨by repeat (first | (with_reducible first | exact HB.out | apply below_alloc | apply pw_below_drewN | apply below_drew1) | exact HB.out)⟩⟩
                        · rw [if_neg c39] at H
                          have c39b0 : (t154 == t149) = false := beq_eq_false_iff_ne.mpr c39
                          have c39b1 : (t154 != t149) = true := bne_iff_ne.mpr c39
                          obtain rfl := Option.some.inj H
                          go_wp2_with (first | ((with_reducible refine gate_callee (f := 41) rfl ?_); refine goesL_ (some 59) rfl rfl Tryd.func41 (by kernel_rfl) rfl #[.int .i64 (wrap64 (x3_2 + 128))] rfl (by (try simp only [List.map_toArray, List.map_cons, List.map_nil]); first | done | rfl | (simp only [List.length_drop, List.length_take]; rfl)) ?_; (with_reducible refine (fix_Sin.calls kj19 (wrap64 (x3_2 + 128)) t152 _ A34.out (by first | ((repeat (first | exact HG.out | apply Sines.drewN | apply Sines.drew)); done) | exact Sines.below HG.out (by repeat (first | (with_reducible first | exact HB.out | apply below_alloc | apply pw_below_drewN | apply below_drew1) | exact HB.out)))).mono ?_); rintro e w' ⟨rfl, ⟨nd, rfl⟩⟩; refine ⟨_, rfl, ?_⟩) | (go_at_call 41; (with_reducible refine (fix_Sin.calls kj19 (wrap64 (128 - x3_2)) t153 _ A36.out (by first | ((repeat (first | exact HG.out | apply Sines.drewN | apply Sines.drew)); done) | exact Sines.below HG.out (by repeat (first | (with_reducible first | exact HB.out | apply below_alloc | apply pw_below_drewN | apply below_drew1) | exact HB.out)))).mono ?_); rintro e w' ⟨rfl, ⟨nd, rfl⟩⟩) | (go_at_call 43; (with_reducible refine (fix_Cos.calls kj19 (wrap64 (-x3_2)) t154 _ A38.out (by first | ((repeat (first | exact HG.out | apply Sines.drewN | apply Sines.drew)); done) | exact Sines.below HG.out (by repeat (first | (with_reducible first | exact HB.out | apply below_alloc | apply pw_below_drewN | apply below_drew1) | exact HB.out)))).mono ?_); rintro e w' ⟨rfl, ⟨nd, rfl⟩⟩))
                          go_ret
                          exact ⟨by first | rfl | (simp [errW_none, errW_some] <;> rfl) | (simp [*, errW_none, errW_some] <;> rfl), by repeat (first | (with_reducible first | exact HB.out | apply below_alloc | apply pw_below_drewN | apply below_drew1) | exact HB.out)⟩
                      · rw [if_neg c37] at H
                        have c37b0 : (t153 == t148) = false := beq_eq_false_iff_ne.mpr c37
                        have c37b1 : (t153 != t148) = true := bne_iff_ne.mpr c37
                        obtain rfl := Option.some.inj H
                        go_wp2_with (first | ((with_reducible refine gate_callee (f := 41) rfl ?_); refine goesL_ (some 59) rfl rfl Tryd.func41 (by kernel_rfl) rfl #[.int .i64 (wrap64 (x3_2 + 128))] rfl (by (try simp only [List.map_toArray, List.map_cons, List.map_nil]); first | done | rfl | (simp only [List.length_drop, List.length_take]; rfl)) ?_; (with_reducible refine (fix_Sin.calls kj19 (wrap64 (x3_2 + 128)) t152 _ A34.out (by first | ((repeat (first | exact HG.out | apply Sines.drewN | apply Sines.drew)); done) | exact Sines.below HG.out (by repeat (first | (with_reducible first | exact HB.out | apply below_alloc | apply pw_below_drewN | apply below_drew1) | exact HB.out)))).mono ?_); rintro e w' ⟨rfl, ⟨nd, rfl⟩⟩; refine ⟨_, rfl, ?_⟩) | (go_at_call 41; (with_reducible refine (fix_Sin.calls kj19 (wrap64 (128 - x3_2)) t153 _ A36.out (by first | ((repeat (first | exact HG.out | apply Sines.drewN | apply Sines.drew)); done) | exact Sines.below HG.out (by repeat (first | (with_reducible first | exact HB.out | apply below_alloc | apply pw_below_drewN | apply below_drew1) | exact HB.out)))).mono ?_); rintro e w' ⟨rfl, ⟨nd, rfl⟩⟩))
                        go_ret
                        exact ⟨by first | rfl | (simp [errW_none, errW_some] <;> rfl) | (simp [*, errW_none, errW_some] <;> rfl), by repeat (first | (with_reducible first | exact HB.out | apply below_alloc | apply pw_below_drewN | apply below_drew1) | exact HB.out)⟩
                    · rw [if_neg c35] at H
                      have c35b0 : (t152 == (wrap64 (-t148))) = false := beq_eq_false_iff_ne.mpr c35
                      have c35b1 : (t152 != (wrap64 (-t148))) = true := bne_iff_ne.mpr c35
                      obtain rfl := Option.some.inj H
                      go_wp2_with (first | ((with_reducible refine gate_callee (f := 41) rfl ?_); refine goesL_ (some 59) rfl rfl Tryd.func41 (by kernel_rfl) rfl #[.int .i64 (wrap64 (x3_2 + 128))] rfl (by (try simp only [List.map_toArray, List.map_cons, List.map_nil]); first | done | rfl | (simp only [List.length_drop, List.length_take]; rfl)) ?_; (with_reducible refine (fix_Sin.calls kj19 (wrap64 (x3_2 + 128)) t152 _ A34.out (by first | ((repeat (first | exact HG.out | apply Sines.drewN | apply Sines.drew)); done) | exact Sines.below HG.out (by repeat (first | (with_reducible first | exact HB.out | apply below_alloc | apply pw_below_drewN | apply below_drew1) | exact HB.out)))).mono ?_); rintro e w' ⟨rfl, ⟨nd, rfl⟩⟩; refine ⟨_, rfl, ?_⟩))
                      go_ret
                      exact ⟨by first | rfl | (simp [errW_none, errW_some] <;> rfl) | (simp [*, errW_none, errW_some] <;> rfl), by repeat (first | (with_reducible first | exact HB.out | apply below_alloc | apply pw_below_drewN | apply below_drew1) | exact HB.out)⟩
            · rw [if_neg c17] at H
              have c17b0 : decide (x3_2 < 256) = false := decide_eq_false c17
              clear c17
              obtain rfl := Option.some.inj H
              go_wp2
              go_ret
              exact ⟨by first | rfl | (simp [errW_none, errW_some] <;> rfl) | (simp [*, errW_none, errW_some] <;> rfl), by repeat (first | (with_reducible first | exact HB.out | apply below_alloc | apply pw_below_drewN | apply below_drew1) | exact HB.out)⟩

/-- THE ONE PURE STATEMENT of joustlaw03_FixTurns: yours. -/
def joustlaw03_FixTurns.Pure : Prop := ∀ (a0 : Int), (Lit.int .i64 a0).wf = true → ∃ k, joustlaw03_FixTurns.f k a0 = some true
end Go.Proofs.YtnknbikkgohlmaaDoor.VFixTurns
