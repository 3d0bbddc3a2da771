/- FixBounds and what it calls: printed by wip/gen/vprint.py (functions joust/fix.Sin, joust/joustlaw03.fixed are given) -/
import Derived.Test.YtnknbikkgohlmaaDoorVFixBoundsx0
import Derived.Test.YtnknbikkgohlmaaDoorVFixBoundsx1
import Derived.Test.YtnknbikkgohlmaaDoorVFixBoundsx2
namespace Go.Proofs.YtnknbikkgohlmaaDoor.VFixBounds
open Go.RowKit Go.Proofs.YtnknbikkgohlmaaDoorW.PrintWords Go.Proofs.YtnknbikkgohlmaaDoorW.PrintLast Go.Proofs.YtnknbikkgohlmaaDoorW.PrintMore Go.Proofs.YtnknbikkgohlmaaDoor.VFixB
attribute [local go_sem] max2_int min2_int max_two min_two max_three min_three max_four min_four   -- for this text's walks alone
set_option linter.unusedVariables false
set_option linter.unusedSimpArgs false

/-! ### joustlaw03_FixBounds: function 12 -/
def joustlaw03_FixBounds.j0 : Nat → Int → Int → Bool → Option (Bool)
  | 0, _, _, _ => none
  | k + 1, x0, x1, x57 => if x57 = true then (some false) else ((fix_Clamp.f x0 (-1099511627776) 1099511627776).bind fun t140 => ((fix_Add.f k x0 0).bind fun t141 => (if t141 = t140 then ((fix_Mul.f x0 65536).bind fun t142 => (if t142 = t140 then ((fix_Div.f k x0 65536).bind fun t143 => (if t143 = t140 then ((fix_Mul.f x0 0).bind fun t144 => (if t144 = 0 then ((fix_Div.f k 0 x1).bind fun t145 => (if t145 = 0 then (if x0 = 0 then (some true) else ((fix_Div.f k x0 x0).bind fun t146 => (some (t146 == 65536)))) else (some false))) else (some false))) else (some false))) else (some false))) else (some false))))
def joustlaw03_FixBounds.f (k : Nat) (a0 : Int) (a1 : Int) : Option (Bool) := (joustlaw03_fixed.f).bind fun t130 => (if t130 = true then ((fix_Add.f k a0 a1).bind fun t131 => ((fix_Mul.f a0 a1).bind fun t132 => ((fix_Div.f k a0 a1).bind fun t133 => ((fix_Root.f k a0).bind fun t134 => ((joustlaw03_within.f t131).bind fun t135 => (if t135 = true then ((joustlaw03_within.f t132).bind fun t136 => (if t136 = true then ((joustlaw03_within.f t133).bind fun t137 => (if t137 = true then (if t134 < 0 then (joustlaw03_FixBounds.j0 k a0 a1 true) else (if t134 ≥ 1099511627776 then (joustlaw03_FixBounds.j0 k a0 a1 true) else ((fix_Add.f k a1 a0).bind fun t138 => (if t131 = t138 then ((fix_Mul.f a1 a0).bind fun t139 => (joustlaw03_FixBounds.j0 k a0 a1 (t132 != t139))) else (joustlaw03_FixBounds.j0 k a0 a1 true))))) else (joustlaw03_FixBounds.j0 k a0 a1 true))) else (joustlaw03_FixBounds.j0 k a0 a1 true))) else (joustlaw03_FixBounds.j0 k a0 a1 true))))))) else (some false))
theorem joustlaw03_FixBounds.mono_l : ∀ k, (∀ y0 y1 y2, LeO (joustlaw03_FixBounds.j0 k y0 y1 y2) (joustlaw03_FixBounds.j0 (k + 1) y0 y1 y2))
  | 0 => fun _ _ _ r h => by simp [joustlaw03_FixBounds.j0] at h
  | k + 1 => by
    have ih0 := joustlaw03_FixBounds.mono_l k
    · intro y0 y1 y2
      unfold joustlaw03_FixBounds.j0
      repeat' first
      | (with_reducible exact ih0 _ _ _)
      | (with_reducible exact fix_Add.mono _ _ _)
      | (with_reducible exact fix_Div.mono _ _ _)
      | (with_reducible exact fix_Root.mono _ _)
      | (with_reducible exact LeO.refl _)
      | (with_reducible exact LeO.none _)
      | (with_reducible refine LeO.ite ?_ ?_)
      | (with_reducible refine LeO.bind ?_ (fun _ => ?_))
      | exact ih0 _ _ _
      | exact fix_Add.mono _ _ _
      | exact fix_Div.mono _ _ _
      | exact fix_Root.mono _ _
      | exact LeO.none _
      | refine LeO.ite ?_ ?_
      | refine LeO.bind ?_ (fun _ => ?_)
theorem joustlaw03_FixBounds.mono : ∀ a0 a1 k, LeO (joustlaw03_FixBounds.f k a0 a1) (joustlaw03_FixBounds.f (k + 1) a0 a1) := by
  intro a0 a1 k
  have ih0 := joustlaw03_FixBounds.mono_l k
  unfold joustlaw03_FixBounds.f
  repeat' first
      | (with_reducible exact ih0 _ _ _)
      | (with_reducible exact fix_Add.mono _ _ _)
      | (with_reducible exact fix_Div.mono _ _ _)
      | (with_reducible exact fix_Root.mono _ _)
      | (with_reducible exact LeO.refl _)
      | (with_reducible exact LeO.none _)
      | (with_reducible refine LeO.ite ?_ ?_)
      | (with_reducible refine LeO.bind ?_ (fun _ => ?_))
      | exact ih0 _ _ _
      | exact fix_Add.mono _ _ _
      | exact fix_Div.mono _ _ _
      | exact fix_Root.mono _ _
      | exact LeO.none _
      | refine LeO.ite ?_ ?_
      | refine LeO.bind ?_ (fun _ => ?_)
set_option maxHeartbeats 8000000 in
set_option maxRecDepth 100000 in
theorem joustlaw03_FixBounds.calls (k : Nat) (a0 : Int) (a1 : Int) (r : Bool) (w : World) (h : joustlaw03_FixBounds.f k a0 a1 = some r) (hG : Sines w) :
    Calls Tryd.prog 12 #[.int .i64 a0, .int .i64 a1] w fun e w' => e = .returned (.bool r) ∧ Below w.heap.size w w' := by
  have HG := Aside0.mk hG
  clear hG
  have HB := Aside0.mk (Below.refl w.heap.size w)
  have H : ((joustlaw03_fixed.f).bind fun t130 => (if t130 = true then ((fix_Add.f k a0 a1).bind fun t131 => ((fix_Mul.f a0 a1).bind fun t132 => ((fix_Div.f k a0 a1).bind fun t133 => ((fix_Root.f k a0).bind fun t134 => ((joustlaw03_within.f t131).bind fun t135 => (if t135 = true then ((joustlaw03_within.f t132).bind fun t136 => (if t136 = true then ((joustlaw03_within.f t133).bind fun t137 => (if t137 = true then (if t134 < 0 then (joustlaw03_FixBounds.j0 k a0 a1 true) else (if t134 ≥ 1099511627776 then (joustlaw03_FixBounds.j0 k a0 a1 true) else ((fix_Add.f k a1 a0).bind fun t138 => (if t131 = t138 then ((fix_Mul.f a1 a0).bind fun t139 => (joustlaw03_FixBounds.j0 k a0 a1 (t132 != t139))) else (joustlaw03_FixBounds.j0 k a0 a1 true))))) else (joustlaw03_FixBounds.j0 k a0 a1 true))) else (joustlaw03_FixBounds.j0 k a0 a1 true))) else (joustlaw03_FixBounds.j0 k a0 a1 true))))))) else (some false))) = some r := h
  clear h
  replace H := Option.bind_eq_some_iff.mp H
  obtain ⟨t130, A30, H⟩ := H
  replace H : (if t130 = true then ((fix_Add.f k a0 a1).bind fun t131 => ((fix_Mul.f a0 a1).bind fun t132 => ((fix_Div.f k a0 a1).bind fun t133 => ((fix_Root.f k a0).bind fun t134 => ((joustlaw03_within.f t131).bind fun t135 => (if t135 = true then ((joustlaw03_within.f t132).bind fun t136 => (if t136 = true then ((joustlaw03_within.f t133).bind fun t137 => (if t137 = true then (if t134 < 0 then (joustlaw03_FixBounds.j0 k a0 a1 true) else (if t134 ≥ 1099511627776 then (joustlaw03_FixBounds.j0 k a0 a1 true) else ((fix_Add.f k a1 a0).bind fun t138 => (if t131 = t138 then ((fix_Mul.f a1 a0).bind fun t139 => (joustlaw03_FixBounds.j0 k a0 a1 (t132 != t139))) else (joustlaw03_FixBounds.j0 k a0 a1 true))))) else (joustlaw03_FixBounds.j0 k a0 a1 true))) else (joustlaw03_FixBounds.j0 k a0 a1 true))) else (joustlaw03_FixBounds.j0 k a0 a1 true))))))) else (some false)) = some r := H
  have A3 := Aside0.mk A30
  clear A30
  by_cases c4 : t130 = true
  · subst c4
    have H1 : ((fix_Add.f k a0 a1).bind fun t131 => ((fix_Mul.f a0 a1).bind fun t132 => ((fix_Div.f k a0 a1).bind fun t133 => ((fix_Root.f k a0).bind fun t134 => ((joustlaw03_within.f t131).bind fun t135 => (if t135 = true then ((joustlaw03_within.f t132).bind fun t136 => (if t136 = true then ((joustlaw03_within.f t133).bind fun t137 => (if t137 = true then (if t134 < 0 then (joustlaw03_FixBounds.j0 k a0 a1 true) else (if t134 ≥ 1099511627776 then (joustlaw03_FixBounds.j0 k a0 a1 true) else ((fix_Add.f k a1 a0).bind fun t138 => (if t131 = t138 then ((fix_Mul.f a1 a0).bind fun t139 => (joustlaw03_FixBounds.j0 k a0 a1 (t132 != t139))) else (joustlaw03_FixBounds.j0 k a0 a1 true))))) else (joustlaw03_FixBounds.j0 k a0 a1 true))) else (joustlaw03_FixBounds.j0 k a0 a1 true))) else (joustlaw03_FixBounds.j0 k a0 a1 true))))))) = some r := by rw [if_pos rfl] at H; exact H
    clear H
    have H := H1
    clear H1
    replace H := Option.bind_eq_some_iff.mp H
    obtain ⟨t131, A50, H⟩ := H
    replace H : ((fix_Mul.f a0 a1).bind fun t132 => ((fix_Div.f k a0 a1).bind fun t133 => ((fix_Root.f k a0).bind fun t134 => ((joustlaw03_within.f t131).bind fun t135 => (if t135 = true then ((joustlaw03_within.f t132).bind fun t136 => (if t136 = true then ((joustlaw03_within.f t133).bind fun t137 => (if t137 = true then (if t134 < 0 then (joustlaw03_FixBounds.j0 k a0 a1 true) else (if t134 ≥ 1099511627776 then (joustlaw03_FixBounds.j0 k a0 a1 true) else ((fix_Add.f k a1 a0).bind fun t138 => (if t131 = t138 then ((fix_Mul.f a1 a0).bind fun t139 => (joustlaw03_FixBounds.j0 k a0 a1 (t132 != t139))) else (joustlaw03_FixBounds.j0 k a0 a1 true))))) else (joustlaw03_FixBounds.j0 k a0 a1 true))) else (joustlaw03_FixBounds.j0 k a0 a1 true))) else (joustlaw03_FixBounds.j0 k a0 a1 true)))))) = some r := H
    have A5 := Aside0.mk A50
    clear A50
    replace H := Option.bind_eq_some_iff.mp H
    obtain ⟨t132, A60, H⟩ := H
    replace H : ((fix_Div.f k a0 a1).bind fun t133 => ((fix_Root.f k a0).bind fun t134 => ((joustlaw03_within.f t131).bind fun t135 => (if t135 = true then ((joustlaw03_within.f t132).bind fun t136 => (if t136 = true then ((joustlaw03_within.f t133).bind fun t137 => (if t137 = true then (if t134 < 0 then (joustlaw03_FixBounds.j0 k a0 a1 true) else (if t134 ≥ 1099511627776 then (joustlaw03_FixBounds.j0 k a0 a1 true) else ((fix_Add.f k a1 a0).bind fun t138 => (if t131 = t138 then ((fix_Mul.f a1 a0).bind fun t139 => (joustlaw03_FixBounds.j0 k a0 a1 (t132 != t139))) else (joustlaw03_FixBounds.j0 k a0 a1 true))))) else (joustlaw03_FixBounds.j0 k a0 a1 true))) else (joustlaw03_FixBounds.j0 k a0 a1 true))) else (joustlaw03_FixBounds.j0 k a0 a1 true))))) = some r := H
    have A6 := Aside0.mk A60
    clear A60
    replace H := Option.bind_eq_some_iff.mp H
    obtain ⟨t133, A70, H⟩ := H
    replace H : ((fix_Root.f k a0).bind fun t134 => ((joustlaw03_within.f t131).bind fun t135 => (if t135 = true then ((joustlaw03_within.f t132).bind fun t136 => (if t136 = true then ((joustlaw03_within.f t133).bind fun t137 => (if t137 = true then (if t134 < 0 then (joustlaw03_FixBounds.j0 k a0 a1 true) else (if t134 ≥ 1099511627776 then (joustlaw03_FixBounds.j0 k a0 a1 true) else ((fix_Add.f k a1 a0).bind fun t138 => (if t131 = t138 then ((fix_Mul.f a1 a0).bind fun t139 => (joustlaw03_FixBounds.j0 k a0 a1 (t132 != t139))) else (joustlaw03_FixBounds.j0 k a0 a1 true))))) else (joustlaw03_FixBounds.j0 k a0 a1 true))) else (joustlaw03_FixBounds.j0 k a0 a1 true))) else (joustlaw03_FixBounds.j0 k a0 a1 true)))) = some r := H
    have A7 := Aside0.mk A70
    clear A70
    replace H := Option.bind_eq_some_iff.mp H
    obtain ⟨t134, A80, H⟩ := H
    replace H : ((joustlaw03_within.f t131).bind fun t135 => (if t135 = true then ((joustlaw03_within.f t132).bind fun t136 => (if t136 = true then ((joustlaw03_within.f t133).bind fun t137 => (if t137 = true then (if t134 < 0 then (joustlaw03_FixBounds.j0 k a0 a1 true) else (if t134 ≥ 1099511627776 then (joustlaw03_FixBounds.j0 k a0 a1 true) else ((fix_Add.f k a1 a0).bind fun t138 => (if t131 = t138 then ((fix_Mul.f a1 a0).bind fun t139 => (joustlaw03_FixBounds.j0 k a0 a1 (t132 != t139))) else (joustlaw03_FixBounds.j0 k a0 a1 true))))) else (joustlaw03_FixBounds.j0 k a0 a1 true))) else (joustlaw03_FixBounds.j0 k a0 a1 true))) else (joustlaw03_FixBounds.j0 k a0 a1 true))) = some r := H
    have A8 := Aside0.mk A80
    clear A80
    have HC9 := Aside0.mk H
    clear H
    go_enter Tryd.func12, Tryd.ntmps12
    go_upto_region 7 with (first | ((with_reducible refine gate_callee (f := 30) rfl ?_); refine goesL_ (some 10) rfl rfl Tryd.func30 (by kernel_rfl) rfl #[] rfl (by (try simp only [List.map_toArray, List.map_cons, List.map_nil]); first | done | rfl | (simp only [List.length_drop, List.length_take]; rfl)) ?_; (with_reducible refine (joustlaw03_fixed.calls  true _ A3.out (by first | (repeat (first | exact HG.out | apply Sines.drewN | apply Sines.drew); done) | exact Sines.below HG.out (by repeat (first | (with_reducible first | exact HB.out | apply below_alloc | apply pw_below_drewN | apply below_drew1) | exact HB.out)))).mono ?_); rintro e w10 ⟨rfl, hb⟩; refine ⟨_, rfl, ?_⟩; have n0_ := Aside0.mk (below_step (by repeat (first | (with_reducible first | exact HB.out | apply below_alloc | apply pw_below_drewN | apply below_drew1) | exact HB.out)) hb); clear HB; have HB := n0_; clear n0_; (try clear hb); (try clear hb2); (try clear hk); (try clear hi)) | ((with_reducible refine gate_callee (f := 33) rfl ?_); refine goesL_ (some 14) rfl rfl Tryd.func33 (by kernel_rfl) rfl #[.int .i64 a0, .int .i64 a1] rfl (by (try simp only [List.map_toArray, List.map_cons, List.map_nil]); first | done | rfl | (simp only [List.length_drop, List.length_take]; rfl)) ?_; (with_reducible refine (fix_Add.calls k a0 a1 t131 _ A5.out).mono ?_); rintro e w11 ⟨rfl, hb⟩; refine ⟨_, rfl, ?_⟩; have n0_ := Aside0.mk (below_step (by repeat (first | (with_reducible first | exact HB.out | apply below_alloc | apply pw_below_drewN | apply below_drew1) | exact HB.out)) hb); clear HB; have HB := n0_; clear n0_; (try clear hb); (try clear hb2); (try clear hk); (try clear hi)) | ((with_reducible refine gate_callee (f := 35) rfl ?_); refine goesL_ (some 17) rfl rfl Tryd.func35 (by kernel_rfl) rfl #[.int .i64 a0, .int .i64 a1] rfl (by (try simp only [List.map_toArray, List.map_cons, List.map_nil]); first | done | rfl | (simp only [List.length_drop, List.length_take]; rfl)) ?_; (with_reducible refine (fix_Mul.calls a0 a1 t132 _ A6.out).mono ?_); rintro e w12 ⟨rfl, hb⟩; refine ⟨_, rfl, ?_⟩; have n0_ := Aside0.mk (below_step (by repeat (first | (with_reducible first | exact HB.out | apply below_alloc | apply pw_below_drewN | apply below_drew1) | exact HB.out)) hb); clear HB; have HB := n0_; clear n0_; (try clear hb); (try clear hb2); (try clear hk); (try clear hi)) | ((with_reducible refine gate_callee (f := 37) rfl ?_); refine goesL_ (some 20) rfl rfl Tryd.func37 (by kernel_rfl) rfl #[.int .i64 a0, .int .i64 a1] rfl (by (try simp only [List.map_toArray, List.map_cons, List.map_nil]); first | done | rfl | (simp only [List.length_drop, List.length_take]; rfl)) ?_; (with_reducible refine (fix_Div.calls k a0 a1 t133 _ A7.out).mono ?_); rintro e w13 ⟨rfl, hb⟩; refine ⟨_, rfl, ?_⟩; have n0_ := Aside0.mk (below_step (by repeat (first | (with_reducible first | exact HB.out | apply below_alloc | apply pw_below_drewN | apply below_drew1) | exact HB.out)) hb); clear HB; have HB := n0_; clear n0_; (try clear hb); (try clear hb2); (try clear hk); (try clear hi)) | ((with_reducible refine gate_callee (f := 31) rfl ?_); refine goesL_ (some 22) rfl rfl Tryd.func31 (by kernel_rfl) rfl #[.int .i64 a0] rfl (by (try simp only [List.map_toArray, List.map_cons, List.map_nil]); first | done | rfl | (simp only [List.length_drop, List.length_take]; rfl)) ?_; (with_reducible refine (fix_Root.calls k a0 t134 _ A8.out).mono ?_); rintro e w' ⟨rfl, ⟨nd, rfl⟩⟩; refine ⟨_, rfl, ?_⟩))
    (try simp only [Act.put, List.setIfInBounds_toArray, List.set_cons_zero, List.set_cons_succ])
    go_cut [57] (fun v57 wc => ∃ (kq : Nat) (x57_8 : Bool), v57 = .bool x57_8 ∧ Aside0 (joustlaw03_FixBounds.j0 kq a0 a1 x57_8 = some r) ∧ Aside0 (kq ≤ k) ∧ Aside0 (Below w.heap.size w wc))
    case first =>
      have H := HC9.out
      clear HC9
      replace H := Option.bind_eq_some_iff.mp H
      obtain ⟨t135, A140, H⟩ := H
      replace H : (if t135 = true then ((joustlaw03_within.f t132).bind fun t136 => (if t136 = true then ((joustlaw03_within.f t133).bind fun t137 => (if t137 = true then (if t134 < 0 then (joustlaw03_FixBounds.j0 k a0 a1 true) else (if t134 ≥ 1099511627776 then (joustlaw03_FixBounds.j0 k a0 a1 true) else ((fix_Add.f k a1 a0).bind fun t138 => (if t131 = t138 then ((fix_Mul.f a1 a0).bind fun t139 => (joustlaw03_FixBounds.j0 k a0 a1 (t132 != t139))) else (joustlaw03_FixBounds.j0 k a0 a1 true))))) else (joustlaw03_FixBounds.j0 k a0 a1 true))) else (joustlaw03_FixBounds.j0 k a0 a1 true))) else (joustlaw03_FixBounds.j0 k a0 a1 true)) = some r := H
      have A14 := Aside0.mk A140
      clear A140
      by_cases c15 : t135 = true
      · subst c15
        have H1 : ((joustlaw03_within.f t132).bind fun t136 => (if t136 = true then ((joustlaw03_within.f t133).bind fun t137 => (if t137 = true then (if t134 < 0 then (joustlaw03_FixBounds.j0 k a0 a1 true) else (if t134 ≥ 1099511627776 then (joustlaw03_FixBounds.j0 k a0 a1 true) else ((fix_Add.f k a1 a0).bind fun t138 => (if t131 = t138 then ((fix_Mul.f a1 a0).bind fun t139 => (joustlaw03_FixBounds.j0 k a0 a1 (t132 != t139))) else (joustlaw03_FixBounds.j0 k a0 a1 true))))) else (joustlaw03_FixBounds.j0 k a0 a1 true))) else (joustlaw03_FixBounds.j0 k a0 a1 true))) = some r := by rw [if_pos rfl] at H; exact H
        clear H
        have H := H1
        clear H1
        replace H := Option.bind_eq_some_iff.mp H
        obtain ⟨t136, A160, H⟩ := H
        replace H : (if t136 = true then ((joustlaw03_within.f t133).bind fun t137 => (if t137 = true then (if t134 < 0 then (joustlaw03_FixBounds.j0 k a0 a1 true) else (if t134 ≥ 1099511627776 then (joustlaw03_FixBounds.j0 k a0 a1 true) else ((fix_Add.f k a1 a0).bind fun t138 => (if t131 = t138 then ((fix_Mul.f a1 a0).bind fun t139 => (joustlaw03_FixBounds.j0 k a0 a1 (t132 != t139))) else (joustlaw03_FixBounds.j0 k a0 a1 true))))) else (joustlaw03_FixBounds.j0 k a0 a1 true))) else (joustlaw03_FixBounds.j0 k a0 a1 true)) = some r := H
        have A16 := Aside0.mk A160
        clear A160
        by_cases c17 : t136 = true
        · subst c17
          have H1 : ((joustlaw03_within.f t133).bind fun t137 => (if t137 = true then (if t134 < 0 then (joustlaw03_FixBounds.j0 k a0 a1 true) else (if t134 ≥ 1099511627776 then (joustlaw03_FixBounds.j0 k a0 a1 true) else ((fix_Add.f k a1 a0).bind fun t138 => (if t131 = t138 then ((fix_Mul.f a1 a0).bind fun t139 => (joustlaw03_FixBounds.j0 k a0 a1 (t132 != t139))) else (joustlaw03_FixBounds.j0 k a0 a1 true))))) else (joustlaw03_FixBounds.j0 k a0 a1 true))) = some r := by rw [if_pos rfl] at H; exact H
          clear H
          have H := H1
          clear H1
          replace H := Option.bind_eq_some_iff.mp H
          obtain ⟨t137, A180, H⟩ := H
          replace H : (if t137 = true then (if t134 < 0 then (joustlaw03_FixBounds.j0 k a0 a1 true) else (if t134 ≥ 1099511627776 then (joustlaw03_FixBounds.j0 k a0 a1 true) else ((fix_Add.f k a1 a0).bind fun t138 => (if t131 = t138 then ((fix_Mul.f a1 a0).bind fun t139 => (joustlaw03_FixBounds.j0 k a0 a1 (t132 != t139))) else (joustlaw03_FixBounds.j0 k a0 a1 true))))) else (joustlaw03_FixBounds.j0 k a0 a1 true)) = some r := H
          have A18 := Aside0.mk A180
          clear A180
          by_cases c19 : t137 = true
          · subst c19
            have H1 : (if t134 < 0 then (joustlaw03_FixBounds.j0 k a0 a1 true) else (if t134 ≥ 1099511627776 then (joustlaw03_FixBounds.j0 k a0 a1 true) else ((fix_Add.f k a1 a0).bind fun t138 => (if t131 = t138 then ((fix_Mul.f a1 a0).bind fun t139 => (joustlaw03_FixBounds.j0 k a0 a1 (t132 != t139))) else (joustlaw03_FixBounds.j0 k a0 a1 true))))) = some r := by rw [if_pos rfl] at H; exact H
            clear H
            have H := H1
            clear H1
            by_cases c20 : t134 < 0
            · rw [if_pos c20] at H
              have c20b0 : decide (t134 < 0) = true := decide_eq_true c20
              clear c20
              (first | rw [c20b0] | (simp only [i64_w, i32_w]; rw [c20b0]) | skip)
              have H' := Aside0.mk H
              clear H
              go_wp2_with (first | ((with_reducible refine gate_callee (f := 50) rfl ?_); refine goesL_ (some 24) rfl rfl Tryd.func50 (by kernel_rfl) rfl #[.int .i64 t131] rfl (by (try simp only [List.map_toArray, List.map_cons, List.map_nil]); first | done | rfl | (simp only [List.length_drop, List.length_take]; rfl)) ?_; (with_reducible refine (joustlaw03_within.calls t131 true _ A14.out).mono ?_); rintro e w' ⟨rfl, ⟨nd, rfl⟩⟩; refine ⟨_, rfl, ?_⟩) | (go_at_call 50; (with_reducible refine (joustlaw03_within.calls t132 true _ A16.out).mono ?_); rintro e w' ⟨rfl, ⟨nd, rfl⟩⟩) | (go_at_call 50; (with_reducible refine (joustlaw03_within.calls t133 true _ A18.out).mono ?_); rintro e w' ⟨rfl, ⟨nd, rfl⟩⟩))
              go_meet
              case rel => exact ⟨_, (true), (by first | rfl | (simp; done) | (simp [*]; done)), H', ⟨by first | omega | exact Nat.le_refl _⟩, ⟨by repeat (first | (with_reducible first | exact HB.out | apply below_alloc | apply pw_below_drewN | apply below_drew1) | exact HB.out)⟩⟩
            · rw [if_neg c20] at H
              have c20b0 : decide (t134 < 0) = false := decide_eq_false c20
              clear c20
              (first | rw [c20b0] | (simp only [i64_w, i32_w]; rw [c20b0]) | skip)
              by_cases c21 : t134 ≥ 1099511627776
              · rw [if_pos c21] at H
                have c21b0 : decide (1099511627776 ≤ t134) = true := decide_eq_true c21
                clear c21
                have H' := Aside0.mk H
                clear H
                go_wp2_with (first | ((with_reducible refine gate_callee (f := 50) rfl ?_); refine goesL_ (some 24) rfl rfl Tryd.func50 (by kernel_rfl) rfl #[.int .i64 t131] rfl (by (try simp only [List.map_toArray, List.map_cons, List.map_nil]); first | done | rfl | (simp only [List.length_drop, List.length_take]; rfl)) ?_; (with_reducible refine (joustlaw03_within.calls t131 true _ A14.out).mono ?_); rintro e w' ⟨rfl, ⟨nd, rfl⟩⟩; refine ⟨_, rfl, ?_⟩) | (go_at_call 50; (with_reducible refine (joustlaw03_within.calls t132 true _ A16.out).mono ?_); rintro e w' ⟨rfl, ⟨nd, rfl⟩⟩) | (go_at_call 50; (with_reducible refine (joustlaw03_within.calls t133 true _ A18.out).mono ?_); rintro e w' ⟨rfl, ⟨nd, rfl⟩⟩))
                go_meet
                case rel => exact ⟨_, (true), (by first | rfl | (simp; done) | (simp [*]; done)), H', ⟨by first | omega | exact Nat.le_refl _⟩, ⟨by repeat (first | (with_reducible first | exact HB.out | apply below_alloc | apply pw_below_drewN | apply below_drew1) | exact HB.out)⟩⟩
              · rw [if_neg c21] at H
                have c21b0 : decide (1099511627776 ≤ t134) = false := decide_eq_false c21
                clear c21
                replace H := Option.bind_eq_some_iff.mp H
                obtain ⟨t138, A220, H⟩ := H
                replace H : (if t131 = t138 then ((fix_Mul.f a1 a0).bind fun t139 => (joustlaw03_FixBounds.j0 k a0 a1 (t132 != t139))) else (joustlaw03_FixBounds.j0 k a0 a1 true)) = some r := H
                have A22 := Aside0.mk A220
                clear A220
                by_cases c23 : t131 = t138
                · rw [if_pos c23] at H
                  have c23b0 : (t131 == t138) = true := beq_iff_eq.mpr c23
                  have c23b1 : (t131 != t138) = false := bne_eq_false_iff_eq.mpr c23
                  clear c23
                  replace H := Option.bind_eq_some_iff.mp H
                  obtain ⟨t139, A240, H⟩ := H
                  replace H : (joustlaw03_FixBounds.j0 k a0 a1 (t132 != t139)) = some r := H
                  have A24 := Aside0.mk A240
                  clear A240
                  have H' := Aside0.mk H
                  clear H
                  go_wp2_with (first | ((with_reducible refine gate_callee (f := 50) rfl ?_); refine goesL_ (some 24) rfl rfl Tryd.func50 (by kernel_rfl) rfl #[.int .i64 t131] rfl (by (try simp only [List.map_toArray, List.map_cons, List.map_nil]); first | done | rfl | (simp only [List.length_drop, List.length_take]; rfl)) ?_; (with_reducible refine (joustlaw03_within.calls t131 true _ A14.out).mono ?_); rintro e w' ⟨rfl, ⟨nd, rfl⟩⟩; refine ⟨_, rfl, ?_⟩) | (go_at_call 50; (with_reducible refine (joustlaw03_within.calls t132 true _ A16.out).mono ?_); rintro e w' ⟨rfl, ⟨nd, rfl⟩⟩) | (go_at_call 50; (with_reducible refine (joustlaw03_within.calls t133 true _ A18.out).mono ?_); rintro e w' ⟨rfl, ⟨nd, rfl⟩⟩) | (go_at_call 33; (with_reducible refine (fix_Add.calls k a1 a0 t138 _ A22.out).mono ?_); rintro e w25 ⟨rfl, hb⟩; have n0_ := Aside0.mk (below_step (by repeat (first | (with_reducible first | exact HB.out | apply below_alloc | apply pw_below_drewN | apply below_drew1) | exact HB.out)) hb); clear HB; have HB := n0_; clear n0_; (try clear hb); (try clear hb2); (try clear hk); (try clear hi)) | (go_at_call 35; (with_reducible refine (fix_Mul.calls a1 a0 t139 _ A24.out).mono ?_); rintro e w26 ⟨rfl, hb⟩; have n0_ := Aside0.mk (below_step (by repeat (first | (with_reducible first | exact HB.out | apply below_alloc | apply pw_below_drewN | apply below_drew1) | exact HB.out)) hb); clear HB; have HB := n0_; clear n0_; (try clear hb); (try clear hb2); (try clear hk); (try clear hi)))
                  go_meet
                  case rel => exact ⟨_, ((t132 != t139)), (by first | rfl | (simp; done) | (simp [*]; done)), H', ⟨by first | omega | exact Nat.le_refl _⟩, ⟨by repeat (first | (with_reducible first | exact HB.out | apply below_alloc | apply pw_below_drewN | apply below_drew1) | exact HB.out)⟩⟩
                · rw [if_neg c23] at H
                  have c23b0 : (t131 == t138) = false := beq_eq_false_iff_ne.mpr c23
                  have c23b1 : (t131 != t138) = true := bne_iff_ne.mpr c23
                  have H' := Aside0.mk H
                  clear H
                  go_wp2_with (first | ((with_reducible refine gate_callee (f := 50) rfl ?_); refine goesL_ (some 24) rfl rfl Tryd.func50 (by kernel_rfl) rfl #[.int .i64 t131] rfl (by (try simp only [List.map_toArray, List.map_cons, List.map_nil]); first | done | rfl | (simp only [List.length_drop, List.length_take]; rfl)) ?_; (with_reducible refine (joustlaw03_within.calls t131 true _ A14.out).mono ?_); rintro e w' ⟨rfl, ⟨nd, rfl⟩⟩; refine ⟨_, rfl, ?_⟩) | (go_at_call 50; (with_reducible refine (joustlaw03_within.calls t132 true _ A16.out).mono ?_); rintro e w' ⟨rfl, ⟨nd, rfl⟩⟩) | (go_at_call 50; (with_reducible refine (joustlaw03_within.calls t133 true _ A18.out).mono ?_); rintro e w' ⟨rfl, ⟨nd, rfl⟩⟩) | (go_at_call 33; (with_reducible refine (fix_Add.calls k a1 a0 t138 _ A22.out).mono ?_); rintro e w27 ⟨rfl, hb⟩; have n0_ := Aside0.mk (below_step (by repeat (first | (with_reducible first | exact HB.out | apply below_alloc | apply pw_below_drewN | apply below_drew1) | exact HB.out)) hb); clear HB; have HB := n0_; clear n0_; (try clear hb); (try clear hb2); (try clear hk); (try clear hi)))
                  go_meet
                  case rel => exact ⟨_, (true), (by first | rfl | (simp; done) | (simp [*]; done)), H', ⟨by first | omega | exact Nat.le_refl _⟩, ⟨by repeat (first | (with_reducible first | exact HB.out | apply below_alloc | apply pw_below_drewN | apply below_drew1) | exact HB.out)⟩⟩
          · replace c19 := Bool.eq_false_iff.mpr c19
            subst c19
            have H1 : (joustlaw03_FixBounds.j0 k a0 a1 true) = some r := by rw [if_neg (show ¬ (false = true) by decide)] at H; exact H
            clear H
            have H := H1
            clear H1
            have H' := Aside0.mk H
            clear H
            go_wp2_with (first | ((with_reducible refine gate_callee (f := 50) rfl ?_); refine goesL_ (some 24) rfl rfl Tryd.func50 (by kernel_rfl) rfl #[.int .i64 t131] rfl (by (try simp only [List.map_toArray, List.map_cons, List.map_nil]); first | done | rfl | (simp only [List.length_drop, List.length_take]; rfl)) ?_; (with_reducible refine (joustlaw03_within.calls t131 true _ A14.out).mono ?_); rintro e w' ⟨rfl, ⟨nd, rfl⟩⟩; refine ⟨_, rfl, ?_⟩) | (go_at_call 50; (with_reducible refine (joustlaw03_within.calls t132 true _ A16.out).mono ?_); rintro e w' ⟨rfl, ⟨nd, rfl⟩⟩) | (go_at_call 50; (with_reducible refine (joustlaw03_within.calls t133 false _ A18.out).mono ?_); rintro e w' ⟨rfl, ⟨nd, rfl⟩⟩))
            go_meet
            case rel => exact ⟨_, (true), (by first | rfl | (simp; done) | (simp [*]; done)), H', ⟨by first | omega | exact Nat.le_refl _⟩, ⟨by repeat (first | (with_reducible first | exact HB.out | apply below_alloc | apply pw_below_drewN | apply below_drew1) | exact HB.out)⟩⟩
        · replace c17 := Bool.eq_false_iff.mpr c17
          subst c17
          have H1 : (joustlaw03_FixBounds.j0 k a0 a1 true) = some r := by rw [if_neg (show ¬ (false = true) by decide)] at H; exact H
          clear H
          have H := H1
          clear H1
          have H' := Aside0.mk H
          clear H
          go_wp2_with (first | ((with_reducible refine gate_callee (f := 50) rfl ?_); refine goesL_ (some 24) rfl rfl Tryd.func50 (by kernel_rfl) rfl #[.int .i64 t131] rfl (by (try simp only [List.map_toArray, List.map_cons, List.map_nil]); first | done | rfl | (simp only [List.length_drop, List.length_take]; rfl)) ?_; (with_reducible refine (joustlaw03_within.calls t131 true _ A14.out).mono ?_); rintro e w' ⟨rfl, ⟨nd, rfl⟩⟩; refine ⟨_, rfl, ?_⟩) | (go_at_call 50; (with_reducible refine (joustlaw03_within.calls t132 false _ A16.out).mono ?_); rintro e w' ⟨rfl, ⟨nd, rfl⟩⟩))
          go_meet
          case rel => exact ⟨_, (true), (by first | rfl | (simp; done) | (simp [*]; done)), H', ⟨by first | omega | exact Nat.le_refl _⟩, ⟨by repeat (first | (with_reducible first | exact HB.out | apply below_alloc | apply pw_below_drewN | apply below_drew1) | exact HB.out)⟩⟩
      · replace c15 := Bool.eq_false_iff.mpr c15
        subst c15
        have H1 : (joustlaw03_FixBounds.j0 k a0 a1 true) = some r := by rw [if_neg (show ¬ (false = true) by decide)] at H; exact H
        clear H
        have H := H1
        clear H1
        have H' := Aside0.mk H
        clear H
        go_wp2_with (first | ((with_reducible refine gate_callee (f := 50) rfl ?_); refine goesL_ (some 24) rfl rfl Tryd.func50 (by kernel_rfl) rfl #[.int .i64 t131] rfl (by (try simp only [List.map_toArray, List.map_cons, List.map_nil]); first | done | rfl | (simp only [List.length_drop, List.length_take]; rfl)) ?_; (with_reducible refine (joustlaw03_within.calls t131 false _ A14.out).mono ?_); rintro e w' ⟨rfl, ⟨nd, rfl⟩⟩; refine ⟨_, rfl, ?_⟩))
        go_meet
        case rel => exact ⟨_, (true), (by first | rfl | (simp; done) | (simp [*]; done)), H', ⟨by first | omega | exact Nat.le_refl _⟩, ⟨by repeat (first | (with_reducible first | exact HB.out | apply below_alloc | apply pw_below_drewN | apply below_drew1) | exact HB.out)⟩⟩
    case rest =>
      clear HC9
      try clear c1
      try clear c2
      try clear p2
      try clear c3
      try clear c4
      try clear c5
      try clear c12
      try clear c15
      try clear c17
      try clear c19
      try clear c20
      try clear c20b0
      try clear c21
      try clear c21b0
      try clear c23
      try clear c23b0
      try clear c23b1
      obtain ⟨kq, x57_8, rfl, HA, HJ8, HB⟩ := hcut
      cases kq with
      | zero => exact absurd HA.out (by simp [joustlaw03_FixBounds.j0])
      | succ kj8 =>
        have H := HA.out
        clear HA
        simp only [joustlaw03_FixBounds.j0] at H
        by_cases c28 : x57_8 = true
        · subst c28
          have H1 : (some false) = some r := by rw [if_pos rfl] at H; exact H
          clear H
          have H := H1
          clear H1
          obtain rfl := Option.some.inj H
          go_wp2
          go_ret
          exact ⟨by first | rfl | (simp [errW_none, errW_some] <;> rfl) | (simp [*, errW_none, errW_some] <;> rfl), by repeat (first | (with_reducible first | exact HB.out | apply below_alloc | apply pw_below_drewN | apply below_drew1) | exact HB.out)⟩
        · replace c28 := Bool.eq_false_iff.mpr c28
          subst c28
          have H1 : ((fix_Clamp.f a0 (-1099511627776) 1099511627776).bind fun t140 => ((fix_Add.f kj8 a0 0).bind fun t141 => (if t141 = t140 then ((fix_Mul.f a0 65536).bind fun t142 => (if t142 = t140 then ((fix_Div.f kj8 a0 65536).bind fun t143 => (if t143 = t140 then ((fix_Mul.f a0 0).bind fun t144 => (if t144 = 0 then ((fix_Div.f kj8 0 a1).bind fun t145 => (if t145 = 0 then (if a0 = 0 then (some true) else ((fix_Div.f kj8 a0 a0).bind fun t146 => (some (t146 == 65536)))) else (some false))) else (some false))) else (some false))) else (some false))) else (some false)))) = some r := by rw [if_neg (show ¬ (false = true) by decide)] at H; exact H
          clear H
          have H := H1
          clear H1
          replace H := Option.bind_eq_some_iff.mp H
          obtain ⟨t140, A290, H⟩ := H
          replace H : ((fix_Add.f kj8 a0 0).bind fun t141 => (if t141 = t140 then ((fix_Mul.f a0 65536).bind fun t142 => (if t142 = t140 then ((fix_Div.f kj8 a0 65536).bind fun t143 => (if t143 = t140 then ((fix_Mul.f a0 0).bind fun t144 => (if t144 = 0 then ((fix_Div.f kj8 0 a1).bind fun t145 => (if t145 = 0 then (if a0 = 0 then (some true) else ((fix_Div.f kj8 a0 a0).bind fun t146 => (some (t146 == 65536)))) else (some false))) else (some false))) else (some false))) else (some false))) else (some false))) = some r := H
          have A29 := Aside0.mk A290
          clear A290
          replace H := Option.bind_eq_some_iff.mp H
          obtain ⟨t141, A300, H⟩ := H
          replace H : (if t141 = t140 then ((fix_Mul.f a0 65536).bind fun t142 => (if t142 = t140 then ((fix_Div.f kj8 a0 65536).bind fun t143 => (if t143 = t140 then ((fix_Mul.f a0 0).bind fun t144 => (if t144 = 0 then ((fix_Div.f kj8 0 a1).bind fun t145 => (if t145 = 0 then (if a0 = 0 then (some true) else ((fix_Div.f kj8 a0 a0).bind fun t146 => (some (t146 == 65536)))) else (some false))) else (some false))) else (some false))) else (some false))) else (some false)) = some r := H
          have A30 := Aside0.mk A300
          clear A300
          by_cases c31 : t141 = t140
          · rw [if_pos c31] at H
            have c31b0 : (t141 == t140) = true := beq_iff_eq.mpr c31
            have c31b1 : (t141 != t140) = false := bne_eq_false_iff_eq.mpr c31
            clear c31
            replace H := Option.bind_eq_some_iff.mp H
            obtain ⟨t142, A320, H⟩ := H
            replace H : (if t142 = t140 then ((fix_Div.f kj8 a0 65536).bind fun t143 => (if t143 = t140 then ((fix_Mul.f a0 0).bind fun t144 => (if t144 = 0 then ((fix_Div.f kj8 0 a1).bind fun t145 => (if t145 = 0 then (if a0 = 0 then (some true) else ((fix_Div.f kj8 a0 a0).bind fun t146 => (some (t146 == 65536)))) else (some false))) else (some false))) else (some false))) else (some false)) = some r := H
            have A32 := Aside0.mk A320
            clear A320
            by_cases c33 : t142 = t140
            · rw [if_pos c33] at H
              have c33b0 : (t142 == t140) = true := beq_iff_eq.mpr c33
              have c33b1 : (t142 != t140) = false := bne_eq_false_iff_eq.mpr c33
              clear c33
              replace H := Option.bind_eq_some_iff.mp H
              obtain ⟨t143, A340, H⟩ := H
              replace H : (if t143 = t140 then ((fix_Mul.f a0 0).bind fun t144 => (if t144 = 0 then ((fix_Div.f kj8 0 a1).bind fun t145 => (if t145 = 0 then (if a0 = 0 then (some true) else ((fix_Div.f kj8 a0 a0).bind fun t146 => (some (t146 == 65536)))) else (some false))) else (some false))) else (some false)) = some r := H
              have A34 := Aside0.mk A340
              clear A340
              by_cases c35 : t143 = t140
              · rw [if_pos c35] at H
                have c35b0 : (t143 == t140) = true := beq_iff_eq.mpr c35
                have c35b1 : (t143 != t140) = false := bne_eq_false_iff_eq.mpr c35
                clear c35
                replace H := Option.bind_eq_some_iff.mp H
                obtain ⟨t144, A360, H⟩ := H
                replace H : (if t144 = 0 then ((fix_Div.f kj8 0 a1).bind fun t145 => (if t145 = 0 then (if a0 = 0 then (some true) else ((fix_Div.f kj8 a0 a0).bind fun t146 => (some (t146 == 65536)))) else (some false))) else (some false)) = some r := H
                have A36 := Aside0.mk A360
                clear A360
                by_cases c37 : t144 = 0
                · rw [if_pos c37] at H
                  have c37b0 : (t144 == 0) = true := beq_iff_eq.mpr c37
                  have c37b1 : (t144 != 0) = false := bne_eq_false_iff_eq.mpr c37
                  clear c37
                  replace H := Option.bind_eq_some_iff.mp H
                  obtain ⟨t145, A380, H⟩ := H
                  replace H : (if t145 = 0 then (if a0 = 0 then (some true) else ((fix_Div.f kj8 a0 a0).bind fun t146 => (some (t146 == 65536)))) else (some false)) = some r := H
                  have A38 := Aside0.mk A380
                  clear A380
                  by_cases c39 : t145 = 0
                  · rw [if_pos c39] at H
                    have c39b0 : (t145 == 0) = true := beq_iff_eq.mpr c39
                    have c39b1 : (t145 != 0) = false := bne_eq_false_iff_eq.mpr c39
                    clear c39
                    by_cases c40 : a0 = 0
                    · rw [if_pos c40] at H
                      have c40b0 : (a0 == 0) = true := beq_iff_eq.mpr c40
                      have c40b1 : (a0 != 0) = false := bne_eq_false_iff_eq.mpr c40
                      clear c40
                      obtain rfl := Option.some.inj H
                      go_wp2_with (first | ((with_reducible refine gate_callee (f := 39) rfl ?_); refine goesL_ (some 59) rfl rfl Tryd.func39 (by kernel_rfl) rfl #[.int .i64 a0, .int .i64 (-1099511627776), .int .i64 1099511627776] rfl (by (try simp only [List.map_toArray, List.map_cons, List.map_nil]); first | done | rfl | (simp only [List.length_drop, List.length_take]; rfl)) ?_; (with_reducible refine (fix_Clamp.calls a0 (-1099511627776) 1099511627776 t140 _ A29.out).mono ?_); rintro e w41 ⟨rfl, hb⟩; refine ⟨_, rfl, ?_⟩; have n0_ := Aside0.mk (below_step (by repeat (first | (with_reducible first | exact HB.out | apply below_alloc | apply pw_below_drewN | apply below_drew1) | exact HB.out)) hb); clear HB; have HB := n0_; clear n0_; (try clear hb); (try clear hb2); (try clear hk); (try clear hi)) | ((with_reducible refine gate_callee (f := 33) rfl ?_); refine goesL_ (some 61) rfl rfl Tryd.func33 (by kernel_rfl) rfl #[.int .i64 a0, .int .i64 0] rfl (by (try simp only [List.map_toArray, List.map_cons, List.map_nil]); first | done | rfl | (simp only [List.length_drop, List.length_take]; rfl)) ?_; (with_reducible refine (fix_Add.calls kj8 a0 0 t141 _ A30.out).mono ?_); rintro e w42 ⟨rfl, hb⟩; refine ⟨_, rfl, ?_⟩; have n0_ := Aside0.mk (below_step (by repeat (first | (with_reducible first | exact HB.out | apply below_alloc | apply pw_below_drewN | apply below_drew1) | exact HB.out)) hb); clear HB; have HB := n0_; clear n0_; (try clear hb); (try clear hb2); (try clear hk); (try clear hi)) | (go_at_call 35; (with_reducible refine (fix_Mul.calls a0 65536 t142 _ A32.out).mono ?_); rintro e w43 ⟨rfl, hb⟩; have n0_ := Aside0.mk (below_step (by repeat (first | (with_reducible first | exact HB.out | apply below_alloc | apply pw_below_drewN | apply below_drew1) | exact HB.out)) hb); clear HB; have HB := n0_; clear n0_; (try clear hb); (try clear hb2); (try clear hk); (try clear hi)) | (go_at_call 37; (with_reducible refine (fix_Div.calls kj8 a0 65536 t143 _ A34.out).mono ?_); rintro e w44 ⟨rfl, hb⟩; have n0_ := Aside0.mk (below_step (by repeat (first | (with_reducible first | exact HB.out | apply below_alloc | apply pw_below_drewN | apply below_drew1) | exact HB.out)) hb); clear HB; have HB := n0_; clear n0_; (try clear hb); (try clear hb2); (try clear hk); (try clear hi)) | (go_at_call 35; (with_reducible refine (fix_Mul.calls a0 0 t144 _ A36.out).mono ?_); rintro e w45 ⟨rfl, hb⟩; have n0_ := Aside0.mk (below_step (by repeat (first | (with_reducible first | exact HB.out | apply below_alloc | apply pw_below_drewN | apply below_drew1) | exact HB.out)) hb); clear HB; have HB := n0_; clear n0_; (try clear hb); (try clear hb2); (try clear hk); (try clear hi)) | (go_at_call 37; (with_reducible refine (fix_Div.calls kj8 0 a1 t145 _ A38.out).mono ?_); rintro e w46 ⟨rfl, hb⟩; have n0_ := Aside0.mk (below_step (by repeat (first | (with_reducible first | exact HB.out | apply below_alloc | apply pw_below_drewN | apply below_drew1) | exact HB.out)) hb); clear HB; have HB := n0_; clear n0_; (try clear hb); (try clear hb2); (try clear hk); (try clear hi)))
                      go_ret
                      exact ⟨by first | rfl | (simp [errW_none, errW_some] <;> rfl) | (simp [*, errW_none, errW_some] <;> rfl), by repeat (first | (with_reducible first | exact HB.out | apply below_alloc | apply pw_below_drewN | apply below_drew1) | exact HB.out)⟩
                    · rw [if_neg c40] at H
                      have c40b0 : (a0 == 0) = false := beq_eq_false_iff_ne.mpr c40
                      have c40b1 : (a0 != 0) = true := bne_iff_ne.mpr c40
                      replace H := Option.bind_eq_some_iff.mp H
                      obtain ⟨t146, A470, H⟩ := H
                      replace H : (some (t146 == 65536)) = some r := H
                      have A47 := Aside0.mk A470
                      clear A470
                      obtain rfl := Option.some.inj H
                      go_wp2_with (first | ((with_reducible refine gate_callee (f := 39) rfl ?_); refine goesL_ (some 59) rfl rfl Tryd.func39 (by kernel_rfl) rfl #[.int .i64 a0, .int .i64 (-1099511627776), .int .i64 1099511627776] rfl (by (try simp only [List.map_toArray, List.map_cons, List.map_nil]); first | done | rfl | (simp only [List.length_drop, List.length_take]; rfl)) ?_; (with_reducible refine (fix_Clamp.calls a0 (-1099511627776) 1099511627776 t140 _ A29.out).mono ?_); rintro e w48 ⟨rfl, hb⟩; refine ⟨_, rfl, ?_⟩; have n0_ := Aside0.mk (below_step (by repeat (first | (with_reducible first | exact HB.out | apply below_alloc | apply pw_below_drewN | apply below_drew1) | exact HB.out)) hb); clear HB; have HB := n0_; clear n0_; (try clear hb); (try clear hb2); (try clear hk); (try clear hi)) | ((with_reducible refine gate_callee (f := 33) rfl ?_); refine goesL_ (some 61) rfl rfl Tryd.func33 (by kernel_rfl) rfl #[.int .i64 a0, .int .i64 0] rfl (by (try simp only [List.map_toArray, List.map_cons, List.map_nil]); first | done | rfl | (simp only [List.length_drop, List.length_take]; rfl)) ?_; (with_reducible refine (fix_Add.calls kj8 a0 0 t141 _ A30.out).mono ?_); rintro e w49 ⟨rfl, hb⟩; refine ⟨_, rfl, ?_⟩; have n0_ := Aside0.mk (below_step (by repeat (first | (with_reducible first | exact HB.out | apply below_alloc | apply pw_below_drewN | apply below_drew1) | exact HB.out)) hb); clear HB; have HB := n0_; clear n0_; (try clear hb); (try clear hb2); (try clear hk); (try clear hi)) | (go_at_call 35; (with_reducible refine (fix_Mul.calls a0 65536 t142 _ A32.out).mono ?_); rintro e w50 ⟨rfl, hb⟩; have n0_ := Aside0.mk (below_step (by repeat (first | (with_reducible first | exact HB.out | apply below_alloc | apply pw_below_drewN | apply below_drew1) | exact HB.out)) hb); clear HB; have HB := n0_; clear n0_; (try clear hb); (try clear hb2); (try clear hk); (try clear hi)) | (go_at_call 37; (with_reducible refine (fix_Div.calls kj8 a0 65536 t143 _ A34.out).mono ?_); rintro e w51 ⟨rfl, hb⟩; have n0_ := Aside0.mk (below_step (by repeat (first | (with_reducible first | exact HB.out | apply below_alloc | apply pw_below_drewN | apply below_drew1) | exact HB.out)) hb); clear HB; have HB := n0_; clear n0_; (try clear hb); (try clear hb2); (try clear hk); (try clear hi)) | (go_at_call 35; (with_reducible refine (fix_Mul.calls a0 0 t144 _ A36.out).mono ?_); rintro e w52 ⟨rfl, hb⟩; have n0_ := Aside0.mk (below_step (by repeat (first | (with_reducible first | exact HB.out | apply below_alloc | apply pw_below_drewN | apply below_drew1) | exact HB.out)) hb); clear HB; have HB := n0_; clear n0_; (try clear hb); (try clear hb2); (try clear hk); (try clear hi)) | (go_at_call 37; (with_reducible refine (fix_Div.calls kj8 0 a1 t145 _ A38.out).mono ?_); rintro e w53 ⟨rfl, hb⟩; have n0_ := Aside0.mk (below_step (by repeat (first | (with_reducible first | exact HB.out | apply below_alloc | apply pw_below_drewN | apply below_drew1) | exact HB.out)) hb); clear HB; have HB := n0_; clear n0_; (try clear hb); (try clear hb2); (try clear hk); (try clear hi)) | (go_at_call 37; (with_reducible refine (fix_Div.calls kj8 a0 a0 t146 _ A47.out).mono ?_); rintro e w54 ⟨rfl, hb⟩; have n0_ := Aside0.mk (below_step (by repeat (first | (with_reducible first | exact HB.out | apply below_alloc | apply pw_below_drewN | apply below_drew1) | exact HB.out)) hb); clear HB; have HB := n0_; clear n0_; (try clear hb); (try clear hb2); (try clear hk); (try clear hi)))
                      go_ret
                      exact ⟨by first | rfl | (simp [errW_none, errW_some] <;> rfl) | (simp [*, errW_none, errW_some] <;> rfl), by repeat (first | (with_reducible first | exact HB.out | apply below_alloc | apply pw_below_drewN | apply below_drew1) | exact HB.out)⟩
                  · rw [if_neg c39] at H
                    have c39b0 : (t145 == 0) = false := beq_eq_false_iff_ne.mpr c39
                    have c39b1 : (t145 != 0) = true := bne_iff_ne.mpr c39
                    obtain rfl := Option.some.inj H
                    go_wp2_with (first | ((with_reducible refine gate_callee (f := 39) rfl ?_); refine goesL_ (some 59) rfl rfl Tryd.func39 (by kernel_rfl) rfl #[.int .i64 a0, .int .i64 (-1099511627776), .int .i64 1099511627776] rfl (by (try simp only [List.map_toArray, List.map_cons, List.map_nil]); first | done | rfl | (simp only [List.length_drop, List.length_take]; rfl)) ?_; (with_reducible refine (fix_Clamp.calls a0 (-1099511627776) 1099511627776 t140 _ A29.out).mono ?_); rintro e w55 ⟨rfl, hb⟩; refine ⟨_, rfl, ?_⟩; have n0_ := Aside0.mk (below_step (by repeat (first | (with_reducible first | exact HB.out | apply below_alloc | apply pw_below_drewN | apply below_drew1) | exact HB.out)) hb); clear HB; have HB := n0_; clear n0_; (try clear hb); (try clear hb2); (try clear hk); (try clear hi)) | ((with_reducible refine gate_callee (f := 33) rfl ?_); refine goesL_ (some 61) rfl rfl Tryd.func33 (by kernel_rfl) rfl #[.int .i64 a0, .int .i64 0] rfl (by (try simp only [List.map_toArray, List.map_cons, List.map_nil]); first | done | rfl | (simp only [List.length_drop, List.length_take]; rfl)) ?_; (with_reducible refine (fix_Add.calls kj8 a0 0 t141 _ A30.out).mono ?_); rintro e w56 ⟨rfl, hb⟩; refine ⟨_, rfl, ?_⟩; have n0_ := Aside0.mk (below_step (by repeat (first | (with_reducible first | exact HB.out | apply below_alloc | apply pw_below_drewN | apply below_drew1) | exact HB.out)) hb); clear HB; have HB := n0_; clear n0_; (try clear hb); (try clear hb2); (try clear hk); (try clear hi)) | (go_at_call 35; (with_reducible refine (fix_Mul.calls a0 65536 t142 _ A32.out).mono ?_); rintro e w57 ⟨rfl, hb⟩; have n0_ := Aside0.mk (below_step (by repeat (first | (with_reducible first | exact HB.out | apply below_alloc | apply pw_below_drewN | apply below_drew1) | exact HB.out)) hb); clear HB; have HB := n0_; clear n0_; (try clear hb); (try clear hb2); (try clear hk); (try clear hi)) | (go_at_call 37; (with_reducible refine (fix_Div.calls kj8 a0 65536 t143 _ A34.out).mono ?_); rintro e w58 ⟨rfl, hb⟩; have n0_ := Aside0.mk (below_step (by repeat (first | (with_reducible first | exact HB.out | apply below_alloc | apply pw_below_drewN | apply below_drew1) | exact HB.out)) hb); clear HB; have HB := n0_; clear n0_; (try clear hb); (try clear hb2); (try clear hk); (try clear hi)) | (go_at_call 35; (with_reducible refine (fix_Mul.calls a0 0 t144 _ A36.out).mono ?_); rintro e w59 ⟨rfl, hb⟩; have n0_ := Aside0.mk (below_step (by repeat (first | (with_reducible first | exact HB.out | apply below_alloc | apply pw_below_drewN | apply below_drew1) | exact HB.out)) hb); clear HB; have HB := n0_; clear n0_; (try clear hb); (try clear hb2); (try clear hk); (try clear hi)) | (go_at_call 37; (with_reducible refine (fix_Div.calls kj8 0 a1 t145 _ A38.out).mono ?_); rintro e w60 ⟨rfl, hb⟩; have n0_ := Aside0.mk (below_step (by repeat (first | (with_reducible first | exact HB.out | apply below_alloc | apply pw_below_drewN | apply below_drew1) | exact HB.out)) hb); clear HB; have HB := n0_; clear n0_; (try clear hb); (try clear hb2); (try clear hk); (try clear hi)))
                    go_ret
                    exact ⟨by first | rfl | (simp [errW_none, errW_some] <;> rfl) | (simp [*, errW_none, errW_some] <;> rfl), by repeat (first | (with_reducible first | exact HB.out | apply below_alloc | apply pw_below_drewN | apply below_drew1) | exact HB.out)⟩
                · rw [if_neg c37] at H
                  have c37b0 : (t144 == 0) = false := beq_eq_false_iff_ne.mpr c37
                  have c37b1 : (t144 != 0) = true := bne_iff_ne.mpr c37
                  obtain rfl := Option.some.inj H
                  go_wp2_with (first | ((with_reducible refine gate_callee (f := 39) rfl ?_); refine goesL_ (some 59) rfl rfl Tryd.func39 (by kernel_rfl) rfl #[.int .i64 a0, .int .i64 (-1099511627776), .int .i64 1099511627776] rfl (by (try simp only [List.map_toArray, List.map_cons, List.map_nil]); first | done | rfl | (simp only [List.length_drop, List.length_take]; rfl)) ?_; (with_reducible refine (fix_Clamp.calls a0 (-1099511627776) 1099511627776 t140 _ A29.out).mono ?_); rintro e w61 ⟨rfl, hb⟩; refine ⟨_, rfl, ?_⟩; have n0_ := Aside0.mk (below_step (by repeat (first | (with_reducible first | exact HB.out | apply below_alloc | apply pw_below_drewN | apply below_drew1) | exact HB.out)) hb); clear HB; have HB := n0_; clear n0_; (try clear hb); (try clear hb2); (try clear hk); (try clear hi)) | ((with_reducible refine gate_callee (f := 33) rfl ?_); refine goesL_ (some 61) rfl rfl Tryd.func33 (by kernel_rfl) rfl #[.int .i64 a0, .int .i64 0] rfl (by (try simp only [List.map_toArray, List.map_cons, List.map_nil]); first | done | rfl | (simp only [List.length_drop, List.length_take]; rfl)) ?_; (with_reducible refine (fix_Add.calls kj8 a0 0 t141 _ A30.out).mono ?_); rintro e w62 ⟨rfl, hb⟩; refine ⟨_, rfl, ?_⟩; have n0_ := Aside0.mk (below_step (by repeat (first | (with_reducible first | exact HB.out | apply below_alloc | apply pw_below_drewN | apply below_drew1) | exact HB.out)) hb); clear HB; have HB := n0_; clear n0_; (try clear hb); (try clear hb2); (try clear hk); (try clear hi)) | (go_at_call 35; (with_reducible refine (fix_Mul.calls a0 65536 t142 _ A32.out).mono ?_); rintro e w63 ⟨rfl, hb⟩; have n0_ := Aside0.mk (below_step (by repeat (first | (with_reducible first | exact HB.out | apply below_alloc | apply pw_below_drewN | apply below_drew1) | exact HB.out)) hb); clear HB; have HB := n0_; clear n0_; (try clear hb); (try clear hb2); (try clear hk); (try clear hi)) | (go_at_call 37; (with_reducible refine (fix_Div.calls kj8 a0 65536 t143 _ A34.out).mono ?_); rintro e w64 ⟨rfl, hb⟩; have n0_ := Aside0.mk (below_step (by repeat (first | (with_reducible first | exact HB.out | apply below_alloc | apply pw_below_drewN | apply below_drew1) | exact HB.out)) hb); clear HB; have HB := n0_; clear n0_; (try clear hb); (try clear hb2); (try clear hk); (try clear hi)) | (go_at_call 35; (with_reducible refine (fix_Mul.calls a0 0 t144 _ A36.out).mono ?_); rintro e w65 ⟨rfl, hb⟩; have n0_ := Aside0.mk (below_step (by repeat (first | (with_reducible first | exact HB.out | apply below_alloc | apply pw_below_drewN | apply below_drew1) | exact HB.out)) hb); clear HB; have HB := n0_; clear n0_; (try clear hb); (try clear hb2); (try clear hk); (try clear hi)))
                  go_ret
                  exact ⟨by first | rfl | (simp [errW_none, errW_some] <;> rfl) | (simp [*, errW_none, errW_some] <;> rfl), by repeat (first | (with_reducible first | exact HB.out | apply below_alloc | apply pw_below_drewN | apply below_drew1) | exact HB.out)⟩
              · rw [if_neg c35] at H
                have c35b0 : (t143 == t140) = false := beq_eq_false_iff_ne.mpr c35
                have c35b1 : (t143 != t140) = true := bne_iff_ne.mpr c35
                obtain rfl := Option.some.inj H
                go_wp2_with (first | ((with_reducible refine gate_callee (f := 39) rfl ?_); refine goesL_ (some 59) rfl rfl Tryd.func39 (by kernel_rfl) rfl #[.int .i64 a0, .int .i64 (-1099511627776), .int .i64 1099511627776] rfl (by (try simp only [List.map_toArray, List.map_cons, List.map_nil]); first | done | rfl | (simp only [List.length_drop, List.length_take]; rfl)) ?_; (with_reducible refine (fix_Clamp.calls a0 (-1099511627776) 1099511627776 t140 _ A29.out).mono ?_); rintro e w66 ⟨rfl, hb⟩; refine ⟨_, rfl, ?_⟩; have n0_ := Aside0.mk (below_step (by repeat (first | (with_reducible first | exact HB.out | apply below_alloc | apply pw_below_drewN | apply below_drew1) | exact HB.out)) hb); clear HB; have HB := n0_; clear n0_; (try clear hb); (try clear hb2); (try clear hk); (try clear hi)) | ((with_reducible refine gate_callee (f := 33) rfl ?_); refine goesL_ (some 61) rfl rfl Tryd.func33 (by kernel_rfl) rfl #[.int .i64 a0, .int .i64 0] rfl (by (try simp only [List.map_toArray, List.map_cons, List.map_nil]); first | done | rfl | (simp only [List.length_drop, List.length_take]; rfl)) ?_; (with_reducible refine (fix_Add.calls kj8 a0 0 t141 _ A30.out).mono ?_); rintro e w67 ⟨rfl, hb⟩; refine ⟨_, rfl, ?_⟩; have n0_ := Aside0.mk (below_step (by repeat (first | (with_reducible first | exact HB.out | apply below_alloc | apply pw_below_drewN | apply below_drew1) | exact HB.out)) hb); clear HB; have HB := n0_; clear n0_; (try clear hb); (try clear hb2); (try clear hk); (try clear hi)) | (go_at_call 35; (with_reducible refine (fix_Mul.calls a0 65536 t142 _ A32.out).mono ?_); rintro e w68 ⟨rfl, hb⟩; have n0_ := Aside0.mk (below_step (by repeat (first | (with_reducible first | exact HB.out | apply below_alloc | apply pw_below_drewN | apply below_drew1) | exact HB.out)) hb); clear HB; have HB := n0_; clear n0_; (try clear hb); (try clear hb2); (try clear hk); (try clear hi)) | (go_at_call 37; (with_reducible refine (fix_Div.calls kj8 a0 65536 t143 _ A34.out).mono ?_); rintro e w69 ⟨rfl, hb⟩; have n0_ := Aside0.mk (below_step (by repeat (first | (with_reducible first | exact HB.out | apply below_alloc | apply pw_below_drewN | apply below_drew1) | exact HB.out)) hb); clear HB; have HB := n0_; clear n0_; (try clear hb); (try clear hb2); (try clear hk); (try clear hi)))
                go_ret
                exact ⟨by first | rfl | (simp [errW_none, errW_some] <;> rfl) | (simp [*, errW_none, errW_some] <;> rfl), by repeat (first | (with_reducible first | exact HB.out | apply below_alloc | apply pw_below_drewN | apply below_drew1) | exact HB.out)⟩
            · rw [if_neg c33] at H
              have c33b0 : (t142 == t140) = false := beq_eq_false_iff_ne.mpr c33
              have c33b1 : (t142 != t140) = true := bne_iff_ne.mpr c33
              obtain rfl := Option.some.inj H
              go_wp2_with (first | ((with_reducible refine gate_callee (f := 39) rfl ?_); refine goesL_ (some 59) rfl rfl Tryd.func39 (by kernel_rfl) rfl #[.int .i64 a0, .int .i64 (-1099511627776), .int .i64 1099511627776] rfl (by (try simp only [List.map_toArray, List.map_cons, List.map_nil]); first | done | rfl | (simp only [List.length_drop, List.length_take]; rfl)) ?_; (with_reducible refine (fix_Clamp.calls a0 (-1099511627776) 1099511627776 t140 _ A29.out).mono ?_); rintro e w70 ⟨rfl, hb⟩; refine ⟨_, rfl, ?_⟩; have n0_ := Aside0.mk (below_step (by repeat (first | (with_reducible first | exact HB.out | apply below_alloc | apply pw_below_drewN | apply below_drew1) | exact HB.out)) hb); clear HB; have HB := n0_; clear n0_; (try clear hb); (try clear hb2); (try clear hk); (try clear hi)) | ((with_reducible refine gate_callee (f := 33) rfl ?_); refine goesL_ (some 61) rfl rfl Tryd.func33 (by kernel_rfl) rfl #[.int .i64 a0, .int .i64 0] rfl (by (try simp only [List.map_toArray, List.map_cons, List.map_nil]); first | done | rfl | (simp only [List.length_drop, List.length_take]; rfl)) ?_; (with_reducible refine (fix_Add.calls kj8 a0 0 t141 _ A30.out).mono ?_); rintro e w71 ⟨rfl, hb⟩; refine ⟨_, rfl, ?_⟩; have n0_ := Aside0.mk (below_step (by repeat (first | (with_reducible first | exact HB.out | apply below_alloc | apply pw_below_drewN | apply below_drew1) | exact HB.out)) hb); clear HB; have HB := n0_; clear n0_; (try clear hb); (try clear hb2); (try clear hk); (try clear hi)) | (go_at_call 35; (with_reducible refine (fix_Mul.calls a0 65536 t142 _ A32.out).mono ?_); rintro e w72 ⟨rfl, hb⟩; have n0_ := Aside0.mk (below_step (by repeat (first | (with_reducible first | exact HB.out | apply below_alloc | apply pw_below_drewN | apply below_drew1) | exact HB.out)) hb); clear HB; have HB := n0_; clear n0_; (try clear hb); (try clear hb2); (try clear hk); (try clear hi)))
              go_ret
              exact ⟨by first | rfl | (simp [errW_none, errW_some] <;> rfl) | (simp [*, errW_none, errW_some] <;> rfl), by repeat (first | (with_reducible first | exact HB.out | apply below_alloc | apply pw_below_drewN | apply below_drew1) | exact HB.out)⟩
          · rw [if_neg c31] at H
            have c31b0 : (t141 == t140) = false := beq_eq_false_iff_ne.mpr c31
            have c31b1 : (t141 != t140) = true := bne_iff_ne.mpr c31
            obtain rfl := Option.some.inj H
            go_wp2_with (first | ((with_reducible refine gate_callee (f := 39) rfl ?_); refine goesL_ (some 59) rfl rfl Tryd.func39 (by kernel_rfl) rfl #[.int .i64 a0, .int .i64 (-1099511627776), .int .i64 1099511627776] rfl (by (try simp only [List.map_toArray, List.map_cons, List.map_nil]); first | done | rfl | (simp only [List.length_drop, List.length_take]; rfl)) ?_; (with_reducible refine (fix_Clamp.calls a0 (-1099511627776) 1099511627776 t140 _ A29.out).mono ?_); rintro e w73 ⟨rfl, hb⟩; refine ⟨_, rfl, ?_⟩; have n0_ := Aside0.mk (below_step (by repeat (first | (with_reducible first | exact HB.out | apply below_alloc | apply pw_below_drewN | apply below_drew1) | exact HB.out)) hb); clear HB; have HB := n0_; clear n0_; (try clear hb); (try clear hb2); (try clear hk); (try clear hi)) | ((with_reducible refine gate_callee (f := 33) rfl ?_); refine goesL_ (some 61) rfl rfl Tryd.func33 (by kernel_rfl) rfl #[.int .i64 a0, .int .i64 0] rfl (by (try simp only [List.map_toArray, List.map_cons, List.map_nil]); first | done | rfl | (simp only [List.length_drop, List.length_take]; rfl)) ?_; (with_reducible refine (fix_Add.calls kj8 a0 0 t141 _ A30.out).mono ?_); rintro e w74 ⟨rfl, hb⟩; refine ⟨_, rfl, ?_⟩; have n0_ := Aside0.mk (below_step (by repeat (first | (with_reducible first | exact HB.out | apply below_alloc | apply pw_below_drewN | apply below_drew1) | exact HB.out)) hb); clear HB; have HB := n0_; clear n0_; (try clear hb); (try clear hb2); (try clear hk); (try clear hi)))
            go_ret
            exact ⟨by first | rfl | (simp [errW_none, errW_some] <;> rfl) | (simp [*, errW_none, errW_some] <;> rfl), by repeat (first | (with_reducible first | exact HB.out | apply below_alloc | apply pw_below_drewN | apply below_drew1) | exact HB.out)⟩
  · replace c4 := Bool.eq_false_iff.mpr c4
    subst c4
    have H1 : (some false) = some r := by rw [if_neg (show ¬ (false = true) by decide)] at H; exact H
    clear H
    have H := H1
    clear H1
    obtain rfl := Option.some.inj H
    go_enter Tryd.func12, Tryd.ntmps12
    go_wp2_with (first | ((with_reducible refine gate_callee (f := 30) rfl ?_); refine goesL_ (some 10) rfl rfl Tryd.func30 (by kernel_rfl) rfl #[] rfl (by (try simp only [List.map_toArray, List.map_cons, List.map_nil]); first | done | rfl | (simp only [List.length_drop, List.length_take]; rfl)) ?_; (with_reducible refine (joustlaw03_fixed.calls  false _ A3.out (by first | (repeat (first | exact HG.out | apply Sines.drewN | apply Sines.drew); done) | exact Sines.below HG.out (by repeat (first | (with_reducible first | exact HB.out | apply below_alloc | apply pw_below_drewN | apply below_drew1) | exact HB.out)))).mono ?_); rintro e w75 ⟨rfl, hb⟩; refine ⟨_, rfl, ?_⟩; have n0_ := Aside0.mk (below_step (by repeat (first | (with_reducible first | exact HB.out | apply below_alloc | apply pw_below_drewN | apply below_drew1) | exact HB.out)) hb); clear HB; have HB := n0_; clear n0_; (try clear hb); (try clear hb2); (try clear hk); (try clear hi)))
    go_ret
    exact ⟨by first | rfl | (simp [errW_none, errW_some] <;> rfl) | (simp [*, errW_none, errW_some] <;> rfl), by repeat (first | (with_reducible first | exact HB.out | apply below_alloc | apply pw_below_drewN | apply below_drew1) | exact HB.out)⟩

/-- THE ONE PURE STATEMENT of joustlaw03_FixBounds: yours. -/
def joustlaw03_FixBounds.Pure : Prop := ∀ (a0 : Int) (a1 : Int), (Lit.int .i64 a0).wf = true → (Lit.int .i64 a1).wf = true → ∃ k, joustlaw03_FixBounds.f k a0 a1 = some true
end Go.Proofs.YtnknbikkgohlmaaDoor.VFixBounds
