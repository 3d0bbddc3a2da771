/- VecToward and what it calls: printed by wip/gen/vprint.py (functions joust/fix.Sin are given) -/
import Derived.Test.YtcmbklofbemclaaDoorVVecTowardx0
import Derived.Test.YtcmbklofbemclaaDoorVVecTowardx1
import Derived.Test.YtcmbklofbemclaaDoorVVecTowardx2
import Derived.Test.YtcmbklofbemclaaDoorVVecTowardx3
import Derived.Test.YtcmbklofbemclaaDoorVVecTowardx4
namespace Go.Proofs.YtcmbklofbemclaaDoor.VVecToward
open Go.RowKit Go.Proofs.YtcmbklofbemclaaDoorW.PrintWords Go.Proofs.YtcmbklofbemclaaDoorW.PrintLast Go.Proofs.YtcmbklofbemclaaDoorW.PrintMore Go.Proofs.YtcmbklofbemclaaDoor.VVecB
attribute [local go_sem] max2_int min2_int max_two min_two max_three min_three max_four min_four   -- for this text's walks alone
set_option linter.unusedVariables false
set_option linter.unusedSimpArgs false

attribute [local go_sem high] eqA25
/-! ### joustlaw13_VecToward: function 4 -/
mutual
def joustlaw13_VecToward.j0 : Nat → Int → Int → Bool → Int → Int → Int → Int → Option (Bool)
  | 0, _, _, _, _, _, _, _ => none
  | k + 1, x2, x7, x31, x174000, x174001, x175000, x175001 => if x31 = true then (some false) else ((joustlaw13_small.f x174000 x174001 x175000 x175001).bind fun t178 => (if t178 = true then ((vec_Sub.f k x175000 x175001 x174000 x174001).bind fun bt179 => ((vec_Unit.f k x7).bind fun bt182 => (joustlaw13_VecToward.l0 k x2 x7 (wrap64 ((wrap64 (bt182.1 * bt179.1)) + (wrap64 (bt182.2 * bt179.2)))) true 0 x174000 x174001 x175000 x175001 bt179.1 bt179.2))) else (some true)))
def joustlaw13_VecToward.l0 : Nat → Int → Int → Int → Bool → Int → Int → Int → Int → Int → Int → Int → Option (Bool)
  | 0, _, _, _, _, _, _, _, _, _, _, _ => none
  | k + 1, x2, x7, x10, x11, x12, x174000, x174001, x175000, x175001, x182000, x182001 => if x12 < 256 then ((vec_Unit.f k x12).bind fun bt185 => (if (wrap64 ((wrap64 (bt185.1 * x182000)) + (wrap64 (bt185.2 * x182001)))) > x10 then (some false) else (if (wrap64 ((wrap64 (bt185.1 * x182000)) + (wrap64 (bt185.2 * x182001)))) = x10 then (if x12 < x7 then (if (!(x182000 == 0) || (!(x182001 == 0))) = true then (some false) else (if x11 = true then (if x12 = x7 then (joustlaw13_VecToward.l0 k x2 x7 x10 true (wrap64 (x12 + 1)) x174000 x174001 x175000 x175001 x182000 x182001) else (joustlaw13_VecToward.l0 k x2 x7 x10 (decide ((wrap64 ((wrap64 (bt185.1 * x182000)) + (wrap64 (bt185.2 * x182001)))) < x10)) (wrap64 (x12 + 1)) x174000 x174001 x175000 x175001 x182000 x182001)) else (joustlaw13_VecToward.l0 k x2 x7 x10 false (wrap64 (x12 + 1)) x174000 x174001 x175000 x175001 x182000 x182001))) else (if x11 = true then (if x12 = x7 then (joustlaw13_VecToward.l0 k x2 x7 x10 true (wrap64 (x12 + 1)) x174000 x174001 x175000 x175001 x182000 x182001) else (joustlaw13_VecToward.l0 k x2 x7 x10 (decide ((wrap64 ((wrap64 (bt185.1 * x182000)) + (wrap64 (bt185.2 * x182001)))) < x10)) (wrap64 (x12 + 1)) x174000 x174001 x175000 x175001 x182000 x182001)) else (joustlaw13_VecToward.l0 k x2 x7 x10 false (wrap64 (x12 + 1)) x174000 x174001 x175000 x175001 x182000 x182001))) else (if x11 = true then (if x12 = x7 then (joustlaw13_VecToward.l0 k x2 x7 x10 true (wrap64 (x12 + 1)) x174000 x174001 x175000 x175001 x182000 x182001) else (joustlaw13_VecToward.l0 k x2 x7 x10 (decide ((wrap64 ((wrap64 (bt185.1 * x182000)) + (wrap64 (bt185.2 * x182001)))) < x10)) (wrap64 (x12 + 1)) x174000 x174001 x175000 x175001 x182000 x182001)) else (joustlaw13_VecToward.l0 k x2 x7 x10 false (wrap64 (x12 + 1)) x174000 x174001 x175000 x175001 x182000 x182001))))) else (if x11 = true then ((vec_Toward.f k x175000 x175001 x174000 x174001).bind fun t188 => ((vec_Turn.f x7 128).bind fun t189 => (joustlaw13_VecToward.j2 k x2 (t188 != t189) x174000 x174001))) else (joustlaw13_VecToward.j2 k x2 false x174000 x174001))
def joustlaw13_VecToward.j2 : Nat → Int → Bool → Int → Int → Option (Bool)
  | 0, _, _, _, _ => none
  | k + 1, x2, x106, x174000, x174001 => if x106 = true then (some false) else ((vec_Unit.f k x2).bind fun bt190 => ((vec_Add.f k x174000 x174001 bt190.1 bt190.2).bind fun bt192 => ((vec_Toward.f k x174000 x174001 bt192.1 bt192.2).bind fun t194 => ((vec_Turn.f x2 0).bind fun t195 => (some (t194 == t195))))))
end
def joustlaw13_VecToward.f (k : Nat) (a0_0 : Int) (a0_1 : Int) (a1_0 : Int) (a1_1 : Int) (a2 : Int) : Option (Bool) := (joustlaw13_alive.f k).bind fun t175 => (if t175 = true then ((vec_Toward.f k a0_0 a0_1 a1_0 a1_1).bind fun t176 => (if t176 < 0 then (joustlaw13_VecToward.j0 k a2 t176 true a0_0 a0_1 a1_0 a1_1) else (if t176 > 255 then (joustlaw13_VecToward.j0 k a2 t176 true a0_0 a0_1 a1_0 a1_1) else ((vec_Toward.f k a0_0 a0_1 a0_0 a0_1).bind fun t177 => (joustlaw13_VecToward.j0 k a2 t176 (t177 != 0) a0_0 a0_1 a1_0 a1_1))))) else (some false))
theorem joustlaw13_VecToward.mono_l : ∀ k, (∀ y0 y1 y2 y3 y4 y5 y6, LeO (joustlaw13_VecToward.j0 k y0 y1 y2 y3 y4 y5 y6) (joustlaw13_VecToward.j0 (k + 1) y0 y1 y2 y3 y4 y5 y6)) ∧ (∀ y0 y1 y2 y3 y4 y5 y6 y7 y8 y9 y10, LeO (joustlaw13_VecToward.l0 k y0 y1 y2 y3 y4 y5 y6 y7 y8 y9 y10) (joustlaw13_VecToward.l0 (k + 1) y0 y1 y2 y3 y4 y5 y6 y7 y8 y9 y10)) ∧ (∀ y0 y1 y2 y3, LeO (joustlaw13_VecToward.j2 k y0 y1 y2 y3) (joustlaw13_VecToward.j2 (k + 1) y0 y1 y2 y3))
  | 0 => ⟨fun _ _ _ _ _ _ _ r h => by simp [joustlaw13_VecToward.j0] at h, fun _ _ _ _ _ _ _ _ _ _ _ r h => by simp [joustlaw13_VecToward.l0] at h, fun _ _ _ _ r h => by simp [joustlaw13_VecToward.j2] at h⟩
  | k + 1 => by
    obtain ⟨ih0, ih1, ih2⟩ := joustlaw13_VecToward.mono_l k
    refine ⟨?_, ?_, ?_⟩
    · intro y0 y1 y2 y3 y4 y5 y6
      unfold joustlaw13_VecToward.j0
      repeat' first
      | (with_reducible exact ih0 _ _ _ _ _ _ _)
      | (with_reducible exact ih1 _ _ _ _ _ _ _ _ _ _ _)
      | (with_reducible exact ih2 _ _ _ _)
      | (with_reducible exact joustlaw13_alive.mono _)
      | (with_reducible exact vec_Add.mono _ _ _ _ _)
      | (with_reducible exact vec_Sub.mono _ _ _ _ _)
      | (with_reducible exact vec_Toward.mono _ _ _ _ _)
      | (with_reducible exact vec_Unit.mono _ _)
      | (with_reducible exact LeO.refl _)
      | (with_reducible exact LeO.none _)
      | (with_reducible refine LeO.ite ?_ ?_)
      | (with_reducible refine LeO.bind ?_ (fun _ => ?_))
      | exact ih0 _ _ _ _ _ _ _
      | exact ih1 _ _ _ _ _ _ _ _ _ _ _
      | exact ih2 _ _ _ _
      | exact joustlaw13_alive.mono _
      | exact vec_Add.mono _ _ _ _ _
      | exact vec_Sub.mono _ _ _ _ _
      | exact vec_Toward.mono _ _ _ _ _
      | exact vec_Unit.mono _ _
      | exact LeO.none _
      | refine LeO.ite ?_ ?_
      | refine LeO.bind ?_ (fun _ => ?_)
    · intro y0 y1 y2 y3 y4 y5 y6 y7 y8 y9 y10
      unfold joustlaw13_VecToward.l0
      repeat' first
      | (with_reducible exact ih0 _ _ _ _ _ _ _)
      | (with_reducible exact ih1 _ _ _ _ _ _ _ _ _ _ _)
      | (with_reducible exact ih2 _ _ _ _)
      | (with_reducible exact joustlaw13_alive.mono _)
      | (with_reducible exact vec_Add.mono _ _ _ _ _)
      | (with_reducible exact vec_Sub.mono _ _ _ _ _)
      | (with_reducible exact vec_Toward.mono _ _ _ _ _)
      | (with_reducible exact vec_Unit.mono _ _)
      | (with_reducible exact LeO.refl _)
      | (with_reducible exact LeO.none _)
      | (with_reducible refine LeO.ite ?_ ?_)
      | (with_reducible refine LeO.bind ?_ (fun _ => ?_))
      | exact ih0 _ _ _ _ _ _ _
      | exact ih1 _ _ _ _ _ _ _ _ _ _ _
      | exact ih2 _ _ _ _
      | exact joustlaw13_alive.mono _
      | exact vec_Add.mono _ _ _ _ _
      | exact vec_Sub.mono _ _ _ _ _
      | exact vec_Toward.mono _ _ _ _ _
      | exact vec_Unit.mono _ _
      | exact LeO.none _
      | refine LeO.ite ?_ ?_
      | refine LeO.bind ?_ (fun _ => ?_)
    · intro y0 y1 y2 y3
      unfold joustlaw13_VecToward.j2
      repeat' first
      | (with_reducible exact ih0 _ _ _ _ _ _ _)
      | (with_reducible exact ih1 _ _ _ _ _ _ _ _ _ _ _)
      | (with_reducible exact ih2 _ _ _ _)
      | (with_reducible exact joustlaw13_alive.mono _)
      | (with_reducible exact vec_Add.mono _ _ _ _ _)
      | (with_reducible exact vec_Sub.mono _ _ _ _ _)
      | (with_reducible exact vec_Toward.mono _ _ _ _ _)
      | (with_reducible exact vec_Unit.mono _ _)
      | (with_reducible exact LeO.refl _)
      | (with_reducible exact LeO.none _)
      | (with_reducible refine LeO.ite ?_ ?_)
      | (with_reducible refine LeO.bind ?_ (fun _ => ?_))
      | exact ih0 _ _ _ _ _ _ _
      | exact ih1 _ _ _ _ _ _ _ _ _ _ _
      | exact ih2 _ _ _ _
      | exact joustlaw13_alive.mono _
      | exact vec_Add.mono _ _ _ _ _
      | exact vec_Sub.mono _ _ _ _ _
      | exact vec_Toward.mono _ _ _ _ _
      | exact vec_Unit.mono _ _
      | exact LeO.none _
      | refine LeO.ite ?_ ?_
      | refine LeO.bind ?_ (fun _ => ?_)
theorem joustlaw13_VecToward.mono : ∀ a0 a1 a2 a3 a4 k, LeO (joustlaw13_VecToward.f k a0 a1 a2 a3 a4) (joustlaw13_VecToward.f (k + 1) a0 a1 a2 a3 a4) := by
  intro a0 a1 a2 a3 a4 k
  obtain ⟨ih0, ih1, ih2⟩ := joustlaw13_VecToward.mono_l k
  unfold joustlaw13_VecToward.f
  repeat' first
      | (with_reducible exact ih0 _ _ _ _ _ _ _)
      | (with_reducible exact ih1 _ _ _ _ _ _ _ _ _ _ _)
      | (with_reducible exact ih2 _ _ _ _)
      | (with_reducible exact joustlaw13_alive.mono _)
      | (with_reducible exact vec_Add.mono _ _ _ _ _)
      | (with_reducible exact vec_Sub.mono _ _ _ _ _)
      | (with_reducible exact vec_Toward.mono _ _ _ _ _)
      | (with_reducible exact vec_Unit.mono _ _)
      | (with_reducible exact LeO.refl _)
      | (with_reducible exact LeO.none _)
      | (with_reducible refine LeO.ite ?_ ?_)
      | (with_reducible refine LeO.bind ?_ (fun _ => ?_))
      | exact ih0 _ _ _ _ _ _ _
      | exact ih1 _ _ _ _ _ _ _ _ _ _ _
      | exact ih2 _ _ _ _
      | exact joustlaw13_alive.mono _
      | exact vec_Add.mono _ _ _ _ _
      | exact vec_Sub.mono _ _ _ _ _
      | exact vec_Toward.mono _ _ _ _ _
      | exact vec_Unit.mono _ _
      | exact LeO.none _
      | refine LeO.ite ?_ ?_
      | refine LeO.bind ?_ (fun _ => ?_)
def joustlaw13_VecToward.T22 : Bool × List (List Nat × List Nat) := (true, [([], []), ([], []), ([], []), ([2], [2]), ([1, 3, 3], [1, 3]), ([0, 4, 4], [0, 4]), ([], []), ([6, 5], [6]), ([5, 7], [5, 7]), ([8, 7, 0, 1, 2, 3, 4, 5, 6, 7, 8], [8])])
def joustlaw13_VecToward.B22 : List Nat := [0, 0, 0, 4, 14, 31, 0, 127, 255, 511]
theorem joustlaw13_VecToward.tab22 : rtab .any (opsOf Tryd.f4 22) = joustlaw13_VecToward.T22 := by kernel_rfl
theorem joustlaw13_VecToward.bits22 : waitsOk joustlaw13_VecToward.T22.2 joustlaw13_VecToward.B22 = true := by kernel_rfl
set_option maxHeartbeats 8000000 in
set_option maxRecDepth 100000 in
theorem joustlaw13_VecToward.calls (k : Nat) (a0_0 : Int) (a0_1 : Int) (a1_0 : Int) (a1_1 : Int) (a2 : Int) (r : Bool) (w : World) (h : joustlaw13_VecToward.f k a0_0 a0_1 a1_0 a1_1 a2 = some r) (hG : Sines w) :
    Calls Tryd.prog 4 #[.agg #[.int .i64 a0_0, .int .i64 a0_1], .agg #[.int .i64 a1_0, .int .i64 a1_1], .int .i64 a2] w fun e w' => e = .returned (.bool r) ∧ Below w.heap.size w w' := by
  have HG := Aside0.mk hG
  clear hG
  have hu25 := Tryd.underlying25
  have HB := Aside0.mk (Below.refl w.heap.size w)
  have H : ((joustlaw13_alive.f k).bind fun t175 => (if t175 = true then ((vec_Toward.f k a0_0 a0_1 a1_0 a1_1).bind fun t176 => (if t176 < 0 then (joustlaw13_VecToward.j0 k a2 t176 true a0_0 a0_1 a1_0 a1_1) else (if t176 > 255 then (joustlaw13_VecToward.j0 k a2 t176 true a0_0 a0_1 a1_0 a1_1) else ((vec_Toward.f k a0_0 a0_1 a0_0 a0_1).bind fun t177 => (joustlaw13_VecToward.j0 k a2 t176 (t177 != 0) a0_0 a0_1 a1_0 a1_1))))) else (some false))) = some r := h
  clear h
  replace H := Option.bind_eq_some_iff.mp H
  obtain ⟨t175, A40, H⟩ := H
  replace H : (if t175 = true then ((vec_Toward.f k a0_0 a0_1 a1_0 a1_1).bind fun t176 => (if t176 < 0 then (joustlaw13_VecToward.j0 k a2 t176 true a0_0 a0_1 a1_0 a1_1) else (if t176 > 255 then (joustlaw13_VecToward.j0 k a2 t176 true a0_0 a0_1 a1_0 a1_1) else ((vec_Toward.f k a0_0 a0_1 a0_0 a0_1).bind fun t177 => (joustlaw13_VecToward.j0 k a2 t176 (t177 != 0) a0_0 a0_1 a1_0 a1_1))))) else (some false)) = some r := H
  have A4 := Aside0.mk A40
  clear A40
  by_cases c5 : t175 = true
  · subst c5
    have H1 : ((vec_Toward.f k a0_0 a0_1 a1_0 a1_1).bind fun t176 => (if t176 < 0 then (joustlaw13_VecToward.j0 k a2 t176 true a0_0 a0_1 a1_0 a1_1) else (if t176 > 255 then (joustlaw13_VecToward.j0 k a2 t176 true a0_0 a0_1 a1_0 a1_1) else ((vec_Toward.f k a0_0 a0_1 a0_0 a0_1).bind fun t177 => (joustlaw13_VecToward.j0 k a2 t176 (t177 != 0) a0_0 a0_1 a1_0 a1_1))))) = some r := by rw [if_pos rfl] at H; exact H
    clear H
    have H := H1
    clear H1
    replace H := Option.bind_eq_some_iff.mp H
    obtain ⟨t176, A60, H⟩ := H
    replace H : (if t176 < 0 then (joustlaw13_VecToward.j0 k a2 t176 true a0_0 a0_1 a1_0 a1_1) else (if t176 > 255 then (joustlaw13_VecToward.j0 k a2 t176 true a0_0 a0_1 a1_0 a1_1) else ((vec_Toward.f k a0_0 a0_1 a0_0 a0_1).bind fun t177 => (joustlaw13_VecToward.j0 k a2 t176 (t177 != 0) a0_0 a0_1 a1_0 a1_1)))) = some r := H
    have A6 := Aside0.mk A60
    clear A60
    have HC7 := Aside0.mk H
    clear H
    go_enter Tryd.func4, Tryd.ntmps4
    go_upto_region 4 with (first | ((with_reducible refine gate_dst (N := 3) rfl ?_); refine box_event ?hg (N := 3) ?hd (cs := #[.int .i64 a0_0, .int .i64 a0_1]) (t := 25) ?hr ?_; (case hd => rfl); (case hg => rfl); (case hr => first | (go_simp; done) | (go_simp; rfl)); intro gb173 hg w8 hbox hb; have n0_ := Aside0.mk (below_step (by repeat (first | (with_reducible first | exact HB.out | apply below_alloc | apply pw_below_drewN | apply below_drew1) | exact HB.out)) hb); have n1_ := Aside0.mk (hbox); have n2_ := Aside0.mk ((by rw [hg]; exact (below_size (by repeat (first | (with_reducible first | exact HB.out | apply below_alloc | apply pw_below_drewN | apply below_drew1) | exact HB.out))) : w.heap.size ≤ gb173)); have n3_ := Aside0.mk ((by rw [hg]; exact (below_size (by repeat (first | (with_reducible first | exact HB.out | apply below_alloc | apply pw_below_drewN | apply below_drew1) | exact HB.out))) : w.heap.size ≤ gb173)); clear HB; have HB := n0_; have BK173 := n1_; have GW173 := n2_; have GE173 := n3_; clear n0_ n1_ n2_ n3_; clear hb hbox hg) | ((with_reducible refine gate_dst (N := 4) rfl ?_); refine box_event ?hg (N := 4) ?hd (cs := #[.int .i64 a1_0, .int .i64 a1_1]) (t := 25) ?hr ?_; (case hd => rfl); (case hg => rfl); (case hr => first | (go_simp; done) | (go_simp; rfl)); intro gb174 hg w9 hbox hb; have n0_ := Aside0.mk (blk_below (g := gb173) (o := .cells #[.int .i64 a0_0, .int .i64 a0_1] 25 (0, 0)) (by (with_reducible repeat (first | refine blk_drewN ?_ _ | refine blk_drew ?_ | refine blk_alloc ?_ _)); exact BK173.out) hb); have n1_ := Aside0.mk (below_step (by repeat (first | (with_reducible first | exact HB.out | apply below_alloc | apply pw_below_drewN | apply below_drew1 | refine below_set ?_ GE173.out) | exact HB.out)) hb); have n2_ := Aside0.mk (hbox); have n3_ := Aside0.mk ((by rw [hg]; exact (below_size (by repeat (first | (with_reducible first | exact HB.out | apply below_alloc | apply pw_below_drewN | apply below_drew1 | refine below_set ?_ GE173.out) | exact HB.out))) : w.heap.size ≤ gb174)); have n4_ := Aside0.mk ((by rw [hg]; exact (below_size (by repeat (first | (with_reducible first | exact HB.out | apply below_alloc | apply pw_below_drewN | apply below_drew1 | refine below_set ?_ GE173.out) | exact HB.out))) : w.heap.size ≤ gb174)); have n5_ := Aside0.mk ((by rw [hg]; exact Nat.ne_of_lt (blk_lt (g := gb173) (o := .cells #[.int .i64 a0_0, .int .i64 a0_1] 25 (0, 0)) (by (with_reducible repeat (first | refine blk_drewN ?_ _ | refine blk_drew ?_ | refine blk_alloc ?_ _)); exact BK173.out)) : gb173 ≠ gb174)); have n6_ := Aside0.mk ((by rw [hg]; exact Nat.ne_of_gt (blk_lt (g := gb173) (o := .cells #[.int .i64 a0_0, .int .i64 a0_1] 25 (0, 0)) (by (with_reducible repeat (first | refine blk_drewN ?_ _ | refine blk_drew ?_ | refine blk_alloc ?_ _)); exact BK173.out)) : gb174 ≠ gb173)); clear BK173; clear HB; have BK173 := n0_; have HB := n1_; have BK174 := n2_; have GW174 := n3_; have GE174 := n4_; have NB173_174 := n5_; have NB174_173 := n6_; clear n0_ n1_ n2_ n3_ n4_ n5_ n6_; clear hb hbox hg) | ((with_reducible refine gate_callee (f := 8) rfl ?_); refine goesL_ (some 15) rfl rfl Tryd.func8 (by kernel_rfl) rfl #[] rfl (by (try simp only [List.map_toArray, List.map_cons, List.map_nil]); first | done | rfl | (simp only [List.length_drop, List.length_take]; rfl)) ?_; (with_reducible refine (joustlaw13_alive.calls k  true _ A4.out (by first | ((repeat (first | exact HG.out | apply Sines.drewN | apply Sines.drew)); done) | exact Sines.below HG.out (by repeat (first | (with_reducible first | exact HB.out | apply below_alloc | apply pw_below_drewN | apply below_drew1 | refine below_set ?_ GE173.out | refine below_set ?_ GE174.out) | exact HB.out)))).mono ?_); rintro e w10 ⟨rfl, hb⟩; refine ⟨_, rfl, ?_⟩; have n0_ := Aside0.mk (blk_below (g := gb173) (o := .cells #[.int .i64 a0_0, .int .i64 a0_1] 25 (0, 0)) (by (with_reducible repeat (first | refine blk_drewN ?_ _ | refine blk_drew ?_ | refine blk_alloc ?_ _)); exact BK173.out) hb); have n1_ := Aside0.mk (blk_below (g := gb174) (o := .cells #[.int .i64 a1_0, .int .i64 a1_1] 25 (0, 0)) (by (with_reducible repeat (first | refine blk_drewN ?_ _ | refine blk_drew ?_ | refine blk_alloc ?_ _)); exact BK174.out) hb); have n2_ := Aside0.mk (below_step (by repeat (first | (with_reducible first | exact HB.out | apply below_alloc | apply pw_below_drewN | apply below_drew1 | refine below_set ?_ GE173.out | refine below_set ?_ GE174.out) | exact HB.out)) hb); clear BK173; clear BK174; clear HB; have BK173 := n0_; have BK174 := n1_; have HB := n2_; clear n0_ n1_ n2_; (try clear hb); (try clear hb2); (try clear hk); (try clear hi); have hnb11 := NB173_174.out; have hnc11 := NB174_173.out; have hcz12_0 : w10.cell? ⟨gb173, 0, none⟩ = some (.int .i64 a0_0) := (blk_cell BK173.out 0).trans rfl; have hcz12_1 : w10.cell? ⟨gb173, 1, none⟩ = some (.int .i64 a0_1) := (blk_cell BK173.out 1).trans rfl; have hfz12_0 := blk_frozen BK173.out 0; have hfz12_1 := blk_frozen BK173.out 1; have hcz13_0 : w10.cell? ⟨gb174, 0, none⟩ = some (.int .i64 a1_0) := (blk_cell BK174.out 0).trans rfl; have hcz13_1 : w10.cell? ⟨gb174, 1, none⟩ = some (.int .i64 a1_1) := (blk_cell BK174.out 1).trans rfl; have hfz13_0 := blk_frozen BK174.out 0; have hfz13_1 := blk_frozen BK174.out 1) | ((with_reducible refine gate_callee (f := 12) rfl ?_); refine goesL_ (some 19) rfl rfl Tryd.func12 (by kernel_rfl) rfl #[.agg #[.int .i64 a0_0, .int .i64 a0_1], .agg #[.int .i64 a1_0, .int .i64 a1_1]] rfl (by (try simp only [List.map_toArray, List.map_cons, List.map_nil]); first | done | rfl | (simp only [List.length_drop, List.length_take]; rfl)) ?_; (with_reducible refine (vec_Toward.calls k a0_0 a0_1 a1_0 a1_1 t176 _ A6.out (by first | ((repeat (first | exact HG.out | apply Sines.drewN | apply Sines.drew)); done) | exact Sines.below HG.out (by repeat (first | (with_reducible first | exact HB.out | apply below_alloc | apply pw_below_drewN | apply below_drew1 | refine below_set ?_ GE173.out | refine below_set ?_ GE174.out) | exact HB.out)))).mono ?_); rintro e w14 ⟨rfl, hb⟩; refine ⟨_, rfl, ?_⟩; have n0_ := Aside0.mk (blk_below (g := gb173) (o := .cells #[.int .i64 a0_0, .int .i64 a0_1] 25 (0, 0)) (by (with_reducible repeat (first | refine blk_drewN ?_ _ | refine blk_drew ?_ | refine blk_alloc ?_ _)); exact BK173.out) hb); have n1_ := Aside0.mk (blk_below (g := gb174) (o := .cells #[.int .i64 a1_0, .int .i64 a1_1] 25 (0, 0)) (by (with_reducible repeat (first | refine blk_drewN ?_ _ | refine blk_drew ?_ | refine blk_alloc ?_ _)); exact BK174.out) hb); have n2_ := Aside0.mk (below_step (by repeat (first | (with_reducible first | exact HB.out | apply below_alloc | apply pw_below_drewN | apply below_drew1 | refine below_set ?_ GE173.out | refine below_set ?_ GE174.out) | exact HB.out)) hb); clear BK173; clear BK174; clear HB; have BK173 := n0_; have BK174 := n1_; have HB := n2_; clear n0_ n1_ n2_; (try clear hb); (try clear hb2); (try clear hk); (try clear hi)))
    (try simp only [Act.put, List.setIfInBounds_toArray, List.set_cons_zero, List.set_cons_succ])
    go_cut [31] (fun v31 wc => ∃ (kq : Nat) (x31_6 : Bool), v31 = .bool x31_6 ∧ Aside0 (joustlaw13_VecToward.j0 kq a2 t176 x31_6 a0_0 a0_1 a1_0 a1_1 = some r) ∧ Aside0 (kq ≤ k) ∧ Aside0 (wc.heap[gb173]? = some (.cells #[.int .i64 a0_0, .int .i64 a0_1] 25 (0, 0))) ∧ Aside0 (wc.heap[gb174]? = some (.cells #[.int .i64 a1_0, .int .i64 a1_1] 25 (0, 0))) ∧ Aside0 (Below w.heap.size w wc))
    case first =>
      have H := HC7.out
      clear HC7
      by_cases c15 : t176 < 0
      · rw [if_pos c15] at H
        have c15b0 : decide (t176 < 0) = true := decide_eq_true c15
        clear c15
        (first | rw [c15b0] | (simp only [i64_w, i32_w]; rw [c15b0]) | skip)
        have H' := Aside0.mk H
        clear H
        go_wp2
        go_meet
        case rel => exact ⟨_, (true), (by first | rfl | (simp; done) | (simp [*]; done)), H', ⟨by first | omega | exact Nat.le_refl _⟩, ⟨by (with_reducible repeat (first | refine blk_drewN ?_ _ | refine blk_drew ?_ | refine blk_alloc ?_ _)); exact BK173.out⟩, ⟨by (with_reducible repeat (first | refine blk_drewN ?_ _ | refine blk_drew ?_ | refine blk_alloc ?_ _)); exact BK174.out⟩, ⟨by repeat (first | (with_reducible first | exact HB.out | apply below_alloc | apply pw_below_drewN | apply below_drew1 | refine below_set ?_ GE173.out | refine below_set ?_ GE174.out) | exact HB.out)⟩⟩
      · rw [if_neg c15] at H
        have c15b0 : decide (t176 < 0) = false := decide_eq_false c15
        clear c15
        (first | rw [c15b0] | (simp only [i64_w, i32_w]; rw [c15b0]) | skip)
        by_cases c16 : t176 > 255
        · rw [if_pos c16] at H
          have c16b0 : decide (255 < t176) = true := decide_eq_true c16
          clear c16
          have H' := Aside0.mk H
          clear H
          go_wp2
          go_meet
          case rel => exact ⟨_, (true), (by first | rfl | (simp; done) | (simp [*]; done)), H', ⟨by first | omega | exact Nat.le_refl _⟩, ⟨by (with_reducible repeat (first | refine blk_drewN ?_ _ | refine blk_drew ?_ | refine blk_alloc ?_ _)); exact BK173.out⟩, ⟨by (with_reducible repeat (first | refine blk_drewN ?_ _ | refine blk_drew ?_ | refine blk_alloc ?_ _)); exact BK174.out⟩, ⟨by repeat (first | (with_reducible first | exact HB.out | apply below_alloc | apply pw_below_drewN | apply below_drew1 | refine below_set ?_ GE173.out | refine below_set ?_ GE174.out) | exact HB.out)⟩⟩
        · rw [if_neg c16] at H
          have c16b0 : decide (255 < t176) = false := decide_eq_false c16
          clear c16
          replace H := Option.bind_eq_some_iff.mp H
          obtain ⟨t177, A170, H⟩ := H
          replace H : (joustlaw13_VecToward.j0 k a2 t176 (t177 != 0) a0_0 a0_1 a1_0 a1_1) = some r := H
          have A17 := Aside0.mk A170
          clear A170
          have H' := Aside0.mk H
          clear H
          have hnb18 := NB173_174.out
          have hnc18 := NB174_173.out
          have hcz19_0 : w14.cell? ⟨gb173, 0, none⟩ = some (.int .i64 a0_0) := (blk_cell BK173.out 0).trans rfl
          have hcz19_1 : w14.cell? ⟨gb173, 1, none⟩ = some (.int .i64 a0_1) := (blk_cell BK173.out 1).trans rfl
          have hfz19_0 := blk_frozen BK173.out 0
          have hfz19_1 := blk_frozen BK173.out 1
          go_wp2_with (first | (go_at_call 12; (with_reducible refine (vec_Toward.calls k a0_0 a0_1 a0_0 a0_1 t177 _ A17.out (by first | ((repeat (first | exact HG.out | apply Sines.drewN | apply Sines.drew)); done) | exact Sines.below HG.out (by repeat (first | (with_reducible first | exact HB.out | apply below_alloc | apply pw_below_drewN | apply below_drew1 | refine below_set ?_ GE173.out | refine below_set ?_ GE174.out) | exact HB.out)))).mono ?_); rintro e w20 ⟨rfl, hb⟩; have n0_ := Aside0.mk (blk_below (g := gb173) (o := .cells #[.int .i64 a0_0, .int .i64 a0_1] 25 (0, 0)) (by (with_reducible repeat (first | refine blk_drewN ?_ _ | refine blk_drew ?_ | refine blk_alloc ?_ _)); exact BK173.out) hb); have n1_ := Aside0.mk (blk_below (g := gb174) (o := .cells #[.int .i64 a1_0, .int .i64 a1_1] 25 (0, 0)) (by (with_reducible repeat (first | refine blk_drewN ?_ _ | refine blk_drew ?_ | refine blk_alloc ?_ _)); exact BK174.out) hb); have n2_ := Aside0.mk (below_step (by repeat (first | (with_reducible first | exact HB.out | apply below_alloc | apply pw_below_drewN | apply below_drew1 | refine below_set ?_ GE173.out | refine below_set ?_ GE174.out) | exact HB.out)) hb); clear BK173; clear BK174; clear HB; have BK173 := n0_; have BK174 := n1_; have HB := n2_; clear n0_ n1_ n2_; (try clear hb); (try clear hb2); (try clear hk); (try clear hi)))
          go_meet
          case rel => exact ⟨_, ((t177 != 0)), (by first | rfl | (simp; done) | (simp [*]; done)), H', ⟨by first | omega | exact Nat.le_refl _⟩, ⟨by (with_reducible repeat (first | refine blk_drewN ?_ _ | refine blk_drew ?_ | refine blk_alloc ?_ _)); exact BK173.out⟩, ⟨by (with_reducible repeat (first | refine blk_drewN ?_ _ | refine blk_drew ?_ | refine blk_alloc ?_ _)); exact BK174.out⟩, ⟨by repeat (first | (with_reducible first | exact HB.out | apply below_alloc | apply pw_below_drewN | apply below_drew1 | refine below_set ?_ GE173.out | refine below_set ?_ GE174.out) | exact HB.out)⟩⟩
    case rest =>
      clear HC7
      try clear c1
      try clear p2
      try clear c4
      try clear c5
      try clear c8
      try clear c11
      try clear c12
      try clear c15
      try clear c15b0
      try clear c16
      try clear c16b0
      try clear c18
      try clear hcz12_0
      try clear hcz12_1
      try clear hcz13_0
      try clear hcz13_1
      try clear hcz19_0
      try clear hcz19_1
      try clear hfz12_0
      try clear hfz12_1
      try clear hfz13_0
      try clear hfz13_1
      try clear hfz19_0
      try clear hfz19_1
      obtain ⟨kq, x31_6, rfl, HA, HJ6, BK173, BK174, HB⟩ := hcut
      cases kq with
      | zero => exact absurd HA.out (by simp [joustlaw13_VecToward.j0])
      | succ kj6 =>
        have H := HA.out
        clear HA
        simp only [joustlaw13_VecToward.j0] at H
        by_cases c21 : x31_6 = true
        · subst c21
          have H1 : (some false) = some r := by rw [if_pos rfl] at H; exact H
          clear H
          have H := H1
          clear H1
          obtain rfl := Option.some.inj H
          go_wp2
          go_ret
          exact ⟨by first | rfl | (simp [errW_none, errW_some] <;> rfl) | (simp [*, errW_none, errW_some] <;> rfl), by repeat (first | (with_reducible first | exact HB.out | apply below_alloc | apply pw_below_drewN | apply below_drew1 | refine below_set ?_ GE173.out | refine below_set ?_ GE174.out) | exact HB.out)⟩
        · replace c21 := Bool.eq_false_iff.mpr c21
          subst c21
          have H1 : ((joustlaw13_small.f a0_0 a0_1 a1_0 a1_1).bind fun t178 => (if t178 = true then ((vec_Sub.f kj6 a1_0 a1_1 a0_0 a0_1).bind fun bt179 => ((vec_Unit.f kj6 t176).bind fun bt182 => (joustlaw13_VecToward.l0 kj6 a2 t176 (wrap64 ((wrap64 (bt182.1 * bt179.1)) + (wrap64 (bt182.2 * bt179.2)))) true 0 a0_0 a0_1 a1_0 a1_1 bt179.1 bt179.2))) else (some true))) = some r := by rw [if_neg (show ¬ (false = true) by decide)] at H; exact H
          clear H
          have H := H1
          clear H1
          replace H := Option.bind_eq_some_iff.mp H
          obtain ⟨t178, A220, H⟩ := H
          replace H : (if t178 = true then ((vec_Sub.f kj6 a1_0 a1_1 a0_0 a0_1).bind fun bt179 => ((vec_Unit.f kj6 t176).bind fun bt182 => (joustlaw13_VecToward.l0 kj6 a2 t176 (wrap64 ((wrap64 (bt182.1 * bt179.1)) + (wrap64 (bt182.2 * bt179.2)))) true 0 a0_0 a0_1 a1_0 a1_1 bt179.1 bt179.2))) else (some true)) = some r := H
          have A22 := Aside0.mk A220
          clear A220
          by_cases c23 : t178 = true
          · subst c23
            have H1 : ((vec_Sub.f kj6 a1_0 a1_1 a0_0 a0_1).bind fun bt179 => ((vec_Unit.f kj6 t176).bind fun bt182 => (joustlaw13_VecToward.l0 kj6 a2 t176 (wrap64 ((wrap64 (bt182.1 * bt179.1)) + (wrap64 (bt182.2 * bt179.2)))) true 0 a0_0 a0_1 a1_0 a1_1 bt179.1 bt179.2))) = some r := by rw [if_pos rfl] at H; exact H
            clear H
            have H := H1
            clear H1
            replace H := Option.bind_eq_some_iff.mp H
            obtain ⟨⟨t179, t180⟩, A240, H⟩ := H
            replace H : ((vec_Unit.f kj6 t176).bind fun bt182 => (joustlaw13_VecToward.l0 kj6 a2 t176 (wrap64 ((wrap64 (bt182.1 * t179)) + (wrap64 (bt182.2 * t180)))) true 0 a0_0 a0_1 a1_0 a1_1 t179 t180)) = some r := H
            have A24 := Aside0.mk A240
            clear A240
            replace H := Option.bind_eq_some_iff.mp H
            obtain ⟨⟨t182, t183⟩, A250, H⟩ := H
            replace H : (joustlaw13_VecToward.l0 kj6 a2 t176 (wrap64 ((wrap64 (t182 * t179)) + (wrap64 (t183 * t180)))) true 0 a0_0 a0_1 a1_0 a1_1 t179 t180) = some r := H
            have A25 := Aside0.mk A250
            clear A250
            have H' := Aside0.mk H
            clear H
            have hnb26 := NB173_174.out
            have hnc26 := NB174_173.out
            have hcz27_0 : wc.cell? ⟨gb173, 0, none⟩ = some (.int .i64 a0_0) := (blk_cell BK173.out 0).trans rfl
            have hcz27_1 : wc.cell? ⟨gb173, 1, none⟩ = some (.int .i64 a0_1) := (blk_cell BK173.out 1).trans rfl
            have hfz27_0 := blk_frozen BK173.out 0
            have hfz27_1 := blk_frozen BK173.out 1
            have hcz28_0 : wc.cell? ⟨gb174, 0, none⟩ = some (.int .i64 a1_0) := (blk_cell BK174.out 0).trans rfl
            have hcz28_1 : wc.cell? ⟨gb174, 1, none⟩ = some (.int .i64 a1_1) := (blk_cell BK174.out 1).trans rfl
            have hfz28_0 := blk_frozen BK174.out 0
            have hfz28_1 := blk_frozen BK174.out 1
            go_wp2_with (first | ((with_reducible refine gate_callee (f := 13) rfl ?_); refine goesL_ (some 34) rfl rfl Tryd.func13 (by kernel_rfl) rfl #[.agg #[.int .i64 a0_0, .int .i64 a0_1], .agg #[.int .i64 a1_0, .int .i64 a1_1]] rfl (by (try simp only [List.map_toArray, List.map_cons, List.map_nil]); first | done | rfl | (simp only [List.length_drop, List.length_take]; rfl)) ?_; (with_reducible refine (joustlaw13_small.calls a0_0 a0_1 a1_0 a1_1 true _ A22.out).mono ?_); rintro e w29 ⟨rfl, hb⟩; refine ⟨_, rfl, ?_⟩; have n0_ := Aside0.mk (blk_below (g := gb173) (o := .cells #[.int .i64 a0_0, .int .i64 a0_1] 25 (0, 0)) (by (with_reducible repeat (first | refine blk_drewN ?_ _ | refine blk_drew ?_ | refine blk_alloc ?_ _)); exact BK173.out) hb); have n1_ := Aside0.mk (blk_below (g := gb174) (o := .cells #[.int .i64 a1_0, .int .i64 a1_1] 25 (0, 0)) (by (with_reducible repeat (first | refine blk_drewN ?_ _ | refine blk_drew ?_ | refine blk_alloc ?_ _)); exact BK174.out) hb); have n2_ := Aside0.mk (below_step (by repeat (first | (with_reducible first | exact HB.out | apply below_alloc | apply pw_below_drewN | apply below_drew1 | refine below_set ?_ GE173.out | refine below_set ?_ GE174.out) | exact HB.out)) hb); clear BK173; clear BK174; clear HB; have BK173 := n0_; have BK174 := n1_; have HB := n2_; clear n0_ n1_ n2_; (try clear hb); (try clear hb2); (try clear hk); (try clear hi); have hcz30_0 : w29.cell? ⟨gb174, 0, none⟩ = some (.int .i64 a1_0) := (blk_cell BK174.out 0).trans rfl; have hcz30_1 : w29.cell? ⟨gb174, 1, none⟩ = some (.int .i64 a1_1) := (blk_cell BK174.out 1).trans rfl; have hfz30_0 := blk_frozen BK174.out 0; have hfz30_1 := blk_frozen BK174.out 1; have hcz31_0 : w29.cell? ⟨gb173, 0, none⟩ = some (.int .i64 a0_0) := (blk_cell BK173.out 0).trans rfl; have hcz31_1 : w29.cell? ⟨gb173, 1, none⟩ = some (.int .i64 a0_1) := (blk_cell BK173.out 1).trans rfl; have hfz31_0 := blk_frozen BK173.out 0; have hfz31_1 := blk_frozen BK173.out 1) | ((with_reducible refine gate_callee (f := 14) rfl ?_); refine goesL_ (some 38) rfl rfl Tryd.func14 (by kernel_rfl) rfl #[.agg #[.int .i64 a1_0, .int .i64 a1_1], .agg #[.int .i64 a0_0, .int .i64 a0_1]] rfl (by (try simp only [List.map_toArray, List.map_cons, List.map_nil]); first | done | rfl | (simp only [List.length_drop, List.length_take]; rfl)) ?_; (with_reducible refine (vec_Sub.calls kj6 a1_0 a1_1 a0_0 a0_1 t179 t180 _ A24.out).mono ?_); rintro e w32 ⟨rfl, hb⟩; refine ⟨_, rfl, ?_⟩; have n0_ := Aside0.mk (blk_below (g := gb173) (o := .cells #[.int .i64 a0_0, .int .i64 a0_1] 25 (0, 0)) (by (with_reducible repeat (first | refine blk_drewN ?_ _ | refine blk_drew ?_ | refine blk_alloc ?_ _)); exact BK173.out) hb); have n1_ := Aside0.mk (blk_below (g := gb174) (o := .cells #[.int .i64 a1_0, .int .i64 a1_1] 25 (0, 0)) (by (with_reducible repeat (first | refine blk_drewN ?_ _ | refine blk_drew ?_ | refine blk_alloc ?_ _)); exact BK174.out) hb); have n2_ := Aside0.mk (below_step (by repeat (first | (with_reducible first | exact HB.out | apply below_alloc | apply pw_below_drewN | apply below_drew1 | refine below_set ?_ GE173.out | refine below_set ?_ GE174.out) | exact HB.out)) hb); clear BK173; clear BK174; clear HB; have BK173 := n0_; have BK174 := n1_; have HB := n2_; clear n0_ n1_ n2_; (try clear hb); (try clear hb2); (try clear hk); (try clear hi)) | ((with_reducible refine gate_dst (N := 8) rfl ?_); refine box_event ?hg (N := 8) ?hd (cs := #[.int .i64 0, .int .i64 0]) (t := 25) ?hr ?_; (case hd => rfl); (case hg => rfl); (case hr => first | (go_simp; done) | (go_simp; rfl)); intro gb181 hg w33 hbox hb; have n0_ := Aside0.mk (blk_below (g := gb173) (o := .cells #[.int .i64 a0_0, .int .i64 a0_1] 25 (0, 0)) (by (with_reducible repeat (first | refine blk_drewN ?_ _ | refine blk_drew ?_ | refine blk_alloc ?_ _)); exact BK173.out) hb); have n1_ := Aside0.mk (blk_below (g := gb174) (o := .cells #[.int .i64 a1_0, .int .i64 a1_1] 25 (0, 0)) (by (with_reducible repeat (first | refine blk_drewN ?_ _ | refine blk_drew ?_ | refine blk_alloc ?_ _)); exact BK174.out) hb); have n2_ := Aside0.mk (below_step (by repeat (first | (with_reducible first | exact HB.out | apply below_alloc | apply pw_below_drewN | apply below_drew1 | refine below_set ?_ GE173.out | refine below_set ?_ GE174.out) | exact HB.out)) hb); have n3_ := Aside0.mk (hbox); have n4_ := Aside0.mk ((by rw [hg]; exact (below_size (by repeat (first | (with_reducible first | exact HB.out | apply below_alloc | apply pw_below_drewN | apply below_drew1 | refine below_set ?_ GE173.out | refine below_set ?_ GE174.out) | exact HB.out))) : w.heap.size ≤ gb181)); have n5_ := Aside0.mk ((by rw [hg]; exact (below_size (by repeat (first | (with_reducible first | exact HB.out | apply below_alloc | apply pw_below_drewN | apply below_drew1 | refine below_set ?_ GE173.out | refine below_set ?_ GE174.out) | exact HB.out))) : w.heap.size ≤ gb181)); have n6_ := Aside0.mk ((by rw [hg]; exact Nat.ne_of_lt (blk_lt (g := gb173) (o := .cells #[.int .i64 a0_0, .int .i64 a0_1] 25 (0, 0)) (by (with_reducible repeat (first | refine blk_drewN ?_ _ | refine blk_drew ?_ | refine blk_alloc ?_ _)); exact BK173.out)) : gb173 ≠ gb181)); have n7_ := Aside0.mk ((by rw [hg]; exact Nat.ne_of_gt (blk_lt (g := gb173) (o := .cells #[.int .i64 a0_0, .int .i64 a0_1] 25 (0, 0)) (by (with_reducible repeat (first | refine blk_drewN ?_ _ | refine blk_drew ?_ | refine blk_alloc ?_ _)); exact BK173.out)) : gb181 ≠ gb173)); have n8_ := Aside0.mk ((by rw [hg]; exact Nat.ne_of_lt (blk_lt (g := gb174) (o := .cells #[.int .i64 a1_0, .int .i64 a1_1] 25 (0, 0)) (by (with_reducible repeat (first | refine blk_drewN ?_ _ | refine blk_drew ?_ | refine blk_alloc ?_ _)); exact BK174.out)) : gb174 ≠ gb181)); have n9_ := Aside0.mk ((by rw [hg]; exact Nat.ne_of_gt (blk_lt (g := gb174) (o := .cells #[.int .i64 a1_0, .int .i64 a1_1] 25 (0, 0)) (by (with_reducible repeat (first | refine blk_drewN ?_ _ | refine blk_drew ?_ | refine blk_alloc ?_ _)); exact BK174.out)) : gb181 ≠ gb174)); clear BK173; clear BK174; clear HB; have BK173 := n0_; have BK174 := n1_; have HB := n2_; have BK181 := n3_; have GW181 := n4_; have GE181 := n5_; have NB173_181 := n6_; have NB181_173 := n7_; have NB174_181 := n8_; have NB181_174 := n9_; clear n0_ n1_ n2_ n3_ n4_ n5_ n6_ n7_ n8_ n9_; clear hb hbox hg; have hnb34 := NB181_173.out; have hnc34 := NB173_181.out; have hnb35 := NB181_174.out; have hnc35 := NB174_181.out; have hcz36_0 : w33.cell? ⟨gb181, 0, none⟩ = some (.int .i64 0) := (blk_cell BK181.out 0).trans rfl; have hcz36_1 : w33.cell? ⟨gb181, 1, none⟩ = some (.int .i64 0) := (blk_cell BK181.out 1).trans rfl; have hfz36_0 := blk_frozen BK181.out 0; have hfz36_1 := blk_frozen BK181.out 1) | ((with_reducible refine gate_callee (f := 10) rfl ?_); refine goesL_ (some 40) rfl rfl Tryd.func10 (by kernel_rfl) rfl #[.int .i64 t176] rfl (by (try simp only [List.map_toArray, List.map_cons, List.map_nil]); first | done | rfl | (simp only [List.length_drop, List.length_take]; rfl)) ?_; (with_reducible refine (vec_Unit.calls kj6 t176 t182 t183 _ A25.out (by first | ((repeat (first | exact HG.out | apply Sines.drewN | apply Sines.drew)); done) | exact Sines.below HG.out (by repeat (first | (with_reducible first | exact HB.out | apply below_alloc | apply pw_below_drewN | apply below_drew1 | refine below_set ?_ GE173.out | refine below_set ?_ GE174.out | refine below_set ?_ GE181.out) | exact HB.out)))).mono ?_); rintro e w37 ⟨rfl, hb⟩; refine ⟨_, rfl, ?_⟩; have n0_ := Aside0.mk (blk_below (g := gb173) (o := .cells #[.int .i64 a0_0, .int .i64 a0_1] 25 (0, 0)) (by (with_reducible repeat (first | refine blk_drewN ?_ _ | refine blk_drew ?_ | refine blk_alloc ?_ _)); refine blk_far ?_ NB173_181.out _; (with_reducible repeat (first | refine blk_drewN ?_ _ | refine blk_drew ?_ | refine blk_alloc ?_ _)); refine blk_far ?_ NB173_181.out _; (with_reducible repeat (first | refine blk_drewN ?_ _ | refine blk_drew ?_ | refine blk_alloc ?_ _)); exact BK173.out) hb); have n1_ := Aside0.mk (blk_below (g := gb174) (o := .cells #[.int .i64 a1_0, .int .i64 a1_1] 25 (0, 0)) (by (with_reducible repeat (first | refine blk_drewN ?_ _ | refine blk_drew ?_ | refine blk_alloc ?_ _)); refine blk_far ?_ NB174_181.out _; (with_reducible repeat (first | refine blk_drewN ?_ _ | refine blk_drew ?_ | refine blk_alloc ?_ _)); refine blk_far ?_ NB174_181.out _; (with_reducible repeat (first | refine blk_drewN ?_ _ | refine blk_drew ?_ | refine blk_alloc ?_ _)); exact BK174.out) hb); have n2_ := Aside0.mk (blk_below (g := gb181) (o := .cells #[.int .i64 t179, .int .i64 t180] 25 (0, 0)) (by (with_reducible repeat (first | refine blk_drewN ?_ _ | refine blk_drew ?_ | refine blk_alloc ?_ _)); refine blk_put (cs := #[.int .i64 t179, .int .i64 0]) ?_ 1 _ rfl; (with_reducible repeat (first | refine blk_drewN ?_ _ | refine blk_drew ?_ | refine blk_alloc ?_ _)); refine blk_put (cs := #[.int .i64 0, .int .i64 0]) ?_ 0 _ rfl; (with_reducible repeat (first | refine blk_drewN ?_ _ | refine blk_drew ?_ | refine blk_alloc ?_ _)); exact BK181.out) hb); have n3_ := Aside0.mk (below_step (by repeat (first | (with_reducible first | exact HB.out | apply below_alloc | apply pw_below_drewN | apply below_drew1 | refine below_set ?_ GE173.out | refine below_set ?_ GE174.out | refine below_set ?_ GE181.out) | exact HB.out)) hb); clear BK173; clear BK174; clear BK181; clear HB; have BK173 := n0_; have BK174 := n1_; have BK181 := n2_; have HB := n3_; clear n0_ n1_ n2_ n3_; (try clear hb); (try clear hb2); (try clear hk); (try clear hi)) | ((with_reducible refine gate_dst (N := 9) rfl ?_); refine box_event ?hg (N := 9) ?hd (cs := #[.int .i64 0, .int .i64 0]) (t := 25) ?hr ?_; (case hd => rfl); (case hg => rfl); (case hr => first | (go_simp; done) | (go_simp; rfl)); intro gb184 hg w38 hbox hb; have n0_ := Aside0.mk (blk_below (g := gb173) (o := .cells #[.int .i64 a0_0, .int .i64 a0_1] 25 (0, 0)) (by (with_reducible repeat (first | refine blk_drewN ?_ _ | refine blk_drew ?_ | refine blk_alloc ?_ _)); exact BK173.out) hb); have n1_ := Aside0.mk (blk_below (g := gb174) (o := .cells #[.int .i64 a1_0, .int .i64 a1_1] 25 (0, 0)) (by (with_reducible repeat (first | refine blk_drewN ?_ _ | refine blk_drew ?_ | refine blk_alloc ?_ _)); exact BK174.out) hb); have n2_ := Aside0.mk (blk_below (g := gb181) (o := .cells #[.int .i64 t179, .int .i64 t180] 25 (0, 0)) (by (with_reducible repeat (first | refine blk_drewN ?_ _ | refine blk_drew ?_ | refine blk_alloc ?_ _)); exact BK181.out) hb); have n3_ := Aside0.mk (below_step (by repeat (first | (with_reducible first | exact HB.out | apply below_alloc | apply pw_below_drewN | apply below_drew1 | refine below_set ?_ GE173.out | refine below_set ?_ GE174.out | refine below_set ?_ GE181.out) | exact HB.out)) hb); have n4_ := Aside0.mk (hbox); have n5_ := Aside0.mk ((by rw [hg]; exact (below_size (by repeat (first | (with_reducible first | exact HB.out | apply below_alloc | apply pw_below_drewN | apply below_drew1 | refine below_set ?_ GE173.out | refine below_set ?_ GE174.out | refine below_set ?_ GE181.out) | exact HB.out))) : w.heap.size ≤ gb184)); have n6_ := Aside0.mk ((by rw [hg]; exact (below_size (by repeat (first | (with_reducible first | exact HB.out | apply below_alloc | apply pw_below_drewN | apply below_drew1 | refine below_set ?_ GE173.out | refine below_set ?_ GE174.out | refine below_set ?_ GE181.out) | exact HB.out))) : w.heap.size ≤ gb184)); have n7_ := Aside0.mk ((by rw [hg]; exact Nat.ne_of_lt (blk_lt (g := gb173) (o := .cells #[.int .i64 a0_0, .int .i64 a0_1] 25 (0, 0)) (by (with_reducible repeat (first | refine blk_drewN ?_ _ | refine blk_drew ?_ | refine blk_alloc ?_ _)); exact BK173.out)) : gb173 ≠ gb184)); have n8_ := Aside0.mk ((by rw [hg]; exact Nat.ne_of_gt (blk_lt (g := gb173) (o := .cells #[.int .i64 a0_0, .int .i64 a0_1] 25 (0, 0)) (by (with_reducible repeat (first | refine blk_drewN ?_ _ | refine blk_drew ?_ | refine blk_alloc ?_ _)); exact BK173.out)) : gb184 ≠ gb173)); have n9_ := Aside0.mk ((by rw [hg]; exact Nat.ne_of_lt (blk_lt (g := gb174) (o := .cells #[.int .i64 a1_0, .int .i64 a1_1] 25 (0, 0)) (by (with_reducible repeat (first | refine blk_drewN ?_ _ | refine blk_drew ?_ | refine blk_alloc ?_ _)); exact BK174.out)) : gb174 ≠ gb184)); have n10_ := Aside0.mk ((by rw [hg]; exact Nat.ne_of_gt (blk_lt (g := gb174) (o := .cells #[.int .i64 a1_0, .int .i64 a1_1] 25 (0, 0)) (by (with_reducible repeat (first | refine blk_drewN ?_ _ | refine blk_drew ?_ | refine blk_alloc ?_ _)); exact BK174.out)) : gb184 ≠ gb174)); have n11_ := Aside0.mk ((by rw [hg]; exact Nat.ne_of_lt (blk_lt (g := gb181) (o := .cells #[.int .i64 t179, .int .i64 t180] 25 (0, 0)) (by (with_reducible repeat (first | refine blk_drewN ?_ _ | refine blk_drew ?_ | refine blk_alloc ?_ _)); exact BK181.out)) : gb181 ≠ gb184)); have n12_ := Aside0.mk ((by rw [hg]; exact Nat.ne_of_gt (blk_lt (g := gb181) (o := .cells #[.int .i64 t179, .int .i64 t180] 25 (0, 0)) (by (with_reducible repeat (first | refine blk_drewN ?_ _ | refine blk_drew ?_ | refine blk_alloc ?_ _)); exact BK181.out)) : gb184 ≠ gb181)); clear BK173; clear BK174; clear BK181; clear HB; have BK173 := n0_; have BK174 := n1_; have BK181 := n2_; have HB := n3_; have BK184 := n4_; have GW184 := n5_; have GE184 := n6_; have NB173_184 := n7_; have NB184_173 := n8_; have NB174_184 := n9_; have NB184_174 := n10_; have NB181_184 := n11_; have NB184_181 := n12_; clear n0_ n1_ n2_ n3_ n4_ n5_ n6_ n7_ n8_ n9_ n10_ n11_ n12_; clear hb hbox hg; have hnb39 := NB184_173.out; have hnc39 := NB173_184.out; have hnb40 := NB184_174.out; have hnc40 := NB174_184.out; have hnb41 := NB184_181.out; have hnc41 := NB181_184.out; have hcz42_0 : w38.cell? ⟨gb184, 0, none⟩ = some (.int .i64 0) := (blk_cell BK184.out 0).trans rfl; have hcz42_1 : w38.cell? ⟨gb184, 1, none⟩ = some (.int .i64 0) := (blk_cell BK184.out 1).trans rfl; have hfz42_0 := blk_frozen BK184.out 0; have hfz42_1 := blk_frozen BK184.out 1; have hcz43_0 : w38.cell? ⟨gb181, 0, none⟩ = some (.int .i64 t179) := (blk_cell BK181.out 0).trans rfl; have hcz43_1 : w38.cell? ⟨gb181, 1, none⟩ = some (.int .i64 t180) := (blk_cell BK181.out 1).trans rfl; have hfz43_0 := blk_frozen BK181.out 0; have hfz43_1 := blk_frozen BK181.out 1))
            go_loopg [11, 12] kj6 (fun kq v11 v12 w' => ∃ (x11_2 : Bool) (x12_2 : Int), v11 = .bool x11_2 ∧ v12 = .int .i64 x12_2 ∧ Aside0 (joustlaw13_VecToward.l0 kq a2 t176 (wrap64 ((wrap64 (t182 * t179)) + (wrap64 (t183 * t180)))) x11_2 x12_2 a0_0 a0_1 a1_0 a1_1 t179 t180 = some r) ∧ Aside0 (kq ≤ kj6) ∧ Aside0 (w'.heap[gb173]? = some (.cells #[.int .i64 a0_0, .int .i64 a0_1] 25 (0, 0))) ∧ Aside0 (w'.heap[gb174]? = some (.cells #[.int .i64 a1_0, .int .i64 a1_1] 25 (0, 0))) ∧ Aside0 (w'.heap[gb181]? = some (.cells #[.int .i64 t179, .int .i64 t180] 25 (0, 0))) ∧ Aside0 (w'.heap[gb184]? = some (.cells #[.int .i64 t182, .int .i64 t183] 25 (0, 0))) ∧ Aside0 (Below w.heap.size w w'))
            case atStart => exact ⟨(true), (0), (by first | rfl | (simp; done) | (simp [*]; done)), (by first | rfl | (simp; done) | (simp [*]; done)), H', ⟨Nat.le_refl _⟩, ⟨by (with_reducible repeat (first | refine blk_drewN ?_ _ | refine blk_drew ?_ | refine blk_alloc ?_ _)); refine blk_far ?_ NB173_184.out _; (with_reducible repeat (first | refine blk_drewN ?_ _ | refine blk_drew ?_ | refine blk_alloc ?_ _)); refine blk_far ?_ NB173_184.out _; (with_reducible repeat (first | refine blk_drewN ?_ _ | refine blk_drew ?_ | refine blk_alloc ?_ _)); exact BK173.out⟩, ⟨by (with_reducible repeat (first | refine blk_drewN ?_ _ | refine blk_drew ?_ | refine blk_alloc ?_ _)); refine blk_far ?_ NB174_184.out _; (with_reducible repeat (first | refine blk_drewN ?_ _ | refine blk_drew ?_ | refine blk_alloc ?_ _)); refine blk_far ?_ NB174_184.out _; (with_reducible repeat (first | refine blk_drewN ?_ _ | refine blk_drew ?_ | refine blk_alloc ?_ _)); exact BK174.out⟩, ⟨by (with_reducible repeat (first | refine blk_drewN ?_ _ | refine blk_drew ?_ | refine blk_alloc ?_ _)); refine blk_far ?_ NB181_184.out _; (with_reducible repeat (first | refine blk_drewN ?_ _ | refine blk_drew ?_ | refine blk_alloc ?_ _)); refine blk_far ?_ NB181_184.out _; (with_reducible repeat (first | refine blk_drewN ?_ _ | refine blk_drew ?_ | refine blk_alloc ?_ _)); exact BK181.out⟩, ⟨by (with_reducible repeat (first | refine blk_drewN ?_ _ | refine blk_drew ?_ | refine blk_alloc ?_ _)); refine blk_put (cs := #[.int .i64 t182, .int .i64 0]) ?_ 1 _ rfl; (with_reducible repeat (first | refine blk_drewN ?_ _ | refine blk_drew ?_ | refine blk_alloc ?_ _)); refine blk_put (cs := #[.int .i64 0, .int .i64 0]) ?_ 0 _ rfl; (with_reducible repeat (first | refine blk_drewN ?_ _ | refine blk_drew ?_ | refine blk_alloc ?_ _)); exact BK184.out⟩, ⟨by repeat (first | (with_reducible first | exact HB.out | apply below_alloc | apply pw_below_drewN | apply below_drew1 | refine below_set ?_ GE173.out | refine below_set ?_ GE174.out | refine below_set ?_ GE181.out | refine below_set ?_ GE184.out) | exact HB.out)⟩⟩
            case round =>
              clear H'
              try clear c1
              try clear c2
              try clear p2
              try clear c3
              try clear c4
              try clear c5
              try clear p6
              try clear c8
              try clear c10
              try clear c11
              try clear c12
              try clear c13
              try clear c14
              try clear c15
              try clear c15b0
              try clear c16
              try clear c16b0
              try clear c18
              try clear c21
              try clear c23
              try clear c26
              try clear c34
              try clear c35
              try clear c39
              try clear c40
              try clear c41
              try clear hcz12_0
              try clear hcz12_1
              try clear hcz13_0
              try clear hcz13_1
              try clear hcz19_0
              try clear hcz19_1
              try clear hcz27_0
              try clear hcz27_1
              try clear hcz28_0
              try clear hcz28_1
              try clear hcz30_0
              try clear hcz30_1
              try clear hcz31_0
              try clear hcz31_1
              try clear hcz36_0
              try clear hcz36_1
              try clear hcz42_0
              try clear hcz42_1
              try clear hcz43_0
              try clear hcz43_1
              try clear hfz12_0
              try clear hfz12_1
              try clear hfz13_0
              try clear hfz13_1
              try clear hfz19_0
              try clear hfz19_1
              try clear hfz27_0
              try clear hfz27_1
              try clear hfz28_0
              try clear hfz28_1
              try clear hfz30_0
              try clear hfz30_1
              try clear hfz31_0
              try clear hfz31_1
              try clear hfz36_0
              try clear hfz36_1
              try clear hfz42_0
              try clear hfz42_1
              try clear hfz43_0
              try clear hfz43_1
              try clear p2
              obtain ⟨x11_2, x12_2, rfl, rfl, HA, HK2, BK173, BK174, BK181, BK184, HB⟩ := hrel
              cases gk with
              | zero => exact absurd HA.out (by simp [joustlaw13_VecToward.l0])
              | succ k2 =>
                have H := HA.out
                clear HA
                simp only [joustlaw13_VecToward.l0] at H
                by_cases c44 : x12_2 < 256
                · rw [if_pos c44] at H
                  have c44b0 : decide (x12_2 < 256) = true := decide_eq_true c44
                  clear c44
                  replace H := Option.bind_eq_some_iff.mp H
                  obtain ⟨⟨t185, t186⟩, A450, H⟩ := H
                  replace H : (if (wrap64 ((wrap64 (t185 * t179)) + (wrap64 (t186 * t180)))) > (wrap64 ((wrap64 (t182 * t179)) + (wrap64 (t183 * t180)))) then (some false) else (if (wrap64 ((wrap64 (t185 * t179)) + (wrap64 (t186 * t180)))) = (wrap64 ((wrap64 (t182 * t179)) + (wrap64 (t183 * t180)))) then (if x12_2 < t176 then (if (!(t179 == 0) || (!(t180 == 0))) = true then (some false) else (if x11_2 = true then (if x12_2 = t176 then (joustlaw13_VecToward.l0 k2 a2 t176 (wrap64 ((wrap64 (t182 * t179)) + (wrap64 (t183 * t180)))) true (wrap64 (x12_2 + 1)) a0_0 a0_1 a1_0 a1_1 t179 t180) else (joustlaw13_VecToward.l0 k2 a2 t176 (wrap64 ((wrap64 (t182 * t179)) + (wrap64 (t183 * t180)))) (decide ((wrap64 ((wrap64 (t185 * t179)) + (wrap64 (t186 * t180)))) < (wrap64 ((wrap64 (t182 * t179)) + (wrap64 (t183 * t180)))))) (wrap64 (x12_2 + 1)) a0_0 a0_1 a1_0 a1_1 t179 t180)) else (joustlaw13_VecToward.l0 k2 a2 t176 (wrap64 ((wrap64 (t182 * t179)) + (wrap64 (t183 * t180)))) false (wrap64 (x12_2 + 1)) a0_0 a0_1 a1_0 a1_1 t179 t180))) else (if x11_2 = true then (if x12_2 = t176 then (joustlaw13_VecToward.l0 k2 a2 t176 (wrap64 ((wrap64 (t182 * t179)) + (wrap64 (t183 * t180)))) true (wrap64 (x12_2 + 1)) a0_0 a0_1 a1_0 a1_1 t179 t180) else (joustlaw13_VecToward.l0 k2 a2 t176 (wrap64 ((wrap64 (t182 * t179)) + (wrap64 (t183 * t180)))) (decide ((wrap64 ((wrap64 (t185 * t179)) + (wrap64 (t186 * t180)))) < (wrap64 ((wrap64 (t182 * t179)) + (wrap64 (t183 * t180)))))) (wrap64 (x12_2 + 1)) a0_0 a0_1 a1_0 a1_1 t179 t180)) else (joustlaw13_VecToward.l0 k2 a2 t176 (wrap64 ((wrap64 (t182 * t179)) + (wrap64 (t183 * t180)))) false (wrap64 (x12_2 + 1)) a0_0 a0_1 a1_0 a1_1 t179 t180))) else (if x11_2 = true then (if x12_2 = t176 then (joustlaw13_VecToward.l0 k2 a2 t176 (wrap64 ((wrap64 (t182 * t179)) + (wrap64 (t183 * t180)))) true (wrap64 (x12_2 + 1)) a0_0 a0_1 a1_0 a1_1 t179 t180) else (joustlaw13_VecToward.l0 k2 a2 t176 (wrap64 ((wrap64 (t182 * t179)) + (wrap64 (t183 * t180)))) (decide ((wrap64 ((wrap64 (t185 * t179)) + (wrap64 (t186 * t180)))) < (wrap64 ((wrap64 (t182 * t179)) + (wrap64 (t183 * t180)))))) (wrap64 (x12_2 + 1)) a0_0 a0_1 a1_0 a1_1 t179 t180)) else (joustlaw13_VecToward.l0 k2 a2 t176 (wrap64 ((wrap64 (t182 * t179)) + (wrap64 (t183 * t180)))) false (wrap64 (x12_2 + 1)) a0_0 a0_1 a1_0 a1_1 t179 t180)))) = some r := H
                  have A45 := Aside0.mk A450
                  clear A450
                  by_cases c46 : (wrap64 ((wrap64 (t185 * t179)) + (wrap64 (t186 * t180)))) > (wrap64 ((wrap64 (t182 * t179)) + (wrap64 (t183 * t180))))
                  · rw [if_pos c46] at H
                    have c46b0 : decide ((wrap64 ((wrap64 (t182 * t179)) + (wrap64 (t183 * t180)))) < (wrap64 ((wrap64 (t185 * t179)) + (wrap64 (t186 * t180))))) = true := decide_eq_true c46
                    clear c46
                    obtain rfl := Option.some.inj H
                    go_wp2_with (first | ((with_reducible refine gate_callee (f := 10) rfl ?_); refine goesL_ (some 57) rfl rfl Tryd.func10 (by kernel_rfl) rfl #[.int .i64 x12_2] rfl (by (try simp only [List.map_toArray, List.map_cons, List.map_nil]); first | done | rfl | (simp only [List.length_drop, List.length_take]; rfl)) ?_; (with_reducible refine (vec_Unit.calls k2 x12_2 t185 t186 _ A45.out (by first | ((repeat (first | exact HG.out | apply Sines.drewN | apply Sines.drew)); done) | exact Sines.below HG.out (by repeat (first | (with_reducible first | exact HB.out | apply below_alloc | apply pw_below_drewN | apply below_drew1 | refine below_set ?_ GE173.out | refine below_set ?_ GE174.out | refine below_set ?_ GE181.out | refine below_set ?_ GE184.out) | exact HB.out)))).mono ?_); rintro e w47 ⟨rfl, hb⟩; refine ⟨_, rfl, ?_⟩; have n0_ := Aside0.mk (blk_below (g := gb173) (o := .cells #[.int .i64 a0_0, .int .i64 a0_1] 25 (0, 0)) (by (with_reducible repeat (first | refine blk_drewN ?_ _ | refine blk_drew ?_ | refine blk_alloc ?_ _)); exact BK173.out) hb); have n1_ := Aside0.mk (blk_below (g := gb174) (o := .cells #[.int .i64 a1_0, .int .i64 a1_1] 25 (0, 0)) (by (with_reducible repeat (first | refine blk_drewN ?_ _ | refine blk_drew ?_ | refine blk_alloc ?_ _)); exact BK174.out) hb); have n2_ := Aside0.mk (blk_below (g := gb181) (o := .cells #[.int .i64 t179, .int .i64 t180] 25 (0, 0)) (by (with_reducible repeat (first | refine blk_drewN ?_ _ | refine blk_drew ?_ | refine blk_alloc ?_ _)); exact BK181.out) hb); have n3_ := Aside0.mk (blk_below (g := gb184) (o := .cells #[.int .i64 t182, .int .i64 t183] 25 (0, 0)) (by (with_reducible repeat (first | refine blk_drewN ?_ _ | refine blk_drew ?_ | refine blk_alloc ?_ _)); exact BK184.out) hb); have n4_ := Aside0.mk (below_step (by repeat (first | (with_reducible first | exact HB.out | apply below_alloc | apply pw_below_drewN | apply below_drew1 | refine below_set ?_ GE173.out | refine below_set ?_ GE174.out | refine below_set ?_ GE181.out | refine below_set ?_ GE184.out) | exact HB.out)) hb); clear BK173; clear BK174; clear BK181; clear BK184; clear HB; have BK173 := n0_; have BK174 := n1_; have BK181 := n2_; have BK184 := n3_; have HB := n4_; clear n0_ n1_ n2_ n3_ n4_; (try clear hb); (try clear hb2); (try clear hk); (try clear hi)) | ((with_reducible refine gate_dst (N := 13) rfl ?_); refine box_event ?hg (N := 13) ?hd (cs := #[.int .i64 0, .int .i64 0]) (t := 25) ?hr ?_; (case hd => rfl); (case hg => rfl); (case hr => first | (go_simp; done) | (go_simp; rfl)); intro gb187 hg w48 hbox hb; have n0_ := Aside0.mk (blk_below (g := gb173) (o := .cells #[.int .i64 a0_0, .int .i64 a0_1] 25 (0, 0)) (by (with_reducible repeat (first | refine blk_drewN ?_ _ | refine blk_drew ?_ | refine blk_alloc ?_ _)); exact BK173.out) hb); have n1_ := Aside0.mk (blk_below (g := gb174) (o := .cells #[.int .i64 a1_0, .int .i64 a1_1] 25 (0, 0)) (by (with_reducible repeat (first | refine blk_drewN ?_ _ | refine blk_drew ?_ | refine blk_alloc ?_ _)); exact BK174.out) hb); have n2_ := Aside0.mk (blk_below (g := gb181) (o := .cells #[.int .i64 t179, .int .i64 t180] 25 (0, 0)) (by (with_reducible repeat (first | refine blk_drewN ?_ _ | refine blk_drew ?_ | refine blk_alloc ?_ _)); exact BK181.out) hb); have n3_ := Aside0.mk (blk_below (g := gb184) (o := .cells #[.int .i64 t182, .int .i64 t183] 25 (0, 0)) (by (with_reducible repeat (first | refine blk_drewN ?_ _ | refine blk_drew ?_ | refine blk_alloc ?_ _)); exact BK184.out) hb); have n4_ := Aside0.mk (below_step (by repeat (first | (with_reducible first | exact HB.out | apply below_alloc | apply pw_below_drewN | apply below_drew1 | refine below_set ?_ GE173.out | refine below_set ?_ GE174.out | refine below_set ?_ GE181.out | refine below_set ?_ GE184.out) | exact HB.out)) hb); have n5_ := Aside0.mk (hbox); have n6_ := Aside0.mk ((by rw [hg]; exact (below_size (by repeat (first | (with_reducible first | exact HB.out | apply below_alloc | apply pw_below_drewN | apply below_drew1 | refine below_set ?_ GE173.out | refine below_set ?_ GE174.out | refine below_set ?_ GE181.out | refine below_set ?_ GE184.out) | exact HB.out))) : w.heap.size ≤ gb187)); have n7_ := Aside0.mk ((by rw [hg]; exact (below_size (by repeat (first | (with_reducible first | exact HB.out | apply below_alloc | apply pw_below_drewN | apply below_drew1 | refine below_set ?_ GE173.out | refine below_set ?_ GE174.out | refine below_set ?_ GE181.out | refine below_set ?_ GE184.out) | exact HB.out))) : w.heap.size ≤ gb187)); have n8_ := Aside0.mk ((by rw [hg]; exact Nat.ne_of_lt (blk_lt (g := gb173) (o := .cells #[.int .i64 a0_0, .int .i64 a0_1] 25 (0, 0)) (by (with_reducible repeat (first | refine blk_drewN ?_ _ | refine blk_drew ?_ | refine blk_alloc ?_ _)); exact BK173.out)) : gb173 ≠ gb187)); have n9_ := Aside0.mk ((by rw [hg]; exact Nat.ne_of_gt (blk_lt (g := gb173) (o := .cells #[.int .i64 a0_0, .int .i64 a0_1] 25 (0, 0)) (by (with_reducible repeat (first | refine blk_drewN ?_ _ | refine blk_drew ?_ | refine blk_alloc ?_ _)); exact BK173.out)) : gb187 ≠ gb173)); have n10_ := Aside0.mk ((by rw [hg]; exact Nat.ne_of_lt (blk_lt (g := gb174) (o := .cells #[.int .i64 a1_0, .int .i64 a1_1] 25 (0, 0)) (by (with_reducible repeat (first | refine blk_drewN ?_ _ | refine blk_drew ?_ | refine blk_alloc ?_ _)); exact BK174.out)) : gb174 ≠ gb187)); have n11_ := Aside0.mk ((by rw [hg]; exact Nat.ne_of_gt (blk_lt (g := gb174) (o := .cells #[.int .i64 a1_0, .int .i64 a1_1] 25 (0, 0)) (by (with_reducible repeat (first | refine blk_drewN ?_ _ | refine blk_drew ?_ | refine blk_alloc ?_ _)); exact BK174.out)) : gb187 ≠ gb174)); have n12_ := Aside0.mk ((by rw [hg]; exact Nat.ne_of_lt (blk_lt (g := gb181) (o := .cells #[.int .i64 t179, .int .i64 t180] 25 (0, 0)) (by (with_reducible repeat (first | refine blk_drewN ?_ _ | refine blk_drew ?_ | refine blk_alloc ?_ _)); exact BK181.out)) : gb181 ≠ gb187)); have n13_ := Aside0.mk ((by rw [hg]; exact Nat.ne_of_gt (blk_lt (g := gb181) (o := .cells #[.int .i64 t179, .int .i64 t180] 25 (0, 0)) (by (with_reducible repeat (first | refine blk_drewN ?_ _ | refine blk_drew ?_ | refine blk_alloc ?_ _)); exact BK181.out)) : gb187 ≠ gb181)); have n14_ := Aside0.mk ((by rw [hg]; exact Nat.ne_of_lt (blk_lt (g := gb184) (o := .cells #[.int .i64 t182, .int .i64 t183] 25 (0, 0)) (by (with_reducible repeat (first | refine blk_drewN ?_ _ | refine blk_drew ?_ | refine blk_alloc ?_ _)); exact BK184.out)) : gb184 ≠ gb187)); have n15_ := Aside0.mk ((by rw [hg]; exact Nat.ne_of_gt (blk_lt (g := gb184) (o := .cells #[.int .i64 t182, .int .i64 t183] 25 (0, 0)) (by (with_reducible repeat (first | refine blk_drewN ?_ _ | refine blk_drew ?_ | refine blk_alloc ?_ _)); exact BK184.out)) : gb187 ≠ gb184)); clear BK173; clear BK174; clear BK181; clear BK184; clear HB; have BK173 := n0_; have BK174 := n1_; have BK181 := n2_; have BK184 := n3_; have HB := n4_; have BK187 := n5_; have GW187 := n6_; have GE187 := n7_; have NB173_187 := n8_; have NB187_173 := n9_; have NB174_187 := n10_; have NB187_174 := n11_; have NB181_187 := n12_; have NB187_181 := n13_; have NB184_187 := n14_; have NB187_184 := n15_; clear n0_ n1_ n2_ n3_ n4_ n5_ n6_ n7_ n8_ n9_ n10_ n11_ n12_ n13_ n14_ n15_; clear hb hbox hg; have hnb49 := NB187_173.out; have hnc49 := NB173_187.out; have hnb50 := NB187_174.out; have hnc50 := NB174_187.out; have hnb51 := NB187_181.out; have hnc51 := NB181_187.out; have hnb52 := NB187_184.out; have hnc52 := NB184_187.out; have hcz53_0 : w48.cell? ⟨gb187, 0, none⟩ = some (.int .i64 0) := (blk_cell BK187.out 0).trans rfl; have hcz53_1 : w48.cell? ⟨gb187, 1, none⟩ = some (.int .i64 0) := (blk_cell BK187.out 1).trans rfl; have hfz53_0 := blk_frozen BK187.out 0; have hfz53_1 := blk_frozen BK187.out 1; have hnb54 := NB181_173.out; have hnc54 := NB173_181.out; have hnb55 := NB181_174.out; have hnc55 := NB174_181.out; have hnb56 := NB181_184.out; have hnc56 := NB184_181.out; have hcz57_0 : w48.cell? ⟨gb181, 0, none⟩ = some (.int .i64 t179) := (blk_cell BK181.out 0).trans rfl; have hcz57_1 : w48.cell? ⟨gb181, 1, none⟩ = some (.int .i64 t180) := (blk_cell BK181.out 1).trans rfl; have hfz57_0 := blk_frozen BK181.out 0; have hfz57_1 := blk_frozen BK181.out 1))
                    go_ret
                    exact ⟨by first | rfl | (simp [errW_none, errW_some] <;> rfl) | (simp [*, errW_none, errW_some] <;> rfl), by repeat (first | (with_reducible first | exact HB.out | apply below_alloc | apply pw_below_drewN | apply below_drew1 | refine below_set ?_ GE173.out | refine below_set ?_ GE174.out | refine below_set ?_ GE181.out | refine below_set ?_ GE184.out | refine below_set ?_ GE187.out) | exact HB.out)⟩
                  · rw [if_neg c46] at H
                    have c46b0 : decide ((wrap64 ((wrap64 (t182 * t179)) + (wrap64 (t183 * t180)))) < (wrap64 ((wrap64 (t185 * t179)) + (wrap64 (t186 * t180))))) = false := decide_eq_false c46
                    clear c46
                    by_cases c58 : (wrap64 ((wrap64 (t185 * t179)) + (wrap64 (t186 * t180)))) = (wrap64 ((wrap64 (t182 * t179)) + (wrap64 (t183 * t180))))
                    · rw [if_pos c58] at H
                      have c58b0 : ((wrap64 ((wrap64 (t185 * t179)) + (wrap64 (t186 * t180)))) == (wrap64 ((wrap64 (t182 * t179)) + (wrap64 (t183 * t180))))) = true := beq_iff_eq.mpr c58
                      have c58b1 : ((wrap64 ((wrap64 (t185 * t179)) + (wrap64 (t186 * t180)))) != (wrap64 ((wrap64 (t182 * t179)) + (wrap64 (t183 * t180))))) = false := bne_eq_false_iff_eq.mpr c58
                      clear c58
                      by_cases c59 : x12_2 < t176
                      · rw [if_pos c59] at H
                        have c59b0 : decide (x12_2 < t176) = true := decide_eq_true c59
                        clear c59
                        by_cases c60 : (!(t179 == 0) || (!(t180 == 0))) = true
                        · rw [if_pos c60] at H
                          have c60b0 : (!(t179 == 0) || (!(t180 == 0))) = true := c60
                          clear c60
                          obtain rfl := Option.some.inj H
                          go_wp2_with (first | ((with_reducible refine gate_callee (f := 10) rfl ?_); refine goesL_ (some 57) rfl rfl Tryd.func10 (by kernel_rfl) rfl #[.int .i64 x12_2] rfl (by (try simp only [List.map_toArray, List.map_cons, List.map_nil]); first | done | rfl | (simp only [List.length_drop, List.length_take]; rfl)) ?_; (with_reducible refine (vec_Unit.calls k2 x12_2 t185 t186 _ A45.out (by first | ((repeat (first | exact HG.out | apply Sines.drewN | apply Sines.drew)); done) | exact Sines.below HG.out (by repeat (first | (with_reducible first | exact HB.out | apply below_alloc | apply pw_below_drewN | apply below_drew1 | refine below_set ?_ GE173.out | refine below_set ?_ GE174.out | refine below_set ?_ GE181.out | refine below_set ?_ GE184.out) | exact HB.out)))).mono ?_); rintro e w61 ⟨rfl, hb⟩; refine ⟨_, rfl, ?_⟩; have n0_ := Aside0.mk (blk_below (g := gb173) (o := .cells #[.int .i64 a0_0, .int .i64 a0_1] 25 (0, 0)) (by (with_reducible repeat (first | refine blk_drewN ?_ _ | refine blk_drew ?_ | refine blk_alloc ?_ _)); exact BK173.out) hb); have n1_ := Aside0.mk (blk_below (g := gb174) (o := .cells #[.int .i64 a1_0, .int .i64 a1_1] 25 (0, 0)) (by (with_reducible repeat (first | refine blk_drewN ?_ _ | refine blk_drew ?_ | refine blk_alloc ?_ _)); exact BK174.out) hb); have n2_ := Aside0.mk (blk_below (g := gb181) (o := .cells #[.int .i64 t179, .int .i64 t180] 25 (0, 0)) (by (with_reducible repeat (first | refine blk_drewN ?_ _ | refine blk_drew ?_ | refine blk_alloc ?_ _)); exact BK181.out) hb); have n3_ := Aside0.mk (blk_below (g := gb184) (o := .cells #[.int .i64 t182, .int .i64 t183] 25 (0, 0)) (by (with_reducible repeat (first | refine blk_drewN ?_ _ | refine blk_drew ?_ | refine blk_alloc ?_ _)); exact BK184.out) hb); have n4_ := Aside0.mk (below_step (by repeat (first | (with_reducible first | exact HB.out | apply below_alloc | apply pw_below_drewN | apply below_drew1 | refine below_set ?_ GE173.out | refine below_set ?_ GE174.out | refine below_set ?_ GE181.out | refine below_set ?_ GE184.out) | exact HB.out)) hb); clear BK173; clear BK174; clear BK181; clear BK184; clear HB; have BK173 := n0_; have BK174 := n1_; have BK181 := n2_; have BK184 := n3_; have HB := n4_; clear n0_ n1_ n2_ n3_ n4_; (try clear hb); (try clear hb2); (try clear hk); (try clear hi)) | ((with_reducible refine gate_dst (N := 13) rfl ?_); refine box_event ?hg (N := 13) ?hd (cs := #[.int .i64 0, .int .i64 0]) (t := 25) ?hr ?_; (case hd => rfl); (case hg => rfl); (case hr => first | (go_simp; done) | (go_simp; rfl)); intro gb187 hg w62 hbox hb; have n0_ := Aside0.mk (blk_below (g := gb173) (o := .cells #[.int .i64 a0_0, .int .i64 a0_1] 25 (0, 0)) (by (with_reducible repeat (first | refine blk_drewN ?_ _ | refine blk_drew ?_ | refine blk_alloc ?_ _)); exact BK173.out) hb); have n1_ := Aside0.mk (blk_below (g := gb174) (o := .cells #[.int .i64 a1_0, .int .i64 a1_1] 25 (0, 0)) (by (with_reducible repeat (first | refine blk_drewN ?_ _ | refine blk_drew ?_ | refine blk_alloc ?_ _)); exact BK174.out) hb); have n2_ := Aside0.mk (blk_below (g := gb181) (o := .cells #[.int .i64 t179, .int .i64 t180] 25 (0, 0)) (by (with_reducible repeat (first | refine blk_drewN ?_ _ | refine blk_drew ?_ | refine blk_alloc ?_ _)); exact BK181.out) hb); have n3_ := Aside0.mk (blk_below (g := gb184) (o := .cells #[.int .i64 t182, .int .i64 t183] 25 (0, 0)) (by (with_reducible repeat (first | refine blk_drewN ?_ _ | refine blk_drew ?_ | refine blk_alloc ?_ _)); exact BK184.out) hb); have n4_ := Aside0.mk (below_step (by repeat (first | (with_reducible first | exact HB.out | apply below_alloc | apply pw_below_drewN | apply below_drew1 | refine below_set ?_ GE173.out | refine below_set ?_ GE174.out | refine below_set ?_ GE181.out | refine below_set ?_ GE184.out) | exact HB.out)) hb); have n5_ := Aside0.mk (hbox); have n6_ := Aside0.mk ((by rw [hg]; exact (below_size (by repeat (first | (with_reducible first | exact HB.out | apply below_alloc | apply pw_below_drewN | apply below_drew1 | refine below_set ?_ GE173.out | refine below_set ?_ GE174.out | refine below_set ?_ GE181.out | refine below_set ?_ GE184.out) | exact HB.out))) : w.heap.size ≤ gb187)); have n7_ := Aside0.mk ((by rw [hg]; exact (below_size (by repeat (first | (with_reducible first | exact HB.out | apply below_alloc | apply pw_below_drewN | apply below_drew1 | refine below_set ?_ GE173.out | refine below_set ?_ GE174.out | refine below_set ?_ GE181.out | refine below_set ?_ GE184.out) | exact HB.out))) : w.heap.size ≤ gb187)); have n8_ := Aside0.mk ((by rw [hg]; exact Nat.ne_of_lt (blk_lt (g := gb173) (o := .cells #[.int .i64 a0_0, .int .i64 a0_1] 25 (0, 0)) (by (with_reducible repeat (first | refine blk_drewN ?_ _ | refine blk_drew ?_ | refine blk_alloc ?_ _)); exact BK173.out)) : gb173 ≠ gb187)); have n9_ := Aside0.mk ((by rw [hg]; exact Nat.ne_of_gt (blk_lt (g := gb173) (o := .cells #[.int .i64 a0_0, .int .i64 a0_1] 25 (0, 0)) (by (with_reducible repeat (first | refine blk_drewN ?_ _ | refine blk_drew ?_ | refine blk_alloc ?_ _)); exact BK173.out)) : gb187 ≠ gb173)); have n10_ := Aside0.mk ((by rw [hg]; exact Nat.ne_of_lt (blk_lt (g := gb174) (o := .cells #[.int .i64 a1_0, .int .i64 a1_1] 25 (0, 0)) (by (with_reducible repeat (first | refine blk_drewN ?_ _ | refine blk_drew ?_ | refine blk_alloc ?_ _)); exact BK174.out)) : gb174 ≠ gb187)); have n11_ := Aside0.mk ((by rw [hg]; exact Nat.ne_of_gt (blk_lt (g := gb174) (o := .cells #[.int .i64 a1_0, .int .i64 a1_1] 25 (0, 0)) (by (with_reducible repeat (first | refine blk_drewN ?_ _ | refine blk_drew ?_ | refine blk_alloc ?_ _)); exact BK174.out)) : gb187 ≠ gb174)); have n12_ := Aside0.mk ((by rw [hg]; exact Nat.ne_of_lt (blk_lt (g := gb181) (o := .cells #[.int .i64 t179, .int .i64 t180] 25 (0, 0)) (by (with_reducible repeat (first | refine blk_drewN ?_ _ | refine blk_drew ?_ | refine blk_alloc ?_ _)); exact BK181.out)) : gb181 ≠ gb187)); have n13_ := Aside0.mk ((by rw [hg]; exact Nat.ne_of_gt (blk_lt (g := gb181) (o := .cells #[.int .i64 t179, .int .i64 t180] 25 (0, 0)) (by (with_reducible repeat (first | refine blk_drewN ?_ _ | refine blk_drew ?_ | refine blk_alloc ?_ _)); exact BK181.out)) : gb187 ≠ gb181)); have n14_ := Aside0.mk ((by rw [hg]; exact Nat.ne_of_lt (blk_lt (g := gb184) (o := .cells #[.int .i64 t182, .int .i64 t183] 25 (0, 0)) (by (with_reducible repeat (first | refine blk_drewN ?_ _ | refine blk_drew ?_ | refine blk_alloc ?_ _)); exact BK184.out)) : gb184 ≠ gb187)); have n15_ := Aside0.mk ((by rw [hg]; exact Nat.ne_of_gt (blk_lt (g := gb184) (o := .cells #[.int .i64 t182, .int .i64 t183] 25 (0, 0)) (by (with_reducible repeat (first | refine blk_drewN ?_ _ | refine blk_drew ?_ | refine blk_alloc ?_ _)); exact BK184.out)) : gb187 ≠ gb184)); clear BK173; clear BK174; clear BK181; clear BK184; clear HB; have BK173 := n0_; have BK174 := n1_; have BK181 := n2_; have BK184 := n3_; have HB := n4_; have BK187 := n5_; have GW187 := n6_; have GE187 := n7_; have NB173_187 := n8_; have NB187_173 := n9_; have NB174_187 := n10_; have NB187_174 := n11_; have NB181_187 := n12_; have NB187_181 := n13_; have NB184_187 := n14_; have NB187_184 := n15_; clear n0_ n1_ n2_ n3_ n4_ n5_ n6_ n7_ n8_ n9_ n10_ n11_ n12_ n13_ n14_ n15_; clear hb hbox hg; have hnb63 := NB187_173.out; have hnc63 := NB173_187.out; have hnb64 := NB187_174.out; have hnc64 := NB174_187.out; have hnb65 := NB187_181.out; have hnc65 := NB181_187.out; have hnb66 := NB187_184.out; have hnc66 := NB184_187.out; have hcz67_0 : w62.cell? ⟨gb187, 0, none⟩ = some (.int .i64 0) := (blk_cell BK187.out 0).trans rfl; have hcz67_1 : w62.cell? ⟨gb187, 1, none⟩ = some (.int .i64 0) := (blk_cell BK187.out 1).trans rfl; have hfz67_0 := blk_frozen BK187.out 0; have hfz67_1 := blk_frozen BK187.out 1; have hnb68 := NB181_173.out; have hnc68 := NB173_181.out; have hnb69 := NB181_174.out; have hnc69 := NB174_181.out; have hnb70 := NB181_184.out; have hnc70 := NB184_181.out; have hcz71_0 : w62.cell? ⟨gb181, 0, none⟩ = some (.int .i64 t179) := (blk_cell BK181.out 0).trans rfl; have hcz71_1 : w62.cell? ⟨gb181, 1, none⟩ = some (.int .i64 t180) := (blk_cell BK181.out 1).trans rfl; have hfz71_0 := blk_frozen BK181.out 0; have hfz71_1 := blk_frozen BK181.out 1))
                          go_ret
                          exact ⟨by first | rfl | (simp [errW_none, errW_some] <;> rfl) | (simp [*, errW_none, errW_some] <;> rfl), by repeat (first | (with_reducible first | exact HB.out | apply below_alloc | apply pw_below_drewN | apply below_drew1 | refine below_set ?_ GE173.out | refine below_set ?_ GE174.out | refine below_set ?_ GE181.out | refine below_set ?_ GE184.out | refine below_set ?_ GE187.out) | exact HB.out)⟩
                        · rw [if_neg c60] at H
                          have c60b0 : (!(t179 == 0) || (!(t180 == 0))) = false := by simpa using c60
                          clear c60
                          by_cases c72 : x11_2 = true
                          · subst c72
                            have H1 : (if x12_2 = t176 then (joustlaw13_VecToward.l0 k2 a2 t176 (wrap64 ((wrap64 (t182 * t179)) + (wrap64 (t183 * t180)))) true (wrap64 (x12_2 + 1)) a0_0 a0_1 a1_0 a1_1 t179 t180) else (joustlaw13_VecToward.l0 k2 a2 t176 (wrap64 ((wrap64 (t182 * t179)) + (wrap64 (t183 * t180)))) (decide ((wrap64 ((wrap64 (t185 * t179)) + (wrap64 (t186 * t180)))) < (wrap64 ((wrap64 (t182 * t179)) + (wrap64 (t183 * t180)))))) (wrap64 (x12_2 + 1)) a0_0 a0_1 a1_0 a1_1 t179 t180)) = some r := by rw [if_pos rfl] at H; exact H
                            clear H
                            have H := H1
                            clear H1
                            by_cases c73 : x12_2 = t176
                            · rw [if_pos c73] at H
                              have c73b0 : (x12_2 == t176) = true := beq_iff_eq.mpr c73
                              have c73b1 : (x12_2 != t176) = false := bne_eq_false_iff_eq.mpr c73
                              clear c73
                              have H' := Aside0.mk H
                              clear H
                              go_wp2_with (first | ((with_reducible refine gate_callee (f := 10) rfl ?_); refine goesL_ (some 57) rfl rfl Tryd.func10 (by kernel_rfl) rfl #[.int .i64 x12_2] rfl (by (try simp only [List.map_toArray, List.map_cons, List.map_nil]); first | done | rfl | (simp only [List.length_drop, List.length_take]; rfl)) ?_; (with_reducible refine (vec_Unit.calls k2 x12_2 t185 t186 _ A45.out (by first | ((repeat (first | exact HG.out | apply Sines.drewN | apply Sines.drew)); done) | exact Sines.below HG.out (by repeat (first | (with_reducible first | exact HB.out | apply below_alloc | apply pw_below_drewN | apply below_drew1 | refine below_set ?_ GE173.out | refine below_set ?_ GE174.out | refine below_set ?_ GE181.out | refine below_set ?_ GE184.out) | exact HB.out)))).mono ?_); rintro e w74 ⟨rfl, hb⟩; refine ⟨_, rfl, ?_⟩; have n0_ := Aside0.mk (blk_below (g := gb173) (o := .cells #[.int .i64 a0_0, .int .i64 a0_1] 25 (0, 0)) (by (with_reducible repeat (first | refine blk_drewN ?_ _ | refine blk_drew ?_ | refine blk_alloc ?_ _)); exact BK173.out) hb); have n1_ := Aside0.mk (blk_below (g := gb174) (o := .cells #[.int .i64 a1_0, .int .i64 a1_1] 25 (0, 0)) (by (with_reducible repeat (first | refine blk_drewN ?_ _ | refine blk_drew ?_ | refine blk_alloc ?_ _)); exact BK174.out) hb); have n2_ := Aside0.mk (blk_below (g := gb181) (o := .cells #[.int .i64 t179, .int .i64 t180] 25 (0, 0)) (by (with_reducible repeat (first | refine blk_drewN ?_ _ | refine blk_drew ?_ | refine blk_alloc ?_ _)); exact BK181.out) hb); have n3_ := Aside0.mk (blk_below (g := gb184) (o := .cells #[.int .i64 t182, .int .i64 t183] 25 (0, 0)) (by (with_reducible repeat (first | refine blk_drewN ?_ _ | refine blk_drew ?_ | refine blk_alloc ?_ _)); exact BK184.out) hb); have n4_ := Aside0.mk (below_step (by repeat (first | (with_reducible first | exact HB.out | apply below_alloc | apply pw_below_drewN | apply below_drew1 | refine below_set ?_ GE173.out | refine below_set ?_ GE174.out | refine below_set ?_ GE181.out | refine below_set ?_ GE184.out) | exact HB.out)) hb); clear BK173; clear BK174; clear BK181; clear BK184; clear HB; have BK173 := n0_; have BK174 := n1_; have BK181 := n2_; have BK184 := n3_; have HB := n4_; clear n0_ n1_ n2_ n3_ n4_; (try clear hb); (try clear hb2); (try clear hk); (try clear hi)) | ((with_reducible refine gate_dst (N := 13) rfl ?_); refine box_event ?hg (N := 13) ?hd (cs := #[.int .i64 0, .int .i64 0]) (t := 25) ?hr ?_; (case hd => rfl); (case hg => rfl); (case hr => first | (go_simp; done) | (go_simp; rfl)); intro gb187 hg w75 hbox hb; have n0_ := Aside0.mk (blk_below (g := gb173) (o := .cells #[.int .i64 a0_0, .int .i64 a0_1] 25 (0, 0)) (by (with_reducible repeat (first | refine blk_drewN ?_ _ | refine blk_drew ?_ | refine blk_alloc ?_ _)); exact BK173.out) hb); have n1_ := Aside0.mk (blk_below (g := gb174) (o := .cells #[.int .i64 a1_0, .int .i64 a1_1] 25 (0, 0)) (by (with_reducible repeat (first | refine blk_drewN ?_ _ | refine blk_drew ?_ | refine blk_alloc ?_ _)); exact BK174.out) hb); have n2_ := Aside0.mk (blk_below (g := gb181) (o := .cells #[.int .i64 t179, .int .i64 t180] 25 (0, 0)) (by (with_reducible repeat (first | refine blk_drewN ?_ _ | refine blk_drew ?_ | refine blk_alloc ?_ _)); exact BK181.out) hb); have n3_ := Aside0.mk (blk_below (g := gb184) (o := .cells #[.int .i64 t182, .int .i64 t183] 25 (0, 0)) (by (with_reducible repeat (first | refine blk_drewN ?_ _ | refine blk_drew ?_ | refine blk_alloc ?_ _)); exact BK184.out) hb); have n4_ := Aside0.mk (below_step (by repeat (first | (with_reducible first | exact HB.out | apply below_alloc | apply pw_below_drewN | apply below_drew1 | refine below_set ?_ GE173.out | refine below_set ?_ GE174.out | refine below_set ?_ GE181.out | refine below_set ?_ GE184.out) | exact HB.out)) hb); have n5_ := Aside0.mk (hbox); have n6_ := Aside0.mk ((by rw [hg]; exact (below_size (by repeat (first | (with_reducible first | exact HB.out | apply below_alloc | apply pw_below_drewN | apply below_drew1 | refine below_set ?_ GE173.out | refine below_set ?_ GE174.out | refine below_set ?_ GE181.out | refine below_set ?_ GE184.out) | exact HB.out))) : w.heap.size ≤ gb187)); have n7_ := Aside0.mk ((by rw [hg]; exact (below_size (by repeat (first | (with_reducible first | exact HB.out | apply below_alloc | apply pw_below_drewN | apply below_drew1 | refine below_set ?_ GE173.out | refine below_set ?_ GE174.out | refine below_set ?_ GE181.out | refine below_set ?_ GE184.out) | exact HB.out))) : w.heap.size ≤ gb187)); have n8_ := Aside0.mk ((by rw [hg]; exact Nat.ne_of_lt (blk_lt (g := gb173) (o := .cells #[.int .i64 a0_0, .int .i64 a0_1] 25 (0, 0)) (by (with_reducible repeat (first | refine blk_drewN ?_ _ | refine blk_drew ?_ | refine blk_alloc ?_ _)); exact BK173.out)) : gb173 ≠ gb187)); have n9_ := Aside0.mk ((by rw [hg]; exact Nat.ne_of_gt (blk_lt (g := gb173) (o := .cells #[.int .i64 a0_0, .int .i64 a0_1] 25 (0, 0)) (by (with_reducible repeat (first | refine blk_drewN ?_ _ | refine blk_drew ?_ | refine blk_alloc ?_ _)); exact BK173.out)) : gb187 ≠ gb173)); have n10_ := Aside0.mk ((by rw [hg]; exact Nat.ne_of_lt (blk_lt (g := gb174) (o := .cells #[.int .i64 a1_0, .int .i64 a1_1] 25 (0, 0)) (by (with_reducible repeat (first | refine blk_drewN ?_ _ | refine blk_drew ?_ | refine blk_alloc ?_ _)); exact BK174.out)) : gb174 ≠ gb187)); have n11_ := Aside0.mk ((by rw [hg]; exact Nat.ne_of_gt (blk_lt (g := gb174) (o := .cells #[.int .i64 a1_0, .int .i64 a1_1] 25 (0, 0)) (by (with_reducible repeat (first | refine blk_drewN ?_ _ | refine blk_drew ?_ | refine blk_alloc ?_ _)); exact BK174.out)) : gb187 ≠ gb174)); have n12_ := Aside0.mk ((by rw [hg]; exact Nat.ne_of_lt (blk_lt (g := gb181) (o := .cells #[.int .i64 t179, .int .i64 t180] 25 (0, 0)) (by (with_reducible repeat (first | refine blk_drewN ?_ _ | refine blk_drew ?_ | refine blk_alloc ?_ _)); exact BK181.out)) : gb181 ≠ gb187)); have n13_ := Aside0.mk ((by rw [hg]; exact Nat.ne_of_gt (blk_lt (g := gb181) (o := .cells #[.int .i64 t179, .int .i64 t180] 25 (0, 0)) (by (with_reducible repeat (first | refine blk_drewN ?_ _ | refine blk_drew ?_ | refine blk_alloc ?_ _)); exact BK181.out)) : gb187 ≠ gb181)); have n14_ := Aside0.mk ((by rw [hg]; exact Nat.ne_of_lt (blk_lt (g := gb184) (o := .cells #[.int .i64 t182, .int .i64 t183] 25 (0, 0)) (by (with_reducible repeat (first | refine blk_drewN ?_ _ | refine blk_drew ?_ | refine blk_alloc ?_ _)); exact BK184.out)) : gb184 ≠ gb187)); have n15_ := Aside0.mk ((by rw [hg]; exact Nat.ne_of_gt (blk_lt (g := gb184) (o := .cells #[.int .i64 t182, .int .i64 t183] 25 (0, 0)) (by (with_reducible repeat (first | refine blk_drewN ?_ _ | refine blk_drew ?_ | refine blk_alloc ?_ _)); exact BK184.out)) : gb187 ≠ gb184)); clear BK173; clear BK174; clear BK181; clear BK184; clear HB; have BK173 := n0_; have BK174 := n1_; have BK181 := n2_; have BK184 := n3_; have HB := n4_; have BK187 := n5_; have GW187 := n6_; have GE187 := n7_; have NB173_187 := n8_; have NB187_173 := n9_; have NB174_187 := n10_; have NB187_174 := n11_; have NB181_187 := n12_; have NB187_181 := n13_; have NB184_187 := n14_; have NB187_184 := n15_; clear n0_ n1_ n2_ n3_ n4_ n5_ n6_ n7_ n8_ n9_ n10_ n11_ n12_ n13_ n14_ n15_; clear hb hbox hg; have hnb76 := NB187_173.out; have hnc76 := NB173_187.out; have hnb77 := NB187_174.out; have hnc77 := NB174_187.out; have hnb78 := NB187_181.out; have hnc78 := NB181_187.out; have hnb79 := NB187_184.out; have hnc79 := NB184_187.out; have hcz80_0 : w75.cell? ⟨gb187, 0, none⟩ = some (.int .i64 0) := (blk_cell BK187.out 0).trans rfl; have hcz80_1 : w75.cell? ⟨gb187, 1, none⟩ = some (.int .i64 0) := (blk_cell BK187.out 1).trans rfl; have hfz80_0 := blk_frozen BK187.out 0; have hfz80_1 := blk_frozen BK187.out 1; have hnb81 := NB181_173.out; have hnc81 := NB173_181.out; have hnb82 := NB181_174.out; have hnc82 := NB174_181.out; have hnb83 := NB181_184.out; have hnc83 := NB184_181.out; have hcz84_0 : w75.cell? ⟨gb181, 0, none⟩ = some (.int .i64 t179) := (blk_cell BK181.out 0).trans rfl; have hcz84_1 : w75.cell? ⟨gb181, 1, none⟩ = some (.int .i64 t180) := (blk_cell BK181.out 1).trans rfl; have hfz84_0 := blk_frozen BK181.out 0; have hfz84_1 := blk_frozen BK181.out 1))
                              go_roundg k2
                              case measure => have := HJ6.out; have := HK2.out; omega
                              case rel => exact ⟨(true), (wrap64 (x12_2 + 1)), (by first | rfl | (simp; done) | (simp [*]; done)), (by first | rfl | (simp; done) | (simp [*]; done)), H', ⟨by have := HJ6.out; have := HK2.out; omega⟩, ⟨by (with_reducible repeat (first | refine blk_drewN ?_ _ | refine blk_drew ?_ | refine blk_alloc ?_ _)); refine blk_far ?_ NB173_187.out _; (with_reducible repeat (first | refine blk_drewN ?_ _ | refine blk_drew ?_ | refine blk_alloc ?_ _)); refine blk_far ?_ NB173_187.out _; (with_reducible repeat (first | refine blk_drewN ?_ _ | refine blk_drew ?_ | refine blk_alloc ?_ _)); exact BK173.out⟩, ⟨by (with_reducible repeat (first | refine blk_drewN ?_ _ | refine blk_drew ?_ | refine blk_alloc ?_ _)); refine blk_far ?_ NB174_187.out _; (with_reducible repeat (first | refine blk_drewN ?_ _ | refine blk_drew ?_ | refine blk_alloc ?_ _)); refine blk_far ?_ NB174_187.out _; (with_reducible repeat (first | refine blk_drewN ?_ _ | refine blk_drew ?_ | refine blk_alloc ?_ _)); exact BK174.out⟩, ⟨by (with_reducible repeat (first | refine blk_drewN ?_ _ | refine blk_drew ?_ | refine blk_alloc ?_ _)); refine blk_far ?_ NB181_187.out _; (with_reducible repeat (first | refine blk_drewN ?_ _ | refine blk_drew ?_ | refine blk_alloc ?_ _)); refine blk_far ?_ NB181_187.out _; (with_reducible repeat (first | refine blk_drewN ?_ _ | refine blk_drew ?_ | refine blk_alloc ?_ _)); exact BK181.out⟩, ⟨by (with_reducible repeat (first | refine blk_drewN ?_ _ | refine blk_drew ?_ | refine blk_alloc ?_ _)); refine blk_far ?_ NB184_187.out _; (with_reducible repeat (first | refine blk_drewN ?_ _ | refine blk_drew ?_ | refine blk_alloc ?_ _)); refine blk_far ?_ NB184_187.out _; (with_reducible repeat (first | refine blk_drewN ?_ _ | refine blk_drew ?_ | refine blk_alloc ?_ _)); exact BK184.out⟩, ⟨by repeat (first | (with_reducible first | exact HB.out | apply below_alloc | apply pw_below_drewN | apply below_drew1 | refine below_set ?_ GE173.out | refine below_set ?_ GE174.out | refine below_set ?_ GE181.out | refine below_set ?_ GE184.out | refine below_set ?_ GE187.out) | exact HB.out)⟩⟩
                            · rw [if_neg c73] at H
                              have c73b0 : (x12_2 == t176) = false := beq_eq_false_iff_ne.mpr c73
                              have c73b1 : (x12_2 != t176) = true := bne_iff_ne.mpr c73
                              have H' := Aside0.mk H
                              clear H
                              go_wp2_with (first | ((with_reducible refine gate_callee (f := 10) rfl ?_); refine goesL_ (some 57) rfl rfl Tryd.func10 (by kernel_rfl) rfl #[.int .i64 x12_2] rfl (by (try simp only [List.map_toArray, List.map_cons, List.map_nil]); first | done | rfl | (simp only [List.length_drop, List.length_take]; rfl)) ?_; (with_reducible refine (vec_Unit.calls k2 x12_2 t185 t186 _ A45.out (by first | ((repeat (first | exact HG.out | apply Sines.drewN | apply Sines.drew)); done) | exact Sines.below HG.out (by repeat (first | (with_reducible first | exact HB.out | apply below_alloc | apply pw_below_drewN | apply below_drew1 | refine below_set ?_ GE173.out | refine below_set ?_ GE174.out | refine below_set ?_ GE181.out | refine below_set ?_ GE184.out) | exact HB.out)))).mono ?_); rintro e w85 ⟨rfl, hb⟩; refine ⟨_, rfl, ?_⟩; have n0_ := Aside0.mk (blk_below (g := gb173) (o := .cells #[.int .i64 a0_0, .int .i64 a0_1] 25 (0, 0)) (by (with_reducible repeat (first | refine blk_drewN ?_ _ | refine blk_drew ?_ | refine blk_alloc ?_ _)); exact BK173.out) hb); have n1_ := Aside0.mk (blk_below (g := gb174) (o := .cells #[.int .i64 a1_0, .int .i64 a1_1] 25 (0, 0)) (by (with_reducible repeat (first | refine blk_drewN ?_ _ | refine blk_drew ?_ | refine blk_alloc ?_ _)); exact BK174.out) hb); have n2_ := Aside0.mk (blk_below (g := gb181) (o := .cells #[.int .i64 t179, .int .i64 t180] 25 (0, 0)) (by (with_reducible repeat (first | refine blk_drewN ?_ _ | refine blk_drew ?_ | refine blk_alloc ?_ _)); exact BK181.out) hb); have n3_ := Aside0.mk (blk_below (g := gb184) (o := .cells #[.int .i64 t182, .int .i64 t183] 25 (0, 0)) (by (with_reducible repeat (first | refine blk_drewN ?_ _ | refine blk_drew ?_ | refine blk_alloc ?_ _)); exact BK184.out) hb); have n4_ := Aside0.mk (below_step (by repeat (first | (with_reducible first | exact HB.out | apply below_alloc | apply pw_below_drewN | apply below_drew1 | refine below_set ?_ GE173.out | refine below_set ?_ GE174.out | refine below_set ?_ GE181.out | refine below_set ?_ GE184.out) | exact HB.out)) hb); clear BK173; clear BK174; clear BK181; clear BK184; clear HB; have BK173 := n0_; have BK174 := n1_; have BK181 := n2_; have BK184 := n3_; have HB := n4_; clear n0_ n1_ n2_ n3_ n4_; (try clear hb); (try clear hb2); (try clear hk); (try clear hi)) | ((with_reducible refine gate_dst (N := 13) rfl ?_); refine box_event ?hg (N := 13) ?hd (cs := #[.int .i64 0, .int .i64 0]) (t := 25) ?hr ?_; (case hd => rfl); (case hg => rfl); (case hr => first | (go_simp; done) | (go_simp; rfl)); intro gb187 hg w86 hbox hb; have n0_ := Aside0.mk (blk_below (g := gb173) (o := .cells #[.int .i64 a0_0, .int .i64 a0_1] 25 (0, 0)) (by (with_reducible repeat (first | refine blk_drewN ?_ _ | refine blk_drew ?_ | refine blk_alloc ?_ _)); exact BK173.out) hb); have n1_ := Aside0.mk (blk_below (g := gb174) (o := .cells #[.int .i64 a1_0, .int .i64 a1_1] 25 (0, 0)) (by (with_reducible repeat (first | refine blk_drewN ?_ _ | refine blk_drew ?_ | refine blk_alloc ?_ _)); exact BK174.out) hb); have n2_ := Aside0.mk (blk_below (g := gb181) (o := .cells #[.int .i64 t179, .int .i64 t180] 25 (0, 0)) (by (with_reducible repeat (first | refine blk_drewN ?_ _ | refine blk_drew ?_ | refine blk_alloc ?_ _)); exact BK181.out) hb); have n3_ := Aside0.mk (blk_below (g := gb184) (o := .cells #[.int .i64 t182, .int .i64 t183] 25 (0, 0)) (by (with_reducible repeat (first | refine blk_drewN ?_ _ | refine blk_drew ?_ | refine blk_alloc ?_ _)); exact BK184.out) hb); have n4_ := Aside0.mk (below_step (by repeat (first | (with_reducible first | exact HB.out | apply below_alloc | apply pw_below_drewN | apply below_drew1 | refine below_set ?_ GE173.out | refine below_set ?_ GE174.out | refine below_set ?_ GE181.out | refine below_set ?_ GE184.out) | exact HB.out)) hb); have n5_ := Aside0.mk (hbox); have n6_ := Aside0.mk ((by rw [hg]; exact (below_size (by repeat (first | (with_reducible first | exact HB.out | apply below_alloc | apply pw_below_drewN | apply below_drew1 | refine below_set ?_ GE173.out | refine below_set ?_ GE174.out | refine below_set ?_ GE181.out | refine below_set ?_ GE184.out) | exact HB.out))) : w.heap.size ≤ gb187)); have n7_ := Aside0.mk ((by rw [hg]; exact (below_size (by repeat (first | (with_reducible first | exact HB.out | apply below_alloc | apply pw_below_drewN | apply below_drew1 | refine below_set ?_ GE173.out | refine below_set ?_ GE174.out | refine below_set ?_ GE181.out | refine below_set ?_ GE184.out) | exact HB.out))) : w.heap.size ≤ gb187)); have n8_ := Aside0.mk ((by rw [hg]; exact Nat.ne_of_lt (blk_lt (g := gb173) (o := .cells #[.int .i64 a0_0, .int .i64 a0_1] 25 (0, 0)) (by (with_reducible repeat (first | refine blk_drewN ?_ _ | refine blk_drew ?_ | refine blk_alloc ?_ _)); exact BK173.out)) : gb173 ≠ gb187)); have n9_ := Aside0.mk ((by rw [hg]; exact Nat.ne_of_gt (blk_lt (g := gb173) (o := .cells #[.int .i64 a0_0, .int .i64 a0_1] 25 (0, 0)) (by (with_reducible repeat (first | refine blk_drewN ?_ _ | refine blk_drew ?_ | refine blk_alloc ?_ _)); exact BK173.out)) : gb187 ≠ gb173)); have n10_ := Aside0.mk ((by rw [hg]; exact Nat.ne_of_lt (blk_lt (g := gb174) (o := .cells #[.int .i64 a1_0, .int .i64 a1_1] 25 (0, 0)) (by (with_reducible repeat (first | refine blk_drewN ?_ _ | refine blk_drew ?_ | refine blk_alloc ?_ _)); exact BK174.out)) : gb174 ≠ gb187)); have n11_ := Aside0.mk ((by rw [hg]; exact Nat.ne_of_gt (blk_lt (g := gb174) (o := .cells #[.int .i64 a1_0, .int .i64 a1_1] 25 (0, 0)) (by (with_reducible repeat (first | refine blk_drewN ?_ _ | refine blk_drew ?_ | refine blk_alloc ?_ _)); exact BK174.out)) : gb187 ≠ gb174)); have n12_ := Aside0.mk ((by rw [hg]; exact Nat.ne_of_lt (blk_lt (g := gb181) (o := .cells #[.int .i64 t179, .int .i64 t180] 25 (0, 0)) (by (with_reducible repeat (first | refine blk_drewN ?_ _ | refine blk_drew ?_ | refine blk_alloc ?_ _)); exact BK181.out)) : gb181 ≠ gb187)); have n13_ := Aside0.mk ((by rw [hg]; exact Nat.ne_of_gt (blk_lt (g := gb181) (o := .cells #[.int .i64 t179, .int .i64 t180] 25 (0, 0)) (by (with_reducible repeat (first | refine blk_drewN ?_ _ | refine blk_drew ?_ | refine blk_alloc ?_ _)); exact BK181.out)) : gb187 ≠ gb181)); have n14_ := Aside0.mk ((by rw [hg]; exact Nat.ne_of_lt (blk_lt (g := gb184) (o := .cells #[.int .i64 t182, .int .i64 t183] 25 (0, 0)) (by (with_reducible repeat (first | refine blk_drewN ?_ _ | refine blk_drew ?_ | refine blk_alloc ?_ _)); exact BK184.out)) : gb184 ≠ gb187)); have n15_ := Aside0.mk ((by rw [hg]; exact Nat.ne_of_gt (blk_lt (g := gb184) (o := .cells #[.int .i64 t182, .int .i64 t183] 25 (0, 0)) (by (with_reducible repeat (first | refine blk_drewN ?_ _ | refine blk_drew ?_ | refine blk_alloc ?_ _)); exact BK184.out)) : gb187 ≠ gb184)); clear BK173; clear BK174; clear BK181; clear BK184; clear HB; have BK173 := n0_; have BK174 := n1_; have BK181 := n2_; have BK184 := n3_; have HB := n4_; have BK187 := n5_; have GW187 := n6_; have GE187 := n7_; have NB173_187 := n8_; have NB187_173 := n9_; have NB174_187 := n10_; have NB187_174 := n11_; have NB181_187 := n12_; have NB187_181 := n13_; have NB184_187 := n14_; have NB187_184 := n15_; clear n0_ n1_ n2_ n3_ n4_ n5_ n6_ n7_ n8_ n9_ n10_ n11_ n12_ n13_ n14_ n15_; clear hb hbox hg; have hnb87 := NB187_173.out; have hnc87 := NB173_187.out; have hnb88 := NB187_174.out; have hnc88 := NB174_187.out; have hnb89 := NB187_181.out; have hnc89 := NB181_187.out; have hnb90 := NB187_184.out; have hnc90 := NB184_187.out; have hcz91_0 : w86.cell? ⟨gb187, 0, none⟩ = some (.int .i64 0) := (blk_cell BK187.out 0).trans rfl; have hcz91_1 : w86.cell? ⟨gb187, 1, none⟩ = some (.int .i64 0) := (blk_cell BK187.out 1).trans rfl; have hfz91_0 := blk_frozen BK187.out 0; have hfz91_1 := blk_frozen BK187.out 1; have hnb92 := NB181_173.out; have hnc92 := NB173_181.out; have hnb93 := NB181_174.out; have hnc93 := NB174_181.out; have hnb94 := NB181_184.out; have hnc94 := NB184_181.out; have hcz95_0 : w86.cell? ⟨gb181, 0, none⟩ = some (.int .i64 t179) := (blk_cell BK181.out 0).trans rfl; have hcz95_1 : w86.cell? ⟨gb181, 1, none⟩ = some (.int .i64 t180) := (blk_cell BK181.out 1).trans rfl; have hfz95_0 := blk_frozen BK181.out 0; have hfz95_1 := blk_frozen BK181.out 1))
                              go_roundg k2
                              case measure => have := HJ6.out; have := HK2.out; omega
                              case rel => exact ⟨(decide ((wrap64 ((wrap64 (t185 * t179)) + (wrap64 (t186 * t180)))) < (wrap64 ((wrap64 (t182 * t179)) + (wrap64 (t183 * t180)))))), (wrap64 (x12_2 + 1)), (by first | rfl | (simp; done) | (simp [*]; done)), (by first | rfl | (simp; done) | (simp [*]; done)), H', ⟨by have := HJ6.out; have := HK2.out; omega⟩, ⟨by (with_reducible repeat (first | refine blk_drewN ?_ _ | refine blk_drew ?_ | refine blk_alloc ?_ _)); refine blk_far ?_ NB173_187.out _; (with_reducible repeat (first | refine blk_drewN ?_ _ | refine blk_drew ?_ | refine blk_alloc ?_ _)); refine blk_far ?_ NB173_187.out _; (with_reducible repeat (first | refine blk_drewN ?_ _ | refine blk_drew ?_ | refine blk_alloc ?_ _)); exact BK173.out⟩, ⟨by (with_reducible repeat (first | refine blk_drewN ?_ _ | refine blk_drew ?_ | refine blk_alloc ?_ _)); refine blk_far ?_ NB174_187.out _; (with_reducible repeat (first | refine blk_drewN ?_ _ | refine blk_drew ?_ | refine blk_alloc ?_ _)); refine blk_far ?_ NB174_187.out _; (with_reducible repeat (first | refine blk_drewN ?_ _ | refine blk_drew ?_ | refine blk_alloc ?_ _)); exact BK174.out⟩, ⟨by (with_reducible repeat (first | refine blk_drewN ?_ _ | refine blk_drew ?_ | refine blk_alloc ?_ _)); refine blk_far ?_ NB181_187.out _; (with_reducible repeat (first | refine blk_drewN ?_ _ | refine blk_drew ?_ | refine blk_alloc ?_ _)); refine blk_far ?_ NB181_187.out _; (with_reducible repeat (first | refine blk_drewN ?_ _ | refine blk_drew ?_ | refine blk_alloc ?_ _)); exact BK181.out⟩, ⟨by (with_reducible repeat (first | refine blk_drewN ?_ _ | refine blk_drew ?_ | refine blk_alloc ?_ _)); refine blk_far ?_ NB184_187.out _; (with_reducible repeat (first | refine blk_drewN ?_ _ | refine blk_drew ?_ | refine blk_alloc ?_ _)); refine blk_far ?_ NB184_187.out _; (with_reducible repeat (first | refine blk_drewN ?_ _ | refine blk_drew ?_ | refine blk_alloc ?_ _)); exact BK184.out⟩, ⟨by repeat (first | (with_reducible first | exact HB.out | apply below_alloc | apply pw_below_drewN | apply below_drew1 | refine below_set ?_ GE173.out | refine below_set ?_ GE174.out | refine below_set ?_ GE181.out | refine below_set ?_ GE184.out | refine below_set ?_ GE187.out) | exact HB.out)⟩⟩
                          · replace c72 := Bool.eq_false_iff.mpr c72
                            subst c72
                            have H1 : (joustlaw13_VecToward.l0 k2 a2 t176 (wrap64 ((wrap64 (t182 * t179)) + (wrap64 (t183 * t180)))) false (wrap64 (x12_2 + 1)) a0_0 a0_1 a1_0 a1_1 t179 t180) = some r := by rw [if_neg (show ¬ (false = true) by decide)] at H; exact H
                            clear H
                            have H := H1
                            clear H1
                            have H' := Aside0.mk H
                            clear H
                            go_wp2_with (first | ((with_reducible refine gate_callee (f := 10) rfl ?_); refine goesL_ (some 57) rfl rfl Tryd.func10 (by kernel_rfl) rfl #[.int .i64 x12_2] rfl (by (try simp only [List.map_toArray, List.map_cons, List.map_nil]); first | done | rfl | (simp only [List.length_drop, List.length_take]; rfl)) ?_; (with_reducible refine (vec_Unit.calls k2 x12_2 t185 t186 _ A45.out (by first | ((repeat (first | exact HG.out | apply Sines.drewN | apply Sines.drew)); done) | exact Sines.below HG.out (by repeat (first | (with_reducible first | exact HB.out | apply below_alloc | apply pw_below_drewN | apply below_drew1 | refine below_set ?_ GE173.out | refine below_set ?_ GE174.out | refine below_set ?_ GE181.out | refine below_set ?_ GE184.out) | exact HB.out)))).mono ?_); rintro e w96 ⟨rfl, hb⟩; refine ⟨_, rfl, ?_⟩; have n0_ := Aside0.mk (blk_below (g := gb173) (o := .cells #[.int .i64 a0_0, .int .i64 a0_1] 25 (0, 0)) (by (with_reducible repeat (first | refine blk_drewN ?_ _ | refine blk_drew ?_ | refine blk_alloc ?_ _)); exact BK173.out) hb); have n1_ := Aside0.mk (blk_below (g := gb174) (o := .cells #[.int .i64 a1_0, .int .i64 a1_1] 25 (0, 0)) (by (with_reducible repeat (first | refine blk_drewN ?_ _ | refine blk_drew ?_ | refine blk_alloc ?_ _)); exact BK174.out) hb); have n2_ := Aside0.mk (blk_below (g := gb181) (o := .cells #[.int .i64 t179, .int .i64 t180] 25 (0, 0)) (by (with_reducible repeat (first | refine blk_drewN ?_ _ | refine blk_drew ?_ | refine blk_alloc ?_ _)); exact BK181.out) hb); have n3_ := Aside0.mk (blk_below (g := gb184) (o := .cells #[.int .i64 t182, .int .i64 t183] 25 (0, 0)) (by (with_reducible repeat (first | refine blk_drewN ?_ _ | refine blk_drew ?_ | refine blk_alloc ?_ _)); exact BK184.out) hb); have n4_ := Aside0.mk (below_step (by repeat (first | (with_reducible first | exact HB.out | apply below_alloc | apply pw_below_drewN | apply below_drew1 | refine below_set ?_ GE173.out | refine below_set ?_ GE174.out | refine below_set ?_ GE181.out | refine below_set ?_ GE184.out) | exact HB.out)) hb); clear BK173; clear BK174; clear BK181; clear BK184; clear HB; have BK173 := n0_; have BK174 := n1_; have BK181 := n2_; have BK184 := n3_; have HB := n4_; clear n0_ n1_ n2_ n3_ n4_; (try clear hb); (try clear hb2); (try clear hk); (try clear hi)) | ((with_reducible refine gate_dst (N := 13) rfl ?_); refine box_event ?hg (N := 13) ?hd (cs := #[.int .i64 0, .int .i64 0]) (t := 25) ?hr ?_; (case hd => rfl); (case hg => rfl); (case hr => first | (go_simp; done) | (go_simp; rfl)); intro gb187 hg w97 hbox hb; have n0_ := Aside0.mk (blk_below (g := gb173) (o := .cells #[.int .i64 a0_0, .int .i64 a0_1] 25 (0, 0)) (by (with_reducible repeat (first | refine blk_drewN ?_ _ | refine blk_drew ?_ | refine blk_alloc ?_ _)); exact BK173.out) hb); have n1_ := Aside0.mk (blk_below (g := gb174) (o := .cells #[.int .i64 a1_0, .int .i64 a1_1] 25 (0, 0)) (by (with_reducible repeat (first | refine blk_drewN ?_ _ | refine blk_drew ?_ | refine blk_alloc ?_ _)); exact BK174.out) hb); have n2_ := Aside0.mk (blk_below (g := gb181) (o := .cells #[.int .i64 t179, .int .i64 t180] 25 (0, 0)) (by (with_reducible repeat (first | refine blk_drewN ?_ _ | refine blk_drew ?_ | refine blk_alloc ?_ _)); exact BK181.out) hb); have n3_ := Aside0.mk (blk_below (g := gb184) (o := .cells #[.int .i64 t182, .int .i64 t183] 25 (0, 0)) (by (with_reducible repeat (first | refine blk_drewN ?_ _ | refine blk_drew ?_ | refine blk_alloc ?_ _)); exact BK184.out) hb); have n4_ := Aside0.mk (below_step (by repeat (first | (with_reducible first | exact HB.out | apply below_alloc | apply pw_below_drewN | apply below_drew1 | refine below_set ?_ GE173.out | refine below_set ?_ GE174.out | refine below_set ?_ GE181.out | refine below_set ?_ GE184.out) | exact HB.out)) hb); have n5_ := Aside0.mk (hbox); have n6_ := Aside0.mk ((by rw [hg]; exact (below_size (by repeat (first | (with_reducible first | exact HB.out | apply below_alloc | apply pw_below_drewN | apply below_drew1 | refine below_set ?_ GE173.out | refine below_set ?_ GE174.out | refine below_set ?_ GE181.out | refine below_set ?_ GE184.out) | exact HB.out))) : w.heap.size ≤ gb187)); have n7_ := Aside0.mk ((by rw [hg]; exact (below_size (by repeat (first | (with_reducible first | exact HB.out | apply below_alloc | apply pw_below_drewN | apply below_drew1 | refine below_set ?_ GE173.out | refine below_set ?_ GE174.out | refine below_set ?_ GE181.out | refine below_set ?_ GE184.out) | exact HB.out))) : w.heap.size ≤ gb187)); have n8_ := Aside0.mk ((by rw [hg]; exact Nat.ne_of_lt (blk_lt (g := gb173) (o := .cells #[.int .i64 a0_0, .int .i64 a0_1] 25 (0, 0)) (by (with_reducible repeat (first | refine blk_drewN ?_ _ | refine blk_drew ?_ | refine blk_alloc ?_ _)); exact BK173.out)) : gb173 ≠ gb187)); have n9_ := Aside0.mk ((by rw [hg]; exact Nat.ne_of_gt (blk_lt (g := gb173) (o := .cells #[.int .i64 a0_0, .int .i64 a0_1] 25 (0, 0)) (by (with_reducible repeat (first | refine blk_drewN ?_ _ | refine blk_drew ?_ | refine blk_alloc ?_ _)); exact BK173.out)) : gb187 ≠ gb173)); have n10_ := Aside0.mk ((by rw [hg]; exact Nat.ne_of_lt (blk_lt (g := gb174) (o := .cells #[.int .i64 a1_0, .int .i64 a1_1] 25 (0, 0)) (by (with_reducible repeat (first | refine blk_drewN ?_ _ | refine blk_drew ?_ | refine blk_alloc ?_ _)); exact BK174.out)) : gb174 ≠ gb187)); have n11_ := Aside0.mk ((by rw [hg]; exact Nat.ne_of_gt (blk_lt (g := gb174) (o := .cells #[.int .i64 a1_0, .int .i64 a1_1] 25 (0, 0)) (by (with_reducible repeat (first | refine blk_drewN ?_ _ | refine blk_drew ?_ | refine blk_alloc ?_ _)); exact BK174.out)) : gb187 ≠ gb174)); have n12_ := Aside0.mk ((by rw [hg]; exact Nat.ne_of_lt (blk_lt (g := gb181) (o := .cells #[.int .i64 t179, .int .i64 t180] 25 (0, 0)) (by (with_reducible repeat (first | refine blk_drewN ?_ _ | refine blk_drew ?_ | refine blk_alloc ?_ _)); exact BK181.out)) : gb181 ≠ gb187)); have n13_ := Aside0.mk ((by rw [hg]; exact Nat.ne_of_gt (blk_lt (g := gb181) (o := .cells #[.int .i64 t179, .int .i64 t180] 25 (0, 0)) (by (with_reducible repeat (first | refine blk_drewN ?_ _ | refine blk_drew ?_ | refine blk_alloc ?_ _)); exact BK181.out)) : gb187 ≠ gb181)); have n14_ := Aside0.mk ((by rw [hg]; exact Nat.ne_of_lt (blk_lt (g := gb184) (o := .cells #[.int .i64 t182, .int .i64 t183] 25 (0, 0)) (by (with_reducible repeat (first | refine blk_drewN ?_ _ | refine blk_drew ?_ | refine blk_alloc ?_ _)); exact BK184.out)) : gb184 ≠ gb187)); have n15_ := Aside0.mk ((by rw [hg]; exact Nat.ne_of_gt (blk_lt (g := gb184) (o := .cells #[.int .i64 t182, .int .i64 t183] 25 (0, 0)) (by (with_reducible repeat (first | refine blk_drewN ?_ _ | refine blk_drew ?_ | refine blk_alloc ?_ _)); exact BK184.out)) : gb187 ≠ gb184)); clear BK173; clear BK174; clear BK181; clear BK184; clear HB; have BK173 := n0_; have BK174 := n1_; have BK181 := n2_; have BK184 := n3_; have HB := n4_; have BK187 := n5_; have GW187 := n6_; have GE187 := n7_; have NB173_187 := n8_; have NB187_173 := n9_; have NB174_187 := n10_; have NB187_174 := n11_; have NB181_187 := n12_; have NB187_181 := n13_; have NB184_187 := n14_; have NB187_184 := n15_; clear n0_ n1_ n2_ n3_ n4_ n5_ n6_ n7_ n8_ n9_ n10_ n11_ n12_ n13_ n14_ n15_; clear hb hbox hg; have hnb98 := NB187_173.out; have hnc98 := NB173_187.out; have hnb99 := NB187_174.out; have hnc99 := NB174_187.out; have hnb100 := NB187_181.out; have hnc100 := NB181_187.out; have hnb101 := NB187_184.out; have hnc101 := NB184_187.out; have hcz102_0 : w97.cell? ⟨gb187, 0, none⟩ = some (.int .i64 0) := (blk_cell BK187.out 0).trans rfl; have hcz102_1 : w97.cell? ⟨gb187, 1, none⟩ = some (.int .i64 0) := (blk_cell BK187.out 1).trans rfl; have hfz102_0 := blk_frozen BK187.out 0; have hfz102_1 := blk_frozen BK187.out 1; have hnb103 := NB181_173.out; have hnc103 := NB173_181.out; have hnb104 := NB181_174.out; have hnc104 := NB174_181.out; have hnb105 := NB181_184.out; have hnc105 := NB184_181.out; have hcz106_0 : w97.cell? ⟨gb181, 0, none⟩ = some (.int .i64 t179) := (blk_cell BK181.out 0).trans rfl; have hcz106_1 : w97.cell? ⟨gb181, 1, none⟩ = some (.int .i64 t180) := (blk_cell BK181.out 1).trans rfl; have hfz106_0 := blk_frozen BK181.out 0; have hfz106_1 := blk_frozen BK181.out 1))
                            go_roundg k2
                            case measure => have := HJ6.out; have := HK2.out; omega
                            case rel => exact ⟨(false), (wrap64 (x12_2 + 1)), (by first | rfl | (simp; done) | (simp [*]; done)), (by first | rfl | (simp; done) | (simp [*]; done)), H', ⟨by have := HJ6.out; have := HK2.out; omega⟩, ⟨by (with_reducible repeat (first | refine blk_drewN ?_ _ | refine blk_drew ?_ | refine blk_alloc ?_ _)); refine blk_far ?_ NB173_187.out _; (with_reducible repeat (first | refine blk_drewN ?_ _ | refine blk_drew ?_ | refine blk_alloc ?_ _)); refine blk_far ?_ NB173_187.out _; (with_reducible repeat (first | refine blk_drewN ?_ _ | refine blk_drew ?_ | refine blk_alloc ?_ _)); exact BK173.out⟩, ⟨by (with_reducible repeat (first | refine blk_drewN ?_ _ | refine blk_drew ?_ | refine blk_alloc ?_ _)); refine blk_far ?_ NB174_187.out _; (with_reducible repeat (first | refine blk_drewN ?_ _ | refine blk_drew ?_ | refine blk_alloc ?_ _)); refine blk_far ?_ NB174_187.out _; (with_reducible repeat (first | refine blk_drewN ?_ _ | refine blk_drew ?_ | refine blk_alloc ?_ _)); exact BK174.out⟩, ⟨by (with_reducible repeat (first | refine blk_drewN ?_ _ | refine blk_drew ?_ | refine blk_alloc ?_ _)); refine blk_far ?_ NB181_187.out _; (with_reducible repeat (first | refine blk_drewN ?_ _ | refine blk_drew ?_ | refine blk_alloc ?_ _)); refine blk_far ?_ NB181_187.out _; (with_reducible repeat (first | refine blk_drewN ?_ _ | refine blk_drew ?_ | refine blk_alloc ?_ _)); exact BK181.out⟩, ⟨by (with_reducible repeat (first | refine blk_drewN ?_ _ | refine blk_drew ?_ | refine blk_alloc ?_ _)); refine blk_far ?_ NB184_187.out _; (with_reducible repeat (first | refine blk_drewN ?_ _ | refine blk_drew ?_ | refine blk_alloc ?_ _)); refine blk_far ?_ NB184_187.out _; (with_reducible repeat (first | refine blk_drewN ?_ _ | refine blk_drew ?_ | refine blk_alloc ?_ _)); exact BK184.out⟩, ⟨by repeat (first | (with_reducible first | exact HB.out | apply below_alloc | apply pw_below_drewN | apply below_drew1 | refine below_set ?_ GE173.out | refine below_set ?_ GE174.out | refine below_set ?_ GE181.out | refine below_set ?_ GE184.out | refine below_set ?_ GE187.out) | exact HB.out)⟩⟩
                      · rw [if_neg c59] at H
                        have c59b0 : decide (x12_2 < t176) = false := decide_eq_false c59
                        clear c59
                        by_cases c107 : x11_2 = true
                        · subst c107
                          have H1 : (if x12_2 = t176 then (joustlaw13_VecToward.l0 k2 a2 t176 (wrap64 ((wrap64 (t182 * t179)) + (wrap64 (t183 * t180)))) true (wrap64 (x12_2 + 1)) a0_0 a0_1 a1_0 a1_1 t179 t180) else (joustlaw13_VecToward.l0 k2 a2 t176 (wrap64 ((wrap64 (t182 * t179)) + (wrap64 (t183 * t180)))) (decide ((wrap64 ((wrap64 (t185 * t179)) + (wrap64 (t186 * t180)))) < (wrap64 ((wrap64 (t182 * t179)) + (wrap64 (t183 * t180)))))) (wrap64 (x12_2 + 1)) a0_0 a0_1 a1_0 a1_1 t179 t180)) = some r := by rw [if_pos rfl] at H; exact H
                          clear H
                          have H := H1
                          clear H1
                          by_cases c108 : x12_2 = t176
                          · rw [if_pos c108] at H
                            have c108b0 : (x12_2 == t176) = true := beq_iff_eq.mpr c108
                            have c108b1 : (x12_2 != t176) = false := bne_eq_false_iff_eq.mpr c108
                            clear c108
                            have H' := Aside0.mk H
                            clear H
                            go_wp2_with (first | ((with_reducible refine gate_callee (f := 10) rfl ?_); refine goesL_ (some 57) rfl rfl Tryd.func10 (by kernel_rfl) rfl #[.int .i64 x12_2] rfl (by (try simp only [List.map_toArray, List.map_cons, List.map_nil]); first | done | rfl | (simp only [List.length_drop, List.length_take]; rfl)) ?_; (with_reducible refine (vec_Unit.calls k2 x12_2 t185 t186 _ A45.out (by first | ((repeat (first | exact HG.out | apply Sines.drewN | apply Sines.drew)); done) | exact Sines.below HG.out (by repeat (first | (with_reducible first | exact HB.out | apply below_alloc | apply pw_below_drewN | apply below_drew1 | refine below_set ?_ GE173.out | refine below_set ?_ GE174.out | refine below_set ?_ GE181.out | refine below_set ?_ GE184.out) | exact HB.out)))).mono ?_); rintro e w109 ⟨rfl, hb⟩; refine ⟨_, rfl, ?_⟩; have n0_ := Aside0.mk (blk_below (g := gb173) (o := .cells #[.int .i64 a0_0, .int .i64 a0_1] 25 (0, 0)) (by (with_reducible repeat (first | refine blk_drewN ?_ _ | refine blk_drew ?_ | refine blk_alloc ?_ _)); exact BK173.out) hb); have n1_ := Aside0.mk (blk_below (g := gb174) (o := .cells #[.int .i64 a1_0, .int .i64 a1_1] 25 (0, 0)) (by (with_reducible repeat (first | refine blk_drewN ?_ _ | refine blk_drew ?_ | refine blk_alloc ?_ _)); exact BK174.out) hb); have n2_ := Aside0.mk (blk_below (g := gb181) (o := .cells #[.int .i64 t179, .int .i64 t180] 25 (0, 0)) (by (with_reducible repeat (first | refine blk_drewN ?_ _ | refine blk_drew ?_ | refine blk_alloc ?_ _)); exact BK181.out) hb); have n3_ := Aside0.mk (blk_below (g := gb184) (o := .cells #[.int .i64 t182, .int .i64 t183] 25 (0, 0)) (by (with_reducible repeat (first | refine blk_drewN ?_ _ | refine blk_drew ?_ | refine blk_alloc ?_ _)); exact BK184.out) hb); have n4_ := Aside0.mk (below_step (by repeat (first | (with_reducible first | exact HB.out | apply below_alloc | apply pw_below_drewN | apply below_drew1 | refine below_set ?_ GE173.out | refine below_set ?_ GE174.out | refine below_set ?_ GE181.out | refine below_set ?_ GE184.out) | exact HB.out)) hb); clear BK173; clear BK174; clear BK181; clear BK184; clear HB; have BK173 := n0_; have BK174 := n1_; have BK181 := n2_; have BK184 := n3_; have HB := n4_; clear n0_ n1_ n2_ n3_ n4_; (try clear hb); (try clear hb2); (try clear hk); (try clear hi)) | ((with_reducible refine gate_dst (N := 13) rfl ?_); refine box_event ?hg (N := 13) ?hd (cs := #[.int .i64 0, .int .i64 0]) (t := 25) ?hr ?_; (case hd => rfl); (case hg => rfl); (case hr => first | (go_simp; done) | (go_simp; rfl)); intro gb187 hg w110 hbox hb; have n0_ := Aside0.mk (blk_below (g := gb173) (o := .cells #[.int .i64 a0_0, .int .i64 a0_1] 25 (0, 0)) (by (with_reducible repeat (first | refine blk_drewN ?_ _ | refine blk_drew ?_ | refine blk_alloc ?_ _)); exact BK173.out) hb); have n1_ := Aside0.mk (blk_below (g := gb174) (o := .cells #[.int .i64 a1_0, .int .i64 a1_1] 25 (0, 0)) (by (with_reducible repeat (first | refine blk_drewN ?_ _ | refine blk_drew ?_ | refine blk_alloc ?_ _)); exact BK174.out) hb); have n2_ := Aside0.mk (blk_below (g := gb181) (o := .cells #[.int .i64 t179, .int .i64 t180] 25 (0, 0)) (by (with_reducible repeat (first | refine blk_drewN ?_ _ | refine blk_drew ?_ | refine blk_alloc ?_ _)); exact BK181.out) hb); have n3_ := Aside0.mk (blk_below (g := gb184) (o := .cells #[.int .i64 t182, .int .i64 t183] 25 (0, 0)) (by (with_reducible repeat (first | refine blk_drewN ?_ _ | refine blk_drew ?_ | refine blk_alloc ?_ _)); exact BK184.out) hb); have n4_ := Aside0.mk (below_step (by repeat (first | (with_reducible first | exact HB.out | apply below_alloc | apply pw_below_drewN | apply below_drew1 | refine below_set ?_ GE173.out | refine below_set ?_ GE174.out | refine below_set ?_ GE181.out | refine below_set ?_ GE184.out) | exact HB.out)) hb); have n5_ := Aside0.mk (hbox); have n6_ := Aside0.mk ((by rw [hg]; exact (below_size (by repeat (first | (with_reducible first | exact HB.out | apply below_alloc | apply pw_below_drewN | apply below_drew1 | refine below_set ?_ GE173.out | refine below_set ?_ GE174.out | refine below_set ?_ GE181.out | refine below_set ?_ GE184.out) | exact HB.out))) : w.heap.size ≤ gb187)); have n7_ := Aside0.mk ((by rw [hg]; exact (below_size (by repeat (first | (with_reducible first | exact HB.out | apply below_alloc | apply pw_below_drewN | apply below_drew1 | refine below_set ?_ GE173.out | refine below_set ?_ GE174.out | refine below_set ?_ GE181.out | refine below_set ?_ GE184.out) | exact HB.out))) : w.heap.size ≤ gb187)); have n8_ := Aside0.mk ((by rw [hg]; exact Nat.ne_of_lt (blk_lt (g := gb173) (o := .cells #[.int .i64 a0_0, .int .i64 a0_1] 25 (0, 0)) (by (with_reducible repeat (first | refine blk_drewN ?_ _ | refine blk_drew ?_ | refine blk_alloc ?_ _)); exact BK173.out)) : gb173 ≠ gb187)); have n9_ := Aside0.mk ((by rw [hg]; exact Nat.ne_of_gt (blk_lt (g := gb173) (o := .cells #[.int .i64 a0_0, .int .i64 a0_1] 25 (0, 0)) (by (with_reducible repeat (first | refine blk_drewN ?_ _ | refine blk_drew ?_ | refine blk_alloc ?_ _)); exact BK173.out)) : gb187 ≠ gb173)); have n10_ := Aside0.mk ((by rw [hg]; exact Nat.ne_of_lt (blk_lt (g := gb174) (o := .cells #[.int .i64 a1_0, .int .i64 a1_1] 25 (0, 0)) (by (with_reducible repeat (first | refine blk_drewN ?_ _ | refine blk_drew ?_ | refine blk_alloc ?_ _)); exact BK174.out)) : gb174 ≠ gb187)); have n11_ := Aside0.mk ((by rw [hg]; exact Nat.ne_of_gt (blk_lt (g := gb174) (o := .cells #[.int .i64 a1_0, .int .i64 a1_1] 25 (0, 0)) (by (with_reducible repeat (first | refine blk_drewN ?_ _ | refine blk_drew ?_ | refine blk_alloc ?_ _)); exact BK174.out)) : gb187 ≠ gb174)); have n12_ := Aside0.mk ((by rw [hg]; exact Nat.ne_of_lt (blk_lt (g := gb181) (o := .cells #[.int .i64 t179, .int .i64 t180] 25 (0, 0)) (by (with_reducible repeat (first | refine blk_drewN ?_ _ | refine blk_drew ?_ | refine blk_alloc ?_ _)); exact BK181.out)) : gb181 ≠ gb187)); have n13_ := Aside0.mk ((by rw [hg]; exact Nat.ne_of_gt (blk_lt (g := gb181) (o := .cells #[.int .i64 t179, .int .i64 t180] 25 (0, 0)) (by (with_reducible repeat (first | refine blk_drewN ?_ _ | refine blk_drew ?_ | refine blk_alloc ?_ _)); exact BK181.out)) : gb187 ≠ gb181)); have n14_ := Aside0.mk ((by rw [hg]; exact Nat.ne_of_lt (blk_lt (g := gb184) (o := .cells #[.int .i64 t182, .int .i64 t183] 25 (0, 0)) (by (with_reducible repeat (first | refine blk_drewN ?_ _ | refine blk_drew ?_ | refine blk_alloc ?_ _)); exact BK184.out)) : gb184 ≠ gb187)); have n15_ := Aside0.mk ((by rw [hg]; exact Nat.ne_of_gt (blk_lt (g := gb184) (o := .cells #[.int .i64 t182, .int .i64 t183] 25 (0, 0)) (by (with_reducible repeat (first | refine blk_drewN ?_ _ | refine blk_drew ?_ | refine blk_alloc ?_ _)); exact BK184.out)) : gb187 ≠ gb184)); clear BK173; clear BK174; clear BK181; clear BK184; clear HB; have BK173 := n0_; have BK174 := n1_; have BK181 := n2_; have BK184 := n3_; have HB := n4_; have BK187 := n5_; have GW187 := n6_; have GE187 := n7_; have NB173_187 := n8_; have NB187_173 := n9_; have NB174_187 := n10_; have NB187_174 := n11_; have NB181_187 := n12_; have NB187_181 := n13_; have NB184_187 := n14_; have NB187_184 := n15_; clear n0_ n1_ n2_ n3_ n4_ n5_ n6_ n7_ n8_ n9_ n10_ n11_ n12_ n13_ n14_ n15_; clear hb hbox hg; have hnb111 := NB187_173.out; have hnc111 := NB173_187.out; have hnb112 := NB187_174.out; have hnc112 := NB174_187.out; have hnb113 := NB187_181.out; have hnc113 := NB181_187.out; have hnb114 := NB187_184.out; have hnc114 := NB184_187.out; have hcz115_0 : w110.cell? ⟨gb187, 0, none⟩ = some (.int .i64 0) := (blk_cell BK187.out 0).trans rfl; have hcz115_1 : w110.cell? ⟨gb187, 1, none⟩ = some (.int .i64 0) := (blk_cell BK187.out 1).trans rfl; have hfz115_0 := blk_frozen BK187.out 0; have hfz115_1 := blk_frozen BK187.out 1; have hnb116 := NB181_173.out; have hnc116 := NB173_181.out; have hnb117 := NB181_174.out; have hnc117 := NB174_181.out; have hnb118 := NB181_184.out; have hnc118 := NB184_181.out; have hcz119_0 : w110.cell? ⟨gb181, 0, none⟩ = some (.int .i64 t179) := (blk_cell BK181.out 0).trans rfl; have hcz119_1 : w110.cell? ⟨gb181, 1, none⟩ = some (.int .i64 t180) := (blk_cell BK181.out 1).trans rfl; have hfz119_0 := blk_frozen BK181.out 0; have hfz119_1 := blk_frozen BK181.out 1))
                            go_roundg k2
                            case measure => have := HJ6.out; have := HK2.out; omega
                            case rel => exact ⟨(true), (wrap64 (x12_2 + 1)), (by first | rfl | (simp; done) | (simp [*]; done)), (by first | rfl | (simp; done) | (simp [*]; done)), H', ⟨by have := HJ6.out; have := HK2.out; omega⟩, ⟨by (with_reducible repeat (first | refine blk_drewN ?_ _ | refine blk_drew ?_ | refine blk_alloc ?_ _)); refine blk_far ?_ NB173_187.out _; (with_reducible repeat (first | refine blk_drewN ?_ _ | refine blk_drew ?_ | refine blk_alloc ?_ _)); refine blk_far ?_ NB173_187.out _; (with_reducible repeat (first | refine blk_drewN ?_ _ | refine blk_drew ?_ | refine blk_alloc ?_ _)); exact BK173.out⟩, ⟨by (with_reducible repeat (first | refine blk_drewN ?_ _ | refine blk_drew ?_ | refine blk_alloc ?_ _)); refine blk_far ?_ NB174_187.out _; (with_reducible repeat (first | refine blk_drewN ?_ _ | refine blk_drew ?_ | refine blk_alloc ?_ _)); refine blk_far ?_ NB174_187.out _; (with_reducible repeat (first | refine blk_drewN ?_ _ | refine blk_drew ?_ | refine blk_alloc ?_ _)); exact BK174.out⟩, ⟨by (with_reducible repeat (first | refine blk_drewN ?_ _ | refine blk_drew ?_ | refine blk_alloc ?_ _)); refine blk_far ?_ NB181_187.out _; (with_reducible repeat (first | refine blk_drewN ?_ _ | refine blk_drew ?_ | refine blk_alloc ?_ _)); refine blk_far ?_ NB181_187.out _; (with_reducible repeat (first | refine blk_drewN ?_ _ | refine blk_drew ?_ | refine blk_alloc ?_ _)); exact BK181.out⟩, ⟨by (with_reducible repeat (first | refine blk_drewN ?_ _ | refine blk_drew ?_ | refine blk_alloc ?_ _)); refine blk_far ?_ NB184_187.out _; (with_reducible repeat (first | refine blk_drewN ?_ _ | refine blk_drew ?_ | refine blk_alloc ?_ _)); refine blk_far ?_ NB184_187.out _; (with_reducible repeat (first | refine blk_drewN ?_ _ | refine blk_drew ?_ | refine blk_alloc ?_ _)); exact BK184.out⟩, ⟨by repeat (first | (with_reducible first | exact HB.out | apply below_alloc | apply pw_below_drewN | apply below_drew1 | refine below_set ?_ GE173.out | refine below_set ?_ GE174.out | refine below_set ?_ GE181.out | refine below_set ?_ GE184.out | refine below_set ?_ GE187.out) | exact HB.out)⟩⟩
                          · rw [if_neg c108] at H
                            have c108b0 : (x12_2 == t176) = false := beq_eq_false_iff_ne.mpr c108
                            have c108b1 : (x12_2 != t176) = true := bne_iff_ne.mpr c108
                            have H' := Aside0.mk H
                            clear H
                            go_wp2_with (first | ((with_reducible refine gate_callee (f := 10) rfl ?_); refine goesL_ (some 57) rfl rfl Tryd.func10 (by kernel_rfl) rfl #[.int .i64 x12_2] rfl (by (try simp only [List.map_toArray, List.map_cons, List.map_nil]); first | done | rfl | (simp only [List.length_drop, List.length_take]; rfl)) ?_; (with_reducible refine (vec_Unit.calls k2 x12_2 t185 t186 _ A45.out (by first | ((repeat (first | exact HG.out | apply Sines.drewN | apply Sines.drew)); done) | exact Sines.below HG.out (by repeat (first | (with_reducible first | exact HB.out | apply below_alloc | apply pw_below_drewN | apply below_drew1 | refine below_set ?_ GE173.out | refine below_set ?_ GE174.out | refine below_set ?_ GE181.out | refine below_set ?_ GE184.out) | exact HB.out)))).mono ?_); rintro e w120 ⟨rfl, hb⟩; refine ⟨_, rfl, ?_⟩; have n0_ := Aside0.mk (blk_below (g := gb173) (o := .cells #[.int .i64 a0_0, .int .i64 a0_1] 25 (0, 0)) (by (with_reducible repeat (first | refine blk_drewN ?_ _ | refine blk_drew ?_ | refine blk_alloc ?_ _)); exact BK173.out) hb); have n1_ := Aside0.mk (blk_below (g := gb174) (o := .cells #[.int .i64 a1_0, .int .i64 a1_1] 25 (0, 0)) (by (with_reducible repeat (first | refine blk_drewN ?_ _ | refine blk_drew ?_ | refine blk_alloc ?_ _)); exact BK174.out) hb); have n2_ := Aside0.mk (blk_below (g := gb181) (o := .cells #[.int .i64 t179, .int .i64 t180] 25 (0, 0)) (by (with_reducible repeat (first | refine blk_drewN ?_ _ | refine blk_drew ?_ | refine blk_alloc ?_ _)); exact BK181.out) hb); have n3_ := Aside0.mk (blk_below (g := gb184) (o := .cells #[.int .i64 t182, .int .i64 t183] 25 (0, 0)) (by (with_reducible repeat (first | refine blk_drewN ?_ _ | refine blk_drew ?_ | refine blk_alloc ?_ _)); exact BK184.out) hb); have n4_ := Aside0.mk (below_step (by repeat (first | (with_reducible first | exact HB.out | apply below_alloc | apply pw_below_drewN | apply below_drew1 | refine below_set ?_ GE173.out | refine below_set ?_ GE174.out | refine below_set ?_ GE181.out | refine below_set ?_ GE184.out) | exact HB.out)) hb); clear BK173; clear BK174; clear BK181; clear BK184; clear HB; have BK173 := n0_; have BK174 := n1_; have BK181 := n2_; have BK184 := n3_; have HB := n4_; clear n0_ n1_ n2_ n3_ n4_; (try clear hb); (try clear hb2); (try clear hk); (try clear hi)) | ((with_reducible refine gate_dst (N := 13) rfl ?_); refine box_event ?hg (N := 13) ?hd (cs := #[.int .i64 0, .int .i64 0]) (t := 25) ?hr ?_; (case hd => rfl); (case hg => rfl); (case hr => first | (go_simp; done) | (go_simp; rfl)); intro gb187 hg w121 hbox hb; have n0_ := Aside0.mk (blk_below (g := gb173) (o := .cells #[.int .i64 a0_0, .int .i64 a0_1] 25 (0, 0)) (by (with_reducible repeat (first | refine blk_drewN ?_ _ | refine blk_drew ?_ | refine blk_alloc ?_ _)); exact BK173.out) hb); have n1_ := Aside0.mk (blk_below (g := gb174) (o := .cells #[.int .i64 a1_0, .int .i64 a1_1] 25 (0, 0)) (by (with_reducible repeat (first | refine blk_drewN ?_ _ | refine blk_drew ?_ | refine blk_alloc ?_ _)); exact BK174.out) hb); have n2_ := Aside0.mk (blk_below (g := gb181) (o := .cells #[.int .i64 t179, .int .i64 t180] 25 (0, 0)) (by (with_reducible repeat (first | refine blk_drewN ?_ _ | refine blk_drew ?_ | refine blk_alloc ?_ _)); exact BK181.out) hb); have n3_ := Aside0.mk (blk_below (g := gb184) (o := .cells #[.int .i64 t182, .int .i64 t183] 25 (0, 0)) (by (with_reducible repeat (first | refine blk_drewN ?_ _ | refine blk_drew ?_ | refine blk_alloc ?_ _)); exact BK184.out) hb); have n4_ := Aside0.mk (below_step (by repeat (first | (with_reducible first | exact HB.out | apply below_alloc | apply pw_below_drewN | apply below_drew1 | refine below_set ?_ GE173.out | refine below_set ?_ GE174.out | refine below_set ?_ GE181.out | refine below_set ?_ GE184.out) | exact HB.out)) hb); have n5_ := Aside0.mk (hbox); have n6_ := Aside0.mk ((by rw [hg]; exact (below_size (by repeat (first | (with_reducible first | exact HB.out | apply below_alloc | apply pw_below_drewN | apply below_drew1 | refine below_set ?_ GE173.out | refine below_set ?_ GE174.out | refine below_set ?_ GE181.out | refine below_set ?_ GE184.out) | exact HB.out))) : w.heap.size ≤ gb187)); have n7_ := Aside0.mk ((by rw [hg]; exact (below_size (by repeat (first | (with_reducible first | exact HB.out | apply below_alloc | apply pw_below_drewN | apply below_drew1 | refine below_set ?_ GE173.out | refine below_set ?_ GE174.out | refine below_set ?_ GE181.out | refine below_set ?_ GE184.out) | exact HB.out))) : w.heap.size ≤ gb187)); have n8_ := Aside0.mk ((by rw [hg]; exact Nat.ne_of_lt (blk_lt (g := gb173) (o := .cells #[.int .i64 a0_0, .int .i64 a0_1] 25 (0, 0)) (by (with_reducible repeat (first | refine blk_drewN ?_ _ | refine blk_drew ?_ | refine blk_alloc ?_ _)); exact BK173.out)) : gb173 ≠ gb187)); have n9_ := Aside0.mk ((by rw [hg]; exact Nat.ne_of_gt (blk_lt (g := gb173) (o := .cells #[.int .i64 a0_0, .int .i64 a0_1] 25 (0, 0)) (by (with_reducible repeat (first | refine blk_drewN ?_ _ | refine blk_drew ?_ | refine blk_alloc ?_ _)); exact BK173.out)) : gb187 ≠ gb173)); have n10_ := Aside0.mk ((by rw [hg]; exact Nat.ne_of_lt (blk_lt (g := gb174) (o := .cells #[.int .i64 a1_0, .int .i64 a1_1] 25 (0, 0)) (by (with_reducible repeat (first | refine blk_drewN ?_ _ | refine blk_drew ?_ | refine blk_alloc ?_ _)); exact BK174.out)) : gb174 ≠ gb187)); have n11_ := Aside0.mk ((by rw [hg]; exact Nat.ne_of_gt (blk_lt (g := gb174) (o := .cells #[.int .i64 a1_0, .int .i64 a1_1] 25 (0, 0)) (by (with_reducible repeat (first | refine blk_drewN ?_ _ | refine blk_drew ?_ | refine blk_alloc ?_ _)); exact BK174.out)) : gb187 ≠ gb174)); have n12_ := Aside0.mk ((by rw [hg]; exact Nat.ne_of_lt (blk_lt (g := gb181) (o := .cells #[.int .i64 t179, .int .i64 t180] 25 (0, 0)) (by (with_reducible repeat (first | refine blk_drewN ?_ _ | refine blk_drew ?_ | refine blk_alloc ?_ _)); exact BK181.out)) : gb181 ≠ gb187)); have n13_ := Aside0.mk ((by rw [hg]; exact Nat.ne_of_gt (blk_lt (g := gb181) (o := .cells #[.int .i64 t179, .int .i64 t180] 25 (0, 0)) (by (with_reducible repeat (first | refine blk_drewN ?_ _ | refine blk_drew ?_ | refine blk_alloc ?_ _)); exact BK181.out)) : gb187 ≠ gb181)); have n14_ := Aside0.mk ((by rw [hg]; exact Nat.ne_of_lt (blk_lt (g := gb184) (o := .cells #[.int .i64 t182, .int .i64 t183] 25 (0, 0)) (by (with_reducible repeat (first | refine blk_drewN ?_ _ | refine blk_drew ?_ | refine blk_alloc ?_ _)); exact BK184.out)) : gb184 ≠ gb187)); have n15_ := Aside0.mk ((by rw [hg]; exact Nat.ne_of_gt (blk_lt (g := gb184) (o := .cells #[.int .i64 t182, .int .i64 t183] 25 (0, 0)) (by (with_reducible repeat (first | refine blk_drewN ?_ _ | refine blk_drew ?_ | refine blk_alloc ?_ _)); exact BK184.out)) : gb187 ≠ gb184)); clear BK173; clear BK174; clear BK181; clear BK184; clear HB; have BK173 := n0_; have BK174 := n1_; have BK181 := n2_; have BK184 := n3_; have HB := n4_; have BK187 := n5_; have GW187 := n6_; have GE187 := n7_; have NB173_187 := n8_; have NB187_173 := n9_; have NB174_187 := n10_; have NB187_174 := n11_; have NB181_187 := n12_; have NB187_181 := n13_; have NB184_187 := n14_; have NB187_184 := n15_; clear n0_ n1_ n2_ n3_ n4_ n5_ n6_ n7_ n8_ n9_ n10_ n11_ n12_ n13_ n14_ n15_; clear hb hbox hg; have hnb122 := NB187_173.out; have hnc122 := NB173_187.out; have hnb123 := NB187_174.out; have hnc123 := NB174_187.out; have hnb124 := NB187_181.out; have hnc124 := NB181_187.out; have hnb125 := NB187_184.out; have hnc125 := NB184_187.out; have hcz126_0 : w121.cell? ⟨gb187, 0, none⟩ = some (.int .i64 0) := (blk_cell BK187.out 0).trans rfl; have hcz126_1 : w121.cell? ⟨gb187, 1, none⟩ = some (.int .i64 0) := (blk_cell BK187.out 1).trans rfl; have hfz126_0 := blk_frozen BK187.out 0; have hfz126_1 := blk_frozen BK187.out 1; have hnb127 := NB181_173.out; have hnc127 := NB173_181.out; have hnb128 := NB181_174.out; have hnc128 := NB174_181.out; have hnb129 := NB181_184.out; have hnc129 := NB184_181.out; have hcz130_0 : w121.cell? ⟨gb181, 0, none⟩ = some (.int .i64 t179) := (blk_cell BK181.out 0).trans rfl; have hcz130_1 : w121.cell? ⟨gb181, 1, none⟩ = some (.int .i64 t180) := (blk_cell BK181.out 1).trans rfl; have hfz130_0 := blk_frozen BK181.out 0; have hfz130_1 := blk_frozen BK181.out 1))
                            go_roundg k2
                            case measure => have := HJ6.out; have := HK2.out; omega
                            case rel => exact ⟨(decide ((wrap64 ((wrap64 (t185 * t179)) + (wrap64 (t186 * t180)))) < (wrap64 ((wrap64 (t182 * t179)) + (wrap64 (t183 * t180)))))), (wrap64 (x12_2 + 1)), (by first | rfl | (simp; done) | (simp [*]; done)), (by first | rfl | (simp; done) | (simp [*]; done)), H', ⟨by have := HJ6.out; have := HK2.out; omega⟩, ⟨by (with_reducible repeat (first | refine blk_drewN ?_ _ | refine blk_drew ?_ | refine blk_alloc ?_ _)); refine blk_far ?_ NB173_187.out _; (with_reducible repeat (first | refine blk_drewN ?_ _ | refine blk_drew ?_ | refine blk_alloc ?_ _)); refine blk_far ?_ NB173_187.out _; (with_reducible repeat (first | refine blk_drewN ?_ _ | refine blk_drew ?_ | refine blk_alloc ?_ _)); exact BK173.out⟩, ⟨by (with_reducible repeat (first | refine blk_drewN ?_ _ | refine blk_drew ?_ | refine blk_alloc ?_ _)); refine blk_far ?_ NB174_187.out _; (with_reducible repeat (first | refine blk_drewN ?_ _ | refine blk_drew ?_ | refine blk_alloc ?_ _)); refine blk_far ?_ NB174_187.out _; (with_reducible repeat (first | refine blk_drewN ?_ _ | refine blk_drew ?_ | refine blk_alloc ?_ _)); exact BK174.out⟩, ⟨by (with_reducible repeat (first | refine blk_drewN ?_ _ | refine blk_drew ?_ | refine blk_alloc ?_ _)); refine blk_far ?_ NB181_187.out _; (with_reducible repeat (first | refine blk_drewN ?_ _ | refine blk_drew ?_ | refine blk_alloc ?_ _)); refine blk_far ?_ NB181_187.out _; (with_reducible repeat (first | refine blk_drewN ?_ _ | refine blk_drew ?_ | refine blk_alloc ?_ _)); exact BK181.out⟩, ⟨by (with_reducible repeat (first | refine blk_drewN ?_ _ | refine blk_drew ?_ | refine blk_alloc ?_ _)); refine blk_far ?_ NB184_187.out _; (with_reducible repeat (first | refine blk_drewN ?_ _ | refine blk_drew ?_ | refine blk_alloc ?_ _)); refine blk_far ?_ NB184_187.out _; (with_reducible repeat (first | refine blk_drewN ?_ _ | refine blk_drew ?_ | refine blk_alloc ?_ _)); exact BK184.out⟩, ⟨by repeat (first | (with_reducible first | exact HB.out | apply below_alloc | apply pw_below_drewN | apply below_drew1 | refine below_set ?_ GE173.out | refine below_set ?_ GE174.out | refine below_set ?_ GE181.out | refine below_set ?_ GE184.out | refine below_set ?_ GE187.out) | exact HB.out)⟩⟩
                        · replace c107 := Bool.eq_false_iff.mpr c107
                          subst c107
                          have H1 : (joustlaw13_VecToward.l0 k2 a2 t176 (wrap64 ((wrap64 (t182 * t179)) + (wrap64 (t183 * t180)))) false (wrap64 (x12_2 + 1)) a0_0 a0_1 a1_0 a1_1 t179 t180) = some r := by rw [if_neg (show ¬ (false = true) by decide)] at H; exact H
                          clear H
                          have H := H1
                          clear H1
                          have H' := Aside0.mk H
                          clear H
                          go_wp2_with (first | ((with_reducible refine gate_callee (f := 10) rfl ?_); refine goesL_ (some 57) rfl rfl Tryd.func10 (by kernel_rfl) rfl #[.int .i64 x12_2] rfl (by (try simp only [List.map_toArray, List.map_cons, List.map_nil]); first | done | rfl | (simp only [List.length_drop, List.length_take]; rfl)) ?_; (with_reducible refine (vec_Unit.calls k2 x12_2 t185 t186 _ A45.out (by first | ((repeat (first | exact HG.out | apply Sines.drewN | apply Sines.drew)); done) | exact Sines.below HG.out (by repeat (first | (with_reducible first | exact HB.out | apply below_alloc | apply pw_below_drewN | apply below_drew1 | refine below_set ?_ GE173.out | refine below_set ?_ GE174.out | refine below_set ?_ GE181.out | refine below_set ?_ GE184.out) | exact HB.out)))).mono ?_); rintro e w131 ⟨rfl, hb⟩; refine ⟨_, rfl, ?_⟩; have n0_ := Aside0.mk (blk_below (g := gb173) (o := .cells #[.int .i64 a0_0, .int .i64 a0_1] 25 (0, 0)) (by (with_reducible repeat (first | refine blk_drewN ?_ _ | refine blk_drew ?_ | refine blk_alloc ?_ _)); exact BK173.out) hb); have n1_ := Aside0.mk (blk_below (g := gb174) (o := .cells #[.int .i64 a1_0, .int .i64 a1_1] 25 (0, 0)) (by (with_reducible repeat (first | refine blk_drewN ?_ _ | refine blk_drew ?_ | refine blk_alloc ?_ _)); exact BK174.out) hb); have n2_ := Aside0.mk (blk_below (g := gb181) (o := .cells #[.int .i64 t179, .int .i64 t180] 25 (0, 0)) (by (with_reducible repeat (first | refine blk_drewN ?_ _ | refine blk_drew ?_ | refine blk_alloc ?_ _)); exact BK181.out) hb); have n3_ := Aside0.mk (blk_below (g := gb184) (o := .cells #[.int .i64 t182, .int .i64 t183] 25 (0, 0)) (by (with_reducible repeat (first | refine blk_drewN ?_ _ | refine blk_drew ?_ | refine blk_alloc ?_ _)); exact BK184.out) hb); have n4_ := Aside0.mk (below_step (by repeat (first | (with_reducible first | exact HB.out | apply below_alloc | apply pw_below_drewN | apply below_drew1 | refine below_set ?_ GE173.out | refine below_set ?_ GE174.out | refine below_set ?_ GE181.out | refine below_set ?_ GE184.out) | exact HB.out)) hb); clear BK173; clear BK174; clear BK181; clear BK184; clear HB; have BK173 := n0_; have BK174 := n1_; have BK181 := n2_; have BK184 := n3_; have HB := n4_; clear n0_ n1_ n2_ n3_ n4_; (try clear hb); (try clear hb2); (try clear hk); (try clear hi)) | ((with_reducible refine gate_dst (N := 13) rfl ?_); refine box_event ?hg (N := 13) ?hd (cs := #[.int .i64 0, .int .i64 0]) (t := 25) ?hr ?_; (case hd => rfl); (case hg => rfl); (case hr => first | (go_simp; done) | (go_simp; rfl)); intro gb187 hg w132 hbox hb; have n0_ := Aside0.mk (blk_below (g := gb173) (o := .cells #[.int .i64 a0_0, .int .i64 a0_1] 25 (0, 0)) (by (with_reducible repeat (first | refine blk_drewN ?_ _ | refine blk_drew ?_ | refine blk_alloc ?_ _)); exact BK173.out) hb); have n1_ := Aside0.mk (blk_below (g := gb174) (o := .cells #[.int .i64 a1_0, .int .i64 a1_1] 25 (0, 0)) (by (with_reducible repeat (first | refine blk_drewN ?_ _ | refine blk_drew ?_ | refine blk_alloc ?_ _)); exact BK174.out) hb); have n2_ := Aside0.mk (blk_below (g := gb181) (o := .cells #[.int .i64 t179, .int .i64 t180] 25 (0, 0)) (by (with_reducible repeat (first | refine blk_drewN ?_ _ | refine blk_drew ?_ | refine blk_alloc ?_ _)); exact BK181.out) hb); have n3_ := Aside0.mk (blk_below (g := gb184) (o := .cells #[.int .i64 t182, .int .i64 t183] 25 (0, 0)) (by (with_reducible repeat (first | refine blk_drewN ?_ _ | refine blk_drew ?_ | refine blk_alloc ?_ _)); exact BK184.out) hb); have n4_ := Aside0.mk (below_step (by repeat (first | (with_reducible first | exact HB.out | apply below_alloc | apply pw_below_drewN | apply below_drew1 | refine below_set ?_ GE173.out | refine below_set ?_ GE174.out | refine below_set ?_ GE181.out | refine below_set ?_ GE184.out) | exact HB.out)) hb); have n5_ := Aside0.mk (hbox); have n6_ := Aside0.mk ((by rw [hg]; exact (below_size (by repeat (first | (with_reducible first | exact HB.out | apply below_alloc | apply pw_below_drewN | apply below_drew1 | refine below_set ?_ GE173.out | refine below_set ?_ GE174.out | refine below_set ?_ GE181.out | refine below_set ?_ GE184.out) | exact HB.out))) : w.heap.size ≤ gb187)); have n7_ := Aside0.mk ((by rw [hg]; exact (below_size (by repeat (first | (with_reducible first | exact HB.out | apply below_alloc | apply pw_below_drewN | apply below_drew1 | refine below_set ?_ GE173.out | refine below_set ?_ GE174.out | refine below_set ?_ GE181.out | refine below_set ?_ GE184.out) | exact HB.out))) : w.heap.size ≤ gb187)); have n8_ := Aside0.mk ((by rw [hg]; exact Nat.ne_of_lt (blk_lt (g := gb173) (o := .cells #[.int .i64 a0_0, .int .i64 a0_1] 25 (0, 0)) (by (with_reducible repeat (first | refine blk_drewN ?_ _ | refine blk_drew ?_ | refine blk_alloc ?_ _)); exact BK173.out)) : gb173 ≠ gb187)); have n9_ := Aside0.mk ((by rw [hg]; exact Nat.ne_of_gt (blk_lt (g := gb173) (o := .cells #[.int .i64 a0_0, .int .i64 a0_1] 25 (0, 0)) (by (with_reducible repeat (first | refine blk_drewN ?_ _ | refine blk_drew ?_ | refine blk_alloc ?_ _)); exact BK173.out)) : gb187 ≠ gb173)); have n10_ := Aside0.mk ((by rw [hg]; exact Nat.ne_of_lt (blk_lt (g := gb174) (o := .cells #[.int .i64 a1_0, .int .i64 a1_1] 25 (0, 0)) (by (with_reducible repeat (first | refine blk_drewN ?_ _ | refine blk_drew ?_ | refine blk_alloc ?_ _)); exact BK174.out)) : gb174 ≠ gb187)); have n11_ := Aside0.mk ((by rw [hg]; exact Nat.ne_of_gt (blk_lt (g := gb174) (o := .cells #[.int .i64 a1_0, .int .i64 a1_1] 25 (0, 0)) (by (with_reducible repeat (first | refine blk_drewN ?_ _ | refine blk_drew ?_ | refine blk_alloc ?_ _)); exact BK174.out)) : gb187 ≠ gb174)); have n12_ := Aside0.mk ((by rw [hg]; exact Nat.ne_of_lt (blk_lt (g := gb181) (o := .cells #[.int .i64 t179, .int .i64 t180] 25 (0, 0)) (by (with_reducible repeat (first | refine blk_drewN ?_ _ | refine blk_drew ?_ | refine blk_alloc ?_ _)); exact BK181.out)) : gb181 ≠ gb187)); have n13_ := Aside0.mk ((by rw [hg]; exact Nat.ne_of_gt (blk_lt (g := gb181) (o := .cells #[.int .i64 t179, .int .i64 t180] 25 (0, 0)) (by (with_reducible repeat (first | refine blk_drewN ?_ _ | refine blk_drew ?_ | refine blk_alloc ?_ _)); exact BK181.out)) : gb187 ≠ gb181)); have n14_ := Aside0.mk ((by rw [hg]; exact Nat.ne_of_lt (blk_lt (g := gb184) (o := .cells #[.int .i64 t182, .int .i64 t183] 25 (0, 0)) (by (with_reducible repeat (first | refine blk_drewN ?_ _ | refine blk_drew ?_ | refine blk_alloc ?_ _)); exact BK184.out)) : gb184 ≠ gb187)); have n15_ := Aside0.mk ((by rw [hg]; exact Nat.ne_of_gt (blk_lt (g := gb184) (o := .cells #[.int .i64 t182, .int .i64 t183] 25 (0, 0)) (by (with_reducible repeat (first | refine blk_drewN ?_ _ | refine blk_drew ?_ | refine blk_alloc ?_ _)); exact BK184.out)) : gb187 ≠ gb184)); clear BK173; clear BK174; clear BK181; clear BK184; clear HB; have BK173 := n0_; have BK174 := n1_; have BK181 := n2_; have BK184 := n3_; have HB := n4_; have BK187 := n5_; have GW187 := n6_; have GE187 := n7_; have NB173_187 := n8_; have NB187_173 := n9_; have NB174_187 := n10_; have NB187_174 := n11_; have NB181_187 := n12_; have NB187_181 := n13_; have NB184_187 := n14_; have NB187_184 := n15_; clear n0_ n1_ n2_ n3_ n4_ n5_ n6_ n7_ n8_ n9_ n10_ n11_ n12_ n13_ n14_ n15_; clear hb hbox hg; have hnb133 := NB187_173.out; have hnc133 := NB173_187.out; have hnb134 := NB187_174.out; have hnc134 := NB174_187.out; have hnb135 := NB187_181.out; have hnc135 := NB181_187.out; have hnb136 := NB187_184.out; have hnc136 := NB184_187.out; have hcz137_0 : w132.cell? ⟨gb187, 0, none⟩ = some (.int .i64 0) := (blk_cell BK187.out 0).trans rfl; have hcz137_1 : w132.cell? ⟨gb187, 1, none⟩ = some (.int .i64 0) := (blk_cell BK187.out 1).trans rfl; have hfz137_0 := blk_frozen BK187.out 0; have hfz137_1 := blk_frozen BK187.out 1; have hnb138 := NB181_173.out; have hnc138 := NB173_181.out; have hnb139 := NB181_174.out; have hnc139 := NB174_181.out; have hnb140 := NB181_184.out; have hnc140 := NB184_181.out; have hcz141_0 : w132.cell? ⟨gb181, 0, none⟩ = some (.int .i64 t179) := (blk_cell BK181.out 0).trans rfl; have hcz141_1 : w132.cell? ⟨gb181, 1, none⟩ = some (.int .i64 t180) := (blk_cell BK181.out 1).trans rfl; have hfz141_0 := blk_frozen BK181.out 0; have hfz141_1 := blk_frozen BK181.out 1))
                          go_roundg k2
                          case measure => have := HJ6.out; have := HK2.out; omega
                          case rel => exact ⟨(false), (wrap64 (x12_2 + 1)), (by first | rfl | (simp; done) | (simp [*]; done)), (by first | rfl | (simp; done) | (simp [*]; done)), H', ⟨by have := HJ6.out; have := HK2.out; omega⟩, ⟨by (with_reducible repeat (first | refine blk_drewN ?_ _ | refine blk_drew ?_ | refine blk_alloc ?_ _)); refine blk_far ?_ NB173_187.out _; (with_reducible repeat (first | refine blk_drewN ?_ _ | refine blk_drew ?_ | refine blk_alloc ?_ _)); refine blk_far ?_ NB173_187.out _; (with_reducible repeat (first | refine blk_drewN ?_ _ | refine blk_drew ?_ | refine blk_alloc ?_ _)); exact BK173.out⟩, ⟨by (with_reducible repeat (first | refine blk_drewN ?_ _ | refine blk_drew ?_ | refine blk_alloc ?_ _)); refine blk_far ?_ NB174_187.out _; (with_reducible repeat (first | refine blk_drewN ?_ _ | refine blk_drew ?_ | refine blk_alloc ?_ _)); refine blk_far ?_ NB174_187.out _; (with_reducible repeat (first | refine blk_drewN ?_ _ | refine blk_drew ?_ | refine blk_alloc ?_ _)); exact BK174.out⟩, ⟨by (with_reducible repeat (first | refine blk_drewN ?_ _ | refine blk_drew ?_ | refine blk_alloc ?_ _)); refine blk_far ?_ NB181_187.out _; (with_reducible repeat (first | refine blk_drewN ?_ _ | refine blk_drew ?_ | refine blk_alloc ?_ _)); refine blk_far ?_ NB181_187.out _; (with_reducible repeat (first | refine blk_drewN ?_ _ | refine blk_drew ?_ | refine blk_alloc ?_ _)); exact BK181.out⟩, ⟨by (with_reducible repeat (first | refine blk_drewN ?_ _ | refine blk_drew ?_ | refine blk_alloc ?_ _)); refine blk_far ?_ NB184_187.out _; (with_reducible repeat (first | refine blk_drewN ?_ _ | refine blk_drew ?_ | refine blk_alloc ?_ _)); refine blk_far ?_ NB184_187.out _; (with_reducible repeat (first | refine blk_drewN ?_ _ | refine blk_drew ?_ | refine blk_alloc ?_ _)); exact BK184.out⟩, ⟨by repeat (first | (with_reducible first | exact HB.out | apply below_alloc | apply pw_below_drewN | apply below_drew1 | refine below_set ?_ GE173.out | refine below_set ?_ GE174.out | refine below_set ?_ GE181.out | refine below_set ?_ GE184.out | refine below_set ?_ GE187.out) | exact HB.out)⟩⟩
                    · rw [if_neg c58] at H
                      have c58b0 : ((wrap64 ((wrap64 (t185 * t179)) + (wrap64 (t186 * t180)))) == (wrap64 ((wrap64 (t182 * t179)) + (wrap64 (t183 * t180))))) = false := beq_eq_false_iff_ne.mpr c58
                      have c58b1 : ((wrap64 ((wrap64 (t185 * t179)) + (wrap64 (t186 * t180)))) != (wrap64 ((wrap64 (t182 * t179)) + (wrap64 (t183 * t180))))) = true := bne_iff_ne.mpr c58
                      by_cases c142 : x11_2 = true
                      · subst c142
                        have H1 : (if x12_2 = t176 then (joustlaw13_VecToward.l0 k2 a2 t176 (wrap64 ((wrap64 (t182 * t179)) + (wrap64 (t183 * t180)))) true (wrap64 (x12_2 + 1)) a0_0 a0_1 a1_0 a1_1 t179 t180) else (joustlaw13_VecToward.l0 k2 a2 t176 (wrap64 ((wrap64 (t182 * t179)) + (wrap64 (t183 * t180)))) (decide ((wrap64 ((wrap64 (t185 * t179)) + (wrap64 (t186 * t180)))) < (wrap64 ((wrap64 (t182 * t179)) + (wrap64 (t183 * t180)))))) (wrap64 (x12_2 + 1)) a0_0 a0_1 a1_0 a1_1 t179 t180)) = some r := by rw [if_pos rfl] at H; exact H
                        clear H
                        have H := H1
                        clear H1
                        by_cases c143 : x12_2 = t176
                        · rw [if_pos c143] at H
                          have c143b0 : (x12_2 == t176) = true := beq_iff_eq.mpr c143
                          have c143b1 : (x12_2 != t176) = false := bne_eq_false_iff_eq.mpr c143
                          clear c143
                          have H' := Aside0.mk H
                          clear H
                          go_wp2_with (first | ((with_reducible refine gate_callee (f := 10) rfl ?_); refine goesL_ (some 57) rfl rfl Tryd.func10 (by kernel_rfl) rfl #[.int .i64 x12_2] rfl (by (try simp only [List.map_toArray, List.map_cons, List.map_nil]); first | done | rfl | (simp only [List.length_drop, List.length_take]; rfl)) ?_; (with_reducible refine (vec_Unit.calls k2 x12_2 t185 t186 _ A45.out (by first | ((repeat (first | exact HG.out | apply Sines.drewN | apply Sines.drew)); done) | exact Sines.below HG.out (by repeat (first | (with_reducible first | exact HB.out | apply below_alloc | apply pw_below_drewN | apply below_drew1 | refine below_set ?_ GE173.out | refine below_set ?_ GE174.out | refine below_set ?_ GE181.out | refine below_set ?_ GE184.out) | exact HB.out)))).mono ?_); rintro e w144 ⟨rfl, hb⟩; refine ⟨_, rfl, ?_⟩; have n0_ := Aside0.mk (blk_below (g := gb173) (o := .cells #[.int .i64 a0_0, .int .i64 a0_1] 25 (0, 0)) (by (with_reducible repeat (first | refine blk_drewN ?_ _ | refine blk_drew ?_ | refine blk_alloc ?_ _)); exact BK173.out) hb); have n1_ := Aside0.mk (blk_below (g := gb174) (o := .cells #[.int .i64 a1_0, .int .i64 a1_1] 25 (0, 0)) (by (with_reducible repeat (first | refine blk_drewN ?_ _ | refine blk_drew ?_ | refine blk_alloc ?_ _)); exact BK174.out) hb); have n2_ := Aside0.mk (blk_below (g := gb181) (o := .cells #[.int .i64 t179, .int .i64 t180] 25 (0, 0)) (by (with_reducible repeat (first | refine blk_drewN ?_ _ | refine blk_drew ?_ | refine blk_alloc ?_ _)); exact BK181.out) hb); have n3_ := Aside0.mk (blk_below (g := gb184) (o := .cells #[.int .i64 t182, .int .i64 t183] 25 (0, 0)) (by (with_reducible repeat (first | refine blk_drewN ?_ _ | refine blk_drew ?_ | refine blk_alloc ?_ _)); exact BK184.out) hb); have n4_ := Aside0.mk (below_step (by repeat (first | (with_reducible first | exact HB.out | apply below_alloc | apply pw_below_drewN | apply below_drew1 | refine below_set ?_ GE173.out | refine below_set ?_ GE174.out | refine below_set ?_ GE181.out | refine below_set ?_ GE184.out) | exact HB.out)) hb); clear BK173; clear BK174; clear BK181; clear BK184; clear HB; have BK173 := n0_; have BK174 := n1_; have BK181 := n2_; have BK184 := n3_; have HB := n4_; clear n0_ n1_ n2_ n3_ n4_; (try clear hb); (try clear hb2); (try clear hk); (try clear hi)) | ((with_reducible refine gate_dst (N := 13) rfl ?_); refine box_event ?hg (N := 13) ?hd (cs := #[.int .i64 0, .int .i64 0]) (t := 25) ?hr ?_; (case hd => rfl); (case hg => rfl); (case hr => first | (go_simp; done) | (go_simp; rfl)); intro gb187 hg w145 hbox hb; have n0_ := Aside0.mk (blk_below (g := gb173) (o := .cells #[.int .i64 a0_0, .int .i64 a0_1] 25 (0, 0)) (by (with_reducible repeat (first | refine blk_drewN ?_ _ | refine blk_drew ?_ | refine blk_alloc ?_ _)); exact BK173.out) hb); have n1_ := Aside0.mk (blk_below (g := gb174) (o := .cells #[.int .i64 a1_0, .int .i64 a1_1] 25 (0, 0)) (by (with_reducible repeat (first | refine blk_drewN ?_ _ | refine blk_drew ?_ | refine blk_alloc ?_ _)); exact BK174.out) hb); have n2_ := Aside0.mk (blk_below (g := gb181) (o := .cells #[.int .i64 t179, .int .i64 t180] 25 (0, 0)) (by (with_reducible repeat (first | refine blk_drewN ?_ _ | refine blk_drew ?_ | refine blk_alloc ?_ _)); exact BK181.out) hb); have n3_ := Aside0.mk (blk_below (g := gb184) (o := .cells #[.int .i64 t182, .int .i64 t183] 25 (0, 0)) (by (with_reducible repeat (first | refine blk_drewN ?_ _ | refine blk_drew ?_ | refine blk_alloc ?_ _)); exact BK184.out) hb); have n4_ := Aside0.mk (below_step (by repeat (first | (with_reducible first | exact HB.out | apply below_alloc | apply pw_below_drewN | apply below_drew1 | refine below_set ?_ GE173.out | refine below_set ?_ GE174.out | refine below_set ?_ GE181.out | refine below_set ?_ GE184.out) | exact HB.out)) hb); have n5_ := Aside0.mk (hbox); have n6_ := Aside0.mk ((by rw [hg]; exact (below_size (by repeat (first | (with_reducible first | exact HB.out | apply below_alloc | apply pw_below_drewN | apply below_drew1 | refine below_set ?_ GE173.out | refine below_set ?_ GE174.out | refine below_set ?_ GE181.out | refine below_set ?_ GE184.out) | exact HB.out))) : w.heap.size ≤ gb187)); have n7_ := Aside0.mk ((by rw [hg]; exact (below_size (by repeat (first | (with_reducible first | exact HB.out | apply below_alloc | apply pw_below_drewN | apply below_drew1 | refine below_set ?_ GE173.out | refine below_set ?_ GE174.out | refine below_set ?_ GE181.out | refine below_set ?_ GE184.out) | exact HB.out))) : w.heap.size ≤ gb187)); have n8_ := Aside0.mk ((by rw [hg]; exact Nat.ne_of_lt (blk_lt (g := gb173) (o := .cells #[.int .i64 a0_0, .int .i64 a0_1] 25 (0, 0)) (by (with_reducible repeat (first | refine blk_drewN ?_ _ | refine blk_drew ?_ | refine blk_alloc ?_ _)); exact BK173.out)) : gb173 ≠ gb187)); have n9_ := Aside0.mk ((by rw [hg]; exact Nat.ne_of_gt (blk_lt (g := gb173) (o := .cells #[.int .i64 a0_0, .int .i64 a0_1] 25 (0, 0)) (by (with_reducible repeat (first | refine blk_drewN ?_ _ | refine blk_drew ?_ | refine blk_alloc ?_ _)); exact BK173.out)) : gb187 ≠ gb173)); have n10_ := Aside0.mk ((by rw [hg]; exact Nat.ne_of_lt (blk_lt (g := gb174) (o := .cells #[.int .i64 a1_0, .int .i64 a1_1] 25 (0, 0)) (by (with_reducible repeat (first | refine blk_drewN ?_ _ | refine blk_drew ?_ | refine blk_alloc ?_ _)); exact BK174.out)) : gb174 ≠ gb187)); have n11_ := Aside0.mk ((by rw [hg]; exact Nat.ne_of_gt (blk_lt (g := gb174) (o := .cells #[.int .i64 a1_0, .int .i64 a1_1] 25 (0, 0)) (by (with_reducible repeat (first | refine blk_drewN ?_ _ | refine blk_drew ?_ | refine blk_alloc ?_ _)); exact BK174.out)) : gb187 ≠ gb174)); have n12_ := Aside0.mk ((by rw [hg]; exact Nat.ne_of_lt (blk_lt (g := gb181) (o := .cells #[.int .i64 t179, .int .i64 t180] 25 (0, 0)) (by (with_reducible repeat (first | refine blk_drewN ?_ _ | refine blk_drew ?_ | refine blk_alloc ?_ _)); exact BK181.out)) : gb181 ≠ gb187)); have n13_ := Aside0.mk ((by rw [hg]; exact Nat.ne_of_gt (blk_lt (g := gb181) (o := .cells #[.int .i64 t179, .int .i64 t180] 25 (0, 0)) (by (with_reducible repeat (first | refine blk_drewN ?_ _ | refine blk_drew ?_ | refine blk_alloc ?_ _)); exact BK181.out)) : gb187 ≠ gb181)); have n14_ := Aside0.mk ((by rw [hg]; exact Nat.ne_of_lt (blk_lt (g := gb184) (o := .cells #[.int .i64 t182, .int .i64 t183] 25 (0, 0)) (by (with_reducible repeat (first | refine blk_drewN ?_ _ | refine blk_drew ?_ | refine blk_alloc ?_ _)); exact BK184.out)) : gb184 ≠ gb187)); have n15_ := Aside0.mk ((by rw [hg]; exact Nat.ne_of_gt (blk_lt (g := gb184) (o := .cells #[.int .i64 t182, .int .i64 t183] 25 (0, 0)) (by (with_reducible repeat (first | refine blk_drewN ?_ _ | refine blk_drew ?_ | refine blk_alloc ?_ _)); exact BK184.out)) : gb187 ≠ gb184)); clear BK173; clear BK174; clear BK181; clear BK184; clear HB; have BK173 := n0_; have BK174 := n1_; have BK181 := n2_; have BK184 := n3_; have HB := n4_; have BK187 := n5_; have GW187 := n6_; have GE187 := n7_; have NB173_187 := n8_; have NB187_173 := n9_; have NB174_187 := n10_; have NB187_174 := n11_; have NB181_187 := n12_; have NB187_181 := n13_; have NB184_187 := n14_; have NB187_184 := n15_; clear n0_ n1_ n2_ n3_ n4_ n5_ n6_ n7_ n8_ n9_ n10_ n11_ n12_ n13_ n14_ n15_; clear hb hbox hg; have hnb146 := NB187_173.out; have hnc146 := NB173_187.out; have hnb147 := NB187_174.out; have hnc147 := NB174_187.out; have hnb148 := NB187_181.out; have hnc148 := NB181_187.out; have hnb149 := NB187_184.out; have hnc149 := NB184_187.out; have hcz150_0 : w145.cell? ⟨gb187, 0, none⟩ = some (.int .i64 0) := (blk_cell BK187.out 0).trans rfl; have hcz150_1 : w145.cell? ⟨gb187, 1, none⟩ = some (.int .i64 0) := (blk_cell BK187.out 1).trans rfl; have hfz150_0 := blk_frozen BK187.out 0; have hfz150_1 := blk_frozen BK187.out 1; have hnb151 := NB181_173.out; have hnc151 := NB173_181.out; have hnb152 := NB181_174.out; have hnc152 := NB174_181.out; have hnb153 := NB181_184.out; have hnc153 := NB184_181.out; have hcz154_0 : w145.cell? ⟨gb181, 0, none⟩ = some (.int .i64 t179) := (blk_cell BK181.out 0).trans rfl; have hcz154_1 : w145.cell? ⟨gb181, 1, none⟩ = some (.int .i64 t180) := (blk_cell BK181.out 1).trans rfl; have hfz154_0 := blk_frozen BK181.out 0; have hfz154_1 := blk_frozen BK181.out 1))
                          go_roundg k2
                          case measure => have := HJ6.out; have := HK2.out; omega
                          case rel => exact ⟨(true), (wrap64 (x12_2 + 1)), (by first | rfl | (simp; done) | (simp [*]; done)), (by first | rfl | (simp; done) | (simp [*]; done)), H', ⟨by have := HJ6.out; have := HK2.out; omega⟩, ⟨by (with_reducible repeat (first | refine blk_drewN ?_ _ | refine blk_drew ?_ | refine blk_alloc ?_ _)); refine blk_far ?_ NB173_187.out _; (with_reducible repeat (first | refine blk_drewN ?_ _ | refine blk_drew ?_ | refine blk_alloc ?_ _)); refine blk_far ?_ NB173_187.out _; (with_reducible repeat (first | refine blk_drewN ?_ _ | refine blk_drew ?_ | refine blk_alloc ?_ _)); exact BK173.out⟩, ⟨by (with_reducible repeat (first | refine blk_drewN ?_ _ | refine blk_drew ?_ | refine blk_alloc ?_ _)); refine blk_far ?_ NB174_187.out _; (with_reducible repeat (first | refine blk_drewN ?_ _ | refine blk_drew ?_ | refine blk_alloc ?_ _)); refine blk_far ?_ NB174_187.out _; (with_reducible repeat (first | refine blk_drewN ?_ _ | refine blk_drew ?_ | refine blk_alloc ?_ _)); exact BK174.out⟩, ⟨by (with_reducible repeat (first | refine blk_drewN ?_ _ | refine blk_drew ?_ | refine blk_alloc ?_ _)); refine blk_far ?_ NB181_187.out _; (with_reducible repeat (first | refine blk_drewN ?_ _ | refine blk_drew ?_ | refine blk_alloc ?_ _)); refine blk_far ?_ NB181_187.out _; (with_reducible repeat (first | refine blk_drewN ?_ _ | refine blk_drew ?_ | refine blk_alloc ?_ _)); exact BK181.out⟩, ⟨by (with_reducible repeat (first | refine blk_drewN ?_ _ | refine blk_drew ?_ | refine blk_alloc ?_ _)); refine blk_far ?_ NB184_187.out _; (with_reducible repeat (first | refine blk_drewN ?_ _ | refine blk_drew ?_ | refine blk_alloc ?_ _)); refine blk_far ?_ NB184_187.out _; (with_reducible repeat (first | refine blk_drewN ?_ _ | refine blk_drew ?_ | refine blk_alloc ?_ _)); exact BK184.out⟩, ⟨by repeat (first | (with_reducible first | exact HB.out | apply below_alloc | apply pw_below_drewN | apply below_drew1 | refine below_set ?_ GE173.out | refine below_set ?_ GE174.out | refine below_set ?_ GE181.out | refine below_set ?_ GE184.out | refine below_set ?_ GE187.out) | exact HB.out)⟩⟩
                        · rw [if_neg c143] at H
                          have c143b0 : (x12_2 == t176) = false := beq_eq_false_iff_ne.mpr c143
                          have c143b1 : (x12_2 != t176) = true := bne_iff_ne.mpr c143
                          have H' := Aside0.mk H
                          clear H
                          go_wp2_with (first | ((with_reducible refine gate_callee (f := 10) rfl ?_); refine goesL_ (some 57) rfl rfl Tryd.func10 (by kernel_rfl) rfl #[.int .i64 x12_2] rfl (by (try simp only [List.map_toArray, List.map_cons, List.map_nil]); first | done | rfl | (simp only [List.length_drop, List.length_take]; rfl)) ?_; (with_reducible refine (vec_Unit.calls k2 x12_2 t185 t186 _ A45.out (by first | ((repeat (first | exact HG.out | apply Sines.drewN | apply Sines.drew)); done) | exact Sines.below HG.out (by repeat (first | (with_reducible first | exact HB.out | apply below_alloc | apply pw_below_drewN | apply below_drew1 | refine below_set ?_ GE173.out | refine below_set ?_ GE174.out | refine below_set ?_ GE181.out | refine below_set ?_ GE184.out) | exact HB.out)))).mono ?_); rintro e w155 ⟨rfl, hb⟩; refine ⟨_, rfl, ?_⟩; have n0_ := Aside0.mk (blk_below (g := gb173) (o := .cells #[.int .i64 a0_0, .int .i64 a0_1] 25 (0, 0)) (by (with_reducible repeat (first | refine blk_drewN ?_ _ | refine blk_drew ?_ | refine blk_alloc ?_ _)); exact BK173.out) hb); have n1_ := Aside0.mk (blk_below (g := gb174) (o := .cells #[.int .i64 a1_0, .int .i64 a1_1] 25 (0, 0)) (by (with_reducible repeat (first | refine blk_drewN ?_ _ | refine blk_drew ?_ | refine blk_alloc ?_ _)); exact BK174.out) hb); have n2_ := Aside0.mk (blk_below (g := gb181) (o := .cells #[.int .i64 t179, .int .i64 t180] 25 (0, 0)) (by (with_reducible repeat (first | refine blk_drewN ?_ _ | refine blk_drew ?_ | refine blk_alloc ?_ _)); exact BK181.out) hb); have n3_ := Aside0.mk (blk_below (g := gb184) (o := .cells #[.int .i64 t182, .int .i64 t183] 25 (0, 0)) (by (with_reducible repeat (first | refine blk_drewN ?_ _ | refine blk_drew ?_ | refine blk_alloc ?_ _)); exact BK184.out) hb); have n4_ := Aside0.mk (below_step (by repeat (first | (with_reducible first | exact HB.out | apply below_alloc | apply pw_below_drewN | apply below_drew1 | refine below_set ?_ GE173.out | refine below_set ?_ GE174.out | refine below_set ?_ GE181.out | refine below_set ?_ GE184.out) | exact HB.out)) hb); clear BK173; clear BK174; clear BK181; clear BK184; clear HB; have BK173 := n0_; have BK174 := n1_; have BK181 := n2_; have BK184 := n3_; have HB := n4_; clear n0_ n1_ n2_ n3_ n4_; (try clear hb); (try clear hb2); (try clear hk); (try clear hi)) | ((with_reducible refine gate_dst (N := 13) rfl ?_); refine box_event ?hg (N := 13) ?hd (cs := #[.int .i64 0, .int .i64 0]) (t := 25) ?hr ?_; (case hd => rfl); (case hg => rfl); (case hr => first | (go_simp; done) | (go_simp; rfl)); intro gb187 hg w156 hbox hb; have n0_ := Aside0.mk (blk_below (g := gb173) (o := .cells #[.int .i64 a0_0, .int .i64 a0_1] 25 (0, 0)) (by (with_reducible repeat (first | refine blk_drewN ?_ _ | refine blk_drew ?_ | refine blk_alloc ?_ _)); exact BK173.out) hb); have n1_ := Aside0.mk (blk_below (g := gb174) (o := .cells #[.int .i64 a1_0, .int .i64 a1_1] 25 (0, 0)) (by (with_reducible repeat (first | refine blk_drewN ?_ _ | refine blk_drew ?_ | refine blk_alloc ?_ _)); exact BK174.out) hb); have n2_ := Aside0.mk (blk_below (g := gb181) (o := .cells #[.int .i64 t179, .int .i64 t180] 25 (0, 0)) (by (with_reducible repeat (first | refine blk_drewN ?_ _ | refine blk_drew ?_ | refine blk_alloc ?_ _)); exact BK181.out) hb); have n3_ := Aside0.mk (blk_below (g := gb184) (o := .cells #[.int .i64 t182, .int .i64 t183] 25 (0, 0)) (by (with_reducible repeat (first | refine blk_drewN ?_ _ | refine blk_drew ?_ | refine blk_alloc ?_ _)); exact BK184.out) hb); have n4_ := Aside0.mk (below_step (by repeat (first | (with_reducible first | exact HB.out | apply below_alloc | apply pw_below_drewN | apply below_drew1 | refine below_set ?_ GE173.out | refine below_set ?_ GE174.out | refine below_set ?_ GE181.out | refine below_set ?_ GE184.out) | exact HB.out)) hb); have n5_ := Aside0.mk (hbox); have n6_ := Aside0.mk ((by rw [hg]; exact (below_size (by repeat (first | (with_reducible first | exact HB.out | apply below_alloc | apply pw_below_drewN | apply below_drew1 | refine below_set ?_ GE173.out | refine below_set ?_ GE174.out | refine below_set ?_ GE181.out | refine below_set ?_ GE184.out) | exact HB.out))) : w.heap.size ≤ gb187)); have n7_ := Aside0.mk ((by rw [hg]; exact (below_size (by repeat (first | (with_reducible first | exact HB.out | apply below_alloc | apply pw_below_drewN | apply below_drew1 | refine below_set ?_ GE173.out | refine below_set ?_ GE174.out | refine below_set ?_ GE181.out | refine below_set ?_ GE184.out) | exact HB.out))) : w.heap.size ≤ gb187)); have n8_ := Aside0.mk ((by rw [hg]; exact Nat.ne_of_lt (blk_lt (g := gb173) (o := .cells #[.int .i64 a0_0, .int .i64 a0_1] 25 (0, 0)) (by (with_reducible repeat (first | refine blk_drewN ?_ _ | refine blk_drew ?_ | refine blk_alloc ?_ _)); exact BK173.out)) : gb173 ≠ gb187)); have n9_ := Aside0.mk ((by rw [hg]; exact Nat.ne_of_gt (blk_lt (g := gb173) (o := .cells #[.int .i64 a0_0, .int .i64 a0_1] 25 (0, 0)) (by (with_reducible repeat (first | refine blk_drewN ?_ _ | refine blk_drew ?_ | refine blk_alloc ?_ _)); exact BK173.out)) : gb187 ≠ gb173)); have n10_ := Aside0.mk ((by rw [hg]; exact Nat.ne_of_lt (blk_lt (g := gb174) (o := .cells #[.int .i64 a1_0, .int .i64 a1_1] 25 (0, 0)) (by (with_reducible repeat (first | refine blk_drewN ?_ _ | refine blk_drew ?_ | refine blk_alloc ?_ _)); exact BK174.out)) : gb174 ≠ gb187)); have n11_ := Aside0.mk ((by rw [hg]; exact Nat.ne_of_gt (blk_lt (g := gb174) (o := .cells #[.int .i64 a1_0, .int .i64 a1_1] 25 (0, 0)) (by (with_reducible repeat (first | refine blk_drewN ?_ _ | refine blk_drew ?_ | refine blk_alloc ?_ _)); exact BK174.out)) : gb187 ≠ gb174)); have n12_ := Aside0.mk ((by rw [hg]; exact Nat.ne_of_lt (blk_lt (g := gb181) (o := .cells #[.int .i64 t179, .int .i64 t180] 25 (0, 0)) (by (with_reducible repeat (first | refine blk_drewN ?_ _ | refine blk_drew ?_ | refine blk_alloc ?_ _)); exact BK181.out)) : gb181 ≠ gb187)); have n13_ := Aside0.mk ((by rw [hg]; exact Nat.ne_of_gt (blk_lt (g := gb181) (o := .cells #[.int .i64 t179, .int .i64 t180] 25 (0, 0)) (by (with_reducible repeat (first | refine blk_drewN ?_ _ | refine blk_drew ?_ | refine blk_alloc ?_ _)); exact BK181.out)) : gb187 ≠ gb181)); have n14_ := Aside0.mk ((by rw [hg]; exact Nat.ne_of_lt (blk_lt (g := gb184) (o := .cells #[.int .i64 t182, .int .i64 t183] 25 (0, 0)) (by (with_reducible repeat (first | refine blk_drewN ?_ _ | refine blk_drew ?_ | refine blk_alloc ?_ _)); exact BK184.out)) : gb184 ≠ gb187)); have n15_ := Aside0.mk ((by rw [hg]; exact Nat.ne_of_gt (blk_lt (g := gb184) (o := .cells #[.int .i64 t182, .int .i64 t183] 25 (0, 0)) (by (with_reducible repeat (first | refine blk_drewN ?_ _ | refine blk_drew ?_ | refine blk_alloc ?_ _)); exact BK184.out)) : gb187 ≠ gb184)); clear BK173; clear BK174; clear BK181; clear BK184; clear HB; have BK173 := n0_; have BK174 := n1_; have BK181 := n2_; have BK184 := n3_; have HB := n4_; have BK187 := n5_; have GW187 := n6_; have GE187 := n7_; have NB173_187 := n8_; have NB187_173 := n9_; have NB174_187 := n10_; have NB187_174 := n11_; have NB181_187 := n12_; have NB187_181 := n13_; have NB184_187 := n14_; have NB187_184 := n15_; clear n0_ n1_ n2_ n3_ n4_ n5_ n6_ n7_ n8_ n9_ n10_ n11_ n12_ n13_ n14_ n15_; clear hb hbox hg; have hnb157 := NB187_173.out; have hnc157 := NB173_187.out; have hnb158 := NB187_174.out; have hnc158 := NB174_187.out; have hnb159 := NB187_181.out; have hnc159 := NB181_187.out; have hnb160 := NB187_184.out; have hnc160 := NB184_187.out; have hcz161_0 : w156.cell? ⟨gb187, 0, none⟩ = some (.int .i64 0) := (blk_cell BK187.out 0).trans rfl; have hcz161_1 : w156.cell? ⟨gb187, 1, none⟩ = some (.int .i64 0) := (blk_cell BK187.out 1).trans rfl; have hfz161_0 := blk_frozen BK187.out 0; have hfz161_1 := blk_frozen BK187.out 1; have hnb162 := NB181_173.out; have hnc162 := NB173_181.out; have hnb163 := NB181_174.out; have hnc163 := NB174_181.out; have hnb164 := NB181_184.out; have hnc164 := NB184_181.out; have hcz165_0 : w156.cell? ⟨gb181, 0, none⟩ = some (.int .i64 t179) := (blk_cell BK181.out 0).trans rfl; have hcz165_1 : w156.cell? ⟨gb181, 1, none⟩ = some (.int .i64 t180) := (blk_cell BK181.out 1).trans rfl; have hfz165_0 := blk_frozen BK181.out 0; have hfz165_1 := blk_frozen BK181.out 1))
                          go_roundg k2
                          case measure => have := HJ6.out; have := HK2.out; omega
                          case rel => exact ⟨(decide ((wrap64 ((wrap64 (t185 * t179)) + (wrap64 (t186 * t180)))) < (wrap64 ((wrap64 (t182 * t179)) + (wrap64 (t183 * t180)))))), (wrap64 (x12_2 + 1)), (by first | rfl | (simp; done) | (simp [*]; done)), (by first | rfl | (simp; done) | (simp [*]; done)), H', ⟨by have := HJ6.out; have := HK2.out; omega⟩, ⟨by (with_reducible repeat (first | refine blk_drewN ?_ _ | refine blk_drew ?_ | refine blk_alloc ?_ _)); refine blk_far ?_ NB173_187.out _; (with_reducible repeat (first | refine blk_drewN ?_ _ | refine blk_drew ?_ | refine blk_alloc ?_ _)); refine blk_far ?_ NB173_187.out _; (with_reducible repeat (first | refine blk_drewN ?_ _ | refine blk_drew ?_ | refine blk_alloc ?_ _)); exact BK173.out⟩, ⟨by (with_reducible repeat (first | refine blk_drewN ?_ _ | refine blk_drew ?_ | refine blk_alloc ?_ _)); refine blk_far ?_ NB174_187.out _; (with_reducible repeat (first | refine blk_drewN ?_ _ | refine blk_drew ?_ | refine blk_alloc ?_ _)); refine blk_far ?_ NB174_187.out _; (with_reducible repeat (first | refine blk_drewN ?_ _ | refine blk_drew ?_ | refine blk_alloc ?_ _)); exact BK174.out⟩, ⟨by (with_reducible repeat (first | refine blk_drewN ?_ _ | refine blk_drew ?_ | refine blk_alloc ?_ _)); refine blk_far ?_ NB181_187.out _; (with_reducible repeat (first | refine blk_drewN ?_ _ | refine blk_drew ?_ | refine blk_alloc ?_ _)); refine blk_far ?_ NB181_187.out _; (with_reducible repeat (first | refine blk_drewN ?_ _ | refine blk_drew ?_ | refine blk_alloc ?_ _)); exact BK181.out⟩, ⟨by (with_reducible repeat (first | refine blk_drewN ?_ _ | refine blk_drew ?_ | refine blk_alloc ?_ _)); refine blk_far ?_ NB184_187.out _; (with_reducible repeat (first | refine blk_drewN ?_ _ | refine blk_drew ?_ | refine blk_alloc ?_ _)); refine blk_far ?_ NB184_187.out _; (with_reducible repeat (first | refine blk_drewN ?_ _ | refine blk_drew ?_ | refine blk_alloc ?_ _)); exact BK184.out⟩, ⟨by repeat (first | (with_reducible first | exact HB.out | apply below_alloc | apply pw_below_drewN | apply below_drew1 | refine below_set ?_ GE173.out | refine below_set ?_ GE174.out | refine below_set ?_ GE181.out | refine below_set ?_ GE184.out | refine below_set ?_ GE187.out) | exact HB.out)⟩⟩
                      · replace c142 := Bool.eq_false_iff.mpr c142
                        subst c142
                        have H1 : (joustlaw13_VecToward.l0 k2 a2 t176 (wrap64 ((wrap64 (t182 * t179)) + (wrap64 (t183 * t180)))) false (wrap64 (x12_2 + 1)) a0_0 a0_1 a1_0 a1_1 t179 t180) = some r := by rw [if_neg (show ¬ (false = true) by decide)] at H; exact H
                        clear H
                        have H := H1
                        clear H1
                        have H' := Aside0.mk H
                        clear H
                        go_wp2_with (first | ((with_reducible refine gate_callee (f := 10) rfl ?_); refine goesL_ (some 57) rfl rfl Tryd.func10 (by kernel_rfl) rfl #[.int .i64 x12_2] rfl (by (try simp only [List.map_toArray, List.map_cons, List.map_nil]); first | done | rfl | (simp only [List.length_drop, List.length_take]; rfl)) ?_; (with_reducible refine (vec_Unit.calls k2 x12_2 t185 t186 _ A45.out (by first | ((repeat (first | exact HG.out | apply Sines.drewN | apply Sines.drew)); done) | exact Sines.below HG.out (by repeat (first | (with_reducible first | exact HB.out | apply below_alloc | apply pw_below_drewN | apply below_drew1 | refine below_set ?_ GE173.out | refine below_set ?_ GE174.out | refine below_set ?_ GE181.out | refine below_set ?_ GE184.out) | exact HB.out)))).mono ?_); rintro e w166 ⟨rfl, hb⟩; refine ⟨_, rfl, ?_⟩; have n0_ := Aside0.mk (blk_below (g := gb173) (o := .cells #[.int .i64 a0_0, .int .i64 a0_1] 25 (0, 0)) (by (with_reducible repeat (first | refine blk_drewN ?_ _ | refine blk_drew ?_ | refine blk_alloc ?_ _)); exact BK173.out) hb); have n1_ := Aside0.mk (blk_below (g := gb174) (o := .cells #[.int .i64 a1_0, .int .i64 a1_1] 25 (0, 0)) (by (with_reducible repeat (first | refine blk_drewN ?_ _ | refine blk_drew ?_ | refine blk_alloc ?_ _)); exact BK174.out) hb); have n2_ := Aside0.mk (blk_below (g := gb181) (o := .cells #[.int .i64 t179, .int .i64 t180] 25 (0, 0)) (by (with_reducible repeat (first | refine blk_drewN ?_ _ | refine blk_drew ?_ | refine blk_alloc ?_ _)); exact BK181.out) hb); have n3_ := Aside0.mk (blk_below (g := gb184) (o := .cells #[.int .i64 t182, .int .i64 t183] 25 (0, 0)) (by (with_reducible repeat (first | refine blk_drewN ?_ _ | refine blk_drew ?_ | refine blk_alloc ?_ _)); exact BK184.out) hb); have n4_ := Aside0.mk (below_step (by repeat (first | (with_reducible first | exact HB.out | apply below_alloc | apply pw_below_drewN | apply below_drew1 | refine below_set ?_ GE173.out | refine below_set ?_ GE174.out | refine below_set ?_ GE181.out | refine below_set ?_ GE184.out) | exact HB.out)) hb); clear BK173; clear BK174; clear BK181; clear BK184; clear HB; have BK173 := n0_; have BK174 := n1_; have BK181 := n2_; have BK184 := n3_; have HB := n4_; clear n0_ n1_ n2_ n3_ n4_; (try clear hb); (try clear hb2); (try clear hk); (try clear hi)) | ((with_reducible refine gate_dst (N := 13) rfl ?_); refine box_event ?hg (N := 13) ?hd (cs := #[.int .i64 0, .int .i64 0]) (t := 25) ?hr ?_; (case hd => rfl); (case hg => rfl); (case hr => first | (go_simp; done) | (go_simp; rfl)); intro gb187 hg w167 hbox hb; have n0_ := Aside0.mk (blk_below (g := gb173) (o := .cells #[.int .i64 a0_0, .int .i64 a0_1] 25 (0, 0)) (by (with_reducible repeat (first | refine blk_drewN ?_ _ | refine blk_drew ?_ | refine blk_alloc ?_ _)); exact BK173.out) hb); have n1_ := Aside0.mk (blk_below (g := gb174) (o := .cells #[.int .i64 a1_0, .int .i64 a1_1] 25 (0, 0)) (by (with_reducible repeat (first | refine blk_drewN ?_ _ | refine blk_drew ?_ | refine blk_alloc ?_ _)); exact BK174.out) hb); have n2_ := Aside0.mk (blk_below (g := gb181) (o := .cells #[.int .i64 t179, .int .i64 t180] 25 (0, 0)) (by (with_reducible repeat (first | refine blk_drewN ?_ _ | refine blk_drew ?_ | refine blk_alloc ?_ _)); exact BK181.out) hb); have n3_ := Aside0.mk (blk_below (g := gb184) (o := .cells #[.int .i64 t182, .int .i64 t183] 25 (0, 0)) (by (with_reducible repeat (first | refine blk_drewN ?_ _ | refine blk_drew ?_ | refine blk_alloc ?_ _)); exact BK184.out) hb); have n4_ := Aside0.mk (below_step (by repeat (first | (with_reducible first | exact HB.out | apply below_alloc | apply pw_below_drewN | apply below_drew1 | refine below_set ?_ GE173.out | refine below_set ?_ GE174.out | refine below_set ?_ GE181.out | refine below_set ?_ GE184.out) | exact HB.out)) hb); have n5_ := Aside0.mk (hbox); have n6_ := Aside0.mk ((by rw [hg]; exact (below_size (by repeat (first | (with_reducible first | exact HB.out | apply below_alloc | apply pw_below_drewN | apply below_drew1 | refine below_set ?_ GE173.out | refine below_set ?_ GE174.out | refine below_set ?_ GE181.out | refine below_set ?_ GE184.out) | exact HB.out))) : w.heap.size ≤ gb187)); have n7_ := Aside0.mk ((by rw [hg]; exact (below_size (by repeat (first | (with_reducible first | exact HB.out | apply below_alloc | apply pw_below_drewN | apply below_drew1 | refine below_set ?_ GE173.out | refine below_set ?_ GE174.out | refine below_set ?_ GE181.out | refine below_set ?_ GE184.out) | exact HB.out))) : w.heap.size ≤ gb187)); have n8_ := Aside0.mk ((by rw [hg]; exact Nat.ne_of_lt (blk_lt (g := gb173) (o := .cells #[.int .i64 a0_0, .int .i64 a0_1] 25 (0, 0)) (by (with_reducible repeat (first | refine blk_drewN ?_ _ | refine blk_drew ?_ | refine blk_alloc ?_ _)); exact BK173.out)) : gb173 ≠ gb187)); have n9_ := Aside0.mk ((by rw [hg]; exact Nat.ne_of_gt (blk_lt (g := gb173) (o := .cells #[.int .i64 a0_0, .int .i64 a0_1] 25 (0, 0)) (by (with_reducible repeat (first | refine blk_drewN ?_ _ | refine blk_drew ?_ | refine blk_alloc ?_ _)); exact BK173.out)) : gb187 ≠ gb173)); have n10_ := Aside0.mk ((by rw [hg]; exact Nat.ne_of_lt (blk_lt (g := gb174) (o := .cells #[.int .i64 a1_0, .int .i64 a1_1] 25 (0, 0)) (by (with_reducible repeat (first | refine blk_drewN ?_ _ | refine blk_drew ?_ | refine blk_alloc ?_ _)); exact BK174.out)) : gb174 ≠ gb187)); have n11_ := Aside0.mk ((by rw [hg]; exact Nat.ne_of_gt (blk_lt (g := gb174) (o := .cells #[.int .i64 a1_0, .int .i64 a1_1] 25 (0, 0)) (by (with_reducible repeat (first | refine blk_drewN ?_ _ | refine blk_drew ?_ | refine blk_alloc ?_ _)); exact BK174.out)) : gb187 ≠ gb174)); have n12_ := Aside0.mk ((by rw [hg]; exact Nat.ne_of_lt (blk_lt (g := gb181) (o := .cells #[.int .i64 t179, .int .i64 t180] 25 (0, 0)) (by (with_reducible repeat (first | refine blk_drewN ?_ _ | refine blk_drew ?_ | refine blk_alloc ?_ _)); exact BK181.out)) : gb181 ≠ gb187)); have n13_ := Aside0.mk ((by rw [hg]; exact Nat.ne_of_gt (blk_lt (g := gb181) (o := .cells #[.int .i64 t179, .int .i64 t180] 25 (0, 0)) (by (with_reducible repeat (first | refine blk_drewN ?_ _ | refine blk_drew ?_ | refine blk_alloc ?_ _)); exact BK181.out)) : gb187 ≠ gb181)); have n14_ := Aside0.mk ((by rw [hg]; exact Nat.ne_of_lt (blk_lt (g := gb184) (o := .cells #[.int .i64 t182, .int .i64 t183] 25 (0, 0)) (by (with_reducible repeat (first | refine blk_drewN ?_ _ | refine blk_drew ?_ | refine blk_alloc ?_ _)); exact BK184.out)) : gb184 ≠ gb187)); have n15_ := Aside0.mk ((by rw [hg]; exact Nat.ne_of_gt (blk_lt (g := gb184) (o := .cells #[.int .i64 t182, .int .i64 t183] 25 (0, 0)) (by (with_reducible repeat (first | refine blk_drewN ?_ _ | refine blk_drew ?_ | refine blk_alloc ?_ _)); exact BK184.out)) : gb187 ≠ gb184)); clear BK173; clear BK174; clear BK181; clear BK184; clear HB; have BK173 := n0_; have BK174 := n1_; have BK181 := n2_; have BK184 := n3_; have HB := n4_; have BK187 := n5_; have GW187 := n6_; have GE187 := n7_; have NB173_187 := n8_; have NB187_173 := n9_; have NB174_187 := n10_; have NB187_174 := n11_; have NB181_187 := n12_; have NB187_181 := n13_; have NB184_187 := n14_; have NB187_184 := n15_; clear n0_ n1_ n2_ n3_ n4_ n5_ n6_ n7_ n8_ n9_ n10_ n11_ n12_ n13_ n14_ n15_; clear hb hbox hg; have hnb168 := NB187_173.out; have hnc168 := NB173_187.out; have hnb169 := NB187_174.out; have hnc169 := NB174_187.out; have hnb170 := NB187_181.out; have hnc170 := NB181_187.out; have hnb171 := NB187_184.out; have hnc171 := NB184_187.out; have hcz172_0 : w167.cell? ⟨gb187, 0, none⟩ = some (.int .i64 0) := (blk_cell BK187.out 0).trans rfl; have hcz172_1 : w167.cell? ⟨gb187, 1, none⟩ = some (.int .i64 0) := (blk_cell BK187.out 1).trans rfl; have hfz172_0 := blk_frozen BK187.out 0; have hfz172_1 := blk_frozen BK187.out 1; have hnb173 := NB181_173.out; have hnc173 := NB173_181.out; have hnb174 := NB181_174.out; have hnc174 := NB174_181.out; have hnb175 := NB181_184.out; have hnc175 := NB184_181.out; have hcz176_0 : w167.cell? ⟨gb181, 0, none⟩ = some (.int .i64 t179) := (blk_cell BK181.out 0).trans rfl; have hcz176_1 : w167.cell? ⟨gb181, 1, none⟩ = some (.int .i64 t180) := (blk_cell BK181.out 1).trans rfl; have hfz176_0 := blk_frozen BK181.out 0; have hfz176_1 := blk_frozen BK181.out 1))
                        go_roundg k2
                        case measure => have := HJ6.out; have := HK2.out; omega
                        case rel => exact ⟨(false), (wrap64 (x12_2 + 1)), (by first | rfl | (simp; done) | (simp [*]; done)), (by first | rfl | (simp; done) | (simp [*]; done)), H', ⟨by have := HJ6.out; have := HK2.out; omega⟩, ⟨by (with_reducible repeat (first | refine blk_drewN ?_ _ | refine blk_drew ?_ | refine blk_alloc ?_ _)); refine blk_far ?_ NB173_187.out _; (with_reducible repeat (first | refine blk_drewN ?_ _ | refine blk_drew ?_ | refine blk_alloc ?_ _)); refine blk_far ?_ NB173_187.out _; (with_reducible repeat (first | refine blk_drewN ?_ _ | refine blk_drew ?_ | refine blk_alloc ?_ _)); exact BK173.out⟩, ⟨by (with_reducible repeat (first | refine blk_drewN ?_ _ | refine blk_drew ?_ | refine blk_alloc ?_ _)); refine blk_far ?_ NB174_187.out _; (with_reducible repeat (first | refine blk_drewN ?_ _ | refine blk_drew ?_ | refine blk_alloc ?_ _)); refine blk_far ?_ NB174_187.out _; (with_reducible repeat (first | refine blk_drewN ?_ _ | refine blk_drew ?_ | refine blk_alloc ?_ _)); exact BK174.out⟩, ⟨by (with_reducible repeat (first | refine blk_drewN ?_ _ | refine blk_drew ?_ | refine blk_alloc ?_ _)); refine blk_far ?_ NB181_187.out _; (with_reducible repeat (first | refine blk_drewN ?_ _ | refine blk_drew ?_ | refine blk_alloc ?_ _)); refine blk_far ?_ NB181_187.out _; (with_reducible repeat (first | refine blk_drewN ?_ _ | refine blk_drew ?_ | refine blk_alloc ?_ _)); exact BK181.out⟩, ⟨by (with_reducible repeat (first | refine blk_drewN ?_ _ | refine blk_drew ?_ | refine blk_alloc ?_ _)); refine blk_far ?_ NB184_187.out _; (with_reducible repeat (first | refine blk_drewN ?_ _ | refine blk_drew ?_ | refine blk_alloc ?_ _)); refine blk_far ?_ NB184_187.out _; (with_reducible repeat (first | refine blk_drewN ?_ _ | refine blk_drew ?_ | refine blk_alloc ?_ _)); exact BK184.out⟩, ⟨by repeat (first | (with_reducible first | exact HB.out | apply below_alloc | apply pw_below_drewN | apply below_drew1 | refine below_set ?_ GE173.out | refine below_set ?_ GE174.out | refine below_set ?_ GE181.out | refine below_set ?_ GE184.out | refine below_set ?_ GE187.out) | exact HB.out)⟩⟩
                · rw [if_neg c44] at H
                  have c44b0 : decide (x12_2 < 256) = false := decide_eq_false c44
                  clear c44
                  have HC177 := Aside0.mk H
                  clear H
                  go_upto_region 20 with (fail)
                  go_cut [106] (fun v106 wc => ∃ (kq : Nat) (x106_176 : Bool), v106 = .bool x106_176 ∧ Aside0 (joustlaw13_VecToward.j2 kq a2 x106_176 a0_0 a0_1 = some r) ∧ Aside0 (kq ≤ k2) ∧ Aside0 (wc.heap[gb173]? = some (.cells #[.int .i64 a0_0, .int .i64 a0_1] 25 (0, 0))) ∧ Aside0 (wc.heap[gb174]? = some (.cells #[.int .i64 a1_0, .int .i64 a1_1] 25 (0, 0))) ∧ Aside0 (wc.heap[gb181]? = some (.cells #[.int .i64 t179, .int .i64 t180] 25 (0, 0))) ∧ Aside0 (wc.heap[gb184]? = some (.cells #[.int .i64 t182, .int .i64 t183] 25 (0, 0))) ∧ Aside0 (Below w.heap.size w wc))
                  case first =>
                    have H := HC177.out
                    clear HC177
                    by_cases c178 : x11_2 = true
                    · subst c178
                      have H1 : ((vec_Toward.f k2 a1_0 a1_1 a0_0 a0_1).bind fun t188 => ((vec_Turn.f t176 128).bind fun t189 => (joustlaw13_VecToward.j2 k2 a2 (t188 != t189) a0_0 a0_1))) = some r := by rw [if_pos rfl] at H; exact H
                      clear H
                      have H := H1
                      clear H1
                      replace H := Option.bind_eq_some_iff.mp H
                      obtain ⟨t188, A1790, H⟩ := H
                      replace H : ((vec_Turn.f t176 128).bind fun t189 => (joustlaw13_VecToward.j2 k2 a2 (t188 != t189) a0_0 a0_1)) = some r := H
                      have A179 := Aside0.mk A1790
                      clear A1790
                      replace H := Option.bind_eq_some_iff.mp H
                      obtain ⟨t189, A1800, H⟩ := H
                      replace H : (joustlaw13_VecToward.j2 k2 a2 (t188 != t189) a0_0 a0_1) = some r := H
                      have A180 := Aside0.mk A1800
                      clear A1800
                      have H' := Aside0.mk H
                      clear H
                      have hnb181 := NB174_173.out
                      have hnc181 := NB173_174.out
                      have hnb182 := NB174_181.out
                      have hnc182 := NB181_174.out
                      have hnb183 := NB174_184.out
                      have hnc183 := NB184_174.out
                      have hcz184_0 : wr.cell? ⟨gb174, 0, none⟩ = some (.int .i64 a1_0) := (blk_cell BK174.out 0).trans rfl
                      have hcz184_1 : wr.cell? ⟨gb174, 1, none⟩ = some (.int .i64 a1_1) := (blk_cell BK174.out 1).trans rfl
                      have hfz184_0 := blk_frozen BK174.out 0
                      have hfz184_1 := blk_frozen BK174.out 1
                      have hnb185 := NB173_181.out
                      have hnc185 := NB181_173.out
                      have hnb186 := NB173_184.out
                      have hnc186 := NB184_173.out
                      have hcz187_0 : wr.cell? ⟨gb173, 0, none⟩ = some (.int .i64 a0_0) := (blk_cell BK173.out 0).trans rfl
                      have hcz187_1 : wr.cell? ⟨gb173, 1, none⟩ = some (.int .i64 a0_1) := (blk_cell BK173.out 1).trans rfl
                      have hfz187_0 := blk_frozen BK173.out 0
                      have hfz187_1 := blk_frozen BK173.out 1
                      go_wp2_with (first | (go_at_call 12; (with_reducible refine (vec_Toward.calls k2 a1_0 a1_1 a0_0 a0_1 t188 _ A179.out (by first | ((repeat (first | exact HG.out | apply Sines.drewN | apply Sines.drew)); done) | exact Sines.below HG.out (by repeat (first | (with_reducible first | exact HB.out | apply below_alloc | apply pw_below_drewN | apply below_drew1 | refine below_set ?_ GE173.out | refine below_set ?_ GE174.out | refine below_set ?_ GE181.out | refine below_set ?_ GE184.out) | exact HB.out)))).mono ?_); rintro e w188 ⟨rfl, hb⟩; have n0_ := Aside0.mk (blk_below (g := gb173) (o := .cells #[.int .i64 a0_0, .int .i64 a0_1] 25 (0, 0)) (by (with_reducible repeat (first | refine blk_drewN ?_ _ | refine blk_drew ?_ | refine blk_alloc ?_ _)); exact BK173.out) hb); have n1_ := Aside0.mk (blk_below (g := gb174) (o := .cells #[.int .i64 a1_0, .int .i64 a1_1] 25 (0, 0)) (by (with_reducible repeat (first | refine blk_drewN ?_ _ | refine blk_drew ?_ | refine blk_alloc ?_ _)); exact BK174.out) hb); have n2_ := Aside0.mk (blk_below (g := gb181) (o := .cells #[.int .i64 t179, .int .i64 t180] 25 (0, 0)) (by (with_reducible repeat (first | refine blk_drewN ?_ _ | refine blk_drew ?_ | refine blk_alloc ?_ _)); exact BK181.out) hb); have n3_ := Aside0.mk (blk_below (g := gb184) (o := .cells #[.int .i64 t182, .int .i64 t183] 25 (0, 0)) (by (with_reducible repeat (first | refine blk_drewN ?_ _ | refine blk_drew ?_ | refine blk_alloc ?_ _)); exact BK184.out) hb); have n4_ := Aside0.mk (below_step (by repeat (first | (with_reducible first | exact HB.out | apply below_alloc | apply pw_below_drewN | apply below_drew1 | refine below_set ?_ GE173.out | refine below_set ?_ GE174.out | refine below_set ?_ GE181.out | refine below_set ?_ GE184.out) | exact HB.out)) hb); clear BK173; clear BK174; clear BK181; clear BK184; clear HB; have BK173 := n0_; have BK174 := n1_; have BK181 := n2_; have BK184 := n3_; have HB := n4_; clear n0_ n1_ n2_ n3_ n4_; (try clear hb); (try clear hb2); (try clear hk); (try clear hi)) | (go_at_call 9; (with_reducible refine (vec_Turn.calls t176 128 t189 _ A180.out).mono ?_); rintro e w' ⟨rfl, ⟨nd, rfl⟩⟩))
                      go_meet
                      case rel => exact ⟨_, ((t188 != t189)), (by first | rfl | (simp; done) | (simp [*]; done)), H', ⟨by have := HJ6.out; have := HK2.out; first | omega | exact Nat.le_refl _⟩, ⟨by (with_reducible repeat (first | refine blk_drewN ?_ _ | refine blk_drew ?_ | refine blk_alloc ?_ _)); exact BK173.out⟩, ⟨by (with_reducible repeat (first | refine blk_drewN ?_ _ | refine blk_drew ?_ | refine blk_alloc ?_ _)); exact BK174.out⟩, ⟨by (with_reducible repeat (first | refine blk_drewN ?_ _ | refine blk_drew ?_ | refine blk_alloc ?_ _)); exact BK181.out⟩, ⟨by (with_reducible repeat (first | refine blk_drewN ?_ _ | refine blk_drew ?_ | refine blk_alloc ?_ _)); exact BK184.out⟩, ⟨by repeat (first | (with_reducible first | exact HB.out | apply below_alloc | apply pw_below_drewN | apply below_drew1 | refine below_set ?_ GE173.out | refine below_set ?_ GE174.out | refine below_set ?_ GE181.out | refine below_set ?_ GE184.out) | exact HB.out)⟩⟩
                    · replace c178 := Bool.eq_false_iff.mpr c178
                      subst c178
                      have H1 : (joustlaw13_VecToward.j2 k2 a2 false a0_0 a0_1) = some r := by rw [if_neg (show ¬ (false = true) by decide)] at H; exact H
                      clear H
                      have H := H1
                      clear H1
                      have H' := Aside0.mk H
                      clear H
                      go_wp2
                      go_meet
                      case rel => exact ⟨_, (false), (by first | rfl | (simp; done) | (simp [*]; done)), H', ⟨by have := HJ6.out; have := HK2.out; first | omega | exact Nat.le_refl _⟩, ⟨by (with_reducible repeat (first | refine blk_drewN ?_ _ | refine blk_drew ?_ | refine blk_alloc ?_ _)); exact BK173.out⟩, ⟨by (with_reducible repeat (first | refine blk_drewN ?_ _ | refine blk_drew ?_ | refine blk_alloc ?_ _)); exact BK174.out⟩, ⟨by (with_reducible repeat (first | refine blk_drewN ?_ _ | refine blk_drew ?_ | refine blk_alloc ?_ _)); exact BK181.out⟩, ⟨by (with_reducible repeat (first | refine blk_drewN ?_ _ | refine blk_drew ?_ | refine blk_alloc ?_ _)); exact BK184.out⟩, ⟨by repeat (first | (with_reducible first | exact HB.out | apply below_alloc | apply pw_below_drewN | apply below_drew1 | refine below_set ?_ GE173.out | refine below_set ?_ GE174.out | refine below_set ?_ GE181.out | refine below_set ?_ GE184.out) | exact HB.out)⟩⟩
                  case rest =>
                    clear HC177
                    try clear c1
                    try clear c2
                    try clear p2
                    try clear c3
                    try clear c4
                    try clear c5
                    try clear c6
                    try clear p6
                    try clear c7
                    try clear c8
                    try clear c9
                    try clear c10
                    try clear c11
                    try clear c12
                    try clear c13
                    try clear c14
                    try clear c15
                    try clear c15b0
                    try clear c16
                    try clear c16b0
                    try clear c17
                    try clear c18
                    try clear c21
                    try clear c23
                    try clear c26
                    try clear c34
                    try clear c35
                    try clear c39
                    try clear c40
                    try clear c41
                    try clear c44
                    try clear c44b0
                    try clear c46
                    try clear c46b0
                    try clear c49
                    try clear c50
                    try clear c51
                    try clear c52
                    try clear c54
                    try clear c55
                    try clear c56
                    try clear c58
                    try clear c58b0
                    try clear c58b1
                    try clear c59
                    try clear c59b0
                    try clear c60
                    try clear c60b0
                    try clear c63
                    try clear c64
                    try clear p64
                    try clear c65
                    try clear c66
                    try clear c68
                    try clear c69
                    try clear c70
                    try clear c72
                    try clear c73
                    try clear c73b0
                    try clear c73b1
                    try clear c76
                    try clear c77
                    try clear c78
                    try clear c79
                    try clear c81
                    try clear c82
                    try clear c83
                    try clear c87
                    try clear c88
                    try clear c89
                    try clear c90
                    try clear c92
                    try clear c93
                    try clear c94
                    try clear c98
                    try clear c99
                    try clear c100
                    try clear c101
                    try clear c103
                    try clear c104
                    try clear c105
                    try clear c107
                    try clear c108
                    try clear c108b0
                    try clear c108b1
                    try clear c111
                    try clear c112
                    try clear c113
                    try clear c114
                    try clear c116
                    try clear c117
                    try clear c118
                    try clear c122
                    try clear c123
                    try clear c124
                    try clear c125
                    try clear c127
                    try clear c128
                    try clear c129
                    try clear c133
                    try clear c134
                    try clear c135
                    try clear c136
                    try clear c138
                    try clear c139
                    try clear c140
                    try clear c142
                    try clear c143
                    try clear c143b0
                    try clear c143b1
                    try clear c146
                    try clear c147
                    try clear c148
                    try clear c149
                    try clear c151
                    try clear c152
                    try clear c153
                    try clear c157
                    try clear c158
                    try clear c159
                    try clear c160
                    try clear c162
                    try clear c163
                    try clear c164
                    try clear c168
                    try clear c169
                    try clear c170
                    try clear c171
                    try clear c173
                    try clear c174
                    try clear c175
                    try clear c178
                    try clear c181
                    try clear c182
                    try clear c183
                    try clear c185
                    try clear c186
                    try clear hcz102_0
                    try clear hcz102_1
                    try clear hcz106_0
                    try clear hcz106_1
                    try clear hcz115_0
                    try clear hcz115_1
                    try clear hcz119_0
                    try clear hcz119_1
                    try clear hcz126_0
                    try clear hcz126_1
                    try clear hcz12_0
                    try clear hcz12_1
                    try clear hcz130_0
                    try clear hcz130_1
                    try clear hcz137_0
                    try clear hcz137_1
                    try clear hcz13_0
                    try clear hcz13_1
                    try clear hcz141_0
                    try clear hcz141_1
                    try clear hcz150_0
                    try clear hcz150_1
                    try clear hcz154_0
                    try clear hcz154_1
                    try clear hcz161_0
                    try clear hcz161_1
                    try clear hcz165_0
                    try clear hcz165_1
                    try clear hcz172_0
                    try clear hcz172_1
                    try clear hcz176_0
                    try clear hcz176_1
                    try clear hcz184_0
                    try clear hcz184_1
                    try clear hcz187_0
                    try clear hcz187_1
                    try clear hcz19_0
                    try clear hcz19_1
                    try clear hcz27_0
                    try clear hcz27_1
                    try clear hcz28_0
                    try clear hcz28_1
                    try clear hcz30_0
                    try clear hcz30_1
                    try clear hcz31_0
                    try clear hcz31_1
                    try clear hcz36_0
                    try clear hcz36_1
                    try clear hcz42_0
                    try clear hcz42_1
                    try clear hcz43_0
                    try clear hcz43_1
                    try clear hcz53_0
                    try clear hcz53_1
                    try clear hcz57_0
                    try clear hcz57_1
                    try clear hcz67_0
                    try clear hcz67_1
                    try clear hcz71_0
                    try clear hcz71_1
                    try clear hcz80_0
                    try clear hcz80_1
                    try clear hcz84_0
                    try clear hcz84_1
                    try clear hcz91_0
                    try clear hcz91_1
                    try clear hcz95_0
                    try clear hcz95_1
                    try clear hfz102_0
                    try clear hfz102_1
                    try clear hfz106_0
                    try clear hfz106_1
                    try clear hfz115_0
                    try clear hfz115_1
                    try clear hfz119_0
                    try clear hfz119_1
                    try clear hfz126_0
                    try clear hfz126_1
                    try clear hfz12_0
                    try clear hfz12_1
                    try clear hfz130_0
                    try clear hfz130_1
                    try clear hfz137_0
                    try clear hfz137_1
                    try clear hfz13_0
                    try clear hfz13_1
                    try clear hfz141_0
                    try clear hfz141_1
                    try clear hfz150_0
                    try clear hfz150_1
                    try clear hfz154_0
                    try clear hfz154_1
                    try clear hfz161_0
                    try clear hfz161_1
                    try clear hfz165_0
                    try clear hfz165_1
                    try clear hfz172_0
                    try clear hfz172_1
                    try clear hfz176_0
                    try clear hfz176_1
                    try clear hfz184_0
                    try clear hfz184_1
                    try clear hfz187_0
                    try clear hfz187_1
                    try clear hfz19_0
                    try clear hfz19_1
                    try clear hfz27_0
                    try clear hfz27_1
                    try clear hfz28_0
                    try clear hfz28_1
                    try clear hfz30_0
                    try clear hfz30_1
                    try clear hfz31_0
                    try clear hfz31_1
                    try clear hfz36_0
                    try clear hfz36_1
                    try clear hfz42_0
                    try clear hfz42_1
                    try clear hfz43_0
                    try clear hfz43_1
                    try clear hfz53_0
                    try clear hfz53_1
                    try clear hfz57_0
                    try clear hfz57_1
                    try clear hfz67_0
                    try clear hfz67_1
                    try clear hfz71_0
                    try clear hfz71_1
                    try clear hfz80_0
                    try clear hfz80_1
                    try clear hfz84_0
                    try clear hfz84_1
                    try clear hfz91_0
                    try clear hfz91_1
                    try clear hfz95_0
                    try clear hfz95_1
                    try clear p2
                    try clear p6
                    obtain ⟨kq, x106_176, rfl, HA, HJ176, BK173, BK174, BK181, BK184, HB⟩ := hcut
                    cases kq with
                    | zero => exact absurd HA.out (by simp [joustlaw13_VecToward.j2])
                    | succ kj176 =>
                      have H := HA.out
                      clear HA
                      simp only [joustlaw13_VecToward.j2] at H
                      by_cases c189 : x106_176 = true
                      · subst c189
                        have H1 : (some false) = some r := by rw [if_pos rfl] at H; exact H
                        clear H
                        have H := H1
                        clear H1
                        obtain rfl := Option.some.inj H
                        go_wp2
                        go_ret
                        exact ⟨by first | rfl | (simp [errW_none, errW_some] <;> rfl) | (simp [*, errW_none, errW_some] <;> rfl), by repeat (first | (with_reducible first | exact HB.out | apply below_alloc | apply pw_below_drewN | apply below_drew1 | refine below_set ?_ GE173.out | refine below_set ?_ GE174.out | refine below_set ?_ GE181.out | refine below_set ?_ GE184.out) | exact HB.out)⟩
                      · replace c189 := Bool.eq_false_iff.mpr c189
                        subst c189
                        have H1 : ((vec_Unit.f kj176 a2).bind fun bt190 => ((vec_Add.f kj176 a0_0 a0_1 bt190.1 bt190.2).bind fun bt192 => ((vec_Toward.f kj176 a0_0 a0_1 bt192.1 bt192.2).bind fun t194 => ((vec_Turn.f a2 0).bind fun t195 => (some (t194 == t195)))))) = some r := by rw [if_neg (show ¬ (false = true) by decide)] at H; exact H
                        clear H
                        have H := H1
                        clear H1
                        replace H := Option.bind_eq_some_iff.mp H
                        obtain ⟨⟨t190, t191⟩, A1900, H⟩ := H
                        replace H : ((vec_Add.f kj176 a0_0 a0_1 t190 t191).bind fun bt192 => ((vec_Toward.f kj176 a0_0 a0_1 bt192.1 bt192.2).bind fun t194 => ((vec_Turn.f a2 0).bind fun t195 => (some (t194 == t195))))) = some r := H
                        have A190 := Aside0.mk A1900
                        clear A1900
                        replace H := Option.bind_eq_some_iff.mp H
                        obtain ⟨⟨t192, t193⟩, A1910, H⟩ := H
                        replace H : ((vec_Toward.f kj176 a0_0 a0_1 t192 t193).bind fun t194 => ((vec_Turn.f a2 0).bind fun t195 => (some (t194 == t195)))) = some r := H
                        have A191 := Aside0.mk A1910
                        clear A1910
                        replace H := Option.bind_eq_some_iff.mp H
                        obtain ⟨t194, A1920, H⟩ := H
                        replace H : ((vec_Turn.f a2 0).bind fun t195 => (some (t194 == t195))) = some r := H
                        have A192 := Aside0.mk A1920
                        clear A1920
                        replace H := Option.bind_eq_some_iff.mp H
                        obtain ⟨t195, A1930, H⟩ := H
                        replace H : (some (t194 == t195)) = some r := H
                        have A193 := Aside0.mk A1930
                        clear A1930
                        obtain rfl := Option.some.inj H
                        try go_wp2
                        have n0_ := Aside0.mk (blk_drew BK173.out)
                        have n1_ := Aside0.mk (blk_drew BK174.out)
                        have n2_ := Aside0.mk (blk_drew BK181.out)
                        have n3_ := Aside0.mk (blk_drew BK184.out)
                        have n4_ := Aside0.mk (below_drew1 HB.out)
                        clear BK173
                        clear BK174
                        clear BK181
                        clear BK184
                        clear HB
                        have BK173 := n0_
                        have BK174 := n1_
                        have BK181 := n2_
                        have BK184 := n3_
                        have HB := n4_
                        clear n0_ n1_ n2_ n3_ n4_
                        refine start_ (n := 10) (S := fun w' => w'.cell? ⟨gb173, 0, none⟩ = some (.int .i64 a0_0) ∧ w'.cell? ⟨gb173, 1, none⟩ = some (.int .i64 a0_1)) (ds := []) #[false, false, false, false, false, false, false, false, false, false] (by kernel_rfl) rfl rfl ⟨(blk_cell BK173.out 0).trans rfl, (blk_cell BK173.out 1).trans rfl⟩ (fun hHeld => ?_); refine with_tabW joustlaw13_VecToward.tab22 joustlaw13_VecToward.bits22 (fun HT_ HW_ => ?_)
                        generalize wc.drew = w194 at BK173 BK174 BK181 BK184 HB hHeld ⊢
                        refine pure_ (i := 2) (N := some 109) (v := ?_) (a' := ?_) #[false, false, true, false, false, false, false, false, false, false] rfl rfl (any_of HT_.out (by kernel_rfl)) (fun _ _ _ h => h) (Or.inl ⟨by rfl, ?_⟩) ?_ ?_
                        rotate_left
                        · intro w'
                          go_simp
                          with_reducible rfl
                        rotate_left
                        · simp only [Act.put, List.setIfInBounds_toArray, List.set_cons_zero, List.set_cons_succ, i64_w, i32_w]
                          rfl
                        refine pure_ (i := 6) (N := some 113) (v := ?_) (a' := ?_) #[false, false, true, false, false, false, true, false, false, false] rfl rfl (any_of HT_.out (by kernel_rfl)) (fun _ _ _ h => h) (Or.inl ⟨by rfl, ?_⟩) ?_ ?_
                        rotate_left
                        · intro w'
                          go_simp
                          with_reducible rfl
                        rotate_left
                        · simp only [Act.put, List.setIfInBounds_toArray, List.set_cons_zero, List.set_cons_succ, i64_w, i32_w]
                          rfl
                        refine take_ (i := 0) (N := some 107) (v := ?_) (a' := ?_) #[true, false, true, false, false, false, true, false, false, false] rfl rfl (take_ofW HT_.out HW_.out (by kernel_rfl)) (fun _ _ _ h => h) (Or.inl ⟨by rfl, ?_⟩) hHeld ?_ ?_
                        rotate_left
                        · rintro w' ⟨s0, s1⟩
                          go_simp
                          with_reducible rfl
                        rotate_left
                        · simp only [Act.put, List.setIfInBounds_toArray, List.set_cons_zero, List.set_cons_succ, i64_w, i32_w]
                          rfl
                        refine take_ (i := 1) (N := some 108) (v := ?_) (a' := ?_) #[true, true, true, false, false, false, true, false, false, false] rfl rfl (take_ofW HT_.out HW_.out (by kernel_rfl)) (fun _ _ _ h => h) (Or.inl ⟨by rfl, ?_⟩) hHeld ?_ ?_
                        rotate_left
                        · rintro w' ⟨s0, s1⟩
                          go_simp
                          with_reducible rfl
                        rotate_left
                        · simp only [Act.put, List.setIfInBounds_toArray, List.set_cons_zero, List.set_cons_succ, i64_w, i32_w]
                          rfl
                        refine one_ (i := 3) (N := some 110) #[true, true, true, true, false, false, true, false, false, false] rfl rfl (one_of HT_.out (by kernel_rfl)) (by decide) (fun K hK => ?_)
                        refine goes_ Tryd.func10 (by kernel_rfl) rfl #[.int .i64 a2] (by rfl) rfl rfl (by (try simp only [List.map_toArray, List.map_cons, List.map_nil]); first | done | rfl | (simp only [List.length_drop, List.length_take]; rfl)) ?_
                        with_reducible refine (vec_Unit.calls kj176 a2 t190 t191 _ A190.out (by first | ((repeat (first | exact HG.out | apply Sines.drewN | apply Sines.drew)); done) | exact Sines.below HG.out (by repeat (first | (with_reducible first | exact HB.out | apply below_alloc | apply pw_below_drewN | apply below_drew1) | exact HB.out)))).mono ?_
                        rintro e w195 ⟨rfl, hb⟩
                        refine ⟨_, rfl, ?_⟩
                        have n0_ := Aside0.mk (blk_below (g := gb173) (o := .cells #[.int .i64 a0_0, .int .i64 a0_1] 25 (0, 0)) (by (with_reducible repeat (first | refine blk_drewN ?_ _ | refine blk_drew ?_ | refine blk_alloc ?_ _)); exact BK173.out) hb)
                        have n1_ := Aside0.mk (blk_below (g := gb174) (o := .cells #[.int .i64 a1_0, .int .i64 a1_1] 25 (0, 0)) (by (with_reducible repeat (first | refine blk_drewN ?_ _ | refine blk_drew ?_ | refine blk_alloc ?_ _)); exact BK174.out) hb)
                        have n2_ := Aside0.mk (blk_below (g := gb181) (o := .cells #[.int .i64 t179, .int .i64 t180] 25 (0, 0)) (by (with_reducible repeat (first | refine blk_drewN ?_ _ | refine blk_drew ?_ | refine blk_alloc ?_ _)); exact BK181.out) hb)
                        have n3_ := Aside0.mk (blk_below (g := gb184) (o := .cells #[.int .i64 t182, .int .i64 t183] 25 (0, 0)) (by (with_reducible repeat (first | refine blk_drewN ?_ _ | refine blk_drew ?_ | refine blk_alloc ?_ _)); exact BK184.out) hb)
                        have n4_ := Aside0.mk (below_step (by repeat (first | (with_reducible first | exact HB.out | apply below_alloc | apply pw_below_drewN | apply below_drew1 | refine below_set ?_ GE173.out | refine below_set ?_ GE174.out | refine below_set ?_ GE181.out | refine below_set ?_ GE184.out) | exact HB.out)) hb)
                        clear BK173
                        clear BK174
                        clear BK181
                        clear BK184
                        clear HB
                        have BK173 := n0_
                        have BK174 := n1_
                        have BK181 := n2_
                        have BK184 := n3_
                        have HB := n4_
                        clear n0_ n1_ n2_ n3_ n4_
                        (try clear hb)
                        (try clear hb2)
                        (try clear hk)
                        (try clear hi)
                        refine hK.out _ _ ⟨(blk_cell BK173.out 0).trans rfl, (blk_cell BK173.out 1).trans rfl⟩ (fun hHeld => ?_)
                        clear hK K
                        refine norm_ (a' := ?_) ?_ ?_
                        rotate_left
                        · show Act.put _ (some 110) _ = _
                          simp only [Act.put, List.setIfInBounds_toArray, List.set_cons_zero, List.set_cons_succ, i64_w, i32_w]
                          rfl
                        refine one_ (i := 4) (N := some 111) #[true, true, true, true, true, false, true, false, false, false] rfl rfl (one_of HT_.out (by kernel_rfl)) (by decide) (fun K hK => ?_)
                        refine goes_ Tryd.func15 (by kernel_rfl) rfl #[.agg #[.int .i64 a0_0, .int .i64 a0_1], .agg #[.int .i64 t190, .int .i64 t191]] (by rfl) rfl rfl (by (try simp only [List.map_toArray, List.map_cons, List.map_nil]); first | done | rfl | (simp only [List.length_drop, List.length_take]; rfl)) ?_
                        with_reducible refine (vec_Add.calls kj176 a0_0 a0_1 t190 t191 t192 t193 _ A191.out).mono ?_
                        rintro e w196 ⟨rfl, hb⟩
                        refine ⟨_, rfl, ?_⟩
                        have n0_ := Aside0.mk (blk_below (g := gb173) (o := .cells #[.int .i64 a0_0, .int .i64 a0_1] 25 (0, 0)) (by (with_reducible repeat (first | refine blk_drewN ?_ _ | refine blk_drew ?_ | refine blk_alloc ?_ _)); exact BK173.out) hb)
                        have n1_ := Aside0.mk (blk_below (g := gb174) (o := .cells #[.int .i64 a1_0, .int .i64 a1_1] 25 (0, 0)) (by (with_reducible repeat (first | refine blk_drewN ?_ _ | refine blk_drew ?_ | refine blk_alloc ?_ _)); exact BK174.out) hb)
                        have n2_ := Aside0.mk (blk_below (g := gb181) (o := .cells #[.int .i64 t179, .int .i64 t180] 25 (0, 0)) (by (with_reducible repeat (first | refine blk_drewN ?_ _ | refine blk_drew ?_ | refine blk_alloc ?_ _)); exact BK181.out) hb)
                        have n3_ := Aside0.mk (blk_below (g := gb184) (o := .cells #[.int .i64 t182, .int .i64 t183] 25 (0, 0)) (by (with_reducible repeat (first | refine blk_drewN ?_ _ | refine blk_drew ?_ | refine blk_alloc ?_ _)); exact BK184.out) hb)
                        have n4_ := Aside0.mk (below_step (by repeat (first | (with_reducible first | exact HB.out | apply below_alloc | apply pw_below_drewN | apply below_drew1 | refine below_set ?_ GE173.out | refine below_set ?_ GE174.out | refine below_set ?_ GE181.out | refine below_set ?_ GE184.out) | exact HB.out)) hb)
                        clear BK173
                        clear BK174
                        clear BK181
                        clear BK184
                        clear HB
                        have BK173 := n0_
                        have BK174 := n1_
                        have BK181 := n2_
                        have BK184 := n3_
                        have HB := n4_
                        clear n0_ n1_ n2_ n3_ n4_
                        (try clear hb)
                        (try clear hb2)
                        (try clear hk)
                        (try clear hi)
                        refine hK.out _ _ ⟨(blk_cell BK173.out 0).trans rfl, (blk_cell BK173.out 1).trans rfl⟩ (fun hHeld => ?_)
                        clear hK K
                        refine norm_ (a' := ?_) ?_ ?_
                        rotate_left
                        · show Act.put _ (some 111) _ = _
                          simp only [Act.put, List.setIfInBounds_toArray, List.set_cons_zero, List.set_cons_succ, i64_w, i32_w]
                          rfl
                        refine one_ (i := 5) (N := some 112) #[true, true, true, true, true, true, true, false, false, false] rfl rfl (one_of HT_.out (by kernel_rfl)) (by decide) (fun K hK => ?_)
                        refine goes_ Tryd.func12 (by kernel_rfl) rfl #[.agg #[.int .i64 a0_0, .int .i64 a0_1], .agg #[.int .i64 t192, .int .i64 t193]] (by rfl) rfl rfl (by (try simp only [List.map_toArray, List.map_cons, List.map_nil]); first | done | rfl | (simp only [List.length_drop, List.length_take]; rfl)) ?_
                        with_reducible refine (vec_Toward.calls kj176 a0_0 a0_1 t192 t193 t194 _ A192.out (by first | ((repeat (first | exact HG.out | apply Sines.drewN | apply Sines.drew)); done) | exact Sines.below HG.out (by repeat (first | (with_reducible first | exact HB.out | apply below_alloc | apply pw_below_drewN | apply below_drew1) | exact HB.out)))).mono ?_
                        rintro e w197 ⟨rfl, hb⟩
                        refine ⟨_, rfl, ?_⟩
                        have n0_ := Aside0.mk (blk_below (g := gb173) (o := .cells #[.int .i64 a0_0, .int .i64 a0_1] 25 (0, 0)) (by (with_reducible repeat (first | refine blk_drewN ?_ _ | refine blk_drew ?_ | refine blk_alloc ?_ _)); exact BK173.out) hb)
                        have n1_ := Aside0.mk (blk_below (g := gb174) (o := .cells #[.int .i64 a1_0, .int .i64 a1_1] 25 (0, 0)) (by (with_reducible repeat (first | refine blk_drewN ?_ _ | refine blk_drew ?_ | refine blk_alloc ?_ _)); exact BK174.out) hb)
                        have n2_ := Aside0.mk (blk_below (g := gb181) (o := .cells #[.int .i64 t179, .int .i64 t180] 25 (0, 0)) (by (with_reducible repeat (first | refine blk_drewN ?_ _ | refine blk_drew ?_ | refine blk_alloc ?_ _)); exact BK181.out) hb)
                        have n3_ := Aside0.mk (blk_below (g := gb184) (o := .cells #[.int .i64 t182, .int .i64 t183] 25 (0, 0)) (by (with_reducible repeat (first | refine blk_drewN ?_ _ | refine blk_drew ?_ | refine blk_alloc ?_ _)); exact BK184.out) hb)
                        have n4_ := Aside0.mk (below_step (by repeat (first | (with_reducible first | exact HB.out | apply below_alloc | apply pw_below_drewN | apply below_drew1 | refine below_set ?_ GE173.out | refine below_set ?_ GE174.out | refine below_set ?_ GE181.out | refine below_set ?_ GE184.out) | exact HB.out)) hb)
                        clear BK173
                        clear BK174
                        clear BK181
                        clear BK184
                        clear HB
                        have BK173 := n0_
                        have BK174 := n1_
                        have BK181 := n2_
                        have BK184 := n3_
                        have HB := n4_
                        clear n0_ n1_ n2_ n3_ n4_
                        (try clear hb)
                        (try clear hb2)
                        (try clear hk)
                        (try clear hi)
                        refine hK.out _ _ ⟨(blk_cell BK173.out 0).trans rfl, (blk_cell BK173.out 1).trans rfl⟩ (fun hHeld => ?_)
                        clear hK K
                        refine norm_ (a' := ?_) ?_ ?_
                        rotate_left
                        · show Act.put _ (some 112) _ = _
                          simp only [Act.put, List.setIfInBounds_toArray, List.set_cons_zero, List.set_cons_succ, i64_w, i32_w]
                          rfl
                        refine one_ (i := 7) (N := some 114) #[true, true, true, true, true, true, true, true, false, false] rfl rfl (one_of HT_.out (by kernel_rfl)) (by decide) (fun K hK => ?_)
                        refine goes_ Tryd.func9 (by kernel_rfl) rfl #[.int .i64 a2, .int .i64 0] (by rfl) rfl rfl (by (try simp only [List.map_toArray, List.map_cons, List.map_nil]); first | done | rfl | (simp only [List.length_drop, List.length_take]; rfl)) ?_
                        with_reducible refine (vec_Turn.calls a2 0 t195 _ A193.out).mono ?_
                        rintro e w' ⟨rfl, ⟨nd, rfl⟩⟩
                        refine ⟨_, rfl, ?_⟩
                        refine hK.out _ _ ⟨(blk_cell BK173.out 0).trans rfl, (blk_cell BK173.out 1).trans rfl⟩ (fun hHeld => ?_)
                        clear hK K
                        refine norm_ (a' := ?_) ?_ ?_
                        rotate_left
                        · show Act.put _ (some 114) _ = _
                          simp only [Act.put, List.setIfInBounds_toArray, List.set_cons_zero, List.set_cons_succ, i64_w, i32_w]
                          rfl
                        refine pure_ (i := 8) (N := some 115) (v := ?_) (a' := ?_) #[true, true, true, true, true, true, true, true, true, false] rfl rfl (any_of HT_.out (by kernel_rfl)) (fun _ _ _ h => h) (Or.inl ⟨by rfl, ?_⟩) ?_ ?_
                        rotate_left
                        · intro w'
                          go_simp
                          with_reducible rfl
                        rotate_left
                        · simp only [Act.put, List.setIfInBounds_toArray, List.set_cons_zero, List.set_cons_succ, i64_w, i32_w]
                          rfl
                        refine pure_ (i := 9) (N := some 6) (v := ?_) (a' := ?_) #[true, true, true, true, true, true, true, true, true, true] rfl rfl (any_of HT_.out (by kernel_rfl)) (fun _ _ _ h => h) (Or.inl ⟨by rfl, ?_⟩) ?_ ?_
                        rotate_left
                        · intro w'
                          go_simp
                          with_reducible rfl
                        rotate_left
                        · simp only [Act.put, List.setIfInBounds_toArray, List.set_cons_zero, List.set_cons_succ, i64_w, i32_w]
                          rfl
                        refine done_ (done_of HT_.out (by kernel_rfl)) ?_
                        try go_wp2
                        go_ret
                        exact ⟨by first | rfl | (simp [errW_none, errW_some] <;> rfl) | (simp [*, errW_none, errW_some] <;> rfl), by repeat (first | (with_reducible first | exact HB.out | apply below_alloc | apply pw_below_drewN | apply below_drew1 | refine below_set ?_ GE173.out | refine below_set ?_ GE174.out | refine below_set ?_ GE181.out | refine below_set ?_ GE184.out) | exact HB.out)⟩
          · replace c23 := Bool.eq_false_iff.mpr c23
            subst c23
            have H1 : (some true) = some r := by rw [if_neg (show ¬ (false = true) by decide)] at H; exact H
            clear H
            have H := H1
            clear H1
            obtain rfl := Option.some.inj H
            have hnb198 := NB173_174.out
            have hnc198 := NB174_173.out
            have hcz199_0 : wc.cell? ⟨gb173, 0, none⟩ = some (.int .i64 a0_0) := (blk_cell BK173.out 0).trans rfl
            have hcz199_1 : wc.cell? ⟨gb173, 1, none⟩ = some (.int .i64 a0_1) := (blk_cell BK173.out 1).trans rfl
            have hfz199_0 := blk_frozen BK173.out 0
            have hfz199_1 := blk_frozen BK173.out 1
            have hcz200_0 : wc.cell? ⟨gb174, 0, none⟩ = some (.int .i64 a1_0) := (blk_cell BK174.out 0).trans rfl
            have hcz200_1 : wc.cell? ⟨gb174, 1, none⟩ = some (.int .i64 a1_1) := (blk_cell BK174.out 1).trans rfl
            have hfz200_0 := blk_frozen BK174.out 0
            have hfz200_1 := blk_frozen BK174.out 1
            go_wp2_with (first | ((with_reducible refine gate_callee (f := 13) rfl ?_); refine goesL_ (some 34) rfl rfl Tryd.func13 (by kernel_rfl) rfl #[.agg #[.int .i64 a0_0, .int .i64 a0_1], .agg #[.int .i64 a1_0, .int .i64 a1_1]] rfl (by (try simp only [List.map_toArray, List.map_cons, List.map_nil]); first | done | rfl | (simp only [List.length_drop, List.length_take]; rfl)) ?_; (with_reducible refine (joustlaw13_small.calls a0_0 a0_1 a1_0 a1_1 false _ A22.out).mono ?_); rintro e w201 ⟨rfl, hb⟩; refine ⟨_, rfl, ?_⟩; have n0_ := Aside0.mk (blk_below (g := gb173) (o := .cells #[.int .i64 a0_0, .int .i64 a0_1] 25 (0, 0)) (by (with_reducible repeat (first | refine blk_drewN ?_ _ | refine blk_drew ?_ | refine blk_alloc ?_ _)); exact BK173.out) hb); have n1_ := Aside0.mk (blk_below (g := gb174) (o := .cells #[.int .i64 a1_0, .int .i64 a1_1] 25 (0, 0)) (by (with_reducible repeat (first | refine blk_drewN ?_ _ | refine blk_drew ?_ | refine blk_alloc ?_ _)); exact BK174.out) hb); have n2_ := Aside0.mk (below_step (by repeat (first | (with_reducible first | exact HB.out | apply below_alloc | apply pw_below_drewN | apply below_drew1 | refine below_set ?_ GE173.out | refine below_set ?_ GE174.out) | exact HB.out)) hb); clear BK173; clear BK174; clear HB; have BK173 := n0_; have BK174 := n1_; have HB := n2_; clear n0_ n1_ n2_; (try clear hb); (try clear hb2); (try clear hk); (try clear hi)))
            go_ret
            exact ⟨by first | rfl | (simp [errW_none, errW_some] <;> rfl) | (simp [*, errW_none, errW_some] <;> rfl), by repeat (first | (with_reducible first | exact HB.out | apply below_alloc | apply pw_below_drewN | apply below_drew1 | refine below_set ?_ GE173.out | refine below_set ?_ GE174.out) | exact HB.out)⟩
  · replace c5 := Bool.eq_false_iff.mpr c5
    subst c5
    have H1 : (some false) = some r := by rw [if_neg (show ¬ (false = true) by decide)] at H; exact H
    clear H
    have H := H1
    clear H1
    obtain rfl := Option.some.inj H
    go_enter Tryd.func4, Tryd.ntmps4
    go_wp2_with (first | ((with_reducible refine gate_dst (N := 3) rfl ?_); refine box_event ?hg (N := 3) ?hd (cs := #[.int .i64 a0_0, .int .i64 a0_1]) (t := 25) ?hr ?_; (case hd => rfl); (case hg => rfl); (case hr => first | (go_simp; done) | (go_simp; rfl)); intro gb173 hg w202 hbox hb; have n0_ := Aside0.mk (below_step (by repeat (first | (with_reducible first | exact HB.out | apply below_alloc | apply pw_below_drewN | apply below_drew1) | exact HB.out)) hb); have n1_ := Aside0.mk (hbox); have n2_ := Aside0.mk ((by rw [hg]; exact (below_size (by repeat (first | (with_reducible first | exact HB.out | apply below_alloc | apply pw_below_drewN | apply below_drew1) | exact HB.out))) : w.heap.size ≤ gb173)); have n3_ := Aside0.mk ((by rw [hg]; exact (below_size (by repeat (first | (with_reducible first | exact HB.out | apply below_alloc | apply pw_below_drewN | apply below_drew1) | exact HB.out))) : w.heap.size ≤ gb173)); clear HB; have HB := n0_; have BK173 := n1_; have GW173 := n2_; have GE173 := n3_; clear n0_ n1_ n2_ n3_; clear hb hbox hg) | ((with_reducible refine gate_dst (N := 4) rfl ?_); refine box_event ?hg (N := 4) ?hd (cs := #[.int .i64 a1_0, .int .i64 a1_1]) (t := 25) ?hr ?_; (case hd => rfl); (case hg => rfl); (case hr => first | (go_simp; done) | (go_simp; rfl)); intro gb174 hg w203 hbox hb; have n0_ := Aside0.mk (blk_below (g := gb173) (o := .cells #[.int .i64 a0_0, .int .i64 a0_1] 25 (0, 0)) (by (with_reducible repeat (first | refine blk_drewN ?_ _ | refine blk_drew ?_ | refine blk_alloc ?_ _)); exact BK173.out) hb); have n1_ := Aside0.mk (below_step (by repeat (first | (with_reducible first | exact HB.out | apply below_alloc | apply pw_below_drewN | apply below_drew1 | refine below_set ?_ GE173.out) | exact HB.out)) hb); have n2_ := Aside0.mk (hbox); have n3_ := Aside0.mk ((by rw [hg]; exact (below_size (by repeat (first | (with_reducible first | exact HB.out | apply below_alloc | apply pw_below_drewN | apply below_drew1 | refine below_set ?_ GE173.out) | exact HB.out))) : w.heap.size ≤ gb174)); have n4_ := Aside0.mk ((by rw [hg]; exact (below_size (by repeat (first | (with_reducible first | exact HB.out | apply below_alloc | apply pw_below_drewN | apply below_drew1 | refine below_set ?_ GE173.out) | exact HB.out))) : w.heap.size ≤ gb174)); have n5_ := Aside0.mk ((by rw [hg]; exact Nat.ne_of_lt (blk_lt (g := gb173) (o := .cells #[.int .i64 a0_0, .int .i64 a0_1] 25 (0, 0)) (by (with_reducible repeat (first | refine blk_drewN ?_ _ | refine blk_drew ?_ | refine blk_alloc ?_ _)); exact BK173.out)) : gb173 ≠ gb174)); have n6_ := Aside0.mk ((by rw [hg]; exact Nat.ne_of_gt (blk_lt (g := gb173) (o := .cells #[.int .i64 a0_0, .int .i64 a0_1] 25 (0, 0)) (by (with_reducible repeat (first | refine blk_drewN ?_ _ | refine blk_drew ?_ | refine blk_alloc ?_ _)); exact BK173.out)) : gb174 ≠ gb173)); clear BK173; clear HB; have BK173 := n0_; have HB := n1_; have BK174 := n2_; have GW174 := n3_; have GE174 := n4_; have NB173_174 := n5_; have NB174_173 := n6_; clear n0_ n1_ n2_ n3_ n4_ n5_ n6_; clear hb hbox hg) | ((with_reducible refine gate_callee (f := 8) rfl ?_); refine goesL_ (some 15) rfl rfl Tryd.func8 (by kernel_rfl) rfl #[] rfl (by (try simp only [List.map_toArray, List.map_cons, List.map_nil]); first | done | rfl | (simp only [List.length_drop, List.length_take]; rfl)) ?_; (with_reducible refine (joustlaw13_alive.calls k  false _ A4.out (by first | ((repeat (first | exact HG.out | apply Sines.drewN | apply Sines.drew)); done) | exact Sines.below HG.out (by repeat (first | (with_reducible first | exact HB.out | apply below_alloc | apply pw_below_drewN | apply below_drew1 | refine below_set ?_ GE173.out | refine below_set ?_ GE174.out) | exact HB.out)))).mono ?_); rintro e w204 ⟨rfl, hb⟩; refine ⟨_, rfl, ?_⟩; have n0_ := Aside0.mk (blk_below (g := gb173) (o := .cells #[.int .i64 a0_0, .int .i64 a0_1] 25 (0, 0)) (by (with_reducible repeat (first | refine blk_drewN ?_ _ | refine blk_drew ?_ | refine blk_alloc ?_ _)); exact BK173.out) hb); have n1_ := Aside0.mk (blk_below (g := gb174) (o := .cells #[.int .i64 a1_0, .int .i64 a1_1] 25 (0, 0)) (by (with_reducible repeat (first | refine blk_drewN ?_ _ | refine blk_drew ?_ | refine blk_alloc ?_ _)); exact BK174.out) hb); have n2_ := Aside0.mk (below_step (by repeat (first | (with_reducible first | exact HB.out | apply below_alloc | apply pw_below_drewN | apply below_drew1 | refine below_set ?_ GE173.out | refine below_set ?_ GE174.out) | exact HB.out)) hb); clear BK173; clear BK174; clear HB; have BK173 := n0_; have BK174 := n1_; have HB := n2_; clear n0_ n1_ n2_; (try clear hb); (try clear hb2); (try clear hk); (try clear hi)))
    go_ret
    exact ⟨by first | rfl | (simp [errW_none, errW_some] <;> rfl) | (simp [*, errW_none, errW_some] <;> rfl), by repeat (first | (with_reducible first | exact HB.out | apply below_alloc | apply pw_below_drewN | apply below_drew1 | refine below_set ?_ GE173.out | refine below_set ?_ GE174.out) | exact HB.out)⟩

end Go.Proofs.YtcmbklofbemclaaDoor.VVecToward
