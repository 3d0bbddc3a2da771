/- FixRounds and what it calls: printed by wip/gen/vprint.py (functions joust/fix.Sin, joust/joustlaw03.fixed are given) -/
import Derived.Test.YtnknbikkgohlmaaDoorVFixRoundsx0
import Derived.Test.YtnknbikkgohlmaaDoorVFixRoundsx1
import Derived.Test.YtnknbikkgohlmaaDoorVFixRoundsx2
namespace Go.Proofs.YtnknbikkgohlmaaDoor.VFixRounds
open Go.RowKit Go.Proofs.YtnknbikkgohlmaaDoorW.PrintWords Go.Proofs.YtnknbikkgohlmaaDoorW.PrintLast Go.Proofs.YtnknbikkgohlmaaDoorW.PrintMore Go.Proofs.YtnknbikkgohlmaaDoor.VFixB
attribute [local go_sem] max2_int min2_int max_two min_two max_three min_three max_four min_four   -- for this text's walks alone
set_option linter.unusedVariables false
set_option linter.unusedSimpArgs false

/-! ### joustlaw03_FixRounds: function 13 -/
mutual
def joustlaw03_FixRounds.j0 : Nat → Int → Int → Int → Bool → Option (Bool)
  | 0, _, _, _, _ => none
  | k + 1, x5, x6, x7, x47 => if x47 = true then (some false) else (if ((decide ((wrap64 (x5 * x6)) ≥ 72057594037927936)) != (x7 == 1099511627776)) = true then (joustlaw03_FixRounds.j1 k x5 x6 true) else (joustlaw03_FixRounds.j1 k x5 x6 ((decide ((wrap64 (x5 * x6)) < (-72057594037862400))) != (x7 == (-1099511627776)))))
def joustlaw03_FixRounds.j1 : Nat → Int → Int → Bool → Option (Bool)
  | 0, _, _, _ => none
  | k + 1, x5, x6, x63 => if x63 = true then (some false) else (if x6 = 0 then ((fix_Root.f k x5).bind fun t133 => (if x5 < 0 then (some (t133 == 0)) else (if (wrap64 (t133 * t133)) ≤ (wrap64 (x5 * 65536)) then (some (decide ((wrap64 ((wrap64 (t133 + 1)) * (wrap64 (t133 + 1)))) > (wrap64 (x5 * 65536))))) else (some false)))) else ((fix_Div.f k x5 x6).bind fun t134 => (if t134 > (-1099511627776) then (joustlaw03_FixRounds.j2 k x5 x6 t134 (decide (t134 < 1099511627776))) else (joustlaw03_FixRounds.j2 k x5 x6 t134 false))))
def joustlaw03_FixRounds.j2 : Nat → Int → Int → Int → Bool → Option (Bool)
  | 0, _, _, _, _ => none
  | k + 1, x5, x6, x9, x74 => if x74 = true then (if x6 > 0 then (if (wrap64 ((wrap64 (x5 * 65536)) - (wrap64 (x9 * x6)))) < 0 then (joustlaw03_FixRounds.j3 k x5 true) else (if (wrap64 ((wrap64 (x5 * 65536)) - (wrap64 (x9 * x6)))) ≥ x6 then (joustlaw03_FixRounds.j3 k x5 true) else (if x6 < 0 then (if (wrap64 ((wrap64 (x5 * 65536)) - (wrap64 (x9 * x6)))) > 0 then (joustlaw03_FixRounds.j3 k x5 true) else (joustlaw03_FixRounds.j3 k x5 (decide ((wrap64 ((wrap64 (x5 * 65536)) - (wrap64 (x9 * x6)))) ≤ x6)))) else (joustlaw03_FixRounds.j3 k x5 false)))) else (if x6 < 0 then (if (wrap64 ((wrap64 (x5 * 65536)) - (wrap64 (x9 * x6)))) > 0 then (joustlaw03_FixRounds.j3 k x5 true) else (joustlaw03_FixRounds.j3 k x5 (decide ((wrap64 ((wrap64 (x5 * 65536)) - (wrap64 (x9 * x6)))) ≤ x6)))) else (joustlaw03_FixRounds.j3 k x5 false))) else ((fix_Root.f k x5).bind fun t136 => (if x5 < 0 then (some (t136 == 0)) else (if (wrap64 (t136 * t136)) ≤ (wrap64 (x5 * 65536)) then (some (decide ((wrap64 ((wrap64 (t136 + 1)) * (wrap64 (t136 + 1)))) > (wrap64 (x5 * 65536))))) else (some false))))
def joustlaw03_FixRounds.j3 : Nat → Int → Bool → Option (Bool)
  | 0, _, _ => none
  | k + 1, x5, x104 => if x104 = true then (some false) else ((fix_Root.f k x5).bind fun t135 => (if x5 < 0 then (some (t135 == 0)) else (if (wrap64 (t135 * t135)) ≤ (wrap64 (x5 * 65536)) then (some (decide ((wrap64 ((wrap64 (t135 + 1)) * (wrap64 (t135 + 1)))) > (wrap64 (x5 * 65536))))) else (some false))))
end
def joustlaw03_FixRounds.f (k : Nat) (a0 : Int) (a1 : Int) : Option (Bool) := (joustlaw03_fixed.f).bind fun t130 => (if t130 = true then ((fix_Add.f k (Int.tmod a0 2147483648) (Int.tmod a1 2147483648)).bind fun t131 => (if t131 = (wrap64 ((Int.tmod a0 2147483648) + (Int.tmod a1 2147483648))) then ((fix_Mul.f (Int.tmod a0 2147483648) (Int.tmod a1 2147483648)).bind fun t132 => (if t132 > (-1099511627776) then (if t132 < 1099511627776 then (if (wrap64 ((wrap64 ((Int.tmod a0 2147483648) * (Int.tmod a1 2147483648))) - (wrap64 (t132 * 65536)))) < 0 then (joustlaw03_FixRounds.j0 k (Int.tmod a0 2147483648) (Int.tmod a1 2147483648) t132 true) else (joustlaw03_FixRounds.j0 k (Int.tmod a0 2147483648) (Int.tmod a1 2147483648) t132 (decide ((wrap64 ((wrap64 ((Int.tmod a0 2147483648) * (Int.tmod a1 2147483648))) - (wrap64 (t132 * 65536)))) ≥ 65536)))) else (joustlaw03_FixRounds.j0 k (Int.tmod a0 2147483648) (Int.tmod a1 2147483648) t132 false)) else (joustlaw03_FixRounds.j0 k (Int.tmod a0 2147483648) (Int.tmod a1 2147483648) t132 false))) else (some false))) else (some false))
theorem joustlaw03_FixRounds.mono_l : ∀ k, (∀ y0 y1 y2 y3, LeO (joustlaw03_FixRounds.j0 k y0 y1 y2 y3) (joustlaw03_FixRounds.j0 (k + 1) y0 y1 y2 y3)) ∧ (∀ y0 y1 y2, LeO (joustlaw03_FixRounds.j1 k y0 y1 y2) (joustlaw03_FixRounds.j1 (k + 1) y0 y1 y2)) ∧ (∀ y0 y1 y2 y3, LeO (joustlaw03_FixRounds.j2 k y0 y1 y2 y3) (joustlaw03_FixRounds.j2 (k + 1) y0 y1 y2 y3)) ∧ (∀ y0 y1, LeO (joustlaw03_FixRounds.j3 k y0 y1) (joustlaw03_FixRounds.j3 (k + 1) y0 y1))
  | 0 => ⟨fun _ _ _ _ r h => by simp [joustlaw03_FixRounds.j0] at h, fun _ _ _ r h => by simp [joustlaw03_FixRounds.j1] at h, fun _ _ _ _ r h => by simp [joustlaw03_FixRounds.j2] at h, fun _ _ r h => by simp [joustlaw03_FixRounds.j3] at h⟩
  | k + 1 => by
    obtain ⟨ih0, ih1, ih2, ih3⟩ := joustlaw03_FixRounds.mono_l k
    refine ⟨?_, ?_, ?_, ?_⟩
    · intro y0 y1 y2 y3
      unfold joustlaw03_FixRounds.j0
      repeat' first
      | (with_reducible exact ih0 _ _ _ _)
      | (with_reducible exact ih1 _ _ _)
      | (with_reducible exact ih2 _ _ _ _)
      | (with_reducible exact ih3 _ _)
      | (with_reducible exact fix_Add.mono _ _ _)
      | (with_reducible exact fix_Div.mono _ _ _)
      | (with_reducible exact fix_Root.mono _ _)
      | (with_reducible exact LeO.refl _)
      | (with_reducible exact LeO.none _)
      | (with_reducible refine LeO.ite ?_ ?_)
      | (with_reducible refine LeO.bind ?_ (fun _ => ?_))
      | exact ih0 _ _ _ _
      | exact ih1 _ _ _
      | exact ih2 _ _ _ _
      | exact ih3 _ _
      | exact fix_Add.mono _ _ _
      | exact fix_Div.mono _ _ _
      | exact fix_Root.mono _ _
      | exact LeO.none _
      | refine LeO.ite ?_ ?_
      | refine LeO.bind ?_ (fun _ => ?_)
    · intro y0 y1 y2
      unfold joustlaw03_FixRounds.j1
      repeat' first
      | (with_reducible exact ih0 _ _ _ _)
      | (with_reducible exact ih1 _ _ _)
      | (with_reducible exact ih2 _ _ _ _)
      | (with_reducible exact ih3 _ _)
      | (with_reducible exact fix_Add.mono _ _ _)
      | (with_reducible exact fix_Div.mono _ _ _)
      | (with_reducible exact fix_Root.mono _ _)
      | (with_reducible exact LeO.refl _)
      | (with_reducible exact LeO.none _)
      | (with_reducible refine LeO.ite ?_ ?_)
      | (with_reducible refine LeO.bind ?_ (fun _ => ?_))
      | exact ih0 _ _ _ _
      | exact ih1 _ _ _
      | exact ih2 _ _ _ _
      | exact ih3 _ _
      | exact fix_Add.mono _ _ _
      | exact fix_Div.mono _ _ _
      | exact fix_Root.mono _ _
      | exact LeO.none _
      | refine LeO.ite ?_ ?_
      | refine LeO.bind ?_ (fun _ => ?_)
    · intro y0 y1 y2 y3
      unfold joustlaw03_FixRounds.j2
      repeat' first
      | (with_reducible exact ih0 _ _ _ _)
      | (with_reducible exact ih1 _ _ _)
      | (with_reducible exact ih2 _ _ _ _)
      | (with_reducible exact ih3 _ _)
      | (with_reducible exact fix_Add.mono _ _ _)
      | (with_reducible exact fix_Div.mono _ _ _)
      | (with_reducible exact fix_Root.mono _ _)
      | (with_reducible exact LeO.refl _)
      | (with_reducible exact LeO.none _)
      | (with_reducible refine LeO.ite ?_ ?_)
      | (with_reducible refine LeO.bind ?_ (fun _ => ?_))
      | exact ih0 _ _ _ _
      | exact ih1 _ _ _
      | exact ih2 _ _ _ _
      | exact ih3 _ _
      | exact fix_Add.mono _ _ _
      | exact fix_Div.mono _ _ _
      | exact fix_Root.mono _ _
      | exact LeO.none _
      | refine LeO.ite ?_ ?_
      | refine LeO.bind ?_ (fun _ => ?_)
    · intro y0 y1
      unfold joustlaw03_FixRounds.j3
      repeat' first
      | (with_reducible exact ih0 _ _ _ _)
      | (with_reducible exact ih1 _ _ _)
      | (with_reducible exact ih2 _ _ _ _)
      | (with_reducible exact ih3 _ _)
      | (with_reducible exact fix_Add.mono _ _ _)
      | (with_reducible exact fix_Div.mono _ _ _)
      | (with_reducible exact fix_Root.mono _ _)
      | (with_reducible exact LeO.refl _)
      | (with_reducible exact LeO.none _)
      | (with_reducible refine LeO.ite ?_ ?_)
      | (with_reducible refine LeO.bind ?_ (fun _ => ?_))
      | exact ih0 _ _ _ _
      | exact ih1 _ _ _
      | exact ih2 _ _ _ _
      | exact ih3 _ _
      | exact fix_Add.mono _ _ _
      | exact fix_Div.mono _ _ _
      | exact fix_Root.mono _ _
      | exact LeO.none _
      | refine LeO.ite ?_ ?_
      | refine LeO.bind ?_ (fun _ => ?_)
theorem joustlaw03_FixRounds.mono : ∀ a0 a1 k, LeO (joustlaw03_FixRounds.f k a0 a1) (joustlaw03_FixRounds.f (k + 1) a0 a1) := by
  intro a0 a1 k
  obtain ⟨ih0, ih1, ih2, ih3⟩ := joustlaw03_FixRounds.mono_l k
  unfold joustlaw03_FixRounds.f
  repeat' first
      | (with_reducible exact ih0 _ _ _ _)
      | (with_reducible exact ih1 _ _ _)
      | (with_reducible exact ih2 _ _ _ _)
      | (with_reducible exact ih3 _ _)
      | (with_reducible exact fix_Add.mono _ _ _)
      | (with_reducible exact fix_Div.mono _ _ _)
      | (with_reducible exact fix_Root.mono _ _)
      | (with_reducible exact LeO.refl _)
      | (with_reducible exact LeO.none _)
      | (with_reducible refine LeO.ite ?_ ?_)
      | (with_reducible refine LeO.bind ?_ (fun _ => ?_))
      | exact ih0 _ _ _ _
      | exact ih1 _ _ _
      | exact ih2 _ _ _ _
      | exact ih3 _ _
      | exact fix_Add.mono _ _ _
      | exact fix_Div.mono _ _ _
      | exact fix_Root.mono _ _
      | exact LeO.none _
      | refine LeO.ite ?_ ?_
      | refine LeO.bind ?_ (fun _ => ?_)
set_option maxHeartbeats 8000000 in
set_option maxRecDepth 100000 in
theorem joustlaw03_FixRounds.calls (k : Nat) (a0 : Int) (a1 : Int) (r : Bool) (w : World) (h : joustlaw03_FixRounds.f k a0 a1 = some r) (hG : Sines w) :
    Calls Tryd.prog 13 #[.int .i64 a0, .int .i64 a1] w fun e w' => e = .returned (.bool r) ∧ Below w.heap.size w w' := by
  have HG := Aside0.mk hG
  clear hG
  have HB := Aside0.mk (Below.refl w.heap.size w)
  have H : ((joustlaw03_fixed.f).bind fun t130 => (if t130 = true then ((fix_Add.f k (Int.tmod a0 2147483648) (Int.tmod a1 2147483648)).bind fun t131 => (if t131 = (wrap64 ((Int.tmod a0 2147483648) + (Int.tmod a1 2147483648))) then ((fix_Mul.f (Int.tmod a0 2147483648) (Int.tmod a1 2147483648)).bind fun t132 => (if t132 > (-1099511627776) then (if t132 < 1099511627776 then (if (wrap64 ((wrap64 ((Int.tmod a0 2147483648) * (Int.tmod a1 2147483648))) - (wrap64 (t132 * 65536)))) < 0 then (joustlaw03_FixRounds.j0 k (Int.tmod a0 2147483648) (Int.tmod a1 2147483648) t132 true) else (joustlaw03_FixRounds.j0 k (Int.tmod a0 2147483648) (Int.tmod a1 2147483648) t132 (decide ((wrap64 ((wrap64 ((Int.tmod a0 2147483648) * (Int.tmod a1 2147483648))) - (wrap64 (t132 * 65536)))) ≥ 65536)))) else (joustlaw03_FixRounds.j0 k (Int.tmod a0 2147483648) (Int.tmod a1 2147483648) t132 false)) else (joustlaw03_FixRounds.j0 k (Int.tmod a0 2147483648) (Int.tmod a1 2147483648) t132 false))) else (some false))) else (some false))) = some r := h
  clear h
  replace H := Option.bind_eq_some_iff.mp H
  obtain ⟨t130, A30, H⟩ := H
  replace H : (if t130 = true then ((fix_Add.f k (Int.tmod a0 2147483648) (Int.tmod a1 2147483648)).bind fun t131 => (if t131 = (wrap64 ((Int.tmod a0 2147483648) + (Int.tmod a1 2147483648))) then ((fix_Mul.f (Int.tmod a0 2147483648) (Int.tmod a1 2147483648)).bind fun t132 => (if t132 > (-1099511627776) then (if t132 < 1099511627776 then (if (wrap64 ((wrap64 ((Int.tmod a0 2147483648) * (Int.tmod a1 2147483648))) - (wrap64 (t132 * 65536)))) < 0 then (joustlaw03_FixRounds.j0 k (Int.tmod a0 2147483648) (Int.tmod a1 2147483648) t132 true) else (joustlaw03_FixRounds.j0 k (Int.tmod a0 2147483648) (Int.tmod a1 2147483648) t132 (decide ((wrap64 ((wrap64 ((Int.tmod a0 2147483648) * (Int.tmod a1 2147483648))) - (wrap64 (t132 * 65536)))) ≥ 65536)))) else (joustlaw03_FixRounds.j0 k (Int.tmod a0 2147483648) (Int.tmod a1 2147483648) t132 false)) else (joustlaw03_FixRounds.j0 k (Int.tmod a0 2147483648) (Int.tmod a1 2147483648) t132 false))) else (some false))) else (some false)) = some r := H
  have A3 := Aside0.mk A30
  clear A30
  by_cases c4 : t130 = true
  · subst c4
    have H1 : ((fix_Add.f k (Int.tmod a0 2147483648) (Int.tmod a1 2147483648)).bind fun t131 => (if t131 = (wrap64 ((Int.tmod a0 2147483648) + (Int.tmod a1 2147483648))) then ((fix_Mul.f (Int.tmod a0 2147483648) (Int.tmod a1 2147483648)).bind fun t132 => (if t132 > (-1099511627776) then (if t132 < 1099511627776 then (if (wrap64 ((wrap64 ((Int.tmod a0 2147483648) * (Int.tmod a1 2147483648))) - (wrap64 (t132 * 65536)))) < 0 then (joustlaw03_FixRounds.j0 k (Int.tmod a0 2147483648) (Int.tmod a1 2147483648) t132 true) else (joustlaw03_FixRounds.j0 k (Int.tmod a0 2147483648) (Int.tmod a1 2147483648) t132 (decide ((wrap64 ((wrap64 ((Int.tmod a0 2147483648) * (Int.tmod a1 2147483648))) - (wrap64 (t132 * 65536)))) ≥ 65536)))) else (joustlaw03_FixRounds.j0 k (Int.tmod a0 2147483648) (Int.tmod a1 2147483648) t132 false)) else (joustlaw03_FixRounds.j0 k (Int.tmod a0 2147483648) (Int.tmod a1 2147483648) t132 false))) else (some false))) = some r := by rw [if_pos rfl] at H; exact H
    clear H
    have H := H1
    clear H1
    replace H := Option.bind_eq_some_iff.mp H
    obtain ⟨t131, A50, H⟩ := H
    replace H : (if t131 = (wrap64 ((Int.tmod a0 2147483648) + (Int.tmod a1 2147483648))) then ((fix_Mul.f (Int.tmod a0 2147483648) (Int.tmod a1 2147483648)).bind fun t132 => (if t132 > (-1099511627776) then (if t132 < 1099511627776 then (if (wrap64 ((wrap64 ((Int.tmod a0 2147483648) * (Int.tmod a1 2147483648))) - (wrap64 (t132 * 65536)))) < 0 then (joustlaw03_FixRounds.j0 k (Int.tmod a0 2147483648) (Int.tmod a1 2147483648) t132 true) else (joustlaw03_FixRounds.j0 k (Int.tmod a0 2147483648) (Int.tmod a1 2147483648) t132 (decide ((wrap64 ((wrap64 ((Int.tmod a0 2147483648) * (Int.tmod a1 2147483648))) - (wrap64 (t132 * 65536)))) ≥ 65536)))) else (joustlaw03_FixRounds.j0 k (Int.tmod a0 2147483648) (Int.tmod a1 2147483648) t132 false)) else (joustlaw03_FixRounds.j0 k (Int.tmod a0 2147483648) (Int.tmod a1 2147483648) t132 false))) else (some false)) = some r := H
    have A5 := Aside0.mk A50
    clear A50
    by_cases c6 : t131 = (wrap64 ((Int.tmod a0 2147483648) + (Int.tmod a1 2147483648)))
    · rw [if_pos c6] at H
      have c6b0 : (t131 == (wrap64 ((Int.tmod a0 2147483648) + (Int.tmod a1 2147483648)))) = true := beq_iff_eq.mpr c6
      have c6b1 : (t131 != (wrap64 ((Int.tmod a0 2147483648) + (Int.tmod a1 2147483648)))) = false := bne_eq_false_iff_eq.mpr c6
      clear c6
      replace H := Option.bind_eq_some_iff.mp H
      obtain ⟨t132, A70, H⟩ := H
      replace H : (if t132 > (-1099511627776) then (if t132 < 1099511627776 then (if (wrap64 ((wrap64 ((Int.tmod a0 2147483648) * (Int.tmod a1 2147483648))) - (wrap64 (t132 * 65536)))) < 0 then (joustlaw03_FixRounds.j0 k (Int.tmod a0 2147483648) (Int.tmod a1 2147483648) t132 true) else (joustlaw03_FixRounds.j0 k (Int.tmod a0 2147483648) (Int.tmod a1 2147483648) t132 (decide ((wrap64 ((wrap64 ((Int.tmod a0 2147483648) * (Int.tmod a1 2147483648))) - (wrap64 (t132 * 65536)))) ≥ 65536)))) else (joustlaw03_FixRounds.j0 k (Int.tmod a0 2147483648) (Int.tmod a1 2147483648) t132 false)) else (joustlaw03_FixRounds.j0 k (Int.tmod a0 2147483648) (Int.tmod a1 2147483648) t132 false)) = some r := H
      have A7 := Aside0.mk A70
      clear A70
      have HC8 := Aside0.mk H
      clear H
      go_enter Tryd.func13, Tryd.ntmps13
      go_upto_region 9 with (first | ((with_reducible refine gate_callee (f := 30) rfl ?_); refine goesL_ (some 12) rfl rfl Tryd.func30 (by kernel_rfl) rfl #[] rfl (by (try simp only [List.map_toArray, List.map_cons, List.map_nil]); first | done | rfl | (simp only [List.length_drop, List.length_take]; rfl)) ?_; (with_reducible refine (joustlaw03_fixed.calls  true _ A3.out (by first | (repeat (first | exact HG.out | apply Sines.drewN | apply Sines.drew); done) | exact Sines.below HG.out (by repeat (first | (with_reducible first | exact HB.out | apply below_alloc | apply pw_below_drewN | apply below_drew1) | exact HB.out)))).mono ?_); rintro e w9 ⟨rfl, hb⟩; refine ⟨_, rfl, ?_⟩; have n0_ := Aside0.mk (below_step (by repeat (first | (with_reducible first | exact HB.out | apply below_alloc | apply pw_below_drewN | apply below_drew1) | exact HB.out)) hb); clear HB; have HB := n0_; clear n0_; (try clear hb); (try clear hb2); (try clear hk); (try clear hi)) | ((with_reducible refine gate_callee (f := 33) rfl ?_); refine goesL_ (some 20) rfl rfl Tryd.func33 (by kernel_rfl) rfl #[.int .i64 (Int.tmod a0 2147483648), .int .i64 (Int.tmod a1 2147483648)] rfl (by (try simp only [List.map_toArray, List.map_cons, List.map_nil]); first | done | rfl | (simp only [List.length_drop, List.length_take]; rfl)) ?_; (with_reducible refine (fix_Add.calls k (Int.tmod a0 2147483648) (Int.tmod a1 2147483648) t131 _ A5.out).mono ?_); rintro e w10 ⟨rfl, hb⟩; refine ⟨_, rfl, ?_⟩; have n0_ := Aside0.mk (below_step (by repeat (first | (with_reducible first | exact HB.out | apply below_alloc | apply pw_below_drewN | apply below_drew1) | exact HB.out)) hb); clear HB; have HB := n0_; clear n0_; (try clear hb); (try clear hb2); (try clear hk); (try clear hi)) | ((with_reducible refine gate_callee (f := 35) rfl ?_); refine goesL_ (some 27) rfl rfl Tryd.func35 (by kernel_rfl) rfl #[.int .i64 (Int.tmod a0 2147483648), .int .i64 (Int.tmod a1 2147483648)] rfl (by (try simp only [List.map_toArray, List.map_cons, List.map_nil]); first | done | rfl | (simp only [List.length_drop, List.length_take]; rfl)) ?_; (with_reducible refine (fix_Mul.calls (Int.tmod a0 2147483648) (Int.tmod a1 2147483648) t132 _ A7.out).mono ?_); rintro e w11 ⟨rfl, hb⟩; refine ⟨_, rfl, ?_⟩; have n0_ := Aside0.mk (below_step (by repeat (first | (with_reducible first | exact HB.out | apply below_alloc | apply pw_below_drewN | apply below_drew1) | exact HB.out)) hb); clear HB; have HB := n0_; clear n0_; (try clear hb); (try clear hb2); (try clear hk); (try clear hi)))
      (try simp only [Act.put, List.setIfInBounds_toArray, List.set_cons_zero, List.set_cons_succ])
      go_cut [47] (fun v47 wc => ∃ (kq : Nat) (x47_7 : Bool), v47 = .bool x47_7 ∧ Aside0 (joustlaw03_FixRounds.j0 kq (Int.tmod a0 2147483648) (Int.tmod a1 2147483648) t132 x47_7 = some r) ∧ Aside0 (kq ≤ k) ∧ Aside0 (Below w.heap.size w wc))
      case first =>
        have H := HC8.out
        clear HC8
        by_cases c12 : t132 > (-1099511627776)
        · rw [if_pos c12] at H
          have c12b0 : decide ((-1099511627776) < t132) = true := decide_eq_true c12
          clear c12
          (first | rw [c12b0] | (simp only [i64_w, i32_w]; rw [c12b0]) | skip)
          by_cases c13 : t132 < 1099511627776
          · rw [if_pos c13] at H
            have c13b0 : decide (t132 < 1099511627776) = true := decide_eq_true c13
            clear c13
            by_cases c14 : (wrap64 ((wrap64 ((Int.tmod a0 2147483648) * (Int.tmod a1 2147483648))) - (wrap64 (t132 * 65536)))) < 0
            · rw [if_pos c14] at H
              have c14b0 : decide ((wrap64 ((wrap64 ((Int.tmod a0 2147483648) * (Int.tmod a1 2147483648))) - (wrap64 (t132 * 65536)))) < 0) = true := decide_eq_true c14
              clear c14
              have H' := Aside0.mk H
              clear H
              go_wp2
              go_meet
              case rel => exact ⟨_, (true), (by first | rfl | (simp; done) | (simp [*]; done)), H', ⟨by first | omega | exact Nat.le_refl _⟩, ⟨by repeat (first | (with_reducible first | exact HB.out | apply below_alloc | apply pw_below_drewN | apply below_drew1) | exact HB.out)⟩⟩
            · rw [if_neg c14] at H
              have c14b0 : decide ((wrap64 ((wrap64 ((Int.tmod a0 2147483648) * (Int.tmod a1 2147483648))) - (wrap64 (t132 * 65536)))) < 0) = false := decide_eq_false c14
              clear c14
              have H' := Aside0.mk H
              clear H
              go_wp2
              go_meet
              case rel => exact ⟨_, (decide ((wrap64 ((wrap64 ((Int.tmod a0 2147483648) * (Int.tmod a1 2147483648))) - (wrap64 (t132 * 65536)))) ≥ 65536)), (by first | rfl | (simp; done) | (simp [*]; done)), H', ⟨by first | omega | exact Nat.le_refl _⟩, ⟨by repeat (first | (with_reducible first | exact HB.out | apply below_alloc | apply pw_below_drewN | apply below_drew1) | exact HB.out)⟩⟩
          · rw [if_neg c13] at H
            have c13b0 : decide (t132 < 1099511627776) = false := decide_eq_false c13
            clear c13
            have H' := Aside0.mk H
            clear H
            go_wp2
            go_meet
            case rel => exact ⟨_, (false), (by first | rfl | (simp; done) | (simp [*]; done)), H', ⟨by first | omega | exact Nat.le_refl _⟩, ⟨by repeat (first | (with_reducible first | exact HB.out | apply below_alloc | apply pw_below_drewN | apply below_drew1) | exact HB.out)⟩⟩
        · rw [if_neg c12] at H
          have c12b0 : decide ((-1099511627776) < t132) = false := decide_eq_false c12
          clear c12
          (first | rw [c12b0] | (simp only [i64_w, i32_w]; rw [c12b0]) | skip)
          have H' := Aside0.mk H
          clear H
          go_wp2
          go_meet
          case rel => exact ⟨_, (false), (by first | rfl | (simp; done) | (simp [*]; done)), H', ⟨by first | omega | exact Nat.le_refl _⟩, ⟨by repeat (first | (with_reducible first | exact HB.out | apply below_alloc | apply pw_below_drewN | apply below_drew1) | exact HB.out)⟩⟩
      case rest =>
        clear HC8
        try clear c1
        try clear p2
        try clear c3
        try clear c4
        try clear c6
        try clear c6b0
        try clear c6b1
        try clear p6
        try clear c12
        try clear c12b0
        try clear c13
        try clear c13b0
        try clear c14
        try clear c14b0
        obtain ⟨kq, x47_7, rfl, HA, HJ7, HB⟩ := hcut
        cases kq with
        | zero => exact absurd HA.out (by simp [joustlaw03_FixRounds.j0])
        | succ kj7 =>
          have H := HA.out
          clear HA
          simp only [joustlaw03_FixRounds.j0] at H
          by_cases c15 : x47_7 = true
          · subst c15
            have H1 : (some false) = some r := by rw [if_pos rfl] at H; exact H
            clear H
            have H := H1
            clear H1
            obtain rfl := Option.some.inj H
            go_wp2
            go_ret
            exact ⟨by first | rfl | (simp [errW_none, errW_some] <;> rfl) | (simp [*, errW_none, errW_some] <;> rfl), by repeat (first | (with_reducible first | exact HB.out | apply below_alloc | apply pw_below_drewN | apply below_drew1) | exact HB.out)⟩
          · replace c15 := Bool.eq_false_iff.mpr c15
            subst c15
            have H1 : (if ((decide ((wrap64 ((Int.tmod a0 2147483648) * (Int.tmod a1 2147483648))) ≥ 72057594037927936)) != (t132 == 1099511627776)) = true then (joustlaw03_FixRounds.j1 kj7 (Int.tmod a0 2147483648) (Int.tmod a1 2147483648) true) else (joustlaw03_FixRounds.j1 kj7 (Int.tmod a0 2147483648) (Int.tmod a1 2147483648) ((decide ((wrap64 ((Int.tmod a0 2147483648) * (Int.tmod a1 2147483648))) < (-72057594037862400))) != (t132 == (-1099511627776))))) = some r := by rw [if_neg (show ¬ (false = true) by decide)] at H; exact H
            clear H
            have H := H1
            clear H1
            have HC16 := Aside0.mk H
            clear H
            go_upto_region 11 with (fail)
            go_cut [63] (fun v63 wc => ∃ (kq : Nat) (x63_15 : Bool), v63 = .bool x63_15 ∧ Aside0 (joustlaw03_FixRounds.j1 kq (Int.tmod a0 2147483648) (Int.tmod a1 2147483648) x63_15 = some r) ∧ Aside0 (kq ≤ kj7) ∧ Aside0 (Below w.heap.size w wc))
            case first =>
              have H := HC16.out
              clear HC16
              by_cases c17 : ((decide ((wrap64 ((Int.tmod a0 2147483648) * (Int.tmod a1 2147483648))) ≥ 72057594037927936)) != (t132 == 1099511627776)) = true
              · rw [if_pos c17] at H
                have c17b0 : ((decide ((wrap64 ((Int.tmod a0 2147483648) * (Int.tmod a1 2147483648))) ≥ 72057594037927936)) != (t132 == 1099511627776)) = true := c17
                (try (have c17b1 : decide ((decide ((wrap64 ((Int.tmod a0 2147483648) * (Int.tmod a1 2147483648))) ≥ 72057594037927936)) = (t132 == 1099511627776)) = false := by simpa using c17))
                (try (have c17b2 : ((decide ((wrap64 ((Int.tmod a0 2147483648) * (Int.tmod a1 2147483648))) ≥ 72057594037927936)) == (t132 == 1099511627776)) = false := by simpa using c17))
                (try (have c17b3 : ¬ ((decide ((wrap64 ((Int.tmod a0 2147483648) * (Int.tmod a1 2147483648))) ≥ 72057594037927936)) = (t132 == 1099511627776)) := by simpa using c17))
                clear c17
                (first | rw [c17b0] | (simp only [i64_w, i32_w]; rw [c17b0]) | skip)
                have H' := Aside0.mk H
                clear H
                go_wp2
                go_meet
                case rel => exact ⟨_, (true), (by first | rfl | (simp; done) | (simp [*]; done)), H', ⟨by have := HJ7.out; first | omega | exact Nat.le_refl _⟩, ⟨by repeat (first | (with_reducible first | exact HB.out | apply below_alloc | apply pw_below_drewN | apply below_drew1) | exact HB.out)⟩⟩
              · rw [if_neg c17] at H
                have c17b0 : ((decide ((wrap64 ((Int.tmod a0 2147483648) * (Int.tmod a1 2147483648))) ≥ 72057594037927936)) != (t132 == 1099511627776)) = false := by simpa using c17
                (try (have c17b1 : decide ((decide ((wrap64 ((Int.tmod a0 2147483648) * (Int.tmod a1 2147483648))) ≥ 72057594037927936)) = (t132 == 1099511627776)) = true := by simpa using c17))
                (try (have c17b2 : ((decide ((wrap64 ((Int.tmod a0 2147483648) * (Int.tmod a1 2147483648))) ≥ 72057594037927936)) == (t132 == 1099511627776)) = true := by simpa using c17))
                clear c17
                (first | rw [c17b0] | (simp only [i64_w, i32_w]; rw [c17b0]) | skip)
                have H' := Aside0.mk H
                clear H
                go_wp2
                go_meet
                case rel => exact ⟨_, (((decide ((wrap64 ((Int.tmod a0 2147483648) * (Int.tmod a1 2147483648))) < (-72057594037862400))) != (t132 == (-1099511627776)))), (by first | rfl | (simp; done) | (simp [*]; done)), H', ⟨by have := HJ7.out; first | omega | exact Nat.le_refl _⟩, ⟨by repeat (first | (with_reducible first | exact HB.out | apply below_alloc | apply pw_below_drewN | apply below_drew1) | exact HB.out)⟩⟩
            case rest =>
              clear HC16
              try clear c1
              try clear p2
              try clear c3
              try clear c4
              try clear c6
              try clear c6b0
              try clear c6b1
              try clear p6
              try clear c12
              try clear c12b0
              try clear c13
              try clear c13b0
              try clear c14
              try clear c14b0
              try clear c15
              try clear c17
              try clear c17b0
              try clear c17b1
              try clear c17b2
              try clear p2
              try clear p6
              obtain ⟨kq, x63_15, rfl, HA, HJ15, HB⟩ := hcut
              cases kq with
              | zero => exact absurd HA.out (by simp [joustlaw03_FixRounds.j1])
              | succ kj15 =>
                have H := HA.out
                clear HA
                simp only [joustlaw03_FixRounds.j1] at H
                by_cases c18 : x63_15 = true
                · subst c18
                  have H1 : (some false) = some r := by rw [if_pos rfl] at H; exact H
                  clear H
                  have H := H1
                  clear H1
                  obtain rfl := Option.some.inj H
                  go_wp2
                  go_ret
                  exact ⟨by first | rfl | (simp [errW_none, errW_some] <;> rfl) | (simp [*, errW_none, errW_some] <;> rfl), by repeat (first | (with_reducible first | exact HB.out | apply below_alloc | apply pw_below_drewN | apply below_drew1) | exact HB.out)⟩
                · replace c18 := Bool.eq_false_iff.mpr c18
                  subst c18
                  have H1 : (if (Int.tmod a1 2147483648) = 0 then ((fix_Root.f kj15 (Int.tmod a0 2147483648)).bind fun t133 => (if (Int.tmod a0 2147483648) < 0 then (some (t133 == 0)) else (if (wrap64 (t133 * t133)) ≤ (wrap64 ((Int.tmod a0 2147483648) * 65536)) then (some (decide ((wrap64 ((wrap64 (t133 + 1)) * (wrap64 (t133 + 1)))) > (wrap64 ((Int.tmod a0 2147483648) * 65536))))) else (some false)))) else ((fix_Div.f kj15 (Int.tmod a0 2147483648) (Int.tmod a1 2147483648)).bind fun t134 => (if t134 > (-1099511627776) then (joustlaw03_FixRounds.j2 kj15 (Int.tmod a0 2147483648) (Int.tmod a1 2147483648) t134 (decide (t134 < 1099511627776))) else (joustlaw03_FixRounds.j2 kj15 (Int.tmod a0 2147483648) (Int.tmod a1 2147483648) t134 false)))) = some r := by rw [if_neg (show ¬ (false = true) by decide)] at H; exact H
                  clear H
                  have H := H1
                  clear H1
                  by_cases c19 : (Int.tmod a1 2147483648) = 0
                  · rw [if_pos c19] at H
                    have c19b0 : ((Int.tmod a1 2147483648) == 0) = true := beq_iff_eq.mpr c19
                    have c19b1 : ((Int.tmod a1 2147483648) != 0) = false := bne_eq_false_iff_eq.mpr c19
                    clear c19
                    replace H := Option.bind_eq_some_iff.mp H
                    obtain ⟨t133, A200, H⟩ := H
                    replace H : (if (Int.tmod a0 2147483648) < 0 then (some (t133 == 0)) else (if (wrap64 (t133 * t133)) ≤ (wrap64 ((Int.tmod a0 2147483648) * 65536)) then (some (decide ((wrap64 ((wrap64 (t133 + 1)) * (wrap64 (t133 + 1)))) > (wrap64 ((Int.tmod a0 2147483648) * 65536))))) else (some false))) = some r := H
                    have A20 := Aside0.mk A200
                    clear A200
                    by_cases c21 : (Int.tmod a0 2147483648) < 0
                    · rw [if_pos c21] at H
                      have c21b0 : decide ((Int.tmod a0 2147483648) < 0) = true := decide_eq_true c21
                      clear c21
                      obtain rfl := Option.some.inj H
                      go_wp2_with (first | ((with_reducible refine gate_callee (f := 31) rfl ?_); refine goesL_ (some 106) rfl rfl Tryd.func31 (by kernel_rfl) rfl #[.int .i64 (Int.tmod a0 2147483648)] rfl (by (try simp only [List.map_toArray, List.map_cons, List.map_nil]); first | done | rfl | (simp only [List.length_drop, List.length_take]; rfl)) ?_; (with_reducible refine (fix_Root.calls kj15 (Int.tmod a0 2147483648) t133 _ A20.out).mono ?_); rintro e w' ⟨rfl, ⟨nd, rfl⟩⟩; refine ⟨_, rfl, ?_⟩))
                      go_ret
                      exact ⟨by first | rfl | (simp [errW_none, errW_some] <;> rfl) | (simp [*, errW_none, errW_some] <;> rfl), by repeat (first | (with_reducible first | exact HB.out | apply below_alloc | apply pw_below_drewN | apply below_drew1) | exact HB.out)⟩
                    · rw [if_neg c21] at H
                      have c21b0 : decide ((Int.tmod a0 2147483648) < 0) = false := decide_eq_false c21
                      clear c21
                      by_cases c22 : (wrap64 (t133 * t133)) ≤ (wrap64 ((Int.tmod a0 2147483648) * 65536))
                      · rw [if_pos c22] at H
                        have c22b0 : decide ((wrap64 (t133 * t133)) ≤ (wrap64 ((Int.tmod a0 2147483648) * 65536))) = true := decide_eq_true c22
                        clear c22
                        obtain rfl := Option.some.inj H
                        go_wp2_with (first | ((with_reducible refine gate_callee (f := 31) rfl ?_); refine goesL_ (some 106) rfl rfl Tryd.func31 (by kernel_rfl) rfl #[.int .i64 (Int.tmod a0 2147483648)] rfl (by (try simp only [List.map_toArray, List.map_cons, List.map_nil]); first | done | rfl | (simp only [List.length_drop, List.length_take]; rfl)) ?_; (with_reducible refine (fix_Root.calls kj15 (Int.tmod a0 2147483648) t133 _ A20.out).mono ?_); rintro e w' ⟨rfl, ⟨nd, rfl⟩⟩; refine ⟨_, rfl, ?_⟩))
                        go_ret
                        exact ⟨by first | rfl | (simp [errW_none, errW_some] <;> rfl) | (simp [*, errW_none, errW_some] <;> rfl), by repeat (first | (with_reducible first | exact HB.out | apply below_alloc | apply pw_below_drewN | apply below_drew1) | exact HB.out)⟩
                      · rw [if_neg c22] at H
                        have c22b0 : decide ((wrap64 (t133 * t133)) ≤ (wrap64 ((Int.tmod a0 2147483648) * 65536))) = false := decide_eq_false c22
                        clear c22
                        obtain rfl := Option.some.inj H
                        go_wp2_with (first | ((with_reducible refine gate_callee (f := 31) rfl ?_); refine goesL_ (some 106) rfl rfl Tryd.func31 (by kernel_rfl) rfl #[.int .i64 (Int.tmod a0 2147483648)] rfl (by (try simp only [List.map_toArray, List.map_cons, List.map_nil]); first | done | rfl | (simp only [List.length_drop, List.length_take]; rfl)) ?_; (with_reducible refine (fix_Root.calls kj15 (Int.tmod a0 2147483648) t133 _ A20.out).mono ?_); rintro e w' ⟨rfl, ⟨nd, rfl⟩⟩; refine ⟨_, rfl, ?_⟩))
                        go_ret
                        exact ⟨by first | rfl | (simp [errW_none, errW_some] <;> rfl) | (simp [*, errW_none, errW_some] <;> rfl), by repeat (first | (with_reducible first | exact HB.out | apply below_alloc | apply pw_below_drewN | apply below_drew1) | exact HB.out)⟩
                  · rw [if_neg c19] at H
                    have c19b0 : ((Int.tmod a1 2147483648) == 0) = false := beq_eq_false_iff_ne.mpr c19
                    have c19b1 : ((Int.tmod a1 2147483648) != 0) = true := bne_iff_ne.mpr c19
                    replace H := Option.bind_eq_some_iff.mp H
                    obtain ⟨t134, A230, H⟩ := H
                    replace H : (if t134 > (-1099511627776) then (joustlaw03_FixRounds.j2 kj15 (Int.tmod a0 2147483648) (Int.tmod a1 2147483648) t134 (decide (t134 < 1099511627776))) else (joustlaw03_FixRounds.j2 kj15 (Int.tmod a0 2147483648) (Int.tmod a1 2147483648) t134 false)) = some r := H
                    have A23 := Aside0.mk A230
                    clear A230
                    have HC24 := Aside0.mk H
                    clear H
                    go_upto_region 15 with (first | ((with_reducible refine gate_callee (f := 37) rfl ?_); refine goesL_ (some 68) rfl rfl Tryd.func37 (by kernel_rfl) rfl #[.int .i64 (Int.tmod a0 2147483648), .int .i64 (Int.tmod a1 2147483648)] rfl (by (try simp only [List.map_toArray, List.map_cons, List.map_nil]); first | done | rfl | (simp only [List.length_drop, List.length_take]; rfl)) ?_; (with_reducible refine (fix_Div.calls kj15 (Int.tmod a0 2147483648) (Int.tmod a1 2147483648) t134 _ A23.out).mono ?_); rintro e w25 ⟨rfl, hb⟩; refine ⟨_, rfl, ?_⟩; have n0_ := Aside0.mk (below_step (by repeat (first | (with_reducible first | exact HB.out | apply below_alloc | apply pw_below_drewN | apply below_drew1) | exact HB.out)) hb); clear HB; have HB := n0_; clear n0_; (try clear hb); (try clear hb2); (try clear hk); (try clear hi)))
                    (try simp only [Act.put, List.setIfInBounds_toArray, List.set_cons_zero, List.set_cons_succ])
                    go_cut [74] (fun v74 wc => ∃ (kq : Nat) (x74_23 : Bool), v74 = .bool x74_23 ∧ Aside0 (joustlaw03_FixRounds.j2 kq (Int.tmod a0 2147483648) (Int.tmod a1 2147483648) t134 x74_23 = some r) ∧ Aside0 (kq ≤ kj15) ∧ Aside0 (Below w.heap.size w wc))
                    case first =>
                      have H := HC24.out
                      clear HC24
                      by_cases c26 : t134 > (-1099511627776)
                      · rw [if_pos c26] at H
                        have c26b0 : decide ((-1099511627776) < t134) = true := decide_eq_true c26
                        clear c26
                        (first | rw [c26b0] | (simp only [i64_w, i32_w]; rw [c26b0]) | skip)
                        have H' := Aside0.mk H
                        clear H
                        go_wp2
                        go_meet
                        case rel => exact ⟨_, (decide (t134 < 1099511627776)), (by first | rfl | (simp; done) | (simp [*]; done)), H', ⟨by have := HJ7.out; have := HJ15.out; first | omega | exact Nat.le_refl _⟩, ⟨by repeat (first | (with_reducible first | exact HB.out | apply below_alloc | apply pw_below_drewN | apply below_drew1) | exact HB.out)⟩⟩
                      · rw [if_neg c26] at H
                        have c26b0 : decide ((-1099511627776) < t134) = false := decide_eq_false c26
                        clear c26
                        (first | rw [c26b0] | (simp only [i64_w, i32_w]; rw [c26b0]) | skip)
                        have H' := Aside0.mk H
                        clear H
                        go_wp2
                        go_meet
                        case rel => exact ⟨_, (false), (by first | rfl | (simp; done) | (simp [*]; done)), H', ⟨by have := HJ7.out; have := HJ15.out; first | omega | exact Nat.le_refl _⟩, ⟨by repeat (first | (with_reducible first | exact HB.out | apply below_alloc | apply pw_below_drewN | apply below_drew1) | exact HB.out)⟩⟩
                    case rest =>
                      clear HC24
                      try clear c1
                      try clear c2
                      try clear p2
                      try clear c3
                      try clear c4
                      try clear c6
                      try clear c6b0
                      try clear c6b1
                      try clear p6
                      try clear c12
                      try clear c12b0
                      try clear c13
                      try clear c13b0
                      try clear c14
                      try clear c14b0
                      try clear c15
                      try clear c17
                      try clear c17b0
                      try clear c17b1
                      try clear c17b2
                      try clear c18
                      try clear c19
                      try clear c19b0
                      try clear c19b1
                      try clear c21
                      try clear c21b0
                      try clear c22
                      try clear c22b0
                      try clear c26
                      try clear c26b0
                      try clear p2
                      try clear p6
                      obtain ⟨kq, x74_23, rfl, HA, HJ23, HB⟩ := hcut
                      cases kq with
                      | zero => exact absurd HA.out (by simp [joustlaw03_FixRounds.j2])
                      | succ kj23 =>
                        have H := HA.out
                        clear HA
                        simp only [joustlaw03_FixRounds.j2] at H
                        by_cases c27 : x74_23 = true
                        · subst c27
                          have H1 : (if (Int.tmod a1 2147483648) > 0 then (if (wrap64 ((wrap64 ((Int.tmod a0 2147483648) * 65536)) - (wrap64 (t134 * (Int.tmod a1 2147483648))))) < 0 then (joustlaw03_FixRounds.j3 kj23 (Int.tmod a0 2147483648) true) else (if (wrap64 ((wrap64 ((Int.tmod a0 2147483648) * 65536)) - (wrap64 (t134 * (Int.tmod a1 2147483648))))) ≥ (Int.tmod a1 2147483648) then (joustlaw03_FixRounds.j3 kj23 (Int.tmod a0 2147483648) true) else (if (Int.tmod a1 2147483648) < 0 then (if (wrap64 ((wrap64 ((Int.tmod a0 2147483648) * 65536)) - (wrap64 (t134 * (Int.tmod a1 2147483648))))) > 0 then (joustlaw03_FixRounds.j3 kj23 (Int.tmod a0 2147483648) true) else (joustlaw03_FixRounds.j3 kj23 (Int.tmod a0 2147483648) (decide ((wrap64 ((wrap64 ((Int.tmod a0 2147483648) * 65536)) - (wrap64 (t134 * (Int.tmod a1 2147483648))))) ≤ (Int.tmod a1 2147483648))))) else (joustlaw03_FixRounds.j3 kj23 (Int.tmod a0 2147483648) false)))) else (if (Int.tmod a1 2147483648) < 0 then (if (wrap64 ((wrap64 ((Int.tmod a0 2147483648) * 65536)) - (wrap64 (t134 * (Int.tmod a1 2147483648))))) > 0 then (joustlaw03_FixRounds.j3 kj23 (Int.tmod a0 2147483648) true) else (joustlaw03_FixRounds.j3 kj23 (Int.tmod a0 2147483648) (decide ((wrap64 ((wrap64 ((Int.tmod a0 2147483648) * 65536)) - (wrap64 (t134 * (Int.tmod a1 2147483648))))) ≤ (Int.tmod a1 2147483648))))) else (joustlaw03_FixRounds.j3 kj23 (Int.tmod a0 2147483648) false))) = some r := by rw [if_pos rfl] at H; exact H
                          clear H
                          have H := H1
                          clear H1
                          have HC28 := Aside0.mk H
                          clear H
                          go_upto_region 17 with (fail)
                          go_cut [104] (fun v104 wc => ∃ (kq : Nat) (x104_27 : Bool), v104 = .bool x104_27 ∧ Aside0 (joustlaw03_FixRounds.j3 kq (Int.tmod a0 2147483648) x104_27 = some r) ∧ Aside0 (kq ≤ kj23) ∧ Aside0 (Below w.heap.size w wc))
                          case first =>
                            have H := HC28.out
                            clear HC28
                            by_cases c29 : (Int.tmod a1 2147483648) > 0
                            · rw [if_pos c29] at H
                              have c29b0 : decide (0 < (Int.tmod a1 2147483648)) = true := decide_eq_true c29
                              clear c29
                              (first | rw [c29b0] | (simp only [i64_w, i32_w]; rw [c29b0]) | skip)
                              by_cases c30 : (wrap64 ((wrap64 ((Int.tmod a0 2147483648) * 65536)) - (wrap64 (t134 * (Int.tmod a1 2147483648))))) < 0
                              · rw [if_pos c30] at H
                                have c30b0 : decide ((wrap64 ((wrap64 ((Int.tmod a0 2147483648) * 65536)) - (wrap64 (t134 * (Int.tmod a1 2147483648))))) < 0) = true := decide_eq_true c30
                                clear c30
                                have H' := Aside0.mk H
                                clear H
                                go_wp2
                                go_meet
                                case rel => exact ⟨_, (true), (by first | rfl | (simp; done) | (simp [*]; done)), H', ⟨by have := HJ7.out; have := HJ15.out; have := HJ23.out; first | omega | exact Nat.le_refl _⟩, ⟨by repeat (first | (with_reducible first | exact HB.out | apply below_alloc | apply pw_below_drewN | apply below_drew1) | exact HB.out)⟩⟩
                              · rw [if_neg c30] at H
                                have c30b0 : decide ((wrap64 ((wrap64 ((Int.tmod a0 2147483648) * 65536)) - (wrap64 (t134 * (Int.tmod a1 2147483648))))) < 0) = false := decide_eq_false c30
                                clear c30
                                by_cases c31 : (wrap64 ((wrap64 ((Int.tmod a0 2147483648) * 65536)) - (wrap64 (t134 * (Int.tmod a1 2147483648))))) ≥ (Int.tmod a1 2147483648)
                                · rw [if_pos c31] at H
                                  have c31b0 : decide ((Int.tmod a1 2147483648) ≤ (wrap64 ((wrap64 ((Int.tmod a0 2147483648) * 65536)) - (wrap64 (t134 * (Int.tmod a1 2147483648)))))) = true := decide_eq_true c31
                                  clear c31
                                  have H' := Aside0.mk H
                                  clear H
                                  go_wp2
                                  go_meet
                                  case rel => exact ⟨_, (true), (by first | rfl | (simp; done) | (simp [*]; done)), H', ⟨by have := HJ7.out; have := HJ15.out; have := HJ23.out; first | omega | exact Nat.le_refl _⟩, ⟨by repeat (first | (with_reducible first | exact HB.out | apply below_alloc | apply pw_below_drewN | apply below_drew1) | exact HB.out)⟩⟩
                                · rw [if_neg c31] at H
                                  have c31b0 : decide ((Int.tmod a1 2147483648) ≤ (wrap64 ((wrap64 ((Int.tmod a0 2147483648) * 65536)) - (wrap64 (t134 * (Int.tmod a1 2147483648)))))) = false := decide_eq_false c31
                                  clear c31
                                  by_cases c32 : (Int.tmod a1 2147483648) < 0
                                  · rw [if_pos c32] at H
                                    have c32b0 : decide ((Int.tmod a1 2147483648) < 0) = true := decide_eq_true c32
                                    clear c32
                                    by_cases c33 : (wrap64 ((wrap64 ((Int.tmod a0 2147483648) * 65536)) - (wrap64 (t134 * (Int.tmod a1 2147483648))))) > 0
                                    · rw [if_pos c33] at H
                                      have c33b0 : decide (0 < (wrap64 ((wrap64 ((Int.tmod a0 2147483648) * 65536)) - (wrap64 (t134 * (Int.tmod a1 2147483648)))))) = true := decide_eq_true c33
                                      clear c33
                                      have H' := Aside0.mk H
                                      clear H
                                      go_wp2
                                      go_meet
                                      case rel => exact ⟨_, (true), (by first | rfl | (simp; done) | (simp [*]; done)), H', ⟨by have := HJ7.out; have := HJ15.out; have := HJ23.out; first | omega | exact Nat.le_refl _⟩, ⟨by repeat (first | (with_reducible first | exact HB.out | apply below_alloc | apply pw_below_drewN | apply below_drew1) | exact HB.out)⟩⟩
                                    · rw [if_neg c33] at H
                                      have c33b0 : decide (0 < (wrap64 ((wrap64 ((Int.tmod a0 2147483648) * 65536)) - (wrap64 (t134 * (Int.tmod a1 2147483648)))))) = false := decide_eq_false c33
                                      clear c33
                                      have H' := Aside0.mk H
                                      clear H
                                      go_wp2
                                      go_meet
                                      case rel => exact ⟨_, (decide ((wrap64 ((wrap64 ((Int.tmod a0 2147483648) * 65536)) - (wrap64 (t134 * (Int.tmod a1 2147483648))))) ≤ (Int.tmod a1 2147483648))), (by first | rfl | (simp; done) | (simp [*]; done)), H', ⟨by have := HJ7.out; have := HJ15.out; have := HJ23.out; first | omega | exact Nat.le_refl _⟩, ⟨by repeat (first | (with_reducible first | exact HB.out | apply below_alloc | apply pw_below_drewN | apply below_drew1) | exact HB.out)⟩⟩
                                  · rw [if_neg c32] at H
                                    have c32b0 : decide ((Int.tmod a1 2147483648) < 0) = false := decide_eq_false c32
                                    clear c32
                                    have H' := Aside0.mk H
                                    clear H
                                    go_wp2
                                    go_meet
                                    case rel => exact ⟨_, (false), (by first | rfl | (simp; done) | (simp [*]; done)), H', ⟨by have := HJ7.out; have := HJ15.out; have := HJ23.out; first | omega | exact Nat.le_refl _⟩, ⟨by repeat (first | (with_reducible first | exact HB.out | apply below_alloc | apply pw_below_drewN | apply below_drew1) | exact HB.out)⟩⟩
                            · rw [if_neg c29] at H
                              have c29b0 : decide (0 < (Int.tmod a1 2147483648)) = false := decide_eq_false c29
                              clear c29
                              (first | rw [c29b0] | (simp only [i64_w, i32_w]; rw [c29b0]) | skip)
                              by_cases c34 : (Int.tmod a1 2147483648) < 0
                              · rw [if_pos c34] at H
                                have c34b0 : decide ((Int.tmod a1 2147483648) < 0) = true := decide_eq_true c34
                                clear c34
                                by_cases c35 : (wrap64 ((wrap64 ((Int.tmod a0 2147483648) * 65536)) - (wrap64 (t134 * (Int.tmod a1 2147483648))))) > 0
                                · rw [if_pos c35] at H
                                  have c35b0 : decide (0 < (wrap64 ((wrap64 ((Int.tmod a0 2147483648) * 65536)) - (wrap64 (t134 * (Int.tmod a1 2147483648)))))) = true := decide_eq_true c35
                                  clear c35
                                  have H' := Aside0.mk H
                                  clear H
                                  go_wp2
                                  go_meet
                                  case rel => exact ⟨_, (true), (by first | rfl | (simp; done) | (simp [*]; done)), H', ⟨by have := HJ7.out; have := HJ15.out; have := HJ23.out; first | omega | exact Nat.le_refl _⟩, ⟨by repeat (first | (with_reducible first | exact HB.out | apply below_alloc | apply pw_below_drewN | apply below_drew1) | exact HB.out)⟩⟩
                                · rw [if_neg c35] at H
                                  have c35b0 : decide (0 < (wrap64 ((wrap64 ((Int.tmod a0 2147483648) * 65536)) - (wrap64 (t134 * (Int.tmod a1 2147483648)))))) = false := decide_eq_false c35
                                  clear c35
                                  have H' := Aside0.mk H
                                  clear H
                                  go_wp2
                                  go_meet
                                  case rel => exact ⟨_, (decide ((wrap64 ((wrap64 ((Int.tmod a0 2147483648) * 65536)) - (wrap64 (t134 * (Int.tmod a1 2147483648))))) ≤ (Int.tmod a1 2147483648))), (by first | rfl | (simp; done) | (simp [*]; done)), H', ⟨by have := HJ7.out; have := HJ15.out; have := HJ23.out; first | omega | exact Nat.le_refl _⟩, ⟨by repeat (first | (with_reducible first | exact HB.out | apply below_alloc | apply pw_below_drewN | apply below_drew1) | exact HB.out)⟩⟩
                              · rw [if_neg c34] at H
                                have c34b0 : decide ((Int.tmod a1 2147483648) < 0) = false := decide_eq_false c34
                                clear c34
                                have H' := Aside0.mk H
                                clear H
                                go_wp2
                                go_meet
                                case rel => exact ⟨_, (false), (by first | rfl | (simp; done) | (simp [*]; done)), H', ⟨by have := HJ7.out; have := HJ15.out; have := HJ23.out; first | omega | exact Nat.le_refl _⟩, ⟨by repeat (first | (with_reducible first | exact HB.out | apply below_alloc | apply pw_below_drewN | apply below_drew1) | exact HB.out)⟩⟩
                          case rest =>
                            clear HC28
                            try clear c1
                            try clear c2
                            try clear p2
                            try clear c3
                            try clear c4
                            try clear c6
                            try clear c6b0
                            try clear c6b1
                            try clear p6
                            try clear c12
                            try clear c12b0
                            try clear c13
                            try clear c13b0
                            try clear c14
                            try clear c14b0
                            try clear c15
                            try clear c17
                            try clear c17b0
                            try clear c17b1
                            try clear c17b2
                            try clear c18
                            try clear c19
                            try clear c19b0
                            try clear c19b1
                            try clear c21
                            try clear c21b0
                            try clear c22
                            try clear c22b0
                            try clear c26
                            try clear c26b0
                            try clear c27
                            try clear c29
                            try clear c29b0
                            try clear c30
                            try clear c30b0
                            try clear c31
                            try clear c31b0
                            try clear c32
                            try clear c32b0
                            try clear c33
                            try clear c33b0
                            try clear c34
                            try clear c34b0
                            try clear c35
                            try clear c35b0
                            try clear p2
                            try clear p6
                            obtain ⟨kq, x104_27, rfl, HA, HJ27, HB⟩ := hcut
                            cases kq with
                            | zero => exact absurd HA.out (by simp [joustlaw03_FixRounds.j3])
                            | succ kj27 =>
                              have H := HA.out
                              clear HA
                              simp only [joustlaw03_FixRounds.j3] at H
                              by_cases c36 : x104_27 = true
                              · subst c36
                                have H1 : (some false) = some r := by rw [if_pos rfl] at H; exact H
                                clear H
                                have H := H1
                                clear H1
                                obtain rfl := Option.some.inj H
                                go_wp2
                                go_ret
                                exact ⟨by first | rfl | (simp [errW_none, errW_some] <;> rfl) | (simp [*, errW_none, errW_some] <;> rfl), by repeat (first | (with_reducible first | exact HB.out | apply below_alloc | apply pw_below_drewN | apply below_drew1) | exact HB.out)⟩
                              · replace c36 := Bool.eq_false_iff.mpr c36
                                subst c36
                                have H1 : ((fix_Root.f kj27 (Int.tmod a0 2147483648)).bind fun t135 => (if (Int.tmod a0 2147483648) < 0 then (some (t135 == 0)) else (if (wrap64 (t135 * t135)) ≤ (wrap64 ((Int.tmod a0 2147483648) * 65536)) then (some (decide ((wrap64 ((wrap64 (t135 + 1)) * (wrap64 (t135 + 1)))) > (wrap64 ((Int.tmod a0 2147483648) * 65536))))) else (some false)))) = some r := by rw [if_neg (show ¬ (false = true) by decide)] at H; exact H
                                clear H
                                have H := H1
                                clear H1
                                replace H := Option.bind_eq_some_iff.mp H
                                obtain ⟨t135, A370, H⟩ := H
                                replace H : (if (Int.tmod a0 2147483648) < 0 then (some (t135 == 0)) else (if (wrap64 (t135 * t135)) ≤ (wrap64 ((Int.tmod a0 2147483648) * 65536)) then (some (decide ((wrap64 ((wrap64 (t135 + 1)) * (wrap64 (t135 + 1)))) > (wrap64 ((Int.tmod a0 2147483648) * 65536))))) else (some false))) = some r := H
                                have A37 := Aside0.mk A370
                                clear A370
                                by_cases c38 : (Int.tmod a0 2147483648) < 0
                                · rw [if_pos c38] at H
                                  have c38b0 : decide ((Int.tmod a0 2147483648) < 0) = true := decide_eq_true c38
                                  clear c38
                                  obtain rfl := Option.some.inj H
                                  go_wp2_with (first | ((with_reducible refine gate_callee (f := 31) rfl ?_); refine goesL_ (some 106) rfl rfl Tryd.func31 (by kernel_rfl) rfl #[.int .i64 (Int.tmod a0 2147483648)] rfl (by (try simp only [List.map_toArray, List.map_cons, List.map_nil]); first | done | rfl | (simp only [List.length_drop, List.length_take]; rfl)) ?_; (with_reducible refine (fix_Root.calls kj27 (Int.tmod a0 2147483648) t135 _ A37.out).mono ?_); rintro e w' ⟨rfl, ⟨nd, rfl⟩⟩; refine ⟨_, rfl, ?_⟩))
                                  go_ret
                                  exact ⟨by first | rfl | (simp [errW_none, errW_some] <;> rfl) | (simp [*, errW_none, errW_some] <;> rfl), by repeat (first | (with_reducible first | exact HB.out | apply below_alloc | apply pw_below_drewN | apply below_drew1) | exact HB.out)⟩
                                · rw [if_neg c38] at H
                                  have c38b0 : decide ((Int.tmod a0 2147483648) < 0) = false := decide_eq_false c38
                                  clear c38
                                  by_cases c39 : (wrap64 (t135 * t135)) ≤ (wrap64 ((Int.tmod a0 2147483648) * 65536))
                                  · rw [if_pos c39] at H
                                    have c39b0 : decide ((wrap64 (t135 * t135)) ≤ (wrap64 ((Int.tmod a0 2147483648) * 65536))) = true := decide_eq_true c39
                                    clear c39
                                    obtain rfl := Option.some.inj H
                                    go_wp2_with (first | ((with_reducible refine gate_callee (f := 31) rfl ?_); refine goesL_ (some 106) rfl rfl Tryd.func31 (by kernel_rfl) rfl #[.int .i64 (Int.tmod a0 2147483648)] rfl (by (try simp only [List.map_toArray, List.map_cons, List.map_nil]); first | done | rfl | (simp only [List.length_drop, List.length_take]; rfl)) ?_; (with_reducible refine (fix_Root.calls kj27 (Int.tmod a0 2147483648) t135 _ A37.out).mono ?_); rintro e w' ⟨rfl, ⟨nd, rfl⟩⟩; refine ⟨_, rfl, ?_⟩))
                                    go_ret
                                    exact ⟨by first | rfl | (simp [errW_none, errW_some] <;> rfl) | (simp [*, errW_none, errW_some] <;> rfl), by repeat (first | (with_reducible first | exact HB.out | apply below_alloc | apply pw_below_drewN | apply below_drew1) | exact HB.out)⟩
                                  · rw [if_neg c39] at H
                                    have c39b0 : decide ((wrap64 (t135 * t135)) ≤ (wrap64 ((Int.tmod a0 2147483648) * 65536))) = false := decide_eq_false c39
                                    clear c39
                                    obtain rfl := Option.some.inj H
                                    go_wp2_with (first | ((with_reducible refine gate_callee (f := 31) rfl ?_); refine goesL_ (some 106) rfl rfl Tryd.func31 (by kernel_rfl) rfl #[.int .i64 (Int.tmod a0 2147483648)] rfl (by (try simp only [List.map_toArray, List.map_cons, List.map_nil]); first | done | rfl | (simp only [List.length_drop, List.length_take]; rfl)) ?_; (with_reducible refine (fix_Root.calls kj27 (Int.tmod a0 2147483648) t135 _ A37.out).mono ?_); rintro e w' ⟨rfl, ⟨nd, rfl⟩⟩; refine ⟨_, rfl, ?_⟩))
                                    go_ret
                                    exact ⟨by first | rfl | (simp [errW_none, errW_some] <;> rfl) | (simp [*, errW_none, errW_some] <;> rfl), by repeat (first | (with_reducible first | exact HB.out | apply below_alloc | apply pw_below_drewN | apply below_drew1) | exact HB.out)⟩
                        · replace c27 := Bool.eq_false_iff.mpr c27
                          subst c27
                          have H1 : ((fix_Root.f kj23 (Int.tmod a0 2147483648)).bind fun t136 => (if (Int.tmod a0 2147483648) < 0 then (some (t136 == 0)) else (if (wrap64 (t136 * t136)) ≤ (wrap64 ((Int.tmod a0 2147483648) * 65536)) then (some (decide ((wrap64 ((wrap64 (t136 + 1)) * (wrap64 (t136 + 1)))) > (wrap64 ((Int.tmod a0 2147483648) * 65536))))) else (some false)))) = some r := by rw [if_neg (show ¬ (false = true) by decide)] at H; exact H
                          clear H
                          have H := H1
                          clear H1
                          replace H := Option.bind_eq_some_iff.mp H
                          obtain ⟨t136, A400, H⟩ := H
                          replace H : (if (Int.tmod a0 2147483648) < 0 then (some (t136 == 0)) else (if (wrap64 (t136 * t136)) ≤ (wrap64 ((Int.tmod a0 2147483648) * 65536)) then (some (decide ((wrap64 ((wrap64 (t136 + 1)) * (wrap64 (t136 + 1)))) > (wrap64 ((Int.tmod a0 2147483648) * 65536))))) else (some false))) = some r := H
                          have A40 := Aside0.mk A400
                          clear A400
                          by_cases c41 : (Int.tmod a0 2147483648) < 0
                          · rw [if_pos c41] at H
                            have c41b0 : decide ((Int.tmod a0 2147483648) < 0) = true := decide_eq_true c41
                            clear c41
                            obtain rfl := Option.some.inj H
                            go_wp2_with (first | ((with_reducible refine gate_callee (f := 31) rfl ?_); refine goesL_ (some 106) rfl rfl Tryd.func31 (by kernel_rfl) rfl #[.int .i64 (Int.tmod a0 2147483648)] rfl (by (try simp only [List.map_toArray, List.map_cons, List.map_nil]); first | done | rfl | (simp only [List.length_drop, List.length_take]; rfl)) ?_; (with_reducible refine (fix_Root.calls kj23 (Int.tmod a0 2147483648) t136 _ A40.out).mono ?_); rintro e w' ⟨rfl, ⟨nd, rfl⟩⟩; refine ⟨_, rfl, ?_⟩))
                            go_ret
                            exact ⟨by first | rfl | (simp [errW_none, errW_some] <;> rfl) | (simp [*, errW_none, errW_some] <;> rfl), by repeat (first | (with_reducible first | exact HB.out | apply below_alloc | apply pw_below_drewN | apply below_drew1) | exact HB.out)⟩
                          · rw [if_neg c41] at H
                            have c41b0 : decide ((Int.tmod a0 2147483648) < 0) = false := decide_eq_false c41
                            clear c41
                            by_cases c42 : (wrap64 (t136 * t136)) ≤ (wrap64 ((Int.tmod a0 2147483648) * 65536))
                            · rw [if_pos c42] at H
                              have c42b0 : decide ((wrap64 (t136 * t136)) ≤ (wrap64 ((Int.tmod a0 2147483648) * 65536))) = true := decide_eq_true c42
                              clear c42
                              obtain rfl := Option.some.inj H
                              go_wp2_with (first | ((with_reducible refine gate_callee (f := 31) rfl ?_); refine goesL_ (some 106) rfl rfl Tryd.func31 (by kernel_rfl) rfl #[.int .i64 (Int.tmod a0 2147483648)] rfl (by (try simp only [List.map_toArray, List.map_cons, List.map_nil]); first | done | rfl | (simp only [List.length_drop, List.length_take]; rfl)) ?_; (with_reducible refine (fix_Root.calls kj23 (Int.tmod a0 2147483648) t136 _ A40.out).mono ?_); rintro e w' ⟨rfl, ⟨nd, rfl⟩⟩; refine ⟨_, rfl, ?_⟩))
                              go_ret
                              exact ⟨by first | rfl | (simp [errW_none, errW_some] <;> rfl) | (simp [*, errW_none, errW_some] <;> rfl), by repeat (first | (with_reducible first | exact HB.out | apply below_alloc | apply pw_below_drewN | apply below_drew1) | exact HB.out)⟩
                            · rw [if_neg c42] at H
                              have c42b0 : decide ((wrap64 (t136 * t136)) ≤ (wrap64 ((Int.tmod a0 2147483648) * 65536))) = false := decide_eq_false c42
                              clear c42
                              obtain rfl := Option.some.inj H
                              go_wp2_with (first | ((with_reducible refine gate_callee (f := 31) rfl ?_); refine goesL_ (some 106) rfl rfl Tryd.func31 (by kernel_rfl) rfl #[.int .i64 (Int.tmod a0 2147483648)] rfl (by (try simp only [List.map_toArray, List.map_cons, List.map_nil]); first | done | rfl | (simp only [List.length_drop, List.length_take]; rfl)) ?_; (with_reducible refine (fix_Root.calls kj23 (Int.tmod a0 2147483648) t136 _ A40.out).mono ?_); rintro e w' ⟨rfl, ⟨nd, rfl⟩⟩; refine ⟨_, rfl, ?_⟩))
                              go_ret
                              exact ⟨by first | rfl | (simp [errW_none, errW_some] <;> rfl) | (simp [*, errW_none, errW_some] <;> rfl), by repeat (first | (with_reducible first | exact HB.out | apply below_alloc | apply pw_below_drewN | apply below_drew1) | exact HB.out)⟩
    · rw [if_neg c6] at H
      have c6b0 : (t131 == (wrap64 ((Int.tmod a0 2147483648) + (Int.tmod a1 2147483648)))) = false := beq_eq_false_iff_ne.mpr c6
      have c6b1 : (t131 != (wrap64 ((Int.tmod a0 2147483648) + (Int.tmod a1 2147483648)))) = true := bne_iff_ne.mpr c6
      obtain rfl := Option.some.inj H
      go_enter Tryd.func13, Tryd.ntmps13
      go_wp2_with (first | ((with_reducible refine gate_callee (f := 30) rfl ?_); refine goesL_ (some 12) rfl rfl Tryd.func30 (by kernel_rfl) rfl #[] rfl (by (try simp only [List.map_toArray, List.map_cons, List.map_nil]); first | done | rfl | (simp only [List.length_drop, List.length_take]; rfl)) ?_; (with_reducible refine (joustlaw03_fixed.calls  true _ A3.out (by first | (repeat (first | exact HG.out | apply Sines.drewN | apply Sines.drew); done) | exact Sines.below HG.out (by repeat (first | (with_reducible first | exact HB.out | apply below_alloc | apply pw_below_drewN | apply below_drew1) | exact HB.out)))).mono ?_); rintro e w43 ⟨rfl, hb⟩; refine ⟨_, rfl, ?_⟩; have n0_ := Aside0.mk (below_step (by repeat (first | (with_reducible first | exact HB.out | apply below_alloc | apply pw_below_drewN | apply below_drew1) | exact HB.out)) hb); clear HB; have HB := n0_; clear n0_; (try clear hb); (try clear hb2); (try clear hk); (try clear hi)) | ((with_reducible refine gate_callee (f := 33) rfl ?_); refine goesL_ (some 20) rfl rfl Tryd.func33 (by kernel_rfl) rfl #[.int .i64 (Int.tmod a0 2147483648), .int .i64 (Int.tmod a1 2147483648)] rfl (by (try simp only [List.map_toArray, List.map_cons, List.map_nil]); first | done | rfl | (simp only [List.length_drop, List.length_take]; rfl)) ?_; (with_reducible refine (fix_Add.calls k (Int.tmod a0 2147483648) (Int.tmod a1 2147483648) t131 _ A5.out).mono ?_); rintro e w44 ⟨rfl, hb⟩; refine ⟨_, rfl, ?_⟩; have n0_ := Aside0.mk (below_step (by repeat (first | (with_reducible first | exact HB.out | apply below_alloc | apply pw_below_drewN | apply below_drew1) | exact HB.out)) hb); clear HB; have HB := n0_; clear n0_; (try clear hb); (try clear hb2); (try clear hk); (try clear hi)))
      go_ret
      exact ⟨by first | rfl | (simp [errW_none, errW_some] <;> rfl) | (simp [*, errW_none, errW_some] <;> rfl), by repeat (first | (with_reducible first | exact HB.out | apply below_alloc | apply pw_below_drewN | apply below_drew1) | exact HB.out)⟩
  · replace c4 := Bool.eq_false_iff.mpr c4
    subst c4
    have H1 : (some false) = some r := by rw [if_neg (show ¬ (false = true) by decide)] at H; exact H
    clear H
    have H := H1
    clear H1
    obtain rfl := Option.some.inj H
    go_enter Tryd.func13, Tryd.ntmps13
    go_wp2_with (first | ((with_reducible refine gate_callee (f := 30) rfl ?_); refine goesL_ (some 12) rfl rfl Tryd.func30 (by kernel_rfl) rfl #[] rfl (by (try simp only [List.map_toArray, List.map_cons, List.map_nil]); first | done | rfl | (simp only [List.length_drop, List.length_take]; rfl)) ?_; (with_reducible refine (joustlaw03_fixed.calls  false _ A3.out (by first | (repeat (first | exact HG.out | apply Sines.drewN | apply Sines.drew); done) | exact Sines.below HG.out (by repeat (first | (with_reducible first | exact HB.out | apply below_alloc | apply pw_below_drewN | apply below_drew1) | exact HB.out)))).mono ?_); rintro e w45 ⟨rfl, hb⟩; refine ⟨_, rfl, ?_⟩; have n0_ := Aside0.mk (below_step (by repeat (first | (with_reducible first | exact HB.out | apply below_alloc | apply pw_below_drewN | apply below_drew1) | exact HB.out)) hb); clear HB; have HB := n0_; clear n0_; (try clear hb); (try clear hb2); (try clear hk); (try clear hi)))
    go_ret
    exact ⟨by first | rfl | (simp [errW_none, errW_some] <;> rfl) | (simp [*, errW_none, errW_some] <;> rfl), by repeat (first | (with_reducible first | exact HB.out | apply below_alloc | apply pw_below_drewN | apply below_drew1) | exact HB.out)⟩

/-- THE ONE PURE STATEMENT of joustlaw03_FixRounds: yours. -/
def joustlaw03_FixRounds.Pure : Prop := ∀ (a0 : Int) (a1 : Int), (Lit.int .i64 a0).wf = true → (Lit.int .i64 a1).wf = true → ∃ k, joustlaw03_FixRounds.f k a0 a1 = some true
end Go.Proofs.YtnknbikkgohlmaaDoor.VFixRounds
