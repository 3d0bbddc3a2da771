/- ShotPays: the walk. -/
import Derived.Test.YtinjlkceplhibaaDoorShG
namespace Go.Proofs.YtinjlkceplhibaaDoor
open Go.RowKit

/-- is a part so great that a sum may be kept within the bound? -/
def farB (a b : Int) : Bool := decide (1099511365632 < a) || (decide (a < -1099511365632) || (decide (1099511365632 < b) || decide (b < -1099511365632)))
set_option maxHeartbeats 2000000 in
set_option maxRecDepth 100000 in
theorem far_any (w : World) (a b : Int) : Calls Tryd.prog 27 #[.agg #[.int .i64 a, .int .i64 b]] w fun e w' => e = .returned (.bool (farB a b)) ∧ Mod none_ w w' := by
  obtain ⟨R, hR⟩ : ∃ R, farB a b = R := ⟨_, rfl⟩
  rw [hR]
  unfold farB at hR
  go_enter Tryd.func27, Tryd.ntmps27
  go_upto_region 1 with fail
  obtain ⟨w1, hw1, hB1, hM1⟩ : ∃ w1, w.alloc (.cells #[.int .i64 a, .int .i64 b] 23) = w1 ∧ Blk w1 w.heap.size [.int .i64 a, .int .i64 b] 23 ∧ Mod none_ w w1 := ⟨_, rfl, Blk.new w _ _, (Mod.refl none_ w).alloc _⟩
  rw [hw1]
  have q0 := hB1.cell (j := 0) rfl; have q1 := hB1.cell (j := 1) rfl
  have HM1 := Lib.hid hM1
  clear hB1 hM1 hw1
  by_cases c1 : 1099511365632 < a
  · have d1 : decide (1099511365632 < a) = true := decide_eq_true c1
    rw [d1] at hR
    have hr : R = true := by rw [← hR]; rfl
    clear hR
    go_wp2_with fail
    go_ret
    subst hr
    exact ⟨rfl, HM1.out⟩
  · have d1 : decide (1099511365632 < a) = false := decide_eq_false c1
    by_cases c2 : a < -1099511365632
    · have d2 : decide (a < -1099511365632) = true := decide_eq_true c2
      have hr : R = true := by rw [← hR, d1, d2]; rfl
      clear hR
      go_wp2_with fail
      go_ret
      subst hr
      exact ⟨rfl, HM1.out⟩
    · have d2 : decide (a < -1099511365632) = false := decide_eq_false c2
      by_cases c3 : 1099511365632 < b
      · have d3 : decide (1099511365632 < b) = true := decide_eq_true c3
        have hr : R = true := by rw [← hR, d1, d2, d3]; rfl
        clear hR
        go_wp2_with fail
        go_ret
        subst hr
        exact ⟨rfl, HM1.out⟩
      · have d3 : decide (1099511365632 < b) = false := decide_eq_false c3
        obtain ⟨d, hd⟩ : ∃ d, decide (b < -1099511365632) = d := ⟨_, rfl⟩
        have hr : R = d := by rw [← hR, d1, d2, d3, hd]; rfl
        clear hR
        go_wp2_with fail
        go_ret
        subst hr
        exact ⟨rfl, HM1.out⟩
set_option maxHeartbeats 4000000 in
set_option maxRecDepth 100000 in
theorem shotPays_no (w : World) (hG : Sines w) (c : Cr) (id : Int) (hm : ¬ c.may) : Calls Tryd.prog 5 #[c.agg, .int .i64 id] w fun e w' => e = .returned (.bool true) ∧ Mod none_ w w' := by
  have h1 := fun q : World => fire_no q c id hm
  unfold Cr.agg Sh.agg at h1
  have H1 := Lib.hid h1
  clear h1
  have ha := fun (q : World) (h : Sines q) => alive16_any q h
  have HA := Lib.hid ha; have HG := Lib.hid hG
  clear ha hG
  unfold Cr.agg
  go_enter Tryd.func5, Tryd.ntmps5
  go_upto_region 1 with fail
  obtain ⟨w1, hw1, hB1, hM1⟩ : ∃ w1, w.alloc (.cells c.cells.toArray 25) = w1 ∧ Blk w1 w.heap.size c.cells 25 ∧ Mod none_ w w1 := ⟨_, rfl, Blk.new w c.cells _, (Mod.refl none_ w).alloc _⟩
  rw [hw1]
  obtain ⟨G, hG⟩ : ∃ G, w.heap.size = G := ⟨_, rfl⟩
  rw [hG] at hB1 ⊢
  have HB1 := Lib.hid hB1; have HM1 := Lib.hid hM1
  clear hB1 hM1 hw1 hG
  go_upto_region 3 with (go_at_call 15; refine (HA.out _ (HG.out.mod HM1.out)).mono ?_; rintro r w2 ⟨rfl, hM⟩; have HM2 := Lib.hid (HM1.out.then hM); have HB2 := Lib.hid (hM.blk HB1.out (fun h => h)); clear hM)
  clear HB1 HM1
  go_upto_region 4 with (first | (refine wpList_load_blk rfl 25 (.tmp 2) rfl G rfl 25 c.cells _ HB2.out under_car rfl size_car ?_) | (go_at_call 16; refine (H1.out _).mono ?_; rintro r w3 ⟨rfl, hM⟩; have HM3 := Lib.hid (HM2.out.then hM); have HCw3 := Lib.hid (hM.blk HB2.out (fun h => h)); clear hM) | (refine wpList_store_blk rfl 25 (.tmp 5) (.tmp 21) rfl w3.heap.size c.cells rfl rfl 25 _ (two_new w3).1 size_car rfl (one_car _) ?_; intro w4 hX4 hM4 _) | (refine wpList_store_blk rfl 28 (.tmp 6) (.tmp 22) rfl (w3.heap.size + 1) shot0.cells rfl rfl 28 _ (hM4.blk (two_new w3).2.1 (not_only (by omega))) size_shot rfl (one_shot _) ?_; intro w5 hY5 hM5 _))
  have hX5 := hM5.blk hX4 (not_only (by omega))
  have hm5 : Mod none_ w3 w5 := ((two_new w3).2.2.trans hM4 (fun j hj e => by have : j = w3.heap.size := e; omega)).trans hM5 (fun j hj e => by have : j = w3.heap.size + 1 := e; omega)
  have HCw5 := Lib.hid (hm5.blk HCw3.out (fun h => h)); have HKw5 := Lib.hid (HM3.out.then hm5)
  obtain ⟨X, hX⟩ : ∃ X, w3.heap.size = X := ⟨_, rfl⟩
  rw [hX] at hX5 hY5 ⊢
  have HXw5 := Lib.hid hX5; have HYw5 := Lib.hid hY5
  clear hX4 hM4 hM5 hm5 hX5 hY5 hX HB2 HM2 HM3 HCw3
  have heq := fun q : World => eqC q c c
  rw [Cr.beq_self] at heq
  have heqs := fun q : World => eqSh q shot0 shot0
  rw [Sh.beq_self] at heqs
  simp only [Cr.agg] at heq
  simp only [Sh.agg, Sh.cells, shot0] at heqs
  have y0 := HYw5.out.cell (j := 0) (v := .int .i64 0) rfl; have y1 := HYw5.out.cell (j := 1) (v := .int .i64 0) rfl; have y2 := HYw5.out.cell (j := 2) (v := .int .i64 0) rfl; have y3 := HYw5.out.cell (j := 3) (v := .int .i64 0) rfl; have y4 := HYw5.out.cell (j := 4) (v := .int .i64 0) rfl; have y5 := HYw5.out.cell (j := 5) (v := .int .i64 0) rfl; have y6 := HYw5.out.cell (j := 6) (v := .int .i64 0) rfl
  have g11 := HCw5.out.cell (j := 11) rfl; have g10 := HCw5.out.cell (j := 10) rfl; have g9 := HCw5.out.cell (j := 9) rfl; have g8 := HCw5.out.cell (j := 8) rfl
  unfold Cr.may at hm
  by_cases c1 : 0 < c.wait
  · have d1 : decide (0 < c.wait) = true := decide_eq_true c1
    clear hm
    go_wp2_with (first | (refine wpList_load_blk rfl 25 (.tmp 5) rfl X rfl 25 c.cells _ HXw5.out under_car rfl size_car ?_) | (refine wpList_load_blk rfl 25 (.tmp 2) rfl G rfl 25 c.cells _ HCw5.out under_car rfl size_car ?_))
    go_ret
    exact ⟨rfl, HKw5.out⟩
  · have d1 : decide (0 < c.wait) = false := decide_eq_false c1
    cases d2 : (c.cool != 0) with
    | true =>
      clear hm
      go_wp2_with (first | (refine wpList_load_blk rfl 25 (.tmp 5) rfl X rfl 25 c.cells _ HXw5.out under_car rfl size_car ?_) | (refine wpList_load_blk rfl 25 (.tmp 2) rfl G rfl 25 c.cells _ HCw5.out under_car rfl size_car ?_))
      go_ret
      exact ⟨rfl, HKw5.out⟩
    | false =>
      have e2 : c.cool = 0 := by simpa using d2
      by_cases c3 : c.ammo ≤ 0
      · have d3 : decide (c.ammo ≤ 0) = true := decide_eq_true c3
        clear hm e2
        go_wp2_with (first | (refine wpList_load_blk rfl 25 (.tmp 5) rfl X rfl 25 c.cells _ HXw5.out under_car rfl size_car ?_) | (refine wpList_load_blk rfl 25 (.tmp 2) rfl G rfl 25 c.cells _ HCw5.out under_car rfl size_car ?_))
        go_ret
        exact ⟨rfl, HKw5.out⟩
      · have d3 : decide (c.ammo ≤ 0) = false := decide_eq_false c3
        have c4 : c.energy < 8 := by
          by_cases h : c.energy < 8
          · exact h
          · exact absurd ⟨c1, e2, c3, h⟩ hm
        have d4 : decide (c.energy < 8) = true := decide_eq_true c4
        clear hm e2
        go_wp2_with (first | (refine wpList_load_blk rfl 25 (.tmp 5) rfl X rfl 25 c.cells _ HXw5.out under_car rfl size_car ?_) | (refine wpList_load_blk rfl 25 (.tmp 2) rfl G rfl 25 c.cells _ HCw5.out under_car rfl size_car ?_))
        go_ret
        exact ⟨rfl, HKw5.out⟩
end Go.Proofs.YtinjlkceplhibaaDoor
