/- ShotFires: the walk. -/
import Derived.Test.YtinjlkceplhibaaDoorShG
import Derived.Test.YtinjlkceplhibaaDoorOpenS
namespace Go.Proofs.YtinjlkceplhibaaDoor
open Go.RowKit

set_option maxHeartbeats 4000000 in
set_option maxRecDepth 100000 in
theorem shotFires_any (w : World) (hG : Sines w) (c : Cr) (hc : c.Ok) (id : Int) : Calls Tryd.prog 3 #[c.agg, .int .i64 id] w fun e w' => e = .returned (.bool true) ∧ Mod none_ w w' := by
  obtain ⟨x, s, t, h1, h2⟩ : ∃ (x : Cr) (s : Sh) (t : Bool), (∀ q, Sines q → Calls Tryd.prog 16 #[c.agg, .int .i64 id] q fun e w' => e = .returned (.tuple #[x.agg, s.agg, .bool t]) ∧ Mod none_ q w') ∧ (∀ q, Calls Tryd.prog 17 #[c.agg, .int .i64 id] q fun e w' => e = .returned (.tuple #[x.agg, s.agg, .bool t]) ∧ Mod none_ q w') := by
    by_cases hm : c.may
    · exact ⟨c.fired, c.shot id, true, fun q hq => fire_yes q hq c hc id hm, fun q => rfire_yes q c hc id hm⟩
    · exact ⟨c, shot0, false, fun q _ => fire_no q c id hm, fun q => rfire_no q c id hm⟩
  have ha := fun (q : World) (h : Sines q) => alive16_any q h
  have H1 := Lib.hid h1; have H2 := Lib.hid h2; have HA := Lib.hid ha; have HG := Lib.hid hG
  clear h1 h2 ha hG hc
  unfold Cr.agg Sh.agg at H1 H2
  unfold Cr.agg
  go_enter Tryd.func3, Tryd.ntmps3
  go_upto_region 1 with fail
  obtain ⟨w1, hw1, hB1, hM1⟩ : ∃ w1, w.alloc (.cells c.cells.toArray 25) = w1 ∧ Blk w1 w.heap.size c.cells 25 ∧ Mod none_ w w1 := ⟨_, rfl, Blk.new w c.cells _, (Mod.refl none_ w).alloc _⟩
  rw [hw1]
  obtain ⟨G, hG⟩ : ∃ G, w.heap.size = G := ⟨_, rfl⟩
  rw [hG] at hB1 ⊢
  have HB1 := Lib.hid hB1; have HM1 := Lib.hid hM1
  clear hB1 hM1 hw1 hG
  go_upto_region 3 with (go_at_call 15; refine (HA.out _ (HG.out.mod HM1.out)).mono ?_; rintro r w2 ⟨rfl, hM⟩; have HM2 := Lib.hid (HM1.out.then hM); have HB2 := Lib.hid (hM.blk HB1.out (fun h => h)); clear hM)
  clear HB1 HM1
  go_upto_region 4 with (first | (refine wpList_load_blk rfl 25 (.tmp 2) rfl G rfl 25 c.cells _ HB2.out under_car rfl size_car ?_) | (go_at_call 16; refine (H1.out _ (HG.out.mod HM2.out)).mono ?_; rintro r w3 ⟨rfl, hM⟩; have HM3 := Lib.hid (HM2.out.then hM); have HCw3 := Lib.hid (hM.blk HB2.out (fun h => h)); clear hM) | (refine wpList_store_blk rfl 25 (.tmp 5) (.tmp 17) rfl w3.heap.size x.cells rfl rfl 25 _ (two_new w3).1 size_car rfl (one_car _) ?_; intro w4 hX4 hM4 _) | (refine wpList_store_blk rfl 28 (.tmp 6) (.tmp 18) rfl (w3.heap.size + 1) s.cells rfl rfl 28 _ (hM4.blk (two_new w3).2.1 (not_only (by omega))) size_shot rfl (one_shot _) ?_; intro w5 hY5 hM5 _))
  have hX5 := hM5.blk hX4 (not_only (by omega))
  have hm5 : Mod none_ w3 w5 := ((two_new w3).2.2.trans hM4 (fun j hj e => by have : j = w3.heap.size := e; omega)).trans hM5 (fun j hj e => by have : j = w3.heap.size + 1 := e; omega)
  have HCw5 := Lib.hid (hm5.blk HCw3.out (fun h => h)); have HKw5 := Lib.hid (HM3.out.then hm5)
  obtain ⟨X, hX⟩ : ∃ X, w3.heap.size = X := ⟨_, rfl⟩
  rw [hX] at hX5 hY5 ⊢
  have HXw5 := Lib.hid hX5; have HYw5 := Lib.hid hY5
  clear hX4 hM4 hM5 hm5 hX5 hY5 hX HB2 HM2 HM3 HCw3
  go_upto_region 5 with (first | (refine wpList_load_blk rfl 25 (.tmp 2) rfl G rfl 25 c.cells _ HCw5.out under_car rfl size_car ?_) | (go_at_call 17; refine (H2.out _).mono ?_; rintro r w7 ⟨rfl, hM⟩; have HM7 := Lib.hid (HKw5.out.then hM); have HX7 := Lib.hid (hM.blk HXw5.out (fun h => h)); have HY7 := Lib.hid (hM.blk HYw5.out (fun h => h)); have HCw7 := Lib.hid (hM.blk HCw5.out (fun h => h)); clear hM) | (refine wpList_store_blk rfl 25 (.tmp 8) (.tmp 24) rfl w7.heap.size x.cells rfl rfl 25 _ (two_new w7).1 size_car rfl (one_car _) ?_; intro w8 hX4 hM4 _) | (refine wpList_store_blk rfl 28 (.tmp 9) (.tmp 25) rfl (w7.heap.size + 1) s.cells rfl rfl 28 _ (hM4.blk (two_new w7).2.1 (not_only (by omega))) size_shot rfl (one_shot _) ?_; intro w9 hY5 hM5 _))
  have hX5 := hM5.blk hX4 (not_only (by omega))
  have hm5 : Mod none_ w7 w9 := ((two_new w7).2.2.trans hM4 (fun j hj e => by have : j = w7.heap.size := e; omega)).trans hM5 (fun j hj e => by have : j = w7.heap.size + 1 := e; omega)
  have HCw9 := Lib.hid (hm5.blk HCw7.out (fun h => h)); have HKw9 := Lib.hid (HM7.out.then hm5)
  obtain ⟨Y, hX⟩ : ∃ X, w7.heap.size = X := ⟨_, rfl⟩
  rw [hX] at hX5 hY5 ⊢
  have HXw9 := Lib.hid hX5; have HYw9 := Lib.hid hY5
  have HX9 := Lib.hid (hm5.blk HX7.out (fun h => h)); have HY9 := Lib.hid (hm5.blk HY7.out (fun h => h))
  clear hX4 hM4 hM5 hm5 hX5 hY5 hX HKw5 HM7 HCw7 HCw5 HXw5 HYw5
  have heq := fun q : World => eqC q x x
  rw [Cr.beq_self] at heq
  have heqs := fun q : World => eqSh q s s
  rw [Sh.beq_self] at heqs
  simp only [Cr.agg] at heq
  simp only [Sh.agg, Sh.cells] at heqs
  have a0 := HY9.out.cell (j := 0) rfl; have b0 := HYw9.out.cell (j := 0) rfl; have a1 := HY9.out.cell (j := 1) rfl; have b1 := HYw9.out.cell (j := 1) rfl; have a2 := HY9.out.cell (j := 2) rfl; have b2 := HYw9.out.cell (j := 2) rfl; have a3 := HY9.out.cell (j := 3) rfl; have b3 := HYw9.out.cell (j := 3) rfl; have a4 := HY9.out.cell (j := 4) rfl; have b4 := HYw9.out.cell (j := 4) rfl; have a5 := HY9.out.cell (j := 5) rfl; have b5 := HYw9.out.cell (j := 5) rfl; have a6 := HY9.out.cell (j := 6) rfl; have b6 := HYw9.out.cell (j := 6) rfl
  go_wp2_with (first | (refine wpList_load_blk rfl 25 (.tmp 5) rfl X rfl 25 x.cells _ HX9.out under_car rfl size_car ?_) | (refine wpList_load_blk rfl 25 (.tmp 8) rfl Y rfl 25 x.cells _ HXw9.out under_car rfl size_car ?_))
  go_ret
  exact ⟨by cases t <;> rfl, HKw9.out⟩
end Go.Proofs.YtinjlkceplhibaaDoor
