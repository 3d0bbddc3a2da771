/- Shots: the document's Fire: the walks. -/
import Derived.Test.YtinjlkceplhibaaDoorShB
namespace Go.Proofs.YtinjlkceplhibaaDoor
open Go.RowKit

set_option maxHeartbeats 1000000 in
set_option maxRecDepth 100000 in
theorem rfire_no (w : World) (c : Cr) (id : Int) (h : ¬ c.may) : Calls Tryd.prog 17 #[c.agg, .int .i64 id] w fun e w' => e = .returned (.tuple #[c.agg, shot0.agg, .bool false]) ∧ Mod none_ w w' := by
  unfold Cr.may at h
  unfold Cr.agg
  by_cases c1 : 0 < c.wait
  · clear h
    go_enter Tryd.func17, Tryd.ntmps17
    go_upto_region 1 with fail
    obtain ⟨w1, hw1, hB, hX, hY, hM⟩ := fire_new w c
    rw [hw1]
    obtain ⟨Z, hZ⟩ : ∃ Z, w.heap.size = Z := ⟨_, rfl⟩
    rw [hZ] at hB hX hY ⊢
    obtain ⟨X, hXe⟩ : ∃ X, Z + 1 = X := ⟨_, rfl⟩
    rw [hXe] at hX hY ⊢
    obtain ⟨Y, hYe⟩ : ∃ Y, X + 1 = Y := ⟨_, rfl⟩
    rw [hYe] at hY ⊢
    have q11 := hB.cell (j := 11) rfl; have q10 := hB.cell (j := 10) rfl; have q9 := hB.cell (j := 9) rfl; have q8 := hB.cell (j := 8) rfl
    have HB := Lib.hid hB; have HX := Lib.hid hX; have HY := Lib.hid hY; have HM := Lib.hid hM
    have HZX := Lib.hid (show w.heap.size ≤ X ∧ w.heap.size ≤ Y ∧ X ≠ Y by omega)
    clear hB hX hY hM hw1 hZ hXe hYe
    go_wp2_with (first | (refine wpList_load_blk rfl 25 (.tmp 2) rfl Z rfl 25 c.cells _ HB.out under_car rfl size_car ?_) | (refine wpList_store_blk rfl 25 (.tmp 4) (.tmp 27) rfl X c.cells rfl rfl 25 _ HX.out size_car rfl (one_car c) ?_; intro w3 hX3 hM3 _; have HY3 := Lib.hid (hM3.blk HY.out (not_only (fun e => HZX.out.2.2 e.symm))); have HX3 := Lib.hid hX3; have HM3 := Lib.hid hM3; clear hX3 hM3) | (refine wpList_store_blk rfl 28 (.tmp 5) (.tmp 28) rfl Y shot0.cells rfl rfl 28 _ HY3.out size_shot rfl (one_shot shot0) ?_; intro w4 hY4 hM4 _))
    exact bodyPost_ret (three_back Tryd.results17 _ _ X Y c shot0 (.bool false) rfl (hM4.blk HX3.out (not_only HZX.out.2.2)) rfl hY4 rfl) rfl ⟨rfl, (HM.out.trans HM3.out (fun j hj e => by have : j = X := e; have := HZX.out; omega)).trans hM4 (fun j hj e => by have : j = Y := e; have := HZX.out; omega)⟩
  · by_cases c2 : c.cool = 0
    · have e2 : (c.cool != 0) = false := by simp [c2]
      by_cases c3 : c.ammo ≤ 0
      · clear h c2
        go_enter Tryd.func17, Tryd.ntmps17
        go_upto_region 1 with fail
        obtain ⟨w1, hw1, hB, hX, hY, hM⟩ := fire_new w c
        rw [hw1]
        obtain ⟨Z, hZ⟩ : ∃ Z, w.heap.size = Z := ⟨_, rfl⟩
        rw [hZ] at hB hX hY ⊢
        obtain ⟨X, hXe⟩ : ∃ X, Z + 1 = X := ⟨_, rfl⟩
        rw [hXe] at hX hY ⊢
        obtain ⟨Y, hYe⟩ : ∃ Y, X + 1 = Y := ⟨_, rfl⟩
        rw [hYe] at hY ⊢
        have q11 := hB.cell (j := 11) rfl; have q10 := hB.cell (j := 10) rfl; have q9 := hB.cell (j := 9) rfl; have q8 := hB.cell (j := 8) rfl
        have HB := Lib.hid hB; have HX := Lib.hid hX; have HY := Lib.hid hY; have HM := Lib.hid hM
        have HZX := Lib.hid (show w.heap.size ≤ X ∧ w.heap.size ≤ Y ∧ X ≠ Y by omega)
        clear hB hX hY hM hw1 hZ hXe hYe
        go_wp2_with (first | (refine wpList_load_blk rfl 25 (.tmp 2) rfl Z rfl 25 c.cells _ HB.out under_car rfl size_car ?_) | (refine wpList_store_blk rfl 25 (.tmp 4) (.tmp 27) rfl X c.cells rfl rfl 25 _ HX.out size_car rfl (one_car c) ?_; intro w3 hX3 hM3 _; have HY3 := Lib.hid (hM3.blk HY.out (not_only (fun e => HZX.out.2.2 e.symm))); have HX3 := Lib.hid hX3; have HM3 := Lib.hid hM3; clear hX3 hM3) | (refine wpList_store_blk rfl 28 (.tmp 5) (.tmp 28) rfl Y shot0.cells rfl rfl 28 _ HY3.out size_shot rfl (one_shot shot0) ?_; intro w4 hY4 hM4 _))
        exact bodyPost_ret (three_back Tryd.results17 _ _ X Y c shot0 (.bool false) rfl (hM4.blk HX3.out (not_only HZX.out.2.2)) rfl hY4 rfl) rfl ⟨rfl, (HM.out.trans HM3.out (fun j hj e => by have : j = X := e; have := HZX.out; omega)).trans hM4 (fun j hj e => by have : j = Y := e; have := HZX.out; omega)⟩
      · have c4 : c.energy < 8 := by
          by_cases c4 : c.energy < 8
          · exact c4
          · exact absurd ⟨c1, c2, c3, c4⟩ h
        clear h c2
        go_enter Tryd.func17, Tryd.ntmps17
        go_upto_region 1 with fail
        obtain ⟨w1, hw1, hB, hX, hY, hM⟩ := fire_new w c
        rw [hw1]
        obtain ⟨Z, hZ⟩ : ∃ Z, w.heap.size = Z := ⟨_, rfl⟩
        rw [hZ] at hB hX hY ⊢
        obtain ⟨X, hXe⟩ : ∃ X, Z + 1 = X := ⟨_, rfl⟩
        rw [hXe] at hX hY ⊢
        obtain ⟨Y, hYe⟩ : ∃ Y, X + 1 = Y := ⟨_, rfl⟩
        rw [hYe] at hY ⊢
        have q11 := hB.cell (j := 11) rfl; have q10 := hB.cell (j := 10) rfl; have q9 := hB.cell (j := 9) rfl; have q8 := hB.cell (j := 8) rfl
        have HB := Lib.hid hB; have HX := Lib.hid hX; have HY := Lib.hid hY; have HM := Lib.hid hM
        have HZX := Lib.hid (show w.heap.size ≤ X ∧ w.heap.size ≤ Y ∧ X ≠ Y by omega)
        clear hB hX hY hM hw1 hZ hXe hYe
        go_wp2_with (first | (refine wpList_load_blk rfl 25 (.tmp 2) rfl Z rfl 25 c.cells _ HB.out under_car rfl size_car ?_) | (refine wpList_store_blk rfl 25 (.tmp 4) (.tmp 27) rfl X c.cells rfl rfl 25 _ HX.out size_car rfl (one_car c) ?_; intro w3 hX3 hM3 _; have HY3 := Lib.hid (hM3.blk HY.out (not_only (fun e => HZX.out.2.2 e.symm))); have HX3 := Lib.hid hX3; have HM3 := Lib.hid hM3; clear hX3 hM3) | (refine wpList_store_blk rfl 28 (.tmp 5) (.tmp 28) rfl Y shot0.cells rfl rfl 28 _ HY3.out size_shot rfl (one_shot shot0) ?_; intro w4 hY4 hM4 _))
        exact bodyPost_ret (three_back Tryd.results17 _ _ X Y c shot0 (.bool false) rfl (hM4.blk HX3.out (not_only HZX.out.2.2)) rfl hY4 rfl) rfl ⟨rfl, (HM.out.trans HM3.out (fun j hj e => by have : j = X := e; have := HZX.out; omega)).trans hM4 (fun j hj e => by have : j = Y := e; have := HZX.out; omega)⟩
    · have e2 : (c.cool != 0) = true := by simp [c2]
      clear h c2
      go_enter Tryd.func17, Tryd.ntmps17
      go_upto_region 1 with fail
      obtain ⟨w1, hw1, hB, hX, hY, hM⟩ := fire_new w c
      rw [hw1]
      obtain ⟨Z, hZ⟩ : ∃ Z, w.heap.size = Z := ⟨_, rfl⟩
      rw [hZ] at hB hX hY ⊢
      obtain ⟨X, hXe⟩ : ∃ X, Z + 1 = X := ⟨_, rfl⟩
      rw [hXe] at hX hY ⊢
      obtain ⟨Y, hYe⟩ : ∃ Y, X + 1 = Y := ⟨_, rfl⟩
      rw [hYe] at hY ⊢
      have q11 := hB.cell (j := 11) rfl; have q10 := hB.cell (j := 10) rfl; have q9 := hB.cell (j := 9) rfl; have q8 := hB.cell (j := 8) rfl
      have HB := Lib.hid hB; have HX := Lib.hid hX; have HY := Lib.hid hY; have HM := Lib.hid hM
      have HZX := Lib.hid (show w.heap.size ≤ X ∧ w.heap.size ≤ Y ∧ X ≠ Y by omega)
      clear hB hX hY hM hw1 hZ hXe hYe
      go_wp2_with (first | (refine wpList_load_blk rfl 25 (.tmp 2) rfl Z rfl 25 c.cells _ HB.out under_car rfl size_car ?_) | (refine wpList_store_blk rfl 25 (.tmp 4) (.tmp 27) rfl X c.cells rfl rfl 25 _ HX.out size_car rfl (one_car c) ?_; intro w3 hX3 hM3 _; have HY3 := Lib.hid (hM3.blk HY.out (not_only (fun e => HZX.out.2.2 e.symm))); have HX3 := Lib.hid hX3; have HM3 := Lib.hid hM3; clear hX3 hM3) | (refine wpList_store_blk rfl 28 (.tmp 5) (.tmp 28) rfl Y shot0.cells rfl rfl 28 _ HY3.out size_shot rfl (one_shot shot0) ?_; intro w4 hY4 hM4 _))
      exact bodyPost_ret (three_back Tryd.results17 _ _ X Y c shot0 (.bool false) rfl (hM4.blk HX3.out (not_only HZX.out.2.2)) rfl hY4 rfl) rfl ⟨rfl, (HM.out.trans HM3.out (fun j hj e => by have : j = X := e; have := HZX.out; omega)).trans hM4 (fun j hj e => by have : j = Y := e; have := HZX.out; omega)⟩
set_option maxHeartbeats 2000000 in
set_option maxRecDepth 100000 in
theorem rfire_yes (w : World) (c : Cr) (hc : c.Ok) (id : Int) (h : c.may) : Calls Tryd.prog 17 #[c.agg, .int .i64 id] w fun e w' => e = .returned (.tuple #[c.fired.agg, (c.shot id).agg, .bool true]) ∧ Mod none_ w w' := by
  obtain ⟨c1, c2, c3, c4⟩ := h
  have hen := hc.energy; have ham := hc.ammo
  unfold Bd.I64 at hen ham
  have hu := fun q : World => runit_any q c.heading
  have b1 := sinT_bd (c.heading + 64)
  have b2 := sinT_bd c.heading
  have ha1 := fun q : World => rsum_any q c.ax (2 * sinT (c.heading + 64)) 1099511627776 hc.ax (by unfold Bd.I64; omega) (by decide)
  have ha2 := fun q : World => rsum_any q c.ay (2 * sinT c.heading) 1099511627776 hc.ay (by unfold Bd.I64; omega) (by decide)
  have ha3 := fun q : World => rsum_any q c.sx (3 * sinT (c.heading + 64)) 1099511627776 hc.sx (by unfold Bd.I64; omega) (by decide)
  have ha4 := fun q : World => rsum_any q c.sy (3 * sinT c.heading) 1099511627776 hc.sy (by unfold Bd.I64; omega) (by decide)
  have m1 : 2 * sinT (c.heading + 64) = sinT (c.heading + 64) * 2 := Int.mul_comm _ _
  have m2 : 2 * sinT c.heading = sinT c.heading * 2 := Int.mul_comm _ _
  have m3 : 3 * sinT (c.heading + 64) = sinT (c.heading + 64) * 3 := Int.mul_comm _ _
  have m4 : 3 * sinT c.heading = sinT c.heading * 3 := Int.mul_comm _ _
  have x1 : Vx.keep (c.ax + 2 * sinT (c.heading + 64)) 1099511627776 = Vx.lim (c.ax + sinT (c.heading + 64) * 2) := by rw [m1, Vx.keep_lim]
  have x2 : Vx.keep (c.ay + 2 * sinT c.heading) 1099511627776 = Vx.lim (c.ay + sinT c.heading * 2) := by rw [m2, Vx.keep_lim]
  have x3 : Vx.keep (c.sx + 3 * sinT (c.heading + 64)) 1099511627776 = Vx.lim (c.sx + sinT (c.heading + 64) * 3) := by rw [m3, Vx.keep_lim]
  have x4 : Vx.keep (c.sy + 3 * sinT c.heading) 1099511627776 = Vx.lim (c.sy + sinT c.heading * 3) := by rw [m4, Vx.keep_lim]
  simp only [x1] at ha1
  simp only [x2] at ha2
  simp only [x3] at ha3
  simp only [x4] at ha4
  clear m1 m2 m3 m4 x1 x2 x3 x4
  have hsh : c.shot id = ⟨id, c.player, Vx.lim (c.ax + sinT (c.heading + 64) * 2), Vx.lim (c.ay + sinT c.heading * 2), Vx.lim (c.sx + sinT (c.heading + 64) * 3), Vx.lim (c.sy + sinT c.heading * 3), 48⟩ := rfl
  generalize Vx.lim (c.ax + sinT (c.heading + 64) * 2) = R1 at *
  generalize Vx.lim (c.ay + sinT c.heading * 2) = R2 at *
  generalize Vx.lim (c.sx + sinT (c.heading + 64) * 3) = R3 at *
  generalize Vx.lim (c.sy + sinT c.heading * 3) = R4 at *
  generalize sinT (c.heading + 64) = ux at *
  generalize sinT c.heading = uy at *
  obtain ⟨sh, hs⟩ : ∃ s, c.shot id = s := ⟨_, rfl⟩
  rw [hs] at hsh ⊢
  have HSH := Lib.hid hsh; have HU := Lib.hid hu; have HA1 := Lib.hid ha1; have HA2 := Lib.hid ha2; have HA3 := Lib.hid ha3; have HA4 := Lib.hid ha4
  have e2 : (c.cool != 0) = false := by simp [c2]
  clear hsh hs hu ha1 ha2 ha3 ha4 hc c2
  unfold Cr.agg Sh.agg
  go_enter Tryd.func17, Tryd.ntmps17
  go_upto_region 1 with fail
  obtain ⟨w1, hw1, hB, hX, hY, hM⟩ := fire_new w c
  rw [hw1]
  obtain ⟨Z, hZ⟩ : ∃ Z, w.heap.size = Z := ⟨_, rfl⟩
  rw [hZ] at hB hX hY ⊢
  obtain ⟨X, hXe⟩ : ∃ X, Z + 1 = X := ⟨_, rfl⟩
  rw [hXe] at hX hY ⊢
  obtain ⟨Y, hYe⟩ : ∃ Y, X + 1 = Y := ⟨_, rfl⟩
  rw [hYe] at hY ⊢
  have q11 := hB.cell (j := 11) rfl; have q10 := hB.cell (j := 10) rfl; have q9 := hB.cell (j := 9) rfl; have q8 := hB.cell (j := 8) rfl; have q6 := hB.cell (j := 6) rfl
  have hYl := hY.lt
  have HB := Lib.hid hB; have HX := Lib.hid hX; have HY := Lib.hid hY; have HM := Lib.hid hM
  have HZX := Lib.hid (show w.heap.size ≤ Z ∧ w.heap.size ≤ X ∧ w.heap.size ≤ Y ∧ X ≠ Y ∧ Z ≠ X ∧ Z ≠ Y by omega)
  clear hB hX hY hM hw1 hZ hXe hYe
  go_upto_region 4 with (first | (go_at_call 50; refine (HU.out _).mono ?_; rintro r w2 ⟨rfl, hM2⟩; have HM2 := Lib.hid hM2; have hs2 := hM2.size; clear hM2))
  have hF0 : FiS Z w2.heap.size X Y c ux uy w (w2.alloc (.cells #[.int .i64 ux, .int .i64 uy] 23)) :=
    have hA : Mod none_ w1 (w2.alloc (.cells #[.int .i64 ux, .int .i64 uy] 23)) := HM2.out.alloc _
    ⟨hA.blk HB.out (fun h => h), Blk.new w2 [.int .i64 ux, .int .i64 uy] _, hA.blk HX.out (fun h => h), hA.blk HY.out (fun h => h), HM.out.then hA⟩
  obtain ⟨w3, hw3⟩ : ∃ w3, w2.alloc (.cells #[.int .i64 ux, .int .i64 uy] 23) = w3 := ⟨_, rfl⟩
  obtain ⟨U, hU⟩ : ∃ U, w2.heap.size = U := ⟨_, rfl⟩
  rw [hw3] at hF0 ⊢
  rw [hU] at hF0 ⊢
  have HZU := Lib.hid (show X < U ∧ Y < U ∧ Z < U by have := HZX.out; have := HB.out.lt; have := HX.out.lt; omega)
  have HF0 := Lib.hid hF0
  clear hF0 hw3 hU q11 q10 q9 q8 q6 HB HX HY HM HM2 hs2 hYl
  have q0 := HF0.out.car.cell (j := 0) rfl
  go_upto_region 5 with fail
  obtain ⟨w4, hw4⟩ : ∃ w4, w3.alloc (.cells #[.int .i64 id, .int .i64 c.player, .int .i64 0, .int .i64 0, .int .i64 0, .int .i64 0, .int .i64 48] 28) = w4 := ⟨_, rfl⟩
  have hB4 : Blk w4 w3.heap.size (⟨id, c.player, 0, 0, 0, 0, 48⟩ : Sh).cells 28 := hw4 ▸ Blk.new w3 (⟨id, c.player, 0, 0, 0, 0, 48⟩ : Sh).cells _
  have hF4 : FiS Z U X Y c ux uy w w4 := hw4 ▸ HF0.out.none ((Mod.refl _ _).alloc _)
  have hl3 := HF0.out.lt
  rw [hw4]
  obtain ⟨B, hBe⟩ : ∃ B, w3.heap.size = B := ⟨_, rfl⟩
  rw [hBe] at hB4 hl3 ⊢
  have hzb := HZX.out
  have hSZ : Z < B ∧ U < B ∧ X < B ∧ Y < B ∧ w.heap.size ≤ Z := by omega
  have e1 : IntKind.i64.wrap (2 * ux) = 2 * ux := wrap_in _ (by unfold Bd.I64; omega)
  have e2' : IntKind.i64.wrap (2 * uy) = 2 * uy := wrap_in _ (by unfold Bd.I64; omega)
  have e3 : IntKind.i64.wrap (3 * ux) = 3 * ux := wrap_in _ (by unfold Bd.I64; omega)
  have e4 : IntKind.i64.wrap (3 * uy) = 3 * uy := wrap_in _ (by unfold Bd.I64; omega)
  have r2 := hB4.cell (j := 2) rfl; have r3 := hB4.cell (j := 3) rfl
  have g2 := hB4.frozen 2; have g3 := hB4.frozen 3
  have HB4 := Lib.hid hB4; have HF4 := Lib.hid hF4; have HSZ := Lib.hid hSZ
  clear hB4 hF4 hl3 hw4 hBe q0 hzb
  have hS : FiS Z U X Y c ux uy w w4.drew := HF4.out.none (Mod.refl _ _).drew
  refine wp_region_noPanic ?_
  refine wp_region_held_drew (S := FiS Z U X Y c ux uy w) (by kernel_rfl) hS (fun hHeld => ?_)
  clear hHeld
  refine wpAnyH_take (i := 0) (v := ?_) (by simp only [List.getElem?_toArray, List.getElem?_cons_zero]; rfl) (by kernel_rfl) (by kernel_rfl) (by kernel_rfl) (fun _ _ _ h => h) (Or.inl ⟨by rfl, ?_⟩) hS ?_
  rotate_left
  · (intro wq hSw; go_simp; all_goals with_reducible rfl)
  try simp only [Act.put, List.setIfInBounds_toArray, List.set_cons_zero, List.set_cons_succ]
  refine wpAnyH_take (i := 1) (v := ?_) (by simp only [List.getElem?_toArray, List.getElem?_cons_zero, List.getElem?_cons_succ]; rfl) (by kernel_rfl) (by kernel_rfl) (by kernel_rfl) (fun _ _ _ h => h) (Or.inl ⟨by rfl, ?_⟩) hS ?_
  rotate_left
  · (intro wq hSw; go_simp; all_goals with_reducible rfl)
  try simp only [Act.put, List.setIfInBounds_toArray, List.set_cons_zero, List.set_cons_succ]
  refine wpAnyH_take (i := 2) (v := ?_) (by simp only [List.getElem?_toArray, List.getElem?_cons_zero, List.getElem?_cons_succ]; rfl) (by kernel_rfl) (by kernel_rfl) (by kernel_rfl) (fun _ _ _ h => h) (Or.inl ⟨by rfl, ?_⟩) hS ?_
  rotate_left
  · (intro wq hSw; have q2 := hSw.car.cell (j := 2) rfl; have q3 := hSw.car.cell (j := 3) rfl; have q4 := hSw.u.cell (j := 0) rfl; have q5 := hSw.u.cell (j := 1) rfl; go_simp; all_goals with_reducible rfl)
  try simp only [Act.put, List.setIfInBounds_toArray, List.set_cons_zero, List.set_cons_succ]
  refine wpAnyH_take (i := 3) (v := ?_) (by simp only [List.getElem?_toArray, List.getElem?_cons_zero, List.getElem?_cons_succ]; rfl) (by kernel_rfl) (by kernel_rfl) (by kernel_rfl) (fun _ _ _ h => h) (Or.inl ⟨by rfl, ?_⟩) hS ?_
  rotate_left
  · (intro wq hSw; go_simp; all_goals with_reducible rfl)
  try simp only [Act.put, List.setIfInBounds_toArray, List.set_cons_zero, List.set_cons_succ]
  refine wpAnyH_take (i := 4) (v := ?_) (by simp only [List.getElem?_toArray, List.getElem?_cons_zero, List.getElem?_cons_succ]; rfl) (by kernel_rfl) (by kernel_rfl) (by kernel_rfl) (fun _ _ _ h => h) (Or.inl ⟨by rfl, ?_⟩) hS ?_
  rotate_left
  · (intro wq hSw; have q2 := hSw.car.cell (j := 2) rfl; have q3 := hSw.car.cell (j := 3) rfl; have q4 := hSw.u.cell (j := 0) rfl; have q5 := hSw.u.cell (j := 1) rfl; go_simp; all_goals with_reducible rfl)
  try simp only [Act.put, List.setIfInBounds_toArray, List.set_cons_zero, List.set_cons_succ]
  refine wpAnyH_take (i := 5) (v := ?_) (by simp only [List.getElem?_toArray, List.getElem?_cons_zero, List.getElem?_cons_succ]; rfl) (by kernel_rfl) (by kernel_rfl) (by kernel_rfl) (fun _ _ _ h => h) (Or.inl ⟨by rfl, ?_⟩) hS ?_
  rotate_left
  · (intro wq hSw; go_simp; all_goals with_reducible rfl)
  try simp only [Act.put, List.setIfInBounds_toArray, List.set_cons_zero, List.set_cons_succ]
  refine wpAnyH_take (i := 7) (v := ?_) (by simp only [List.getElem?_toArray, List.getElem?_cons_zero, List.getElem?_cons_succ]; rfl) (by kernel_rfl) (by kernel_rfl) (by kernel_rfl) (fun _ _ _ h => h) (Or.inl ⟨by rfl, ?_⟩) hS ?_
  rotate_left
  · (intro wq hSw; go_simp; all_goals with_reducible rfl)
  try simp only [Act.put, List.setIfInBounds_toArray, List.set_cons_zero, List.set_cons_succ]
  refine wpAnyH_take (i := 8) (v := ?_) (by simp only [List.getElem?_toArray, List.getElem?_cons_zero, List.getElem?_cons_succ]; rfl) (by kernel_rfl) (by kernel_rfl) (by kernel_rfl) (fun _ _ _ h => h) (Or.inl ⟨by rfl, ?_⟩) hS ?_
  rotate_left
  · (intro wq hSw; go_simp; all_goals with_reducible rfl)
  try simp only [Act.put, List.setIfInBounds_toArray, List.set_cons_zero, List.set_cons_succ]
  refine wpAnyH_take (i := 9) (v := ?_) (by simp only [List.getElem?_toArray, List.getElem?_cons_zero, List.getElem?_cons_succ]; rfl) (by kernel_rfl) (by kernel_rfl) (by kernel_rfl) (fun _ _ _ h => h) (Or.inl ⟨by rfl, ?_⟩) hS ?_
  rotate_left
  · (intro wq hSw; have q2 := hSw.car.cell (j := 2) rfl; have q3 := hSw.car.cell (j := 3) rfl; have q4 := hSw.u.cell (j := 0) rfl; have q5 := hSw.u.cell (j := 1) rfl; go_simp; all_goals with_reducible rfl)
  try simp only [Act.put, List.setIfInBounds_toArray, List.set_cons_zero, List.set_cons_succ]
  refine wpAnyH_take (i := 10) (v := ?_) (by simp only [List.getElem?_toArray, List.getElem?_cons_zero, List.getElem?_cons_succ]; rfl) (by kernel_rfl) (by kernel_rfl) (by kernel_rfl) (fun _ _ _ h => h) (Or.inl ⟨by rfl, ?_⟩) hS ?_
  rotate_left
  · (intro wq hSw; go_simp; all_goals with_reducible rfl)
  try simp only [Act.put, List.setIfInBounds_toArray, List.set_cons_zero, List.set_cons_succ]
  refine wpAnyH_take (i := 11) (v := ?_) (by simp only [List.getElem?_toArray, List.getElem?_cons_zero, List.getElem?_cons_succ]; rfl) (by kernel_rfl) (by kernel_rfl) (by kernel_rfl) (fun _ _ _ h => h) (Or.inl ⟨by rfl, ?_⟩) hS ?_
  rotate_left
  · (intro wq hSw; have q2 := hSw.car.cell (j := 2) rfl; have q3 := hSw.car.cell (j := 3) rfl; have q4 := hSw.u.cell (j := 0) rfl; have q5 := hSw.u.cell (j := 1) rfl; go_simp; all_goals with_reducible rfl)
  try simp only [Act.put, List.setIfInBounds_toArray, List.set_cons_zero, List.set_cons_succ]
  refine wpAnyH_take (i := 12) (v := ?_) (by simp only [List.getElem?_toArray, List.getElem?_cons_zero, List.getElem?_cons_succ]; rfl) (by kernel_rfl) (by kernel_rfl) (by kernel_rfl) (fun _ _ _ h => h) (Or.inl ⟨by rfl, ?_⟩) hS ?_
  rotate_left
  · (intro wq hSw; go_simp; all_goals with_reducible rfl)
  try simp only [Act.put, List.setIfInBounds_toArray, List.set_cons_zero, List.set_cons_succ]
  refine wpAnyH_ready (rs := [6]) (by kernel_rfl) (by simp) ?_
  refine AllReadyH.cons (by simp only [List.getElem?_toArray, List.getElem?_cons_zero, List.getElem?_cons_succ]; rfl) (fun K hK => ?_) (AllReadyH.nil)
  go_simp
  go_at_call 51
  refine (HA1.out _).mono ?_
  rintro r wz ⟨rfl, hwz⟩
  replace hwz := hwz.symm
  subst hwz
  go_wp2_with fail
  refine hK.out _ _ hS (fun _ => ?_)
  clear hK K
  try simp only [Act.put, List.setIfInBounds_toArray, List.set_cons_zero, List.set_cons_succ]
  refine wpAnyH_ready (rs := [13]) (by kernel_rfl) (by simp) ?_
  refine AllReadyH.cons (by simp only [List.getElem?_toArray, List.getElem?_cons_zero, List.getElem?_cons_succ]; rfl) (fun K hK => ?_) (AllReadyH.nil)
  go_simp
  go_at_call 51
  refine (HA2.out _).mono ?_
  rintro r wz ⟨rfl, hwz⟩
  replace hwz := hwz.symm
  subst hwz
  go_wp2_with fail
  refine hK.out _ _ hS (fun _ => ?_)
  clear hK K
  try simp only [Act.put, List.setIfInBounds_toArray, List.set_cons_zero, List.set_cons_succ]
  refine wpAnyH_take (i := 14) (v := ?_) (by simp only [List.getElem?_toArray, List.getElem?_cons_zero, List.getElem?_cons_succ]; rfl) (by kernel_rfl) (by kernel_rfl) (by kernel_rfl) (fun _ _ _ h => h) (Or.inl ⟨by rfl, ?_⟩) hS ?_
  rotate_left
  · (intro wq hSw; go_simp; all_goals with_reducible rfl)
  try simp only [Act.put, List.setIfInBounds_toArray, List.set_cons_zero, List.set_cons_succ]
  refine wpAnyH_take (i := 15) (v := ?_) (by simp only [List.getElem?_toArray, List.getElem?_cons_zero, List.getElem?_cons_succ]; rfl) (by kernel_rfl) (by kernel_rfl) (by kernel_rfl) (fun _ _ _ h => h) (Or.inl ⟨by rfl, ?_⟩) hS ?_
  rotate_left
  · (intro wq hSw; go_simp; all_goals with_reducible rfl)
  try simp only [Act.put, List.setIfInBounds_toArray, List.set_cons_zero, List.set_cons_succ]
  refine wpAnyH_ready (rs := [16]) (by kernel_rfl) (by simp) ?_
  refine AllReadyH.cons (by simp only [List.getElem?_toArray, List.getElem?_cons_zero, List.getElem?_cons_succ]; rfl) (fun K hK => ?_) (AllReadyH.nil)
  rw [if_pos (by rfl)]
  go_simp
  refine hK.out _ _ (FiS.store hS (((Mod.refl _ _).setCell (p := ⟨B, 2, none⟩) (fun _ => only_self B) _).setCell (p := ⟨B, 3, none⟩) (fun _ => only_self B) _) HSZ.out) (fun _ => ?_)
  clear hK K
  try simp only [Act.put]
  refine wpAnyH_done (by kernel_rfl) ?_ _
  refine NoPanic.normal ?_

  obtain ⟨w5, hw5, hB5, hF5⟩ : ∃ w5, ((w4.setCell ⟨B, 2, none⟩ (.int .i64 R1)).setCell ⟨B, 3, none⟩ (.int .i64 R2)) = w5 ∧ Blk w5 B (⟨id, c.player, R1, R2, 0, 0, 48⟩ : Sh).cells 28 ∧ FiS Z U X Y c ux uy w w5 :=
    ⟨_, rfl, ((HB4.out.set 2 _).set 3 _).cs rfl, HF4.out.store (((Mod.refl _ _).setCell (p := ⟨B, 2, none⟩) (fun _ => only_self B) _).setCell (p := ⟨B, 3, none⟩) (fun _ => only_self B) _) HSZ.out⟩
  rw [hw5]
  clear r2 r3 g2 g3 hS hw5
  have HB5 := Lib.hid hB5; have HF5 := Lib.hid hF5
  clear hB5 hF5
  go_upto_region 6 with fail
  obtain ⟨w6, hw6, hM6⟩ : ∃ w6, w5.drew = w6 ∧ Mod none_ w5 w6 := ⟨_, rfl, (Mod.refl _ _).drew⟩
  rw [hw6]
  have hB6 := hM6.blk HB5.out (fun h => h)
  have HF6 := Lib.hid (HF5.out.none hM6)
  have r2 := hB6.cell (j := 4) rfl; have r3 := hB6.cell (j := 5) rfl
  have g2 := hB6.frozen 4; have g3 := hB6.frozen 5
  have HB6 := Lib.hid hB6
  clear hB6 hM6 hw6
  have hS : FiS Z U X Y c ux uy w w6.drew := HF6.out.none (Mod.refl _ _).drew
  refine wp_region_noPanic ?_
  refine wp_region_held_drew (S := FiS Z U X Y c ux uy w) (by kernel_rfl) hS (fun hHeld => ?_)
  clear hHeld
  refine wpAnyH_take (i := 0) (v := ?_) (by simp only [List.getElem?_toArray, List.getElem?_cons_zero]; rfl) (by kernel_rfl) (by kernel_rfl) (by kernel_rfl) (fun _ _ _ h => h) (Or.inl ⟨by rfl, ?_⟩) hS ?_
  rotate_left
  · (intro wq hSw; go_simp; all_goals with_reducible rfl)
  try simp only [Act.put, List.setIfInBounds_toArray, List.set_cons_zero, List.set_cons_succ]
  refine wpAnyH_take (i := 1) (v := ?_) (by simp only [List.getElem?_toArray, List.getElem?_cons_zero, List.getElem?_cons_succ]; rfl) (by kernel_rfl) (by kernel_rfl) (by kernel_rfl) (fun _ _ _ h => h) (Or.inl ⟨by rfl, ?_⟩) hS ?_
  rotate_left
  · (intro wq hSw; go_simp; all_goals with_reducible rfl)
  try simp only [Act.put, List.setIfInBounds_toArray, List.set_cons_zero, List.set_cons_succ]
  refine wpAnyH_take (i := 2) (v := ?_) (by simp only [List.getElem?_toArray, List.getElem?_cons_zero, List.getElem?_cons_succ]; rfl) (by kernel_rfl) (by kernel_rfl) (by kernel_rfl) (fun _ _ _ h => h) (Or.inl ⟨by rfl, ?_⟩) hS ?_
  rotate_left
  · (intro wq hSw; have q2 := hSw.car.cell (j := 4) rfl; have q3 := hSw.car.cell (j := 5) rfl; have q4 := hSw.u.cell (j := 0) rfl; have q5 := hSw.u.cell (j := 1) rfl; go_simp; all_goals with_reducible rfl)
  try simp only [Act.put, List.setIfInBounds_toArray, List.set_cons_zero, List.set_cons_succ]
  refine wpAnyH_take (i := 3) (v := ?_) (by simp only [List.getElem?_toArray, List.getElem?_cons_zero, List.getElem?_cons_succ]; rfl) (by kernel_rfl) (by kernel_rfl) (by kernel_rfl) (fun _ _ _ h => h) (Or.inl ⟨by rfl, ?_⟩) hS ?_
  rotate_left
  · (intro wq hSw; go_simp; all_goals with_reducible rfl)
  try simp only [Act.put, List.setIfInBounds_toArray, List.set_cons_zero, List.set_cons_succ]
  refine wpAnyH_take (i := 4) (v := ?_) (by simp only [List.getElem?_toArray, List.getElem?_cons_zero, List.getElem?_cons_succ]; rfl) (by kernel_rfl) (by kernel_rfl) (by kernel_rfl) (fun _ _ _ h => h) (Or.inl ⟨by rfl, ?_⟩) hS ?_
  rotate_left
  · (intro wq hSw; have q2 := hSw.car.cell (j := 4) rfl; have q3 := hSw.car.cell (j := 5) rfl; have q4 := hSw.u.cell (j := 0) rfl; have q5 := hSw.u.cell (j := 1) rfl; go_simp; all_goals with_reducible rfl)
  try simp only [Act.put, List.setIfInBounds_toArray, List.set_cons_zero, List.set_cons_succ]
  refine wpAnyH_take (i := 5) (v := ?_) (by simp only [List.getElem?_toArray, List.getElem?_cons_zero, List.getElem?_cons_succ]; rfl) (by kernel_rfl) (by kernel_rfl) (by kernel_rfl) (fun _ _ _ h => h) (Or.inl ⟨by rfl, ?_⟩) hS ?_
  rotate_left
  · (intro wq hSw; go_simp; all_goals with_reducible rfl)
  try simp only [Act.put, List.setIfInBounds_toArray, List.set_cons_zero, List.set_cons_succ]
  refine wpAnyH_take (i := 7) (v := ?_) (by simp only [List.getElem?_toArray, List.getElem?_cons_zero, List.getElem?_cons_succ]; rfl) (by kernel_rfl) (by kernel_rfl) (by kernel_rfl) (fun _ _ _ h => h) (Or.inl ⟨by rfl, ?_⟩) hS ?_
  rotate_left
  · (intro wq hSw; go_simp; all_goals with_reducible rfl)
  try simp only [Act.put, List.setIfInBounds_toArray, List.set_cons_zero, List.set_cons_succ]
  refine wpAnyH_take (i := 8) (v := ?_) (by simp only [List.getElem?_toArray, List.getElem?_cons_zero, List.getElem?_cons_succ]; rfl) (by kernel_rfl) (by kernel_rfl) (by kernel_rfl) (fun _ _ _ h => h) (Or.inl ⟨by rfl, ?_⟩) hS ?_
  rotate_left
  · (intro wq hSw; go_simp; all_goals with_reducible rfl)
  try simp only [Act.put, List.setIfInBounds_toArray, List.set_cons_zero, List.set_cons_succ]
  refine wpAnyH_take (i := 9) (v := ?_) (by simp only [List.getElem?_toArray, List.getElem?_cons_zero, List.getElem?_cons_succ]; rfl) (by kernel_rfl) (by kernel_rfl) (by kernel_rfl) (fun _ _ _ h => h) (Or.inl ⟨by rfl, ?_⟩) hS ?_
  rotate_left
  · (intro wq hSw; have q2 := hSw.car.cell (j := 4) rfl; have q3 := hSw.car.cell (j := 5) rfl; have q4 := hSw.u.cell (j := 0) rfl; have q5 := hSw.u.cell (j := 1) rfl; go_simp; all_goals with_reducible rfl)
  try simp only [Act.put, List.setIfInBounds_toArray, List.set_cons_zero, List.set_cons_succ]
  refine wpAnyH_take (i := 10) (v := ?_) (by simp only [List.getElem?_toArray, List.getElem?_cons_zero, List.getElem?_cons_succ]; rfl) (by kernel_rfl) (by kernel_rfl) (by kernel_rfl) (fun _ _ _ h => h) (Or.inl ⟨by rfl, ?_⟩) hS ?_
  rotate_left
  · (intro wq hSw; go_simp; all_goals with_reducible rfl)
  try simp only [Act.put, List.setIfInBounds_toArray, List.set_cons_zero, List.set_cons_succ]
  refine wpAnyH_take (i := 11) (v := ?_) (by simp only [List.getElem?_toArray, List.getElem?_cons_zero, List.getElem?_cons_succ]; rfl) (by kernel_rfl) (by kernel_rfl) (by kernel_rfl) (fun _ _ _ h => h) (Or.inl ⟨by rfl, ?_⟩) hS ?_
  rotate_left
  · (intro wq hSw; have q2 := hSw.car.cell (j := 4) rfl; have q3 := hSw.car.cell (j := 5) rfl; have q4 := hSw.u.cell (j := 0) rfl; have q5 := hSw.u.cell (j := 1) rfl; go_simp; all_goals with_reducible rfl)
  try simp only [Act.put, List.setIfInBounds_toArray, List.set_cons_zero, List.set_cons_succ]
  refine wpAnyH_take (i := 12) (v := ?_) (by simp only [List.getElem?_toArray, List.getElem?_cons_zero, List.getElem?_cons_succ]; rfl) (by kernel_rfl) (by kernel_rfl) (by kernel_rfl) (fun _ _ _ h => h) (Or.inl ⟨by rfl, ?_⟩) hS ?_
  rotate_left
  · (intro wq hSw; go_simp; all_goals with_reducible rfl)
  try simp only [Act.put, List.setIfInBounds_toArray, List.set_cons_zero, List.set_cons_succ]
  refine wpAnyH_ready (rs := [6]) (by kernel_rfl) (by simp) ?_
  refine AllReadyH.cons (by simp only [List.getElem?_toArray, List.getElem?_cons_zero, List.getElem?_cons_succ]; rfl) (fun K hK => ?_) (AllReadyH.nil)
  go_simp
  go_at_call 51
  refine (HA3.out _).mono ?_
  rintro r wz ⟨rfl, hwz⟩
  replace hwz := hwz.symm
  subst hwz
  go_wp2_with fail
  refine hK.out _ _ hS (fun _ => ?_)
  clear hK K
  try simp only [Act.put, List.setIfInBounds_toArray, List.set_cons_zero, List.set_cons_succ]
  refine wpAnyH_ready (rs := [13]) (by kernel_rfl) (by simp) ?_
  refine AllReadyH.cons (by simp only [List.getElem?_toArray, List.getElem?_cons_zero, List.getElem?_cons_succ]; rfl) (fun K hK => ?_) (AllReadyH.nil)
  go_simp
  go_at_call 51
  refine (HA4.out _).mono ?_
  rintro r wz ⟨rfl, hwz⟩
  replace hwz := hwz.symm
  subst hwz
  go_wp2_with fail
  refine hK.out _ _ hS (fun _ => ?_)
  clear hK K
  try simp only [Act.put, List.setIfInBounds_toArray, List.set_cons_zero, List.set_cons_succ]
  refine wpAnyH_take (i := 14) (v := ?_) (by simp only [List.getElem?_toArray, List.getElem?_cons_zero, List.getElem?_cons_succ]; rfl) (by kernel_rfl) (by kernel_rfl) (by kernel_rfl) (fun _ _ _ h => h) (Or.inl ⟨by rfl, ?_⟩) hS ?_
  rotate_left
  · (intro wq hSw; go_simp; all_goals with_reducible rfl)
  try simp only [Act.put, List.setIfInBounds_toArray, List.set_cons_zero, List.set_cons_succ]
  refine wpAnyH_take (i := 15) (v := ?_) (by simp only [List.getElem?_toArray, List.getElem?_cons_zero, List.getElem?_cons_succ]; rfl) (by kernel_rfl) (by kernel_rfl) (by kernel_rfl) (fun _ _ _ h => h) (Or.inl ⟨by rfl, ?_⟩) hS ?_
  rotate_left
  · (intro wq hSw; go_simp; all_goals with_reducible rfl)
  try simp only [Act.put, List.setIfInBounds_toArray, List.set_cons_zero, List.set_cons_succ]
  refine wpAnyH_ready (rs := [16]) (by kernel_rfl) (by simp) ?_
  refine AllReadyH.cons (by simp only [List.getElem?_toArray, List.getElem?_cons_zero, List.getElem?_cons_succ]; rfl) (fun K hK => ?_) (AllReadyH.nil)
  rw [if_pos (by rfl)]
  go_simp
  refine hK.out _ _ (FiS.store hS (((Mod.refl _ _).setCell (p := ⟨B, 4, none⟩) (fun _ => only_self B) _).setCell (p := ⟨B, 5, none⟩) (fun _ => only_self B) _) HSZ.out) (fun _ => ?_)
  clear hK K
  try simp only [Act.put]
  refine wpAnyH_done (by kernel_rfl) ?_ _
  refine NoPanic.normal ?_

  obtain ⟨w7, hw7, hB7, hF7⟩ : ∃ w7, ((w6.setCell ⟨B, 4, none⟩ (.int .i64 R3)).setCell ⟨B, 5, none⟩ (.int .i64 R4)) = w7 ∧ Blk w7 B sh.cells 28 ∧ FiS Z U X Y c ux uy w w7 :=
    ⟨_, rfl, by rw [HSH.out]; exact ((HB6.out.set 4 _).set 5 _).cs rfl, HF6.out.store (((Mod.refl _ _).setCell (p := ⟨B, 4, none⟩) (fun _ => only_self B) _).setCell (p := ⟨B, 5, none⟩) (fun _ => only_self B) _) HSZ.out⟩
  rw [hw7]
  clear r2 r3 g2 g3 hS hw7 e1 e2' e3 e4
  obtain ⟨wx, hwx, hMx⟩ : ∃ wx, w7.drew = wx ∧ Mod none_ w7 wx := ⟨_, rfl, (Mod.refl _ _).drew⟩
  rw [hwx]
  have hF := hF7.none hMx
  have hBk := hMx.blk hB7 (fun h => h)
  obtain ⟨hZB, hUB, hXB, hYB, _⟩ := HSZ.out
  clear hF7 hB7 hMx hwx w7
  obtain ⟨w4, rfl⟩ : ∃ q, q = wx := ⟨_, rfl⟩
  have q9 := hF.car.cell (j := 9) rfl; have q8 := hF.car.cell (j := 8) rfl; have q10 := hF.car.cell (j := 10) rfl
  have f9 := hF.car.frozen 9; have f8 := hF.car.frozen 8; have f10 := hF.car.frozen 10
  have e1 : IntKind.i64.wrap (c.ammo - 1) = c.ammo - 1 := wrap_in _ (by unfold Bd.I64; omega)
  have e3 : IntKind.i64.wrap (c.energy - 8) = c.energy - 8 := wrap_in _ (by unfold Bd.I64; omega)
  have HF := Lib.hid hF; have HBK := Lib.hid hBk
  clear hF hBk HF0
  go_upto_region 10 with fail
  obtain ⟨w5, hw5, hB5, hM5⟩ : ∃ w5, (((w4.setCell ⟨Z, 9, none⟩ (.int .i64 (c.ammo - 1))).setCell ⟨Z, 8, none⟩ (.int .i64 (c.energy - 8))).setCell ⟨Z, 10, none⟩ (.int .i64 8)) = w5 ∧ Blk w5 Z c.fired.cells 25 ∧ Mod (only Z) w4 w5 :=
    ⟨_, rfl, (((HF.out.car.set 9 _).set 8 _).set 10 _).cs rfl, (((Mod.refl _ _).setCell (fun _ => only_self Z) _).setCell (fun _ => only_self Z) _).setCell (fun _ => only_self Z) _⟩
  rw [hw5]
  have hne := HZX.out
  have HX5 := Lib.hid (hM5.blk HF.out.x (not_only (fun e => hne.2.2.2.2.1 e.symm))); have HY5 := Lib.hid (hM5.blk HF.out.y (not_only (fun e => hne.2.2.2.2.2 e.symm)))
  have hS : FjS Z B c.fired sh w w5.drew := ⟨hB5, hM5.blk HBK.out (not_only (by omega)), (HF.out.m.trans hM5 (fun j hj e => by have : j = Z := e; omega)).drew⟩
  clear q9 q8 q10 f9 f8 f10 e1 e3 hB5 hM5 hw5
  refine wp_region_noPanic ?_
  refine wp_region_held_drew (S := FjS Z B c.fired sh w) (by kernel_rfl) hS (fun hHeld => ?_)
  clear hHeld
  refine wpAnyH_take (i := 0) (v := _) (by simp only [List.getElem?_toArray, List.getElem?_cons_zero]; rfl) (by kernel_rfl) (by kernel_rfl) (by kernel_rfl) (fun _ _ _ h => h) (yieldsIf_load_mid (by rfl) 25 (.tmp 2) rfl Z 0 rfl c.fired.cells _ (fun _ h => blk_mid h.car 0 _ (fun j v hj => by rw [Nat.zero_add]; exact hj)) under_car rfl size_car) hS ?_
  try simp only [Act.put, List.setIfInBounds_toArray, List.set_cons_zero, List.set_cons_succ]
  refine wpAnyH_take (i := 1) (v := _) (by simp only [List.getElem?_toArray, List.getElem?_cons_zero, List.getElem?_cons_succ]; rfl) (by kernel_rfl) (by kernel_rfl) (by kernel_rfl) (fun _ _ _ h => h) (yieldsIf_load_mid (by rfl) 28 (.tmp 8) rfl B 0 rfl sh.cells _ (fun _ h => blk_mid h.shot 0 _ (fun j v hj => by rw [Nat.zero_add]; exact hj)) under_shot rfl size_shot) hS ?_
  try simp only [Act.put, List.setIfInBounds_toArray, List.set_cons_zero, List.set_cons_succ]
  refine wpAnyH_ready (rs := [2]) (by kernel_rfl) (by simp) ?_
  refine AllReadyH.cons (by simp only [List.getElem?_toArray, List.getElem?_cons_zero, List.getElem?_cons_succ]; rfl) (fun K hK => ?_) (AllReadyH.nil)
  rw [if_pos (by rfl)]
  refine wp_store_blk 25 (.tmp 4) (.tmp 77) rfl X c.fired.cells rfl rfl 25 _ HX5.out.drew size_car rfl (one_car _) ?_
  intro w6 hX6 hM6 _
  have hS6 := FjS.store hS hM6 (by omega)
  have hY6 := hM6.blk HY5.out.drew (not_only (fun e => hne.2.2.2.1 e.symm))
  refine hK.out _ _ hS6 (fun _ => ?_)
  clear hK K
  try simp only [Act.put]
  refine wpAnyH_ready (rs := [3]) (by kernel_rfl) (by simp) ?_
  refine AllReadyH.cons (by simp only [List.getElem?_toArray, List.getElem?_cons_zero, List.getElem?_cons_succ]; rfl) (fun K hK => ?_) (AllReadyH.nil)
  rw [if_pos (by rfl)]
  refine wp_store_blk 28 (.tmp 5) (.tmp 78) rfl Y sh.cells rfl rfl 28 _ hY6 size_shot rfl (one_shot sh) ?_
  intro w7 hY7 hM7 _
  have hS7 := FjS.store hS6 hM7 (by omega)
  refine hK.out _ _ hS7 (fun _ => ?_)
  clear hK K
  try simp only [Act.put]
  refine wpAnyH_take (i := 4) (v := ?_) (by simp only [List.getElem?_toArray, List.getElem?_cons_zero, List.getElem?_cons_succ]; rfl) (by kernel_rfl) (by kernel_rfl) (by kernel_rfl) (fun _ _ _ h => h) (Or.inl ⟨by rfl, ?_⟩) hS7 ?_
  rotate_left
  · (intro wq hSw; go_simp; all_goals with_reducible rfl)
  try simp only [Act.put, List.setIfInBounds_toArray, List.set_cons_zero, List.set_cons_succ]
  refine wpAnyH_done (by kernel_rfl) ?_ _
  refine NoPanic.normal ?_

  go_wp2
  exact bodyPost_ret (three_back Tryd.results17 _ _ X Y c.fired sh (.bool true) rfl (hM7.blk hX6 (not_only hne.2.2.2.1)) rfl hY7 rfl) rfl ⟨rfl, hS7.m⟩
end Go.Proofs.YtinjlkceplhibaaDoor
