/- CarHits: the walk. -/
import Derived.Test.YtinjlkceplhibaaDoorCdE
import Derived.Test.YtinjlkceplhibaaDoorCdH
namespace Go.Proofs.YtinjlkceplhibaaDoor
open Go.RowKit

theorem cars_new (w : World) (a b : Cr) : ∃ w2, (w.alloc (.cells a.cells.toArray 25)).alloc (.cells b.cells.toArray 25) = w2 ∧ BuS w.heap.size (w.heap.size + 1) a b w w2 := by
  refine ⟨_, rfl, (Blk.new w a.cells _).alloc _, ?_, ((Mod.refl none_ w).alloc _).alloc _⟩
  have := Blk.new (w.alloc (.cells a.cells.toArray 25)) b.cells 25
  rw [World.size_alloc] at this
  exact this
theorem BuS.base {A B : Nat} {a b : Cr} {w0 w1 q : World} (h : BuS A B a b w1 q) (hM : Mod none_ w0 w1) : BuS A B a b w0 q := ⟨h.a, h.b, hM.then h.m⟩
theorem two_newc (w : World) : Blk ((w.alloc (.cells car0.cells.toArray 25)).alloc (.cells car0.cells.toArray 25)) w.heap.size car0.cells 25 ∧ Blk ((w.alloc (.cells car0.cells.toArray 25)).alloc (.cells car0.cells.toArray 25)) (w.heap.size + 1) car0.cells 25 ∧ Mod none_ w ((w.alloc (.cells car0.cells.toArray 25)).alloc (.cells car0.cells.toArray 25)) := by
  refine ⟨(Blk.new w car0.cells _).alloc _, ?_, ((Mod.refl none_ w).alloc _).alloc _⟩
  have := Blk.new (w.alloc (.cells car0.cells.toArray 25)) car0.cells 25
  rw [World.size_alloc] at this
  exact this
set_option maxHeartbeats 8000000 in
set_option maxRecDepth 100000 in
theorem carHits_any (w : World) (hG : Sines w) (x y : Cr) (hx : x.Ok) (hy : y.Ok) (hurt : Int) (hu : Bd.I64 hurt) :
    Calls Tryd.prog 14 #[x.agg, y.agg, .int .i64 hurt] w fun e w' => e = .returned (.bool true) ∧ Mod none_ w w' := by
  have ha := fun (q : World) (hM : Mod none_ w q) => alive15_any q (hG.mod hM)
  have h1 := fun q : World => hit_any q x hx hurt
  have h2 := fun q : World => rhit_any q x hx hurt hu
  have h3 := fun q : World => hit_any q y hy hurt
  have h4 := fun q : World => rhit_any q y hy hurt hu
  have h5 := fun q : World => bump_any q x y hx hy
  have h6 := fun q : World => rbump_any q x y hx hy
  obtain ⟨X, hX⟩ : ∃ X, x.hit hurt = X := ⟨_, rfl⟩
  obtain ⟨Y, hY⟩ : ∃ X, y.hit hurt = X := ⟨_, rfl⟩
  obtain ⟨P, hP⟩ : ∃ X, bumpA x y = X := ⟨_, rfl⟩
  obtain ⟨Q, hQ⟩ : ∃ X, bumpB x y = X := ⟨_, rfl⟩
  obtain ⟨D, hD⟩ : ∃ X, bumps x y = X := ⟨_, rfl⟩
  simp only [hX] at h1 h2
  simp only [hY] at h3 h4
  simp only [hP, hQ, hD] at h5 h6
  have n1 := fun q : World => neC q X X
  have n2 := fun q : World => neC q Y Y
  have e1 := fun q : World => eqC q P P
  have e2 := fun q : World => eqC q Q Q
  rw [Cr.beq_self] at n1 n2 e1 e2
  simp only [Cr.agg, Bool.not_true] at n1 n2 e1 e2
  unfold Cr.agg at h1 h2 h3 h4 h5 h6 ⊢
  have HA := Lib.hid ha; have H1 := Lib.hid h1; have H2 := Lib.hid h2; have H3 := Lib.hid h3; have H4 := Lib.hid h4; have H5 := Lib.hid h5; have H6 := Lib.hid h6; have N1 := Lib.hid n1; have N2 := Lib.hid n2; have E1 := Lib.hid e1; have E2 := Lib.hid e2
  clear ha h1 h2 h3 h4 h5 h6 n1 n2 e1 e2 hX hY hP hQ hD hx hy hu hG
  go_enter Tryd.func14, Tryd.ntmps14
  go_upto_region 1 with fail
  obtain ⟨w2, hw2, hV2⟩ := cars_new w x y
  rw [hw2]
  obtain ⟨A, hAe⟩ : ∃ x, w.heap.size = x := ⟨_, rfl⟩
  rw [hAe] at hV2 ⊢
  obtain ⟨B, hBe⟩ : ∃ x, A + 1 = x := ⟨_, rfl⟩
  rw [hBe] at hV2 ⊢
  have HV2 := Lib.hid hV2
  clear hw2 hV2 hAe hBe
  go_upto_region 3 with (go_at_call 32; refine (HA.out _ HV2.out.m).mono ?_; rintro r w3 ⟨rfl, hM⟩; have HV3 := Lib.hid (HV2.out.keep hM); clear hM)
  have hS : BuS A B x y w w3.drew := HV3.out.keep (Mod.refl _ _).drew
  refine wp_region_noPanic ?_
  refine wp_region_held_drew (S := BuS A B x y w) (by kernel_rfl) hS (fun hHeld => ?_)
  clear hHeld
  refine wpAnyH_take (i := 0) (v := _) (by simp only [List.getElem?_toArray, List.getElem?_cons_zero]; rfl) (by kernel_rfl) (by kernel_rfl) (by kernel_rfl) (fun _ _ _ h => h) (yieldsIf_load_mid (by rfl) 25 (.tmp 3) rfl A 0 rfl x.cells _ (fun _ h => blk_mid h.a 0 _ (fun j v hj => by rw [Nat.zero_add]; exact hj)) under_car rfl size_car) hS ?_
  try simp only [Act.put, List.setIfInBounds_toArray, List.set_cons_zero, List.set_cons_succ]
  refine wpAnyH_take (i := 1) (v := ?_) (by simp only [List.getElem?_toArray, List.getElem?_cons_zero, List.getElem?_cons_succ]; rfl) (by kernel_rfl) (by kernel_rfl) (by kernel_rfl) (fun _ _ _ h => h) (Or.inl ⟨by rfl, ?_⟩) hS ?_
  rotate_left
  · (intro wq hSw; go_simp; all_goals with_reducible rfl)
  try simp only [Act.put, List.setIfInBounds_toArray, List.set_cons_zero, List.set_cons_succ]
  refine wpAnyH_take (i := 3) (v := _) (by simp only [List.getElem?_toArray, List.getElem?_cons_zero, List.getElem?_cons_succ]; rfl) (by kernel_rfl) (by kernel_rfl) (by kernel_rfl) (fun _ _ _ h => h) (yieldsIf_load_mid (by rfl) 25 (.tmp 3) rfl A 0 rfl x.cells _ (fun _ h => blk_mid h.a 0 _ (fun j v hj => by rw [Nat.zero_add]; exact hj)) under_car rfl size_car) hS ?_
  try simp only [Act.put, List.setIfInBounds_toArray, List.set_cons_zero, List.set_cons_succ]
  refine wpAnyH_take (i := 4) (v := ?_) (by simp only [List.getElem?_toArray, List.getElem?_cons_zero, List.getElem?_cons_succ]; rfl) (by kernel_rfl) (by kernel_rfl) (by kernel_rfl) (fun _ _ _ h => h) (Or.inl ⟨by rfl, ?_⟩) hS ?_
  rotate_left
  · (intro wq hSw; go_simp; all_goals with_reducible rfl)
  try simp only [Act.put, List.setIfInBounds_toArray, List.set_cons_zero, List.set_cons_succ]
  refine wpAnyH_ready (rs := [2]) (by kernel_rfl) (by simp) ?_
  refine AllReadyH.cons (by simp only [List.getElem?_toArray, List.getElem?_cons_zero, List.getElem?_cons_succ]; rfl) (fun K hK => ?_) AllReadyH.nil
  go_simp
  go_at_call 45
  refine (H1.out _).mono ?_
  rintro r wc1 ⟨rfl, hMc1⟩
  have hSc1 := BuS.keep hS hMc1
  go_wp2_with fail
  refine hK.out _ _ hSc1 (fun _ => ?_)
  clear hK K
  try simp only [Act.put, List.setIfInBounds_toArray, List.set_cons_zero, List.set_cons_succ]
  refine wpAnyH_ready (rs := [5]) (by kernel_rfl) (by simp) ?_
  refine AllReadyH.cons (by simp only [List.getElem?_toArray, List.getElem?_cons_zero, List.getElem?_cons_succ]; rfl) (fun K hK => ?_) AllReadyH.nil
  go_simp
  go_at_call 46
  refine (H2.out _).mono ?_
  rintro r wc2 ⟨rfl, hMc2⟩
  have hSc2 := BuS.keep hSc1 hMc2
  go_wp2_with fail
  refine hK.out _ _ hSc2 (fun _ => ?_)
  clear hK K
  try simp only [Act.put, List.setIfInBounds_toArray, List.set_cons_zero, List.set_cons_succ]
  refine wpAnyH_take (i := 6) (v := (.bool false)) (by simp only [List.getElem?_toArray, List.getElem?_cons_zero, List.getElem?_cons_succ]; rfl) (by kernel_rfl) (by kernel_rfl) (by kernel_rfl) (fun _ _ _ h => h) (Or.inl ⟨by rfl, ?_⟩) hSc2 ?_
  · (intro wq hSw; have n1 := N1.out; go_simp; all_goals with_reducible rfl)
  try simp only [Act.put, List.setIfInBounds_toArray, List.set_cons_zero, List.set_cons_succ]
  refine wpAnyH_take (i := 7) (v := ?_) (by simp only [List.getElem?_toArray, List.getElem?_cons_zero, List.getElem?_cons_succ]; rfl) (by kernel_rfl) (by kernel_rfl) (by kernel_rfl) (fun _ _ _ h => h) (Or.inl ⟨by rfl, ?_⟩) hSc2 ?_
  rotate_left
  · (intro wq hSw; go_simp; all_goals with_reducible rfl)
  try simp only [Act.put, List.setIfInBounds_toArray, List.set_cons_zero, List.set_cons_succ]
  refine wpAnyH_take (i := 8) (v := _) (by simp only [List.getElem?_toArray, List.getElem?_cons_zero, List.getElem?_cons_succ]; rfl) (by kernel_rfl) (by kernel_rfl) (by kernel_rfl) (fun _ _ _ h => h) (yieldsIf_load_mid (by rfl) 25 (.tmp 4) rfl B 0 rfl y.cells _ (fun _ h => blk_mid h.b 0 _ (fun j v hj => by rw [Nat.zero_add]; exact hj)) under_car rfl size_car) hSc2 ?_
  try simp only [Act.put, List.setIfInBounds_toArray, List.set_cons_zero, List.set_cons_succ]
  refine wpAnyH_take (i := 9) (v := ?_) (by simp only [List.getElem?_toArray, List.getElem?_cons_zero, List.getElem?_cons_succ]; rfl) (by kernel_rfl) (by kernel_rfl) (by kernel_rfl) (fun _ _ _ h => h) (Or.inl ⟨by rfl, ?_⟩) hSc2 ?_
  rotate_left
  · (intro wq hSw; go_simp; all_goals with_reducible rfl)
  try simp only [Act.put, List.setIfInBounds_toArray, List.set_cons_zero, List.set_cons_succ]
  refine wpAnyH_take (i := 11) (v := _) (by simp only [List.getElem?_toArray, List.getElem?_cons_zero, List.getElem?_cons_succ]; rfl) (by kernel_rfl) (by kernel_rfl) (by kernel_rfl) (fun _ _ _ h => h) (yieldsIf_load_mid (by rfl) 25 (.tmp 4) rfl B 0 rfl y.cells _ (fun _ h => blk_mid h.b 0 _ (fun j v hj => by rw [Nat.zero_add]; exact hj)) under_car rfl size_car) hSc2 ?_
  try simp only [Act.put, List.setIfInBounds_toArray, List.set_cons_zero, List.set_cons_succ]
  refine wpAnyH_take (i := 12) (v := ?_) (by simp only [List.getElem?_toArray, List.getElem?_cons_zero, List.getElem?_cons_succ]; rfl) (by kernel_rfl) (by kernel_rfl) (by kernel_rfl) (fun _ _ _ h => h) (Or.inl ⟨by rfl, ?_⟩) hSc2 ?_
  rotate_left
  · (intro wq hSw; go_simp; all_goals with_reducible rfl)
  try simp only [Act.put, List.setIfInBounds_toArray, List.set_cons_zero, List.set_cons_succ]
  refine wpAnyH_ready (rs := [10]) (by kernel_rfl) (by simp) ?_
  refine AllReadyH.cons (by simp only [List.getElem?_toArray, List.getElem?_cons_zero, List.getElem?_cons_succ]; rfl) (fun K hK => ?_) AllReadyH.nil
  go_simp
  go_at_call 45
  refine (H3.out _).mono ?_
  rintro r wc3 ⟨rfl, hMc3⟩
  have hSc3 := BuS.keep hSc2 hMc3
  go_wp2_with fail
  refine hK.out _ _ hSc3 (fun _ => ?_)
  clear hK K
  try simp only [Act.put, List.setIfInBounds_toArray, List.set_cons_zero, List.set_cons_succ]
  refine wpAnyH_ready (rs := [13]) (by kernel_rfl) (by simp) ?_
  refine AllReadyH.cons (by simp only [List.getElem?_toArray, List.getElem?_cons_zero, List.getElem?_cons_succ]; rfl) (fun K hK => ?_) AllReadyH.nil
  go_simp
  go_at_call 46
  refine (H4.out _).mono ?_
  rintro r wc4 ⟨rfl, hMc4⟩
  have hSc4 := BuS.keep hSc3 hMc4
  go_wp2_with fail
  refine hK.out _ _ hSc4 (fun _ => ?_)
  clear hK K
  try simp only [Act.put, List.setIfInBounds_toArray, List.set_cons_zero, List.set_cons_succ]
  refine wpAnyH_take (i := 14) (v := (.bool false)) (by simp only [List.getElem?_toArray, List.getElem?_cons_zero, List.getElem?_cons_succ]; rfl) (by kernel_rfl) (by kernel_rfl) (by kernel_rfl) (fun _ _ _ h => h) (Or.inl ⟨by rfl, ?_⟩) hSc4 ?_
  · (intro wq hSw; have n2 := N2.out; go_simp; all_goals with_reducible rfl)
  try simp only [Act.put, List.setIfInBounds_toArray, List.set_cons_zero, List.set_cons_succ]
  refine wpAnyH_take (i := 15) (v := ?_) (by simp only [List.getElem?_toArray, List.getElem?_cons_zero, List.getElem?_cons_succ]; rfl) (by kernel_rfl) (by kernel_rfl) (by kernel_rfl) (fun _ _ _ h => h) (Or.inl ⟨by rfl, ?_⟩) hSc4 ?_
  rotate_left
  · (intro wq hSw; go_simp; all_goals with_reducible rfl)
  try simp only [Act.put, List.setIfInBounds_toArray, List.set_cons_zero, List.set_cons_succ]
  refine wpAnyH_take (i := 16) (v := ?_) (by simp only [List.getElem?_toArray, List.getElem?_cons_zero, List.getElem?_cons_succ]; rfl) (by kernel_rfl) (by kernel_rfl) (by kernel_rfl) (fun _ _ _ h => h) (Or.inl ⟨by rfl, ?_⟩) hSc4 ?_
  rotate_left
  · (intro wq hSw; go_simp; all_goals with_reducible rfl)
  try simp only [Act.put, List.setIfInBounds_toArray, List.set_cons_zero, List.set_cons_succ]
  refine wpAnyH_ready (rs := [17]) (by kernel_rfl) (by simp) ?_
  refine AllReadyH.cons (by simp only [List.getElem?_toArray, List.getElem?_cons_zero, List.getElem?_cons_succ]; rfl) (fun K hK => ?_) AllReadyH.nil
  go_simp
  go_at_call 32
  refine (HA.out _ (hSc4).m).mono ?_
  rintro r wc5 ⟨rfl, hMc5⟩
  have hSc5 := BuS.keep hSc4 hMc5
  go_wp2_with fail
  refine hK.out _ _ hSc5 (fun _ => ?_)
  clear hK K
  try simp only [Act.put, List.setIfInBounds_toArray, List.set_cons_zero, List.set_cons_succ]
  refine wpAnyH_take (i := 18) (v := ?_) (by simp only [List.getElem?_toArray, List.getElem?_cons_zero, List.getElem?_cons_succ]; rfl) (by kernel_rfl) (by kernel_rfl) (by kernel_rfl) (fun _ _ _ h => h) (Or.inl ⟨by rfl, ?_⟩) hSc5 ?_
  rotate_left
  · (intro wq hSw; go_simp; all_goals with_reducible rfl)
  try simp only [Act.put, List.setIfInBounds_toArray, List.set_cons_zero, List.set_cons_succ]
  refine wpAnyH_take (i := 19) (v := ?_) (by simp only [List.getElem?_toArray, List.getElem?_cons_zero, List.getElem?_cons_succ]; rfl) (by kernel_rfl) (by kernel_rfl) (by kernel_rfl) (fun _ _ _ h => h) (Or.inl ⟨by rfl, ?_⟩) hSc5 ?_
  rotate_left
  · (intro wq hSw; go_simp; all_goals with_reducible rfl)
  try simp only [Act.put, List.setIfInBounds_toArray, List.set_cons_zero, List.set_cons_succ]
  refine wpAnyH_done (by kernel_rfl) ?_ _
  refine NoPanic.normal ?_
  have HV9 := Lib.hid hSc5
  clear hSc1 hSc2 hSc3 hSc4 hSc5 hMc1 hMc2 hMc3 hMc4 hMc5 hS
  go_upto_region 6 with (first | (refine wpList_load_blk rfl 25 (.tmp 3) rfl A rfl 25 x.cells _ HV9.out.a under_car rfl size_car ?_) | (refine wpList_load_blk rfl 25 (.tmp 4) rfl B rfl 25 y.cells _ HV9.out.b under_car rfl size_car ?_) | (go_at_call 47; refine (H5.out _).mono ?_; rintro r wb1 ⟨rfl, hM⟩; have HVb1 := Lib.hid (HV9.out.keep hM); clear hM) |
    (refine wpList_store_blk rfl 25 (.tmp 7) (.tmp 39) rfl wb1.heap.size P.cells rfl rfl 25 _ (two_newc wb1).1 size_car rfl (one_car _) ?_; intro wp1 hP1 hMp1 hsp1; clear hsp1) | (refine wpList_store_blk rfl 25 (.tmp 8) (.tmp 40) rfl (wb1.heap.size + 1) Q.cells rfl rfl 25 _ (hMp1.blk (two_newc wb1).2.1 (not_only (by omega))) size_car rfl (one_car _) ?_; intro wq1 hQ1 hMq1 hsq1; clear hsq1))
  have hP1' := hMq1.blk hP1 (not_only (by omega))
  have hm1 : Mod none_ wb1 wq1 := ((two_newc wb1).2.2.trans hMp1 (fun j hj e => by have : j = wb1.heap.size := e; omega)).trans hMq1 (fun j hj e => by have : j = wb1.heap.size + 1 := e; omega)
  obtain ⟨G1, hG1⟩ : ∃ x, wb1.heap.size = x := ⟨_, rfl⟩
  rw [hG1] at hP1' hQ1 ⊢
  have HP1 := Lib.hid hP1'; have HQ1 := Lib.hid hQ1; have HW1 := Lib.hid (HVb1.out.keep hm1)
  clear hP1 hP1' hQ1 hMp1 hMq1 hm1 hG1 HVb1
  go_upto_region 7 with (first | (refine wpList_load_blk rfl 25 (.tmp 3) rfl A rfl 25 x.cells _ HW1.out.a under_car rfl size_car ?_) | (refine wpList_load_blk rfl 25 (.tmp 4) rfl B rfl 25 y.cells _ HW1.out.b under_car rfl size_car ?_) | (go_at_call 48; refine (H6.out _).mono ?_; rintro r wb2 ⟨rfl, hM⟩; have HVb2 := Lib.hid (HW1.out.keep hM); have HP1b := Lib.hid (hM.blk HP1.out (fun h => h)); have HQ1b := Lib.hid (hM.blk HQ1.out (fun h => h)); clear hM) |
    (refine wpList_store_blk rfl 25 (.tmp 10) (.tmp 46) rfl wb2.heap.size P.cells rfl rfl 25 _ (two_newc wb2).1 size_car rfl (one_car _) ?_; intro wp2 hP2 hMp2 hsp2; clear hsp2) | (refine wpList_store_blk rfl 25 (.tmp 11) (.tmp 47) rfl (wb2.heap.size + 1) Q.cells rfl rfl 25 _ (hMp2.blk (two_newc wb2).2.1 (not_only (by omega))) size_car rfl (one_car _) ?_; intro wq2 hQ2 hMq2 hsq2; clear hsq2))
  have hP2' := hMq2.blk hP2 (not_only (by omega))
  have hm2 : Mod none_ wb2 wq2 := ((two_newc wb2).2.2.trans hMp2 (fun j hj e => by have : j = wb2.heap.size := e; omega)).trans hMq2 (fun j hj e => by have : j = wb2.heap.size + 1 := e; omega)
  obtain ⟨G2, hG2⟩ : ∃ x, wb2.heap.size = x := ⟨_, rfl⟩
  rw [hG2] at hP2' hQ2 ⊢
  have HP2 := Lib.hid hP2'; have HQ2 := Lib.hid hQ2; have HW2 := Lib.hid (HVb2.out.keep hm2); have HP1c := Lib.hid (hm2.blk HP1b.out (fun h => h)); have HQ1c := Lib.hid (hm2.blk HQ1b.out (fun h => h))
  clear hP2 hP2' hQ2 hMp2 hMq2 hm2 hG2 HVb2
  have e1 := E1.out
  have e2 := E2.out
  have e3 : (D == D) = true := by simp
  have c0 := HQ1c.out.cell (j := 0) rfl; have d0 := HQ2.out.cell (j := 0) rfl; have c1 := HQ1c.out.cell (j := 1) rfl; have d1 := HQ2.out.cell (j := 1) rfl; have c2 := HQ1c.out.cell (j := 2) rfl; have d2 := HQ2.out.cell (j := 2) rfl; have c3 := HQ1c.out.cell (j := 3) rfl; have d3 := HQ2.out.cell (j := 3) rfl; have c4 := HQ1c.out.cell (j := 4) rfl; have d4 := HQ2.out.cell (j := 4) rfl; have c5 := HQ1c.out.cell (j := 5) rfl; have d5 := HQ2.out.cell (j := 5) rfl; have c6 := HQ1c.out.cell (j := 6) rfl; have d6 := HQ2.out.cell (j := 6) rfl; have c7 := HQ1c.out.cell (j := 7) rfl; have d7 := HQ2.out.cell (j := 7) rfl; have c8 := HQ1c.out.cell (j := 8) rfl; have d8 := HQ2.out.cell (j := 8) rfl; have c9 := HQ1c.out.cell (j := 9) rfl; have d9 := HQ2.out.cell (j := 9) rfl; have c10 := HQ1c.out.cell (j := 10) rfl; have d10 := HQ2.out.cell (j := 10) rfl; have c11 := HQ1c.out.cell (j := 11) rfl; have d11 := HQ2.out.cell (j := 11) rfl; have c12 := HQ1c.out.cell (j := 12) rfl; have d12 := HQ2.out.cell (j := 12) rfl; have c13 := HQ1c.out.cell (j := 13) rfl; have d13 := HQ2.out.cell (j := 13) rfl
  go_wp2_with (first | (refine wpList_load_blk rfl 25 (.tmp 7) rfl G1 rfl 25 P.cells _ HP1c.out under_car rfl size_car ?_) | (refine wpList_load_blk rfl 25 (.tmp 10) rfl G2 rfl 25 P.cells _ HP2.out under_car rfl size_car ?_))
  go_ret
  exact ⟨rfl, HW2.out.m⟩
end Go.Proofs.YtinjlkceplhibaaDoor
