/- The document's Bump: the walk. -/
import Derived.Test.YtinjlkceplhibaaDoorCdG
import Derived.Test.YtinjlkceplhibaaDoorCdB
namespace Go.Proofs.YtinjlkceplhibaaDoor
open Go.RowKit

set_option maxHeartbeats 4000000 in
set_option maxRecDepth 100000 in
theorem rbump_any (w : World) (a b : Cr) (ha : a.Ok) (hb : b.Ok) : Calls Tryd.prog 48 #[a.agg, b.agg] w fun e w' => e = .returned (.tuple #[(bumpA a b).agg, (bumpB a b).agg, .bool (bumps a b)]) ∧ Mod none_ w w' := by
  have hn := fun q : World => rnear_any q a.ax a.ay b.ax b.ay 163840 ha.ax ha.ay hb.ax hb.ay
  have hdn : a.near b = Vx.nearB a.ax a.ay b.ax b.ay 163840 := rfl
  rw [← hdn] at hn
  have hda : bumpA a b = if bumps a b = true then a.fast b else a := rfl
  have hdb : bumpB a b = if bumps a b = true then b.fast a else b := rfl
  have hds : bumps a b = !(decide (0 < a.wait) || (decide (0 < b.wait) || !a.near b)) := rfl
  obtain ⟨NB, hNB⟩ : ∃ x, a.near b = x := ⟨_, rfl⟩
  rw [hNB] at hn hds
  obtain ⟨RA, hRA⟩ : ∃ x, bumpA a b = x := ⟨_, rfl⟩
  obtain ⟨RB, hRB⟩ : ∃ x, bumpB a b = x := ⟨_, rfl⟩
  obtain ⟨RS, hRS⟩ : ∃ x, bumps a b = x := ⟨_, rfl⟩
  rw [hRS] at hds hda hdb ⊢
  rw [hRA] at hda ⊢
  rw [hRB] at hdb ⊢
  have HN := Lib.hid hn; have HDA := Lib.hid hda; have HDB := Lib.hid hdb; have HDS := Lib.hid hds
  clear hn hda hdb hds hdn hNB hRA hRB hRS ha hb
  unfold Cr.agg
  go_enter Tryd.func48, Tryd.ntmps48
  go_upto_region 1 with fail
  obtain ⟨w4, hw4, hA4, hB4, hX4, hY4, hM4⟩ := bump_new w a b
  change Code.wp _ _ _ _ ((((w.alloc (.cells a.cells.toArray 25)).alloc (.cells b.cells.toArray 25)).alloc (.cells car0.cells.toArray 25)).alloc (.cells car0.cells.toArray 25))
  rw [hw4]
  obtain ⟨A, hA⟩ : ∃ x, w.heap.size = x := ⟨_, rfl⟩
  rw [hA] at hA4 hB4 hX4 hY4 ⊢
  obtain ⟨B, hB⟩ : ∃ x, A + 1 = x := ⟨_, rfl⟩
  rw [hB] at hB4 hX4 hY4 ⊢
  obtain ⟨X, hX⟩ : ∃ x, B + 1 = x := ⟨_, rfl⟩
  rw [hX] at hX4 hY4 ⊢
  obtain ⟨Y, hY⟩ : ∃ x, X + 1 = x := ⟨_, rfl⟩
  rw [hY] at hY4 ⊢
  have HNN := Lib.hid (show w.heap.size ≤ A ∧ A < B ∧ B < X ∧ X < Y by omega)
  have HV4 : RowKit.Hid (BuS A B a b w w4) := Lib.hid ⟨hA4, hB4, hM4⟩
  have HX4 := Lib.hid hX4; have HY4 := Lib.hid hY4
  clear hw4 hA4 hB4 hX4 hY4 hM4 hA hB hX hY
  have x11 := HV4.out.a.cell (j := 11) rfl; have z11 := HV4.out.b.cell (j := 11) rfl; have x2 := HV4.out.a.cell (j := 2) rfl; have x3 := HV4.out.a.cell (j := 3) rfl; have z2 := HV4.out.b.cell (j := 2) rfl; have z3 := HV4.out.b.cell (j := 3) rfl
  by_cases c1 : 0 < a.wait
  · have d1 : decide (0 < a.wait) = true := decide_eq_true c1
    have hrs : RS = false := by rw [HDS.out, d1]; rfl
    subst hrs
    go_upto_region 2 with (go_at_call 86; refine (HN.out _).mono ?_; rintro r w7 ⟨rfl, hM⟩; have HV7 := Lib.hid (HV4.out.keep hM); have HX7 := Lib.hid (hM.blk HX4.out (fun h => h)); have HY7 := Lib.hid (hM.blk HY4.out (fun h => h)); clear hM)
    have hS : BuS A B a b w w4.drew := HV4.out.keep (Mod.refl _ _).drew
    have hda := HDA.out
    have hdb := HDB.out
    rw [if_neg (by decide)] at hda hdb
    refine wp_region_noPanic ?_
    refine wp_region_held_drew (S := BuS A B (a) (b) w) (by kernel_rfl) hS (fun hHeld => ?_)
    clear hHeld
    refine wpAnyH_take (i := 0) (v := _) (by simp only [List.getElem?_toArray, List.getElem?_cons_zero]; rfl) (by kernel_rfl) (by kernel_rfl) (by kernel_rfl) (fun _ _ _ h => h) (yieldsIf_load_mid (by rfl) 25 (.tmp 2) rfl A 0 rfl (a).cells _ (fun _ h => blk_mid h.a 0 _ (fun j v hj => by rw [Nat.zero_add]; exact hj)) under_car rfl size_car) hS ?_
    try simp only [Act.put, List.setIfInBounds_toArray, List.set_cons_zero, List.set_cons_succ]
    refine wpAnyH_take (i := 1) (v := _) (by simp only [List.getElem?_toArray, List.getElem?_cons_zero, List.getElem?_cons_succ]; rfl) (by kernel_rfl) (by kernel_rfl) (by kernel_rfl) (fun _ _ _ h => h) (yieldsIf_load_mid (by rfl) 25 (.tmp 3) rfl B 0 rfl (b).cells _ (fun _ h => blk_mid h.b 0 _ (fun j v hj => by rw [Nat.zero_add]; exact hj)) under_car rfl size_car) hS ?_
    try simp only [Act.put, List.setIfInBounds_toArray, List.set_cons_zero, List.set_cons_succ]
    refine wpAnyH_ready (rs := [2]) (by kernel_rfl) (by simp) ?_
    refine AllReadyH.cons (by simp only [List.getElem?_toArray, List.getElem?_cons_zero, List.getElem?_cons_succ]; rfl) (fun K hK => ?_) (AllReadyH.nil)
    rw [if_pos (by rfl)]
    refine wp_store_blk 25 (.tmp 4) (.tmp 24) rfl X (a).cells rfl rfl 25 _ HX4.out.drew size_car rfl (one_car _) ?_
    intro w9 hX9 hM9 _
    have hS9 := BuS.store hS hM9 (by have := HNN.out; omega)
    have hY9 := hM9.blk HY4.out.drew (not_only (by have := HNN.out; omega))
    refine hK.out _ _ hS9 (fun _ => ?_)
    clear hK K
    try simp only [Act.put]
    refine wpAnyH_ready (rs := [3]) (by kernel_rfl) (by simp) ?_
    refine AllReadyH.cons (by simp only [List.getElem?_toArray, List.getElem?_cons_zero, List.getElem?_cons_succ]; rfl) (fun K hK => ?_) (AllReadyH.nil)
    rw [if_pos (by rfl)]
    refine wp_store_blk 25 (.tmp 5) (.tmp 25) rfl Y (b).cells rfl rfl 25 _ hY9 size_car rfl (one_car _) ?_
    intro w10 hY10 hM10 _
    have hS10 := BuS.store hS9 hM10 (by have := HNN.out; omega)
    have hX10 := hM10.blk hX9 (not_only (by have := HNN.out; omega))
    refine hK.out _ _ hS10 (fun _ => ?_)
    clear hK K
    try simp only [Act.put]
    refine wpAnyH_take (i := 4) (v := ?_) (by simp only [List.getElem?_toArray, List.getElem?_cons_zero, List.getElem?_cons_succ]; rfl) (by kernel_rfl) (by kernel_rfl) (by kernel_rfl) (fun _ _ _ h => h) (Or.inl ⟨by rfl, ?_⟩) hS10 ?_
    rotate_left
    · (intro wq hSw; go_simp; all_goals with_reducible rfl)
    try simp only [Act.put, List.setIfInBounds_toArray, List.set_cons_zero, List.set_cons_succ]
    refine wpAnyH_done (by kernel_rfl) ?_ _
    refine NoPanic.normal ?_

    go_wp2_with fail
    exact bodyPost_ret (bump_back Tryd.results48 _ _ X Y a b (.bool false) rfl hX10 rfl hY10 rfl) rfl ⟨by first | rfl | (rw [hda, hdb]; rfl), hS10.m⟩
  have d1 : decide (0 < a.wait) = false := decide_eq_false c1
  by_cases c2 : 0 < b.wait
  · have d2 : decide (0 < b.wait) = true := decide_eq_true c2
    have hrs : RS = false := by rw [HDS.out, d1, d2]; rfl
    subst hrs
    go_upto_region 2 with (go_at_call 86; refine (HN.out _).mono ?_; rintro r w7 ⟨rfl, hM⟩; have HV7 := Lib.hid (HV4.out.keep hM); have HX7 := Lib.hid (hM.blk HX4.out (fun h => h)); have HY7 := Lib.hid (hM.blk HY4.out (fun h => h)); clear hM)
    have hS : BuS A B a b w w4.drew := HV4.out.keep (Mod.refl _ _).drew
    have hda := HDA.out
    have hdb := HDB.out
    rw [if_neg (by decide)] at hda hdb
    refine wp_region_noPanic ?_
    refine wp_region_held_drew (S := BuS A B (a) (b) w) (by kernel_rfl) hS (fun hHeld => ?_)
    clear hHeld
    refine wpAnyH_take (i := 0) (v := _) (by simp only [List.getElem?_toArray, List.getElem?_cons_zero]; rfl) (by kernel_rfl) (by kernel_rfl) (by kernel_rfl) (fun _ _ _ h => h) (yieldsIf_load_mid (by rfl) 25 (.tmp 2) rfl A 0 rfl (a).cells _ (fun _ h => blk_mid h.a 0 _ (fun j v hj => by rw [Nat.zero_add]; exact hj)) under_car rfl size_car) hS ?_
    try simp only [Act.put, List.setIfInBounds_toArray, List.set_cons_zero, List.set_cons_succ]
    refine wpAnyH_take (i := 1) (v := _) (by simp only [List.getElem?_toArray, List.getElem?_cons_zero, List.getElem?_cons_succ]; rfl) (by kernel_rfl) (by kernel_rfl) (by kernel_rfl) (fun _ _ _ h => h) (yieldsIf_load_mid (by rfl) 25 (.tmp 3) rfl B 0 rfl (b).cells _ (fun _ h => blk_mid h.b 0 _ (fun j v hj => by rw [Nat.zero_add]; exact hj)) under_car rfl size_car) hS ?_
    try simp only [Act.put, List.setIfInBounds_toArray, List.set_cons_zero, List.set_cons_succ]
    refine wpAnyH_ready (rs := [2]) (by kernel_rfl) (by simp) ?_
    refine AllReadyH.cons (by simp only [List.getElem?_toArray, List.getElem?_cons_zero, List.getElem?_cons_succ]; rfl) (fun K hK => ?_) (AllReadyH.nil)
    rw [if_pos (by rfl)]
    refine wp_store_blk 25 (.tmp 4) (.tmp 24) rfl X (a).cells rfl rfl 25 _ HX4.out.drew size_car rfl (one_car _) ?_
    intro w9 hX9 hM9 _
    have hS9 := BuS.store hS hM9 (by have := HNN.out; omega)
    have hY9 := hM9.blk HY4.out.drew (not_only (by have := HNN.out; omega))
    refine hK.out _ _ hS9 (fun _ => ?_)
    clear hK K
    try simp only [Act.put]
    refine wpAnyH_ready (rs := [3]) (by kernel_rfl) (by simp) ?_
    refine AllReadyH.cons (by simp only [List.getElem?_toArray, List.getElem?_cons_zero, List.getElem?_cons_succ]; rfl) (fun K hK => ?_) (AllReadyH.nil)
    rw [if_pos (by rfl)]
    refine wp_store_blk 25 (.tmp 5) (.tmp 25) rfl Y (b).cells rfl rfl 25 _ hY9 size_car rfl (one_car _) ?_
    intro w10 hY10 hM10 _
    have hS10 := BuS.store hS9 hM10 (by have := HNN.out; omega)
    have hX10 := hM10.blk hX9 (not_only (by have := HNN.out; omega))
    refine hK.out _ _ hS10 (fun _ => ?_)
    clear hK K
    try simp only [Act.put]
    refine wpAnyH_take (i := 4) (v := ?_) (by simp only [List.getElem?_toArray, List.getElem?_cons_zero, List.getElem?_cons_succ]; rfl) (by kernel_rfl) (by kernel_rfl) (by kernel_rfl) (fun _ _ _ h => h) (Or.inl ⟨by rfl, ?_⟩) hS10 ?_
    rotate_left
    · (intro wq hSw; go_simp; all_goals with_reducible rfl)
    try simp only [Act.put, List.setIfInBounds_toArray, List.set_cons_zero, List.set_cons_succ]
    refine wpAnyH_done (by kernel_rfl) ?_ _
    refine NoPanic.normal ?_

    go_wp2_with fail
    exact bodyPost_ret (bump_back Tryd.results48 _ _ X Y a b (.bool false) rfl hX10 rfl hY10 rfl) rfl ⟨by first | rfl | (rw [hda, hdb]; rfl), hS10.m⟩
  have d2 : decide (0 < b.wait) = false := decide_eq_false c2
  cases NB with
  | false =>
    have hrs : RS = false := by rw [HDS.out, d1, d2]; rfl
    subst hrs
    go_upto_region 2 with (go_at_call 86; refine (HN.out _).mono ?_; rintro r w7 ⟨rfl, hM⟩; have HV7 := Lib.hid (HV4.out.keep hM); have HX7 := Lib.hid (hM.blk HX4.out (fun h => h)); have HY7 := Lib.hid (hM.blk HY4.out (fun h => h)); clear hM)
    have hS : BuS A B a b w w7.drew := HV7.out.keep (Mod.refl _ _).drew
    have hda := HDA.out
    have hdb := HDB.out
    rw [if_neg (by decide)] at hda hdb
    refine wp_region_noPanic ?_
    refine wp_region_held_drew (S := BuS A B (a) (b) w) (by kernel_rfl) hS (fun hHeld => ?_)
    clear hHeld
    refine wpAnyH_take (i := 0) (v := _) (by simp only [List.getElem?_toArray, List.getElem?_cons_zero]; rfl) (by kernel_rfl) (by kernel_rfl) (by kernel_rfl) (fun _ _ _ h => h) (yieldsIf_load_mid (by rfl) 25 (.tmp 2) rfl A 0 rfl (a).cells _ (fun _ h => blk_mid h.a 0 _ (fun j v hj => by rw [Nat.zero_add]; exact hj)) under_car rfl size_car) hS ?_
    try simp only [Act.put, List.setIfInBounds_toArray, List.set_cons_zero, List.set_cons_succ]
    refine wpAnyH_take (i := 1) (v := _) (by simp only [List.getElem?_toArray, List.getElem?_cons_zero, List.getElem?_cons_succ]; rfl) (by kernel_rfl) (by kernel_rfl) (by kernel_rfl) (fun _ _ _ h => h) (yieldsIf_load_mid (by rfl) 25 (.tmp 3) rfl B 0 rfl (b).cells _ (fun _ h => blk_mid h.b 0 _ (fun j v hj => by rw [Nat.zero_add]; exact hj)) under_car rfl size_car) hS ?_
    try simp only [Act.put, List.setIfInBounds_toArray, List.set_cons_zero, List.set_cons_succ]
    refine wpAnyH_ready (rs := [2]) (by kernel_rfl) (by simp) ?_
    refine AllReadyH.cons (by simp only [List.getElem?_toArray, List.getElem?_cons_zero, List.getElem?_cons_succ]; rfl) (fun K hK => ?_) (AllReadyH.nil)
    rw [if_pos (by rfl)]
    refine wp_store_blk 25 (.tmp 4) (.tmp 24) rfl X (a).cells rfl rfl 25 _ HX7.out.drew size_car rfl (one_car _) ?_
    intro w9 hX9 hM9 _
    have hS9 := BuS.store hS hM9 (by have := HNN.out; omega)
    have hY9 := hM9.blk HY7.out.drew (not_only (by have := HNN.out; omega))
    refine hK.out _ _ hS9 (fun _ => ?_)
    clear hK K
    try simp only [Act.put]
    refine wpAnyH_ready (rs := [3]) (by kernel_rfl) (by simp) ?_
    refine AllReadyH.cons (by simp only [List.getElem?_toArray, List.getElem?_cons_zero, List.getElem?_cons_succ]; rfl) (fun K hK => ?_) (AllReadyH.nil)
    rw [if_pos (by rfl)]
    refine wp_store_blk 25 (.tmp 5) (.tmp 25) rfl Y (b).cells rfl rfl 25 _ hY9 size_car rfl (one_car _) ?_
    intro w10 hY10 hM10 _
    have hS10 := BuS.store hS9 hM10 (by have := HNN.out; omega)
    have hX10 := hM10.blk hX9 (not_only (by have := HNN.out; omega))
    refine hK.out _ _ hS10 (fun _ => ?_)
    clear hK K
    try simp only [Act.put]
    refine wpAnyH_take (i := 4) (v := ?_) (by simp only [List.getElem?_toArray, List.getElem?_cons_zero, List.getElem?_cons_succ]; rfl) (by kernel_rfl) (by kernel_rfl) (by kernel_rfl) (fun _ _ _ h => h) (Or.inl ⟨by rfl, ?_⟩) hS10 ?_
    rotate_left
    · (intro wq hSw; go_simp; all_goals with_reducible rfl)
    try simp only [Act.put, List.setIfInBounds_toArray, List.set_cons_zero, List.set_cons_succ]
    refine wpAnyH_done (by kernel_rfl) ?_ _
    refine NoPanic.normal ?_

    go_wp2_with fail
    exact bodyPost_ret (bump_back Tryd.results48 _ _ X Y a b (.bool false) rfl hX10 rfl hY10 rfl) rfl ⟨by first | rfl | (rw [hda, hdb]; rfl), hS10.m⟩
  | true =>
    have hrs : RS = true := by rw [HDS.out, d1, d2]; rfl
    subst hrs
    have hda := HDA.out
    have hdb := HDB.out
    rw [if_pos rfl] at hda hdb
    go_upto_region 3 with (go_at_call 86; refine (HN.out _).mono ?_; rintro r w7 ⟨rfl, hM⟩; have HV7 := Lib.hid (HV4.out.keep hM); have HX7 := Lib.hid (hM.blk HX4.out (fun h => h)); have HY7 := Lib.hid (hM.blk HY4.out (fun h => h)); clear hM)
    have x4 := HV7.out.a.cell (j := 4) rfl; have x5 := HV7.out.a.cell (j := 5) rfl
    have hne := HNN.out
    have hAB : A ≠ B := by omega
    go_upto_region 4 with (refine wpList_store_new rfl 23 (.tmp 7) (.tmp 27) rfl 23 _ [.int .i64 a.sx, .int .i64 a.sy] rfl rfl size_vec2 rfl (one_vec2 _ _) ?_; intro w75 hT hMt hst)
    obtain ⟨V, hVe⟩ : ∃ V, w7.heap.size = V := ⟨_, rfl⟩
    rw [hVe] at hT ⊢
    have HV75 := Lib.hid (HV7.out.keep hMt); have HX75 := Lib.hid (hMt.blk HX7.out (fun h => h)); have HY75 := Lib.hid (hMt.blk HY7.out (fun h => h)); have HT75 := Lib.hid hT
    have HVN := Lib.hid (show A < V ∧ B < V from by have h1 := HV7.out.a.lt; have h2 := HV7.out.b.lt; omega)
    clear x4 x5 hT hMt hst hVe HV7 HX7 HY7
    have y4 := HV75.out.b.cell (j := 4) rfl; have y5 := HV75.out.b.cell (j := 5) rfl; have f4 := HV75.out.a.frozen 4; have f5 := HV75.out.a.frozen 5; have x4 := HV75.out.a.cell (j := 4) rfl; have x5 := HV75.out.a.cell (j := 5) rfl
    go_upto_region 5 with fail
    obtain ⟨w76, hw76, hA76, hM76⟩ : ∃ w76, ((w75.setCell ⟨A, 4, none⟩ (.int .i64 b.sx)).setCell ⟨A, 5, none⟩ (.int .i64 b.sy)) = w76 ∧ Blk w76 A (a.fast b).cells 25 ∧ Mod (only A) w75 w76 :=
      ⟨_, rfl, ((HV75.out.a.set 4 _).set 5 _).cs rfl, ((Mod.refl _ _).setCell (p := ⟨A, 4, none⟩) (fun _ => only_self A) _).setCell (p := ⟨A, 5, none⟩) (fun _ => only_self A) _⟩
    rw [hw76]
    have HA76 := Lib.hid hA76; have HB76 := Lib.hid (hM76.blk HV75.out.b (not_only hAB.symm)); have HX76 := Lib.hid (hM76.blk HX75.out (not_only (by omega))); have HY76 := Lib.hid (hM76.blk HY75.out (not_only (by omega))); have HT76 := Lib.hid (hM76.blk HT75.out (not_only (by have := HVN.out; omega)))
    have HM76 := Lib.hid (HV75.out.m.trans hM76 (fun j hj e => by have : j = A := e; omega))
    clear y4 y5 x4 x5 f4 f5 hw76 hA76 hM76 HV75 HX75 HY75 HT75
    have t0 := HT76.out.cell (j := 0) rfl; have t1 := HT76.out.cell (j := 1) rfl; have y4 := HB76.out.cell (j := 4) rfl; have y5 := HB76.out.cell (j := 5) rfl; have g4 := HB76.out.frozen 4; have g5 := HB76.out.frozen 5
    go_upto_region 6 with fail
    obtain ⟨w8, hw8, hB8, hM8⟩ : ∃ w8, ((w76.setCell ⟨B, 4, none⟩ (.int .i64 a.sx)).setCell ⟨B, 5, none⟩ (.int .i64 a.sy)) = w8 ∧ Blk w8 B (b.fast a).cells 25 ∧ Mod (only B) w76 w8 :=
      ⟨_, rfl, ((HB76.out.set 4 _).set 5 _).cs rfl, ((Mod.refl _ _).setCell (p := ⟨B, 4, none⟩) (fun _ => only_self B) _).setCell (p := ⟨B, 5, none⟩) (fun _ => only_self B) _⟩
    rw [hw8]
    have HX8 := Lib.hid (hM8.blk HX76.out (not_only (by omega))); have HY8 := Lib.hid (hM8.blk HY76.out (not_only (by omega)))
    have hS8 : BuS A B (a.fast b) (b.fast a) w w8 := ⟨hM8.blk HA76.out (not_only hAB), hB8, HM76.out.trans hM8 (fun j hj e => by have : j = B := e; omega)⟩
    have hS : BuS A B (a.fast b) (b.fast a) w w8.drew := hS8.keep (Mod.refl _ _).drew
    clear t0 t1 y4 y5 g4 g5 hw8 hB8 hM8
    refine wp_region_noPanic ?_
    refine wp_region_held_drew (S := BuS A B (a.fast b) (b.fast a) w) (by kernel_rfl) hS (fun hHeld => ?_)
    clear hHeld
    refine wpAnyH_take (i := 0) (v := _) (by simp only [List.getElem?_toArray, List.getElem?_cons_zero]; rfl) (by kernel_rfl) (by kernel_rfl) (by kernel_rfl) (fun _ _ _ h => h) (yieldsIf_load_mid (by rfl) 25 (.tmp 2) rfl A 0 rfl (a.fast b).cells _ (fun _ h => blk_mid h.a 0 _ (fun j v hj => by rw [Nat.zero_add]; exact hj)) under_car rfl size_car) hS ?_
    try simp only [Act.put, List.setIfInBounds_toArray, List.set_cons_zero, List.set_cons_succ]
    refine wpAnyH_take (i := 1) (v := _) (by simp only [List.getElem?_toArray, List.getElem?_cons_zero, List.getElem?_cons_succ]; rfl) (by kernel_rfl) (by kernel_rfl) (by kernel_rfl) (fun _ _ _ h => h) (yieldsIf_load_mid (by rfl) 25 (.tmp 3) rfl B 0 rfl (b.fast a).cells _ (fun _ h => blk_mid h.b 0 _ (fun j v hj => by rw [Nat.zero_add]; exact hj)) under_car rfl size_car) hS ?_
    try simp only [Act.put, List.setIfInBounds_toArray, List.set_cons_zero, List.set_cons_succ]
    refine wpAnyH_ready (rs := [2]) (by kernel_rfl) (by simp) ?_
    refine AllReadyH.cons (by simp only [List.getElem?_toArray, List.getElem?_cons_zero, List.getElem?_cons_succ]; rfl) (fun K hK => ?_) (AllReadyH.nil)
    rw [if_pos (by rfl)]
    refine wp_store_blk 25 (.tmp 4) (.tmp 33) rfl X (a.fast b).cells rfl rfl 25 _ HX8.out.drew size_car rfl (one_car _) ?_
    intro w9 hX9 hM9 _
    have hS9 := BuS.store hS hM9 (by have := HNN.out; omega)
    have hY9 := hM9.blk HY8.out.drew (not_only (by have := HNN.out; omega))
    refine hK.out _ _ hS9 (fun _ => ?_)
    clear hK K
    try simp only [Act.put]
    refine wpAnyH_ready (rs := [3]) (by kernel_rfl) (by simp) ?_
    refine AllReadyH.cons (by simp only [List.getElem?_toArray, List.getElem?_cons_zero, List.getElem?_cons_succ]; rfl) (fun K hK => ?_) (AllReadyH.nil)
    rw [if_pos (by rfl)]
    refine wp_store_blk 25 (.tmp 5) (.tmp 34) rfl Y (b.fast a).cells rfl rfl 25 _ hY9 size_car rfl (one_car _) ?_
    intro w10 hY10 hM10 _
    have hS10 := BuS.store hS9 hM10 (by have := HNN.out; omega)
    have hX10 := hM10.blk hX9 (not_only (by have := HNN.out; omega))
    refine hK.out _ _ hS10 (fun _ => ?_)
    clear hK K
    try simp only [Act.put]
    refine wpAnyH_take (i := 4) (v := ?_) (by simp only [List.getElem?_toArray, List.getElem?_cons_zero, List.getElem?_cons_succ]; rfl) (by kernel_rfl) (by kernel_rfl) (by kernel_rfl) (fun _ _ _ h => h) (Or.inl ⟨by rfl, ?_⟩) hS10 ?_
    rotate_left
    · (intro wq hSw; go_simp; all_goals with_reducible rfl)
    try simp only [Act.put, List.setIfInBounds_toArray, List.set_cons_zero, List.set_cons_succ]
    refine wpAnyH_done (by kernel_rfl) ?_ _
    refine NoPanic.normal ?_

    go_wp2_with fail
    exact bodyPost_ret (bump_back Tryd.results48 _ _ X Y (a.fast b) (b.fast a) (.bool true) rfl hX10 rfl hY10 rfl) rfl ⟨by first | rfl | (rw [hda, hdb]; rfl), hS10.m⟩
end Go.Proofs.YtinjlkceplhibaaDoor
