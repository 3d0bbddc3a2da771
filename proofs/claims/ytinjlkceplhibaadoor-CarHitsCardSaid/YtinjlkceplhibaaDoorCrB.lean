/- Cars: hits and bumps: the walks. -/
import Derived.Test.YtinjlkceplhibaaDoorCrA
import Derived.Laws.Rows
namespace Go.Proofs.YtinjlkceplhibaaDoor
open Go.RowKit

theorem under_car : Tryd.prog.underlying 25 = some (.struct (Tryd.prog.fieldsOf 25)) := by kernel_rfl
theorem size_car : (Tryd.prog.info? 25).map (·.size) = some 14 := by kernel_rfl
theorem under_shot : Tryd.prog.underlying 28 = some (.struct (Tryd.prog.fieldsOf 28)) := by kernel_rfl
theorem size_shot : (Tryd.prog.info? 28).map (·.size) = some 7 := by kernel_rfl
theorem size_vec2 : (Tryd.prog.info? 23).map (·.size) = some 2 := by kernel_rfl
theorem one_car (c : Cr) : ∀ v ∈ c.cells, v.oneCell' = true := by
  intro v hv
  unfold Cr.cells at hv
  simp only [List.mem_cons, List.not_mem_nil, or_false] at hv
  rcases hv with rfl | rfl | rfl | rfl | rfl | rfl | rfl | rfl | rfl | rfl | rfl | rfl | rfl | rfl <;> rfl
theorem one_shot (c : Sh) : ∀ v ∈ c.cells, v.oneCell' = true := by
  intro v hv
  unfold Sh.cells at hv
  simp only [List.mem_cons, List.not_mem_nil, or_false] at hv
  rcases hv with rfl | rfl | rfl | rfl | rfl | rfl | rfl <;> rfl
/-- no car -/
def car0 : Cr := ⟨0, ⟨#[]⟩, 0, 0, 0, 0, 0, 0, 0, 0, 0, 0, 0, 0⟩
def shot0 : Sh := ⟨0, 0, 0, 0, 0, 0, 0⟩
/-- a car that is hit -/
def Cr.hit (c : Cr) (hurt : Int) : Cr :=
  if 0 < c.wait then c else if c.health ≤ (if hurt < 0 then 0 else hurt) then { c with health := 0, wait := 40, sx := 0, sy := 0 } else { c with health := c.health - (if hurt < 0 then 0 else hurt) }
theorem wreck_any (w : World) (c : Cr) : Calls Tryd.prog 73 #[c.agg] w fun e w' => e = .returned (.bool (decide (0 < c.wait))) ∧ Mod none_ w w' := by
  unfold Cr.agg
  have hB := Blk.new w c.cells 25
  have q := hB.cell (j := 11) rfl
  clear hB
  go_enter Tryd.func73, Tryd.ntmps73
  go_wp2
  go_ret
  exact ⟨rfl, (Mod.refl none_ w).alloc _⟩
theorem car_new1 (w : World) (c : Cr) : ∃ w1, (w.alloc (.cells c.cells.toArray 25)).alloc (.cells #[.int .i64 0, .string ⟨#[]⟩, .int .i64 0, .int .i64 0, .int .i64 0, .int .i64 0, .int .i64 0, .int .i64 0, .int .i64 0, .int .i64 0, .int .i64 0, .int .i64 0, .int .i64 0, .int .i64 0] 25) = w1 ∧ Blk w1 w.heap.size c.cells 25 ∧ Blk w1 (w.heap.size + 1) car0.cells 25 ∧ Mod none_ w w1 := by
  refine ⟨_, rfl, (Blk.new w c.cells _).alloc _, ?_, ((Mod.refl none_ w).alloc _).alloc _⟩
  have := Blk.new (w.alloc (.cells c.cells.toArray 25)) car0.cells 25
  rw [World.size_alloc] at this
  exact this
/-- a car that a function hands back -/
theorem car_back {fn : Func} {p : Tmp} (h : fn.results = #[.cell p 25]) (tmps : Array Value) (w : World) (g : Nat) (c : Cr) (hp : tmps.getD p undef = .pointer (some ⟨g, 0, none⟩)) (hg : Blk w g c.cells 25) : (results fn tmps).run Tryd.prog w = .ok c.agg w :=
  results_cell_row h tmps w g 25 c.cells.toArray (0, 0) _ hp hg under_car rfl size_car
set_option maxHeartbeats 1000000 in
set_option maxRecDepth 100000 in
theorem hit_any (w : World) (c : Cr) (hc : c.Ok) (hurt : Int) : Calls Tryd.prog 45 #[c.agg, .int .i64 hurt] w fun e w' => e = .returned (c.hit hurt).agg ∧ Mod none_ w w' := by
  have hh := hc.health
  unfold Bd.I64 at hh
  have hwr := fun q : World => wreck_any q c
  have HW := Lib.hid hwr
  clear hwr hc
  have hd : c.hit hurt = if 0 < c.wait then c else if c.health ≤ (if hurt < 0 then 0 else hurt) then { c with health := 0, wait := 40, sx := 0, sy := 0 } else { c with health := c.health - (if hurt < 0 then 0 else hurt) } := rfl
  obtain ⟨R, hR⟩ : ∃ R, c.hit hurt = R := ⟨_, rfl⟩
  rw [hR] at hd ⊢
  have HD := Lib.hid hd
  clear hd hR
  unfold Cr.agg at HW ⊢
  go_enter Tryd.func45, Tryd.ntmps45
  go_upto_region 1 with fail
  obtain ⟨w1, hw1, hB, hX, hM⟩ := car_new1 w c
  rw [hw1]
  obtain ⟨Z, hZ⟩ : ∃ Z, w.heap.size = Z := ⟨_, rfl⟩
  rw [hZ] at hB hX ⊢
  obtain ⟨X, hXe⟩ : ∃ X, Z + 1 = X := ⟨_, rfl⟩
  rw [hXe] at hX ⊢
  have HB := Lib.hid hB; have HX := Lib.hid hX; have HM := Lib.hid hM
  have HZX := Lib.hid (show w.heap.size ≤ Z ∧ Z ≠ X ∧ w.heap.size ≤ X by omega)
  clear hB hX hM hw1 hZ hXe
  go_upto_if 6 with (first | (refine wpList_load_blk rfl 25 (.tmp 2) rfl Z rfl 25 c.cells _ HB.out under_car rfl size_car ?_) | (go_at_call 73; refine (HW.out _).mono ?_; rintro r w2 ⟨rfl, hM2⟩; have HB2 := Lib.hid (hM2.blk HB.out (fun h => h)); have HX2 := Lib.hid (hM2.blk HX.out (fun h => h)); have HM2 := Lib.hid (HM.out.then hM2); clear hM2))
  clear HB HX HM
  by_cases hw : 0 < c.wait
  · have HR := Lib.hid (HD.out.trans (if_pos hw))
    go_wp2_with (first | (refine wpList_load_blk rfl 25 (.tmp 2) rfl Z rfl 25 c.cells _ HB2.out under_car rfl size_car ?_) | (refine wpList_store_blk rfl 25 (.tmp 4) (.tmp 7) rfl X c.cells rfl rfl 25 _ HX2.out size_car rfl (one_car c) ?_; intro w3 hX3 hM3 _))
    rw [HR.out]
    exact bodyPost_ret (v := .agg c.cells.toArray) (car_back Tryd.results45 _ _ X c rfl hX3) rfl ⟨rfl, HM2.out.trans hM3 (fun j hj e => by have : j = X := e; have := HZX.out; omega)⟩
  · obtain ⟨h, hh'⟩ : ∃ h, (if hurt < 0 then 0 else hurt) = h := ⟨_, rfl⟩
    have hd := HD.out
    rw [if_neg hw, hh'] at hd
    have hh0 : 0 ≤ h := by rw [← hh']; split <;> omega
    have q7 := HB2.out.cell (j := 7) rfl; have q11 := HB2.out.cell (j := 11) rfl; have q4 := HB2.out.cell (j := 4) rfl; have q5 := HB2.out.cell (j := 5) rfl
    have f7 := HB2.out.frozen 7; have f11 := HB2.out.frozen 11; have f4 := HB2.out.frozen 4; have f5 := HB2.out.frozen 5
    have HD2 := Lib.hid hd
    have hmx : (hurt < 0 ∧ h = 0) ∨ (¬ hurt < 0 ∧ h = hurt) := by rw [← hh']; split <;> omega
    clear hd hh' HD
    have hne := HZX.out
    by_cases hle : c.health ≤ h
    · have hd := HD2.out
      rw [if_pos hle] at hd
      have HR := Lib.hid hd
      clear hd
      rcases hmx with ⟨m1, rfl⟩ | ⟨m1, rfl⟩
      · go_upto_region 6 with fail
        obtain ⟨w3, hw3, hB3, hM3⟩ : ∃ w3, ((((w2.setCell ⟨Z, 7, none⟩ (.int .i64 0)).setCell ⟨Z, 11, none⟩ (.int .i64 40)).setCell ⟨Z, 4, none⟩ (.int .i64 0)).setCell ⟨Z, 5, none⟩ (.int .i64 0)) = w3 ∧ Blk w3 Z ({ c with health := 0, wait := 40, sx := 0, sy := 0 } : Cr).cells 25 ∧ Mod (only Z) w2 w3 :=
          ⟨_, rfl, ((((HB2.out.set 7 _).set 11 _).set 4 _).set 5 _).cs rfl, ((((Mod.refl _ _).setCell (fun _ => only_self Z) _).setCell (fun _ => only_self Z) _).setCell (fun _ => only_self Z) _).setCell (fun _ => only_self Z) _⟩
        rw [hw3]
        have hX3 := hM3.blk HX2.out (not_only (fun e => hne.2.1 e.symm))
        clear q7 q11 q4 q5 f7 f11 f4 f5 hw3
        go_wp2_with (first | (refine wpList_load_blk rfl 25 (.tmp 2) rfl Z rfl 25 _ _ hB3 under_car rfl size_car ?_) | (refine wpList_store_blk rfl 25 (.tmp 4) (.tmp 18) rfl X _ rfl rfl 25 _ hX3 size_car rfl (one_car { c with health := 0, wait := 40, sx := 0, sy := 0 }) ?_; intro w4 hX4 hM4 _))
        rw [HR.out]
        exact bodyPost_ret (car_back Tryd.results45 _ _ X _ rfl hX4) rfl ⟨rfl, (HM2.out.trans hM3 (fun j hj e => by have : j = Z := e; omega)).trans hM4 (fun j hj e => by have : j = X := e; omega)⟩
      · go_upto_region 6 with fail
        obtain ⟨w3, hw3, hB3, hM3⟩ : ∃ w3, ((((w2.setCell ⟨Z, 7, none⟩ (.int .i64 0)).setCell ⟨Z, 11, none⟩ (.int .i64 40)).setCell ⟨Z, 4, none⟩ (.int .i64 0)).setCell ⟨Z, 5, none⟩ (.int .i64 0)) = w3 ∧ Blk w3 Z ({ c with health := 0, wait := 40, sx := 0, sy := 0 } : Cr).cells 25 ∧ Mod (only Z) w2 w3 :=
          ⟨_, rfl, ((((HB2.out.set 7 _).set 11 _).set 4 _).set 5 _).cs rfl, ((((Mod.refl _ _).setCell (fun _ => only_self Z) _).setCell (fun _ => only_self Z) _).setCell (fun _ => only_self Z) _).setCell (fun _ => only_self Z) _⟩
        rw [hw3]
        have hX3 := hM3.blk HX2.out (not_only (fun e => hne.2.1 e.symm))
        clear q7 q11 q4 q5 f7 f11 f4 f5 hw3
        go_wp2_with (first | (refine wpList_load_blk rfl 25 (.tmp 2) rfl Z rfl 25 _ _ hB3 under_car rfl size_car ?_) | (refine wpList_store_blk rfl 25 (.tmp 4) (.tmp 18) rfl X _ rfl rfl 25 _ hX3 size_car rfl (one_car { c with health := 0, wait := 40, sx := 0, sy := 0 }) ?_; intro w4 hX4 hM4 _))
        rw [HR.out]
        exact bodyPost_ret (car_back Tryd.results45 _ _ X _ rfl hX4) rfl ⟨rfl, (HM2.out.trans hM3 (fun j hj e => by have : j = Z := e; omega)).trans hM4 (fun j hj e => by have : j = X := e; omega)⟩
    · have hd := HD2.out
      rw [if_neg hle] at hd
      have HR := Lib.hid hd
      clear hd
      rcases hmx with ⟨m1, rfl⟩ | ⟨m1, rfl⟩
      · have hr := HR.out
        rw [Int.sub_zero] at hr
        clear HR
        have HR := Lib.hid hr
        clear hr
        go_upto_region 8 with fail
        obtain ⟨w3, hw3, hB3, hM3⟩ : ∃ w3, (w2.setCell ⟨Z, 7, none⟩ (.int .i64 (c.health))) = w3 ∧ Blk w3 Z ({ c with health := c.health } : Cr).cells 25 ∧ Mod (only Z) w2 w3 :=
          ⟨_, rfl, (HB2.out.set 7 _).cs rfl, (Mod.refl _ _).setCell (fun _ => only_self Z) _⟩
        rw [hw3]
        have hX3 := hM3.blk HX2.out (not_only (fun e => hne.2.1 e.symm))
        clear q7 q11 q4 q5 f7 f11 f4 f5 hw3
        go_wp2_with (first | (refine wpList_load_blk rfl 25 (.tmp 2) rfl Z rfl 25 _ _ hB3 under_car rfl size_car ?_) | (refine wpList_store_blk rfl 25 (.tmp 4) (.tmp 24) rfl X _ rfl rfl 25 _ hX3 size_car rfl (one_car { c with health := c.health }) ?_; intro w4 hX4 hM4 _))
        rw [HR.out]
        exact bodyPost_ret (car_back Tryd.results45 _ _ X _ rfl hX4) rfl ⟨rfl, (HM2.out.trans hM3 (fun j hj e => by have : j = Z := e; omega)).trans hM4 (fun j hj e => by have : j = X := e; omega)⟩
      · go_upto_region 8 with fail
        obtain ⟨w3, hw3, hB3, hM3⟩ : ∃ w3, (w2.setCell ⟨Z, 7, none⟩ (.int .i64 (c.health - h))) = w3 ∧ Blk w3 Z ({ c with health := c.health - h } : Cr).cells 25 ∧ Mod (only Z) w2 w3 :=
          ⟨_, rfl, (HB2.out.set 7 _).cs rfl, (Mod.refl _ _).setCell (fun _ => only_self Z) _⟩
        rw [hw3]
        have hX3 := hM3.blk HX2.out (not_only (fun e => hne.2.1 e.symm))
        clear q7 q11 q4 q5 f7 f11 f4 f5 hw3
        go_wp2_with (first | (refine wpList_load_blk rfl 25 (.tmp 2) rfl Z rfl 25 _ _ hB3 under_car rfl size_car ?_) | (refine wpList_store_blk rfl 25 (.tmp 4) (.tmp 24) rfl X _ rfl rfl 25 _ hX3 size_car rfl (one_car { c with health := c.health - h }) ?_; intro w4 hX4 hM4 _))
        rw [HR.out]
        exact bodyPost_ret (car_back Tryd.results45 _ _ X _ rfl hX4) rfl ⟨rfl, (HM2.out.trans hM3 (fun j hj e => by have : j = Z := e; omega)).trans hM4 (fun j hj e => by have : j = X := e; omega)⟩
end Go.Proofs.YtinjlkceplhibaaDoor
