/- car: Come; the document's Hit: the walks. -/
import Derived.Test.YtinjlkceplhibaaDoorCdD
namespace Go.Proofs.YtinjlkceplhibaaDoor
open Go.RowKit

def Cr.more (c : Cr) : Cr := { c with spawns := wrap64 (c.spawns + 1) }
/-- a car at its next spawn -/
def Cr.come (W : Nat) (E : List Int) (c : Cr) : Cr := c.more.fresh W E (wrap64 (c.player + c.more.spawns))
set_option maxHeartbeats 2000000 in
set_option maxRecDepth 100000 in
theorem come_any (w : World) {b W H : Nat} {E : List Int} (hB : BrdP w b W H E) (c : Cr) :
    Calls Tryd.prog 40 #[.pointer (some ⟨b, 0, none⟩), c.agg] w fun e w' => e = .returned (c.come W E).agg ∧ Mod none_ w w' := by
  have hf := fun (q : World) (hM : Mod none_ w q) => fresh_any q (hB.none hM) c.more (wrap64 (c.player + c.more.spawns))
  obtain ⟨R, hR⟩ : ∃ R, c.come W E = R := ⟨_, rfl⟩
  have hR' : c.more.fresh W E (wrap64 (c.player + c.more.spawns)) = R := hR
  simp only [hR'] at hf
  rw [hR]
  have HF := Lib.hid hf
  clear hf hR hR' hB
  unfold Cr.agg
  go_enter Tryd.func40, Tryd.ntmps40
  go_upto_region 1 with fail
  obtain ⟨w1, hw1, hC1, hX1, hM1⟩ := car_new1 w c
  rw [hw1]
  obtain ⟨Z, hZ⟩ : ∃ Z, w.heap.size = Z := ⟨_, rfl⟩
  rw [hZ] at hC1 hX1 ⊢
  obtain ⟨X, hXe⟩ : ∃ X, Z + 1 = X := ⟨_, rfl⟩
  rw [hXe] at hX1 ⊢
  have HC1 := Lib.hid hC1; have HX1 := Lib.hid hX1; have HM1 := Lib.hid hM1
  have HZX := Lib.hid (show w.heap.size ≤ Z ∧ Z ≠ X ∧ w.heap.size ≤ X by omega)
  clear hC1 hX1 hM1 hw1 hZ hXe
  have q12 := HC1.out.cell (j := 12) rfl; have f12 := HC1.out.frozen 12
  go_upto_region 2 with fail
  obtain ⟨w2, hw2, hC2, hM2⟩ : ∃ w2, w1.setCell ⟨Z, 12, none⟩ (.int .i64 (wrap64 (c.spawns + 1))) = w2 ∧ Blk w2 Z c.more.cells 25 ∧ Mod (only Z) w1 w2 := ⟨_, rfl, (HC1.out.set 12 _).cs rfl, (Mod.refl _ _).setCell (p := ⟨Z, 12, none⟩) (fun _ => only_self Z) _⟩
  rw [hw2]
  have HC2 := Lib.hid hC2; have HX2 := Lib.hid (hM2.blk HX1.out (not_only (fun e => HZX.out.2.1 e.symm))); have HM2 := Lib.hid (HM1.out.trans hM2 (fun j hj e => by have := HZX.out; have : j = Z := e; omega))
  clear hw2 hC2 hM2 q12 f12 HC1 HX1 HM1
  have q0 := HC2.out.cell (j := 0) (v := .int .i64 c.player) rfl; have q12 := HC2.out.cell (j := 12) (v := .int .i64 c.more.spawns) rfl
  go_wp2_with (first | (refine wpList_load_blk rfl 25 (.tmp 3) rfl Z rfl 25 c.more.cells _ HC2.out under_car rfl size_car ?_) | (go_at_call 80; refine (HF.out _ HM2.out).mono ?_; rintro r w3 ⟨rfl, hM⟩; have HX3 := Lib.hid (hM.blk HX2.out (fun h => h)); have HM3 := Lib.hid (HM2.out.then hM); clear hM) | (refine wpList_store_blk rfl 25 (.tmp 4) (.tmp 16) rfl X R.cells rfl rfl 25 _ HX3.out size_car rfl (one_car _) ?_; intro w4 hX4 hM4 _))
  exact bodyPost_ret (car_back Tryd.results40 _ _ X R rfl hX4) rfl ⟨rfl, HM3.out.trans hM4 (fun j hj e => by have := HZX.out; have : j = X := e; omega)⟩
set_option maxHeartbeats 2000000 in
set_option maxRecDepth 100000 in
theorem rhit_any (w : World) (c : Cr) (hc : c.Ok) (hurt : Int) (hu : Bd.I64 hurt) : Calls Tryd.prog 46 #[c.agg, .int .i64 hurt] w fun e w' => e = .returned (c.hit hurt).agg ∧ Mod none_ w w' := by
  have hh := hc.health
  unfold Bd.I64 at hh hu
  clear hc
  have hd : c.hit hurt = if 0 < c.wait then c else if c.health ≤ (if hurt < 0 then 0 else hurt) then { c with health := 0, wait := 40, sx := 0, sy := 0 } else { c with health := c.health - (if hurt < 0 then 0 else hurt) } := rfl
  obtain ⟨R, hR⟩ : ∃ R, c.hit hurt = R := ⟨_, rfl⟩
  rw [hR] at hd ⊢
  have HD := Lib.hid hd
  clear hd hR
  unfold Cr.agg
  go_enter Tryd.func46, Tryd.ntmps46
  go_upto_region 1 with fail
  obtain ⟨w1, hw1, hB, hX, hM⟩ := car_new1 w c
  rw [hw1]
  obtain ⟨Z, hZ⟩ : ∃ Z, w.heap.size = Z := ⟨_, rfl⟩
  rw [hZ] at hB hX ⊢
  obtain ⟨X, hXe⟩ : ∃ X, Z + 1 = X := ⟨_, rfl⟩
  rw [hXe] at hX ⊢
  have HB := Lib.hid hB; have HX := Lib.hid hX; have HM := Lib.hid hM
  have HZX := Lib.hid (show w.heap.size ≤ Z ∧ Z ≠ X ∧ w.heap.size ≤ X by omega)
  clear hB hX hM hw1 hZ hXe
  have q7 := HB.out.cell (j := 7) rfl; have q11 := HB.out.cell (j := 11) rfl; have q4 := HB.out.cell (j := 4) rfl; have q5 := HB.out.cell (j := 5) rfl
  have f7 := HB.out.frozen 7; have f11 := HB.out.frozen 11; have f4 := HB.out.frozen 4; have f5 := HB.out.frozen 5
  by_cases hw : 0 < c.wait
  · have HR := Lib.hid (HD.out.trans (if_pos hw))
    go_wp2_with (first | (refine wpList_load_blk rfl 25 (.tmp 2) rfl Z rfl 25 c.cells _ HB.out under_car rfl size_car ?_) | (refine wpList_store_blk rfl 25 (.tmp 4) (.tmp 8) rfl X c.cells rfl rfl 25 _ HX.out size_car rfl (one_car c) ?_; intro w3 hX3 hM3 _))
    rw [HR.out]
    exact bodyPost_ret (v := .agg c.cells.toArray) (car_back Tryd.results46 _ _ X c rfl hX3) rfl ⟨rfl, HM.out.trans hM3 (fun j hj e => by have : j = X := e; have := HZX.out; omega)⟩
  · by_cases m1 : hurt < 0
    · have hd := HD.out
      rw [if_neg hw, if_pos m1] at hd
      by_cases hle : c.health ≤ 0
      · rw [if_pos hle] at hd
        have HR := Lib.hid hd
        clear hd
        go_upto_region 9 with fail
        obtain ⟨w3, hw3, hB3, hM3⟩ : ∃ w3, ((((w1.setCell ⟨Z, 7, none⟩ (.int .i64 0)).setCell ⟨Z, 11, none⟩ (.int .i64 40)).setCell ⟨Z, 4, none⟩ (.int .i64 0)).setCell ⟨Z, 5, none⟩ (.int .i64 0)) = w3 ∧ Blk w3 Z ({ c with health := 0, wait := 40, sx := 0, sy := 0 } : Cr).cells 25 ∧ Mod (only Z) w1 w3 :=
          ⟨_, rfl, ((((HB.out.set 7 _).set 11 _).set 4 _).set 5 _).cs rfl, ((((Mod.refl _ _).setCell (fun _ => only_self Z) _).setCell (fun _ => only_self Z) _).setCell (fun _ => only_self Z) _).setCell (fun _ => only_self Z) _⟩
        rw [hw3]
        have hX3 := hM3.blk HX.out (not_only (fun e => HZX.out.2.1 e.symm))
        clear q7 q11 q4 q5 f7 f11 f4 f5 hw3
        go_wp2_with (first | (refine wpList_load_blk rfl 25 (.tmp 2) rfl Z rfl 25 _ _ hB3 under_car rfl size_car ?_) | (refine wpList_store_blk rfl 25 (.tmp 4) (.tmp 19) rfl X _ rfl rfl 25 _ hX3 size_car rfl (one_car { c with health := 0, wait := 40, sx := 0, sy := 0 }) ?_; intro w4 hX4 hM4 _))
        rw [HR.out]
        exact bodyPost_ret (car_back Tryd.results46 _ _ X _ rfl hX4) rfl ⟨rfl, (HM.out.trans hM3 (fun j hj e => by have := HZX.out; have : j = Z := e; omega)).trans hM4 (fun j hj e => by have := HZX.out; have : j = X := e; omega)⟩
      · rw [if_neg hle] at hd
        have HR := Lib.hid hd
        have hww : wrap64 (c.health - 0) = c.health - 0 := w64 (by omega)
        clear hd
        go_upto_region 11 with fail
        obtain ⟨w3, hw3, hB3, hM3⟩ : ∃ w3, w1.setCell ⟨Z, 7, none⟩ (.int .i64 (c.health - 0)) = w3 ∧ Blk w3 Z ({ c with health := c.health - 0 } : Cr).cells 25 ∧ Mod (only Z) w1 w3 :=
          ⟨_, rfl, (HB.out.set 7 _).cs rfl, (Mod.refl _ _).setCell (fun _ => only_self Z) _⟩
        try simp only [Int.sub_zero]
        try simp only [Int.sub_zero] at hw3
        rw [hw3]
        have hX3 := hM3.blk HX.out (not_only (fun e => HZX.out.2.1 e.symm))
        clear q7 q11 q4 q5 f7 f11 f4 f5 hw3
        go_wp2_with (first | (refine wpList_load_blk rfl 25 (.tmp 2) rfl Z rfl 25 _ _ hB3 under_car rfl size_car ?_) | (refine wpList_store_blk rfl 25 (.tmp 4) (.tmp 25) rfl X _ rfl rfl 25 _ hX3 size_car rfl (one_car { c with health := c.health - 0 }) ?_; intro w4 hX4 hM4 _))
        rw [HR.out]
        exact bodyPost_ret (car_back Tryd.results46 _ _ X _ rfl hX4) rfl ⟨rfl, (HM.out.trans hM3 (fun j hj e => by have := HZX.out; have : j = Z := e; omega)).trans hM4 (fun j hj e => by have := HZX.out; have : j = X := e; omega)⟩
    · have hd := HD.out
      rw [if_neg hw, if_neg m1] at hd
      by_cases hle : c.health ≤ hurt
      · rw [if_pos hle] at hd
        have HR := Lib.hid hd
        clear hd
        go_upto_region 9 with fail
        obtain ⟨w3, hw3, hB3, hM3⟩ : ∃ w3, ((((w1.setCell ⟨Z, 7, none⟩ (.int .i64 0)).setCell ⟨Z, 11, none⟩ (.int .i64 40)).setCell ⟨Z, 4, none⟩ (.int .i64 0)).setCell ⟨Z, 5, none⟩ (.int .i64 0)) = w3 ∧ Blk w3 Z ({ c with health := 0, wait := 40, sx := 0, sy := 0 } : Cr).cells 25 ∧ Mod (only Z) w1 w3 :=
          ⟨_, rfl, ((((HB.out.set 7 _).set 11 _).set 4 _).set 5 _).cs rfl, ((((Mod.refl _ _).setCell (fun _ => only_self Z) _).setCell (fun _ => only_self Z) _).setCell (fun _ => only_self Z) _).setCell (fun _ => only_self Z) _⟩
        rw [hw3]
        have hX3 := hM3.blk HX.out (not_only (fun e => HZX.out.2.1 e.symm))
        clear q7 q11 q4 q5 f7 f11 f4 f5 hw3
        go_wp2_with (first | (refine wpList_load_blk rfl 25 (.tmp 2) rfl Z rfl 25 _ _ hB3 under_car rfl size_car ?_) | (refine wpList_store_blk rfl 25 (.tmp 4) (.tmp 19) rfl X _ rfl rfl 25 _ hX3 size_car rfl (one_car { c with health := 0, wait := 40, sx := 0, sy := 0 }) ?_; intro w4 hX4 hM4 _))
        rw [HR.out]
        exact bodyPost_ret (car_back Tryd.results46 _ _ X _ rfl hX4) rfl ⟨rfl, (HM.out.trans hM3 (fun j hj e => by have := HZX.out; have : j = Z := e; omega)).trans hM4 (fun j hj e => by have := HZX.out; have : j = X := e; omega)⟩
      · rw [if_neg hle] at hd
        have HR := Lib.hid hd
        have hww : wrap64 (c.health - hurt) = c.health - hurt := w64 (by omega)
        clear hd
        go_upto_region 11 with fail
        obtain ⟨w3, hw3, hB3, hM3⟩ : ∃ w3, w1.setCell ⟨Z, 7, none⟩ (.int .i64 (c.health - hurt)) = w3 ∧ Blk w3 Z ({ c with health := c.health - hurt } : Cr).cells 25 ∧ Mod (only Z) w1 w3 :=
          ⟨_, rfl, (HB.out.set 7 _).cs rfl, (Mod.refl _ _).setCell (fun _ => only_self Z) _⟩
        rw [hw3]
        have hX3 := hM3.blk HX.out (not_only (fun e => HZX.out.2.1 e.symm))
        clear q7 q11 q4 q5 f7 f11 f4 f5 hw3
        go_wp2_with (first | (refine wpList_load_blk rfl 25 (.tmp 2) rfl Z rfl 25 _ _ hB3 under_car rfl size_car ?_) | (refine wpList_store_blk rfl 25 (.tmp 4) (.tmp 25) rfl X _ rfl rfl 25 _ hX3 size_car rfl (one_car { c with health := c.health - hurt }) ?_; intro w4 hX4 hM4 _))
        rw [HR.out]
        exact bodyPost_ret (car_back Tryd.results46 _ _ X _ rfl hX4) rfl ⟨rfl, (HM.out.trans hM3 (fun j hj e => by have := HZX.out; have : j = Z := e; omega)).trans hM4 (fun j hj e => by have := HZX.out; have : j = X := e; omega)⟩
end Go.Proofs.YtinjlkceplhibaaDoor
