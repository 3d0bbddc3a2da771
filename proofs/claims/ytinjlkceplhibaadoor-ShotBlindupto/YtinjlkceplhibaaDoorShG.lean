/- Shots: joustlaw16's alive: the walk. -/
import Derived.Test.YtinjlkceplhibaaDoorShF
import Derived.Test.YtinjlkceplhibaaDoorShC
import Derived.Test.YtinjlkceplhibaaDoorBdT
namespace Bd
def plainT : ByteArray := ⟨([35, 35, 35, 35, 35, 35, 35, 35, 10, 35, 83, 46, 46, 46, 46, 46, 35, 10, 35, 46, 46, 46, 46, 46, 46, 35, 10, 35, 46, 46, 46, 46, 46, 46, 35, 10].append [35, 46, 46, 46, 46, 46, 46, 35, 10, 35, 46, 46, 46, 46, 46, 46, 35, 10, 35, 46, 46, 46, 46, 46, 46, 35, 10, 35, 35, 35, 35, 35, 35, 35, 35, 10]).toArray⟩
def plainE : List Int := [35, 35, 35, 35, 35, 35, 35, 35, 35, 83, 46, 46, 46, 46, 46, 35, 35, 46, 46, 46, 46, 46, 46, 35, 35, 46, 46, 46, 46, 46, 46, 35, 35, 46, 46, 46, 46, 46, 46, 35, 35, 46, 46, 46, 46, 46, 46, 35, 35, 46, 46, 46, 46, 46, 46, 35, 35, 35, 35, 35, 35, 35, 35, 35]
theorem readPlain : read (runes plainT) = .board 8 8 plainE := by kernel_rfl
end Bd
namespace Go.Proofs.YtinjlkceplhibaaDoor
open Go.RowKit

def alC : Cr := ⟨3, ⟨#[]⟩, 1048576, 1048576, 100, -4, 0, 0, 8, 1, 0, 0, 0, 0⟩
def alX : Cr := ⟨3, ⟨#[]⟩, 1048576, 1048576, 100, -4, 0, 0, 0, 0, 8, 0, 0, 0⟩
def alD : Cr := ⟨3, ⟨#[]⟩, 1048576, 1048576, 100, -4, 0, 0, 8, 1, 1, 0, 0, 0⟩
def alS : Sh := ⟨7, 3, 1179648, 1048576, 196708, -4, 48⟩
def alT : Sh := ⟨0, 0, 1048576, 1048576, 262144, -1, 48⟩
def alU : Sh := ⟨0, 0, 1310720, 1048572, 262144, -1, 47⟩
theorem alC_ok : alC.Ok := ⟨(by unfold Bd.I64; decide), (by decide), (by unfold Bd.I64; decide), (by unfold Bd.I64; decide), (by unfold Bd.I64; decide), (by unfold Bd.I64; decide), (by unfold Bd.I64; decide), (by unfold Bd.I64; decide), (by unfold Bd.I64; decide), (by unfold Bd.I64; decide), (by unfold Bd.I64; decide), (by unfold Bd.I64; decide), (by unfold Bd.I64; decide), (by unfold Bd.I64; decide)⟩
theorem alT_ok : alT.Ok := ⟨(by unfold Bd.I64; decide), (by unfold Bd.I64; decide), (by unfold Bd.I64; decide), (by unfold Bd.I64; decide), (by unfold Bd.I64; decide), (by unfold Bd.I64; decide), (by unfold Bd.I64; decide)⟩
theorem al_shot : alC.shot 7 = alS := by kernel_rfl
theorem al_flight : flight 8 8 Bd.plainE [] 4 alT = (alU, -1, true) := by kernel_rfl
theorem two_new (w : World) : Blk ((w.alloc (.cells car0.cells.toArray 25)).alloc (.cells shot0.cells.toArray 28)) w.heap.size car0.cells 25 ∧ Blk ((w.alloc (.cells car0.cells.toArray 25)).alloc (.cells shot0.cells.toArray 28)) (w.heap.size + 1) shot0.cells 28 ∧ Mod none_ w ((w.alloc (.cells car0.cells.toArray 25)).alloc (.cells shot0.cells.toArray 28)) := by
  refine ⟨(Blk.new w car0.cells _).alloc _, ?_, ((Mod.refl none_ w).alloc _).alloc _⟩
  have := Blk.new (w.alloc (.cells car0.cells.toArray 25)) shot0.cells 28
  rw [World.size_alloc] at this
  exact this
theorem crs_nil (w : World) (B : Nat) : Crs w B none [] := ⟨fun h => absurd h (by simp), fun c h => absurd h (by simp)⟩
theorem num16_any (w : World) (e : Int) : Calls Tryd.prog 20 #[.int .i64 e] w fun r w' => r = .returned (.int .i64 e) ∧ w' = w := by
  go_enter Tryd.func20, Tryd.ntmps20
  go_wp2
  go_ret
  exact ⟨rfl, rfl⟩
theorem num16_0 (w : World) : Calls Tryd.prog 20 #[.int .i64 0] w fun r w' => r = .returned (.int .i64 0) ∧ w' = w := num16_any w 0
set_option maxHeartbeats 4000000 in
set_option maxRecDepth 100000 in
theorem alive16_any (w : World) (hG : Sines w) : Calls Tryd.prog 15 #[] w fun e w' => e = .returned (.bool true) ∧ Mod none_ w w' := by
  have hp := parse_any w Bd.plainT (by decide)
  rw [Bd.readPlain] at hp
  unfold Bd.plainT at hp
  have hf1 := fun (q : World) (h : Sines q) => fire_yes q h alC alC_ok 7 ⟨by decide, by decide, by decide, by decide⟩
  rw [al_shot, show alC.fired = alX from rfl] at hf1
  have hf2 := fun (q : World) => fire_no q alD 7 (by unfold Cr.may; decide)
  have hmv := fun (q : World) (b : Nat) (h : BrdP q b 8 8 Bd.plainE) => move_any q h none 0 0 [] rfl (by omega) (crs_nil _ _) alT alT_ok
  rw [al_flight] at hmv
  have HP := Lib.hid hp; have HF1 := Lib.hid hf1; have HF2 := Lib.hid hf2; have HMV := Lib.hid hmv; have HG := Lib.hid hG
  unfold Cr.agg at HF1 HF2
  unfold Sh.agg at HF1 HF2 HMV
  clear hp hf1 hf2 hmv hG
  go_enter Tryd.func15, Tryd.ntmps15
  go_upto_region 2 with (go_at_call 18; refine HP.out.mono ?_; rintro r w1 ⟨⟨b, rfl, hb, hB⟩, hM1⟩)
  have HB := Lib.hid hB; have HM1 := Lib.hid hM1
  clear hB hM1 HP
  go_upto_region 4 with (go_at_call 20; refine (num16_0 _).mono ?_; rintro r wz ⟨rfl, hwz⟩; replace hwz := hwz.symm; subst hwz)
  go_upto_region 5 with (refine wpList_store_new rfl 25 (.tmp 3) (.tmp 26) rfl 25 _ alC.cells rfl rfl size_car rfl (one_car alC) ?_; intro w2 hC2 hM2 hs2)
  obtain ⟨G, hGe⟩ : ∃ G, w1.heap.size = G := ⟨_, rfl⟩
  rw [hGe] at hC2 ⊢
  have HC2 := Lib.hid hC2; have HK2 := Lib.hid hM2; have HGE := Lib.hid hGe
  clear hC2 hM2 hs2 hGe
  go_upto_region 6 with (first | (refine wpList_load_blk rfl 25 (.tmp 3) rfl G rfl 25 alC.cells _ HC2.out under_car rfl size_car ?_) | (go_at_call 16; refine (HF1.out _ (HG.out.mod (HM1.out.then HK2.out))).mono ?_; rintro r w3 ⟨rfl, hM⟩; have HK3 := Lib.hid (HK2.out.then hM); have HCw3 := Lib.hid (hM.blk HC2.out (fun h => h)); clear hM) | (refine wpList_store_blk rfl 25 (.tmp 4) (.tmp 30) rfl w3.heap.size alX.cells rfl rfl 25 _ (two_new w3).1 size_car rfl (one_car _) ?_; intro w4 hX4 hM4 _) | (refine wpList_store_blk rfl 28 (.tmp 5) (.tmp 31) rfl (w3.heap.size + 1) alS.cells rfl rfl 28 _ (hM4.blk (two_new w3).2.1 (not_only (by omega))) size_shot rfl (one_shot _) ?_; intro w5 hY5 hM5 _))
  have hX5 := hM5.blk hX4 (not_only (by omega))
  have hm5 : Mod none_ w3 w5 := ((two_new w3).2.2.trans hM4 (fun j hj e => by have : j = w3.heap.size := e; omega)).trans hM5 (fun j hj e => by have : j = w3.heap.size + 1 := e; omega)
  have HCw5 := Lib.hid (hm5.blk HCw3.out (fun h => h)); have HKw5 := Lib.hid (HK3.out.then hm5)
  obtain ⟨X, hX⟩ : ∃ X, w3.heap.size = X := ⟨_, rfl⟩
  rw [hX] at hX5 hY5 ⊢
  have HXw5 := Lib.hid hX5; have HYw5 := Lib.hid hY5
  have q6 := hX5.cell (j := 8) (v := .int .i64 0) rfl; have q7 := hX5.cell (j := 9) (v := .int .i64 0) rfl; have q8 := hX5.cell (j := 10) (v := .int .i64 8) rfl
  have hne := fun q : World => neSh q alS alS
  rw [Sh.beq_self] at hne
  simp only [Sh.agg, Sh.cells, alS] at hne
  clear hX4 hM4 hM5 hm5 hX5 hY5 hX HC2 HK2 HK3 HCw3
  have y0 := HYw5.out.cell (j := 0) (v := .int .i64 7) rfl; have y1 := HYw5.out.cell (j := 1) (v := .int .i64 3) rfl; have y2 := HYw5.out.cell (j := 2) (v := .int .i64 1179648) rfl; have y3 := HYw5.out.cell (j := 3) (v := .int .i64 1048576) rfl; have y4 := HYw5.out.cell (j := 4) (v := .int .i64 196708) rfl; have y5 := HYw5.out.cell (j := 5) (v := .int .i64 (-4)) rfl; have y6 := HYw5.out.cell (j := 6) (v := .int .i64 48) rfl
  go_upto_region 8 with fail
  clear q6 q7 q8 hne y0 y1 y2 y3 y4 y5 y6
  have c8 := HCw5.out.cell (j := 10) rfl
  have f8 := HCw5.out.frozen 10
  go_upto_region 9 with fail
  obtain ⟨w6, hw6, hD6, hM6⟩ : ∃ w6, w5.setCell ⟨G, 10, none⟩ (.int .i64 1) = w6 ∧ Blk w6 G alD.cells 25 ∧ Mod (only G) w5 w6 := ⟨_, rfl, (HCw5.out.set 10 _).cs rfl, (Mod.refl _ _).setCell (p := ⟨G, 10, none⟩) (fun _ => only_self G) _⟩
  rw [hw6]
  have HD6 := Lib.hid hD6
  have HK6 := Lib.hid (HKw5.out.trans hM6 (fun j hj e => by have : j = G := e; have := HGE.out; omega))
  clear c8 f8 hw6 hM6 hD6 HF1 HCw5 HKw5 HXw5 HYw5
  go_upto_region 10 with (first | (refine wpList_load_blk rfl 25 (.tmp 3) rfl G rfl 25 alD.cells _ HD6.out under_car rfl size_car ?_) | (go_at_call 16; refine (HF2.out _).mono ?_; rintro r w7 ⟨rfl, hM⟩; have HK7 := Lib.hid (HK6.out.then hM); have HCw7 := Lib.hid (hM.blk HD6.out (fun h => h)); clear hM) | (refine wpList_store_blk rfl 25 (.tmp 7) (.tmp 61) rfl w7.heap.size alD.cells rfl rfl 25 _ (two_new w7).1 size_car rfl (one_car _) ?_; intro w8 hX4 hM4 _) | (refine wpList_store_blk rfl 28 (.tmp 8) (.tmp 62) rfl (w7.heap.size + 1) shot0.cells rfl rfl 28 _ (hM4.blk (two_new w7).2.1 (not_only (by omega))) size_shot rfl (one_shot _) ?_; intro w9 hY5 hM5 _))
  have hX5 := hM5.blk hX4 (not_only (by omega))
  have hm5 : Mod none_ w7 w9 := ((two_new w7).2.2.trans hM4 (fun j hj e => by have : j = w7.heap.size := e; omega)).trans hM5 (fun j hj e => by have : j = w7.heap.size + 1 := e; omega)
  have HCw9 := Lib.hid (hm5.blk HCw7.out (fun h => h)); have HKw9 := Lib.hid (HK7.out.then hm5)
  obtain ⟨Y, hX⟩ : ∃ X, w7.heap.size = X := ⟨_, rfl⟩
  rw [hX] at hX5 hY5 ⊢
  have HXw9 := Lib.hid hX5; have HYw9 := Lib.hid hY5
  have x0 := HXw9.out.cell (j := 0) (v := .int .i64 3) rfl; have x1 := HXw9.out.cell (j := 1) (v := .string ⟨#[]⟩) rfl; have x2 := HXw9.out.cell (j := 2) (v := .int .i64 1048576) rfl; have x3 := HXw9.out.cell (j := 3) (v := .int .i64 1048576) rfl; have x4 := HXw9.out.cell (j := 4) (v := .int .i64 100) rfl; have x5 := HXw9.out.cell (j := 5) (v := .int .i64 (-4)) rfl; have x6 := HXw9.out.cell (j := 6) (v := .int .i64 0) rfl; have x7 := HXw9.out.cell (j := 7) (v := .int .i64 0) rfl; have x8 := HXw9.out.cell (j := 8) (v := .int .i64 8) rfl; have x9 := HXw9.out.cell (j := 9) (v := .int .i64 1) rfl; have x10 := HXw9.out.cell (j := 10) (v := .int .i64 1) rfl; have x11 := HXw9.out.cell (j := 11) (v := .int .i64 0) rfl; have x12 := HXw9.out.cell (j := 12) (v := .int .i64 0) rfl; have x13 := HXw9.out.cell (j := 13) (v := .int .i64 0) rfl
  have d0 := HCw9.out.cell (j := 0) (v := .int .i64 3) rfl; have d1 := HCw9.out.cell (j := 1) (v := .string ⟨#[]⟩) rfl; have d2 := HCw9.out.cell (j := 2) (v := .int .i64 1048576) rfl; have d3 := HCw9.out.cell (j := 3) (v := .int .i64 1048576) rfl; have d4 := HCw9.out.cell (j := 4) (v := .int .i64 100) rfl; have d5 := HCw9.out.cell (j := 5) (v := .int .i64 (-4)) rfl; have d6 := HCw9.out.cell (j := 6) (v := .int .i64 0) rfl; have d7 := HCw9.out.cell (j := 7) (v := .int .i64 0) rfl; have d8 := HCw9.out.cell (j := 8) (v := .int .i64 8) rfl; have d9 := HCw9.out.cell (j := 9) (v := .int .i64 1) rfl; have d10 := HCw9.out.cell (j := 10) (v := .int .i64 1) rfl; have d11 := HCw9.out.cell (j := 11) (v := .int .i64 0) rfl; have d12 := HCw9.out.cell (j := 12) (v := .int .i64 0) rfl; have d13 := HCw9.out.cell (j := 13) (v := .int .i64 0) rfl
  have y0 := HYw9.out.cell (j := 0) (v := .int .i64 0) rfl; have y1 := HYw9.out.cell (j := 1) (v := .int .i64 0) rfl; have y2 := HYw9.out.cell (j := 2) (v := .int .i64 0) rfl; have y3 := HYw9.out.cell (j := 3) (v := .int .i64 0) rfl; have y4 := HYw9.out.cell (j := 4) (v := .int .i64 0) rfl; have y5 := HYw9.out.cell (j := 5) (v := .int .i64 0) rfl; have y6 := HYw9.out.cell (j := 6) (v := .int .i64 0) rfl
  have hne := fun q : World => neC q alD alD
  rw [Cr.beq_self] at hne
  simp only [Cr.agg, Cr.cells, alD] at hne
  have hnes := fun q : World => neSh q shot0 shot0
  rw [Sh.beq_self] at hnes
  simp only [Sh.agg, Sh.cells, shot0] at hnes
  clear hX4 hM4 hM5 hm5 hX5 hY5 hX HK6 HK7 HCw7 HD6
  go_upto_region 12 with fail
  clear hne hnes y0 y1 y2 y3 y4 y5 y6 x0 x1 x2 x3 x4 x5 x6 x7 x8 x9 x10 x11 x12 x13 d0 d1 d2 d3 d4 d5 d6 d7 d8 d9 d10 d11 d12 d13
  go_upto_region 13 with (first | (go_at_call 22; refine (HMV.out _ b (HB.out.none HKw9.out)).mono ?_; rintro r w10 ⟨rfl, hM⟩; have HK10 := Lib.hid (HKw9.out.then hM); clear hM) | (refine wpList_store_new rfl 28 (.tmp 10) (.tmp 81) rfl 28 _ alU.cells rfl rfl size_shot rfl (one_shot _) ?_; intro w11 hU hM11 hs11))
  have u2 := hU.cell (j := 2) (v := .int .i64 1310720) rfl; have u3 := hU.cell (j := 3) (v := .int .i64 1048572) rfl; have u6 := hU.cell (j := 6) (v := .int .i64 47) rfl
  have heq := fun q : World => eqV q 1310720 1048572 1310720 1048572
  simp only [beq_self_eq_true, Bool.and_self] at heq
  have HK11 := Lib.hid (HK10.out.then hM11)
  clear hU hM11 hs11
  go_wp2_with fail
  go_ret
  exact ⟨rfl, HM1.out.then HK11.out⟩
end Go.Proofs.YtinjlkceplhibaaDoor
