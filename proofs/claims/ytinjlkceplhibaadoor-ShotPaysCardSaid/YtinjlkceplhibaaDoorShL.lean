/- ShotPays: a car that may fire: the walk. -/
import Derived.Test.YtinjlkceplhibaaDoorShK
import Derived.Test.YtinjlkceplhibaaDoorVxD
namespace Go.Proofs.YtinjlkceplhibaaDoor
open Go.RowKit

theorem not_far {a b : Int} (h : farB a b = false) : -1099511365632 ≤ a ∧ a ≤ 1099511365632 ∧ -1099511365632 ≤ b ∧ b ≤ 1099511365632 := by
  unfold farB at h
  simp at h
  omega
theorem lim_near {x : Int} (h : -1099511627776 ≤ x ∧ x ≤ 1099511627776) : Vx.lim x = x := by
  unfold Vx.lim
  split
  · omega
  · split <;> omega
theorem lim_two {a u : Int} (h : -1099511365632 ≤ a ∧ a ≤ 1099511365632) (hu : -65536 ≤ u ∧ u ≤ 65536) : Vx.lim (Vx.lim (a + u) + u) = Vx.lim (a + u * 2) := by
  rw [lim_near (x := a + u) (by omega), lim_near (x := a + u + u) (by omega), lim_near (x := a + u * 2) (by omega)]
  omega
theorem lim_three {a u : Int} (h : -1099511365632 ≤ a ∧ a ≤ 1099511365632) (hu : -65536 ≤ u ∧ u ≤ 65536) : Vx.lim (Vx.lim (Vx.lim (a + u) + u) + u) = Vx.lim (a + u * 3) := by
  rw [lim_near (x := a + u) (by omega), lim_near (x := a + u + u) (by omega), lim_near (x := a + u + u + u) (by omega), lim_near (x := a + u * 3) (by omega)]
  omega
/-- what the law's sums find -/
structure PyS (G U K : Nat) (c : Cr) (s : Sh) (ux uy : Int) (w0 q : World) : Prop where
  car : Blk q G c.cells 25
  u : Blk q U [.int .i64 ux, .int .i64 uy] 23
  sh : Blk q K s.cells 28
  m : Mod none_ w0 q
theorem PyS.keep {G U K : Nat} {c : Cr} {s : Sh} {ux uy : Int} {w0 q q' : World} (h : PyS G U K c s ux uy w0 q) (hM : Mod none_ q q') : PyS G U K c s ux uy w0 q' := ⟨hM.blk h.car (fun h => h), hM.blk h.u (fun h => h), hM.blk h.sh (fun h => h), h.m.then hM⟩
theorem PyS.store {G U K B : Nat} {c : Cr} {s : Sh} {ux uy : Int} {w0 q q' : World} (h : PyS G U K c s ux uy w0 q) (hM : Mod (only B) q q') (hb : G < B ∧ U < B ∧ K < B ∧ w0.heap.size ≤ B) : PyS G U K c s ux uy w0 q' := ⟨hM.blk h.car (not_only (by omega)), hM.blk h.u (not_only (by omega)), hM.blk h.sh (not_only (by omega)), h.m.trans hM (fun j hj e => by have : j = B := e; omega)⟩
theorem PyS.lt {G U K : Nat} {c : Cr} {s : Sh} {ux uy : Int} {w0 q : World} (h : PyS G U K c s ux uy w0 q) : G < q.heap.size ∧ U < q.heap.size ∧ K < q.heap.size ∧ w0.heap.size ≤ q.heap.size := ⟨h.car.lt, h.u.lt, h.sh.lt, h.m.size⟩
theorem PyS.at {G U K : Nat} {c : Cr} {s : Sh} {ux uy : Int} {w0 q : World} (h : PyS G U K c s ux uy w0 q) : q.rangeAt G 2 [.int .i64 c.ax, .int .i64 c.ay] := blk_mid h.car 2 _ (fun j v hj => by
  match j, hj with
  | 0, hj => exact hj
  | 1, hj => exact hj)
theorem PyS.speed {G U K : Nat} {c : Cr} {s : Sh} {ux uy : Int} {w0 q : World} (h : PyS G U K c s ux uy w0 q) : q.rangeAt G 4 [.int .i64 c.sx, .int .i64 c.sy] := blk_mid h.car 4 _ (fun j v hj => by
  match j, hj with
  | 0, hj => exact hj
  | 1, hj => exact hj)
theorem PyS.un {G U K : Nat} {c : Cr} {s : Sh} {ux uy : Int} {w0 q : World} (h : PyS G U K c s ux uy w0 q) : q.rangeAt U 0 [.int .i64 ux, .int .i64 uy] := blk_mid h.u 0 _ (fun j v hj => by rw [Nat.zero_add]; exact hj)
/-- what the law's second sums find -/
structure PyT (G U K B : Nat) (p q0 : Int) (c : Cr) (s : Sh) (ux uy : Int) (w0 q : World) : Prop where
  s : PyS G U K c s ux uy w0 q
  b : Blk q B [.int .i64 p, .int .i64 q0] 23
theorem PyT.keep {G U K B : Nat} {p q0 : Int} {c : Cr} {s : Sh} {ux uy : Int} {w0 q q' : World} (h : PyT G U K B p q0 c s ux uy w0 q) (hM : Mod none_ q q') : PyT G U K B p q0 c s ux uy w0 q' := ⟨h.s.keep hM, hM.blk h.b (fun h => h)⟩
theorem PyT.store {G U K B D : Nat} {p q0 : Int} {c : Cr} {s : Sh} {ux uy : Int} {w0 q q' : World} (h : PyT G U K B p q0 c s ux uy w0 q) (hM : Mod (only D) q q') (hb : G < D ∧ U < D ∧ K < D ∧ w0.heap.size ≤ D ∧ B < D) : PyT G U K B p q0 c s ux uy w0 q' := ⟨h.s.store hM ⟨hb.1, hb.2.1, hb.2.2.1, hb.2.2.2.1⟩, hM.blk h.b (not_only (by omega))⟩
theorem PyT.lt {G U K B : Nat} {p q0 : Int} {c : Cr} {s : Sh} {ux uy : Int} {w0 q : World} (h : PyT G U K B p q0 c s ux uy w0 q) : G < q.heap.size ∧ U < q.heap.size ∧ K < q.heap.size ∧ w0.heap.size ≤ q.heap.size ∧ B < q.heap.size := ⟨h.s.lt.1, h.s.lt.2.1, h.s.lt.2.2.1, h.s.lt.2.2.2, h.b.lt⟩
theorem PyT.speed {G U K B : Nat} {p q0 : Int} {c : Cr} {s : Sh} {ux uy : Int} {w0 q : World} (h : PyT G U K B p q0 c s ux uy w0 q) : q.rangeAt G 4 [.int .i64 c.sx, .int .i64 c.sy] := h.s.speed
theorem PyT.un {G U K B : Nat} {p q0 : Int} {c : Cr} {s : Sh} {ux uy : Int} {w0 q : World} (h : PyT G U K B p q0 c s ux uy w0 q) : q.rangeAt U 0 [.int .i64 ux, .int .i64 uy] := h.s.un
theorem one_two (a b : Int) : ∀ v ∈ [Value.int .i64 a, .int .i64 b], v.oneCell' = true := by simp [Value.oneCell']
set_option maxHeartbeats 4000000 in
set_option maxRecDepth 100000 in
theorem shotPays_yes (w : World) (hG : Sines w) (c : Cr) (hc : c.Ok) (id : Int) (hm : c.may) : Calls Tryd.prog 5 #[c.agg, .int .i64 id] w fun e w' => e = .returned (.bool true) ∧ Mod none_ w w' := by
  have h1 := fun (q : World) (hq : Sines q) => fire_yes q hq c hc id hm
  obtain ⟨id2, hid2⟩ : ∃ x, IntKind.i64.wrap (id + 1) = x := ⟨_, rfl⟩
  have h2 := fun q : World => fire_no q c.fired id2 (by unfold Cr.may Cr.fired; simp)
  obtain ⟨c1, c2, c3, c4⟩ := hm
  unfold Cr.agg Sh.agg at h1 h2
  have hen := hc.energy; have ham := hc.ammo
  unfold Bd.I64 at hen ham
  have w1e : IntKind.i64.wrap (c.ammo - 1) = c.ammo - 1 := wrap_in _ (by unfold Bd.I64; omega)
  have w2e : IntKind.i64.wrap (c.energy - 8) = c.energy - 8 := wrap_in _ (by unfold Bd.I64; omega)
  have hu := fun (q : World) (hq : Sines q) => vunit_any q hq c.heading
  have b1 := sinT_bd (c.heading + 64)
  have b2 := sinT_bd c.heading
  have HU := Lib.hid hu; have HC := Lib.hid hc; have HC2 := Lib.hid c2
  clear c2
  have H1 := Lib.hid h1; have H2 := Lib.hid h2
  clear h1 h2 hu hc hen ham
  have ha := fun (q : World) (h : Sines q) => alive16_any q h
  have HA := Lib.hid ha; have HG := Lib.hid hG
  clear ha hG
  unfold Cr.agg
  go_enter Tryd.func5, Tryd.ntmps5
  go_upto_region 1 with fail
  obtain ⟨w1, hw1, hB1, hM1⟩ : ∃ w1, w.alloc (.cells c.cells.toArray 25) = w1 ∧ Blk w1 w.heap.size c.cells 25 ∧ Mod none_ w w1 := ⟨_, rfl, Blk.new w c.cells _, (Mod.refl none_ w).alloc _⟩
  rw [hw1]
  obtain ⟨G, hG⟩ : ∃ G, w.heap.size = G := ⟨_, rfl⟩
  rw [hG] at hB1 ⊢
  have HB1 := Lib.hid hB1; have HM1 := Lib.hid hM1
  clear hB1 hM1 hw1 hG
  go_upto_region 3 with (go_at_call 15; refine (HA.out _ (HG.out.mod HM1.out)).mono ?_; rintro r w2 ⟨rfl, hM⟩; have HM2 := Lib.hid (HM1.out.then hM); have HB2 := Lib.hid (hM.blk HB1.out (fun h => h)); clear hM)
  clear HB1 HM1
  go_upto_region 4 with (first | (refine wpList_load_blk rfl 25 (.tmp 2) rfl G rfl 25 c.cells _ HB2.out under_car rfl size_car ?_) | (go_at_call 16; refine (H1.out _ (HG.out.mod HM2.out)).mono ?_; rintro r w3 ⟨rfl, hM⟩; have HM3 := Lib.hid (HM2.out.then hM); have HCw3 := Lib.hid (hM.blk HB2.out (fun h => h)); clear hM) | (refine wpList_store_blk rfl 25 (.tmp 5) (.tmp 21) rfl w3.heap.size c.fired.cells rfl rfl 25 _ (two_new w3).1 size_car rfl (one_car _) ?_; intro w4 hX4 hM4 hs4; clear hs4) | (refine wpList_store_blk rfl 28 (.tmp 6) (.tmp 22) rfl (w3.heap.size + 1) (c.shot id).cells rfl rfl 28 _ (hM4.blk (two_new w3).2.1 (not_only (by omega))) size_shot rfl (one_shot _) ?_; intro w5 hY5 hM5 hs5; clear hs5))
  have hX5 := hM5.blk hX4 (not_only (by omega))
  have hm5 : Mod none_ w3 w5 := ((two_new w3).2.2.trans hM4 (fun j hj e => by have : j = w3.heap.size := e; omega)).trans hM5 (fun j hj e => by have : j = w3.heap.size + 1 := e; omega)
  have HCw5 := Lib.hid (hm5.blk HCw3.out (fun h => h)); have HKw5 := Lib.hid (HM3.out.then hm5)
  obtain ⟨X, hX⟩ : ∃ X, w3.heap.size = X := ⟨_, rfl⟩
  rw [hX] at hX5 hY5 ⊢
  have HXw5 := Lib.hid hX5; have HYw5 := Lib.hid hY5
  clear hX4 hM4 hM5 hm5 hX5 hY5 hX HB2 HM2 HM3 HCw3 H1 HA
  go_upto_region 7 with (first | (refine wpList_load_blk rfl 25 (.tmp 5) rfl X rfl 25 c.fired.cells _ HXw5.out under_car rfl size_car ?_) | (refine wpList_store_new rfl 25 (.tmp 8) (.tmp 54) rfl 25 _ c.fired.cells rfl rfl size_car rfl (one_car c.fired) ?_; intro w6 hY hM6 hs6))
  obtain ⟨Y, hYe⟩ : ∃ Y, w5.heap.size = Y := ⟨_, rfl⟩
  rw [hYe] at hY ⊢
  have HC6 := Lib.hid (hM6.blk HCw5.out (fun h => h)); have HX6 := Lib.hid (hM6.blk HXw5.out (fun h => h)); have HS6 := Lib.hid (hM6.blk HYw5.out (fun h => h)); have HK6 := Lib.hid (HKw5.out.then hM6)
  have hl1 := HCw5.out.lt; have hl2 := HXw5.out.lt; have hl3 := HYw5.out.lt
  have hk5 := HKw5.out.size
  have HNE := Lib.hid (show Y ≠ G ∧ Y ≠ X ∧ Y ≠ X + 1 ∧ w.heap.size ≤ Y by omega)
  have g8 := HC6.out.cell (j := 8) rfl; have g9 := HC6.out.cell (j := 9) rfl; have g10 := HC6.out.cell (j := 10) rfl
  have f8 := hY.frozen 8; have f9 := hY.frozen 9; have f10 := hY.frozen 10
  have y8 := hY.cell (j := 8) rfl; have y9 := hY.cell (j := 9) rfl; have y10 := hY.cell (j := 10) rfl
  have HY6 := Lib.hid hY
  clear hY hM6 hs6 hYe hl1 hl2 hl3 hk5 HCw5 HXw5 HYw5 HKw5
  go_upto_region 10 with fail
  obtain ⟨w7, hw7, hY7, hM7⟩ : ∃ w7, (((w6.setCell ⟨Y, 9, none⟩ (.int .i64 c.ammo)).setCell ⟨Y, 8, none⟩ (.int .i64 c.energy)).setCell ⟨Y, 10, none⟩ (.int .i64 c.cool)) = w7 ∧ Blk w7 Y c.cells 25 ∧ Mod (only Y) w6 w7 :=
    ⟨_, rfl, (((HY6.out.set 9 _).set 8 _).set 10 _).cs rfl, (((Mod.refl _ _).setCell (p := ⟨Y, 9, none⟩) (fun _ => only_self Y) _).setCell (p := ⟨Y, 8, none⟩) (fun _ => only_self Y) _).setCell (p := ⟨Y, 10, none⟩) (fun _ => only_self Y) _⟩
  rw [hw7]
  have HC7 := Lib.hid (hM7.blk HC6.out (not_only (fun e => HNE.out.1 e.symm))); have HX7 := Lib.hid (hM7.blk HX6.out (not_only (fun e => HNE.out.2.1 e.symm))); have HS7 := Lib.hid (hM7.blk HS6.out (not_only (fun e => HNE.out.2.2.1 e.symm)))
  have HK7 := Lib.hid (HK6.out.trans hM7 (fun j hj e => by have : j = Y := e; have := HNE.out; omega)); have HY7 := Lib.hid hY7
  clear g8 g9 g10 f8 f9 f10 y8 y9 y10 hw7 hY7 hM7 HY6 HC6 HX6 HS6 HK6
  go_cut [125] (fun v wx => v = .bool false ∧ wx = w7)
  case first =>
    have hne := fun q : World => neC q c c
    rw [Cr.beq_self] at hne
    simp only [Cr.agg] at hne
    have g0 := HC7.out.cell (j := 0) rfl; have g8 := HC7.out.cell (j := 8) rfl; have g9 := HC7.out.cell (j := 9) rfl; have g10 := HC7.out.cell (j := 10) rfl; have g11 := HC7.out.cell (j := 11) rfl
    have x8 := HX7.out.cell (j := 8) (v := .int .i64 (c.energy - 8)) rfl; have x9 := HX7.out.cell (j := 9) (v := .int .i64 (c.ammo - 1)) rfl; have x10 := HX7.out.cell (j := 10) (v := .int .i64 8) rfl
    have s0 := HS7.out.cell (j := 0) (v := .int .i64 id) rfl; have s1 := HS7.out.cell (j := 1) (v := .int .i64 c.player) rfl; have s6 := HS7.out.cell (j := 6) (v := .int .i64 48) rfl
    have e1 : decide (0 < c.wait) = false := decide_eq_false (by omega)
    have e2 : (c.cool != 0) = false := by rw [HC2.out]; rfl
    have e3 : (c.ammo - 1 != c.ammo - 1) = false := by simp
    have e4 : decide (c.ammo ≤ 0) = false := decide_eq_false (by omega)
    have e5 : (c.energy - 8 != c.energy - 8) = false := by simp
    have e6 : decide (c.energy - 8 < 0) = false := decide_eq_false (by omega)
    have e6' : ¬ c.energy - 8 < 0 := by omega
    have e7 : (id != id) = false := by simp
    have e8 : (c.player != c.player) = false := by simp
    go_wp2_with (first | (refine wpList_load_blk rfl 25 (.tmp 8) rfl Y rfl 25 c.cells _ HY7.out under_car rfl size_car ?_) | (refine wpList_load_blk rfl 25 (.tmp 2) rfl G rfl 25 c.cells _ HC7.out under_car rfl size_car ?_))
    go_meet
    exact ⟨rfl, rfl⟩
  case rest =>
    obtain ⟨rfl, hwc⟩ := hcut
    replace hwc := hwc.symm
    subst hwc
    clear c1 c3 c4 w1e w2e HY7 HNE HC2
    go_upto_region 13 with (first | (refine wpList_load_blk rfl 25 (.tmp 5) rfl X rfl 25 c.fired.cells _ HX7.out under_car rfl size_car ?_) | (go_at_call 16; refine (H2.out _).mono ?_; rintro r w8 ⟨rfl, hM⟩; have HM8 := Lib.hid (HK7.out.then hM); have HG8 := Lib.hid (hM.blk HC7.out (fun h => h)); have HS8 := Lib.hid (hM.blk HS7.out (fun h => h)); have HCw8 := Lib.hid (hM.blk HX7.out (fun h => h)); clear hM) | (refine wpList_store_blk rfl 25 (.tmp 9) (.tmp 131) rfl w8.heap.size c.fired.cells rfl rfl 25 _ (two_new w8).1 size_car rfl (one_car _) ?_; intro w9 hX4 hM4 hs4; clear hs4) | (refine wpList_store_blk rfl 28 (.tmp 10) (.tmp 132) rfl (w8.heap.size + 1) shot0.cells rfl rfl 28 _ (hM4.blk (two_new w8).2.1 (not_only (by omega))) size_shot rfl (one_shot _) ?_; intro w10 hY5 hM5 hs5; clear hs5))
    have hX5 := hM5.blk hX4 (not_only (by omega))
    have hm5 : Mod none_ w8 w10 := ((two_new w8).2.2.trans hM4 (fun j hj e => by have : j = w8.heap.size := e; omega)).trans hM5 (fun j hj e => by have : j = w8.heap.size + 1 := e; omega)
    have HCw10 := Lib.hid (hm5.blk HCw8.out (fun h => h)); have HKw10 := Lib.hid (HM8.out.then hm5)
    obtain ⟨V, hX⟩ : ∃ X, w8.heap.size = X := ⟨_, rfl⟩
    rw [hX] at hX5 hY5 ⊢
    have HXw10 := Lib.hid hX5; have HYw10 := Lib.hid hY5
    have HG9 := Lib.hid (hm5.blk HG8.out (fun h => h)); have HS9 := Lib.hid (hm5.blk HS8.out (fun h => h))
    clear hX4 hM4 hM5 hm5 hX5 hY5 hX HM8 HCw8 HC7 HX7 HS7 HK7 HG8 HS8 HCw10 HXw10 HYw10 H2
    have g6 := HG9.out.cell (j := 6) rfl
    go_upto_region 16 with (first | (go_at_call 25; refine (HU.out _ (HG.out.mod HKw10.out)).mono ?_; rintro r w11 ⟨rfl, hM⟩; have HG11 := Lib.hid (hM.blk HG9.out (fun h => h)); have HS11 := Lib.hid (hM.blk HS9.out (fun h => h)); have HK11 := Lib.hid (HKw10.out.then hM); clear hM) | (refine wpList_store_new rfl 23 (.tmp 12) (.tmp 137) rfl 23 _ [.int .i64 (sinT (c.heading + 64)), .int .i64 (sinT c.heading)] rfl rfl size_vec2 rfl (by simp [Value.oneCell']) ?_; intro w12 hU hM12 hs12))
    try simp only [Act.put]
    obtain ⟨U, hUe⟩ : ∃ U, w11.heap.size = U := ⟨_, rfl⟩
    rw [hUe] at hU ⊢
    obtain ⟨K, hKe⟩ : ∃ K, X + 1 = K := ⟨_, rfl⟩
    rw [hKe] at HS11 ⊢
    obtain ⟨s, hs⟩ : ∃ s, c.shot id = s := ⟨_, rfl⟩
    have hS12 : PyS G U K c (c.shot id) (sinT (c.heading + 64)) (sinT c.heading) w w12 := ⟨hM12.blk HG11.out (fun h => h), hU, hM12.blk HS11.out (fun h => h), HK11.out.then hM12⟩
    have HSH := Lib.hid (show s = ⟨id, c.player, Vx.lim (c.ax + sinT (c.heading + 64) * 2), Vx.lim (c.ay + sinT c.heading * 2), Vx.lim (c.sx + sinT (c.heading + 64) * 3), Vx.lim (c.sy + sinT c.heading * 3), 48⟩ from by rw [← hs]; rfl)
    rw [hs] at hS12
    clear hM12 hU hs12 hUe hKe hs HG11 HS11 HK11 g6 HU HG
    generalize sinT (c.heading + 64) = ux at *
    generalize sinT c.heading = uy at *
    have hb3 : Bd.I64 ux ∧ Bd.I64 uy := by unfold Bd.I64; omega
    have HUB := Lib.hid (show (-65536 ≤ ux ∧ ux ≤ 65536) ∧ (-65536 ≤ uy ∧ uy ≤ 65536) from ⟨⟨by omega, by omega⟩, ⟨by omega, by omega⟩⟩)
    have ha1 := fun q : World => vadd_any q c.ax c.ay ux uy HC.out.ax HC.out.ay hb3.1 hb3.2
    have hI := fun x : Int => (show Bd.I64 (Vx.lim x) from by have := Vx.lim_in x; unfold Bd.I64; omega)
    have ha2 := fun q : World => vadd_any q (Vx.lim (c.ax + ux)) (Vx.lim (c.ay + uy)) ux uy (hI _) (hI _) hb3.1 hb3.2
    obtain ⟨p2, hp2⟩ : ∃ p, Vx.lim (Vx.lim (c.ax + ux) + ux) = p := ⟨_, rfl⟩
    obtain ⟨q2, hq2⟩ : ∃ p, Vx.lim (Vx.lim (c.ay + uy) + uy) = p := ⟨_, rfl⟩
    simp only [hp2, hq2] at ha2
    have hk1 : (-1099511365632 ≤ c.ax ∧ c.ax ≤ 1099511365632) → Vx.lim (c.ax + ux * 2) = p2 := fun h => by rw [← hp2]; exact (lim_two h HUB.out.1).symm
    have hk2 : (-1099511365632 ≤ c.ay ∧ c.ay ≤ 1099511365632) → Vx.lim (c.ay + uy * 2) = q2 := fun h => by rw [← hq2]; exact (lim_two h HUB.out.2).symm
    have HK1 := Lib.hid hk1; have HK2 := Lib.hid hk2
    clear hk1 hk2 hp2 hq2
    generalize Vx.lim (c.ax + ux) = p1 at *
    generalize Vx.lim (c.ay + uy) = q1 at *
    have HA1 := Lib.hid ha1; have HA2 := Lib.hid ha2; have HS12 := Lib.hid hS12; have HI := Lib.hid hI
    clear ha1 ha2 hS12 hI
    have hS : PyS G U K c s ux uy w w12.drew := HS12.out.keep (Mod.refl _ _).drew
    go_cut [13] (fun v wx => ∃ B, v = .pointer (some ⟨B, 0, none⟩) ∧ PyS G U K c s ux uy w wx ∧ Blk wx B [.int .i64 p2, .int .i64 q2] 23 ∧ G < B ∧ U < B ∧ K < B)
    case first =>
      refine wp_region_noPanic ?_
      refine wp_region_held_drew (S := PyS G U K c s ux uy w) (by kernel_rfl) hS (fun hHeld => ?_)
      clear hHeld
      refine wpAnyH_take (i := 0) (v := ?_) (by simp only [List.getElem?_toArray, List.getElem?_cons_zero]; rfl) (by kernel_rfl) (by kernel_rfl) (by kernel_rfl) (fun _ _ _ h => h) (Or.inl ⟨by rfl, ?_⟩) hS ?_
      rotate_left
      · (intro wq hSw; go_simp; all_goals with_reducible rfl)
      try simp only [Act.put, List.setIfInBounds_toArray, List.set_cons_zero, List.set_cons_succ]
      refine wpAnyH_take (i := 1) (v := _) (by simp only [List.getElem?_toArray, List.getElem?_cons_zero, List.getElem?_cons_succ]; rfl) (by kernel_rfl) (by kernel_rfl) (by kernel_rfl) (fun _ _ _ h => h) (yieldsIf_load_mid (by rfl) 23 (.tmp 138) rfl G 2 rfl [.int .i64 c.ax, .int .i64 c.ay] _ (fun _ h => h.at) Tryd.underlying23 rfl size_vec2) hS ?_
      try simp only [Act.put, List.setIfInBounds_toArray, List.set_cons_zero, List.set_cons_succ]
      refine wpAnyH_take (i := 2) (v := _) (by simp only [List.getElem?_toArray, List.getElem?_cons_zero, List.getElem?_cons_succ]; rfl) (by kernel_rfl) (by kernel_rfl) (by kernel_rfl) (fun _ _ _ h => h) (yieldsIf_load_mid (by rfl) 23 (.tmp 12) rfl U 0 rfl [.int .i64 ux, .int .i64 uy] _ (fun _ h => h.un) Tryd.underlying23 rfl size_vec2) hS ?_
      try simp only [Act.put, List.setIfInBounds_toArray, List.set_cons_zero, List.set_cons_succ]
      refine wpAnyH_take (i := 4) (v := _) (by simp only [List.getElem?_toArray, List.getElem?_cons_zero, List.getElem?_cons_succ]; rfl) (by kernel_rfl) (by kernel_rfl) (by kernel_rfl) (fun _ _ _ h => h) (yieldsIf_load_mid (by rfl) 23 (.tmp 12) rfl U 0 rfl [.int .i64 ux, .int .i64 uy] _ (fun _ h => h.un) Tryd.underlying23 rfl size_vec2) hS ?_
      try simp only [Act.put, List.setIfInBounds_toArray, List.set_cons_zero, List.set_cons_succ]
      refine wpAnyH_ready (rs := [3, 6]) (by kernel_rfl) (by simp) ?_
      refine AllReadyH.cons (by simp only [List.getElem?_toArray, List.getElem?_cons_zero, List.getElem?_cons_succ]; rfl) (fun K hK => ?_) (AllReadyH.cons (by simp only [List.getElem?_toArray, List.getElem?_cons_zero, List.getElem?_cons_succ]; rfl) (fun K hK => ?_) (AllReadyH.nil))
      · go_simp
        go_at_call 26
        refine (HA1.out _).mono ?_
        rintro r w_3 ⟨rfl, hM_3⟩
        have hS_3 := PyS.keep hS hM_3
        try (replace hbk := hM_3.blk hbk (fun h => h))
        go_wp2_with fail
        refine hK.out _ _ hS_3 (fun _ => ?_)
        clear hK K
        try simp only [Act.put, List.setIfInBounds_toArray, List.set_cons_zero, List.set_cons_succ]
        refine wpAnyH_ready (rs := [5, 6]) (by kernel_rfl) (by simp) ?_
        refine AllReadyH.cons (by simp only [List.getElem?_toArray, List.getElem?_cons_zero, List.getElem?_cons_succ]; rfl) (fun K hK => ?_) (AllReadyH.cons (by simp only [List.getElem?_toArray, List.getElem?_cons_zero, List.getElem?_cons_succ]; rfl) (fun K hK => ?_) (AllReadyH.nil))
        · go_simp
          go_at_call 26
          refine (HA2.out _).mono ?_
          rintro r w_3_5 ⟨rfl, hM_3_5⟩
          have hS_3_5 := PyS.keep hS_3 hM_3_5
          try (replace hbk := hM_3_5.blk hbk (fun h => h))
          go_wp2_with fail
          refine hK.out _ _ hS_3_5 (fun _ => ?_)
          clear hK K
          try simp only [Act.put, List.setIfInBounds_toArray, List.set_cons_zero, List.set_cons_succ]
          refine wpAnyH_ready (rs := [6]) (by kernel_rfl) (by simp) ?_
          refine AllReadyH.cons (by simp only [List.getElem?_toArray, List.getElem?_cons_zero, List.getElem?_cons_succ]; rfl) (fun K hK => ?_) (AllReadyH.nil)
          rw [if_pos (by rfl)]
          have hlt := PyS.lt hS_3_5
          have hS_3_5_6 := PyS.keep hS_3_5 ((Mod.refl none_ _).alloc (.cells #[.int .i64 0, .int .i64 0] 23))
          have hbk := Blk.new w_3_5 [.int .i64 0, .int .i64 0] 23
          go_simp
          refine hK.out _ _ hS_3_5_6 (fun _ => ?_)
          clear hK K
          try simp only [Act.put, List.setIfInBounds_toArray, List.set_cons_zero, List.set_cons_succ]
          refine wpAnyH_ready (rs := [7]) (by kernel_rfl) (by simp) ?_
          refine AllReadyH.cons (by simp only [List.getElem?_toArray, List.getElem?_cons_zero, List.getElem?_cons_succ]; rfl) (fun K hK => ?_) (AllReadyH.nil)
          rw [if_pos (by rfl)]
          refine wp_store_blk 23 (.tmp 13) (.tmp 143) rfl (w_3_5.heap.size) [.int .i64 p2, .int .i64 q2] rfl rfl 23 _ hbk size_vec2 rfl (one_two _ _) ?_
          intro w_3_5_6_7 hbk2 hM_3_5_6_7 _
          have hS_3_5_6_7 := PyS.store hS_3_5_6 hM_3_5_6_7 (by have h4 := hlt.1; have h5 := hlt.2.1; have h6 := hlt.2.2; omega)
          refine hK.out _ _ hS_3_5_6_7 (fun _ => ?_)
          clear hK K
          try simp only [Act.put]
          refine wpAnyH_done (by kernel_rfl) ?_ _
          refine NoPanic.normal ?_
          go_wp2
          go_meet
          exact ⟨_, rfl, hS_3_5_6_7, hbk2, hlt.1, hlt.2.1, hlt.2.2.1⟩
        · rw [if_pos (by rfl)]
          have hlt := PyS.lt hS_3
          have hS_3_6 := PyS.keep hS_3 ((Mod.refl none_ _).alloc (.cells #[.int .i64 0, .int .i64 0] 23))
          have hbk := Blk.new w_3 [.int .i64 0, .int .i64 0] 23
          go_simp
          refine hK.out _ _ hS_3_6 (fun _ => ?_)
          clear hK K
          try simp only [Act.put, List.setIfInBounds_toArray, List.set_cons_zero, List.set_cons_succ]
          refine wpAnyH_ready (rs := [5]) (by kernel_rfl) (by simp) ?_
          refine AllReadyH.cons (by simp only [List.getElem?_toArray, List.getElem?_cons_zero, List.getElem?_cons_succ]; rfl) (fun K hK => ?_) (AllReadyH.nil)
          go_simp
          go_at_call 26
          refine (HA2.out _).mono ?_
          rintro r w_3_6_5 ⟨rfl, hM_3_6_5⟩
          have hS_3_6_5 := PyS.keep hS_3_6 hM_3_6_5
          try (replace hbk := hM_3_6_5.blk hbk (fun h => h))
          go_wp2_with fail
          refine hK.out _ _ hS_3_6_5 (fun _ => ?_)
          clear hK K
          try simp only [Act.put, List.setIfInBounds_toArray, List.set_cons_zero, List.set_cons_succ]
          refine wpAnyH_ready (rs := [7]) (by kernel_rfl) (by simp) ?_
          refine AllReadyH.cons (by simp only [List.getElem?_toArray, List.getElem?_cons_zero, List.getElem?_cons_succ]; rfl) (fun K hK => ?_) (AllReadyH.nil)
          rw [if_pos (by rfl)]
          refine wp_store_blk 23 (.tmp 13) (.tmp 143) rfl (w_3.heap.size) [.int .i64 p2, .int .i64 q2] rfl rfl 23 _ hbk size_vec2 rfl (one_two _ _) ?_
          intro w_3_6_5_7 hbk2 hM_3_6_5_7 _
          have hS_3_6_5_7 := PyS.store hS_3_6_5 hM_3_6_5_7 (by have h4 := hlt.1; have h5 := hlt.2.1; have h6 := hlt.2.2; omega)
          refine hK.out _ _ hS_3_6_5_7 (fun _ => ?_)
          clear hK K
          try simp only [Act.put]
          refine wpAnyH_done (by kernel_rfl) ?_ _
          refine NoPanic.normal ?_
          go_wp2
          go_meet
          exact ⟨_, rfl, hS_3_6_5_7, hbk2, hlt.1, hlt.2.1, hlt.2.2.1⟩
      · rw [if_pos (by rfl)]
        have hlt := PyS.lt HS12.out
        have hS_6 := PyS.keep hS ((Mod.refl none_ _).alloc (.cells #[.int .i64 0, .int .i64 0] 23))
        have hbk := Blk.new w12.drew [.int .i64 0, .int .i64 0] 23
        go_simp
        refine hK.out _ _ hS_6 (fun _ => ?_)
        clear hK K
        try simp only [Act.put, List.setIfInBounds_toArray, List.set_cons_zero, List.set_cons_succ]
        refine wpAnyH_ready (rs := [3]) (by kernel_rfl) (by simp) ?_
        refine AllReadyH.cons (by simp only [List.getElem?_toArray, List.getElem?_cons_zero, List.getElem?_cons_succ]; rfl) (fun K hK => ?_) (AllReadyH.nil)
        go_simp
        go_at_call 26
        refine (HA1.out _).mono ?_
        rintro r w_6_3 ⟨rfl, hM_6_3⟩
        have hS_6_3 := PyS.keep hS_6 hM_6_3
        try (replace hbk := hM_6_3.blk hbk (fun h => h))
        go_wp2_with fail
        refine hK.out _ _ hS_6_3 (fun _ => ?_)
        clear hK K
        try simp only [Act.put, List.setIfInBounds_toArray, List.set_cons_zero, List.set_cons_succ]
        refine wpAnyH_ready (rs := [5]) (by kernel_rfl) (by simp) ?_
        refine AllReadyH.cons (by simp only [List.getElem?_toArray, List.getElem?_cons_zero, List.getElem?_cons_succ]; rfl) (fun K hK => ?_) (AllReadyH.nil)
        go_simp
        go_at_call 26
        refine (HA2.out _).mono ?_
        rintro r w_6_3_5 ⟨rfl, hM_6_3_5⟩
        have hS_6_3_5 := PyS.keep hS_6_3 hM_6_3_5
        try (replace hbk := hM_6_3_5.blk hbk (fun h => h))
        go_wp2_with fail
        refine hK.out _ _ hS_6_3_5 (fun _ => ?_)
        clear hK K
        try simp only [Act.put, List.setIfInBounds_toArray, List.set_cons_zero, List.set_cons_succ]
        refine wpAnyH_ready (rs := [7]) (by kernel_rfl) (by simp) ?_
        refine AllReadyH.cons (by simp only [List.getElem?_toArray, List.getElem?_cons_zero, List.getElem?_cons_succ]; rfl) (fun K hK => ?_) (AllReadyH.nil)
        rw [if_pos (by rfl)]
        refine wp_store_blk 23 (.tmp 13) (.tmp 143) rfl (w12.heap.size) [.int .i64 p2, .int .i64 q2] rfl rfl 23 _ hbk size_vec2 rfl (one_two _ _) ?_
        intro w_6_3_5_7 hbk2 hM_6_3_5_7 _
        have hS_6_3_5_7 := PyS.store hS_6_3_5 hM_6_3_5_7 (by have h4 := hlt.1; have h5 := hlt.2.1; have h6 := hlt.2.2; omega)
        refine hK.out _ _ hS_6_3_5_7 (fun _ => ?_)
        clear hK K
        try simp only [Act.put]
        refine wpAnyH_done (by kernel_rfl) ?_ _
        refine NoPanic.normal ?_
        go_wp2
        go_meet
        exact ⟨_, rfl, hS_6_3_5_7, hbk2, hlt.1, hlt.2.1, hlt.2.2.1⟩
    case rest =>
      obtain ⟨B, rfl, hS13, hB13, l1, l2, l3⟩ := hcut
      obtain ⟨w13, rfl⟩ : ∃ q, q = wc := ⟨_, rfl⟩
      have hT13 : PyT G U K B p2 q2 c s ux uy w w13 := ⟨hS13, hB13⟩
      have HT13 := Lib.hid hT13
      clear hT13
      clear HS12 HA1 HA2 hS
      have HL := Lib.hid (show G < B ∧ U < B ∧ K < B from ⟨l1, l2, l3⟩)
      clear hS13 hB13 l1 l2 l3
      have hb1 := fun q : World => vadd_any q c.sx c.sy ux uy HC.out.sx HC.out.sy hb3.1 hb3.2
      have hb2 := fun q : World => vadd_any q (Vx.lim (c.sx + ux)) (Vx.lim (c.sy + uy)) ux uy (HI.out _) (HI.out _) hb3.1 hb3.2
      have hb4 := fun q : World => vadd_any q (Vx.lim (Vx.lim (c.sx + ux) + ux)) (Vx.lim (Vx.lim (c.sy + uy) + uy)) ux uy (HI.out _) (HI.out _) hb3.1 hb3.2
      obtain ⟨p5, hp5⟩ : ∃ p, Vx.lim (Vx.lim (Vx.lim (c.sx + ux) + ux) + ux) = p := ⟨_, rfl⟩
      obtain ⟨q5, hq5⟩ : ∃ p, Vx.lim (Vx.lim (Vx.lim (c.sy + uy) + uy) + uy) = p := ⟨_, rfl⟩
      simp only [hp5, hq5] at hb4
      have HP5 := Lib.hid hp5; have HQ5 := Lib.hid hq5
      clear hp5 hq5
      obtain ⟨p4, hp4⟩ : ∃ p, Vx.lim (Vx.lim (c.sx + ux) + ux) = p := ⟨_, rfl⟩
      obtain ⟨q4, hq4⟩ : ∃ p, Vx.lim (Vx.lim (c.sy + uy) + uy) = p := ⟨_, rfl⟩
      simp only [hp4, hq4] at hb4 hb2
      clear hp4 hq4
      obtain ⟨p3, hp3⟩ : ∃ p, Vx.lim (c.sx + ux) = p := ⟨_, rfl⟩
      obtain ⟨q3, hq3⟩ : ∃ p, Vx.lim (c.sy + uy) = p := ⟨_, rfl⟩
      simp only [hp3, hq3] at hb2 hb1
      clear hp3 hq3
      have HB1 := Lib.hid hb1; have HB2 := Lib.hid hb2; have HB3 := Lib.hid hb4
      clear hb1 hb2 hb4
      have hS : PyT G U K B p2 q2 c s ux uy w w13.drew := HT13.out.keep (Mod.refl _ _).drew
      go_upto_region 17 with fail
      go_cut [14] (fun v wx => ∃ D, v = .pointer (some ⟨D, 0, none⟩) ∧ PyT G U K B p2 q2 c s ux uy w wx ∧ Blk wx D [.int .i64 p5, .int .i64 q5] 23)
      case first =>
        refine wp_region_noPanic ?_
        refine wp_region_held_drew (S := PyT G U K B p2 q2 c s ux uy w) (by kernel_rfl) hS (fun hHeld => ?_)
        clear hHeld
        refine wpAnyH_take (i := 0) (v := ?_) (by simp only [List.getElem?_toArray, List.getElem?_cons_zero]; rfl) (by kernel_rfl) (by kernel_rfl) (by kernel_rfl) (fun _ _ _ h => h) (Or.inl ⟨by rfl, ?_⟩) hS ?_
        rotate_left
        · (intro wq hSw; go_simp; all_goals with_reducible rfl)
        try simp only [Act.put, List.setIfInBounds_toArray, List.set_cons_zero, List.set_cons_succ]
        refine wpAnyH_take (i := 1) (v := _) (by simp only [List.getElem?_toArray, List.getElem?_cons_zero, List.getElem?_cons_succ]; rfl) (by kernel_rfl) (by kernel_rfl) (by kernel_rfl) (fun _ _ _ h => h) (yieldsIf_load_mid (by rfl) 23 (.tmp 144) rfl G 4 rfl [.int .i64 c.sx, .int .i64 c.sy] _ (fun _ h => h.speed) Tryd.underlying23 rfl size_vec2) hS ?_
        try simp only [Act.put, List.setIfInBounds_toArray, List.set_cons_zero, List.set_cons_succ]
        refine wpAnyH_take (i := 2) (v := _) (by simp only [List.getElem?_toArray, List.getElem?_cons_zero, List.getElem?_cons_succ]; rfl) (by kernel_rfl) (by kernel_rfl) (by kernel_rfl) (fun _ _ _ h => h) (yieldsIf_load_mid (by rfl) 23 (.tmp 12) rfl U 0 rfl [.int .i64 ux, .int .i64 uy] _ (fun _ h => h.un) Tryd.underlying23 rfl size_vec2) hS ?_
        try simp only [Act.put, List.setIfInBounds_toArray, List.set_cons_zero, List.set_cons_succ]
        refine wpAnyH_take (i := 4) (v := _) (by simp only [List.getElem?_toArray, List.getElem?_cons_zero, List.getElem?_cons_succ]; rfl) (by kernel_rfl) (by kernel_rfl) (by kernel_rfl) (fun _ _ _ h => h) (yieldsIf_load_mid (by rfl) 23 (.tmp 12) rfl U 0 rfl [.int .i64 ux, .int .i64 uy] _ (fun _ h => h.un) Tryd.underlying23 rfl size_vec2) hS ?_
        try simp only [Act.put, List.setIfInBounds_toArray, List.set_cons_zero, List.set_cons_succ]
        refine wpAnyH_take (i := 6) (v := _) (by simp only [List.getElem?_toArray, List.getElem?_cons_zero, List.getElem?_cons_succ]; rfl) (by kernel_rfl) (by kernel_rfl) (by kernel_rfl) (fun _ _ _ h => h) (yieldsIf_load_mid (by rfl) 23 (.tmp 12) rfl U 0 rfl [.int .i64 ux, .int .i64 uy] _ (fun _ h => h.un) Tryd.underlying23 rfl size_vec2) hS ?_
        try simp only [Act.put, List.setIfInBounds_toArray, List.set_cons_zero, List.set_cons_succ]
        refine wpAnyH_ready (rs := [3, 8]) (by kernel_rfl) (by simp) ?_
        refine AllReadyH.cons (by simp only [List.getElem?_toArray, List.getElem?_cons_zero, List.getElem?_cons_succ]; rfl) (fun K hK => ?_) (AllReadyH.cons (by simp only [List.getElem?_toArray, List.getElem?_cons_zero, List.getElem?_cons_succ]; rfl) (fun K hK => ?_) (AllReadyH.nil))
        · go_simp
          go_at_call 26
          refine (HB1.out _).mono ?_
          rintro r w_3 ⟨rfl, hM_3⟩
          have hS_3 := PyT.keep hS hM_3
          try (replace hbk := hM_3.blk hbk (fun h => h))
          go_wp2_with fail
          refine hK.out _ _ hS_3 (fun _ => ?_)
          clear hK K
          try simp only [Act.put, List.setIfInBounds_toArray, List.set_cons_zero, List.set_cons_succ]
          refine wpAnyH_ready (rs := [5, 8]) (by kernel_rfl) (by simp) ?_
          refine AllReadyH.cons (by simp only [List.getElem?_toArray, List.getElem?_cons_zero, List.getElem?_cons_succ]; rfl) (fun K hK => ?_) (AllReadyH.cons (by simp only [List.getElem?_toArray, List.getElem?_cons_zero, List.getElem?_cons_succ]; rfl) (fun K hK => ?_) (AllReadyH.nil))
          · go_simp
            go_at_call 26
            refine (HB2.out _).mono ?_
            rintro r w_3_5 ⟨rfl, hM_3_5⟩
            have hS_3_5 := PyT.keep hS_3 hM_3_5
            try (replace hbk := hM_3_5.blk hbk (fun h => h))
            go_wp2_with fail
            refine hK.out _ _ hS_3_5 (fun _ => ?_)
            clear hK K
            try simp only [Act.put, List.setIfInBounds_toArray, List.set_cons_zero, List.set_cons_succ]
            refine wpAnyH_ready (rs := [7, 8]) (by kernel_rfl) (by simp) ?_
            refine AllReadyH.cons (by simp only [List.getElem?_toArray, List.getElem?_cons_zero, List.getElem?_cons_succ]; rfl) (fun K hK => ?_) (AllReadyH.cons (by simp only [List.getElem?_toArray, List.getElem?_cons_zero, List.getElem?_cons_succ]; rfl) (fun K hK => ?_) (AllReadyH.nil))
            · go_simp
              go_at_call 26
              refine (HB3.out _).mono ?_
              rintro r w_3_5_7 ⟨rfl, hM_3_5_7⟩
              have hS_3_5_7 := PyT.keep hS_3_5 hM_3_5_7
              try (replace hbk := hM_3_5_7.blk hbk (fun h => h))
              go_wp2_with fail
              refine hK.out _ _ hS_3_5_7 (fun _ => ?_)
              clear hK K
              try simp only [Act.put, List.setIfInBounds_toArray, List.set_cons_zero, List.set_cons_succ]
              refine wpAnyH_ready (rs := [8]) (by kernel_rfl) (by simp) ?_
              refine AllReadyH.cons (by simp only [List.getElem?_toArray, List.getElem?_cons_zero, List.getElem?_cons_succ]; rfl) (fun K hK => ?_) (AllReadyH.nil)
              rw [if_pos (by rfl)]
              have hlt := PyT.lt hS_3_5_7
              have hS_3_5_7_8 := PyT.keep hS_3_5_7 ((Mod.refl none_ _).alloc (.cells #[.int .i64 0, .int .i64 0] 23))
              have hbk := Blk.new w_3_5_7 [.int .i64 0, .int .i64 0] 23
              go_simp
              refine hK.out _ _ hS_3_5_7_8 (fun _ => ?_)
              clear hK K
              try simp only [Act.put, List.setIfInBounds_toArray, List.set_cons_zero, List.set_cons_succ]
              refine wpAnyH_ready (rs := [9]) (by kernel_rfl) (by simp) ?_
              refine AllReadyH.cons (by simp only [List.getElem?_toArray, List.getElem?_cons_zero, List.getElem?_cons_succ]; rfl) (fun K hK => ?_) (AllReadyH.nil)
              rw [if_pos (by rfl)]
              refine wp_store_blk 23 (.tmp 14) (.tmp 151) rfl (w_3_5_7.heap.size) [.int .i64 p5, .int .i64 q5] rfl rfl 23 _ hbk size_vec2 rfl (one_two _ _) ?_
              intro w_3_5_7_8_9 hbk2 hM_3_5_7_8_9 _
              have hS_3_5_7_8_9 := PyT.store hS_3_5_7_8 hM_3_5_7_8_9 (by have h4 := hlt.1; have h5 := hlt.2.1; have h6 := hlt.2.2; omega)
              refine hK.out _ _ hS_3_5_7_8_9 (fun _ => ?_)
              clear hK K
              try simp only [Act.put]
              refine wpAnyH_done (by kernel_rfl) ?_ _
              refine NoPanic.normal ?_
              go_wp2
              go_meet
              exact ⟨_, rfl, hS_3_5_7_8_9, hbk2⟩
            · rw [if_pos (by rfl)]
              have hlt := PyT.lt hS_3_5
              have hS_3_5_8 := PyT.keep hS_3_5 ((Mod.refl none_ _).alloc (.cells #[.int .i64 0, .int .i64 0] 23))
              have hbk := Blk.new w_3_5 [.int .i64 0, .int .i64 0] 23
              go_simp
              refine hK.out _ _ hS_3_5_8 (fun _ => ?_)
              clear hK K
              try simp only [Act.put, List.setIfInBounds_toArray, List.set_cons_zero, List.set_cons_succ]
              refine wpAnyH_ready (rs := [7]) (by kernel_rfl) (by simp) ?_
              refine AllReadyH.cons (by simp only [List.getElem?_toArray, List.getElem?_cons_zero, List.getElem?_cons_succ]; rfl) (fun K hK => ?_) (AllReadyH.nil)
              go_simp
              go_at_call 26
              refine (HB3.out _).mono ?_
              rintro r w_3_5_8_7 ⟨rfl, hM_3_5_8_7⟩
              have hS_3_5_8_7 := PyT.keep hS_3_5_8 hM_3_5_8_7
              try (replace hbk := hM_3_5_8_7.blk hbk (fun h => h))
              go_wp2_with fail
              refine hK.out _ _ hS_3_5_8_7 (fun _ => ?_)
              clear hK K
              try simp only [Act.put, List.setIfInBounds_toArray, List.set_cons_zero, List.set_cons_succ]
              refine wpAnyH_ready (rs := [9]) (by kernel_rfl) (by simp) ?_
              refine AllReadyH.cons (by simp only [List.getElem?_toArray, List.getElem?_cons_zero, List.getElem?_cons_succ]; rfl) (fun K hK => ?_) (AllReadyH.nil)
              rw [if_pos (by rfl)]
              refine wp_store_blk 23 (.tmp 14) (.tmp 151) rfl (w_3_5.heap.size) [.int .i64 p5, .int .i64 q5] rfl rfl 23 _ hbk size_vec2 rfl (one_two _ _) ?_
              intro w_3_5_8_7_9 hbk2 hM_3_5_8_7_9 _
              have hS_3_5_8_7_9 := PyT.store hS_3_5_8_7 hM_3_5_8_7_9 (by have h4 := hlt.1; have h5 := hlt.2.1; have h6 := hlt.2.2; omega)
              refine hK.out _ _ hS_3_5_8_7_9 (fun _ => ?_)
              clear hK K
              try simp only [Act.put]
              refine wpAnyH_done (by kernel_rfl) ?_ _
              refine NoPanic.normal ?_
              go_wp2
              go_meet
              exact ⟨_, rfl, hS_3_5_8_7_9, hbk2⟩
          · rw [if_pos (by rfl)]
            have hlt := PyT.lt hS_3
            have hS_3_8 := PyT.keep hS_3 ((Mod.refl none_ _).alloc (.cells #[.int .i64 0, .int .i64 0] 23))
            have hbk := Blk.new w_3 [.int .i64 0, .int .i64 0] 23
            go_simp
            refine hK.out _ _ hS_3_8 (fun _ => ?_)
            clear hK K
            try simp only [Act.put, List.setIfInBounds_toArray, List.set_cons_zero, List.set_cons_succ]
            refine wpAnyH_ready (rs := [5]) (by kernel_rfl) (by simp) ?_
            refine AllReadyH.cons (by simp only [List.getElem?_toArray, List.getElem?_cons_zero, List.getElem?_cons_succ]; rfl) (fun K hK => ?_) (AllReadyH.nil)
            go_simp
            go_at_call 26
            refine (HB2.out _).mono ?_
            rintro r w_3_8_5 ⟨rfl, hM_3_8_5⟩
            have hS_3_8_5 := PyT.keep hS_3_8 hM_3_8_5
            try (replace hbk := hM_3_8_5.blk hbk (fun h => h))
            go_wp2_with fail
            refine hK.out _ _ hS_3_8_5 (fun _ => ?_)
            clear hK K
            try simp only [Act.put, List.setIfInBounds_toArray, List.set_cons_zero, List.set_cons_succ]
            refine wpAnyH_ready (rs := [7]) (by kernel_rfl) (by simp) ?_
            refine AllReadyH.cons (by simp only [List.getElem?_toArray, List.getElem?_cons_zero, List.getElem?_cons_succ]; rfl) (fun K hK => ?_) (AllReadyH.nil)
            go_simp
            go_at_call 26
            refine (HB3.out _).mono ?_
            rintro r w_3_8_5_7 ⟨rfl, hM_3_8_5_7⟩
            have hS_3_8_5_7 := PyT.keep hS_3_8_5 hM_3_8_5_7
            try (replace hbk := hM_3_8_5_7.blk hbk (fun h => h))
            go_wp2_with fail
            refine hK.out _ _ hS_3_8_5_7 (fun _ => ?_)
            clear hK K
            try simp only [Act.put, List.setIfInBounds_toArray, List.set_cons_zero, List.set_cons_succ]
            refine wpAnyH_ready (rs := [9]) (by kernel_rfl) (by simp) ?_
            refine AllReadyH.cons (by simp only [List.getElem?_toArray, List.getElem?_cons_zero, List.getElem?_cons_succ]; rfl) (fun K hK => ?_) (AllReadyH.nil)
            rw [if_pos (by rfl)]
            refine wp_store_blk 23 (.tmp 14) (.tmp 151) rfl (w_3.heap.size) [.int .i64 p5, .int .i64 q5] rfl rfl 23 _ hbk size_vec2 rfl (one_two _ _) ?_
            intro w_3_8_5_7_9 hbk2 hM_3_8_5_7_9 _
            have hS_3_8_5_7_9 := PyT.store hS_3_8_5_7 hM_3_8_5_7_9 (by have h4 := hlt.1; have h5 := hlt.2.1; have h6 := hlt.2.2; omega)
            refine hK.out _ _ hS_3_8_5_7_9 (fun _ => ?_)
            clear hK K
            try simp only [Act.put]
            refine wpAnyH_done (by kernel_rfl) ?_ _
            refine NoPanic.normal ?_
            go_wp2
            go_meet
            exact ⟨_, rfl, hS_3_8_5_7_9, hbk2⟩
        · rw [if_pos (by rfl)]
          have hlt := PyT.lt HT13.out
          have hS_8 := PyT.keep hS ((Mod.refl none_ _).alloc (.cells #[.int .i64 0, .int .i64 0] 23))
          have hbk := Blk.new w13.drew [.int .i64 0, .int .i64 0] 23
          go_simp
          refine hK.out _ _ hS_8 (fun _ => ?_)
          clear hK K
          try simp only [Act.put, List.setIfInBounds_toArray, List.set_cons_zero, List.set_cons_succ]
          refine wpAnyH_ready (rs := [3]) (by kernel_rfl) (by simp) ?_
          refine AllReadyH.cons (by simp only [List.getElem?_toArray, List.getElem?_cons_zero, List.getElem?_cons_succ]; rfl) (fun K hK => ?_) (AllReadyH.nil)
          go_simp
          go_at_call 26
          refine (HB1.out _).mono ?_
          rintro r w_8_3 ⟨rfl, hM_8_3⟩
          have hS_8_3 := PyT.keep hS_8 hM_8_3
          try (replace hbk := hM_8_3.blk hbk (fun h => h))
          go_wp2_with fail
          refine hK.out _ _ hS_8_3 (fun _ => ?_)
          clear hK K
          try simp only [Act.put, List.setIfInBounds_toArray, List.set_cons_zero, List.set_cons_succ]
          refine wpAnyH_ready (rs := [5]) (by kernel_rfl) (by simp) ?_
          refine AllReadyH.cons (by simp only [List.getElem?_toArray, List.getElem?_cons_zero, List.getElem?_cons_succ]; rfl) (fun K hK => ?_) (AllReadyH.nil)
          go_simp
          go_at_call 26
          refine (HB2.out _).mono ?_
          rintro r w_8_3_5 ⟨rfl, hM_8_3_5⟩
          have hS_8_3_5 := PyT.keep hS_8_3 hM_8_3_5
          try (replace hbk := hM_8_3_5.blk hbk (fun h => h))
          go_wp2_with fail
          refine hK.out _ _ hS_8_3_5 (fun _ => ?_)
          clear hK K
          try simp only [Act.put, List.setIfInBounds_toArray, List.set_cons_zero, List.set_cons_succ]
          refine wpAnyH_ready (rs := [7]) (by kernel_rfl) (by simp) ?_
          refine AllReadyH.cons (by simp only [List.getElem?_toArray, List.getElem?_cons_zero, List.getElem?_cons_succ]; rfl) (fun K hK => ?_) (AllReadyH.nil)
          go_simp
          go_at_call 26
          refine (HB3.out _).mono ?_
          rintro r w_8_3_5_7 ⟨rfl, hM_8_3_5_7⟩
          have hS_8_3_5_7 := PyT.keep hS_8_3_5 hM_8_3_5_7
          try (replace hbk := hM_8_3_5_7.blk hbk (fun h => h))
          go_wp2_with fail
          refine hK.out _ _ hS_8_3_5_7 (fun _ => ?_)
          clear hK K
          try simp only [Act.put, List.setIfInBounds_toArray, List.set_cons_zero, List.set_cons_succ]
          refine wpAnyH_ready (rs := [9]) (by kernel_rfl) (by simp) ?_
          refine AllReadyH.cons (by simp only [List.getElem?_toArray, List.getElem?_cons_zero, List.getElem?_cons_succ]; rfl) (fun K hK => ?_) (AllReadyH.nil)
          rw [if_pos (by rfl)]
          refine wp_store_blk 23 (.tmp 14) (.tmp 151) rfl (w13.heap.size) [.int .i64 p5, .int .i64 q5] rfl rfl 23 _ hbk size_vec2 rfl (one_two _ _) ?_
          intro w_8_3_5_7_9 hbk2 hM_8_3_5_7_9 _
          have hS_8_3_5_7_9 := PyT.store hS_8_3_5_7 hM_8_3_5_7_9 (by have h4 := hlt.1; have h5 := hlt.2.1; have h6 := hlt.2.2; omega)
          refine hK.out _ _ hS_8_3_5_7_9 (fun _ => ?_)
          clear hK K
          try simp only [Act.put]
          refine wpAnyH_done (by kernel_rfl) ?_ _
          refine NoPanic.normal ?_
          go_wp2
          go_meet
          exact ⟨_, rfl, hS_8_3_5_7_9, hbk2⟩
      case rest =>
        obtain ⟨D, rfl, hT14, hD14⟩ := hcut
        obtain ⟨w14, rfl⟩ : ∃ q, q = wc := ⟨_, rfl⟩
        have HT14 := Lib.hid hT14; have HD14 := Lib.hid hD14
        clear HT13 HB1 HB2 HB3 hS hT14 hD14
        obtain ⟨M, hM14⟩ : ∃ m, m = HT14.out.s.m := ⟨_, rfl⟩
        clear hM14
        have HM14 := Lib.hid M
        clear M
        have g2 := HT14.out.s.car.cell (j := 2) rfl; have g3 := HT14.out.s.car.cell (j := 3) rfl; have g4 := HT14.out.s.car.cell (j := 4) rfl; have g5 := HT14.out.s.car.cell (j := 5) rfl
        have hf1 := fun q : World => far_any q c.ax c.ay
        have hf2 := fun q : World => far_any q c.sx c.sy
        cases e1 : farB c.ax c.ay with
        | true =>
          simp only [e1] at hf1
          have HF1 := Lib.hid hf1
          clear hf1 hf2 e1
          go_wp2_with (go_at_call 27; refine (HF1.out _).mono ?_; rintro r w15 ⟨rfl, hM⟩; have HM15 := Lib.hid (HM14.out.then hM); clear hM)
          go_ret
          exact ⟨rfl, HM15.out⟩
        | false =>
          have n1 := Lib.hid (not_far e1)
          simp only [e1] at hf1
          have HF1 := Lib.hid hf1
          clear hf1 e1
          cases e2 : farB c.sx c.sy with
          | true =>
            simp only [e2] at hf2
            have HF2 := Lib.hid hf2
            clear hf2 e2
            go_wp2_with (first | (go_at_call 27; refine (HF1.out _).mono ?_; rintro r w15 ⟨rfl, hM⟩; have HM15 := Lib.hid (HM14.out.then hM); have g4' := (hM.blk HT14.out.s.car (fun h => h)).cell (j := 4) rfl; have g5' := (hM.blk HT14.out.s.car (fun h => h)).cell (j := 5) rfl; clear hM HF1) | (go_at_call 27; refine (HF2.out _).mono ?_; rintro r w16 ⟨rfl, hM⟩; have HM16 := Lib.hid (HM15.out.then hM); clear hM))
            go_ret
            exact ⟨rfl, HM16.out⟩
          | false =>
            have n2 := Lib.hid (not_far e2)
            simp only [e2] at hf2
            have HF2 := Lib.hid hf2
            clear hf2 e2
            go_upto_region 20 with (first | (go_at_call 27; refine (HF1.out _).mono ?_; rintro r w15 ⟨rfl, hM⟩; have HM15 := Lib.hid (HM14.out.then hM); have HT15 := Lib.hid (HT14.out.keep hM); have HD15 := Lib.hid (hM.blk HD14.out (fun h => h)); have g4' := (hM.blk HT14.out.s.car (fun h => h)).cell (j := 4) rfl; have g5' := (hM.blk HT14.out.s.car (fun h => h)).cell (j := 5) rfl; clear hM HF1) | (go_at_call 27; refine (HF2.out _).mono ?_; rintro r w16 ⟨rfl, hM⟩; have HM16 := Lib.hid (HM15.out.then hM); have HT16 := Lib.hid (HT15.out.keep hM); have HD16 := Lib.hid (hM.blk HD15.out (fun h => h)); clear hM))
            clear g2 g3 g4 g5 g4' g5' HT14 HD14 HM14 HT15 HD15 HM15 HF2
            have k1 : s.ax = p2 := by rw [HSH.out]; exact HK1.out ⟨n1.out.1, n1.out.2.1⟩
            have k2 : s.ay = q2 := by rw [HSH.out]; exact HK2.out ⟨n1.out.2.2.1, n1.out.2.2.2⟩
            have k3 : s.sx = p5 := by rw [HSH.out, ← HP5.out]; exact (lim_three ⟨n2.out.1, n2.out.2.1⟩ HUB.out.1).symm
            have k4 : s.sy = q5 := by rw [HSH.out, ← HQ5.out]; exact (lim_three ⟨n2.out.2.2.1, n2.out.2.2.2⟩ HUB.out.2).symm
            have s2 := HT16.out.s.sh.cell (j := 2) (v := .int .i64 s.ax) rfl; have s3 := HT16.out.s.sh.cell (j := 3) (v := .int .i64 s.ay) rfl; have s4 := HT16.out.s.sh.cell (j := 4) (v := .int .i64 s.sx) rfl; have s5 := HT16.out.s.sh.cell (j := 5) (v := .int .i64 s.sy) rfl
            rw [k1] at s2
            rw [k2] at s3
            rw [k3] at s4
            rw [k4] at s5
            clear k1 k2 k3 k4
            have t0 := HT16.out.b.cell (j := 0) rfl; have t1 := HT16.out.b.cell (j := 1) rfl
            have d0 := HD16.out.cell (j := 0) rfl; have d1 := HD16.out.cell (j := 1) rfl
            have ev1 := fun q : World => eqV q p2 q2 p2 q2
            have ev2 := fun q : World => eqV q p5 q5 p5 q5
            simp only [beq_self_eq_true, Bool.and_self] at ev1 ev2
            go_wp2
            go_ret
            exact ⟨rfl, HM16.out⟩
theorem shotPays_any (w : World) (hG : Sines w) (c : Cr) (hc : c.Ok) (id : Int) : Calls Tryd.prog 5 #[c.agg, .int .i64 id] w fun e w' => e = .returned (.bool true) ∧ Mod none_ w w' := by
  by_cases h : c.may
  · exact shotPays_yes w hG c hc id h
  · exact shotPays_no w hG c id h
end Go.Proofs.YtinjlkceplhibaaDoor
