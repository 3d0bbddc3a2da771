/- car.Drive: the walk. -/
import Derived.Test.YtinjlkceplhibaaDoorCdB
import Derived.LoopN
namespace Go.Proofs.YtinjlkceplhibaaDoor
open Go.RowKit

/-- within bounds -/
structure Dr.Ok (d : Dr) : Prop where
  c : d.c.Ok
  t : -100 ≤ d.thr ∧ d.thr ≤ 100
  p : Bd.I64 d.pw
theorem Dr.Ok.turned {d : Dr} (h : d.Ok) : d.turned.Ok := by
  obtain ⟨c, t, p⟩ := h
  exact ⟨⟨c.player, c.name, c.ax, c.ay, c.sx, c.sy, by unfold Bd.I64 Dr.turned; simp only; omega, c.health, c.energy, c.ammo, c.cool, c.wait, c.spawns, c.score⟩, t, p⟩
theorem Dr.Ok.pressed {d : Dr} (h : d.Ok) : d.pressed.Ok := by
  obtain ⟨c, t, p⟩ := h
  have he := c.energy
  unfold Bd.I64 at he
  unfold Dr.pressed
  split
  · rename_i hh
    exact ⟨⟨c.player, c.name, c.ax, c.ay, c.sx, c.sy, c.heading, c.health, by unfold Bd.I64; simp only; omega, c.ammo, c.cool, c.wait, c.spawns, c.score⟩, t, by unfold Bd.I64 Dr.power; simp only; omega⟩
  · exact ⟨c, t, by unfold Bd.I64 Dr.power; simp only; omega⟩
theorem Dr.Ok.pushed {d : Dr} (h : d.Ok) : d.pushed.Ok := by
  obtain ⟨c, t, p⟩ := h
  exact ⟨⟨c.player, c.name, c.ax, c.ay, by unfold Bd.I64 Dr.pushed; simp only; have := Vx.lim_in (d.c.sx + Vx.mulV (sinT (d.c.heading + 64)) d.pw); omega, by unfold Bd.I64 Dr.pushed; simp only; have := Vx.lim_in (d.c.sy + Vx.mulV (sinT d.c.heading) d.pw); omega, c.heading, c.health, c.energy, c.ammo, c.cool, c.wait, c.spawns, c.score⟩, t, p⟩
theorem Dr.Ok.rubbed {d : Dr} (h : d.Ok) : d.rubbed.Ok := by
  obtain ⟨c, t, p⟩ := h
  have hm := Vx.capM_bd 65536
  exact ⟨⟨c.player, c.name, c.ax, c.ay, by unfold Bd.I64 Dr.rubbed; simp only; have := Vx.keep_bd (x := d.c.sx - d.c.sx / 16) hm.1; omega, by unfold Bd.I64 Dr.rubbed; simp only; have := Vx.keep_bd (x := d.c.sy - d.c.sy / 16) hm.1; omega, c.heading, c.health, c.energy, c.ammo, c.cool, c.wait, c.spawns, c.score⟩, t, p⟩
theorem Dr.Ok.alonged {W H : Nat} {E : List Int} {d : Dr} (h : d.Ok) : (d.alonged W H E).Ok := by
  obtain ⟨c, t, p⟩ := h
  have hx := c.sx
  unfold Bd.I64 at hx
  unfold Dr.alonged
  split
  · exact ⟨⟨c.player, c.name, c.ax, c.ay, by unfold Bd.I64; simp only; omega, c.sy, c.heading, c.health, c.energy, c.ammo, c.cool, c.wait, c.spawns, c.score⟩, t, p⟩
  · exact ⟨⟨c.player, c.name, by unfold Bd.I64; simp only; have := Vx.lim_in (d.c.ax + d.c.sx); omega, c.ay, c.sx, c.sy, c.heading, c.health, c.energy, c.ammo, c.cool, c.wait, c.spawns, c.score⟩, t, p⟩
theorem Dr.Ok.acrossed {W H : Nat} {E : List Int} {d : Dr} (h : d.Ok) : (d.acrossed W H E).Ok := by
  obtain ⟨c, t, p⟩ := h
  have hy := c.sy
  unfold Bd.I64 at hy
  unfold Dr.acrossed
  split
  · exact ⟨⟨c.player, c.name, c.ax, c.ay, c.sx, by unfold Bd.I64; simp only; omega, c.heading, c.health, c.energy, c.ammo, c.cool, c.wait, c.spawns, c.score⟩, t, p⟩
  · exact ⟨⟨c.player, c.name, c.ax, by unfold Bd.I64; simp only; have := Vx.lim_in (d.c.ay + d.c.sy); omega, c.sx, c.sy, c.heading, c.health, c.energy, c.ammo, c.cool, c.wait, c.spawns, c.score⟩, t, p⟩
/-- the steps, as they lie in a list -/
def steps6 (D : Nat) : List Value := [.func (.func 74) #[.pointer (some ⟨D, 0, none⟩)] #[], .func (.func 75) #[.pointer (some ⟨D, 0, none⟩)] #[], .func (.func 76) #[.pointer (some ⟨D, 0, none⟩)] #[], .func (.func 77) #[.pointer (some ⟨D, 0, none⟩)] #[], .func (.func 78) #[.pointer (some ⟨D, 0, none⟩)] #[], .func (.func 79) #[.pointer (some ⟨D, 0, none⟩)] #[]]
/-- a drive's memory between two steps -/
structure DrV (D X L b : Nat) (d : Dr) (w0 q : World) : Prop where
  d : Blk q D (d.cells b) 107
  x : Blk q X car0.cells 25
  l : Blk q L (steps6 D) 1
  m : Mod none_ w0 q
theorem DrV.step {D X L b : Nat} {d e : Dr} {w0 q q' : World} (h : DrV D X L b d w0 q) (hD : Blk q' D (e.cells b) 107) (hM : Mod (only D) q q') (hn : X < D ∧ D < L ∧ w0.heap.size ≤ D) : DrV D X L b e w0 q' :=
  ⟨hD, hM.blk h.x (not_only (by omega)), hM.blk h.l (not_only (by omega)), h.m.trans hM (fun j hj e => by have : j = D := e; omega)⟩
def icl (ip thr turn : Int) (fire boost : Bool) : List Value := [.int .i64 ip, .int .i64 thr, .int .i64 turn, .bool fire, .bool boost]
theorem dr_new (w : World) (c : Cr) (ip thr turn : Int) (fire boost : Bool) : ∃ w3, ((w.alloc (.cells c.cells.toArray 25)).alloc (.cells #[.int .i64 ip, .int .i64 thr, .int .i64 turn, .bool fire, .bool boost] 63)).alloc (.cells #[.int .i64 0, .string ⟨#[]⟩, .int .i64 0, .int .i64 0, .int .i64 0, .int .i64 0, .int .i64 0, .int .i64 0, .int .i64 0, .int .i64 0, .int .i64 0, .int .i64 0, .int .i64 0, .int .i64 0] 25) = w3 ∧
    Blk w3 w.heap.size c.cells 25 ∧ Blk w3 (w.heap.size + 1) (icl ip thr turn fire boost) 63 ∧ Blk w3 (w.heap.size + 1 + 1) car0.cells 25 ∧ Mod none_ w w3 := by
  refine ⟨_, rfl, ((Blk.new w c.cells _).alloc _).alloc _, ?_, ?_, (((Mod.refl none_ w).alloc _).alloc _).alloc _⟩
  · have := (Blk.new (w.alloc (.cells c.cells.toArray 25)) (icl ip thr turn fire boost) 63).alloc (.cells car0.cells.toArray 25)
    rw [World.size_alloc] at this
    exact this
  · have := Blk.new ((w.alloc (.cells c.cells.toArray 25)).alloc (.cells (icl ip thr turn fire boost).toArray 63)) car0.cells 25
    rw [World.size_alloc, World.size_alloc] at this
    exact this
def clampI (x m : Int) : Int := if m < (if x < -m then -m else x) then m else if x < -m then -m else x
/-- the car behind a tick, no wreck -/
noncomputable def Cr.driven (W H : Nat) (E : List Int) (c : Cr) (ip thr turn : Int) (fire boost : Bool) : Cr := (((((((⟨c, ip, clampI thr 100, clampI turn 8, fire, boost, 0⟩ : Dr).turned).pressed).pushed).rubbed).alonged W H E).acrossed W H E).c
set_option maxHeartbeats 8000000 in
set_option maxRecDepth 100000 in
theorem drive_yes (w : World) (hG : Sines w) {b W H : Nat} {E : List Int} (hB : BrdP w b W H E) (c : Cr) (hc : c.Ok) (ip thr turn : Int) (fire boost : Bool) (hw : ¬ 0 < c.wait) :
    Calls Tryd.prog 34 #[.pointer (some ⟨b, 0, none⟩), c.agg, .agg #[.int .i64 ip, .int .i64 thr, .int .i64 turn, .bool fire, .bool boost]] w fun e w' => e = .returned (c.driven W H E ip thr turn fire boost).agg ∧ Mod none_ w w' := by
  have hdr : c.driven W H E ip thr turn fire boost = (((((((⟨c, ip, clampI thr 100, clampI turn 8, fire, boost, 0⟩ : Dr).turned).pressed).pushed).rubbed).alonged W H E).acrossed W H E).c := rfl
  obtain ⟨RR, hRR⟩ : ∃ R, c.driven W H E ip thr turn fire boost = R := ⟨_, rfl⟩
  rw [hRR] at hdr ⊢
  have HDR := Lib.hid hdr
  clear hdr hRR
  have hwr := fun q : World => wreck_any q c
  rw [decide_eq_false hw] at hwr
  have HWR := Lib.hid hwr; have HG := Lib.hid hG; have HB := Lib.hid hB; have HC := Lib.hid hc
  clear hwr hG hB hc
  unfold Cr.agg
  unfold Cr.agg at HWR
  go_enter Tryd.func34, Tryd.ntmps34
  go_upto_region 1 with fail
  obtain ⟨w3, hw3, hC3, hI3, hR3, hM3⟩ := dr_new w c ip thr turn fire boost
  rw [hw3]
  obtain ⟨Z, hZ⟩ : ∃ Z, w.heap.size = Z := ⟨_, rfl⟩
  obtain ⟨I, hI⟩ : ∃ Z, w.heap.size + 1 = Z := ⟨_, rfl⟩
  obtain ⟨X, hX⟩ : ∃ Z, w.heap.size + 1 + 1 = Z := ⟨_, rfl⟩
  rw [hZ] at hI hX hC3 hI3 hR3 ⊢
  rw [hI] at hX hI3 hR3 ⊢
  rw [hX] at hR3 ⊢
  have HC3 := Lib.hid hC3; have HI3 := Lib.hid hI3; have HR3 := Lib.hid hR3; have HM3 := Lib.hid hM3
  have HN := Lib.hid (show w.heap.size ≤ Z ∧ Z < I ∧ I < X by omega)
  clear hw3 hC3 hI3 hR3 hM3 hZ hI hX
  go_upto_region 3 with (first | (refine wpList_load_blk rfl 25 (.tmp 4) rfl Z rfl 25 c.cells _ HC3.out under_car rfl size_car ?_) | (go_at_call 73; refine (HWR.out _).mono ?_; rintro r w4 ⟨rfl, hM⟩; have HC4 := Lib.hid (hM.blk HC3.out (fun h => h)); have HI4 := Lib.hid (hM.blk HI3.out (fun h => h)); have HR4 := Lib.hid (hM.blk HR3.out (fun h => h)); have HM4 := Lib.hid (HM3.out.then hM); clear hM))
  clear HC3 HI3 HR3 HM3 HWR
  have i1 := HI4.out.cell (j := 1) rfl; have g1 := HI4.out.frozen 1; have i2 := HI4.out.cell (j := 2) rfl; have g2 := HI4.out.frozen 2
  go_upto_region 5 with fail
  obtain ⟨T, hT⟩ : ∃ T, (if 100 < (if thr < -100 then -100 else thr) then 100 else if thr < -100 then -100 else thr) = T := ⟨_, rfl⟩
  obtain ⟨U, hU⟩ : ∃ T, (if 8 < (if turn < -8 then -8 else turn) then 8 else if turn < -8 then -8 else turn) = T := ⟨_, rfl⟩
  rw [hT, hU]
  obtain ⟨T1, hT1⟩ : ∃ T, (if thr < -100 then -100 else thr) = T := ⟨_, rfl⟩
  obtain ⟨U1, hU1⟩ : ∃ T, (if turn < -8 then -8 else turn) = T := ⟨_, rfl⟩
  rw [hT1, hU1]
  clear hT1 hU1
  obtain ⟨w5, hw5, hI5, hM5⟩ : ∃ w5, ((w4.setCell ⟨I, 1, none⟩ (.int .i64 T)).setCell ⟨I, 2, none⟩ (.int .i64 U)) = w5 ∧ Blk w5 I (icl ip T U fire boost) 63 ∧ Mod (only I) w4 w5 := ⟨_, rfl, ((HI4.out.set 1 _).set 2 _).cs rfl, ((Mod.refl _ _).setCell (p := ⟨I, 1, none⟩) (fun _ => only_self I) _).setCell (p := ⟨I, 2, none⟩) (fun _ => only_self I) _⟩
  rw [hw5]
  have HC5 := Lib.hid (hM5.blk HC4.out (not_only (by have := HN.out; omega))); have HR5 := Lib.hid (hM5.blk HR4.out (not_only (by have := HN.out; omega))); have HI5 := Lib.hid hI5
  have HM5 := Lib.hid (HM4.out.trans hM5 (fun j hj e => by have := HN.out; have : j = I := e; omega))
  have HTU := Lib.hid (show (-100 ≤ T ∧ T ≤ 100) ∧ (-8 ≤ U ∧ U ≤ 8) from by rw [← hT, ← hU]; constructor <;> (constructor <;> (split <;> (try split) <;> omega)))
  have HTE := Lib.hid hT; have HUE := Lib.hid hU
  clear hT hU hw5 hI5 hM5 i1 g1 i2 g2 HC4 HI4 HR4 HM4
  have c0 := HC5.out.cell (j := 0) rfl; have c1 := HC5.out.cell (j := 1) rfl; have c2 := HC5.out.cell (j := 2) rfl; have c3 := HC5.out.cell (j := 3) rfl; have c4 := HC5.out.cell (j := 4) rfl; have c5 := HC5.out.cell (j := 5) rfl; have c6 := HC5.out.cell (j := 6) rfl; have c7 := HC5.out.cell (j := 7) rfl; have c8 := HC5.out.cell (j := 8) rfl; have c9 := HC5.out.cell (j := 9) rfl; have c10 := HC5.out.cell (j := 10) rfl; have c11 := HC5.out.cell (j := 11) rfl; have c12 := HC5.out.cell (j := 12) rfl; have c13 := HC5.out.cell (j := 13) rfl
  have i0 := HI5.out.cell (j := 0) rfl; have i1 := HI5.out.cell (j := 1) rfl; have i2 := HI5.out.cell (j := 2) rfl; have i3 := HI5.out.cell (j := 3) rfl; have i4 := HI5.out.cell (j := 4) rfl
  go_upto_region 6 with fail
  obtain ⟨d0, hd0⟩ : ∃ d : Dr, (⟨c, ip, T, U, fire, boost, 0⟩ : Dr) = d := ⟨_, rfl⟩
  obtain ⟨w6, hw6, hD6, hM6⟩ : ∃ w6, w5.alloc (.cells #[.pointer (some ⟨b, 0, none⟩), .int .i64 c.player, .string c.name, .int .i64 c.ax, .int .i64 c.ay, .int .i64 c.sx, .int .i64 c.sy, .int .i64 c.heading, .int .i64 c.health, .int .i64 c.energy, .int .i64 c.ammo, .int .i64 c.cool, .int .i64 c.wait, .int .i64 c.spawns, .int .i64 c.score, .int .i64 ip, .int .i64 T, .int .i64 U, .bool fire, .bool boost, .int .i64 0] 107) = w6 ∧ Blk w6 w5.heap.size (d0.cells b) 107 ∧ Mod none_ w5 w6 := ⟨_, rfl, by rw [← hd0]; exact Blk.new w5 ((⟨c, ip, T, U, fire, boost, 0⟩ : Dr).cells b) _, (Mod.refl _ _).alloc _⟩
  rw [hw6]
  obtain ⟨D, hDe⟩ : ∃ D, w5.heap.size = D := ⟨_, rfl⟩
  rw [hDe] at hD6 ⊢
  have HR6 := Lib.hid (hM6.blk HR5.out (fun h => h)); have HM6 := Lib.hid (HM5.out.then hM6)
  have HXD := Lib.hid (show X < D ∧ w.heap.size ≤ D by have h1 := HR5.out.lt; have h2 := HM5.out.size; omega)
  have HD6 := Lib.hid hD6; have HD0 := Lib.hid hd0
  clear hw6 hD6 hM6 hDe hd0 HC5 HR5 HI5 HM5 c0 c1 c2 c3 c4 c5 c6 c7 c8 c9 c10 c11 c12 c13 i0 i1 i2 i3 i4
  go_upto_block 0 with fail
  obtain ⟨w7, hw7, hL7, hM7⟩ : ∃ w7, w6.alloc (.cells #[.func (.func 74) #[.pointer (some ⟨D, 0, none⟩)] #[], .func (.func 75) #[.pointer (some ⟨D, 0, none⟩)] #[], .func (.func 76) #[.pointer (some ⟨D, 0, none⟩)] #[], .func (.func 77) #[.pointer (some ⟨D, 0, none⟩)] #[], .func (.func 78) #[.pointer (some ⟨D, 0, none⟩)] #[], .func (.func 79) #[.pointer (some ⟨D, 0, none⟩)] #[]] 1) = w7 ∧ Blk w7 w6.heap.size (steps6 D) 1 ∧ Mod none_ w6 w7 := ⟨_, rfl, Blk.new w6 (steps6 D) _, (Mod.refl _ _).alloc _⟩
  rw [hw7]
  obtain ⟨L, hLe⟩ : ∃ L, w6.heap.size = L := ⟨_, rfl⟩
  rw [hLe] at hL7 ⊢
  have HV0 : RowKit.Hid (DrV D X L b d0 w w7) := Lib.hid ⟨hM7.blk HD6.out (fun h => h), hM7.blk HR6.out (fun h => h), hL7, HM6.out.then hM7⟩
  have HNE := Lib.hid (show X < D ∧ D < L ∧ w.heap.size ≤ D by have h1 := HXD.out; have h2 := HD6.out.lt; omega)
  have HNX := Lib.hid (show w.heap.size ≤ X by have := HN.out; omega)
  have HGD := Lib.hid (show 0 ≠ D from by have h1 := HG.out.lt; have h2 := HNE.out; omega)
  clear hw7 hL7 hM7 hLe HD6 HR6 HM6 HXD
  have HO0 : RowKit.Hid d0.Ok := Lib.hid (by rw [← HD0.out]; exact ⟨HC.out, HTU.out.1, by unfold Bd.I64; simp only; omega⟩)
  obtain ⟨d1, h1⟩ : ∃ d, d0.turned = d := ⟨_, rfl⟩
  obtain ⟨d2, h2⟩ : ∃ d, d1.pressed = d := ⟨_, rfl⟩
  obtain ⟨d3, h3⟩ : ∃ d, d2.pushed = d := ⟨_, rfl⟩
  obtain ⟨d4, h4⟩ : ∃ d, d3.rubbed = d := ⟨_, rfl⟩
  obtain ⟨d5, h5⟩ : ∃ d, d4.alonged W H E = d := ⟨_, rfl⟩
  obtain ⟨d6, h6⟩ : ∃ d, d5.acrossed W H E = d := ⟨_, rfl⟩
  have HE1 := Lib.hid h1; have HE2 := Lib.hid h2; have HE3 := Lib.hid h3; have HE4 := Lib.hid h4; have HE5 := Lib.hid h5; have HE6 := Lib.hid h6
  have HO1 : RowKit.Hid d1.Ok := Lib.hid (by rw [← h1]; exact HO0.out.turned)
  have HO2 : RowKit.Hid d2.Ok := Lib.hid (by rw [← h2]; exact HO1.out.pressed)
  have HO3 : RowKit.Hid d3.Ok := Lib.hid (by rw [← h3]; exact HO2.out.pushed)
  have HO4 : RowKit.Hid d4.Ok := Lib.hid (by rw [← h4]; exact HO3.out.rubbed)
  have HO5 : RowKit.Hid d5.Ok := Lib.hid (by rw [← h5]; exact HO4.out.alonged)
  have HO6 : RowKit.Hid d6.Ok := Lib.hid (by rw [← h6]; exact HO5.out.acrossed)
  clear h1 h2 h3 h4 h5 h6
  go_cut [] (fun wx => DrV D X L b d6 w wx)
  case first =>
    go_wp2_with fail
    refine wp_loop_rounds 7 ?_
    rw [rounds_succ]
    have l0 := HV0.out.l.cell (j := 0) rfl
    go_wp2_with (refine (dturn_any _ D b d0 HV0.out.d).mono ?_; rintro r w8 ⟨rfl, hD, hM⟩; have HV1 : RowKit.Hid (DrV D X L b d1 w w8) := Lib.hid (HV0.out.step (by rw [HE1.out] at hD; exact hD) hM HNE.out); clear hD hM)
    clear l0 HV0
    rw [rounds_succ]
    have l1 := HV1.out.l.cell (j := 1) rfl
    go_wp2_with (refine (dpress_any _ D b d1 HO1.out.t HO1.out.c.energy HV1.out.d).mono ?_; rintro r w9 ⟨rfl, hD, hM⟩; have HV2 : RowKit.Hid (DrV D X L b d2 w w9) := Lib.hid (HV1.out.step (by rw [HE2.out] at hD; exact hD) hM HNE.out); clear hD hM)
    clear l1 HV1
    rw [rounds_succ]
    have l2 := HV2.out.l.cell (j := 2) rfl
    go_wp2_with (refine (dpush_any _ (HG.out.mod HV2.out.m) D b d2 HO2.out.c.sx HO2.out.c.sy HO2.out.p HV2.out.d HGD.out).mono ?_; rintro r w10 ⟨rfl, hD, hM⟩; have HV3 : RowKit.Hid (DrV D X L b d3 w w10) := Lib.hid (HV2.out.step (by rw [HE3.out] at hD; exact hD) hM HNE.out); clear hD hM)
    clear l2 HV2
    rw [rounds_succ]
    have l3 := HV3.out.l.cell (j := 3) rfl
    go_wp2_with (refine (drub_any _ D b d3 HO3.out.c.sx HO3.out.c.sy HV3.out.d).mono ?_; rintro r w11 ⟨rfl, hD, hM⟩; have HV4 : RowKit.Hid (DrV D X L b d4 w w11) := Lib.hid (HV3.out.step (by rw [HE4.out] at hD; exact hD) hM HNE.out); clear hD hM)
    clear l3 HV3
    rw [rounds_succ]
    have l4 := HV4.out.l.cell (j := 4) rfl
    go_wp2_with (refine (dalong_any _ (HB.out.none HV4.out.m) D d4 HO4.out.c.ax HO4.out.c.ay HO4.out.c.sx HV4.out.d).mono ?_; rintro r w12 ⟨rfl, hD, hM⟩; have HV5 : RowKit.Hid (DrV D X L b d5 w w12) := Lib.hid (HV4.out.step (by rw [HE5.out] at hD; exact hD) hM HNE.out); clear hD hM)
    clear l4 HV4
    rw [rounds_succ]
    have l5 := HV5.out.l.cell (j := 5) rfl
    go_wp2_with (refine (dacross_any _ (HB.out.none HV5.out.m) D d5 HO5.out.c.ax HO5.out.c.ay HO5.out.c.sy HV5.out.d).mono ?_; rintro r w13 ⟨rfl, hD, hM⟩; have HV6 : RowKit.Hid (DrV D X L b d6 w w13) := Lib.hid (HV5.out.step (by rw [HE6.out] at hD; exact hD) hM HNE.out); clear hD hM)
    clear l5 HV5
    rw [rounds_succ]
    go_wp2_with fail
    go_meet
    exact HV6.out
  case rest =>
    obtain ⟨w14, rfl⟩ : ∃ q, q = wc := ⟨_, rfl⟩
    have HV := Lib.hid hcut
    clear hcut HV0
    have q0 := HV.out.d.cell (j := 1) rfl
    have HA := Lib.hid HV.out.d
    clear q0
    have e1 := HA.out.cell (j := 1) rfl; have e2 := HA.out.cell (j := 2) rfl; have e3 := HA.out.cell (j := 3) rfl; have e4 := HA.out.cell (j := 4) rfl; have e5 := HA.out.cell (j := 5) rfl; have e6 := HA.out.cell (j := 6) rfl; have e7 := HA.out.cell (j := 7) rfl; have e8 := HA.out.cell (j := 8) rfl; have e9 := HA.out.cell (j := 9) rfl; have e10 := HA.out.cell (j := 10) rfl; have e11 := HA.out.cell (j := 11) rfl; have e12 := HA.out.cell (j := 12) rfl; have e13 := HA.out.cell (j := 13) rfl; have e14 := HA.out.cell (j := 14) rfl
    go_wp2_with (refine wpList_store_blk rfl 25 (.tmp 6) (.tmp 52) rfl X d6.c.cells rfl rfl 25 _ HV.out.x size_car rfl (one_car _) ?_; intro w15 hX15 hM15 _)
    refine bodyPost_ret (car_back Tryd.results34 _ _ X d6.c rfl hX15) rfl ⟨?_, HV.out.m.trans hM15 (fun j hj e => by have := HNX.out; have : j = X := e; omega)⟩
    have h1 : clampI thr 100 = T := HTE.out
    have h2 : clampI turn 8 = U := HUE.out
    rw [HDR.out, h1, h2, HD0.out, HE1.out, HE2.out, HE3.out, HE4.out, HE5.out, HE6.out]
    rfl
set_option maxHeartbeats 2000000 in
set_option maxRecDepth 100000 in
theorem drive_no (w : World) (bp : Value) (c : Cr) (ip thr turn : Int) (fire boost : Bool) (hw : 0 < c.wait) :
    Calls Tryd.prog 34 #[bp, c.agg, .agg #[.int .i64 ip, .int .i64 thr, .int .i64 turn, .bool fire, .bool boost]] w fun e w' => e = .returned c.agg ∧ Mod none_ w w' := by
  have hwr := fun q : World => wreck_any q c
  rw [decide_eq_true hw] at hwr
  have HWR := Lib.hid hwr
  clear hwr
  unfold Cr.agg
  unfold Cr.agg at HWR
  go_enter Tryd.func34, Tryd.ntmps34
  go_upto_region 1 with fail
  obtain ⟨w3, hw3, hC3, hI3, hR3, hM3⟩ := dr_new w c ip thr turn fire boost
  rw [hw3]
  obtain ⟨Z, hZ⟩ : ∃ Z, w.heap.size = Z := ⟨_, rfl⟩
  obtain ⟨I, hI⟩ : ∃ Z, w.heap.size + 1 = Z := ⟨_, rfl⟩
  obtain ⟨X, hX⟩ : ∃ Z, w.heap.size + 1 + 1 = Z := ⟨_, rfl⟩
  rw [hZ] at hI hX hC3 hI3 hR3 ⊢
  rw [hI] at hX hI3 hR3 ⊢
  rw [hX] at hR3 ⊢
  have HC3 := Lib.hid hC3; have HR3 := Lib.hid hR3; have HM3 := Lib.hid hM3
  have HNX := Lib.hid (show w.heap.size ≤ X by omega)
  clear hw3 hC3 hI3 hR3 hM3 hZ hI hX
  go_wp2_with (first | (refine wpList_load_blk rfl 25 (.tmp 4) rfl Z rfl 25 c.cells _ HC3.out under_car rfl size_car ?_) | (go_at_call 73; refine (HWR.out _).mono ?_; rintro r w4 ⟨rfl, hM⟩; have HC4 := Lib.hid (hM.blk HC3.out (fun h => h)); have HR4 := Lib.hid (hM.blk HR3.out (fun h => h)); have HM4 := Lib.hid (HM3.out.then hM); clear hM) |
    (refine wpList_load_blk rfl 25 (.tmp 4) rfl Z rfl 25 c.cells _ HC4.out under_car rfl size_car ?_) | (refine wpList_store_blk rfl 25 (.tmp 6) (.tmp 12) rfl X c.cells rfl rfl 25 _ HR4.out size_car rfl (one_car _) ?_; intro w15 hX15 hM15 _))
  exact bodyPost_ret (car_back Tryd.results34 _ _ X c rfl hX15) rfl ⟨rfl, HM4.out.trans hM15 (fun j hj e => by have := HNX.out; have : j = X := e; omega)⟩
/-- the car behind a tick -/
noncomputable def Cr.drive (W H : Nat) (E : List Int) (c : Cr) (ip thr turn : Int) (fire boost : Bool) : Cr := if 0 < c.wait then c else c.driven W H E ip thr turn fire boost
theorem drive_any (w : World) (hG : Sines w) {b W H : Nat} {E : List Int} (hB : BrdP w b W H E) (c : Cr) (hc : c.Ok) (ip thr turn : Int) (fire boost : Bool) :
    Calls Tryd.prog 34 #[.pointer (some ⟨b, 0, none⟩), c.agg, .agg #[.int .i64 ip, .int .i64 thr, .int .i64 turn, .bool fire, .bool boost]] w fun e w' => e = .returned (c.drive W H E ip thr turn fire boost).agg ∧ Mod none_ w w' := by
  unfold Cr.drive
  by_cases hw : 0 < c.wait
  · rw [if_pos hw]
    exact drive_no w _ c ip thr turn fire boost hw
  · rw [if_neg hw]
    exact drive_yes w hG hB c hc ip thr turn fire boost hw
end Go.Proofs.YtinjlkceplhibaaDoor
