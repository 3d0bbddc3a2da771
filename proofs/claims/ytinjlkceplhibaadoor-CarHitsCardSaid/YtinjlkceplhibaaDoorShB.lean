/- Shots: Fire: the walk of what is fired. -/
import Derived.Test.YtinjlkceplhibaaDoorShA
namespace Go.Proofs.YtinjlkceplhibaaDoor
open Go.RowKit

/-- the car and the heading's place, as they lie in memory -/
structure FiS (Z U X Y : Nat) (c : Cr) (ux uy : Int) (w0 q : World) : Prop where
  car : Blk q Z c.cells 25
  u : Blk q U [.int .i64 ux, .int .i64 uy] 23
  x : Blk q X car0.cells 25
  y : Blk q Y shot0.cells 28
  m : Mod none_ w0 q
theorem FiS.none {Z U X Y : Nat} {c : Cr} {ux uy : Int} {w0 q q' : World} (s : FiS Z U X Y c ux uy w0 q) (hM : Mod none_ q q') : FiS Z U X Y c ux uy w0 q' := ⟨hM.blk s.car (fun h => h), hM.blk s.u (fun h => h), hM.blk s.x (fun h => h), hM.blk s.y (fun h => h), s.m.then hM⟩
theorem FiS.store {Z U X Y B : Nat} {c : Cr} {ux uy : Int} {w0 q q' : World} (s : FiS Z U X Y c ux uy w0 q) (hM : Mod (only B) q q') (h : Z < B ∧ U < B ∧ X < B ∧ Y < B ∧ w0.heap.size ≤ Z) : FiS Z U X Y c ux uy w0 q' := ⟨hM.blk s.car (not_only (by omega)), hM.blk s.u (not_only (by omega)), hM.blk s.x (not_only (by omega)), hM.blk s.y (not_only (by omega)), s.m.trans hM (fun j hj e => by have : j = B := e; omega)⟩
theorem FiS.lt {Z U X Y : Nat} {c : Cr} {ux uy : Int} {w0 q : World} (s : FiS Z U X Y c ux uy w0 q) : Z < q.heap.size ∧ U < q.heap.size ∧ X < q.heap.size ∧ Y < q.heap.size := ⟨s.car.lt, s.u.lt, s.x.lt, s.y.lt⟩
theorem blk_mid {q : World} {b : Nat} {cs : List Value} {t : TypeId} (h : Blk q b cs t) (o : Nat) (vs : List Value) (hv : ∀ j v, vs[j]? = some v → cs[o + j]? = some v) : q.rangeAt b o vs := fun j v hj => h.cell (hv j v hj)
theorem FiS.at {Z U X Y : Nat} {c : Cr} {ux uy : Int} {w0 q : World} (s : FiS Z U X Y c ux uy w0 q) : q.rangeAt Z 2 [.int .i64 c.ax, .int .i64 c.ay] := blk_mid s.car 2 _ (fun j v hj => by
  match j, hj with
  | 0, hj => exact hj
  | 1, hj => exact hj
  | j + 2, hj => simp at hj)
theorem FiS.speed {Z U X Y : Nat} {c : Cr} {ux uy : Int} {w0 q : World} (s : FiS Z U X Y c ux uy w0 q) : q.rangeAt Z 4 [.int .i64 c.sx, .int .i64 c.sy] := blk_mid s.car 4 _ (fun j v hj => by
  match j, hj with
  | 0, hj => exact hj
  | 1, hj => exact hj
  | j + 2, hj => simp at hj)
theorem FiS.un {Z U X Y : Nat} {c : Cr} {ux uy : Int} {w0 q : World} (s : FiS Z U X Y c ux uy w0 q) : q.rangeAt U 0 [.int .i64 ux, .int .i64 uy] := blk_mid s.u 0 _ (fun j v hj => by rw [Nat.zero_add]; exact hj)
/-- what is handed back, as it lies in memory -/
structure FjS (Z B : Nat) (c : Cr) (s : Sh) (w0 q : World) : Prop where
  car : Blk q Z c.cells 25
  shot : Blk q B s.cells 28
  m : Mod none_ w0 q
theorem FjS.store {Z B X : Nat} {c : Cr} {s : Sh} {w0 q q' : World} (h : FjS Z B c s w0 q) (hM : Mod (only X) q q') (hx : Z ≠ X ∧ B ≠ X ∧ w0.heap.size ≤ X) : FjS Z B c s w0 q' := ⟨hM.blk h.car (not_only hx.1), hM.blk h.shot (not_only hx.2.1), h.m.trans hM (fun j hj e => by have : j = X := e; omega)⟩
set_option maxHeartbeats 2000000 in
set_option maxRecDepth 100000 in
theorem fire_yes (w : World) (hG : Sines w) (c : Cr) (hc : c.Ok) (id : Int) (h : c.may) : Calls Tryd.prog 16 #[c.agg, .int .i64 id] w fun e w' => e = .returned (.tuple #[c.fired.agg, (c.shot id).agg, .bool true]) ∧ Mod none_ w w' := by
  obtain ⟨c1, c2, c3, c4⟩ := h
  have hen := hc.energy; have ham := hc.ammo
  unfold Bd.I64 at hen ham
  have hu := fun q (hq : Sines q) => vunit_any q hq c.heading
  have ha1 := fun q : World => ahead_any q c.ax c.ay (sinT (c.heading + 64)) (sinT c.heading) 2 hc.ax hc.ay (sinT_bd _) (sinT_bd _) (by decide)
  have ha2 := fun q : World => ahead_any q c.sx c.sy (sinT (c.heading + 64)) (sinT c.heading) 3 hc.sx hc.sy (sinT_bd _) (sinT_bd _) (by decide)
  have hsh : c.shot id = ⟨id, c.player, Vx.lim (c.ax + sinT (c.heading + 64) * 2), Vx.lim (c.ay + sinT c.heading * 2), Vx.lim (c.sx + sinT (c.heading + 64) * 3), Vx.lim (c.sy + sinT c.heading * 3), 48⟩ := rfl
  generalize Vx.lim (c.ax + sinT (c.heading + 64) * 2) = R1 at *
  generalize Vx.lim (c.ay + sinT c.heading * 2) = R2 at *
  generalize Vx.lim (c.sx + sinT (c.heading + 64) * 3) = R3 at *
  generalize Vx.lim (c.sy + sinT c.heading * 3) = R4 at *
  generalize sinT (c.heading + 64) = ux at *
  generalize sinT c.heading = uy at *
  obtain ⟨sh, hs⟩ : ∃ s, c.shot id = s := ⟨_, rfl⟩
  rw [hs] at hsh ⊢
  have HSH := Lib.hid hsh; have HU := Lib.hid hu; have HA1 := Lib.hid ha1; have HA2 := Lib.hid ha2; have HG := Lib.hid hG
  have e2 : (c.cool != 0) = false := by simp [c2]
  clear hsh hs hu ha1 ha2 hG hc c2
  unfold Cr.agg Sh.agg
  go_enter Tryd.func16, Tryd.ntmps16
  go_upto_region 1 with fail
  obtain ⟨w1, hw1, hB, hX, hY, hM⟩ := fire_new w c
  rw [hw1]
  obtain ⟨Z, hZ⟩ : ∃ Z, w.heap.size = Z := ⟨_, rfl⟩
  rw [hZ] at hB hX hY ⊢
  obtain ⟨X, hXe⟩ : ∃ X, Z + 1 = X := ⟨_, rfl⟩
  rw [hXe] at hX hY ⊢
  obtain ⟨Y, hYe⟩ : ∃ Y, X + 1 = Y := ⟨_, rfl⟩
  rw [hYe] at hY ⊢
  have q11 := hB.cell (j := 11) rfl; have q10 := hB.cell (j := 10) rfl; have q9 := hB.cell (j := 9) rfl; have q8 := hB.cell (j := 8) rfl; have q6 := hB.cell (j := 6) rfl
  have hYl := hY.lt
  have HB := Lib.hid hB; have HX := Lib.hid hX; have HY := Lib.hid hY; have HM := Lib.hid hM
  have HZX := Lib.hid (show w.heap.size ≤ Z ∧ w.heap.size ≤ X ∧ w.heap.size ≤ Y ∧ X ≠ Y ∧ Z ≠ X ∧ Z ≠ Y by omega)
  clear hB hX hY hM hw1 hZ hXe hYe
  go_upto_region 4 with (first | (go_at_call 25; refine (HU.out _ (HG.out.mod HM.out)).mono ?_; rintro r w2 ⟨rfl, hM2⟩; have HM2 := Lib.hid hM2; have hs2 := hM2.size; clear hM2))
  have hF0 : FiS Z w2.heap.size X Y c ux uy w (w2.alloc (.cells #[.int .i64 ux, .int .i64 uy] 23)) :=
    have hA : Mod none_ w1 (w2.alloc (.cells #[.int .i64 ux, .int .i64 uy] 23)) := HM2.out.alloc _
    ⟨hA.blk HB.out (fun h => h), Blk.new w2 [.int .i64 ux, .int .i64 uy] _, hA.blk HX.out (fun h => h), hA.blk HY.out (fun h => h), HM.out.then hA⟩
  obtain ⟨w3, hw3⟩ : ∃ w3, w2.alloc (.cells #[.int .i64 ux, .int .i64 uy] 23) = w3 := ⟨_, rfl⟩
  obtain ⟨U, hU⟩ : ∃ U, w2.heap.size = U := ⟨_, rfl⟩
  rw [hw3] at hF0 ⊢
  rw [hU] at hF0 ⊢
  have HZU := Lib.hid (show X < U ∧ Y < U ∧ Z < U by have := HZX.out; have := HB.out.lt; have := HX.out.lt; omega)
  have HF0 := Lib.hid hF0
  clear hF0 hw3 hU q11 q10 q9 q8 q6 HB HX HY HM HM2 hs2 hYl
  have hS : FiS Z U X Y c ux uy w w3.drew := HF0.out.none (Mod.refl _ _).drew
  go_cut [8] (fun v wx => ∃ B, v = .pointer (some ⟨B, 0, none⟩) ∧ FiS Z U X Y c ux uy w wx ∧ Blk wx B sh.cells 28 ∧ X < B ∧ Y < B ∧ Z < B)
  case first =>
    refine wp_region_noPanic ?_
    refine wp_region_held_drew (S := FiS Z U X Y c ux uy w) (by kernel_rfl) hS (fun hHeld => ?_)
    clear hHeld
    refine wpAnyH_take (i := 0) (v := ?_) (by simp only [List.getElem?_toArray, List.getElem?_cons_zero]; rfl) (by kernel_rfl) (by kernel_rfl) (by kernel_rfl) (fun _ _ _ h => h) (Or.inl ⟨by rfl, ?_⟩) hS ?_
    rotate_left
    · (intro wq hSw; go_simp; all_goals with_reducible rfl)
    try simp only [Act.put, List.setIfInBounds_toArray, List.set_cons_zero, List.set_cons_succ]
    refine wpAnyH_take (i := 1) (v := ?_) (by simp only [List.getElem?_toArray, List.getElem?_cons_zero, List.getElem?_cons_succ]; rfl) (by kernel_rfl) (by kernel_rfl) (by kernel_rfl) (fun _ _ _ h => h) (Or.inl ⟨by rfl, ?_⟩) hS ?_
    rotate_left
    · (intro wq hSw; go_simp; all_goals with_reducible rfl)
    try simp only [Act.put, List.setIfInBounds_toArray, List.set_cons_zero, List.set_cons_succ]
    refine wpAnyH_take (i := 2) (v := ?_) (by simp only [List.getElem?_toArray, List.getElem?_cons_zero, List.getElem?_cons_succ]; rfl) (by kernel_rfl) (by kernel_rfl) (by kernel_rfl) (fun _ _ _ h => h) (Or.inl ⟨by rfl, ?_⟩) hS ?_
    rotate_left
    · (intro wq hSw; have q0 := hSw.car.cell (j := 0) rfl; go_simp; all_goals with_reducible rfl)
    try simp only [Act.put, List.setIfInBounds_toArray, List.set_cons_zero, List.set_cons_succ]
    refine wpAnyH_take (i := 3) (v := ?_) (by simp only [List.getElem?_toArray, List.getElem?_cons_zero, List.getElem?_cons_succ]; rfl) (by kernel_rfl) (by kernel_rfl) (by kernel_rfl) (fun _ _ _ h => h) (Or.inl ⟨by rfl, ?_⟩) hS ?_
    rotate_left
    · (intro wq hSw; go_simp; all_goals with_reducible rfl)
    try simp only [Act.put, List.setIfInBounds_toArray, List.set_cons_zero, List.set_cons_succ]
    refine wpAnyH_take (i := 4) (v := _) (by simp only [List.getElem?_toArray, List.getElem?_cons_zero, List.getElem?_cons_succ]; rfl) (by kernel_rfl) (by kernel_rfl) (by kernel_rfl) (fun _ _ _ h => h) (yieldsIf_load_mid (by rfl) 23 (.tmp 35) rfl Z 2 rfl [.int .i64 c.ax, .int .i64 c.ay] _ (fun _ h => h.at) Tryd.underlying23 rfl size_vec2) hS ?_
    try simp only [Act.put, List.setIfInBounds_toArray, List.set_cons_zero, List.set_cons_succ]
    refine wpAnyH_take (i := 5) (v := _) (by simp only [List.getElem?_toArray, List.getElem?_cons_zero, List.getElem?_cons_succ]; rfl) (by kernel_rfl) (by kernel_rfl) (by kernel_rfl) (fun _ _ _ h => h) (yieldsIf_load_mid (by rfl) 23 (.tmp 7) rfl U 0 rfl [.int .i64 ux, .int .i64 uy] _ (fun _ h => h.un) Tryd.underlying23 rfl size_vec2) hS ?_
    try simp only [Act.put, List.setIfInBounds_toArray, List.set_cons_zero, List.set_cons_succ]
    refine wpAnyH_take (i := 7) (v := ?_) (by simp only [List.getElem?_toArray, List.getElem?_cons_zero, List.getElem?_cons_succ]; rfl) (by kernel_rfl) (by kernel_rfl) (by kernel_rfl) (fun _ _ _ h => h) (Or.inl ⟨by rfl, ?_⟩) hS ?_
    rotate_left
    · (intro wq hSw; go_simp; all_goals with_reducible rfl)
    try simp only [Act.put, List.setIfInBounds_toArray, List.set_cons_zero, List.set_cons_succ]
    refine wpAnyH_take (i := 8) (v := _) (by simp only [List.getElem?_toArray, List.getElem?_cons_zero, List.getElem?_cons_succ]; rfl) (by kernel_rfl) (by kernel_rfl) (by kernel_rfl) (fun _ _ _ h => h) (yieldsIf_load_mid (by rfl) 23 (.tmp 39) rfl Z 4 rfl [.int .i64 c.sx, .int .i64 c.sy] _ (fun _ h => h.speed) Tryd.underlying23 rfl size_vec2) hS ?_
    try simp only [Act.put, List.setIfInBounds_toArray, List.set_cons_zero, List.set_cons_succ]
    refine wpAnyH_take (i := 9) (v := _) (by simp only [List.getElem?_toArray, List.getElem?_cons_zero, List.getElem?_cons_succ]; rfl) (by kernel_rfl) (by kernel_rfl) (by kernel_rfl) (fun _ _ _ h => h) (yieldsIf_load_mid (by rfl) 23 (.tmp 7) rfl U 0 rfl [.int .i64 ux, .int .i64 uy] _ (fun _ h => h.un) Tryd.underlying23 rfl size_vec2) hS ?_
    try simp only [Act.put, List.setIfInBounds_toArray, List.set_cons_zero, List.set_cons_succ]
    refine wpAnyH_ready (rs := [6, 12]) (by kernel_rfl) (by simp) ?_
    refine AllReadyH.cons (by simp only [List.getElem?_toArray, List.getElem?_cons_zero, List.getElem?_cons_succ]; rfl) (fun K hK => ?_) (AllReadyH.cons (by simp only [List.getElem?_toArray, List.getElem?_cons_zero, List.getElem?_cons_succ]; rfl) (fun K hK => ?_) (AllReadyH.nil))
    · go_simp
      go_at_call 49
      refine (HA1.out _).mono ?_
      rintro r w_6 ⟨rfl, hM_6⟩
      have hS_6 := FiS.none hS hM_6
      try (replace hbk := hM_6.blk hbk (fun h => h))
      go_wp2_with fail
      refine hK.out _ _ hS_6 (fun _ => ?_)
      clear hK K
      try simp only [Act.put, List.setIfInBounds_toArray, List.set_cons_zero, List.set_cons_succ]
      refine wpAnyH_ready (rs := [10, 12]) (by kernel_rfl) (by simp) ?_
      refine AllReadyH.cons (by simp only [List.getElem?_toArray, List.getElem?_cons_zero, List.getElem?_cons_succ]; rfl) (fun K hK => ?_) (AllReadyH.cons (by simp only [List.getElem?_toArray, List.getElem?_cons_zero, List.getElem?_cons_succ]; rfl) (fun K hK => ?_) (AllReadyH.nil))
      · go_simp
        go_at_call 49
        refine (HA2.out _).mono ?_
        rintro r w_6_10 ⟨rfl, hM_6_10⟩
        have hS_6_10 := FiS.none hS_6 hM_6_10
        try (replace hbk := hM_6_10.blk hbk (fun h => h))
        go_wp2_with fail
        refine hK.out _ _ hS_6_10 (fun _ => ?_)
        clear hK K
        try simp only [Act.put, List.setIfInBounds_toArray, List.set_cons_zero, List.set_cons_succ]
        refine wpAnyH_take (i := 11) (v := ?_) (by simp only [List.getElem?_toArray, List.getElem?_cons_zero, List.getElem?_cons_succ]; rfl) (by kernel_rfl) (by kernel_rfl) (by kernel_rfl) (fun _ _ _ h => h) (Or.inl ⟨by rfl, ?_⟩) hS_6_10 ?_
        rotate_left
        · (intro wq hSw; go_simp; all_goals with_reducible rfl)
        try simp only [Act.put, List.setIfInBounds_toArray, List.set_cons_zero, List.set_cons_succ]
        refine wpAnyH_ready (rs := [12]) (by kernel_rfl) (by simp) ?_
        refine AllReadyH.cons (by simp only [List.getElem?_toArray, List.getElem?_cons_zero, List.getElem?_cons_succ]; rfl) (fun K hK => ?_) (AllReadyH.nil)
        rw [if_pos (by rfl)]
        have hlt : Z < w_6_10.heap.size ∧ U < w_6_10.heap.size ∧ X < w_6_10.heap.size ∧ Y < w_6_10.heap.size := FiS.lt hS_6_10
        have hS_6_10_12 := FiS.none hS_6_10 ((Mod.refl _ _).alloc (.cells #[.int .i64 0, .int .i64 0, .int .i64 0, .int .i64 0, .int .i64 0, .int .i64 0, .int .i64 0] 28))
        have hbk := Blk.new w_6_10 shot0.cells 28
        go_simp
        refine hK.out _ _ hS_6_10_12 (fun _ => ?_)
        clear hK K
        try simp only [Act.put, List.setIfInBounds_toArray, List.set_cons_zero, List.set_cons_succ]
        refine wpAnyH_ready (rs := [13]) (by kernel_rfl) (by simp) ?_
        refine AllReadyH.cons (by simp only [List.getElem?_toArray, List.getElem?_cons_zero, List.getElem?_cons_succ]; rfl) (fun K hK => ?_) (AllReadyH.nil)
        rw [if_pos (by rfl)]
        refine wp_store_blk 28 (.tmp 8) (.tmp 43) rfl w_6_10.heap.size sh.cells rfl (by rw [HSH.out]; rfl) 28 _ hbk size_shot rfl (one_shot sh) ?_
        intro w_6_10_12_13 hbk2 hM_6_10_12_13 _
        have hS_6_10_12_13 := FiS.store hS_6_10_12 hM_6_10_12_13 (by have := HZX.out; omega)
        refine hK.out _ _ hS_6_10_12_13 (fun _ => ?_)
        clear hK K
        try simp only [Act.put]
        refine wpAnyH_done (by kernel_rfl) ?_ _
        refine NoPanic.normal ?_
        go_wp2
        go_meet
        exact ⟨_, rfl, hS_6_10_12_13, hbk2, by omega, by omega, by omega⟩
      · rw [if_pos (by rfl)]
        have hlt : Z < w_6.heap.size ∧ U < w_6.heap.size ∧ X < w_6.heap.size ∧ Y < w_6.heap.size := FiS.lt hS_6
        have hS_6_12 := FiS.none hS_6 ((Mod.refl _ _).alloc (.cells #[.int .i64 0, .int .i64 0, .int .i64 0, .int .i64 0, .int .i64 0, .int .i64 0, .int .i64 0] 28))
        have hbk := Blk.new w_6 shot0.cells 28
        go_simp
        refine hK.out _ _ hS_6_12 (fun _ => ?_)
        clear hK K
        try simp only [Act.put, List.setIfInBounds_toArray, List.set_cons_zero, List.set_cons_succ]
        refine wpAnyH_ready (rs := [10]) (by kernel_rfl) (by simp) ?_
        refine AllReadyH.cons (by simp only [List.getElem?_toArray, List.getElem?_cons_zero, List.getElem?_cons_succ]; rfl) (fun K hK => ?_) (AllReadyH.nil)
        go_simp
        go_at_call 49
        refine (HA2.out _).mono ?_
        rintro r w_6_12_10 ⟨rfl, hM_6_12_10⟩
        have hS_6_12_10 := FiS.none hS_6_12 hM_6_12_10
        try (replace hbk := hM_6_12_10.blk hbk (fun h => h))
        go_wp2_with fail
        refine hK.out _ _ hS_6_12_10 (fun _ => ?_)
        clear hK K
        try simp only [Act.put, List.setIfInBounds_toArray, List.set_cons_zero, List.set_cons_succ]
        refine wpAnyH_take (i := 11) (v := ?_) (by simp only [List.getElem?_toArray, List.getElem?_cons_zero, List.getElem?_cons_succ]; rfl) (by kernel_rfl) (by kernel_rfl) (by kernel_rfl) (fun _ _ _ h => h) (Or.inl ⟨by rfl, ?_⟩) hS_6_12_10 ?_
        rotate_left
        · (intro wq hSw; go_simp; all_goals with_reducible rfl)
        try simp only [Act.put, List.setIfInBounds_toArray, List.set_cons_zero, List.set_cons_succ]
        refine wpAnyH_ready (rs := [13]) (by kernel_rfl) (by simp) ?_
        refine AllReadyH.cons (by simp only [List.getElem?_toArray, List.getElem?_cons_zero, List.getElem?_cons_succ]; rfl) (fun K hK => ?_) (AllReadyH.nil)
        rw [if_pos (by rfl)]
        refine wp_store_blk 28 (.tmp 8) (.tmp 43) rfl w_6.heap.size sh.cells rfl (by rw [HSH.out]; rfl) 28 _ hbk size_shot rfl (one_shot sh) ?_
        intro w_6_12_10_13 hbk2 hM_6_12_10_13 _
        have hS_6_12_10_13 := FiS.store hS_6_12_10 hM_6_12_10_13 (by have := HZX.out; omega)
        refine hK.out _ _ hS_6_12_10_13 (fun _ => ?_)
        clear hK K
        try simp only [Act.put]
        refine wpAnyH_done (by kernel_rfl) ?_ _
        refine NoPanic.normal ?_
        go_wp2
        go_meet
        exact ⟨_, rfl, hS_6_12_10_13, hbk2, by omega, by omega, by omega⟩
    · rw [if_pos (by rfl)]
      have hlt : Z < w3.heap.size ∧ U < w3.heap.size ∧ X < w3.heap.size ∧ Y < w3.heap.size := HF0.out.lt
      have hS_12 := FiS.none hS ((Mod.refl _ _).alloc (.cells #[.int .i64 0, .int .i64 0, .int .i64 0, .int .i64 0, .int .i64 0, .int .i64 0, .int .i64 0] 28))
      have hbk := Blk.new w3.drew shot0.cells 28
      go_simp
      refine hK.out _ _ hS_12 (fun _ => ?_)
      clear hK K
      try simp only [Act.put, List.setIfInBounds_toArray, List.set_cons_zero, List.set_cons_succ]
      refine wpAnyH_ready (rs := [6]) (by kernel_rfl) (by simp) ?_
      refine AllReadyH.cons (by simp only [List.getElem?_toArray, List.getElem?_cons_zero, List.getElem?_cons_succ]; rfl) (fun K hK => ?_) (AllReadyH.nil)
      go_simp
      go_at_call 49
      refine (HA1.out _).mono ?_
      rintro r w_12_6 ⟨rfl, hM_12_6⟩
      have hS_12_6 := FiS.none hS_12 hM_12_6
      try (replace hbk := hM_12_6.blk hbk (fun h => h))
      go_wp2_with fail
      refine hK.out _ _ hS_12_6 (fun _ => ?_)
      clear hK K
      try simp only [Act.put, List.setIfInBounds_toArray, List.set_cons_zero, List.set_cons_succ]
      refine wpAnyH_ready (rs := [10]) (by kernel_rfl) (by simp) ?_
      refine AllReadyH.cons (by simp only [List.getElem?_toArray, List.getElem?_cons_zero, List.getElem?_cons_succ]; rfl) (fun K hK => ?_) (AllReadyH.nil)
      go_simp
      go_at_call 49
      refine (HA2.out _).mono ?_
      rintro r w_12_6_10 ⟨rfl, hM_12_6_10⟩
      have hS_12_6_10 := FiS.none hS_12_6 hM_12_6_10
      try (replace hbk := hM_12_6_10.blk hbk (fun h => h))
      go_wp2_with fail
      refine hK.out _ _ hS_12_6_10 (fun _ => ?_)
      clear hK K
      try simp only [Act.put, List.setIfInBounds_toArray, List.set_cons_zero, List.set_cons_succ]
      refine wpAnyH_take (i := 11) (v := ?_) (by simp only [List.getElem?_toArray, List.getElem?_cons_zero, List.getElem?_cons_succ]; rfl) (by kernel_rfl) (by kernel_rfl) (by kernel_rfl) (fun _ _ _ h => h) (Or.inl ⟨by rfl, ?_⟩) hS_12_6_10 ?_
      rotate_left
      · (intro wq hSw; go_simp; all_goals with_reducible rfl)
      try simp only [Act.put, List.setIfInBounds_toArray, List.set_cons_zero, List.set_cons_succ]
      refine wpAnyH_ready (rs := [13]) (by kernel_rfl) (by simp) ?_
      refine AllReadyH.cons (by simp only [List.getElem?_toArray, List.getElem?_cons_zero, List.getElem?_cons_succ]; rfl) (fun K hK => ?_) (AllReadyH.nil)
      rw [if_pos (by rfl)]
      refine wp_store_blk 28 (.tmp 8) (.tmp 43) rfl w3.heap.size sh.cells rfl (by rw [HSH.out]; rfl) 28 _ hbk size_shot rfl (one_shot sh) ?_
      intro w_12_6_10_13 hbk2 hM_12_6_10_13 _
      have hS_12_6_10_13 := FiS.store hS_12_6_10 hM_12_6_10_13 (by have := HZX.out; omega)
      refine hK.out _ _ hS_12_6_10_13 (fun _ => ?_)
      clear hK K
      try simp only [Act.put]
      refine wpAnyH_done (by kernel_rfl) ?_ _
      refine NoPanic.normal ?_
      go_wp2
      go_meet
      exact ⟨_, rfl, hS_12_6_10_13, hbk2, by omega, by omega, by omega⟩
  case rest =>
    obtain ⟨B, rfl, hF, hBk, hXB, hYB, hZB⟩ := hcut
    obtain ⟨w4, rfl⟩ : ∃ q, q = wc := ⟨_, rfl⟩
    have q9 := hF.car.cell (j := 9) rfl; have q8 := hF.car.cell (j := 8) rfl; have q10 := hF.car.cell (j := 10) rfl
    have f9 := hF.car.frozen 9; have f8 := hF.car.frozen 8; have f10 := hF.car.frozen 10
    have e1 : IntKind.i64.wrap (c.ammo - 1) = c.ammo - 1 := wrap_in _ (by unfold Bd.I64; omega)
    have e3 : IntKind.i64.wrap (c.energy - 8) = c.energy - 8 := wrap_in _ (by unfold Bd.I64; omega)
    have HF := Lib.hid hF; have HBK := Lib.hid hBk
    clear hF hBk hS HF0
    go_upto_region 8 with fail
    obtain ⟨w5, hw5, hB5, hM5⟩ : ∃ w5, (((w4.setCell ⟨Z, 9, none⟩ (.int .i64 (c.ammo - 1))).setCell ⟨Z, 8, none⟩ (.int .i64 (c.energy - 8))).setCell ⟨Z, 10, none⟩ (.int .i64 8)) = w5 ∧ Blk w5 Z c.fired.cells 25 ∧ Mod (only Z) w4 w5 :=
      ⟨_, rfl, (((HF.out.car.set 9 _).set 8 _).set 10 _).cs rfl, (((Mod.refl _ _).setCell (fun _ => only_self Z) _).setCell (fun _ => only_self Z) _).setCell (fun _ => only_self Z) _⟩
    rw [hw5]
    have hne := HZX.out
    have HX5 := Lib.hid (hM5.blk HF.out.x (not_only (fun e => hne.2.2.2.2.1 e.symm))); have HY5 := Lib.hid (hM5.blk HF.out.y (not_only (fun e => hne.2.2.2.2.2 e.symm)))
    have hS : FjS Z B c.fired sh w w5.drew := ⟨hB5, hM5.blk HBK.out (not_only (by omega)), (HF.out.m.trans hM5 (fun j hj e => by have : j = Z := e; omega)).drew⟩
    clear q9 q8 q10 f9 f8 f10 e1 e3 hB5 hM5 hw5
    refine wp_region_noPanic ?_
    refine wp_region_held_drew (S := FjS Z B c.fired sh w) (by kernel_rfl) hS (fun hHeld => ?_)
    clear hHeld
    refine wpAnyH_take (i := 0) (v := _) (by simp only [List.getElem?_toArray, List.getElem?_cons_zero]; rfl) (by kernel_rfl) (by kernel_rfl) (by kernel_rfl) (fun _ _ _ h => h) (yieldsIf_load_mid (by rfl) 25 (.tmp 2) rfl Z 0 rfl c.fired.cells _ (fun _ h => blk_mid h.car 0 _ (fun j v hj => by rw [Nat.zero_add]; exact hj)) under_car rfl size_car) hS ?_
    try simp only [Act.put, List.setIfInBounds_toArray, List.set_cons_zero, List.set_cons_succ]
    refine wpAnyH_take (i := 1) (v := _) (by simp only [List.getElem?_toArray, List.getElem?_cons_zero, List.getElem?_cons_succ]; rfl) (by kernel_rfl) (by kernel_rfl) (by kernel_rfl) (fun _ _ _ h => h) (yieldsIf_load_mid (by rfl) 28 (.tmp 8) rfl B 0 rfl sh.cells _ (fun _ h => blk_mid h.shot 0 _ (fun j v hj => by rw [Nat.zero_add]; exact hj)) under_shot rfl size_shot) hS ?_
    try simp only [Act.put, List.setIfInBounds_toArray, List.set_cons_zero, List.set_cons_succ]
    refine wpAnyH_ready (rs := [2]) (by kernel_rfl) (by simp) ?_
    refine AllReadyH.cons (by simp only [List.getElem?_toArray, List.getElem?_cons_zero, List.getElem?_cons_succ]; rfl) (fun K hK => ?_) (AllReadyH.nil)
    rw [if_pos (by rfl)]
    refine wp_store_blk 25 (.tmp 4) (.tmp 53) rfl X c.fired.cells rfl rfl 25 _ HX5.out.drew size_car rfl (one_car _) ?_
    intro w6 hX6 hM6 _
    have hS6 := FjS.store hS hM6 (by omega)
    have hY6 := hM6.blk HY5.out.drew (not_only (fun e => hne.2.2.2.1 e.symm))
    refine hK.out _ _ hS6 (fun _ => ?_)
    clear hK K
    try simp only [Act.put]
    refine wpAnyH_ready (rs := [3]) (by kernel_rfl) (by simp) ?_
    refine AllReadyH.cons (by simp only [List.getElem?_toArray, List.getElem?_cons_zero, List.getElem?_cons_succ]; rfl) (fun K hK => ?_) (AllReadyH.nil)
    rw [if_pos (by rfl)]
    refine wp_store_blk 28 (.tmp 5) (.tmp 54) rfl Y sh.cells rfl rfl 28 _ hY6 size_shot rfl (one_shot sh) ?_
    intro w7 hY7 hM7 _
    have hS7 := FjS.store hS6 hM7 (by omega)
    refine hK.out _ _ hS7 (fun _ => ?_)
    clear hK K
    try simp only [Act.put]
    refine wpAnyH_take (i := 4) (v := ?_) (by simp only [List.getElem?_toArray, List.getElem?_cons_zero, List.getElem?_cons_succ]; rfl) (by kernel_rfl) (by kernel_rfl) (by kernel_rfl) (fun _ _ _ h => h) (Or.inl ⟨by rfl, ?_⟩) hS7 ?_
    rotate_left
    · (intro wq hSw; go_simp; all_goals with_reducible rfl)
    try simp only [Act.put, List.setIfInBounds_toArray, List.set_cons_zero, List.set_cons_succ]
    refine wpAnyH_done (by kernel_rfl) ?_ _
    refine NoPanic.normal ?_

    go_wp2
    exact bodyPost_ret (three_back Tryd.results16 _ _ X Y c.fired sh (.bool true) rfl (hM7.blk hX6 (not_only hne.2.2.2.1)) rfl hY7 rfl) rfl ⟨rfl, hS7.m⟩
end Go.Proofs.YtinjlkceplhibaaDoor
