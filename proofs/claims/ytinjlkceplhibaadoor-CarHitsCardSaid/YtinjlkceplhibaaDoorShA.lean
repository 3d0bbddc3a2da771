/- Shots: Fire: the walk. -/
import Derived.Test.YtinjlkceplhibaaDoorCrB
import Derived.Deep.DeepCutAuto
import Derived.Deep.RegionHeld3
import Derived.Deep.CutBlock
namespace Go.Proofs.YtinjlkceplhibaaDoor
open Go.RowKit

theorem wp_store_blk {P : Program} {o : Oper} {a : Act} {w : World} {K : Act → World → Prop} {Q : Exit → Act → World → Prop} (ty : TypeId) (x y : Operand) (ho : o.op = .store ty x y)
    (g : Nat) (cells : List Value) (hx : a.eval x = .pointer (some ⟨g, 0, none⟩)) (hy : a.eval y = .agg cells.toArray)
    (t : TypeId) (old : List Value) (hg : Blk w g old t) (hi : (P.info? ty).map (·.size) = some cells.length)
    (hold : old.length = cells.length) (h1 : ∀ v ∈ cells, v.oneCell' = true)
    (h : ∀ w', Blk w' g cells t → Mod (only g) w w' → w'.heap.size = w.heap.size → K (a.put o.dst undef) w') : o.wp P a w K Q :=
  wp_store_row ty x y ho g cells.toArray hx hy t old.toArray hg (by simpa using hi) (by simpa using hold) (all_oneCell_toArray h1)
    (h _ (hg.row cells) ((Mod.refl _ _).setRow (fun _ => only_self g) _) (by simp))
theorem ahead_any (w : World) (a b x y k : Int) (ha : Bd.I64 a) (hb : Bd.I64 b) (hx : -65536 ≤ x ∧ x ≤ 65536) (hy : -65536 ≤ y ∧ y ≤ 65536) (hk : 0 ≤ k ∧ k ≤ 10) : Calls Tryd.prog 49 #[.agg #[.int .i64 a, .int .i64 b], .agg #[.int .i64 x, .int .i64 y], .int .i64 k] w fun e w' => e = .returned (.agg #[.int .i64 (Vx.lim (a + x * k)), .int .i64 (Vx.lim (b + y * k))]) ∧ Mod none_ w w' := by
  have b1 := Vx.mul_bd (a := Vx.mag x) (b := k) (m := 65536) (n := 10) (by unfold Vx.mag; split <;> omega) hk
  have b2 := Vx.mul_bd (a := Vx.mag y) (b := k) (m := 65536) (n := 10) (by unfold Vx.mag; split <;> omega) hk
  have h1 : -655360 ≤ x * k ∧ x * k ≤ 655360 := by
    unfold Vx.mag at b1
    split at b1
    · rw [Int.neg_mul] at b1; omega
    · omega
  have h2 : -655360 ≤ y * k ∧ y * k ≤ 655360 := by
    unfold Vx.mag at b2
    split at b2
    · rw [Int.neg_mul] at b2; omega
    · omega
  have e1 : IntKind.i64.wrap (x * k) = x * k := wrap_in _ (by unfold Bd.I64; omega)
  have e2 : IntKind.i64.wrap (y * k) = y * k := wrap_in _ (by unfold Bd.I64; omega)
  have hc := fun q : World => vadd_any q a b (x * k) (y * k) ha hb (by unfold Bd.I64; omega) (by unfold Bd.I64; omega)
  generalize Vx.lim (a + x * k) = R1 at *
  generalize Vx.lim (b + y * k) = R2 at *
  have HC := Lib.hid hc
  clear hc b1 b2 h1 h2 ha hb hx hy hk
  go_enter Tryd.func49, Tryd.ntmps49
  go_upto_region 1 with fail
  obtain ⟨w1, hw1, hV, hB2⟩ := v2_new w a b x y
  obtain ⟨X, hX⟩ : ∃ X, w.heap.size + 1 + 1 = X := ⟨_, rfl⟩
  obtain ⟨Z, hZ⟩ : ∃ Z, w.heap.size = Z := ⟨_, rfl⟩
  rw [hw1]
  simp only [hX] at hB2 ⊢
  simp only [hZ] at hV hX ⊢
  have hZX : Z + 1 < X := by omega
  have p0 := hV.a; have p1 := hV.b; have p2 := hV.c; have p3 := hV.d
  have HB2 := Lib.hid hB2; have HV := Lib.hid hV
  clear hB2 hV hw1 hX hZ
  go_wp2_with fail
  refine (HC.out _).mono ?_
  rintro r w2 ⟨rfl, hM⟩
  have hB3 := hM.blk HB2.out (fun h => h)
  have q4 := hB3.cell (j := 0) rfl; have q5 := hB3.cell (j := 1) rfl
  have f4 := hB3.frozen 0; have f5 := hB3.frozen 1
  have HB9 := Lib.hid (((hB3.set 0 (.int .i64 R1)).set 1 (.int .i64 R2)).cs (ds := [.int .i64 R1, .int .i64 R2]) rfl)
  have HV9 := Lib.hid ((HV.out.none hM).store hZX (.int .i64 R1) (.int .i64 R2)).m
  clear hM hB3
  go_wp2_with fail
  have hB9 := HB9.out
  have hV9 := HV9.out
  generalize (w2.setCell ⟨X, 0, none⟩ (.int .i64 R1)).setCell ⟨X, 1, none⟩ (.int .i64 R2) = w9 at *
  have k0 := hB9.cell (j := 0) rfl; have k1 := hB9.cell (j := 1) rfl
  clear q4 q5 f4 f5 hB9 HB9 HV9
  exact bodyPost_ret (v := .agg #[.int .i64 R1, .int .i64 R2]) (by simp [results, Tryd.results49, go_sem, k0, k1]) rfl ⟨rfl, hV9⟩
/-- may it fire? -/
def Cr.may (c : Cr) : Prop := ¬ 0 < c.wait ∧ c.cool = 0 ∧ ¬ c.ammo ≤ 0 ∧ ¬ c.energy < 8
def Cr.fired (c : Cr) : Cr := { c with ammo := c.ammo - 1, energy := c.energy - 8, cool := 8 }
def Cr.shot (c : Cr) (id : Int) : Sh := ⟨id, c.player, Vx.lim (c.ax + sinT (c.heading + 64) * 2), Vx.lim (c.ay + sinT c.heading * 2), Vx.lim (c.sx + sinT (c.heading + 64) * 3), Vx.lim (c.sy + sinT c.heading * 3), 48⟩
theorem three_back {fn : Func} {p q b : Tmp} (h : fn.results = #[.cell p 25, .cell q 28, .tmp b]) (tmps : Array Value) (w : World) (g k : Nat) (c : Cr) (s : Sh) (v : Value) (hp : tmps.getD p undef = .pointer (some ⟨g, 0, none⟩)) (hg : Blk w g c.cells 25)
    (hq : tmps.getD q undef = .pointer (some ⟨k, 0, none⟩)) (hk : Blk w k s.cells 28) (hb : tmps.getD b undef = v) : (results fn tmps).run Tryd.prog w = .ok (.tuple #[c.agg, s.agg, v]) w := by
  have hp' : tmps[p]?.getD undef = .pointer (some ⟨g, 0, none⟩) := by simpa using hp
  have hq' : tmps[q]?.getD undef = .pointer (some ⟨k, 0, none⟩) := by simpa using hq
  have hb' : tmps[b]?.getD undef = v := by simpa using hb
  simp [results, h, hp', hq', hb', asAddr, run_loadVar_row w g 25 25 c.cells.toArray (0, 0) _ hg under_car rfl size_car, run_loadVar_row w k 28 28 s.cells.toArray (0, 0) _ hk under_shot rfl size_shot]
  exact ⟨rfl, rfl⟩
theorem fire_new (w : World) (c : Cr) : ∃ w1, ((w.alloc (.cells c.cells.toArray 25)).alloc (.cells #[.int .i64 0, .string ⟨#[]⟩, .int .i64 0, .int .i64 0, .int .i64 0, .int .i64 0, .int .i64 0, .int .i64 0, .int .i64 0, .int .i64 0, .int .i64 0, .int .i64 0, .int .i64 0, .int .i64 0] 25)).alloc (.cells #[.int .i64 0, .int .i64 0, .int .i64 0, .int .i64 0, .int .i64 0, .int .i64 0, .int .i64 0] 28) = w1 ∧ Blk w1 w.heap.size c.cells 25 ∧ Blk w1 (w.heap.size + 1) car0.cells 25 ∧ Blk w1 (w.heap.size + 1 + 1) shot0.cells 28 ∧ Mod none_ w w1 := by
  refine ⟨_, rfl, ((Blk.new w c.cells _).alloc _).alloc _, ?_, ?_, (((Mod.refl none_ w).alloc _).alloc _).alloc _⟩
  · have := (Blk.new (w.alloc (.cells c.cells.toArray 25)) car0.cells 25).alloc (.cells #[.int .i64 0, .int .i64 0, .int .i64 0, .int .i64 0, .int .i64 0, .int .i64 0, .int .i64 0] 28)
    rw [World.size_alloc] at this
    exact this
  · have := Blk.new ((w.alloc (.cells c.cells.toArray 25)).alloc (.cells #[.int .i64 0, .string ⟨#[]⟩, .int .i64 0, .int .i64 0, .int .i64 0, .int .i64 0, .int .i64 0, .int .i64 0, .int .i64 0, .int .i64 0, .int .i64 0, .int .i64 0, .int .i64 0, .int .i64 0] 25)) shot0.cells 28
    rw [World.size_alloc, World.size_alloc] at this
    exact this
set_option maxHeartbeats 1000000 in
set_option maxRecDepth 100000 in
theorem fire_no (w : World) (c : Cr) (id : Int) (h : ¬ c.may) : Calls Tryd.prog 16 #[c.agg, .int .i64 id] w fun e w' => e = .returned (.tuple #[c.agg, shot0.agg, .bool false]) ∧ Mod none_ w w' := by
  unfold Cr.may at h
  unfold Cr.agg
  by_cases c1 : 0 < c.wait
  · clear h
    go_enter Tryd.func16, Tryd.ntmps16
    go_upto_region 1 with fail
    obtain ⟨w1, hw1, hB, hX, hY, hM⟩ := fire_new w c
    rw [hw1]
    obtain ⟨Z, hZ⟩ : ∃ Z, w.heap.size = Z := ⟨_, rfl⟩
    rw [hZ] at hB hX hY ⊢
    obtain ⟨X, hXe⟩ : ∃ X, Z + 1 = X := ⟨_, rfl⟩
    rw [hXe] at hX hY ⊢
    obtain ⟨Y, hYe⟩ : ∃ Y, X + 1 = Y := ⟨_, rfl⟩
    rw [hYe] at hY ⊢
    have q11 := hB.cell (j := 11) rfl; have q10 := hB.cell (j := 10) rfl; have q9 := hB.cell (j := 9) rfl; have q8 := hB.cell (j := 8) rfl
    have HB := Lib.hid hB; have HX := Lib.hid hX; have HY := Lib.hid hY; have HM := Lib.hid hM
    have HZX := Lib.hid (show w.heap.size ≤ X ∧ w.heap.size ≤ Y ∧ X ≠ Y by omega)
    clear hB hX hY hM hw1 hZ hXe hYe
    go_wp2_with (first | (refine wpList_load_blk rfl 25 (.tmp 2) rfl Z rfl 25 c.cells _ HB.out under_car rfl size_car ?_) | (refine wpList_store_blk rfl 25 (.tmp 4) (.tmp 27) rfl X c.cells rfl rfl 25 _ HX.out size_car rfl (one_car c) ?_; intro w3 hX3 hM3 _; have HY3 := Lib.hid (hM3.blk HY.out (not_only (fun e => HZX.out.2.2 e.symm))); have HX3 := Lib.hid hX3; have HM3 := Lib.hid hM3; clear hX3 hM3) | (refine wpList_store_blk rfl 28 (.tmp 5) (.tmp 28) rfl Y shot0.cells rfl rfl 28 _ HY3.out size_shot rfl (one_shot shot0) ?_; intro w4 hY4 hM4 _))
    exact bodyPost_ret (three_back Tryd.results16 _ _ X Y c shot0 (.bool false) rfl (hM4.blk HX3.out (not_only HZX.out.2.2)) rfl hY4 rfl) rfl ⟨rfl, (HM.out.trans HM3.out (fun j hj e => by have : j = X := e; have := HZX.out; omega)).trans hM4 (fun j hj e => by have : j = Y := e; have := HZX.out; omega)⟩
  · by_cases c2 : c.cool = 0
    · have e2 : (c.cool != 0) = false := by simp [c2]
      by_cases c3 : c.ammo ≤ 0
      · clear h c2
        go_enter Tryd.func16, Tryd.ntmps16
        go_upto_region 1 with fail
        obtain ⟨w1, hw1, hB, hX, hY, hM⟩ := fire_new w c
        rw [hw1]
        obtain ⟨Z, hZ⟩ : ∃ Z, w.heap.size = Z := ⟨_, rfl⟩
        rw [hZ] at hB hX hY ⊢
        obtain ⟨X, hXe⟩ : ∃ X, Z + 1 = X := ⟨_, rfl⟩
        rw [hXe] at hX hY ⊢
        obtain ⟨Y, hYe⟩ : ∃ Y, X + 1 = Y := ⟨_, rfl⟩
        rw [hYe] at hY ⊢
        have q11 := hB.cell (j := 11) rfl; have q10 := hB.cell (j := 10) rfl; have q9 := hB.cell (j := 9) rfl; have q8 := hB.cell (j := 8) rfl
        have HB := Lib.hid hB; have HX := Lib.hid hX; have HY := Lib.hid hY; have HM := Lib.hid hM
        have HZX := Lib.hid (show w.heap.size ≤ X ∧ w.heap.size ≤ Y ∧ X ≠ Y by omega)
        clear hB hX hY hM hw1 hZ hXe hYe
        go_wp2_with (first | (refine wpList_load_blk rfl 25 (.tmp 2) rfl Z rfl 25 c.cells _ HB.out under_car rfl size_car ?_) | (refine wpList_store_blk rfl 25 (.tmp 4) (.tmp 27) rfl X c.cells rfl rfl 25 _ HX.out size_car rfl (one_car c) ?_; intro w3 hX3 hM3 _; have HY3 := Lib.hid (hM3.blk HY.out (not_only (fun e => HZX.out.2.2 e.symm))); have HX3 := Lib.hid hX3; have HM3 := Lib.hid hM3; clear hX3 hM3) | (refine wpList_store_blk rfl 28 (.tmp 5) (.tmp 28) rfl Y shot0.cells rfl rfl 28 _ HY3.out size_shot rfl (one_shot shot0) ?_; intro w4 hY4 hM4 _))
        exact bodyPost_ret (three_back Tryd.results16 _ _ X Y c shot0 (.bool false) rfl (hM4.blk HX3.out (not_only HZX.out.2.2)) rfl hY4 rfl) rfl ⟨rfl, (HM.out.trans HM3.out (fun j hj e => by have : j = X := e; have := HZX.out; omega)).trans hM4 (fun j hj e => by have : j = Y := e; have := HZX.out; omega)⟩
      · have c4 : c.energy < 8 := by
          by_cases c4 : c.energy < 8
          · exact c4
          · exact absurd ⟨c1, c2, c3, c4⟩ h
        clear h c2
        go_enter Tryd.func16, Tryd.ntmps16
        go_upto_region 1 with fail
        obtain ⟨w1, hw1, hB, hX, hY, hM⟩ := fire_new w c
        rw [hw1]
        obtain ⟨Z, hZ⟩ : ∃ Z, w.heap.size = Z := ⟨_, rfl⟩
        rw [hZ] at hB hX hY ⊢
        obtain ⟨X, hXe⟩ : ∃ X, Z + 1 = X := ⟨_, rfl⟩
        rw [hXe] at hX hY ⊢
        obtain ⟨Y, hYe⟩ : ∃ Y, X + 1 = Y := ⟨_, rfl⟩
        rw [hYe] at hY ⊢
        have q11 := hB.cell (j := 11) rfl; have q10 := hB.cell (j := 10) rfl; have q9 := hB.cell (j := 9) rfl; have q8 := hB.cell (j := 8) rfl
        have HB := Lib.hid hB; have HX := Lib.hid hX; have HY := Lib.hid hY; have HM := Lib.hid hM
        have HZX := Lib.hid (show w.heap.size ≤ X ∧ w.heap.size ≤ Y ∧ X ≠ Y by omega)
        clear hB hX hY hM hw1 hZ hXe hYe
        go_wp2_with (first | (refine wpList_load_blk rfl 25 (.tmp 2) rfl Z rfl 25 c.cells _ HB.out under_car rfl size_car ?_) | (refine wpList_store_blk rfl 25 (.tmp 4) (.tmp 27) rfl X c.cells rfl rfl 25 _ HX.out size_car rfl (one_car c) ?_; intro w3 hX3 hM3 _; have HY3 := Lib.hid (hM3.blk HY.out (not_only (fun e => HZX.out.2.2 e.symm))); have HX3 := Lib.hid hX3; have HM3 := Lib.hid hM3; clear hX3 hM3) | (refine wpList_store_blk rfl 28 (.tmp 5) (.tmp 28) rfl Y shot0.cells rfl rfl 28 _ HY3.out size_shot rfl (one_shot shot0) ?_; intro w4 hY4 hM4 _))
        exact bodyPost_ret (three_back Tryd.results16 _ _ X Y c shot0 (.bool false) rfl (hM4.blk HX3.out (not_only HZX.out.2.2)) rfl hY4 rfl) rfl ⟨rfl, (HM.out.trans HM3.out (fun j hj e => by have : j = X := e; have := HZX.out; omega)).trans hM4 (fun j hj e => by have : j = Y := e; have := HZX.out; omega)⟩
    · have e2 : (c.cool != 0) = true := by simp [c2]
      clear h c2
      go_enter Tryd.func16, Tryd.ntmps16
      go_upto_region 1 with fail
      obtain ⟨w1, hw1, hB, hX, hY, hM⟩ := fire_new w c
      rw [hw1]
      obtain ⟨Z, hZ⟩ : ∃ Z, w.heap.size = Z := ⟨_, rfl⟩
      rw [hZ] at hB hX hY ⊢
      obtain ⟨X, hXe⟩ : ∃ X, Z + 1 = X := ⟨_, rfl⟩
      rw [hXe] at hX hY ⊢
      obtain ⟨Y, hYe⟩ : ∃ Y, X + 1 = Y := ⟨_, rfl⟩
      rw [hYe] at hY ⊢
      have q11 := hB.cell (j := 11) rfl; have q10 := hB.cell (j := 10) rfl; have q9 := hB.cell (j := 9) rfl; have q8 := hB.cell (j := 8) rfl
      have HB := Lib.hid hB; have HX := Lib.hid hX; have HY := Lib.hid hY; have HM := Lib.hid hM
      have HZX := Lib.hid (show w.heap.size ≤ X ∧ w.heap.size ≤ Y ∧ X ≠ Y by omega)
      clear hB hX hY hM hw1 hZ hXe hYe
      go_wp2_with (first | (refine wpList_load_blk rfl 25 (.tmp 2) rfl Z rfl 25 c.cells _ HB.out under_car rfl size_car ?_) | (refine wpList_store_blk rfl 25 (.tmp 4) (.tmp 27) rfl X c.cells rfl rfl 25 _ HX.out size_car rfl (one_car c) ?_; intro w3 hX3 hM3 _; have HY3 := Lib.hid (hM3.blk HY.out (not_only (fun e => HZX.out.2.2 e.symm))); have HX3 := Lib.hid hX3; have HM3 := Lib.hid hM3; clear hX3 hM3) | (refine wpList_store_blk rfl 28 (.tmp 5) (.tmp 28) rfl Y shot0.cells rfl rfl 28 _ HY3.out size_shot rfl (one_shot shot0) ?_; intro w4 hY4 hM4 _))
      exact bodyPost_ret (three_back Tryd.results16 _ _ X Y c shot0 (.bool false) rfl (hM4.blk HX3.out (not_only HZX.out.2.2)) rfl hY4 rfl) rfl ⟨rfl, (HM.out.trans HM3.out (fun j hj e => by have : j = X := e; have := HZX.out; omega)).trans hM4 (fun j hj e => by have : j = Y := e; have := HZX.out; omega)⟩
end Go.Proofs.YtinjlkceplhibaaDoor
