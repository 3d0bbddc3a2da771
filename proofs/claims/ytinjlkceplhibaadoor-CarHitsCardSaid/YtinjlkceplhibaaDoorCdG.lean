/- car: Bump: the walks. -/
import Derived.Test.YtinjlkceplhibaaDoorCdF
import Derived.Test.YtinjlkceplhibaaDoorShB
namespace Go.Proofs.YtinjlkceplhibaaDoor
open Go.RowKit

def Cr.near (a b : Cr) : Bool := Vx.nearB a.ax a.ay b.ax b.ay 163840
def Cr.fast (a b : Cr) : Cr := { a with sx := b.sx, sy := b.sy }
/-- two cars that touch -/
def bumps (a b : Cr) : Bool := !(decide (0 < a.wait) || (decide (0 < b.wait) || !a.near b))
def bumpA (a b : Cr) : Cr := if bumps a b then a.fast b else a
def bumpB (a b : Cr) : Cr := if bumps a b then b.fast a else b
theorem bump_new (w : World) (a b : Cr) : ∃ w4, (((w.alloc (.cells a.cells.toArray 25)).alloc (.cells b.cells.toArray 25)).alloc (.cells car0.cells.toArray 25)).alloc (.cells car0.cells.toArray 25) = w4 ∧
    Blk w4 w.heap.size a.cells 25 ∧ Blk w4 (w.heap.size + 1) b.cells 25 ∧ Blk w4 (w.heap.size + 1 + 1) car0.cells 25 ∧ Blk w4 (w.heap.size + 1 + 1 + 1) car0.cells 25 ∧ Mod none_ w w4 := by
  refine ⟨_, rfl, (((Blk.new w a.cells _).alloc _).alloc _).alloc _, ?_, ?_, ?_, ((((Mod.refl none_ w).alloc _).alloc _).alloc _).alloc _⟩
  · have := ((Blk.new (w.alloc (.cells a.cells.toArray 25)) b.cells 25).alloc (.cells car0.cells.toArray 25)).alloc (.cells car0.cells.toArray 25)
    rw [World.size_alloc] at this
    exact this
  · have := (Blk.new ((w.alloc (.cells a.cells.toArray 25)).alloc (.cells b.cells.toArray 25)) car0.cells 25).alloc (.cells car0.cells.toArray 25)
    rw [World.size_alloc, World.size_alloc] at this
    exact this
  · have := Blk.new (((w.alloc (.cells a.cells.toArray 25)).alloc (.cells b.cells.toArray 25)).alloc (.cells car0.cells.toArray 25)) car0.cells 25
    rw [World.size_alloc, World.size_alloc, World.size_alloc] at this
    exact this
/-- what the last region finds -/
structure BuS (A B : Nat) (a b : Cr) (w0 q : World) : Prop where
  a : Blk q A a.cells 25
  b : Blk q B b.cells 25
  m : Mod none_ w0 q
theorem BuS.keep {A B : Nat} {a b : Cr} {w0 q q' : World} (h : BuS A B a b w0 q) (hM : Mod none_ q q') : BuS A B a b w0 q' := ⟨hM.blk h.a (fun h => h), hM.blk h.b (fun h => h), h.m.then hM⟩
theorem BuS.store {A B X : Nat} {a b : Cr} {w0 q q' : World} (h : BuS A B a b w0 q) (hM : Mod (only X) q q') (hn : A < X ∧ B < X ∧ w0.heap.size ≤ X) : BuS A B a b w0 q' := ⟨hM.blk h.a (not_only (by omega)), hM.blk h.b (not_only (by omega)), h.m.trans hM (fun j hj e => by have : j = X := e; omega)⟩
theorem bump_back {fn : Func} {p q t : Tmp} (h : fn.results = #[.cell p 25, .cell q 25, .tmp t]) (tmps : Array Value) (w : World) (x y : Nat) (a b : Cr) (v : Value) (hp : tmps.getD p undef = .pointer (some ⟨x, 0, none⟩)) (hx : Blk w x a.cells 25)
    (hq : tmps.getD q undef = .pointer (some ⟨y, 0, none⟩)) (hy : Blk w y b.cells 25) (ht : tmps.getD t undef = v) : (results fn tmps).run Tryd.prog w = .ok (.tuple #[a.agg, b.agg, v]) w := by
  have hp' : tmps[p]?.getD undef = .pointer (some ⟨x, 0, none⟩) := by simpa using hp
  have hq' : tmps[q]?.getD undef = .pointer (some ⟨y, 0, none⟩) := by simpa using hq
  have ht' : tmps[t]?.getD undef = v := by simpa using ht
  simp [results, h, hp', hq', ht', asAddr, run_loadVar_row w x 25 25 a.cells.toArray (0, 0) _ hx under_car rfl size_car, run_loadVar_row w y 25 25 b.cells.toArray (0, 0) _ hy under_car rfl size_car]
  exact ⟨rfl, rfl⟩
set_option maxHeartbeats 4000000 in
set_option maxRecDepth 100000 in
theorem bump_any (w : World) (a b : Cr) (ha : a.Ok) (hb : b.Ok) : Calls Tryd.prog 47 #[a.agg, b.agg] w fun e w' => e = .returned (.tuple #[(bumpA a b).agg, (bumpB a b).agg, .bool (bumps a b)]) ∧ Mod none_ w w' := by
  have hn := fun q : World => vnear_any q a.ax a.ay b.ax b.ay 163840 ha.ax ha.ay hb.ax hb.ay
  have hdn : a.near b = Vx.nearB a.ax a.ay b.ax b.ay 163840 := rfl
  rw [← hdn] at hn
  have hda : bumpA a b = if bumps a b = true then a.fast b else a := rfl
  have hdb : bumpB a b = if bumps a b = true then b.fast a else b := rfl
  have hds : bumps a b = !(decide (0 < a.wait) || (decide (0 < b.wait) || !a.near b)) := rfl
  obtain ⟨NB, hNB⟩ : ∃ x, a.near b = x := ⟨_, rfl⟩
  rw [hNB] at hn hds
  obtain ⟨RA, hRA⟩ : ∃ x, bumpA a b = x := ⟨_, rfl⟩
  obtain ⟨RB, hRB⟩ : ∃ x, bumpB a b = x := ⟨_, rfl⟩
  obtain ⟨RS, hRS⟩ : ∃ x, bumps a b = x := ⟨_, rfl⟩
  rw [hRS] at hds hda hdb ⊢
  rw [hRA] at hda ⊢
  rw [hRB] at hdb ⊢
  have hw1 := fun q : World => wreck_any q a
  have hw2 := fun q : World => wreck_any q b
  have HN := Lib.hid hn; have HDA := Lib.hid hda; have HDB := Lib.hid hdb; have HDS := Lib.hid hds; have HW1 := Lib.hid hw1; have HW2 := Lib.hid hw2
  clear hn hda hdb hds hw1 hw2 hdn hNB hRA hRB hRS ha hb
  unfold Cr.agg at HW1 HW2 ⊢
  go_enter Tryd.func47, Tryd.ntmps47
  go_upto_region 1 with fail
  obtain ⟨w4, hw4, hA4, hB4, hX4, hY4, hM4⟩ := bump_new w a b
  change Code.wp _ _ _ _ ((((w.alloc (.cells a.cells.toArray 25)).alloc (.cells b.cells.toArray 25)).alloc (.cells car0.cells.toArray 25)).alloc (.cells car0.cells.toArray 25))
  rw [hw4]
  obtain ⟨A, hA⟩ : ∃ x, w.heap.size = x := ⟨_, rfl⟩
  rw [hA] at hA4 hB4 hX4 hY4 ⊢
  obtain ⟨B, hB⟩ : ∃ x, A + 1 = x := ⟨_, rfl⟩
  rw [hB] at hB4 hX4 hY4 ⊢
  obtain ⟨X, hX⟩ : ∃ x, B + 1 = x := ⟨_, rfl⟩
  rw [hX] at hX4 hY4 ⊢
  obtain ⟨Y, hY⟩ : ∃ x, X + 1 = x := ⟨_, rfl⟩
  rw [hY] at hY4 ⊢
  have HNN := Lib.hid (show w.heap.size ≤ A ∧ A < B ∧ B < X ∧ X < Y by omega)
  have HV4 : RowKit.Hid (BuS A B a b w w4) := Lib.hid ⟨hA4, hB4, hM4⟩
  have HX4 := Lib.hid hX4; have HY4 := Lib.hid hY4
  clear hw4 hA4 hB4 hX4 hY4 hM4 hA hB hX hY
  by_cases c1 : 0 < a.wait
  · have d1 : decide (0 < a.wait) = true := decide_eq_true c1
    have hrs : RS = false := by rw [HDS.out, d1]; rfl
    subst hrs
    go_upto_region 2 with (first | (refine wpList_load_blk rfl 25 (.tmp 2) rfl A rfl 25 a.cells _ HV4.out.a under_car rfl size_car ?_) | (go_at_call 73; refine (HW1.out _).mono ?_; rintro r w5 ⟨rfl, hM⟩; have HV5 := Lib.hid (HV4.out.keep hM); have HX5 := Lib.hid (hM.blk HX4.out (fun h => h)); have HY5 := Lib.hid (hM.blk HY4.out (fun h => h)); have b0 := HV5.out.b.cell (j := 0) rfl; have b1 := HV5.out.b.cell (j := 1) rfl; have b2 := HV5.out.b.cell (j := 2) rfl; have b3 := HV5.out.b.cell (j := 3) rfl; have b4 := HV5.out.b.cell (j := 4) rfl; have b5 := HV5.out.b.cell (j := 5) rfl; have b6 := HV5.out.b.cell (j := 6) rfl; have b7 := HV5.out.b.cell (j := 7) rfl; have b8 := HV5.out.b.cell (j := 8) rfl; have b9 := HV5.out.b.cell (j := 9) rfl; have b10 := HV5.out.b.cell (j := 10) rfl; have b11 := HV5.out.b.cell (j := 11) rfl; have b12 := HV5.out.b.cell (j := 12) rfl; have b13 := HV5.out.b.cell (j := 13) rfl; clear hM HW1) | (go_at_call 73; refine (HW2.out _).mono ?_; rintro r w6 ⟨rfl, hM⟩; have HV6 := Lib.hid (HV5.out.keep hM); have HX6 := Lib.hid (hM.blk HX5.out (fun h => h)); have HY6 := Lib.hid (hM.blk HY5.out (fun h => h)); clear hM HW2; have x2 := HV6.out.a.cell (j := 2) rfl; have x3 := HV6.out.a.cell (j := 3) rfl; have z2 := HV6.out.b.cell (j := 2) rfl; have z3 := HV6.out.b.cell (j := 3) rfl) | (go_at_call 29; refine (HN.out _).mono ?_; rintro r w7 ⟨rfl, hM⟩; have HV7 := Lib.hid (HV6.out.keep hM); have HX7 := Lib.hid (hM.blk HX6.out (fun h => h)); have HY7 := Lib.hid (hM.blk HY6.out (fun h => h)); clear hM))
    have hS : BuS A B a b w w5.drew := HV5.out.keep (Mod.refl _ _).drew
    have hda := HDA.out
    have hdb := HDB.out
    rw [if_neg (by decide)] at hda hdb
    refine wp_region_noPanic ?_
    refine wp_region_held_drew (S := BuS A B (a) (b) w) (by kernel_rfl) hS (fun hHeld => ?_)
    clear hHeld
    refine wpAnyH_take (i := 0) (v := _) (by simp only [List.getElem?_toArray, List.getElem?_cons_zero]; rfl) (by kernel_rfl) (by kernel_rfl) (by kernel_rfl) (fun _ _ _ h => h) (yieldsIf_load_mid (by rfl) 25 (.tmp 2) rfl A 0 rfl (a).cells _ (fun _ h => blk_mid h.a 0 _ (fun j v hj => by rw [Nat.zero_add]; exact hj)) under_car rfl size_car) hS ?_
    try simp only [Act.put, List.setIfInBounds_toArray, List.set_cons_zero, List.set_cons_succ]
    refine wpAnyH_take (i := 1) (v := _) (by simp only [List.getElem?_toArray, List.getElem?_cons_zero, List.getElem?_cons_succ]; rfl) (by kernel_rfl) (by kernel_rfl) (by kernel_rfl) (fun _ _ _ h => h) (yieldsIf_load_mid (by rfl) 25 (.tmp 3) rfl B 0 rfl (b).cells _ (fun _ h => blk_mid h.b 0 _ (fun j v hj => by rw [Nat.zero_add]; exact hj)) under_car rfl size_car) hS ?_
    try simp only [Act.put, List.setIfInBounds_toArray, List.set_cons_zero, List.set_cons_succ]
    refine wpAnyH_ready (rs := [2]) (by kernel_rfl) (by simp) ?_
    refine AllReadyH.cons (by simp only [List.getElem?_toArray, List.getElem?_cons_zero, List.getElem?_cons_succ]; rfl) (fun K hK => ?_) (AllReadyH.nil)
    rw [if_pos (by rfl)]
    refine wp_store_blk 25 (.tmp 4) (.tmp 21) rfl X (a).cells rfl rfl 25 _ HX5.out.drew size_car rfl (one_car _) ?_
    intro w9 hX9 hM9 _
    have hS9 := BuS.store hS hM9 (by have := HNN.out; omega)
    have hY9 := hM9.blk HY5.out.drew (not_only (by have := HNN.out; omega))
    refine hK.out _ _ hS9 (fun _ => ?_)
    clear hK K
    try simp only [Act.put]
    refine wpAnyH_ready (rs := [3]) (by kernel_rfl) (by simp) ?_
    refine AllReadyH.cons (by simp only [List.getElem?_toArray, List.getElem?_cons_zero, List.getElem?_cons_succ]; rfl) (fun K hK => ?_) (AllReadyH.nil)
    rw [if_pos (by rfl)]
    refine wp_store_blk 25 (.tmp 5) (.tmp 22) rfl Y (b).cells rfl rfl 25 _ hY9 size_car rfl (one_car _) ?_
    intro w10 hY10 hM10 _
    have hS10 := BuS.store hS9 hM10 (by have := HNN.out; omega)
    have hX10 := hM10.blk hX9 (not_only (by have := HNN.out; omega))
    refine hK.out _ _ hS10 (fun _ => ?_)
    clear hK K
    try simp only [Act.put]
    refine wpAnyH_take (i := 4) (v := ?_) (by simp only [List.getElem?_toArray, List.getElem?_cons_zero, List.getElem?_cons_succ]; rfl) (by kernel_rfl) (by kernel_rfl) (by kernel_rfl) (fun _ _ _ h => h) (Or.inl ⟨by rfl, ?_⟩) hS10 ?_
    rotate_left
    · (intro wq hSw; go_simp; all_goals with_reducible rfl)
    try simp only [Act.put, List.setIfInBounds_toArray, List.set_cons_zero, List.set_cons_succ]
    refine wpAnyH_done (by kernel_rfl) ?_ _
    refine NoPanic.normal ?_

    go_wp2_with fail
    exact bodyPost_ret (bump_back Tryd.results47 _ _ X Y a b (.bool false) rfl hX10 rfl hY10 rfl) rfl ⟨by rw [hda, hdb]; rfl, hS10.m⟩
  have d1 : decide (0 < a.wait) = false := decide_eq_false c1
  by_cases c2 : 0 < b.wait
  · have d2 : decide (0 < b.wait) = true := decide_eq_true c2
    have hrs : RS = false := by rw [HDS.out, d1, d2]; rfl
    subst hrs
    go_upto_region 2 with (first | (refine wpList_load_blk rfl 25 (.tmp 2) rfl A rfl 25 a.cells _ HV4.out.a under_car rfl size_car ?_) | (go_at_call 73; refine (HW1.out _).mono ?_; rintro r w5 ⟨rfl, hM⟩; have HV5 := Lib.hid (HV4.out.keep hM); have HX5 := Lib.hid (hM.blk HX4.out (fun h => h)); have HY5 := Lib.hid (hM.blk HY4.out (fun h => h)); have b0 := HV5.out.b.cell (j := 0) rfl; have b1 := HV5.out.b.cell (j := 1) rfl; have b2 := HV5.out.b.cell (j := 2) rfl; have b3 := HV5.out.b.cell (j := 3) rfl; have b4 := HV5.out.b.cell (j := 4) rfl; have b5 := HV5.out.b.cell (j := 5) rfl; have b6 := HV5.out.b.cell (j := 6) rfl; have b7 := HV5.out.b.cell (j := 7) rfl; have b8 := HV5.out.b.cell (j := 8) rfl; have b9 := HV5.out.b.cell (j := 9) rfl; have b10 := HV5.out.b.cell (j := 10) rfl; have b11 := HV5.out.b.cell (j := 11) rfl; have b12 := HV5.out.b.cell (j := 12) rfl; have b13 := HV5.out.b.cell (j := 13) rfl; clear hM HW1) | (go_at_call 73; refine (HW2.out _).mono ?_; rintro r w6 ⟨rfl, hM⟩; have HV6 := Lib.hid (HV5.out.keep hM); have HX6 := Lib.hid (hM.blk HX5.out (fun h => h)); have HY6 := Lib.hid (hM.blk HY5.out (fun h => h)); clear hM HW2; have x2 := HV6.out.a.cell (j := 2) rfl; have x3 := HV6.out.a.cell (j := 3) rfl; have z2 := HV6.out.b.cell (j := 2) rfl; have z3 := HV6.out.b.cell (j := 3) rfl) | (go_at_call 29; refine (HN.out _).mono ?_; rintro r w7 ⟨rfl, hM⟩; have HV7 := Lib.hid (HV6.out.keep hM); have HX7 := Lib.hid (hM.blk HX6.out (fun h => h)); have HY7 := Lib.hid (hM.blk HY6.out (fun h => h)); clear hM))
    have hS : BuS A B a b w w6.drew := HV6.out.keep (Mod.refl _ _).drew
    have hda := HDA.out
    have hdb := HDB.out
    rw [if_neg (by decide)] at hda hdb
    refine wp_region_noPanic ?_
    refine wp_region_held_drew (S := BuS A B (a) (b) w) (by kernel_rfl) hS (fun hHeld => ?_)
    clear hHeld
    refine wpAnyH_take (i := 0) (v := _) (by simp only [List.getElem?_toArray, List.getElem?_cons_zero]; rfl) (by kernel_rfl) (by kernel_rfl) (by kernel_rfl) (fun _ _ _ h => h) (yieldsIf_load_mid (by rfl) 25 (.tmp 2) rfl A 0 rfl (a).cells _ (fun _ h => blk_mid h.a 0 _ (fun j v hj => by rw [Nat.zero_add]; exact hj)) under_car rfl size_car) hS ?_
    try simp only [Act.put, List.setIfInBounds_toArray, List.set_cons_zero, List.set_cons_succ]
    refine wpAnyH_take (i := 1) (v := _) (by simp only [List.getElem?_toArray, List.getElem?_cons_zero, List.getElem?_cons_succ]; rfl) (by kernel_rfl) (by kernel_rfl) (by kernel_rfl) (fun _ _ _ h => h) (yieldsIf_load_mid (by rfl) 25 (.tmp 3) rfl B 0 rfl (b).cells _ (fun _ h => blk_mid h.b 0 _ (fun j v hj => by rw [Nat.zero_add]; exact hj)) under_car rfl size_car) hS ?_
    try simp only [Act.put, List.setIfInBounds_toArray, List.set_cons_zero, List.set_cons_succ]
    refine wpAnyH_ready (rs := [2]) (by kernel_rfl) (by simp) ?_
    refine AllReadyH.cons (by simp only [List.getElem?_toArray, List.getElem?_cons_zero, List.getElem?_cons_succ]; rfl) (fun K hK => ?_) (AllReadyH.nil)
    rw [if_pos (by rfl)]
    refine wp_store_blk 25 (.tmp 4) (.tmp 21) rfl X (a).cells rfl rfl 25 _ HX6.out.drew size_car rfl (one_car _) ?_
    intro w9 hX9 hM9 _
    have hS9 := BuS.store hS hM9 (by have := HNN.out; omega)
    have hY9 := hM9.blk HY6.out.drew (not_only (by have := HNN.out; omega))
    refine hK.out _ _ hS9 (fun _ => ?_)
    clear hK K
    try simp only [Act.put]
    refine wpAnyH_ready (rs := [3]) (by kernel_rfl) (by simp) ?_
    refine AllReadyH.cons (by simp only [List.getElem?_toArray, List.getElem?_cons_zero, List.getElem?_cons_succ]; rfl) (fun K hK => ?_) (AllReadyH.nil)
    rw [if_pos (by rfl)]
    refine wp_store_blk 25 (.tmp 5) (.tmp 22) rfl Y (b).cells rfl rfl 25 _ hY9 size_car rfl (one_car _) ?_
    intro w10 hY10 hM10 _
    have hS10 := BuS.store hS9 hM10 (by have := HNN.out; omega)
    have hX10 := hM10.blk hX9 (not_only (by have := HNN.out; omega))
    refine hK.out _ _ hS10 (fun _ => ?_)
    clear hK K
    try simp only [Act.put]
    refine wpAnyH_take (i := 4) (v := ?_) (by simp only [List.getElem?_toArray, List.getElem?_cons_zero, List.getElem?_cons_succ]; rfl) (by kernel_rfl) (by kernel_rfl) (by kernel_rfl) (fun _ _ _ h => h) (Or.inl ⟨by rfl, ?_⟩) hS10 ?_
    rotate_left
    · (intro wq hSw; go_simp; all_goals with_reducible rfl)
    try simp only [Act.put, List.setIfInBounds_toArray, List.set_cons_zero, List.set_cons_succ]
    refine wpAnyH_done (by kernel_rfl) ?_ _
    refine NoPanic.normal ?_

    go_wp2_with fail
    exact bodyPost_ret (bump_back Tryd.results47 _ _ X Y a b (.bool false) rfl hX10 rfl hY10 rfl) rfl ⟨by rw [hda, hdb]; rfl, hS10.m⟩
  have d2 : decide (0 < b.wait) = false := decide_eq_false c2
  cases NB with
  | false =>
    have hrs : RS = false := by rw [HDS.out, d1, d2]; rfl
    subst hrs
    go_upto_region 2 with (first | (refine wpList_load_blk rfl 25 (.tmp 2) rfl A rfl 25 a.cells _ HV4.out.a under_car rfl size_car ?_) | (go_at_call 73; refine (HW1.out _).mono ?_; rintro r w5 ⟨rfl, hM⟩; have HV5 := Lib.hid (HV4.out.keep hM); have HX5 := Lib.hid (hM.blk HX4.out (fun h => h)); have HY5 := Lib.hid (hM.blk HY4.out (fun h => h)); have b0 := HV5.out.b.cell (j := 0) rfl; have b1 := HV5.out.b.cell (j := 1) rfl; have b2 := HV5.out.b.cell (j := 2) rfl; have b3 := HV5.out.b.cell (j := 3) rfl; have b4 := HV5.out.b.cell (j := 4) rfl; have b5 := HV5.out.b.cell (j := 5) rfl; have b6 := HV5.out.b.cell (j := 6) rfl; have b7 := HV5.out.b.cell (j := 7) rfl; have b8 := HV5.out.b.cell (j := 8) rfl; have b9 := HV5.out.b.cell (j := 9) rfl; have b10 := HV5.out.b.cell (j := 10) rfl; have b11 := HV5.out.b.cell (j := 11) rfl; have b12 := HV5.out.b.cell (j := 12) rfl; have b13 := HV5.out.b.cell (j := 13) rfl; clear hM HW1) | (go_at_call 73; refine (HW2.out _).mono ?_; rintro r w6 ⟨rfl, hM⟩; have HV6 := Lib.hid (HV5.out.keep hM); have HX6 := Lib.hid (hM.blk HX5.out (fun h => h)); have HY6 := Lib.hid (hM.blk HY5.out (fun h => h)); clear hM HW2; have x2 := HV6.out.a.cell (j := 2) rfl; have x3 := HV6.out.a.cell (j := 3) rfl; have z2 := HV6.out.b.cell (j := 2) rfl; have z3 := HV6.out.b.cell (j := 3) rfl) | (go_at_call 29; refine (HN.out _).mono ?_; rintro r w7 ⟨rfl, hM⟩; have HV7 := Lib.hid (HV6.out.keep hM); have HX7 := Lib.hid (hM.blk HX6.out (fun h => h)); have HY7 := Lib.hid (hM.blk HY6.out (fun h => h)); clear hM))
    have hS : BuS A B a b w w7.drew := HV7.out.keep (Mod.refl _ _).drew
    have hda := HDA.out
    have hdb := HDB.out
    rw [if_neg (by decide)] at hda hdb
    refine wp_region_noPanic ?_
    refine wp_region_held_drew (S := BuS A B (a) (b) w) (by kernel_rfl) hS (fun hHeld => ?_)
    clear hHeld
    refine wpAnyH_take (i := 0) (v := _) (by simp only [List.getElem?_toArray, List.getElem?_cons_zero]; rfl) (by kernel_rfl) (by kernel_rfl) (by kernel_rfl) (fun _ _ _ h => h) (yieldsIf_load_mid (by rfl) 25 (.tmp 2) rfl A 0 rfl (a).cells _ (fun _ h => blk_mid h.a 0 _ (fun j v hj => by rw [Nat.zero_add]; exact hj)) under_car rfl size_car) hS ?_
    try simp only [Act.put, List.setIfInBounds_toArray, List.set_cons_zero, List.set_cons_succ]
    refine wpAnyH_take (i := 1) (v := _) (by simp only [List.getElem?_toArray, List.getElem?_cons_zero, List.getElem?_cons_succ]; rfl) (by kernel_rfl) (by kernel_rfl) (by kernel_rfl) (fun _ _ _ h => h) (yieldsIf_load_mid (by rfl) 25 (.tmp 3) rfl B 0 rfl (b).cells _ (fun _ h => blk_mid h.b 0 _ (fun j v hj => by rw [Nat.zero_add]; exact hj)) under_car rfl size_car) hS ?_
    try simp only [Act.put, List.setIfInBounds_toArray, List.set_cons_zero, List.set_cons_succ]
    refine wpAnyH_ready (rs := [2]) (by kernel_rfl) (by simp) ?_
    refine AllReadyH.cons (by simp only [List.getElem?_toArray, List.getElem?_cons_zero, List.getElem?_cons_succ]; rfl) (fun K hK => ?_) (AllReadyH.nil)
    rw [if_pos (by rfl)]
    refine wp_store_blk 25 (.tmp 4) (.tmp 21) rfl X (a).cells rfl rfl 25 _ HX7.out.drew size_car rfl (one_car _) ?_
    intro w9 hX9 hM9 _
    have hS9 := BuS.store hS hM9 (by have := HNN.out; omega)
    have hY9 := hM9.blk HY7.out.drew (not_only (by have := HNN.out; omega))
    refine hK.out _ _ hS9 (fun _ => ?_)
    clear hK K
    try simp only [Act.put]
    refine wpAnyH_ready (rs := [3]) (by kernel_rfl) (by simp) ?_
    refine AllReadyH.cons (by simp only [List.getElem?_toArray, List.getElem?_cons_zero, List.getElem?_cons_succ]; rfl) (fun K hK => ?_) (AllReadyH.nil)
    rw [if_pos (by rfl)]
    refine wp_store_blk 25 (.tmp 5) (.tmp 22) rfl Y (b).cells rfl rfl 25 _ hY9 size_car rfl (one_car _) ?_
    intro w10 hY10 hM10 _
    have hS10 := BuS.store hS9 hM10 (by have := HNN.out; omega)
    have hX10 := hM10.blk hX9 (not_only (by have := HNN.out; omega))
    refine hK.out _ _ hS10 (fun _ => ?_)
    clear hK K
    try simp only [Act.put]
    refine wpAnyH_take (i := 4) (v := ?_) (by simp only [List.getElem?_toArray, List.getElem?_cons_zero, List.getElem?_cons_succ]; rfl) (by kernel_rfl) (by kernel_rfl) (by kernel_rfl) (fun _ _ _ h => h) (Or.inl ⟨by rfl, ?_⟩) hS10 ?_
    rotate_left
    · (intro wq hSw; go_simp; all_goals with_reducible rfl)
    try simp only [Act.put, List.setIfInBounds_toArray, List.set_cons_zero, List.set_cons_succ]
    refine wpAnyH_done (by kernel_rfl) ?_ _
    refine NoPanic.normal ?_

    go_wp2_with fail
    exact bodyPost_ret (bump_back Tryd.results47 _ _ X Y a b (.bool false) rfl hX10 rfl hY10 rfl) rfl ⟨by rw [hda, hdb]; rfl, hS10.m⟩
  | true =>
    have hrs : RS = true := by rw [HDS.out, d1, d2]; rfl
    subst hrs
    have hda := HDA.out
    have hdb := HDB.out
    rw [if_pos rfl] at hda hdb
    go_upto_region 3 with (first | (refine wpList_load_blk rfl 25 (.tmp 2) rfl A rfl 25 a.cells _ HV4.out.a under_car rfl size_car ?_) | (go_at_call 73; refine (HW1.out _).mono ?_; rintro r w5 ⟨rfl, hM⟩; have HV5 := Lib.hid (HV4.out.keep hM); have HX5 := Lib.hid (hM.blk HX4.out (fun h => h)); have HY5 := Lib.hid (hM.blk HY4.out (fun h => h)); have b0 := HV5.out.b.cell (j := 0) rfl; have b1 := HV5.out.b.cell (j := 1) rfl; have b2 := HV5.out.b.cell (j := 2) rfl; have b3 := HV5.out.b.cell (j := 3) rfl; have b4 := HV5.out.b.cell (j := 4) rfl; have b5 := HV5.out.b.cell (j := 5) rfl; have b6 := HV5.out.b.cell (j := 6) rfl; have b7 := HV5.out.b.cell (j := 7) rfl; have b8 := HV5.out.b.cell (j := 8) rfl; have b9 := HV5.out.b.cell (j := 9) rfl; have b10 := HV5.out.b.cell (j := 10) rfl; have b11 := HV5.out.b.cell (j := 11) rfl; have b12 := HV5.out.b.cell (j := 12) rfl; have b13 := HV5.out.b.cell (j := 13) rfl; clear hM HW1) | (go_at_call 73; refine (HW2.out _).mono ?_; rintro r w6 ⟨rfl, hM⟩; have HV6 := Lib.hid (HV5.out.keep hM); have HX6 := Lib.hid (hM.blk HX5.out (fun h => h)); have HY6 := Lib.hid (hM.blk HY5.out (fun h => h)); clear hM HW2; have x2 := HV6.out.a.cell (j := 2) rfl; have x3 := HV6.out.a.cell (j := 3) rfl; have z2 := HV6.out.b.cell (j := 2) rfl; have z3 := HV6.out.b.cell (j := 3) rfl) | (go_at_call 29; refine (HN.out _).mono ?_; rintro r w7 ⟨rfl, hM⟩; have HV7 := Lib.hid (HV6.out.keep hM); have HX7 := Lib.hid (hM.blk HX6.out (fun h => h)); have HY7 := Lib.hid (hM.blk HY6.out (fun h => h)); clear hM))
    have x4 := HV7.out.a.cell (j := 4) rfl; have x5 := HV7.out.a.cell (j := 5) rfl; have y4 := HV7.out.b.cell (j := 4) rfl; have y5 := HV7.out.b.cell (j := 5) rfl
    have f4 := HV7.out.a.frozen 4; have f5 := HV7.out.a.frozen 5; have g4 := HV7.out.b.frozen 4; have g5 := HV7.out.b.frozen 5
    have hne := HNN.out
    have hAB : A ≠ B := by omega
    go_upto_region 4 with fail
    obtain ⟨w8, hw8, hA8, hB8, hM8⟩ : ∃ w8, ((((w7.setCell ⟨A, 4, none⟩ (.int .i64 b.sx)).setCell ⟨A, 5, none⟩ (.int .i64 b.sy)).setCell ⟨B, 4, none⟩ (.int .i64 a.sx)).setCell ⟨B, 5, none⟩ (.int .i64 a.sy)) = w8 ∧ Blk w8 A (a.fast b).cells 25 ∧ Blk w8 B (b.fast a).cells 25 ∧ Mod (fun k => k = A ∨ k = B) w7 w8 :=
      ⟨_, rfl, ((((HV7.out.a.set 4 _).set 5 _).set_other hAB _).set_other hAB _).cs rfl, ((((HV7.out.b.set_other hAB.symm _).set_other hAB.symm _).set 4 _).set 5 _).cs rfl, ((((Mod.refl _ _).setCell (p := ⟨A, 4, none⟩) (fun _ => Or.inl rfl) _).setCell (p := ⟨A, 5, none⟩) (fun _ => Or.inl rfl) _).setCell (p := ⟨B, 4, none⟩) (fun _ => Or.inr rfl) _).setCell (p := ⟨B, 5, none⟩) (fun _ => Or.inr rfl) _⟩
    rw [hw8]
    have HX8 := Lib.hid (hM8.blk HX7.out (by rintro (h | h) <;> omega)); have HY8 := Lib.hid (hM8.blk HY7.out (by rintro (h | h) <;> omega))
    have hS8 : BuS A B (a.fast b) (b.fast a) w w8 := ⟨hA8, hB8, HV7.out.m.trans hM8 (fun j hj h => by rcases h with h | h <;> omega)⟩
    have hS : BuS A B (a.fast b) (b.fast a) w w8.drew := hS8.keep (Mod.refl _ _).drew
    clear x4 x5 y4 y5 f4 f5 g4 g5 hw8 hA8 hB8 hM8
    refine wp_region_noPanic ?_
    refine wp_region_held_drew (S := BuS A B (a.fast b) (b.fast a) w) (by kernel_rfl) hS (fun hHeld => ?_)
    clear hHeld
    refine wpAnyH_take (i := 0) (v := _) (by simp only [List.getElem?_toArray, List.getElem?_cons_zero]; rfl) (by kernel_rfl) (by kernel_rfl) (by kernel_rfl) (fun _ _ _ h => h) (yieldsIf_load_mid (by rfl) 25 (.tmp 2) rfl A 0 rfl (a.fast b).cells _ (fun _ h => blk_mid h.a 0 _ (fun j v hj => by rw [Nat.zero_add]; exact hj)) under_car rfl size_car) hS ?_
    try simp only [Act.put, List.setIfInBounds_toArray, List.set_cons_zero, List.set_cons_succ]
    refine wpAnyH_take (i := 1) (v := _) (by simp only [List.getElem?_toArray, List.getElem?_cons_zero, List.getElem?_cons_succ]; rfl) (by kernel_rfl) (by kernel_rfl) (by kernel_rfl) (fun _ _ _ h => h) (yieldsIf_load_mid (by rfl) 25 (.tmp 3) rfl B 0 rfl (b.fast a).cells _ (fun _ h => blk_mid h.b 0 _ (fun j v hj => by rw [Nat.zero_add]; exact hj)) under_car rfl size_car) hS ?_
    try simp only [Act.put, List.setIfInBounds_toArray, List.set_cons_zero, List.set_cons_succ]
    refine wpAnyH_ready (rs := [2]) (by kernel_rfl) (by simp) ?_
    refine AllReadyH.cons (by simp only [List.getElem?_toArray, List.getElem?_cons_zero, List.getElem?_cons_succ]; rfl) (fun K hK => ?_) (AllReadyH.nil)
    rw [if_pos (by rfl)]
    refine wp_store_blk 25 (.tmp 4) (.tmp 29) rfl X (a.fast b).cells rfl rfl 25 _ HX8.out.drew size_car rfl (one_car _) ?_
    intro w9 hX9 hM9 _
    have hS9 := BuS.store hS hM9 (by have := HNN.out; omega)
    have hY9 := hM9.blk HY8.out.drew (not_only (by have := HNN.out; omega))
    refine hK.out _ _ hS9 (fun _ => ?_)
    clear hK K
    try simp only [Act.put]
    refine wpAnyH_ready (rs := [3]) (by kernel_rfl) (by simp) ?_
    refine AllReadyH.cons (by simp only [List.getElem?_toArray, List.getElem?_cons_zero, List.getElem?_cons_succ]; rfl) (fun K hK => ?_) (AllReadyH.nil)
    rw [if_pos (by rfl)]
    refine wp_store_blk 25 (.tmp 5) (.tmp 30) rfl Y (b.fast a).cells rfl rfl 25 _ hY9 size_car rfl (one_car _) ?_
    intro w10 hY10 hM10 _
    have hS10 := BuS.store hS9 hM10 (by have := HNN.out; omega)
    have hX10 := hM10.blk hX9 (not_only (by have := HNN.out; omega))
    refine hK.out _ _ hS10 (fun _ => ?_)
    clear hK K
    try simp only [Act.put]
    refine wpAnyH_take (i := 4) (v := ?_) (by simp only [List.getElem?_toArray, List.getElem?_cons_zero, List.getElem?_cons_succ]; rfl) (by kernel_rfl) (by kernel_rfl) (by kernel_rfl) (fun _ _ _ h => h) (Or.inl ⟨by rfl, ?_⟩) hS10 ?_
    rotate_left
    · (intro wq hSw; go_simp; all_goals with_reducible rfl)
    try simp only [Act.put, List.setIfInBounds_toArray, List.set_cons_zero, List.set_cons_succ]
    refine wpAnyH_done (by kernel_rfl) ?_ _
    refine NoPanic.normal ?_

    go_wp2_with fail
    exact bodyPost_ret (bump_back Tryd.results47 _ _ X Y (a.fast b) (b.fast a) (.bool true) rfl hX10 rfl hY10 rfl) rfl ⟨by rw [hda, hdb]; rfl, hS10.m⟩
end Go.Proofs.YtinjlkceplhibaaDoor
