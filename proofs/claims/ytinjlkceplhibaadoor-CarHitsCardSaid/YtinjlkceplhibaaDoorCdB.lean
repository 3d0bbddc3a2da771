/- car: a drive in memory: along and across; the walks. -/
import Derived.Test.YtinjlkceplhibaaDoorCdA
import Derived.Test.YtinjlkceplhibaaDoorShB
namespace Go.Proofs.YtinjlkceplhibaaDoor
open Go.RowKit

/-- what a step over the board reads -/
structure AlS (D b : Nat) (d : Dr) (w0 q : World) : Prop where
  blk : Blk q D (d.cells b) 107
  m : Mod none_ w0 q
theorem AlS.keep {D b : Nat} {d : Dr} {w0 q q' : World} (s : AlS D b d w0 q) (hM : Mod none_ q q') : AlS D b d w0 q' := ⟨hM.blk s.blk (fun h => h), s.m.then hM⟩
theorem AlS.store {D b B : Nat} {d : Dr} {w0 q q' : World} (s : AlS D b d w0 q) (hM : Mod (only B) q q') (h : D < B ∧ w0.heap.size ≤ B) : AlS D b d w0 q' := ⟨hM.blk s.blk (not_only (by omega)), s.m.trans hM (fun j hj e => by have : j = B := e; omega)⟩
theorem AlS.lt {D b : Nat} {d : Dr} {w0 q : World} (s : AlS D b d w0 q) : D < q.heap.size ∧ w0.heap.size ≤ q.heap.size := ⟨s.blk.lt, s.m.size⟩
structure AlT (D b T : Nat) (d : Dr) (x y : Int) (w0 q : World) : Prop where
  s : AlS D b d w0 q
  t : Blk q T [.int .i64 x, .int .i64 y] 23
theorem AlT.keep {D b T : Nat} {d : Dr} {x y : Int} {w0 q q' : World} (s : AlT D b T d x y w0 q) (hM : Mod none_ q q') : AlT D b T d x y w0 q' := ⟨s.s.keep hM, hM.blk s.t (fun h => h)⟩
theorem one_vec2 (a b : Int) : ∀ v ∈ [Value.int .i64 a, .int .i64 b], v.oneCell' = true := by simp [Value.oneCell']
set_option maxHeartbeats 2000000 in
set_option maxRecDepth 100000 in
theorem dalong_any (w : World) {b W H : Nat} {E : List Int} (hB : BrdP w b W H E) (D : Nat) (d : Dr) (hx : Bd.I64 d.c.ax) (hy : Bd.I64 d.c.ay) (hv : Bd.I64 d.c.sx) (hD : Blk w D (d.cells b) 107) : Calls Tryd.prog 78 #[.pointer (some ⟨D, 0, none⟩)] w fun e w' => e = .returned (.tuple #[]) ∧ Blk w' D ((d.alonged W H E).cells b) 107 ∧ Mod (only D) w w' := by
  have ha := fun q : World => fadd_any q d.c.ax d.c.sx hx hv
  have hrb : Bd.I64 (Vx.lim (d.c.ax + d.c.sx)) := by have := Vx.lim_in (d.c.ax + d.c.sx); unfold Bd.I64; omega
  have hdef : d.alonged W H E = @ite _ (Bd.Blocked W H E (Vx.lim (d.c.ax + d.c.sx)) d.c.ay 98304) (Classical.propDecidable _) { d with c := { d.c with sx := -(d.c.sx / 2) } } { d with c := { d.c with ax := Vx.lim (d.c.ax + d.c.sx) } } := rfl
  generalize Vx.lim (d.c.ax + d.c.sx) = RX at *
  have hbl := fun (q : World) (hM : Mod none_ w q) => blocked_any q (hB.none hM) RX d.c.ay 98304 hrb hy (by unfold Bd.I64; omega)
  obtain ⟨NV, hNV⟩ : ∃ x, -(d.c.sx / 2) = x := ⟨_, rfl⟩
  rw [hNV] at hdef
  have hwv : wrap64 (-(d.c.sx / 2)) = NV := by rw [← hNV]; exact w64 (by unfold Bd.I64 at hv; omega)
  have HA := Lib.hid ha; have HBL := Lib.hid hbl; have HDEF := Lib.hid hdef; have HD := Lib.hid hD; have HWV := Lib.hid hwv
  clear ha hrb hdef hbl hNV hwv hx hy hv hB hD
  have hS : AlS D b d w w.drew := ⟨HD.out.drew, (Mod.refl _ _).drew⟩
  go_enter Tryd.func78, Tryd.ntmps78
  go_upto_region 1 with fail
  go_cut [3] (fun v wx => ∃ T, v = .pointer (some ⟨T, 0, none⟩) ∧ AlT D b T d RX d.c.ay w wx)
  case first =>
    refine wp_region_noPanic ?_
    refine wp_region_held_drew (S := AlS D b d w) (by kernel_rfl) hS (fun hHeld => ?_)
    clear hHeld
    refine wpAnyH_take (i := 0) (v := ?_) (by simp only [List.getElem?_toArray, List.getElem?_cons_zero]; rfl) (by kernel_rfl) (by kernel_rfl) (by kernel_rfl) (fun _ _ _ h => h) (Or.inl ⟨by rfl, ?_⟩) hS ?_
    rotate_left
    · (intro wq hSw; go_simp; all_goals with_reducible rfl)
    try simp only [Act.put, List.setIfInBounds_toArray, List.set_cons_zero, List.set_cons_succ]
    refine wpAnyH_take (i := 1) (v := ?_) (by simp only [List.getElem?_toArray, List.getElem?_cons_zero, List.getElem?_cons_succ]; rfl) (by kernel_rfl) (by kernel_rfl) (by kernel_rfl) (fun _ _ _ h => h) (Or.inl ⟨by rfl, ?_⟩) hS ?_
    rotate_left
    · (intro wq hSw; go_simp; all_goals with_reducible rfl)
    try simp only [Act.put, List.setIfInBounds_toArray, List.set_cons_zero, List.set_cons_succ]
    refine wpAnyH_take (i := 2) (v := ?_) (by simp only [List.getElem?_toArray, List.getElem?_cons_zero, List.getElem?_cons_succ]; rfl) (by kernel_rfl) (by kernel_rfl) (by kernel_rfl) (fun _ _ _ h => h) (Or.inl ⟨by rfl, ?_⟩) hS ?_
    rotate_left
    · (intro wq hSw; go_simp; all_goals with_reducible rfl)
    try simp only [Act.put, List.setIfInBounds_toArray, List.set_cons_zero, List.set_cons_succ]
    refine wpAnyH_take (i := 3) (v := ?_) (by simp only [List.getElem?_toArray, List.getElem?_cons_zero, List.getElem?_cons_succ]; rfl) (by kernel_rfl) (by kernel_rfl) (by kernel_rfl) (fun _ _ _ h => h) (Or.inl ⟨by rfl, ?_⟩) hS ?_
    rotate_left
    · (intro wq hSw; go_simp; all_goals with_reducible rfl)
    try simp only [Act.put, List.setIfInBounds_toArray, List.set_cons_zero, List.set_cons_succ]
    refine wpAnyH_take (i := 4) (v := ?_) (by simp only [List.getElem?_toArray, List.getElem?_cons_zero, List.getElem?_cons_succ]; rfl) (by kernel_rfl) (by kernel_rfl) (by kernel_rfl) (fun _ _ _ h => h) (Or.inl ⟨by rfl, ?_⟩) hS ?_
    rotate_left
    · (intro wq hSw; have q_a := hSw.blk.cell (j := 3) rfl; go_simp; all_goals with_reducible rfl)
    try simp only [Act.put, List.setIfInBounds_toArray, List.set_cons_zero, List.set_cons_succ]
    refine wpAnyH_take (i := 5) (v := ?_) (by simp only [List.getElem?_toArray, List.getElem?_cons_zero, List.getElem?_cons_succ]; rfl) (by kernel_rfl) (by kernel_rfl) (by kernel_rfl) (fun _ _ _ h => h) (Or.inl ⟨by rfl, ?_⟩) hS ?_
    rotate_left
    · (intro wq hSw; go_simp; all_goals with_reducible rfl)
    try simp only [Act.put, List.setIfInBounds_toArray, List.set_cons_zero, List.set_cons_succ]
    refine wpAnyH_take (i := 6) (v := ?_) (by simp only [List.getElem?_toArray, List.getElem?_cons_zero, List.getElem?_cons_succ]; rfl) (by kernel_rfl) (by kernel_rfl) (by kernel_rfl) (fun _ _ _ h => h) (Or.inl ⟨by rfl, ?_⟩) hS ?_
    rotate_left
    · (intro wq hSw; go_simp; all_goals with_reducible rfl)
    try simp only [Act.put, List.setIfInBounds_toArray, List.set_cons_zero, List.set_cons_succ]
    refine wpAnyH_take (i := 7) (v := ?_) (by simp only [List.getElem?_toArray, List.getElem?_cons_zero, List.getElem?_cons_succ]; rfl) (by kernel_rfl) (by kernel_rfl) (by kernel_rfl) (fun _ _ _ h => h) (Or.inl ⟨by rfl, ?_⟩) hS ?_
    rotate_left
    · (intro wq hSw; go_simp; all_goals with_reducible rfl)
    try simp only [Act.put, List.setIfInBounds_toArray, List.set_cons_zero, List.set_cons_succ]
    refine wpAnyH_take (i := 8) (v := ?_) (by simp only [List.getElem?_toArray, List.getElem?_cons_zero, List.getElem?_cons_succ]; rfl) (by kernel_rfl) (by kernel_rfl) (by kernel_rfl) (fun _ _ _ h => h) (Or.inl ⟨by rfl, ?_⟩) hS ?_
    rotate_left
    · (intro wq hSw; go_simp; all_goals with_reducible rfl)
    try simp only [Act.put, List.setIfInBounds_toArray, List.set_cons_zero, List.set_cons_succ]
    refine wpAnyH_take (i := 9) (v := ?_) (by simp only [List.getElem?_toArray, List.getElem?_cons_zero, List.getElem?_cons_succ]; rfl) (by kernel_rfl) (by kernel_rfl) (by kernel_rfl) (fun _ _ _ h => h) (Or.inl ⟨by rfl, ?_⟩) hS ?_
    rotate_left
    · (intro wq hSw; have q_a := hSw.blk.cell (j := 5) rfl; go_simp; all_goals with_reducible rfl)
    try simp only [Act.put, List.setIfInBounds_toArray, List.set_cons_zero, List.set_cons_succ]
    refine wpAnyH_take (i := 11) (v := ?_) (by simp only [List.getElem?_toArray, List.getElem?_cons_zero, List.getElem?_cons_succ]; rfl) (by kernel_rfl) (by kernel_rfl) (by kernel_rfl) (fun _ _ _ h => h) (Or.inl ⟨by rfl, ?_⟩) hS ?_
    rotate_left
    · (intro wq hSw; go_simp; all_goals with_reducible rfl)
    try simp only [Act.put, List.setIfInBounds_toArray, List.set_cons_zero, List.set_cons_succ]
    refine wpAnyH_take (i := 12) (v := ?_) (by simp only [List.getElem?_toArray, List.getElem?_cons_zero, List.getElem?_cons_succ]; rfl) (by kernel_rfl) (by kernel_rfl) (by kernel_rfl) (fun _ _ _ h => h) (Or.inl ⟨by rfl, ?_⟩) hS ?_
    rotate_left
    · (intro wq hSw; go_simp; all_goals with_reducible rfl)
    try simp only [Act.put, List.setIfInBounds_toArray, List.set_cons_zero, List.set_cons_succ]
    refine wpAnyH_take (i := 13) (v := ?_) (by simp only [List.getElem?_toArray, List.getElem?_cons_zero, List.getElem?_cons_succ]; rfl) (by kernel_rfl) (by kernel_rfl) (by kernel_rfl) (fun _ _ _ h => h) (Or.inl ⟨by rfl, ?_⟩) hS ?_
    rotate_left
    · (intro wq hSw; go_simp; all_goals with_reducible rfl)
    try simp only [Act.put, List.setIfInBounds_toArray, List.set_cons_zero, List.set_cons_succ]
    refine wpAnyH_take (i := 14) (v := ?_) (by simp only [List.getElem?_toArray, List.getElem?_cons_zero, List.getElem?_cons_succ]; rfl) (by kernel_rfl) (by kernel_rfl) (by kernel_rfl) (fun _ _ _ h => h) (Or.inl ⟨by rfl, ?_⟩) hS ?_
    rotate_left
    · (intro wq hSw; go_simp; all_goals with_reducible rfl)
    try simp only [Act.put, List.setIfInBounds_toArray, List.set_cons_zero, List.set_cons_succ]
    refine wpAnyH_take (i := 15) (v := ?_) (by simp only [List.getElem?_toArray, List.getElem?_cons_zero, List.getElem?_cons_succ]; rfl) (by kernel_rfl) (by kernel_rfl) (by kernel_rfl) (fun _ _ _ h => h) (Or.inl ⟨by rfl, ?_⟩) hS ?_
    rotate_left
    · (intro wq hSw; have q_a := hSw.blk.cell (j := 4) rfl; go_simp; all_goals with_reducible rfl)
    try simp only [Act.put, List.setIfInBounds_toArray, List.set_cons_zero, List.set_cons_succ]
    refine wpAnyH_ready (rs := [10, 17]) (by kernel_rfl) (by simp) ?_
    refine AllReadyH.cons (by simp only [List.getElem?_toArray, List.getElem?_cons_zero, List.getElem?_cons_succ]; rfl) (fun K hK => ?_) (AllReadyH.cons (by simp only [List.getElem?_toArray, List.getElem?_cons_zero, List.getElem?_cons_succ]; rfl) (fun K hK => ?_) (AllReadyH.nil))
    · go_simp
      go_at_call 101
      refine (HA.out _).mono ?_
      rintro r wz ⟨rfl, hwz⟩
      replace hwz := hwz.symm; subst hwz
      go_wp2_with fail
      refine hK.out _ _ hS (fun _ => ?_)
      clear hK K
      try simp only [Act.put, List.setIfInBounds_toArray, List.set_cons_zero, List.set_cons_succ]
      refine wpAnyH_take (i := 16) (v := ?_) (by simp only [List.getElem?_toArray, List.getElem?_cons_zero, List.getElem?_cons_succ]; rfl) (by kernel_rfl) (by kernel_rfl) (by kernel_rfl) (fun _ _ _ h => h) (Or.inl ⟨by rfl, ?_⟩) hS ?_
      rotate_left
      · (intro wq hSw; go_simp; all_goals with_reducible rfl)
      try simp only [Act.put, List.setIfInBounds_toArray, List.set_cons_zero, List.set_cons_succ]
      refine wpAnyH_ready (rs := [17]) (by kernel_rfl) (by simp) ?_
      refine AllReadyH.cons (by simp only [List.getElem?_toArray, List.getElem?_cons_zero, List.getElem?_cons_succ]; rfl) (fun K hK => ?_) (AllReadyH.nil)
      rw [if_pos (by rfl)]
      have hlt := AlS.lt hS
      have hS_10_17 := AlS.keep hS ((Mod.refl none_ _).alloc (.cells #[.int .i64 0, .int .i64 0] 23))
      have hbk := Blk.new w.drew [.int .i64 0, .int .i64 0] 23
      go_simp
      refine hK.out _ _ hS_10_17 (fun _ => ?_)
      clear hK K
      try simp only [Act.put, List.setIfInBounds_toArray, List.set_cons_zero, List.set_cons_succ]
      refine wpAnyH_ready (rs := [18]) (by kernel_rfl) (by simp) ?_
      refine AllReadyH.cons (by simp only [List.getElem?_toArray, List.getElem?_cons_zero, List.getElem?_cons_succ]; rfl) (fun K hK => ?_) (AllReadyH.nil)
      rw [if_pos (by rfl)]
      refine wp_store_blk 23 (.tmp 3) (.tmp 23) rfl w.drew.heap.size [.int .i64 RX, .int .i64 d.c.ay] rfl rfl 23 _ hbk size_vec2 rfl (one_vec2 _ _) ?_
      intro w_10_17_18 hbk2 hM_10_17_18 _
      have hSS := AlS.store hS_10_17 hM_10_17_18 hlt
      refine hK.out _ _ hSS (fun _ => ?_)
      clear hK K
      try simp only [Act.put]
      refine wpAnyH_done (by kernel_rfl) ?_ _
      refine NoPanic.normal ?_
      go_wp2
      go_meet
      exact ⟨_, rfl, hSS, hbk2⟩
    · rw [if_pos (by rfl)]
      have hlt := AlS.lt hS
      have hS_17 := AlS.keep hS ((Mod.refl none_ _).alloc (.cells #[.int .i64 0, .int .i64 0] 23))
      have hbk := Blk.new w.drew [.int .i64 0, .int .i64 0] 23
      go_simp
      refine hK.out _ _ hS_17 (fun _ => ?_)
      clear hK K
      try simp only [Act.put, List.setIfInBounds_toArray, List.set_cons_zero, List.set_cons_succ]
      refine wpAnyH_ready (rs := [10]) (by kernel_rfl) (by simp) ?_
      refine AllReadyH.cons (by simp only [List.getElem?_toArray, List.getElem?_cons_zero, List.getElem?_cons_succ]; rfl) (fun K hK => ?_) (AllReadyH.nil)
      go_simp
      go_at_call 101
      refine (HA.out _).mono ?_
      rintro r wz ⟨rfl, hwz⟩
      replace hwz := hwz.symm; subst hwz
      go_wp2_with fail
      refine hK.out _ _ hS_17 (fun _ => ?_)
      clear hK K
      try simp only [Act.put, List.setIfInBounds_toArray, List.set_cons_zero, List.set_cons_succ]
      refine wpAnyH_take (i := 16) (v := ?_) (by simp only [List.getElem?_toArray, List.getElem?_cons_zero, List.getElem?_cons_succ]; rfl) (by kernel_rfl) (by kernel_rfl) (by kernel_rfl) (fun _ _ _ h => h) (Or.inl ⟨by rfl, ?_⟩) hS_17 ?_
      rotate_left
      · (intro wq hSw; go_simp; all_goals with_reducible rfl)
      try simp only [Act.put, List.setIfInBounds_toArray, List.set_cons_zero, List.set_cons_succ]
      refine wpAnyH_ready (rs := [18]) (by kernel_rfl) (by simp) ?_
      refine AllReadyH.cons (by simp only [List.getElem?_toArray, List.getElem?_cons_zero, List.getElem?_cons_succ]; rfl) (fun K hK => ?_) (AllReadyH.nil)
      rw [if_pos (by rfl)]
      refine wp_store_blk 23 (.tmp 3) (.tmp 23) rfl w.drew.heap.size [.int .i64 RX, .int .i64 d.c.ay] rfl rfl 23 _ hbk size_vec2 rfl (one_vec2 _ _) ?_
      intro w_17_10_18 hbk2 hM_17_10_18 _
      have hSS := AlS.store hS_17 hM_17_10_18 hlt
      refine hK.out _ _ hSS (fun _ => ?_)
      clear hK K
      try simp only [Act.put]
      refine wpAnyH_done (by kernel_rfl) ?_ _
      refine NoPanic.normal ?_
      go_wp2
      go_meet
      exact ⟨_, rfl, hSS, hbk2⟩
  case rest =>
    obtain ⟨T, rfl, hT⟩ := hcut
    obtain ⟨w1, rfl⟩ : ∃ q, q = wc := ⟨_, rfl⟩
    have HT := Lib.hid hT
    clear hT hS
    go_upto_region 2 with fail
    have hS : AlT D b T d RX d.c.ay w w1.drew := HT.out.keep (Mod.refl _ _).drew
    refine wp_region_noPanic ?_
    refine wp_region_held_drew (S := AlT D b T d RX d.c.ay w) (by kernel_rfl) hS (fun hHeld => ?_)
    clear hHeld
    refine wpAnyH_take (i := 0) (v := ?_) (by simp only [List.getElem?_toArray, List.getElem?_cons_zero]; rfl) (by kernel_rfl) (by kernel_rfl) (by kernel_rfl) (fun _ _ _ h => h) (Or.inl ⟨by rfl, ?_⟩) hS ?_
    rotate_left
    · (intro wq hSw; go_simp; all_goals with_reducible rfl)
    try simp only [Act.put, List.setIfInBounds_toArray, List.set_cons_zero, List.set_cons_succ]
    refine wpAnyH_take (i := 1) (v := ?_) (by simp only [List.getElem?_toArray, List.getElem?_cons_zero, List.getElem?_cons_succ]; rfl) (by kernel_rfl) (by kernel_rfl) (by kernel_rfl) (fun _ _ _ h => h) (Or.inl ⟨by rfl, ?_⟩) hS ?_
    rotate_left
    · (intro wq hSw; go_simp; all_goals with_reducible rfl)
    try simp only [Act.put, List.setIfInBounds_toArray, List.set_cons_zero, List.set_cons_succ]
    refine wpAnyH_take (i := 2) (v := ?_) (by simp only [List.getElem?_toArray, List.getElem?_cons_zero, List.getElem?_cons_succ]; rfl) (by kernel_rfl) (by kernel_rfl) (by kernel_rfl) (fun _ _ _ h => h) (Or.inl ⟨by rfl, ?_⟩) hS ?_
    rotate_left
    · (intro wq hSw; go_simp; all_goals with_reducible rfl)
    try simp only [Act.put, List.setIfInBounds_toArray, List.set_cons_zero, List.set_cons_succ]
    refine wpAnyH_take (i := 3) (v := ?_) (by simp only [List.getElem?_toArray, List.getElem?_cons_zero, List.getElem?_cons_succ]; rfl) (by kernel_rfl) (by kernel_rfl) (by kernel_rfl) (fun _ _ _ h => h) (Or.inl ⟨by rfl, ?_⟩) hS ?_
    rotate_left
    · (intro wq hSw; have q_a := hSw.s.blk.cell (j := 0) rfl; go_simp; all_goals with_reducible rfl)
    try simp only [Act.put, List.setIfInBounds_toArray, List.set_cons_zero, List.set_cons_succ]
    refine wpAnyH_take (i := 4) (v := _) (by simp only [List.getElem?_toArray, List.getElem?_cons_zero, List.getElem?_cons_succ]; rfl) (by kernel_rfl) (by kernel_rfl) (by kernel_rfl) (fun _ _ _ h => h) (yieldsIf_load_mid (by rfl) 23 (.tmp 3) rfl T 0 rfl [.int .i64 RX, .int .i64 d.c.ay] _ (fun _ h => blk_mid h.t 0 _ (fun j v hj => by rw [Nat.zero_add]; exact hj)) Tryd.underlying23 rfl size_vec2) hS ?_
    try simp only [Act.put, List.setIfInBounds_toArray, List.set_cons_zero, List.set_cons_succ]
    refine wpAnyH_ready (rs := [5]) (by kernel_rfl) (by simp) ?_
    refine AllReadyH.cons (by simp only [List.getElem?_toArray, List.getElem?_cons_zero, List.getElem?_cons_succ]; rfl) (fun K hK => ?_) AllReadyH.nil
    go_simp
    go_at_call 36
    refine (HBL.out _ hS.s.m).mono ?_
    rintro r w2 ⟨⟨tb, rfl, htb⟩, hM2⟩
    have HLAST := hS.keep hM2
    go_wp2_with fail
    refine hK.out _ _ (hS.keep hM2) (fun _ => ?_)
    clear hK K
    try simp only [Act.put, List.setIfInBounds_toArray, List.set_cons_zero, List.set_cons_succ]
    refine wpAnyH_done (by kernel_rfl) ?_ _
    refine NoPanic.normal ?_
    have HS := Lib.hid HLAST
    clear hS HLAST HT
    have q5 := HS.out.s.blk.cell (j := 5) rfl; have f5 := HS.out.s.blk.frozen 5; have q3 := HS.out.s.blk.cell (j := 3) rfl; have q4 := HS.out.s.blk.cell (j := 4) rfl; have f3 := HS.out.s.blk.frozen 3; have f4 := HS.out.s.blk.frozen 4
    have t0 := HS.out.t.cell (j := 0) rfl; have t1 := HS.out.t.cell (j := 1) rfl
    cases tb with
    | true =>
      have hb := htb.1 rfl
      have hdef := HDEF.out
      rw [if_pos hb] at hdef
      have hwv := HWV.out
      clear htb hb
      go_wp2_with fail
      go_end0
      rw [hdef]
      exact ⟨rfl, (HS.out.s.blk.set 5 _).cs rfl, (HS.out.s.m.mono (fun _ _ h => h.elim)).setCell (p := ⟨D, 5, none⟩) (fun _ => only_self D) _⟩
    | false =>
      have hb : ¬ Bd.Blocked W H E RX d.c.ay 98304 := fun h => by have := htb.2 h; cases this
      have hdef := HDEF.out
      rw [if_neg hb] at hdef
      clear htb hb
      go_wp2_with fail
      go_end0
      rw [hdef]
      exact ⟨rfl, ((HS.out.s.blk.set 3 _).set 4 _).cs rfl, ((HS.out.s.m.mono (fun _ _ h => h.elim)).setCell (p := ⟨D, 3, none⟩) (fun _ => only_self D) _).setCell (p := ⟨D, 4, none⟩) (fun _ => only_self D) _⟩
set_option maxHeartbeats 2000000 in
set_option maxRecDepth 100000 in
theorem dacross_any (w : World) {b W H : Nat} {E : List Int} (hB : BrdP w b W H E) (D : Nat) (d : Dr) (hx : Bd.I64 d.c.ax) (hy : Bd.I64 d.c.ay) (hv : Bd.I64 d.c.sy) (hD : Blk w D (d.cells b) 107) : Calls Tryd.prog 79 #[.pointer (some ⟨D, 0, none⟩)] w fun e w' => e = .returned (.tuple #[]) ∧ Blk w' D ((d.acrossed W H E).cells b) 107 ∧ Mod (only D) w w' := by
  have ha := fun q : World => fadd_any q d.c.ay d.c.sy hy hv
  have hrb : Bd.I64 (Vx.lim (d.c.ay + d.c.sy)) := by have := Vx.lim_in (d.c.ay + d.c.sy); unfold Bd.I64; omega
  have hdef : d.acrossed W H E = @ite _ (Bd.Blocked W H E d.c.ax (Vx.lim (d.c.ay + d.c.sy)) 98304) (Classical.propDecidable _) { d with c := { d.c with sy := -(d.c.sy / 2) } } { d with c := { d.c with ay := Vx.lim (d.c.ay + d.c.sy) } } := rfl
  generalize Vx.lim (d.c.ay + d.c.sy) = RY at *
  have hbl := fun (q : World) (hM : Mod none_ w q) => blocked_any q (hB.none hM) d.c.ax RY 98304 hx hrb (by unfold Bd.I64; omega)
  obtain ⟨NV, hNV⟩ : ∃ x, -(d.c.sy / 2) = x := ⟨_, rfl⟩
  rw [hNV] at hdef
  have hwv : wrap64 (-(d.c.sy / 2)) = NV := by rw [← hNV]; exact w64 (by unfold Bd.I64 at hv; omega)
  have HA := Lib.hid ha; have HBL := Lib.hid hbl; have HDEF := Lib.hid hdef; have HD := Lib.hid hD; have HWV := Lib.hid hwv
  clear ha hrb hdef hbl hNV hwv hx hy hv hB hD
  have hS : AlS D b d w w.drew := ⟨HD.out.drew, (Mod.refl _ _).drew⟩
  go_enter Tryd.func79, Tryd.ntmps79
  go_upto_region 1 with fail
  go_cut [3] (fun v wx => ∃ T, v = .pointer (some ⟨T, 0, none⟩) ∧ AlT D b T d d.c.ax RY w wx)
  case first =>
    refine wp_region_noPanic ?_
    refine wp_region_held_drew (S := AlS D b d w) (by kernel_rfl) hS (fun hHeld => ?_)
    clear hHeld
    refine wpAnyH_take (i := 0) (v := ?_) (by simp only [List.getElem?_toArray, List.getElem?_cons_zero]; rfl) (by kernel_rfl) (by kernel_rfl) (by kernel_rfl) (fun _ _ _ h => h) (Or.inl ⟨by rfl, ?_⟩) hS ?_
    rotate_left
    · (intro wq hSw; go_simp; all_goals with_reducible rfl)
    try simp only [Act.put, List.setIfInBounds_toArray, List.set_cons_zero, List.set_cons_succ]
    refine wpAnyH_take (i := 1) (v := ?_) (by simp only [List.getElem?_toArray, List.getElem?_cons_zero, List.getElem?_cons_succ]; rfl) (by kernel_rfl) (by kernel_rfl) (by kernel_rfl) (fun _ _ _ h => h) (Or.inl ⟨by rfl, ?_⟩) hS ?_
    rotate_left
    · (intro wq hSw; go_simp; all_goals with_reducible rfl)
    try simp only [Act.put, List.setIfInBounds_toArray, List.set_cons_zero, List.set_cons_succ]
    refine wpAnyH_take (i := 2) (v := ?_) (by simp only [List.getElem?_toArray, List.getElem?_cons_zero, List.getElem?_cons_succ]; rfl) (by kernel_rfl) (by kernel_rfl) (by kernel_rfl) (fun _ _ _ h => h) (Or.inl ⟨by rfl, ?_⟩) hS ?_
    rotate_left
    · (intro wq hSw; go_simp; all_goals with_reducible rfl)
    try simp only [Act.put, List.setIfInBounds_toArray, List.set_cons_zero, List.set_cons_succ]
    refine wpAnyH_take (i := 3) (v := ?_) (by simp only [List.getElem?_toArray, List.getElem?_cons_zero, List.getElem?_cons_succ]; rfl) (by kernel_rfl) (by kernel_rfl) (by kernel_rfl) (fun _ _ _ h => h) (Or.inl ⟨by rfl, ?_⟩) hS ?_
    rotate_left
    · (intro wq hSw; go_simp; all_goals with_reducible rfl)
    try simp only [Act.put, List.setIfInBounds_toArray, List.set_cons_zero, List.set_cons_succ]
    refine wpAnyH_take (i := 4) (v := ?_) (by simp only [List.getElem?_toArray, List.getElem?_cons_zero, List.getElem?_cons_succ]; rfl) (by kernel_rfl) (by kernel_rfl) (by kernel_rfl) (fun _ _ _ h => h) (Or.inl ⟨by rfl, ?_⟩) hS ?_
    rotate_left
    · (intro wq hSw; have q_a := hSw.blk.cell (j := 3) rfl; go_simp; all_goals with_reducible rfl)
    try simp only [Act.put, List.setIfInBounds_toArray, List.set_cons_zero, List.set_cons_succ]
    refine wpAnyH_take (i := 5) (v := ?_) (by simp only [List.getElem?_toArray, List.getElem?_cons_zero, List.getElem?_cons_succ]; rfl) (by kernel_rfl) (by kernel_rfl) (by kernel_rfl) (fun _ _ _ h => h) (Or.inl ⟨by rfl, ?_⟩) hS ?_
    rotate_left
    · (intro wq hSw; go_simp; all_goals with_reducible rfl)
    try simp only [Act.put, List.setIfInBounds_toArray, List.set_cons_zero, List.set_cons_succ]
    refine wpAnyH_take (i := 6) (v := ?_) (by simp only [List.getElem?_toArray, List.getElem?_cons_zero, List.getElem?_cons_succ]; rfl) (by kernel_rfl) (by kernel_rfl) (by kernel_rfl) (fun _ _ _ h => h) (Or.inl ⟨by rfl, ?_⟩) hS ?_
    rotate_left
    · (intro wq hSw; go_simp; all_goals with_reducible rfl)
    try simp only [Act.put, List.setIfInBounds_toArray, List.set_cons_zero, List.set_cons_succ]
    refine wpAnyH_take (i := 7) (v := ?_) (by simp only [List.getElem?_toArray, List.getElem?_cons_zero, List.getElem?_cons_succ]; rfl) (by kernel_rfl) (by kernel_rfl) (by kernel_rfl) (fun _ _ _ h => h) (Or.inl ⟨by rfl, ?_⟩) hS ?_
    rotate_left
    · (intro wq hSw; go_simp; all_goals with_reducible rfl)
    try simp only [Act.put, List.setIfInBounds_toArray, List.set_cons_zero, List.set_cons_succ]
    refine wpAnyH_take (i := 8) (v := ?_) (by simp only [List.getElem?_toArray, List.getElem?_cons_zero, List.getElem?_cons_succ]; rfl) (by kernel_rfl) (by kernel_rfl) (by kernel_rfl) (fun _ _ _ h => h) (Or.inl ⟨by rfl, ?_⟩) hS ?_
    rotate_left
    · (intro wq hSw; go_simp; all_goals with_reducible rfl)
    try simp only [Act.put, List.setIfInBounds_toArray, List.set_cons_zero, List.set_cons_succ]
    refine wpAnyH_take (i := 9) (v := ?_) (by simp only [List.getElem?_toArray, List.getElem?_cons_zero, List.getElem?_cons_succ]; rfl) (by kernel_rfl) (by kernel_rfl) (by kernel_rfl) (fun _ _ _ h => h) (Or.inl ⟨by rfl, ?_⟩) hS ?_
    rotate_left
    · (intro wq hSw; have q_a := hSw.blk.cell (j := 4) rfl; go_simp; all_goals with_reducible rfl)
    try simp only [Act.put, List.setIfInBounds_toArray, List.set_cons_zero, List.set_cons_succ]
    refine wpAnyH_take (i := 10) (v := ?_) (by simp only [List.getElem?_toArray, List.getElem?_cons_zero, List.getElem?_cons_succ]; rfl) (by kernel_rfl) (by kernel_rfl) (by kernel_rfl) (fun _ _ _ h => h) (Or.inl ⟨by rfl, ?_⟩) hS ?_
    rotate_left
    · (intro wq hSw; go_simp; all_goals with_reducible rfl)
    try simp only [Act.put, List.setIfInBounds_toArray, List.set_cons_zero, List.set_cons_succ]
    refine wpAnyH_take (i := 11) (v := ?_) (by simp only [List.getElem?_toArray, List.getElem?_cons_zero, List.getElem?_cons_succ]; rfl) (by kernel_rfl) (by kernel_rfl) (by kernel_rfl) (fun _ _ _ h => h) (Or.inl ⟨by rfl, ?_⟩) hS ?_
    rotate_left
    · (intro wq hSw; go_simp; all_goals with_reducible rfl)
    try simp only [Act.put, List.setIfInBounds_toArray, List.set_cons_zero, List.set_cons_succ]
    refine wpAnyH_take (i := 12) (v := ?_) (by simp only [List.getElem?_toArray, List.getElem?_cons_zero, List.getElem?_cons_succ]; rfl) (by kernel_rfl) (by kernel_rfl) (by kernel_rfl) (fun _ _ _ h => h) (Or.inl ⟨by rfl, ?_⟩) hS ?_
    rotate_left
    · (intro wq hSw; go_simp; all_goals with_reducible rfl)
    try simp only [Act.put, List.setIfInBounds_toArray, List.set_cons_zero, List.set_cons_succ]
    refine wpAnyH_take (i := 13) (v := ?_) (by simp only [List.getElem?_toArray, List.getElem?_cons_zero, List.getElem?_cons_succ]; rfl) (by kernel_rfl) (by kernel_rfl) (by kernel_rfl) (fun _ _ _ h => h) (Or.inl ⟨by rfl, ?_⟩) hS ?_
    rotate_left
    · (intro wq hSw; go_simp; all_goals with_reducible rfl)
    try simp only [Act.put, List.setIfInBounds_toArray, List.set_cons_zero, List.set_cons_succ]
    refine wpAnyH_take (i := 14) (v := ?_) (by simp only [List.getElem?_toArray, List.getElem?_cons_zero, List.getElem?_cons_succ]; rfl) (by kernel_rfl) (by kernel_rfl) (by kernel_rfl) (fun _ _ _ h => h) (Or.inl ⟨by rfl, ?_⟩) hS ?_
    rotate_left
    · (intro wq hSw; have q_a := hSw.blk.cell (j := 6) rfl; go_simp; all_goals with_reducible rfl)
    try simp only [Act.put, List.setIfInBounds_toArray, List.set_cons_zero, List.set_cons_succ]
    refine wpAnyH_ready (rs := [15, 17]) (by kernel_rfl) (by simp) ?_
    refine AllReadyH.cons (by simp only [List.getElem?_toArray, List.getElem?_cons_zero, List.getElem?_cons_succ]; rfl) (fun K hK => ?_) (AllReadyH.cons (by simp only [List.getElem?_toArray, List.getElem?_cons_zero, List.getElem?_cons_succ]; rfl) (fun K hK => ?_) (AllReadyH.nil))
    · go_simp
      go_at_call 101
      refine (HA.out _).mono ?_
      rintro r wz ⟨rfl, hwz⟩
      replace hwz := hwz.symm; subst hwz
      go_wp2_with fail
      refine hK.out _ _ hS (fun _ => ?_)
      clear hK K
      try simp only [Act.put, List.setIfInBounds_toArray, List.set_cons_zero, List.set_cons_succ]
      refine wpAnyH_take (i := 16) (v := ?_) (by simp only [List.getElem?_toArray, List.getElem?_cons_zero, List.getElem?_cons_succ]; rfl) (by kernel_rfl) (by kernel_rfl) (by kernel_rfl) (fun _ _ _ h => h) (Or.inl ⟨by rfl, ?_⟩) hS ?_
      rotate_left
      · (intro wq hSw; go_simp; all_goals with_reducible rfl)
      try simp only [Act.put, List.setIfInBounds_toArray, List.set_cons_zero, List.set_cons_succ]
      refine wpAnyH_ready (rs := [17]) (by kernel_rfl) (by simp) ?_
      refine AllReadyH.cons (by simp only [List.getElem?_toArray, List.getElem?_cons_zero, List.getElem?_cons_succ]; rfl) (fun K hK => ?_) (AllReadyH.nil)
      rw [if_pos (by rfl)]
      have hlt := AlS.lt hS
      have hS_15_17 := AlS.keep hS ((Mod.refl none_ _).alloc (.cells #[.int .i64 0, .int .i64 0] 23))
      have hbk := Blk.new w.drew [.int .i64 0, .int .i64 0] 23
      go_simp
      refine hK.out _ _ hS_15_17 (fun _ => ?_)
      clear hK K
      try simp only [Act.put, List.setIfInBounds_toArray, List.set_cons_zero, List.set_cons_succ]
      refine wpAnyH_ready (rs := [18]) (by kernel_rfl) (by simp) ?_
      refine AllReadyH.cons (by simp only [List.getElem?_toArray, List.getElem?_cons_zero, List.getElem?_cons_succ]; rfl) (fun K hK => ?_) (AllReadyH.nil)
      rw [if_pos (by rfl)]
      refine wp_store_blk 23 (.tmp 3) (.tmp 23) rfl w.drew.heap.size [.int .i64 d.c.ax, .int .i64 RY] rfl rfl 23 _ hbk size_vec2 rfl (one_vec2 _ _) ?_
      intro w_15_17_18 hbk2 hM_15_17_18 _
      have hSS := AlS.store hS_15_17 hM_15_17_18 hlt
      refine hK.out _ _ hSS (fun _ => ?_)
      clear hK K
      try simp only [Act.put]
      refine wpAnyH_done (by kernel_rfl) ?_ _
      refine NoPanic.normal ?_
      go_wp2
      go_meet
      exact ⟨_, rfl, hSS, hbk2⟩
    · rw [if_pos (by rfl)]
      have hlt := AlS.lt hS
      have hS_17 := AlS.keep hS ((Mod.refl none_ _).alloc (.cells #[.int .i64 0, .int .i64 0] 23))
      have hbk := Blk.new w.drew [.int .i64 0, .int .i64 0] 23
      go_simp
      refine hK.out _ _ hS_17 (fun _ => ?_)
      clear hK K
      try simp only [Act.put, List.setIfInBounds_toArray, List.set_cons_zero, List.set_cons_succ]
      refine wpAnyH_ready (rs := [15]) (by kernel_rfl) (by simp) ?_
      refine AllReadyH.cons (by simp only [List.getElem?_toArray, List.getElem?_cons_zero, List.getElem?_cons_succ]; rfl) (fun K hK => ?_) (AllReadyH.nil)
      go_simp
      go_at_call 101
      refine (HA.out _).mono ?_
      rintro r wz ⟨rfl, hwz⟩
      replace hwz := hwz.symm; subst hwz
      go_wp2_with fail
      refine hK.out _ _ hS_17 (fun _ => ?_)
      clear hK K
      try simp only [Act.put, List.setIfInBounds_toArray, List.set_cons_zero, List.set_cons_succ]
      refine wpAnyH_take (i := 16) (v := ?_) (by simp only [List.getElem?_toArray, List.getElem?_cons_zero, List.getElem?_cons_succ]; rfl) (by kernel_rfl) (by kernel_rfl) (by kernel_rfl) (fun _ _ _ h => h) (Or.inl ⟨by rfl, ?_⟩) hS_17 ?_
      rotate_left
      · (intro wq hSw; go_simp; all_goals with_reducible rfl)
      try simp only [Act.put, List.setIfInBounds_toArray, List.set_cons_zero, List.set_cons_succ]
      refine wpAnyH_ready (rs := [18]) (by kernel_rfl) (by simp) ?_
      refine AllReadyH.cons (by simp only [List.getElem?_toArray, List.getElem?_cons_zero, List.getElem?_cons_succ]; rfl) (fun K hK => ?_) (AllReadyH.nil)
      rw [if_pos (by rfl)]
      refine wp_store_blk 23 (.tmp 3) (.tmp 23) rfl w.drew.heap.size [.int .i64 d.c.ax, .int .i64 RY] rfl rfl 23 _ hbk size_vec2 rfl (one_vec2 _ _) ?_
      intro w_17_15_18 hbk2 hM_17_15_18 _
      have hSS := AlS.store hS_17 hM_17_15_18 hlt
      refine hK.out _ _ hSS (fun _ => ?_)
      clear hK K
      try simp only [Act.put]
      refine wpAnyH_done (by kernel_rfl) ?_ _
      refine NoPanic.normal ?_
      go_wp2
      go_meet
      exact ⟨_, rfl, hSS, hbk2⟩
  case rest =>
    obtain ⟨T, rfl, hT⟩ := hcut
    obtain ⟨w1, rfl⟩ : ∃ q, q = wc := ⟨_, rfl⟩
    have HT := Lib.hid hT
    clear hT hS
    go_upto_region 2 with fail
    have hS : AlT D b T d d.c.ax RY w w1.drew := HT.out.keep (Mod.refl _ _).drew
    refine wp_region_noPanic ?_
    refine wp_region_held_drew (S := AlT D b T d d.c.ax RY w) (by kernel_rfl) hS (fun hHeld => ?_)
    clear hHeld
    refine wpAnyH_take (i := 0) (v := ?_) (by simp only [List.getElem?_toArray, List.getElem?_cons_zero]; rfl) (by kernel_rfl) (by kernel_rfl) (by kernel_rfl) (fun _ _ _ h => h) (Or.inl ⟨by rfl, ?_⟩) hS ?_
    rotate_left
    · (intro wq hSw; go_simp; all_goals with_reducible rfl)
    try simp only [Act.put, List.setIfInBounds_toArray, List.set_cons_zero, List.set_cons_succ]
    refine wpAnyH_take (i := 1) (v := ?_) (by simp only [List.getElem?_toArray, List.getElem?_cons_zero, List.getElem?_cons_succ]; rfl) (by kernel_rfl) (by kernel_rfl) (by kernel_rfl) (fun _ _ _ h => h) (Or.inl ⟨by rfl, ?_⟩) hS ?_
    rotate_left
    · (intro wq hSw; go_simp; all_goals with_reducible rfl)
    try simp only [Act.put, List.setIfInBounds_toArray, List.set_cons_zero, List.set_cons_succ]
    refine wpAnyH_take (i := 2) (v := ?_) (by simp only [List.getElem?_toArray, List.getElem?_cons_zero, List.getElem?_cons_succ]; rfl) (by kernel_rfl) (by kernel_rfl) (by kernel_rfl) (fun _ _ _ h => h) (Or.inl ⟨by rfl, ?_⟩) hS ?_
    rotate_left
    · (intro wq hSw; go_simp; all_goals with_reducible rfl)
    try simp only [Act.put, List.setIfInBounds_toArray, List.set_cons_zero, List.set_cons_succ]
    refine wpAnyH_take (i := 3) (v := ?_) (by simp only [List.getElem?_toArray, List.getElem?_cons_zero, List.getElem?_cons_succ]; rfl) (by kernel_rfl) (by kernel_rfl) (by kernel_rfl) (fun _ _ _ h => h) (Or.inl ⟨by rfl, ?_⟩) hS ?_
    rotate_left
    · (intro wq hSw; have q_a := hSw.s.blk.cell (j := 0) rfl; go_simp; all_goals with_reducible rfl)
    try simp only [Act.put, List.setIfInBounds_toArray, List.set_cons_zero, List.set_cons_succ]
    refine wpAnyH_take (i := 4) (v := _) (by simp only [List.getElem?_toArray, List.getElem?_cons_zero, List.getElem?_cons_succ]; rfl) (by kernel_rfl) (by kernel_rfl) (by kernel_rfl) (fun _ _ _ h => h) (yieldsIf_load_mid (by rfl) 23 (.tmp 3) rfl T 0 rfl [.int .i64 d.c.ax, .int .i64 RY] _ (fun _ h => blk_mid h.t 0 _ (fun j v hj => by rw [Nat.zero_add]; exact hj)) Tryd.underlying23 rfl size_vec2) hS ?_
    try simp only [Act.put, List.setIfInBounds_toArray, List.set_cons_zero, List.set_cons_succ]
    refine wpAnyH_ready (rs := [5]) (by kernel_rfl) (by simp) ?_
    refine AllReadyH.cons (by simp only [List.getElem?_toArray, List.getElem?_cons_zero, List.getElem?_cons_succ]; rfl) (fun K hK => ?_) AllReadyH.nil
    go_simp
    go_at_call 36
    refine (HBL.out _ hS.s.m).mono ?_
    rintro r w2 ⟨⟨tb, rfl, htb⟩, hM2⟩
    have HLAST := hS.keep hM2
    go_wp2_with fail
    refine hK.out _ _ (hS.keep hM2) (fun _ => ?_)
    clear hK K
    try simp only [Act.put, List.setIfInBounds_toArray, List.set_cons_zero, List.set_cons_succ]
    refine wpAnyH_done (by kernel_rfl) ?_ _
    refine NoPanic.normal ?_
    have HS := Lib.hid HLAST
    clear hS HLAST HT
    have q6 := HS.out.s.blk.cell (j := 6) rfl; have f6 := HS.out.s.blk.frozen 6; have q3 := HS.out.s.blk.cell (j := 3) rfl; have q4 := HS.out.s.blk.cell (j := 4) rfl; have f3 := HS.out.s.blk.frozen 3; have f4 := HS.out.s.blk.frozen 4
    have t0 := HS.out.t.cell (j := 0) rfl; have t1 := HS.out.t.cell (j := 1) rfl
    cases tb with
    | true =>
      have hb := htb.1 rfl
      have hdef := HDEF.out
      rw [if_pos hb] at hdef
      have hwv := HWV.out
      clear htb hb
      go_wp2_with fail
      go_end0
      rw [hdef]
      exact ⟨rfl, (HS.out.s.blk.set 6 _).cs rfl, (HS.out.s.m.mono (fun _ _ h => h.elim)).setCell (p := ⟨D, 6, none⟩) (fun _ => only_self D) _⟩
    | false =>
      have hb : ¬ Bd.Blocked W H E d.c.ax RY 98304 := fun h => by have := htb.2 h; cases this
      have hdef := HDEF.out
      rw [if_neg hb] at hdef
      clear htb hb
      go_wp2_with fail
      go_end0
      rw [hdef]
      exact ⟨rfl, ((HS.out.s.blk.set 3 _).set 4 _).cs rfl, ((HS.out.s.m.mono (fun _ _ h => h.elim)).setCell (p := ⟨D, 3, none⟩) (fun _ => only_self D) _).setCell (p := ⟨D, 4, none⟩) (fun _ => only_self D) _⟩
end Go.Proofs.YtinjlkceplhibaaDoor
