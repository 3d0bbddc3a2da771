/- vec: the walks of the functions of places. -/
import Derived.Test.YtinjlkceplhibaaDoorVxC
import Derived.Test.YtinjlkceplhibaaDoorBdQ
namespace Go.Proofs.YtinjlkceplhibaaDoor
open Go.RowKit

theorem vunit_any (w : World) (hG : Sines w) (h : Int) : Calls Tryd.prog 25 #[.int .i64 h] w fun e w' => e = .returned (.agg #[.int .i64 (sinT (h + 64)), .int .i64 (sinT h)]) ∧ Mod none_ w w' := by
  have h1 := fun q (hq : Sines q) => fcos_any q hq h
  have h2 := fun q (hq : Sines q) => fsin_any q hq h
  generalize sinT (h + 64) = C at *
  generalize sinT h = S at *
  have H1 := Lib.hid h1; have H2 := Lib.hid h2; have HG := Lib.hid hG
  clear h1 h2 hG
  go_enter Tryd.func25, Tryd.ntmps25
  go_wp2_with (first | (go_at_call 59; refine (H1.out _ (HG.out.mod ((Mod.refl none_ w).alloc _))).mono ?_; rintro r wz ⟨rfl, rfl⟩) | (go_at_call 60; refine (H2.out _ (HG.out.mod ((Mod.refl none_ w).alloc _))).mono ?_; rintro r wz ⟨rfl, rfl⟩))
  exact bodyPost_ret (v := .agg #[.int .i64 C, .int .i64 S]) (by simp [results, Tryd.results25, go_sem]) rfl ⟨rfl, (Mod.refl none_ w).alloc _⟩
/-- two places as they lie in memory, and what has been done since -/
structure V2 (Z : Nat) (a b c d : Int) (w0 q : World) : Prop where
  a : q.cell? ⟨Z, 0, none⟩ = some (.int .i64 a)
  b : q.cell? ⟨Z, 1, none⟩ = some (.int .i64 b)
  c : q.cell? ⟨Z + 1, 0, none⟩ = some (.int .i64 c)
  d : q.cell? ⟨Z + 1, 1, none⟩ = some (.int .i64 d)
  m : Mod none_ w0 q
  z : w0.heap.size = Z
theorem V2.none {Z : Nat} {a b c d : Int} {w0 q q' : World} (s : V2 Z a b c d w0 q) (hM : Mod none_ q q') : V2 Z a b c d w0 q' :=
  ⟨hM.cellS s.a (fun h => h), hM.cellS s.b (fun h => h), hM.cellS s.c (fun h => h), hM.cellS s.d (fun h => h), s.m.then hM, s.z⟩
theorem V2.store {Z X : Nat} {a b c d : Int} {w0 q : World} (s : V2 Z a b c d w0 q) (hX : Z + 1 < X) (u v : Value) : V2 Z a b c d w0 ((q.setCell ⟨X, 0, Option.none⟩ u).setCell ⟨X, 1, Option.none⟩ v) := by
  have hM : Mod (only X) q ((q.setCell ⟨X, 0, Option.none⟩ u).setCell ⟨X, 1, Option.none⟩ v) := ((Mod.refl _ _).setCell (p := ⟨X, 0, Option.none⟩) (fun _ => only_self X) u).setCell (p := ⟨X, 1, Option.none⟩) (fun _ => only_self X) v
  have hz := s.z
  exact ⟨hM.cellS s.a (not_only (by show Z ≠ X; omega)), hM.cellS s.b (not_only (by show Z ≠ X; omega)), hM.cellS s.c (not_only (by show Z + 1 ≠ X; omega)), hM.cellS s.d (not_only (by show Z + 1 ≠ X; omega)), s.m.trans hM (fun j hj e => by have : j = X := e; omega), hz⟩
theorem v2_new (w : World) (a b c d : Int) : ∃ w1, ((w.alloc (.cells #[.int .i64 a, .int .i64 b] 23)).alloc (.cells #[.int .i64 c, .int .i64 d] 23)).alloc (.cells #[.int .i64 0, .int .i64 0] 23) = w1 ∧ V2 w.heap.size a b c d w w1 ∧ Blk w1 (w.heap.size + 1 + 1) [.int .i64 0, .int .i64 0] 23 := by
  have hB0 : Blk (((w.alloc (.cells #[.int .i64 a, .int .i64 b] 23)).alloc (.cells #[.int .i64 c, .int .i64 d] 23)).alloc (.cells #[.int .i64 0, .int .i64 0] 23)) w.heap.size [.int .i64 a, .int .i64 b] 23 := ((Blk.new w [.int .i64 a, .int .i64 b] _).alloc _).alloc _
  have hB1 : Blk (((w.alloc (.cells #[.int .i64 a, .int .i64 b] 23)).alloc (.cells #[.int .i64 c, .int .i64 d] 23)).alloc (.cells #[.int .i64 0, .int .i64 0] 23)) (w.heap.size + 1) [.int .i64 c, .int .i64 d] 23 := by
    have := (Blk.new (w.alloc (.cells #[.int .i64 a, .int .i64 b] 23)) [.int .i64 c, .int .i64 d] 23).alloc (.cells #[.int .i64 0, .int .i64 0] 23)
    simpa using this
  have hB2 : Blk (((w.alloc (.cells #[.int .i64 a, .int .i64 b] 23)).alloc (.cells #[.int .i64 c, .int .i64 d] 23)).alloc (.cells #[.int .i64 0, .int .i64 0] 23)) (w.heap.size + 1 + 1) [.int .i64 0, .int .i64 0] 23 := by
    have := Blk.new ((w.alloc (.cells #[.int .i64 a, .int .i64 b] 23)).alloc (.cells #[.int .i64 c, .int .i64 d] 23)) [.int .i64 0, .int .i64 0] 23
    simpa using this
  exact ⟨_, rfl, ⟨hB0.cell rfl, hB0.cell rfl, hB1.cell rfl, hB1.cell rfl, (((Mod.refl none_ w).alloc _).alloc _).alloc _, rfl⟩, hB2⟩
theorem vadd_any (w : World) (a b c d : Int) (ha : Bd.I64 a) (hb : Bd.I64 b) (hc : Bd.I64 c) (hd : Bd.I64 d) : Calls Tryd.prog 26 #[.agg #[.int .i64 a, .int .i64 b], .agg #[.int .i64 c, .int .i64 d]] w fun e w' => e = .returned (.agg #[.int .i64 (Vx.lim (a + c)), .int .i64 (Vx.lim (b + d))]) ∧ Mod none_ w w' := by
  have h1 := fun q : World => vsum_any q a c ha hc
  have h2 := fun q : World => vsum_any q b d hb hd
  have h3 := fun q : World => vbounded_any q (Vx.sat (a + c))
  have h4 := fun q : World => vbounded_any q (Vx.sat (b + d))
  simp only [Vx.sat_lim] at h3 h4
  generalize Vx.sat (a + c) = S1 at *
  generalize Vx.sat (b + d) = S2 at *
  generalize Vx.lim (a + c) = R1 at *
  generalize Vx.lim (b + d) = R2 at *
  have H1 := Lib.hid h1; have H2 := Lib.hid h2; have H3 := Lib.hid h3; have H4 := Lib.hid h4
  clear h1 h2 h3 h4
  go_enter Tryd.func26, Tryd.ntmps26
  go_upto_region 1 with fail
  obtain ⟨w1, hw1, hV, hB2⟩ := v2_new w a b c d
  obtain ⟨X, hX⟩ : ∃ X, w.heap.size + 1 + 1 = X := ⟨_, rfl⟩
  obtain ⟨Z, hZ⟩ : ∃ Z, w.heap.size = Z := ⟨_, rfl⟩
  rw [hw1]
  simp only [hX] at hB2 ⊢
  simp only [hZ] at hV hX ⊢
  have hZX : Z + 1 < X := by omega
  have q4 := hB2.cell (j := 0) rfl; have q5 := hB2.cell (j := 1) rfl
  have f4 := hB2.frozen 0; have f5 := hB2.frozen 1
  have HB2 := Lib.hid hB2; have HV := Lib.hid hV
  clear hB2 hV hw1 hZ hX
  have hS : V2 Z a b c d w w1.drew := HV.out.none (Mod.refl _ _).drew
  refine wp_region_noPanic ?_
  refine wp_region_held_drew (S := V2 Z a b c d w) (by kernel_rfl) hS (fun hHeld => ?_)
  clear hHeld
  refine wpAnyH_take (i := 0) (v := ?_) (by simp only [List.getElem?_toArray, List.getElem?_cons_zero]; rfl) (by kernel_rfl) (by kernel_rfl) (by kernel_rfl) (fun _ _ _ h => h) (Or.inl ⟨by rfl, ?_⟩) hS ?_
  rotate_left
  · (intro wq hSw; go_simp; all_goals with_reducible rfl)
  try simp only [Act.put, List.setIfInBounds_toArray, List.set_cons_zero, List.set_cons_succ]
  refine wpAnyH_take (i := 1) (v := ?_) (by simp only [List.getElem?_toArray, List.getElem?_cons_zero, List.getElem?_cons_succ]; rfl) (by kernel_rfl) (by kernel_rfl) (by kernel_rfl) (fun _ _ _ h => h) (Or.inl ⟨by rfl, ?_⟩) hS ?_
  rotate_left
  · (intro wq hSw; have q_a := hSw.a; have q_b := hSw.b; have q_c := hSw.c; have q_d := hSw.d; go_simp; all_goals with_reducible rfl)
  try simp only [Act.put, List.setIfInBounds_toArray, List.set_cons_zero, List.set_cons_succ]
  refine wpAnyH_take (i := 2) (v := ?_) (by simp only [List.getElem?_toArray, List.getElem?_cons_zero, List.getElem?_cons_succ]; rfl) (by kernel_rfl) (by kernel_rfl) (by kernel_rfl) (fun _ _ _ h => h) (Or.inl ⟨by rfl, ?_⟩) hS ?_
  rotate_left
  · (intro wq hSw; go_simp; all_goals with_reducible rfl)
  try simp only [Act.put, List.setIfInBounds_toArray, List.set_cons_zero, List.set_cons_succ]
  refine wpAnyH_take (i := 3) (v := ?_) (by simp only [List.getElem?_toArray, List.getElem?_cons_zero, List.getElem?_cons_succ]; rfl) (by kernel_rfl) (by kernel_rfl) (by kernel_rfl) (fun _ _ _ h => h) (Or.inl ⟨by rfl, ?_⟩) hS ?_
  rotate_left
  · (intro wq hSw; have q_a := hSw.a; have q_b := hSw.b; have q_c := hSw.c; have q_d := hSw.d; go_simp; all_goals with_reducible rfl)
  try simp only [Act.put, List.setIfInBounds_toArray, List.set_cons_zero, List.set_cons_succ]
  refine wpAnyH_take (i := 6) (v := ?_) (by simp only [List.getElem?_toArray, List.getElem?_cons_zero, List.getElem?_cons_succ]; rfl) (by kernel_rfl) (by kernel_rfl) (by kernel_rfl) (fun _ _ _ h => h) (Or.inl ⟨by rfl, ?_⟩) hS ?_
  rotate_left
  · (intro wq hSw; go_simp; all_goals with_reducible rfl)
  try simp only [Act.put, List.setIfInBounds_toArray, List.set_cons_zero, List.set_cons_succ]
  refine wpAnyH_take (i := 7) (v := ?_) (by simp only [List.getElem?_toArray, List.getElem?_cons_zero, List.getElem?_cons_succ]; rfl) (by kernel_rfl) (by kernel_rfl) (by kernel_rfl) (fun _ _ _ h => h) (Or.inl ⟨by rfl, ?_⟩) hS ?_
  rotate_left
  · (intro wq hSw; have q_a := hSw.a; have q_b := hSw.b; have q_c := hSw.c; have q_d := hSw.d; go_simp; all_goals with_reducible rfl)
  try simp only [Act.put, List.setIfInBounds_toArray, List.set_cons_zero, List.set_cons_succ]
  refine wpAnyH_take (i := 8) (v := ?_) (by simp only [List.getElem?_toArray, List.getElem?_cons_zero, List.getElem?_cons_succ]; rfl) (by kernel_rfl) (by kernel_rfl) (by kernel_rfl) (fun _ _ _ h => h) (Or.inl ⟨by rfl, ?_⟩) hS ?_
  rotate_left
  · (intro wq hSw; go_simp; all_goals with_reducible rfl)
  try simp only [Act.put, List.setIfInBounds_toArray, List.set_cons_zero, List.set_cons_succ]
  refine wpAnyH_take (i := 9) (v := ?_) (by simp only [List.getElem?_toArray, List.getElem?_cons_zero, List.getElem?_cons_succ]; rfl) (by kernel_rfl) (by kernel_rfl) (by kernel_rfl) (fun _ _ _ h => h) (Or.inl ⟨by rfl, ?_⟩) hS ?_
  rotate_left
  · (intro wq hSw; have q_a := hSw.a; have q_b := hSw.b; have q_c := hSw.c; have q_d := hSw.d; go_simp; all_goals with_reducible rfl)
  try simp only [Act.put, List.setIfInBounds_toArray, List.set_cons_zero, List.set_cons_succ]
  refine wpAnyH_ready (rs := [4]) (by kernel_rfl) (by simp) ?_
  refine AllReadyH.cons (by simp only [List.getElem?_toArray, List.getElem?_cons_zero, List.getElem?_cons_succ]; rfl) (fun K hK => ?_) AllReadyH.nil
  go_simp
  go_at_call 62
  refine (H1.out _).mono ?_
  rintro r wz ⟨rfl, rfl⟩
  go_wp2_with fail
  refine hK.out _ _ hS (fun _ => ?_)
  clear hK K
  try simp only [Act.put, List.setIfInBounds_toArray, List.set_cons_zero, List.set_cons_succ]
  refine wpAnyH_ready (rs := [5]) (by kernel_rfl) (by simp) ?_
  refine AllReadyH.cons (by simp only [List.getElem?_toArray, List.getElem?_cons_zero, List.getElem?_cons_succ]; rfl) (fun K hK => ?_) AllReadyH.nil
  go_simp
  go_at_call 61
  refine (H3.out _).mono ?_
  rintro r wz ⟨rfl, rfl⟩
  go_wp2_with fail
  refine hK.out _ _ hS (fun _ => ?_)
  clear hK K
  try simp only [Act.put, List.setIfInBounds_toArray, List.set_cons_zero, List.set_cons_succ]
  refine wpAnyH_ready (rs := [10]) (by kernel_rfl) (by simp) ?_
  refine AllReadyH.cons (by simp only [List.getElem?_toArray, List.getElem?_cons_zero, List.getElem?_cons_succ]; rfl) (fun K hK => ?_) AllReadyH.nil
  go_simp
  go_at_call 62
  refine (H2.out _).mono ?_
  rintro r wz ⟨rfl, rfl⟩
  go_wp2_with fail
  refine hK.out _ _ hS (fun _ => ?_)
  clear hK K
  try simp only [Act.put, List.setIfInBounds_toArray, List.set_cons_zero, List.set_cons_succ]
  refine wpAnyH_ready (rs := [11]) (by kernel_rfl) (by simp) ?_
  refine AllReadyH.cons (by simp only [List.getElem?_toArray, List.getElem?_cons_zero, List.getElem?_cons_succ]; rfl) (fun K hK => ?_) AllReadyH.nil
  go_simp
  go_at_call 61
  refine (H4.out _).mono ?_
  rintro r wz ⟨rfl, rfl⟩
  go_wp2_with fail
  refine hK.out _ _ hS (fun _ => ?_)
  clear hK K
  try simp only [Act.put, List.setIfInBounds_toArray, List.set_cons_zero, List.set_cons_succ]
  refine wpAnyH_take (i := 12) (v := ?_) (by simp only [List.getElem?_toArray, List.getElem?_cons_zero, List.getElem?_cons_succ]; rfl) (by kernel_rfl) (by kernel_rfl) (by kernel_rfl) (fun _ _ _ h => h) (Or.inl ⟨by rfl, ?_⟩) hS ?_
  rotate_left
  · (intro wq hSw; go_simp; all_goals with_reducible rfl)
  try simp only [Act.put, List.setIfInBounds_toArray, List.set_cons_zero, List.set_cons_succ]
  refine wpAnyH_ready (rs := [13]) (by kernel_rfl) (by simp) ?_
  refine AllReadyH.cons (by simp only [List.getElem?_toArray, List.getElem?_cons_zero, List.getElem?_cons_succ]; rfl) (fun K hK => ?_) AllReadyH.nil
  rw [if_pos (by rfl)]
  go_simp
  refine hK.out _ _ (hS.store hZX _ _) (fun _ => ?_)
  clear hK K
  try simp only [Act.put]
  refine wpAnyH_done (by kernel_rfl) ?_ _
  refine NoPanic.normal ?_
  have hB9 := ((HB2.out.set 0 (.int .i64 R1)).set 1 (.int .i64 R2)).cs (ds := [.int .i64 R1, .int .i64 R2]) rfl
  have hV9 := (HV.out.store hZX (.int .i64 R1) (.int .i64 R2)).m.drew
  generalize (w1.setCell ⟨X, 0, none⟩ (.int .i64 R1)).setCell ⟨X, 1, none⟩ (.int .i64 R2) = w9 at *
  have k0 := hB9.drew.cell (j := 0) rfl; have k1 := hB9.drew.cell (j := 1) rfl
  clear q4 q5 f4 f5 hB9
  go_wp2
  exact bodyPost_ret (v := .agg #[.int .i64 R1, .int .i64 R2]) (by simp [results, Tryd.results26, go_sem, k0, k1]) rfl ⟨rfl, hV9⟩
/-- one place as it lies in memory -/
structure V1 (Z : Nat) (a b : Int) (w0 q : World) : Prop where
  a : q.cell? ⟨Z, 0, none⟩ = some (.int .i64 a)
  b : q.cell? ⟨Z, 1, none⟩ = some (.int .i64 b)
  m : Mod none_ w0 q
  z : w0.heap.size = Z
theorem V1.none {Z : Nat} {a b : Int} {w0 q q' : World} (s : V1 Z a b w0 q) (hM : Mod none_ q q') : V1 Z a b w0 q' :=
  ⟨hM.cellS s.a (fun h => h), hM.cellS s.b (fun h => h), s.m.then hM, s.z⟩
theorem V1.store {Z X : Nat} {a b : Int} {w0 q : World} (s : V1 Z a b w0 q) (hX : Z < X) (u v : Value) : V1 Z a b w0 ((q.setCell ⟨X, 0, Option.none⟩ u).setCell ⟨X, 1, Option.none⟩ v) := by
  have hM : Mod (only X) q ((q.setCell ⟨X, 0, Option.none⟩ u).setCell ⟨X, 1, Option.none⟩ v) := ((Mod.refl _ _).setCell (p := ⟨X, 0, Option.none⟩) (fun _ => only_self X) u).setCell (p := ⟨X, 1, Option.none⟩) (fun _ => only_self X) v
  have hz := s.z
  exact ⟨hM.cellS s.a (not_only (by show Z ≠ X; omega)), hM.cellS s.b (not_only (by show Z ≠ X; omega)), s.m.trans hM (fun j hj e => by have : j = X := e; omega), hz⟩
theorem v1_new (w : World) (a b : Int) : ∃ w1, (w.alloc (.cells #[.int .i64 a, .int .i64 b] 23)).alloc (.cells #[.int .i64 0, .int .i64 0] 23) = w1 ∧ V1 w.heap.size a b w w1 ∧ Blk w1 (w.heap.size + 1) [.int .i64 0, .int .i64 0] 23 := by
  have hB0 : Blk ((w.alloc (.cells #[.int .i64 a, .int .i64 b] 23)).alloc (.cells #[.int .i64 0, .int .i64 0] 23)) w.heap.size [.int .i64 a, .int .i64 b] 23 := (Blk.new w [.int .i64 a, .int .i64 b] _).alloc _
  have hB2 : Blk ((w.alloc (.cells #[.int .i64 a, .int .i64 b] 23)).alloc (.cells #[.int .i64 0, .int .i64 0] 23)) (w.heap.size + 1) [.int .i64 0, .int .i64 0] 23 := by
    have := Blk.new (w.alloc (.cells #[.int .i64 a, .int .i64 b] 23)) [.int .i64 0, .int .i64 0] 23
    simpa using this
  exact ⟨_, rfl, ⟨hB0.cell rfl, hB0.cell rfl, ((Mod.refl none_ w).alloc _).alloc _, rfl⟩, hB2⟩
theorem within_keep (x : Int) {m : Int} (h : 0 ≤ m) : (if m < (if x < -m then -m else x) then m else (if x < -m then -m else x)) = Vx.keep x m := by
  unfold Vx.keep
  (repeat' split) <;> omega
theorem vscale_any (w : World) (a b k : Int) (ha : Bd.I64 a) (hb : Bd.I64 b) (hk : Bd.I64 k) : Calls Tryd.prog 99 #[.agg #[.int .i64 a, .int .i64 b], .int .i64 k] w fun e w' => e = .returned (.agg #[.int .i64 (Vx.mulV a k), .int .i64 (Vx.mulV b k)]) ∧ Mod none_ w w' := by
  have h1 := fun q : World => fmul_any q a k ha hk
  have h2 := fun q : World => fmul_any q b k hb hk
  generalize Vx.mulV a k = R1 at *
  generalize Vx.mulV b k = R2 at *
  have H1 := Lib.hid h1; have H2 := Lib.hid h2
  clear h1 h2 ha hb hk
  go_enter Tryd.func99, Tryd.ntmps99
  go_upto_region 1 with fail
  obtain ⟨w1, hw1, hV, hB2⟩ := v1_new w a b
  obtain ⟨X, hX⟩ : ∃ X, w.heap.size + 1 = X := ⟨_, rfl⟩
  obtain ⟨Z, hZ⟩ : ∃ Z, w.heap.size = Z := ⟨_, rfl⟩
  rw [hw1]
  simp only [hX] at hB2 ⊢
  simp only [hZ] at hV hX ⊢
  have hZX : Z < X := by omega
  have q4 := hB2.cell (j := 0) rfl; have q5 := hB2.cell (j := 1) rfl
  have f4 := hB2.frozen 0; have f5 := hB2.frozen 1
  have HB2 := Lib.hid hB2; have HV := Lib.hid hV
  clear hB2 hV hw1 hZ hX
  have hS : V1 Z a b w w1.drew := HV.out.none (Mod.refl _ _).drew
  refine wp_region_noPanic ?_
  refine wp_region_held_drew (S := V1 Z a b w) (by kernel_rfl) hS (fun hHeld => ?_)
  clear hHeld
  refine wpAnyH_take (i := 0) (v := ?_) (by simp only [List.getElem?_toArray, List.getElem?_cons_zero]; rfl) (by kernel_rfl) (by kernel_rfl) (by kernel_rfl) (fun _ _ _ h => h) (Or.inl ⟨by rfl, ?_⟩) hS ?_
  rotate_left
  · (intro wq hSw; go_simp; all_goals with_reducible rfl)
  try simp only [Act.put, List.setIfInBounds_toArray, List.set_cons_zero, List.set_cons_succ]
  refine wpAnyH_take (i := 1) (v := ?_) (by simp only [List.getElem?_toArray, List.getElem?_cons_zero, List.getElem?_cons_succ]; rfl) (by kernel_rfl) (by kernel_rfl) (by kernel_rfl) (fun _ _ _ h => h) (Or.inl ⟨by rfl, ?_⟩) hS ?_
  rotate_left
  · (intro wq hSw; have q_a := hSw.a; have q_b := hSw.b; go_simp; all_goals with_reducible rfl)
  try simp only [Act.put, List.setIfInBounds_toArray, List.set_cons_zero, List.set_cons_succ]
  refine wpAnyH_take (i := 2) (v := ?_) (by simp only [List.getElem?_toArray, List.getElem?_cons_zero, List.getElem?_cons_succ]; rfl) (by kernel_rfl) (by kernel_rfl) (by kernel_rfl) (fun _ _ _ h => h) (Or.inl ⟨by rfl, ?_⟩) hS ?_
  rotate_left
  · (intro wq hSw; go_simp; all_goals with_reducible rfl)
  try simp only [Act.put, List.setIfInBounds_toArray, List.set_cons_zero, List.set_cons_succ]
  refine wpAnyH_take (i := 4) (v := ?_) (by simp only [List.getElem?_toArray, List.getElem?_cons_zero, List.getElem?_cons_succ]; rfl) (by kernel_rfl) (by kernel_rfl) (by kernel_rfl) (fun _ _ _ h => h) (Or.inl ⟨by rfl, ?_⟩) hS ?_
  rotate_left
  · (intro wq hSw; go_simp; all_goals with_reducible rfl)
  try simp only [Act.put, List.setIfInBounds_toArray, List.set_cons_zero, List.set_cons_succ]
  refine wpAnyH_take (i := 5) (v := ?_) (by simp only [List.getElem?_toArray, List.getElem?_cons_zero, List.getElem?_cons_succ]; rfl) (by kernel_rfl) (by kernel_rfl) (by kernel_rfl) (fun _ _ _ h => h) (Or.inl ⟨by rfl, ?_⟩) hS ?_
  rotate_left
  · (intro wq hSw; have q_a := hSw.a; have q_b := hSw.b; go_simp; all_goals with_reducible rfl)
  try simp only [Act.put, List.setIfInBounds_toArray, List.set_cons_zero, List.set_cons_succ]
  refine wpAnyH_take (i := 6) (v := ?_) (by simp only [List.getElem?_toArray, List.getElem?_cons_zero, List.getElem?_cons_succ]; rfl) (by kernel_rfl) (by kernel_rfl) (by kernel_rfl) (fun _ _ _ h => h) (Or.inl ⟨by rfl, ?_⟩) hS ?_
  rotate_left
  · (intro wq hSw; go_simp; all_goals with_reducible rfl)
  try simp only [Act.put, List.setIfInBounds_toArray, List.set_cons_zero, List.set_cons_succ]
  refine wpAnyH_ready (rs := [3]) (by kernel_rfl) (by simp) ?_
  refine AllReadyH.cons (by simp only [List.getElem?_toArray, List.getElem?_cons_zero, List.getElem?_cons_succ]; rfl) (fun K hK => ?_) AllReadyH.nil
  go_simp
  go_at_call 111
  refine (H1.out _).mono ?_
  rintro r wz ⟨rfl, rfl⟩
  go_wp2_with fail
  refine hK.out _ _ hS (fun _ => ?_)
  clear hK K
  try simp only [Act.put, List.setIfInBounds_toArray, List.set_cons_zero, List.set_cons_succ]
  refine wpAnyH_ready (rs := [7]) (by kernel_rfl) (by simp) ?_
  refine AllReadyH.cons (by simp only [List.getElem?_toArray, List.getElem?_cons_zero, List.getElem?_cons_succ]; rfl) (fun K hK => ?_) AllReadyH.nil
  go_simp
  go_at_call 111
  refine (H2.out _).mono ?_
  rintro r wz ⟨rfl, rfl⟩
  go_wp2_with fail
  refine hK.out _ _ hS (fun _ => ?_)
  clear hK K
  try simp only [Act.put, List.setIfInBounds_toArray, List.set_cons_zero, List.set_cons_succ]
  refine wpAnyH_take (i := 8) (v := ?_) (by simp only [List.getElem?_toArray, List.getElem?_cons_zero, List.getElem?_cons_succ]; rfl) (by kernel_rfl) (by kernel_rfl) (by kernel_rfl) (fun _ _ _ h => h) (Or.inl ⟨by rfl, ?_⟩) hS ?_
  rotate_left
  · (intro wq hSw; go_simp; all_goals with_reducible rfl)
  try simp only [Act.put, List.setIfInBounds_toArray, List.set_cons_zero, List.set_cons_succ]
  refine wpAnyH_ready (rs := [9]) (by kernel_rfl) (by simp) ?_
  refine AllReadyH.cons (by simp only [List.getElem?_toArray, List.getElem?_cons_zero, List.getElem?_cons_succ]; rfl) (fun K hK => ?_) AllReadyH.nil
  rw [if_pos (by rfl)]
  go_simp
  refine hK.out _ _ (hS.store hZX _ _) (fun _ => ?_)
  clear hK K
  try simp only [Act.put]
  refine wpAnyH_done (by kernel_rfl) ?_ _
  refine NoPanic.normal ?_
  have hB9 := ((HB2.out.set 0 (.int .i64 R1)).set 1 (.int .i64 R2)).cs (ds := [.int .i64 R1, .int .i64 R2]) rfl
  have hV9 := (HV.out.store hZX (.int .i64 R1) (.int .i64 R2)).m.drew
  generalize (w1.setCell ⟨X, 0, none⟩ (.int .i64 R1)).setCell ⟨X, 1, none⟩ (.int .i64 R2) = w9 at *
  have k0 := hB9.drew.cell (j := 0) rfl; have k1 := hB9.drew.cell (j := 1) rfl
  clear q4 q5 f4 f5 hB9
  go_wp2
  exact bodyPost_ret (v := .agg #[.int .i64 R1, .int .i64 R2]) (by simp [results, Tryd.results99, go_sem, k0, k1]) rfl ⟨rfl, hV9⟩
theorem vcap_any (w : World) (a b k : Int) : Calls Tryd.prog 100 #[.agg #[.int .i64 a, .int .i64 b], .int .i64 k] w fun e w' => e = .returned (.agg #[.int .i64 (Vx.keep a (Vx.capM k)), .int .i64 (Vx.keep b (Vx.capM k))]) ∧ Mod none_ w w' := by
  have hm := Vx.capM_bd k
  have hc : (if 1099511627776 < (if k < 0 then 0 else k) then 1099511627776 else (if k < 0 then 0 else k)) = Vx.capM k := by
    unfold Vx.capM
    (repeat' split) <;> omega
  have h0 := fun q : World => within_any q k 0 1099511627776
  simp only [hc] at h0
  generalize Vx.capM k = m at *
  have h1 := fun q : World => within_any q a (-m) m
  have h2 := fun q : World => within_any q b (-m) m
  simp only [within_keep _ hm.1] at h1 h2
  generalize Vx.keep a m = R1 at *
  generalize Vx.keep b m = R2 at *
  have en : IntKind.i64.wrap (-m) = -m := wrap_in _ (by unfold Bd.I64; omega)
  have H0 := Lib.hid h0; have H1 := Lib.hid h1; have H2 := Lib.hid h2
  clear h0 h1 h2 hc
  go_enter Tryd.func100, Tryd.ntmps100
  go_upto_region 1 with fail
  obtain ⟨w1, hw1, hV, hB2⟩ := v1_new w a b
  obtain ⟨X, hX⟩ : ∃ X, w.heap.size + 1 = X := ⟨_, rfl⟩
  obtain ⟨Z, hZ⟩ : ∃ Z, w.heap.size = Z := ⟨_, rfl⟩
  rw [hw1]
  simp only [hX] at hB2 ⊢
  simp only [hZ] at hV hX ⊢
  have hZX : Z < X := by omega
  have q4 := hB2.cell (j := 0) rfl; have q5 := hB2.cell (j := 1) rfl
  have f4 := hB2.frozen 0; have f5 := hB2.frozen 1
  have HB2 := Lib.hid hB2; have HV := Lib.hid hV
  clear hB2 hV hw1 hZ hX
  go_upto_region 2 with (go_at_call 90; refine (H0.out _).mono ?_; rintro r wz ⟨rfl, hwz⟩; replace hwz := hwz.symm; subst hwz)
  have hS : V1 Z a b w w1.drew := HV.out.none (Mod.refl _ _).drew
  refine wp_region_noPanic ?_
  refine wp_region_held_drew (S := V1 Z a b w) (by kernel_rfl) hS (fun hHeld => ?_)
  clear hHeld
  refine wpAnyH_take (i := 0) (v := ?_) (by simp only [List.getElem?_toArray, List.getElem?_cons_zero]; rfl) (by kernel_rfl) (by kernel_rfl) (by kernel_rfl) (fun _ _ _ h => h) (Or.inl ⟨by rfl, ?_⟩) hS ?_
  rotate_left
  · (intro wq hSw; go_simp; all_goals with_reducible rfl)
  try simp only [Act.put, List.setIfInBounds_toArray, List.set_cons_zero, List.set_cons_succ]
  refine wpAnyH_take (i := 1) (v := ?_) (by simp only [List.getElem?_toArray, List.getElem?_cons_zero, List.getElem?_cons_succ]; rfl) (by kernel_rfl) (by kernel_rfl) (by kernel_rfl) (fun _ _ _ h => h) (Or.inl ⟨by rfl, ?_⟩) hS ?_
  rotate_left
  · (intro wq hSw; have q_a := hSw.a; have q_b := hSw.b; go_simp; all_goals with_reducible rfl)
  try simp only [Act.put, List.setIfInBounds_toArray, List.set_cons_zero, List.set_cons_succ]
  refine wpAnyH_take (i := 2) (v := ?_) (by simp only [List.getElem?_toArray, List.getElem?_cons_zero, List.getElem?_cons_succ]; rfl) (by kernel_rfl) (by kernel_rfl) (by kernel_rfl) (fun _ _ _ h => h) (Or.inl ⟨by rfl, ?_⟩) hS ?_
  rotate_left
  · (intro wq hSw; go_simp; all_goals with_reducible rfl)
  try simp only [Act.put, List.setIfInBounds_toArray, List.set_cons_zero, List.set_cons_succ]
  refine wpAnyH_take (i := 3) (v := ?_) (by simp only [List.getElem?_toArray, List.getElem?_cons_zero, List.getElem?_cons_succ]; rfl) (by kernel_rfl) (by kernel_rfl) (by kernel_rfl) (fun _ _ _ h => h) (Or.inl ⟨by rfl, ?_⟩) hS ?_
  rotate_left
  · (intro wq hSw; go_simp; all_goals with_reducible rfl)
  try simp only [Act.put, List.setIfInBounds_toArray, List.set_cons_zero, List.set_cons_succ]
  refine wpAnyH_take (i := 4) (v := ?_) (by simp only [List.getElem?_toArray, List.getElem?_cons_zero, List.getElem?_cons_succ]; rfl) (by kernel_rfl) (by kernel_rfl) (by kernel_rfl) (fun _ _ _ h => h) (Or.inl ⟨by rfl, ?_⟩) hS ?_
  rotate_left
  · (intro wq hSw; go_simp; all_goals with_reducible rfl)
  try simp only [Act.put, List.setIfInBounds_toArray, List.set_cons_zero, List.set_cons_succ]
  refine wpAnyH_take (i := 6) (v := ?_) (by simp only [List.getElem?_toArray, List.getElem?_cons_zero, List.getElem?_cons_succ]; rfl) (by kernel_rfl) (by kernel_rfl) (by kernel_rfl) (fun _ _ _ h => h) (Or.inl ⟨by rfl, ?_⟩) hS ?_
  rotate_left
  · (intro wq hSw; go_simp; all_goals with_reducible rfl)
  try simp only [Act.put, List.setIfInBounds_toArray, List.set_cons_zero, List.set_cons_succ]
  refine wpAnyH_take (i := 7) (v := ?_) (by simp only [List.getElem?_toArray, List.getElem?_cons_zero, List.getElem?_cons_succ]; rfl) (by kernel_rfl) (by kernel_rfl) (by kernel_rfl) (fun _ _ _ h => h) (Or.inl ⟨by rfl, ?_⟩) hS ?_
  rotate_left
  · (intro wq hSw; have q_a := hSw.a; have q_b := hSw.b; go_simp; all_goals with_reducible rfl)
  try simp only [Act.put, List.setIfInBounds_toArray, List.set_cons_zero, List.set_cons_succ]
  refine wpAnyH_take (i := 8) (v := ?_) (by simp only [List.getElem?_toArray, List.getElem?_cons_zero, List.getElem?_cons_succ]; rfl) (by kernel_rfl) (by kernel_rfl) (by kernel_rfl) (fun _ _ _ h => h) (Or.inl ⟨by rfl, ?_⟩) hS ?_
  rotate_left
  · (intro wq hSw; go_simp; all_goals with_reducible rfl)
  try simp only [Act.put, List.setIfInBounds_toArray, List.set_cons_zero, List.set_cons_succ]
  refine wpAnyH_take (i := 9) (v := ?_) (by simp only [List.getElem?_toArray, List.getElem?_cons_zero, List.getElem?_cons_succ]; rfl) (by kernel_rfl) (by kernel_rfl) (by kernel_rfl) (fun _ _ _ h => h) (Or.inl ⟨by rfl, ?_⟩) hS ?_
  rotate_left
  · (intro wq hSw; go_simp; all_goals with_reducible rfl)
  try simp only [Act.put, List.setIfInBounds_toArray, List.set_cons_zero, List.set_cons_succ]
  refine wpAnyH_take (i := 10) (v := ?_) (by simp only [List.getElem?_toArray, List.getElem?_cons_zero, List.getElem?_cons_succ]; rfl) (by kernel_rfl) (by kernel_rfl) (by kernel_rfl) (fun _ _ _ h => h) (Or.inl ⟨by rfl, ?_⟩) hS ?_
  rotate_left
  · (intro wq hSw; go_simp; all_goals with_reducible rfl)
  try simp only [Act.put, List.setIfInBounds_toArray, List.set_cons_zero, List.set_cons_succ]
  refine wpAnyH_ready (rs := [5]) (by kernel_rfl) (by simp) ?_
  refine AllReadyH.cons (by simp only [List.getElem?_toArray, List.getElem?_cons_zero, List.getElem?_cons_succ]; rfl) (fun K hK => ?_) AllReadyH.nil
  go_simp
  go_at_call 90
  refine (H1.out _).mono ?_
  rintro r wz ⟨rfl, rfl⟩
  go_wp2_with fail
  refine hK.out _ _ hS (fun _ => ?_)
  clear hK K
  try simp only [Act.put, List.setIfInBounds_toArray, List.set_cons_zero, List.set_cons_succ]
  refine wpAnyH_ready (rs := [11]) (by kernel_rfl) (by simp) ?_
  refine AllReadyH.cons (by simp only [List.getElem?_toArray, List.getElem?_cons_zero, List.getElem?_cons_succ]; rfl) (fun K hK => ?_) AllReadyH.nil
  go_simp
  go_at_call 90
  refine (H2.out _).mono ?_
  rintro r wz ⟨rfl, rfl⟩
  go_wp2_with fail
  refine hK.out _ _ hS (fun _ => ?_)
  clear hK K
  try simp only [Act.put, List.setIfInBounds_toArray, List.set_cons_zero, List.set_cons_succ]
  refine wpAnyH_take (i := 12) (v := ?_) (by simp only [List.getElem?_toArray, List.getElem?_cons_zero, List.getElem?_cons_succ]; rfl) (by kernel_rfl) (by kernel_rfl) (by kernel_rfl) (fun _ _ _ h => h) (Or.inl ⟨by rfl, ?_⟩) hS ?_
  rotate_left
  · (intro wq hSw; go_simp; all_goals with_reducible rfl)
  try simp only [Act.put, List.setIfInBounds_toArray, List.set_cons_zero, List.set_cons_succ]
  refine wpAnyH_ready (rs := [13]) (by kernel_rfl) (by simp) ?_
  refine AllReadyH.cons (by simp only [List.getElem?_toArray, List.getElem?_cons_zero, List.getElem?_cons_succ]; rfl) (fun K hK => ?_) AllReadyH.nil
  rw [if_pos (by rfl)]
  go_simp
  refine hK.out _ _ (hS.store hZX _ _) (fun _ => ?_)
  clear hK K
  try simp only [Act.put]
  refine wpAnyH_done (by kernel_rfl) ?_ _
  refine NoPanic.normal ?_
  have hB9 := ((HB2.out.set 0 (.int .i64 R1)).set 1 (.int .i64 R2)).cs (ds := [.int .i64 R1, .int .i64 R2]) rfl
  have hV9 := (HV.out.store hZX (.int .i64 R1) (.int .i64 R2)).m.drew
  generalize (w1.setCell ⟨X, 0, none⟩ (.int .i64 R1)).setCell ⟨X, 1, none⟩ (.int .i64 R2) = w9 at *
  have k0 := hB9.drew.cell (j := 0) rfl; have k1 := hB9.drew.cell (j := 1) rfl
  clear q4 q5 f4 f5 hB9
  go_wp2
  exact bodyPost_ret (v := .agg #[.int .i64 R1, .int .i64 R2]) (by simp [results, Tryd.results100, go_sem, k0, k1]) rfl ⟨rfl, hV9⟩
theorem v2_box (w : World) (a b c d : Int) : ∃ w1, (w.alloc (.cells #[.int .i64 a, .int .i64 b] 23)).alloc (.cells #[.int .i64 c, .int .i64 d] 23) = w1 ∧ V2 w.heap.size a b c d w w1 := by
  have hB0 : Blk ((w.alloc (.cells #[.int .i64 a, .int .i64 b] 23)).alloc (.cells #[.int .i64 c, .int .i64 d] 23)) w.heap.size [.int .i64 a, .int .i64 b] 23 := (Blk.new w [.int .i64 a, .int .i64 b] _).alloc _
  have hB1 : Blk ((w.alloc (.cells #[.int .i64 a, .int .i64 b] 23)).alloc (.cells #[.int .i64 c, .int .i64 d] 23)) (w.heap.size + 1) [.int .i64 c, .int .i64 d] 23 := by
    have := Blk.new (w.alloc (.cells #[.int .i64 a, .int .i64 b] 23)) [.int .i64 c, .int .i64 d] 23
    simpa using this
  exact ⟨_, rfl, ⟨hB0.cell rfl, hB0.cell rfl, hB1.cell rfl, hB1.cell rfl, ((Mod.refl none_ w).alloc _).alloc _, rfl⟩⟩
theorem vway_any (w : World) (a b c d : Int) (ha : Bd.I64 a) (hb : Bd.I64 b) (hc : Bd.I64 c) (hd : Bd.I64 d) : Calls Tryd.prog 92 #[.agg #[.int .i64 a, .int .i64 b], .agg #[.int .i64 c, .int .i64 d]] w fun e w' => e = .returned (.tuple #[.int .i64 (Vx.dif c a), .int .i64 (Vx.dif d b)]) ∧ Mod none_ w w' := by
  have h1 := fun q : World => vless_any q c a hc ha
  have h2 := fun q : World => vless_any q d b hd hb
  have h3 := fun q : World => within_any q (Vx.sat (c - a)) (-2147483647) 2147483647
  have h4 := fun q : World => within_any q (Vx.sat (d - b)) (-2147483647) 2147483647
  have k3 : (if 2147483647 < (if Vx.sat (c - a) < -2147483647 then -2147483647 else Vx.sat (c - a)) then 2147483647 else (if Vx.sat (c - a) < -2147483647 then -2147483647 else Vx.sat (c - a))) = Vx.dif c a := (within_keep _ (by decide)).trans (Vx.sat_keep _ (by decide))
  have k4 : (if 2147483647 < (if Vx.sat (d - b) < -2147483647 then -2147483647 else Vx.sat (d - b)) then 2147483647 else (if Vx.sat (d - b) < -2147483647 then -2147483647 else Vx.sat (d - b))) = Vx.dif d b := (within_keep _ (by decide)).trans (Vx.sat_keep _ (by decide))
  simp only [k3] at h3
  simp only [k4] at h4
  clear k3 k4
  generalize Vx.sat (c - a) = S1 at *
  generalize Vx.sat (d - b) = S2 at *
  generalize Vx.dif c a = R1 at *
  generalize Vx.dif d b = R2 at *
  have H1 := Lib.hid h1; have H2 := Lib.hid h2; have H3 := Lib.hid h3; have H4 := Lib.hid h4
  clear h1 h2 h3 h4 ha hb hc hd
  go_enter Tryd.func92, Tryd.ntmps92
  go_upto_region 1 with fail
  obtain ⟨w1, hw1, hV⟩ := v2_box w a b c d
  obtain ⟨Z, hZ⟩ : ∃ Z, w.heap.size = Z := ⟨_, rfl⟩
  rw [hw1]
  simp only [hZ] at hV ⊢
  have HV := Lib.hid hV
  clear hV hw1 hZ
  have hS : V2 Z a b c d w w1.drew := HV.out.none (Mod.refl _ _).drew
  refine wp_region_noPanic ?_
  refine wp_region_held_drew (S := V2 Z a b c d w) (by kernel_rfl) hS (fun hHeld => ?_)
  clear hHeld
  refine wpAnyH_take (i := 0) (v := ?_) (by simp only [List.getElem?_toArray, List.getElem?_cons_zero]; rfl) (by kernel_rfl) (by kernel_rfl) (by kernel_rfl) (fun _ _ _ h => h) (Or.inl ⟨by rfl, ?_⟩) hS ?_
  rotate_left
  · (intro wq hSw; go_simp; all_goals with_reducible rfl)
  try simp only [Act.put, List.setIfInBounds_toArray, List.set_cons_zero, List.set_cons_succ]
  refine wpAnyH_take (i := 1) (v := ?_) (by simp only [List.getElem?_toArray, List.getElem?_cons_zero, List.getElem?_cons_succ]; rfl) (by kernel_rfl) (by kernel_rfl) (by kernel_rfl) (fun _ _ _ h => h) (Or.inl ⟨by rfl, ?_⟩) hS ?_
  rotate_left
  · (intro wq hSw; have q_a := hSw.a; have q_b := hSw.b; have q_c := hSw.c; have q_d := hSw.d; go_simp; all_goals with_reducible rfl)
  try simp only [Act.put, List.setIfInBounds_toArray, List.set_cons_zero, List.set_cons_succ]
  refine wpAnyH_take (i := 2) (v := ?_) (by simp only [List.getElem?_toArray, List.getElem?_cons_zero, List.getElem?_cons_succ]; rfl) (by kernel_rfl) (by kernel_rfl) (by kernel_rfl) (fun _ _ _ h => h) (Or.inl ⟨by rfl, ?_⟩) hS ?_
  rotate_left
  · (intro wq hSw; go_simp; all_goals with_reducible rfl)
  try simp only [Act.put, List.setIfInBounds_toArray, List.set_cons_zero, List.set_cons_succ]
  refine wpAnyH_take (i := 3) (v := ?_) (by simp only [List.getElem?_toArray, List.getElem?_cons_zero, List.getElem?_cons_succ]; rfl) (by kernel_rfl) (by kernel_rfl) (by kernel_rfl) (fun _ _ _ h => h) (Or.inl ⟨by rfl, ?_⟩) hS ?_
  rotate_left
  · (intro wq hSw; have q_a := hSw.a; have q_b := hSw.b; have q_c := hSw.c; have q_d := hSw.d; go_simp; all_goals with_reducible rfl)
  try simp only [Act.put, List.setIfInBounds_toArray, List.set_cons_zero, List.set_cons_succ]
  refine wpAnyH_take (i := 6) (v := ?_) (by simp only [List.getElem?_toArray, List.getElem?_cons_zero, List.getElem?_cons_succ]; rfl) (by kernel_rfl) (by kernel_rfl) (by kernel_rfl) (fun _ _ _ h => h) (Or.inl ⟨by rfl, ?_⟩) hS ?_
  rotate_left
  · (intro wq hSw; go_simp; all_goals with_reducible rfl)
  try simp only [Act.put, List.setIfInBounds_toArray, List.set_cons_zero, List.set_cons_succ]
  refine wpAnyH_take (i := 7) (v := ?_) (by simp only [List.getElem?_toArray, List.getElem?_cons_zero, List.getElem?_cons_succ]; rfl) (by kernel_rfl) (by kernel_rfl) (by kernel_rfl) (fun _ _ _ h => h) (Or.inl ⟨by rfl, ?_⟩) hS ?_
  rotate_left
  · (intro wq hSw; have q_a := hSw.a; have q_b := hSw.b; have q_c := hSw.c; have q_d := hSw.d; go_simp; all_goals with_reducible rfl)
  try simp only [Act.put, List.setIfInBounds_toArray, List.set_cons_zero, List.set_cons_succ]
  refine wpAnyH_take (i := 8) (v := ?_) (by simp only [List.getElem?_toArray, List.getElem?_cons_zero, List.getElem?_cons_succ]; rfl) (by kernel_rfl) (by kernel_rfl) (by kernel_rfl) (fun _ _ _ h => h) (Or.inl ⟨by rfl, ?_⟩) hS ?_
  rotate_left
  · (intro wq hSw; go_simp; all_goals with_reducible rfl)
  try simp only [Act.put, List.setIfInBounds_toArray, List.set_cons_zero, List.set_cons_succ]
  refine wpAnyH_take (i := 9) (v := ?_) (by simp only [List.getElem?_toArray, List.getElem?_cons_zero, List.getElem?_cons_succ]; rfl) (by kernel_rfl) (by kernel_rfl) (by kernel_rfl) (fun _ _ _ h => h) (Or.inl ⟨by rfl, ?_⟩) hS ?_
  rotate_left
  · (intro wq hSw; have q_a := hSw.a; have q_b := hSw.b; have q_c := hSw.c; have q_d := hSw.d; go_simp; all_goals with_reducible rfl)
  try simp only [Act.put, List.setIfInBounds_toArray, List.set_cons_zero, List.set_cons_succ]
  refine wpAnyH_ready (rs := [4]) (by kernel_rfl) (by simp) ?_
  refine AllReadyH.cons (by simp only [List.getElem?_toArray, List.getElem?_cons_zero, List.getElem?_cons_succ]; rfl) (fun K hK => ?_) AllReadyH.nil
  go_simp
  go_at_call 109
  refine (H1.out _).mono ?_
  rintro r wz ⟨rfl, rfl⟩
  go_wp2_with fail
  refine hK.out _ _ hS (fun _ => ?_)
  clear hK K
  try simp only [Act.put, List.setIfInBounds_toArray, List.set_cons_zero, List.set_cons_succ]
  refine wpAnyH_ready (rs := [5]) (by kernel_rfl) (by simp) ?_
  refine AllReadyH.cons (by simp only [List.getElem?_toArray, List.getElem?_cons_zero, List.getElem?_cons_succ]; rfl) (fun K hK => ?_) AllReadyH.nil
  go_simp
  go_at_call 90
  refine (H3.out _).mono ?_
  rintro r wz ⟨rfl, rfl⟩
  go_wp2_with fail
  refine hK.out _ _ hS (fun _ => ?_)
  clear hK K
  try simp only [Act.put, List.setIfInBounds_toArray, List.set_cons_zero, List.set_cons_succ]
  refine wpAnyH_ready (rs := [10]) (by kernel_rfl) (by simp) ?_
  refine AllReadyH.cons (by simp only [List.getElem?_toArray, List.getElem?_cons_zero, List.getElem?_cons_succ]; rfl) (fun K hK => ?_) AllReadyH.nil
  go_simp
  go_at_call 109
  refine (H2.out _).mono ?_
  rintro r wz ⟨rfl, rfl⟩
  go_wp2_with fail
  refine hK.out _ _ hS (fun _ => ?_)
  clear hK K
  try simp only [Act.put, List.setIfInBounds_toArray, List.set_cons_zero, List.set_cons_succ]
  refine wpAnyH_ready (rs := [11]) (by kernel_rfl) (by simp) ?_
  refine AllReadyH.cons (by simp only [List.getElem?_toArray, List.getElem?_cons_zero, List.getElem?_cons_succ]; rfl) (fun K hK => ?_) AllReadyH.nil
  go_simp
  go_at_call 90
  refine (H4.out _).mono ?_
  rintro r wz ⟨rfl, rfl⟩
  go_wp2_with fail
  refine hK.out _ _ hS (fun _ => ?_)
  clear hK K
  try simp only [Act.put, List.setIfInBounds_toArray, List.set_cons_zero, List.set_cons_succ]
  refine wpAnyH_take (i := 12) (v := ?_) (by simp only [List.getElem?_toArray, List.getElem?_cons_zero, List.getElem?_cons_succ]; rfl) (by kernel_rfl) (by kernel_rfl) (by kernel_rfl) (fun _ _ _ h => h) (Or.inl ⟨by rfl, ?_⟩) hS ?_
  rotate_left
  · (intro wq hSw; go_simp; all_goals with_reducible rfl)
  try simp only [Act.put, List.setIfInBounds_toArray, List.set_cons_zero, List.set_cons_succ]
  refine wpAnyH_take (i := 13) (v := ?_) (by simp only [List.getElem?_toArray, List.getElem?_cons_zero, List.getElem?_cons_succ]; rfl) (by kernel_rfl) (by kernel_rfl) (by kernel_rfl) (fun _ _ _ h => h) (Or.inl ⟨by rfl, ?_⟩) hS ?_
  rotate_left
  · (intro wq hSw; go_simp; all_goals with_reducible rfl)
  try simp only [Act.put, List.setIfInBounds_toArray, List.set_cons_zero, List.set_cons_succ]
  refine wpAnyH_done (by kernel_rfl) ?_ _
  refine NoPanic.normal ?_
  go_wp2
  go_ret2
  exact ⟨rfl, hS.m⟩
theorem vdist_any (w : World) (a b c d : Int) (ha : Bd.I64 a) (hb : Bd.I64 b) (hc : Bd.I64 c) (hd : Bd.I64 d) : Calls Tryd.prog 64 #[.agg #[.int .i64 a, .int .i64 b], .agg #[.int .i64 c, .int .i64 d]] w fun e w' => e = .returned (.int .i64 (Vx.dist a b c d)) ∧ Mod none_ w w' := by
  have h1 := fun q : World => vway_any q a b c d ha hb hc hd
  have b1 := Vx.sq_bd (Vx.dif_bd c a)
  have b2 := Vx.sq_bd (Vx.dif_bd d b)
  have hr : Vx.dist a b c d = Vx.dif c a * Vx.dif c a + Vx.dif d b * Vx.dif d b := rfl
  unfold Vx.sq at b1 b2
  rw [hr]
  clear hr
  generalize Vx.dif c a = R1 at *
  generalize Vx.dif d b = R2 at *
  have e1 : IntKind.i64.wrap (R1 * R1) = R1 * R1 := wrap_in _ (by unfold Bd.I64; omega)
  have e2 : IntKind.i64.wrap (R2 * R2) = R2 * R2 := wrap_in _ (by unfold Bd.I64; omega)
  have e3 : IntKind.i64.wrap (R1 * R1 + R2 * R2) = R1 * R1 + R2 * R2 := wrap_in _ (by unfold Bd.I64; omega)
  have H1 := Lib.hid h1
  clear h1 b1 b2 ha hb hc hd
  go_enter Tryd.func64, Tryd.ntmps64
  go_upto_region 1 with fail
  obtain ⟨w1, hw1, hV⟩ := v2_box w a b c d
  obtain ⟨Z, hZ⟩ : ∃ Z, w.heap.size = Z := ⟨_, rfl⟩
  rw [hw1]
  simp only [hZ] at hV ⊢
  have p0 := hV.a; have p1 := hV.b; have p2 := hV.c; have p3 := hV.d
  have HV := Lib.hid hV
  clear hV hw1 hZ
  go_wp2_with (go_at_call 92; refine (H1.out _).mono ?_; rintro r wz ⟨rfl, hM2⟩)
  go_ret
  exact ⟨rfl, HV.out.m.then hM2⟩
theorem vnear_any (w : World) (a b c d r : Int) (ha : Bd.I64 a) (hb : Bd.I64 b) (hc : Bd.I64 c) (hd : Bd.I64 d) : Calls Tryd.prog 29 #[.agg #[.int .i64 a, .int .i64 b], .agg #[.int .i64 c, .int .i64 d], .int .i64 r] w fun e w' => e = .returned (.bool (Vx.nearB a b c d r)) ∧ Mod none_ w w' := by
  have h1 := fun q : World => vdist_any q a b c d ha hb hc hd
  have hr : Vx.nearB a b c d r = if r < 0 then false else if r ≥ 3037000500 then true else decide (Vx.dist a b c d ≤ r * r) := rfl
  rw [hr]
  clear hr
  generalize Vx.dist a b c d = D at *
  have H1 := Lib.hid h1
  clear h1 ha hb hc hd
  by_cases c1 : r < 0
  · rw [if_pos c1]
    go_enter Tryd.func29, Tryd.ntmps29
    go_wp2
    go_ret
    exact ⟨rfl, ((Mod.refl none_ w).alloc _).alloc _⟩
  · rw [if_neg c1]
    by_cases c2 : r ≥ 3037000500
    · rw [if_pos c2]
      have c3 : (3037000500 : Int) ≤ r := c2
      go_enter Tryd.func29, Tryd.ntmps29
      go_wp2
      go_ret
      exact ⟨rfl, ((Mod.refl none_ w).alloc _).alloc _⟩
    · rw [if_neg c2]
      have c3 : ¬ (3037000500 : Int) ≤ r := c2
      have hm := Vx.mul_bd (show 0 ≤ r ∧ r ≤ 3037000499 by omega) (show 0 ≤ r ∧ r ≤ 3037000499 by omega)
      have e1 : IntKind.i64.wrap (r * r) = r * r := wrap_in _ (by unfold Bd.I64; omega)
      clear hm c2
      go_enter Tryd.func29, Tryd.ntmps29
      go_upto_region 3 with fail
      obtain ⟨w1, hw1, hV⟩ := v2_box w a b c d
      obtain ⟨Z, hZ⟩ : ∃ Z, w.heap.size = Z := ⟨_, rfl⟩
      rw [hw1]
      simp only [hZ] at hV ⊢
      have p0 := hV.a; have p1 := hV.b; have p2 := hV.c; have p3 := hV.d
      have HV := Lib.hid hV
      clear hV hw1 hZ
      go_wp2_with (go_at_call 64; refine (H1.out _).mono ?_; rintro r wz ⟨rfl, hM2⟩)
      go_ret
      exact ⟨rfl, HV.out.m.then hM2⟩
end Go.Proofs.YtinjlkceplhibaaDoor
