/- The document's places: the walks. -/
import Derived.Test.YtinjlkceplhibaaDoorVxG
namespace Go.Proofs.YtinjlkceplhibaaDoor
open Go.RowKit

theorem rkeep_any (w : World) (x m : Int) (hm : 0 ≤ m ∧ m ≤ 9223372036854775807) : Calls Tryd.prog 89 #[.int .i64 x, .int .i64 m] w fun e w' => e = .returned (.int .i64 (Vx.keep x m)) ∧ w' = w := by
  have e1 : IntKind.i64.wrap (-m) = -m := wrap_in _ (by unfold Bd.I64; omega)
  have hk : Vx.keep x m = if x > m then m else if x < -m then -m else x := rfl
  rw [hk]
  by_cases c1 : m < x
  · rw [if_pos (show x > m from c1)]
    go_enter Tryd.func89, Tryd.ntmps89
    go_wp2
    go_ret
    exact ⟨rfl, rfl⟩
  · rw [if_neg (show ¬ x > m from c1)]
    by_cases c2 : x < -m
    · rw [if_pos c2]
      go_enter Tryd.func89, Tryd.ntmps89
      go_wp2
      go_ret
      exact ⟨rfl, rfl⟩
    · rw [if_neg c2]
      go_enter Tryd.func89, Tryd.ntmps89
      go_wp2
      go_ret
      exact ⟨rfl, rfl⟩
theorem rsum_any (w : World) (a b m : Int) (ha : Bd.I64 a) (hb : Bd.I64 b) (hm : 0 ≤ m ∧ m ≤ 9223372036854775807) : Calls Tryd.prog 51 #[.int .i64 a, .int .i64 b, .int .i64 m] w fun e w' => e = .returned (.int .i64 (Vx.keep (a + b) m)) ∧ w' = w := by
  unfold Bd.I64 at ha hb
  have hk : Vx.keep (a + b) m = if a + b > m then m else if a + b < -m then -m else a + b := rfl
  have en : IntKind.i64.wrap (-m) = -m := wrap_in _ (by unfold Bd.I64; omega)
  have hc := fun (q : World) => rkeep_any q (a + b) m hm
  obtain ⟨R, hR⟩ : ∃ R, Vx.keep (a + b) m = R := ⟨_, rfl⟩
  rw [hR] at hk ⊢
  simp only [hR] at hc
  have HC := Lib.hid hc; have HK := Lib.hid hk
  clear hc hk hR
  by_cases c1 : a < 0
  · by_cases c2 : b < 0
    · have e1 : IntKind.i64.wrap (-9223372036854775808 - b) = -9223372036854775808 - b := wrap_in _ (by unfold Bd.I64; omega)
      by_cases c3 : a < -9223372036854775808 - b
      · have HN := Lib.hid (show R = -m by rw [HK.out]; (repeat' split) <;> omega)
        go_enter Tryd.func51, Tryd.ntmps51
        go_wp2
        go_ret
        exact ⟨ret_int HN.out.symm, rfl⟩
      · have e2 : IntKind.i64.wrap (a + b) = a + b := wrap_in _ (by unfold Bd.I64; omega)
        go_enter Tryd.func51, Tryd.ntmps51
        go_wp2_with (go_at_call 89; refine (HC.out _).mono ?_; rintro r wz ⟨rfl, rfl⟩)
        go_ret
        exact ⟨rfl, rfl⟩
    · have e2 : IntKind.i64.wrap (a + b) = a + b := wrap_in _ (by unfold Bd.I64; omega)
      go_enter Tryd.func51, Tryd.ntmps51
      go_wp2_with (go_at_call 89; refine (HC.out _).mono ?_; rintro r wz ⟨rfl, rfl⟩)
      go_ret
      exact ⟨rfl, rfl⟩
  · by_cases c2 : b < 0
    · have e2 : IntKind.i64.wrap (a + b) = a + b := wrap_in _ (by unfold Bd.I64; omega)
      go_enter Tryd.func51, Tryd.ntmps51
      go_wp2_with (go_at_call 89; refine (HC.out _).mono ?_; rintro r wz ⟨rfl, rfl⟩)
      go_ret
      exact ⟨rfl, rfl⟩
    · have e1 : IntKind.i64.wrap (9223372036854775807 - b) = 9223372036854775807 - b := wrap_in _ (by unfold Bd.I64; omega)
      by_cases c3 : 9223372036854775807 - b < a
      · have HN := Lib.hid (show R = m by rw [HK.out]; (repeat' split) <;> omega)
        go_enter Tryd.func51, Tryd.ntmps51
        go_wp2
        go_ret
        exact ⟨ret_int HN.out.symm, rfl⟩
      · have e2 : IntKind.i64.wrap (a + b) = a + b := wrap_in _ (by unfold Bd.I64; omega)
        go_enter Tryd.func51, Tryd.ntmps51
        go_wp2_with (go_at_call 89; refine (HC.out _).mono ?_; rintro r wz ⟨rfl, rfl⟩)
        go_ret
        exact ⟨rfl, rfl⟩
theorem rless_any (w : World) (a b m : Int) (ha : Bd.I64 a) (hb : Bd.I64 b) (hm : 0 ≤ m ∧ m ≤ 9223372036854775807) : Calls Tryd.prog 113 #[.int .i64 a, .int .i64 b, .int .i64 m] w fun e w' => e = .returned (.int .i64 (Vx.keep (a - b) m)) ∧ w' = w := by
  unfold Bd.I64 at ha hb
  have hk : Vx.keep (a - b) m = if a - b > m then m else if a - b < -m then -m else a - b := rfl
  have en : IntKind.i64.wrap (-m) = -m := wrap_in _ (by unfold Bd.I64; omega)
  have hc := fun (q : World) => rkeep_any q (a - b) m hm
  obtain ⟨R, hR⟩ : ∃ R, Vx.keep (a - b) m = R := ⟨_, rfl⟩
  rw [hR] at hk ⊢
  simp only [hR] at hc
  have HC := Lib.hid hc; have HK := Lib.hid hk
  clear hc hk hR
  by_cases c2 : b < 0
  · have cn : ¬ 0 < b := by omega
    have e1 : IntKind.i64.wrap (9223372036854775807 + b) = 9223372036854775807 + b := wrap_in _ (by unfold Bd.I64; omega)
    by_cases c3 : 9223372036854775807 + b < a
    · have HN := Lib.hid (show R = m by rw [HK.out]; (repeat' split) <;> omega)
      go_enter Tryd.func113, Tryd.ntmps113
      go_wp2
      go_ret
      exact ⟨ret_int HN.out.symm, rfl⟩
    · have e2 : IntKind.i64.wrap (a - b) = a - b := wrap_in _ (by unfold Bd.I64; omega)
      go_enter Tryd.func113, Tryd.ntmps113
      go_wp2_with (go_at_call 89; refine (HC.out _).mono ?_; rintro r wz ⟨rfl, rfl⟩)
      go_ret
      exact ⟨rfl, rfl⟩
  · by_cases c4 : 0 < b
    · have e1 : IntKind.i64.wrap (-9223372036854775808 + b) = -9223372036854775808 + b := wrap_in _ (by unfold Bd.I64; omega)
      by_cases c3 : a < -9223372036854775808 + b
      · have HN := Lib.hid (show R = -m by rw [HK.out]; (repeat' split) <;> omega)
        go_enter Tryd.func113, Tryd.ntmps113
        go_wp2
        go_ret
        exact ⟨ret_int HN.out.symm, rfl⟩
      · have e2 : IntKind.i64.wrap (a - b) = a - b := wrap_in _ (by unfold Bd.I64; omega)
        go_enter Tryd.func113, Tryd.ntmps113
        go_wp2_with (go_at_call 89; refine (HC.out _).mono ?_; rintro r wz ⟨rfl, rfl⟩)
        go_ret
        exact ⟨rfl, rfl⟩
    · have e2 : IntKind.i64.wrap (a - b) = a - b := wrap_in _ (by unfold Bd.I64; omega)
      go_enter Tryd.func113, Tryd.ntmps113
      go_wp2_with (go_at_call 89; refine (HC.out _).mono ?_; rintro r wz ⟨rfl, rfl⟩)
      go_ret
      exact ⟨rfl, rfl⟩
theorem radd_any (w : World) (a b c d : Int) (ha : Bd.I64 a) (hb : Bd.I64 b) (hc : Bd.I64 c) (hd : Bd.I64 d) : Calls Tryd.prog 68 #[.agg #[.int .i64 a, .int .i64 b], .agg #[.int .i64 c, .int .i64 d]] w fun e w' => e = .returned (.agg #[.int .i64 (Vx.lim (a + c)), .int .i64 (Vx.lim (b + d))]) ∧ Mod none_ w w' := by
  have h1 := fun q : World => rsum_any q a c 1099511627776 ha hc (by decide)
  have h2 := fun q : World => rsum_any q b d 1099511627776 hb hd (by decide)
  simp only [Vx.keep_lim] at h1 h2
  generalize Vx.lim (a + c) = R1 at *
  generalize Vx.lim (b + d) = R2 at *
  have H1 := Lib.hid h1; have H2 := Lib.hid h2
  clear h1 h2 ha hb hc hd
  go_enter Tryd.func68, Tryd.ntmps68
  go_upto_region 1 with fail
  obtain ⟨w1, hw1, hV, hB2⟩ := v2_new w a b c d
  obtain ⟨X, hX⟩ : ∃ X, w.heap.size + 1 + 1 = X := ⟨_, rfl⟩
  obtain ⟨Z, hZ⟩ : ∃ Z, w.heap.size = Z := ⟨_, rfl⟩
  rw [hw1]
  simp only [hX] at hB2 ⊢
  simp only [hZ] at hV hX ⊢
  have hZX : Z + 1 < X := by omega
  have q4 := hB2.cell (j := 0) rfl; have q5 := hB2.cell (j := 1) rfl
  have f4 := hB2.frozen 0; have f5 := hB2.frozen 1
  have HB2 := Lib.hid hB2; have HV := Lib.hid hV
  clear hB2 hV hw1 hZ hX
  have hS : V2 Z a b c d w w1.drew := HV.out.none (Mod.refl _ _).drew
  refine wp_region_noPanic ?_
  refine wp_region_held_drew (S := V2 Z a b c d w) (by kernel_rfl) hS (fun hHeld => ?_)
  clear hHeld
  refine wpAnyH_take (i := 0) (v := ?_) (by simp only [List.getElem?_toArray, List.getElem?_cons_zero]; rfl) (by kernel_rfl) (by kernel_rfl) (by kernel_rfl) (fun _ _ _ h => h) (Or.inl ⟨by rfl, ?_⟩) hS ?_
  rotate_left
  · (intro wq hSw; go_simp; all_goals with_reducible rfl)
  try simp only [Act.put, List.setIfInBounds_toArray, List.set_cons_zero, List.set_cons_succ]
  refine wpAnyH_take (i := 1) (v := ?_) (by simp only [List.getElem?_toArray, List.getElem?_cons_zero, List.getElem?_cons_succ]; rfl) (by kernel_rfl) (by kernel_rfl) (by kernel_rfl) (fun _ _ _ h => h) (Or.inl ⟨by rfl, ?_⟩) hS ?_
  rotate_left
  · (intro wq hSw; have q_a := hSw.a; have q_b := hSw.b; have q_c := hSw.c; have q_d := hSw.d; go_simp; all_goals with_reducible rfl)
  try simp only [Act.put, List.setIfInBounds_toArray, List.set_cons_zero, List.set_cons_succ]
  refine wpAnyH_take (i := 2) (v := ?_) (by simp only [List.getElem?_toArray, List.getElem?_cons_zero, List.getElem?_cons_succ]; rfl) (by kernel_rfl) (by kernel_rfl) (by kernel_rfl) (fun _ _ _ h => h) (Or.inl ⟨by rfl, ?_⟩) hS ?_
  rotate_left
  · (intro wq hSw; go_simp; all_goals with_reducible rfl)
  try simp only [Act.put, List.setIfInBounds_toArray, List.set_cons_zero, List.set_cons_succ]
  refine wpAnyH_take (i := 3) (v := ?_) (by simp only [List.getElem?_toArray, List.getElem?_cons_zero, List.getElem?_cons_succ]; rfl) (by kernel_rfl) (by kernel_rfl) (by kernel_rfl) (fun _ _ _ h => h) (Or.inl ⟨by rfl, ?_⟩) hS ?_
  rotate_left
  · (intro wq hSw; have q_a := hSw.a; have q_b := hSw.b; have q_c := hSw.c; have q_d := hSw.d; go_simp; all_goals with_reducible rfl)
  try simp only [Act.put, List.setIfInBounds_toArray, List.set_cons_zero, List.set_cons_succ]
  refine wpAnyH_take (i := 5) (v := ?_) (by simp only [List.getElem?_toArray, List.getElem?_cons_zero, List.getElem?_cons_succ]; rfl) (by kernel_rfl) (by kernel_rfl) (by kernel_rfl) (fun _ _ _ h => h) (Or.inl ⟨by rfl, ?_⟩) hS ?_
  rotate_left
  · (intro wq hSw; go_simp; all_goals with_reducible rfl)
  try simp only [Act.put, List.setIfInBounds_toArray, List.set_cons_zero, List.set_cons_succ]
  refine wpAnyH_take (i := 6) (v := ?_) (by simp only [List.getElem?_toArray, List.getElem?_cons_zero, List.getElem?_cons_succ]; rfl) (by kernel_rfl) (by kernel_rfl) (by kernel_rfl) (fun _ _ _ h => h) (Or.inl ⟨by rfl, ?_⟩) hS ?_
  rotate_left
  · (intro wq hSw; have q_a := hSw.a; have q_b := hSw.b; have q_c := hSw.c; have q_d := hSw.d; go_simp; all_goals with_reducible rfl)
  try simp only [Act.put, List.setIfInBounds_toArray, List.set_cons_zero, List.set_cons_succ]
  refine wpAnyH_take (i := 7) (v := ?_) (by simp only [List.getElem?_toArray, List.getElem?_cons_zero, List.getElem?_cons_succ]; rfl) (by kernel_rfl) (by kernel_rfl) (by kernel_rfl) (fun _ _ _ h => h) (Or.inl ⟨by rfl, ?_⟩) hS ?_
  rotate_left
  · (intro wq hSw; go_simp; all_goals with_reducible rfl)
  try simp only [Act.put, List.setIfInBounds_toArray, List.set_cons_zero, List.set_cons_succ]
  refine wpAnyH_take (i := 8) (v := ?_) (by simp only [List.getElem?_toArray, List.getElem?_cons_zero, List.getElem?_cons_succ]; rfl) (by kernel_rfl) (by kernel_rfl) (by kernel_rfl) (fun _ _ _ h => h) (Or.inl ⟨by rfl, ?_⟩) hS ?_
  rotate_left
  · (intro wq hSw; have q_a := hSw.a; have q_b := hSw.b; have q_c := hSw.c; have q_d := hSw.d; go_simp; all_goals with_reducible rfl)
  try simp only [Act.put, List.setIfInBounds_toArray, List.set_cons_zero, List.set_cons_succ]
  refine wpAnyH_ready (rs := [4]) (by kernel_rfl) (by simp) ?_
  refine AllReadyH.cons (by simp only [List.getElem?_toArray, List.getElem?_cons_zero, List.getElem?_cons_succ]; rfl) (fun K hK => ?_) AllReadyH.nil
  go_simp
  go_at_call 51
  refine (H1.out _).mono ?_
  rintro r wz ⟨rfl, rfl⟩
  go_wp2_with fail
  refine hK.out _ _ hS (fun _ => ?_)
  clear hK K
  try simp only [Act.put, List.setIfInBounds_toArray, List.set_cons_zero, List.set_cons_succ]
  refine wpAnyH_ready (rs := [9]) (by kernel_rfl) (by simp) ?_
  refine AllReadyH.cons (by simp only [List.getElem?_toArray, List.getElem?_cons_zero, List.getElem?_cons_succ]; rfl) (fun K hK => ?_) AllReadyH.nil
  go_simp
  go_at_call 51
  refine (H2.out _).mono ?_
  rintro r wz ⟨rfl, rfl⟩
  go_wp2_with fail
  refine hK.out _ _ hS (fun _ => ?_)
  clear hK K
  try simp only [Act.put, List.setIfInBounds_toArray, List.set_cons_zero, List.set_cons_succ]
  refine wpAnyH_take (i := 10) (v := ?_) (by simp only [List.getElem?_toArray, List.getElem?_cons_zero, List.getElem?_cons_succ]; rfl) (by kernel_rfl) (by kernel_rfl) (by kernel_rfl) (fun _ _ _ h => h) (Or.inl ⟨by rfl, ?_⟩) hS ?_
  rotate_left
  · (intro wq hSw; go_simp; all_goals with_reducible rfl)
  try simp only [Act.put, List.setIfInBounds_toArray, List.set_cons_zero, List.set_cons_succ]
  refine wpAnyH_ready (rs := [11]) (by kernel_rfl) (by simp) ?_
  refine AllReadyH.cons (by simp only [List.getElem?_toArray, List.getElem?_cons_zero, List.getElem?_cons_succ]; rfl) (fun K hK => ?_) AllReadyH.nil
  rw [if_pos (by rfl)]
  go_simp
  refine hK.out _ _ (hS.store hZX _ _) (fun _ => ?_)
  clear hK K
  try simp only [Act.put]
  refine wpAnyH_done (by kernel_rfl) ?_ _
  refine NoPanic.normal ?_
  have hB9 := ((HB2.out.set 0 (.int .i64 R1)).set 1 (.int .i64 R2)).cs (ds := [.int .i64 R1, .int .i64 R2]) rfl
  have hV9 := (HV.out.store hZX (.int .i64 R1) (.int .i64 R2)).m.drew
  generalize (w1.setCell ⟨X, 0, none⟩ (.int .i64 R1)).setCell ⟨X, 1, none⟩ (.int .i64 R2) = w9 at *
  have k0 := hB9.drew.cell (j := 0) rfl; have k1 := hB9.drew.cell (j := 1) rfl
  clear q4 q5 f4 f5 hB9
  go_wp2
  exact bodyPost_ret (v := .agg #[.int .i64 R1, .int .i64 R2]) (by simp [results, Tryd.results68, go_sem, k0, k1]) rfl ⟨rfl, hV9⟩
theorem rscale_any (w : World) (a b k : Int) (ha : Bd.I64 a) (hb : Bd.I64 b) (hk : Bd.I64 k) : Calls Tryd.prog 69 #[.agg #[.int .i64 a, .int .i64 b], .int .i64 k] w fun e w' => e = .returned (.agg #[.int .i64 (Vx.mulV a k), .int .i64 (Vx.mulV b k)]) ∧ Mod none_ w w' := by
  have h1 := fun q : World => r3mul_any q a k ha hk
  have h2 := fun q : World => r3mul_any q b k hb hk
  generalize Vx.mulV a k = R1 at *
  generalize Vx.mulV b k = R2 at *
  have H1 := Lib.hid h1; have H2 := Lib.hid h2
  clear h1 h2 ha hb hk
  go_enter Tryd.func69, Tryd.ntmps69
  go_upto_region 1 with fail
  obtain ⟨w1, hw1, hV, hB2⟩ := v1_new w a b
  obtain ⟨X, hX⟩ : ∃ X, w.heap.size + 1 = X := ⟨_, rfl⟩
  obtain ⟨Z, hZ⟩ : ∃ Z, w.heap.size = Z := ⟨_, rfl⟩
  rw [hw1]
  simp only [hX] at hB2 ⊢
  simp only [hZ] at hV hX ⊢
  have hZX : Z < X := by omega
  have q4 := hB2.cell (j := 0) rfl; have q5 := hB2.cell (j := 1) rfl
  have f4 := hB2.frozen 0; have f5 := hB2.frozen 1
  have HB2 := Lib.hid hB2; have HV := Lib.hid hV
  clear hB2 hV hw1 hZ hX
  have hS : V1 Z a b w w1.drew := HV.out.none (Mod.refl _ _).drew
  refine wp_region_noPanic ?_
  refine wp_region_held_drew (S := V1 Z a b w) (by kernel_rfl) hS (fun hHeld => ?_)
  clear hHeld
  refine wpAnyH_take (i := 0) (v := ?_) (by simp only [List.getElem?_toArray, List.getElem?_cons_zero]; rfl) (by kernel_rfl) (by kernel_rfl) (by kernel_rfl) (fun _ _ _ h => h) (Or.inl ⟨by rfl, ?_⟩) hS ?_
  rotate_left
  · (intro wq hSw; go_simp; all_goals with_reducible rfl)
  try simp only [Act.put, List.setIfInBounds_toArray, List.set_cons_zero, List.set_cons_succ]
  refine wpAnyH_take (i := 1) (v := ?_) (by simp only [List.getElem?_toArray, List.getElem?_cons_zero, List.getElem?_cons_succ]; rfl) (by kernel_rfl) (by kernel_rfl) (by kernel_rfl) (fun _ _ _ h => h) (Or.inl ⟨by rfl, ?_⟩) hS ?_
  rotate_left
  · (intro wq hSw; have q_a := hSw.a; have q_b := hSw.b; go_simp; all_goals with_reducible rfl)
  try simp only [Act.put, List.setIfInBounds_toArray, List.set_cons_zero, List.set_cons_succ]
  refine wpAnyH_take (i := 2) (v := ?_) (by simp only [List.getElem?_toArray, List.getElem?_cons_zero, List.getElem?_cons_succ]; rfl) (by kernel_rfl) (by kernel_rfl) (by kernel_rfl) (fun _ _ _ h => h) (Or.inl ⟨by rfl, ?_⟩) hS ?_
  rotate_left
  · (intro wq hSw; go_simp; all_goals with_reducible rfl)
  try simp only [Act.put, List.setIfInBounds_toArray, List.set_cons_zero, List.set_cons_succ]
  refine wpAnyH_take (i := 4) (v := ?_) (by simp only [List.getElem?_toArray, List.getElem?_cons_zero, List.getElem?_cons_succ]; rfl) (by kernel_rfl) (by kernel_rfl) (by kernel_rfl) (fun _ _ _ h => h) (Or.inl ⟨by rfl, ?_⟩) hS ?_
  rotate_left
  · (intro wq hSw; go_simp; all_goals with_reducible rfl)
  try simp only [Act.put, List.setIfInBounds_toArray, List.set_cons_zero, List.set_cons_succ]
  refine wpAnyH_take (i := 5) (v := ?_) (by simp only [List.getElem?_toArray, List.getElem?_cons_zero, List.getElem?_cons_succ]; rfl) (by kernel_rfl) (by kernel_rfl) (by kernel_rfl) (fun _ _ _ h => h) (Or.inl ⟨by rfl, ?_⟩) hS ?_
  rotate_left
  · (intro wq hSw; have q_a := hSw.a; have q_b := hSw.b; go_simp; all_goals with_reducible rfl)
  try simp only [Act.put, List.setIfInBounds_toArray, List.set_cons_zero, List.set_cons_succ]
  refine wpAnyH_take (i := 6) (v := ?_) (by simp only [List.getElem?_toArray, List.getElem?_cons_zero, List.getElem?_cons_succ]; rfl) (by kernel_rfl) (by kernel_rfl) (by kernel_rfl) (fun _ _ _ h => h) (Or.inl ⟨by rfl, ?_⟩) hS ?_
  rotate_left
  · (intro wq hSw; go_simp; all_goals with_reducible rfl)
  try simp only [Act.put, List.setIfInBounds_toArray, List.set_cons_zero, List.set_cons_succ]
  refine wpAnyH_ready (rs := [3]) (by kernel_rfl) (by simp) ?_
  refine AllReadyH.cons (by simp only [List.getElem?_toArray, List.getElem?_cons_zero, List.getElem?_cons_succ]; rfl) (fun K hK => ?_) AllReadyH.nil
  go_simp
  go_at_call 93
  refine (H1.out _).mono ?_
  rintro r wz ⟨rfl, rfl⟩
  go_wp2_with fail
  refine hK.out _ _ hS (fun _ => ?_)
  clear hK K
  try simp only [Act.put, List.setIfInBounds_toArray, List.set_cons_zero, List.set_cons_succ]
  refine wpAnyH_ready (rs := [7]) (by kernel_rfl) (by simp) ?_
  refine AllReadyH.cons (by simp only [List.getElem?_toArray, List.getElem?_cons_zero, List.getElem?_cons_succ]; rfl) (fun K hK => ?_) AllReadyH.nil
  go_simp
  go_at_call 93
  refine (H2.out _).mono ?_
  rintro r wz ⟨rfl, rfl⟩
  go_wp2_with fail
  refine hK.out _ _ hS (fun _ => ?_)
  clear hK K
  try simp only [Act.put, List.setIfInBounds_toArray, List.set_cons_zero, List.set_cons_succ]
  refine wpAnyH_take (i := 8) (v := ?_) (by simp only [List.getElem?_toArray, List.getElem?_cons_zero, List.getElem?_cons_succ]; rfl) (by kernel_rfl) (by kernel_rfl) (by kernel_rfl) (fun _ _ _ h => h) (Or.inl ⟨by rfl, ?_⟩) hS ?_
  rotate_left
  · (intro wq hSw; go_simp; all_goals with_reducible rfl)
  try simp only [Act.put, List.setIfInBounds_toArray, List.set_cons_zero, List.set_cons_succ]
  refine wpAnyH_ready (rs := [9]) (by kernel_rfl) (by simp) ?_
  refine AllReadyH.cons (by simp only [List.getElem?_toArray, List.getElem?_cons_zero, List.getElem?_cons_succ]; rfl) (fun K hK => ?_) AllReadyH.nil
  rw [if_pos (by rfl)]
  go_simp
  refine hK.out _ _ (hS.store hZX _ _) (fun _ => ?_)
  clear hK K
  try simp only [Act.put]
  refine wpAnyH_done (by kernel_rfl) ?_ _
  refine NoPanic.normal ?_
  have hB9 := ((HB2.out.set 0 (.int .i64 R1)).set 1 (.int .i64 R2)).cs (ds := [.int .i64 R1, .int .i64 R2]) rfl
  have hV9 := (HV.out.store hZX (.int .i64 R1) (.int .i64 R2)).m.drew
  generalize (w1.setCell ⟨X, 0, none⟩ (.int .i64 R1)).setCell ⟨X, 1, none⟩ (.int .i64 R2) = w9 at *
  have k0 := hB9.drew.cell (j := 0) rfl; have k1 := hB9.drew.cell (j := 1) rfl
  clear q4 q5 f4 f5 hB9
  go_wp2
  exact bodyPost_ret (v := .agg #[.int .i64 R1, .int .i64 R2]) (by simp [results, Tryd.results69, go_sem, k0, k1]) rfl ⟨rfl, hV9⟩
theorem rcap_any (w : World) (a b k : Int) : Calls Tryd.prog 70 #[.agg #[.int .i64 a, .int .i64 b], .int .i64 k] w fun e w' => e = .returned (.agg #[.int .i64 (Vx.keep a (Vx.capM k)), .int .i64 (Vx.keep b (Vx.capM k))]) ∧ Mod none_ w w' := by
  have hm := Vx.capM_bd k
  have hk : Vx.capM k = if k < 0 then 0 else if k > 1099511627776 then 1099511627776 else k := rfl
  generalize Vx.capM k = m at *
  have h1 := fun q : World => rkeep_any q a m (by omega)
  have h2 := fun q : World => rkeep_any q b m (by omega)
  generalize Vx.keep a m = R1 at *
  generalize Vx.keep b m = R2 at *
  have H1 := Lib.hid h1; have H2 := Lib.hid h2; have HK := Lib.hid hk
  clear h1 h2 hk
  go_enter Tryd.func70, Tryd.ntmps70
  go_upto_region 1 with fail
  obtain ⟨w1, hw1, hV, hB2⟩ := v1_new w a b
  obtain ⟨X, hX⟩ : ∃ X, w.heap.size + 1 = X := ⟨_, rfl⟩
  obtain ⟨Z, hZ⟩ : ∃ Z, w.heap.size = Z := ⟨_, rfl⟩
  rw [hw1]
  simp only [hX] at hB2 ⊢
  simp only [hZ] at hV hX ⊢
  have hZX : Z < X := by omega
  have q4 := hB2.cell (j := 0) rfl; have q5 := hB2.cell (j := 1) rfl
  have f4 := hB2.frozen 0; have f5 := hB2.frozen 1
  have HB2 := Lib.hid hB2; have HV := Lib.hid hV
  clear hB2 hV hw1 hZ hX
  have HMB := Lib.hid hm
  clear hm
  by_cases c1 : k < 0
  · have hk := HK.out
    rw [if_pos c1] at hk
    subst hk
    go_upto_region 6 with fail
    have hS : V1 Z a b w w1.drew := HV.out.none (Mod.refl _ _).drew
    refine wp_region_noPanic ?_
    refine wp_region_held_drew (S := V1 Z a b w) (by kernel_rfl) hS (fun hHeld => ?_)
    clear hHeld
    refine wpAnyH_take (i := 0) (v := ?_) (by simp only [List.getElem?_toArray, List.getElem?_cons_zero]; rfl) (by kernel_rfl) (by kernel_rfl) (by kernel_rfl) (fun _ _ _ h => h) (Or.inl ⟨by rfl, ?_⟩) hS ?_
    rotate_left
    · (intro wq hSw; go_simp; all_goals with_reducible rfl)
    try simp only [Act.put, List.setIfInBounds_toArray, List.set_cons_zero, List.set_cons_succ]
    refine wpAnyH_take (i := 1) (v := ?_) (by simp only [List.getElem?_toArray, List.getElem?_cons_zero, List.getElem?_cons_succ]; rfl) (by kernel_rfl) (by kernel_rfl) (by kernel_rfl) (fun _ _ _ h => h) (Or.inl ⟨by rfl, ?_⟩) hS ?_
    rotate_left
    · (intro wq hSw; have q_a := hSw.a; have q_b := hSw.b; go_simp; all_goals with_reducible rfl)
    try simp only [Act.put, List.setIfInBounds_toArray, List.set_cons_zero, List.set_cons_succ]
    refine wpAnyH_take (i := 2) (v := ?_) (by simp only [List.getElem?_toArray, List.getElem?_cons_zero, List.getElem?_cons_succ]; rfl) (by kernel_rfl) (by kernel_rfl) (by kernel_rfl) (fun _ _ _ h => h) (Or.inl ⟨by rfl, ?_⟩) hS ?_
    rotate_left
    · (intro wq hSw; go_simp; all_goals with_reducible rfl)
    try simp only [Act.put, List.setIfInBounds_toArray, List.set_cons_zero, List.set_cons_succ]
    refine wpAnyH_take (i := 4) (v := ?_) (by simp only [List.getElem?_toArray, List.getElem?_cons_zero, List.getElem?_cons_succ]; rfl) (by kernel_rfl) (by kernel_rfl) (by kernel_rfl) (fun _ _ _ h => h) (Or.inl ⟨by rfl, ?_⟩) hS ?_
    rotate_left
    · (intro wq hSw; go_simp; all_goals with_reducible rfl)
    try simp only [Act.put, List.setIfInBounds_toArray, List.set_cons_zero, List.set_cons_succ]
    refine wpAnyH_take (i := 5) (v := ?_) (by simp only [List.getElem?_toArray, List.getElem?_cons_zero, List.getElem?_cons_succ]; rfl) (by kernel_rfl) (by kernel_rfl) (by kernel_rfl) (fun _ _ _ h => h) (Or.inl ⟨by rfl, ?_⟩) hS ?_
    rotate_left
    · (intro wq hSw; have q_a := hSw.a; have q_b := hSw.b; go_simp; all_goals with_reducible rfl)
    try simp only [Act.put, List.setIfInBounds_toArray, List.set_cons_zero, List.set_cons_succ]
    refine wpAnyH_take (i := 6) (v := ?_) (by simp only [List.getElem?_toArray, List.getElem?_cons_zero, List.getElem?_cons_succ]; rfl) (by kernel_rfl) (by kernel_rfl) (by kernel_rfl) (fun _ _ _ h => h) (Or.inl ⟨by rfl, ?_⟩) hS ?_
    rotate_left
    · (intro wq hSw; go_simp; all_goals with_reducible rfl)
    try simp only [Act.put, List.setIfInBounds_toArray, List.set_cons_zero, List.set_cons_succ]
    refine wpAnyH_ready (rs := [3]) (by kernel_rfl) (by simp) ?_
    refine AllReadyH.cons (by simp only [List.getElem?_toArray, List.getElem?_cons_zero, List.getElem?_cons_succ]; rfl) (fun K hK => ?_) AllReadyH.nil
    go_simp
    go_at_call 89
    refine (H1.out _).mono ?_
    rintro r wz ⟨rfl, rfl⟩
    go_wp2_with fail
    refine hK.out _ _ hS (fun _ => ?_)
    clear hK K
    try simp only [Act.put, List.setIfInBounds_toArray, List.set_cons_zero, List.set_cons_succ]
    refine wpAnyH_ready (rs := [7]) (by kernel_rfl) (by simp) ?_
    refine AllReadyH.cons (by simp only [List.getElem?_toArray, List.getElem?_cons_zero, List.getElem?_cons_succ]; rfl) (fun K hK => ?_) AllReadyH.nil
    go_simp
    go_at_call 89
    refine (H2.out _).mono ?_
    rintro r wz ⟨rfl, rfl⟩
    go_wp2_with fail
    refine hK.out _ _ hS (fun _ => ?_)
    clear hK K
    try simp only [Act.put, List.setIfInBounds_toArray, List.set_cons_zero, List.set_cons_succ]
    refine wpAnyH_take (i := 8) (v := ?_) (by simp only [List.getElem?_toArray, List.getElem?_cons_zero, List.getElem?_cons_succ]; rfl) (by kernel_rfl) (by kernel_rfl) (by kernel_rfl) (fun _ _ _ h => h) (Or.inl ⟨by rfl, ?_⟩) hS ?_
    rotate_left
    · (intro wq hSw; go_simp; all_goals with_reducible rfl)
    try simp only [Act.put, List.setIfInBounds_toArray, List.set_cons_zero, List.set_cons_succ]
    refine wpAnyH_ready (rs := [9]) (by kernel_rfl) (by simp) ?_
    refine AllReadyH.cons (by simp only [List.getElem?_toArray, List.getElem?_cons_zero, List.getElem?_cons_succ]; rfl) (fun K hK => ?_) AllReadyH.nil
    rw [if_pos (by rfl)]
    go_simp
    refine hK.out _ _ (hS.store hZX _ _) (fun _ => ?_)
    clear hK K
    try simp only [Act.put]
    refine wpAnyH_done (by kernel_rfl) ?_ _
    refine NoPanic.normal ?_
    have hB9 := ((HB2.out.set 0 (.int .i64 R1)).set 1 (.int .i64 R2)).cs (ds := [.int .i64 R1, .int .i64 R2]) rfl
    have hV9 := (HV.out.store hZX (.int .i64 R1) (.int .i64 R2)).m.drew
    generalize (w1.setCell ⟨X, 0, none⟩ (.int .i64 R1)).setCell ⟨X, 1, none⟩ (.int .i64 R2) = w9 at *
    have k0 := hB9.drew.cell (j := 0) rfl; have k1 := hB9.drew.cell (j := 1) rfl
    clear q4 q5 f4 f5 hB9
    go_wp2
    exact bodyPost_ret (v := .agg #[.int .i64 R1, .int .i64 R2]) (by simp [results, Tryd.results70, go_sem, k0, k1]) rfl ⟨rfl, hV9⟩
  · have hk := HK.out
    rw [if_neg c1] at hk
    by_cases c2 : 1099511627776 < k
    · rw [if_pos (show k > 1099511627776 from c2)] at hk
      subst hk
      go_upto_region 6 with fail
      have hS : V1 Z a b w w1.drew := HV.out.none (Mod.refl _ _).drew
      refine wp_region_noPanic ?_
      refine wp_region_held_drew (S := V1 Z a b w) (by kernel_rfl) hS (fun hHeld => ?_)
      clear hHeld
      refine wpAnyH_take (i := 0) (v := ?_) (by simp only [List.getElem?_toArray, List.getElem?_cons_zero]; rfl) (by kernel_rfl) (by kernel_rfl) (by kernel_rfl) (fun _ _ _ h => h) (Or.inl ⟨by rfl, ?_⟩) hS ?_
      rotate_left
      · (intro wq hSw; go_simp; all_goals with_reducible rfl)
      try simp only [Act.put, List.setIfInBounds_toArray, List.set_cons_zero, List.set_cons_succ]
      refine wpAnyH_take (i := 1) (v := ?_) (by simp only [List.getElem?_toArray, List.getElem?_cons_zero, List.getElem?_cons_succ]; rfl) (by kernel_rfl) (by kernel_rfl) (by kernel_rfl) (fun _ _ _ h => h) (Or.inl ⟨by rfl, ?_⟩) hS ?_
      rotate_left
      · (intro wq hSw; have q_a := hSw.a; have q_b := hSw.b; go_simp; all_goals with_reducible rfl)
      try simp only [Act.put, List.setIfInBounds_toArray, List.set_cons_zero, List.set_cons_succ]
      refine wpAnyH_take (i := 2) (v := ?_) (by simp only [List.getElem?_toArray, List.getElem?_cons_zero, List.getElem?_cons_succ]; rfl) (by kernel_rfl) (by kernel_rfl) (by kernel_rfl) (fun _ _ _ h => h) (Or.inl ⟨by rfl, ?_⟩) hS ?_
      rotate_left
      · (intro wq hSw; go_simp; all_goals with_reducible rfl)
      try simp only [Act.put, List.setIfInBounds_toArray, List.set_cons_zero, List.set_cons_succ]
      refine wpAnyH_take (i := 4) (v := ?_) (by simp only [List.getElem?_toArray, List.getElem?_cons_zero, List.getElem?_cons_succ]; rfl) (by kernel_rfl) (by kernel_rfl) (by kernel_rfl) (fun _ _ _ h => h) (Or.inl ⟨by rfl, ?_⟩) hS ?_
      rotate_left
      · (intro wq hSw; go_simp; all_goals with_reducible rfl)
      try simp only [Act.put, List.setIfInBounds_toArray, List.set_cons_zero, List.set_cons_succ]
      refine wpAnyH_take (i := 5) (v := ?_) (by simp only [List.getElem?_toArray, List.getElem?_cons_zero, List.getElem?_cons_succ]; rfl) (by kernel_rfl) (by kernel_rfl) (by kernel_rfl) (fun _ _ _ h => h) (Or.inl ⟨by rfl, ?_⟩) hS ?_
      rotate_left
      · (intro wq hSw; have q_a := hSw.a; have q_b := hSw.b; go_simp; all_goals with_reducible rfl)
      try simp only [Act.put, List.setIfInBounds_toArray, List.set_cons_zero, List.set_cons_succ]
      refine wpAnyH_take (i := 6) (v := ?_) (by simp only [List.getElem?_toArray, List.getElem?_cons_zero, List.getElem?_cons_succ]; rfl) (by kernel_rfl) (by kernel_rfl) (by kernel_rfl) (fun _ _ _ h => h) (Or.inl ⟨by rfl, ?_⟩) hS ?_
      rotate_left
      · (intro wq hSw; go_simp; all_goals with_reducible rfl)
      try simp only [Act.put, List.setIfInBounds_toArray, List.set_cons_zero, List.set_cons_succ]
      refine wpAnyH_ready (rs := [3]) (by kernel_rfl) (by simp) ?_
      refine AllReadyH.cons (by simp only [List.getElem?_toArray, List.getElem?_cons_zero, List.getElem?_cons_succ]; rfl) (fun K hK => ?_) AllReadyH.nil
      go_simp
      go_at_call 89
      refine (H1.out _).mono ?_
      rintro r wz ⟨rfl, rfl⟩
      go_wp2_with fail
      refine hK.out _ _ hS (fun _ => ?_)
      clear hK K
      try simp only [Act.put, List.setIfInBounds_toArray, List.set_cons_zero, List.set_cons_succ]
      refine wpAnyH_ready (rs := [7]) (by kernel_rfl) (by simp) ?_
      refine AllReadyH.cons (by simp only [List.getElem?_toArray, List.getElem?_cons_zero, List.getElem?_cons_succ]; rfl) (fun K hK => ?_) AllReadyH.nil
      go_simp
      go_at_call 89
      refine (H2.out _).mono ?_
      rintro r wz ⟨rfl, rfl⟩
      go_wp2_with fail
      refine hK.out _ _ hS (fun _ => ?_)
      clear hK K
      try simp only [Act.put, List.setIfInBounds_toArray, List.set_cons_zero, List.set_cons_succ]
      refine wpAnyH_take (i := 8) (v := ?_) (by simp only [List.getElem?_toArray, List.getElem?_cons_zero, List.getElem?_cons_succ]; rfl) (by kernel_rfl) (by kernel_rfl) (by kernel_rfl) (fun _ _ _ h => h) (Or.inl ⟨by rfl, ?_⟩) hS ?_
      rotate_left
      · (intro wq hSw; go_simp; all_goals with_reducible rfl)
      try simp only [Act.put, List.setIfInBounds_toArray, List.set_cons_zero, List.set_cons_succ]
      refine wpAnyH_ready (rs := [9]) (by kernel_rfl) (by simp) ?_
      refine AllReadyH.cons (by simp only [List.getElem?_toArray, List.getElem?_cons_zero, List.getElem?_cons_succ]; rfl) (fun K hK => ?_) AllReadyH.nil
      rw [if_pos (by rfl)]
      go_simp
      refine hK.out _ _ (hS.store hZX _ _) (fun _ => ?_)
      clear hK K
      try simp only [Act.put]
      refine wpAnyH_done (by kernel_rfl) ?_ _
      refine NoPanic.normal ?_
      have hB9 := ((HB2.out.set 0 (.int .i64 R1)).set 1 (.int .i64 R2)).cs (ds := [.int .i64 R1, .int .i64 R2]) rfl
      have hV9 := (HV.out.store hZX (.int .i64 R1) (.int .i64 R2)).m.drew
      generalize (w1.setCell ⟨X, 0, none⟩ (.int .i64 R1)).setCell ⟨X, 1, none⟩ (.int .i64 R2) = w9 at *
      have k0 := hB9.drew.cell (j := 0) rfl; have k1 := hB9.drew.cell (j := 1) rfl
      clear q4 q5 f4 f5 hB9
      go_wp2
      exact bodyPost_ret (v := .agg #[.int .i64 R1, .int .i64 R2]) (by simp [results, Tryd.results70, go_sem, k0, k1]) rfl ⟨rfl, hV9⟩
    · rw [if_neg (show ¬ k > 1099511627776 from c2)] at hk
      subst hk
      go_upto_region 6 with fail
      have hS : V1 Z a b w w1.drew := HV.out.none (Mod.refl _ _).drew
      refine wp_region_noPanic ?_
      refine wp_region_held_drew (S := V1 Z a b w) (by kernel_rfl) hS (fun hHeld => ?_)
      clear hHeld
      refine wpAnyH_take (i := 0) (v := ?_) (by simp only [List.getElem?_toArray, List.getElem?_cons_zero]; rfl) (by kernel_rfl) (by kernel_rfl) (by kernel_rfl) (fun _ _ _ h => h) (Or.inl ⟨by rfl, ?_⟩) hS ?_
      rotate_left
      · (intro wq hSw; go_simp; all_goals with_reducible rfl)
      try simp only [Act.put, List.setIfInBounds_toArray, List.set_cons_zero, List.set_cons_succ]
      refine wpAnyH_take (i := 1) (v := ?_) (by simp only [List.getElem?_toArray, List.getElem?_cons_zero, List.getElem?_cons_succ]; rfl) (by kernel_rfl) (by kernel_rfl) (by kernel_rfl) (fun _ _ _ h => h) (Or.inl ⟨by rfl, ?_⟩) hS ?_
      rotate_left
      · (intro wq hSw; have q_a := hSw.a; have q_b := hSw.b; go_simp; all_goals with_reducible rfl)
      try simp only [Act.put, List.setIfInBounds_toArray, List.set_cons_zero, List.set_cons_succ]
      refine wpAnyH_take (i := 2) (v := ?_) (by simp only [List.getElem?_toArray, List.getElem?_cons_zero, List.getElem?_cons_succ]; rfl) (by kernel_rfl) (by kernel_rfl) (by kernel_rfl) (fun _ _ _ h => h) (Or.inl ⟨by rfl, ?_⟩) hS ?_
      rotate_left
      · (intro wq hSw; go_simp; all_goals with_reducible rfl)
      try simp only [Act.put, List.setIfInBounds_toArray, List.set_cons_zero, List.set_cons_succ]
      refine wpAnyH_take (i := 4) (v := ?_) (by simp only [List.getElem?_toArray, List.getElem?_cons_zero, List.getElem?_cons_succ]; rfl) (by kernel_rfl) (by kernel_rfl) (by kernel_rfl) (fun _ _ _ h => h) (Or.inl ⟨by rfl, ?_⟩) hS ?_
      rotate_left
      · (intro wq hSw; go_simp; all_goals with_reducible rfl)
      try simp only [Act.put, List.setIfInBounds_toArray, List.set_cons_zero, List.set_cons_succ]
      refine wpAnyH_take (i := 5) (v := ?_) (by simp only [List.getElem?_toArray, List.getElem?_cons_zero, List.getElem?_cons_succ]; rfl) (by kernel_rfl) (by kernel_rfl) (by kernel_rfl) (fun _ _ _ h => h) (Or.inl ⟨by rfl, ?_⟩) hS ?_
      rotate_left
      · (intro wq hSw; have q_a := hSw.a; have q_b := hSw.b; go_simp; all_goals with_reducible rfl)
      try simp only [Act.put, List.setIfInBounds_toArray, List.set_cons_zero, List.set_cons_succ]
      refine wpAnyH_take (i := 6) (v := ?_) (by simp only [List.getElem?_toArray, List.getElem?_cons_zero, List.getElem?_cons_succ]; rfl) (by kernel_rfl) (by kernel_rfl) (by kernel_rfl) (fun _ _ _ h => h) (Or.inl ⟨by rfl, ?_⟩) hS ?_
      rotate_left
      · (intro wq hSw; go_simp; all_goals with_reducible rfl)
      try simp only [Act.put, List.setIfInBounds_toArray, List.set_cons_zero, List.set_cons_succ]
      refine wpAnyH_ready (rs := [3]) (by kernel_rfl) (by simp) ?_
      refine AllReadyH.cons (by simp only [List.getElem?_toArray, List.getElem?_cons_zero, List.getElem?_cons_succ]; rfl) (fun K hK => ?_) AllReadyH.nil
      go_simp
      go_at_call 89
      refine (H1.out _).mono ?_
      rintro r wz ⟨rfl, rfl⟩
      go_wp2_with fail
      refine hK.out _ _ hS (fun _ => ?_)
      clear hK K
      try simp only [Act.put, List.setIfInBounds_toArray, List.set_cons_zero, List.set_cons_succ]
      refine wpAnyH_ready (rs := [7]) (by kernel_rfl) (by simp) ?_
      refine AllReadyH.cons (by simp only [List.getElem?_toArray, List.getElem?_cons_zero, List.getElem?_cons_succ]; rfl) (fun K hK => ?_) AllReadyH.nil
      go_simp
      go_at_call 89
      refine (H2.out _).mono ?_
      rintro r wz ⟨rfl, rfl⟩
      go_wp2_with fail
      refine hK.out _ _ hS (fun _ => ?_)
      clear hK K
      try simp only [Act.put, List.setIfInBounds_toArray, List.set_cons_zero, List.set_cons_succ]
      refine wpAnyH_take (i := 8) (v := ?_) (by simp only [List.getElem?_toArray, List.getElem?_cons_zero, List.getElem?_cons_succ]; rfl) (by kernel_rfl) (by kernel_rfl) (by kernel_rfl) (fun _ _ _ h => h) (Or.inl ⟨by rfl, ?_⟩) hS ?_
      rotate_left
      · (intro wq hSw; go_simp; all_goals with_reducible rfl)
      try simp only [Act.put, List.setIfInBounds_toArray, List.set_cons_zero, List.set_cons_succ]
      refine wpAnyH_ready (rs := [9]) (by kernel_rfl) (by simp) ?_
      refine AllReadyH.cons (by simp only [List.getElem?_toArray, List.getElem?_cons_zero, List.getElem?_cons_succ]; rfl) (fun K hK => ?_) AllReadyH.nil
      rw [if_pos (by rfl)]
      go_simp
      refine hK.out _ _ (hS.store hZX _ _) (fun _ => ?_)
      clear hK K
      try simp only [Act.put]
      refine wpAnyH_done (by kernel_rfl) ?_ _
      refine NoPanic.normal ?_
      have hB9 := ((HB2.out.set 0 (.int .i64 R1)).set 1 (.int .i64 R2)).cs (ds := [.int .i64 R1, .int .i64 R2]) rfl
      have hV9 := (HV.out.store hZX (.int .i64 R1) (.int .i64 R2)).m.drew
      generalize (w1.setCell ⟨X, 0, none⟩ (.int .i64 R1)).setCell ⟨X, 1, none⟩ (.int .i64 R2) = w9 at *
      have k0 := hB9.drew.cell (j := 0) rfl; have k1 := hB9.drew.cell (j := 1) rfl
      clear q4 q5 f4 f5 hB9
      go_wp2
      exact bodyPost_ret (v := .agg #[.int .i64 R1, .int .i64 R2]) (by simp [results, Tryd.results70, go_sem, k0, k1]) rfl ⟨rfl, hV9⟩
theorem rdist_any (w : World) (a b c d : Int) (ha : Bd.I64 a) (hb : Bd.I64 b) (hc : Bd.I64 c) (hd : Bd.I64 d) : Calls Tryd.prog 107 #[.agg #[.int .i64 a, .int .i64 b], .agg #[.int .i64 c, .int .i64 d]] w fun e w' => e = .returned (.int .i64 (Vx.dist a b c d)) ∧ Mod none_ w w' := by
  have h1 := fun q : World => rless_any q a c 2147483647 ha hc (by decide)
  have h2 := fun q : World => rless_any q b d 2147483647 hb hd (by decide)
  have k1 : Vx.keep (a - c) 2147483647 = Vx.dif a c := rfl
  have k2 : Vx.keep (b - d) 2147483647 = Vx.dif b d := rfl
  simp only [k1] at h1
  simp only [k2] at h2
  have b1 := Vx.sq_bd (Vx.dif_bd a c)
  have b2 := Vx.sq_bd (Vx.dif_bd b d)
  have hr : Vx.dist a b c d = Vx.dif a c * Vx.dif a c + Vx.dif b d * Vx.dif b d := by
    unfold Vx.dist
    rw [Vx.dif_neg c a, Vx.dif_neg d b, Vx.sq_neg, Vx.sq_neg]
    rfl
  unfold Vx.sq at b1 b2
  rw [hr]
  clear hr k1 k2
  generalize Vx.dif a c = R1 at *
  generalize Vx.dif b d = R2 at *
  have e1 : IntKind.i64.wrap (R1 * R1) = R1 * R1 := wrap_in _ (by unfold Bd.I64; omega)
  have e2 : IntKind.i64.wrap (R2 * R2) = R2 * R2 := wrap_in _ (by unfold Bd.I64; omega)
  have e3 : IntKind.i64.wrap (R1 * R1 + R2 * R2) = R1 * R1 + R2 * R2 := wrap_in _ (by unfold Bd.I64; omega)
  have H1 := Lib.hid h1; have H2 := Lib.hid h2
  clear h1 h2 b1 b2 ha hb hc hd
  go_enter Tryd.func107, Tryd.ntmps107
  go_upto_region 1 with fail
  obtain ⟨w1, hw1, hV⟩ := v2_box w a b c d
  obtain ⟨Z, hZ⟩ : ∃ Z, w.heap.size = Z := ⟨_, rfl⟩
  rw [hw1]
  simp only [hZ] at hV ⊢
  have p0 := hV.a; have p1 := hV.b; have p2 := hV.c; have p3 := hV.d
  have HV := Lib.hid hV
  clear hV hw1 hZ
  go_wp2_with (first | (go_at_call 113; (with_reducible refine (H1.out _).mono ?_); rintro r wz ⟨rfl, hwz⟩; replace hwz := hwz.symm; subst hwz) | (go_at_call 113; (with_reducible refine (H2.out _).mono ?_); rintro r wz ⟨rfl, hwz⟩; replace hwz := hwz.symm; subst hwz))
  go_ret
  exact ⟨rfl, HV.out.m⟩
theorem rnear_any (w : World) (a b c d r : Int) (ha : Bd.I64 a) (hb : Bd.I64 b) (hc : Bd.I64 c) (hd : Bd.I64 d) : Calls Tryd.prog 86 #[.agg #[.int .i64 a, .int .i64 b], .agg #[.int .i64 c, .int .i64 d], .int .i64 r] w fun e w' => e = .returned (.bool (Vx.nearB a b c d r)) ∧ Mod none_ w w' := by
  have h1 := fun q : World => rdist_any q a b c d ha hb hc hd
  have hr : Vx.nearB a b c d r = if r < 0 then false else if r ≥ 3037000500 then true else decide (Vx.dist a b c d ≤ r * r) := rfl
  rw [hr]
  clear hr
  generalize Vx.dist a b c d = D at *
  have H1 := Lib.hid h1
  clear h1 ha hb hc hd
  by_cases c1 : r < 0
  · rw [if_pos c1]
    go_enter Tryd.func86, Tryd.ntmps86
    go_wp2
    go_ret
    exact ⟨rfl, ((Mod.refl none_ w).alloc _).alloc _⟩
  · rw [if_neg c1]
    by_cases c2 : r ≥ 3037000500
    · rw [if_pos c2]
      have c3 : (3037000500 : Int) ≤ r := c2
      go_enter Tryd.func86, Tryd.ntmps86
      go_wp2
      go_ret
      exact ⟨rfl, ((Mod.refl none_ w).alloc _).alloc _⟩
    · rw [if_neg c2]
      have c3 : ¬ (3037000500 : Int) ≤ r := c2
      have hm := Vx.mul_bd (show 0 ≤ r ∧ r ≤ 3037000499 by omega) (show 0 ≤ r ∧ r ≤ 3037000499 by omega)
      have e1 : IntKind.i64.wrap (r * r) = r * r := wrap_in _ (by unfold Bd.I64; omega)
      clear hm c2
      go_enter Tryd.func86, Tryd.ntmps86
      go_upto_region 3 with fail
      obtain ⟨w1, hw1, hV⟩ := v2_box w a b c d
      obtain ⟨Z, hZ⟩ : ∃ Z, w.heap.size = Z := ⟨_, rfl⟩
      rw [hw1]
      simp only [hZ] at hV ⊢
      have p0 := hV.a; have p1 := hV.b; have p2 := hV.c; have p3 := hV.d
      have HV := Lib.hid hV
      clear hV hw1 hZ
      go_wp2_with (go_at_call 107; refine (H1.out _).mono ?_; rintro r wz ⟨rfl, hM2⟩)
      go_ret
      exact ⟨rfl, HV.out.m.then hM2⟩
theorem rturn_any (w : World) (a b : Int) : Calls Tryd.prog 66 #[.int .i64 a, .int .i64 b] w fun e w' => e = .returned (.int .i64 ((a + b) % 256)) ∧ w' = w := by
  obtain ⟨s, hs⟩ : ∃ t, Int.tmod a 256 = t := ⟨_, rfl⟩
  obtain ⟨t, ht⟩ : ∃ t, Int.tmod b 256 = t := ⟨_, rfl⟩
  have h1 := Int.lt_tmod_of_pos a (by decide : (0 : Int) < 256)
  have h2 := Int.tmod_lt_of_pos a (by decide : (0 : Int) < 256)
  have h3 := Int.mul_tdiv_add_tmod a 256
  have h4 := Int.lt_tmod_of_pos b (by decide : (0 : Int) < 256)
  have h5 := Int.tmod_lt_of_pos b (by decide : (0 : Int) < 256)
  have h6 := Int.mul_tdiv_add_tmod b 256
  rw [hs] at h1 h2 h3
  rw [ht] at h4 h5 h6
  have e1 : IntKind.i64.wrap (s + t) = s + t := wrap_in _ (by unfold Bd.I64; omega)
  have e2 : IntKind.i64.wrap (s + t + 512) = s + t + 512 := wrap_in _ (by unfold Bd.I64; omega)
  obtain ⟨R, hR⟩ : ∃ R, Int.tmod (s + t + 512) 256 = R := ⟨_, rfl⟩
  have hRv : R = (a + b) % 256 := by rw [← hR, Vx.tmod_pos (by omega)]; omega
  rw [← hRv]
  clear h1 h2 h3 h4 h5 h6 hRv
  go_enter Tryd.func66, Tryd.ntmps66
  go_wp2
  go_ret
  exact ⟨rfl, rfl⟩
theorem runit_any (w : World) (h : Int) : Calls Tryd.prog 50 #[.int .i64 h] w fun e w' => e = .returned (.agg #[.int .i64 (sinT (h + 64)), .int .i64 (sinT h)]) ∧ Mod none_ w w' := by
  have h1 := fun q => r3cos_any q h
  have h2 := fun q => r3sin_any q h
  generalize sinT (h + 64) = C at *
  generalize sinT h = S at *
  have H1 := Lib.hid h1; have H2 := Lib.hid h2
  clear h1 h2
  go_enter Tryd.func50, Tryd.ntmps50
  go_wp2_with fail
  refine (H1.out _).mono ?_
  rintro e w1 ⟨rfl, hM⟩
  have hB1 := hM.blk (Blk.new w [.int .i64 0, .int .i64 0] 23) (fun h => h)
  have HM1 := Lib.hid (((Mod.refl none_ w).alloc (.cells #[.int .i64 0, .int .i64 0] 23)).then hM); have HB1 := Lib.hid hB1
  obtain ⟨X, hX⟩ : ∃ X, w.heap.size = X := ⟨_, rfl⟩
  rw [hX] at HB1 ⊢
  clear hM hB1
  go_wp2_with fail
  refine (H2.out _).mono ?_
  rintro e w2 ⟨rfl, hM⟩
  have hB2 := hM.blk HB1.out (fun h => h)
  have q4 := hB2.cell (j := 0) rfl; have q5 := hB2.cell (j := 1) rfl
  have f4 := hB2.frozen 0; have f5 := hB2.frozen 1
  have hB9 := ((hB2.set 0 (.int .i64 C)).set 1 (.int .i64 S)).cs (ds := [.int .i64 C, .int .i64 S]) rfl
  have hV9 := ((HM1.out.then hM).setCell (p := ⟨X, 0, none⟩) (fun h => by have : X < w.heap.size := h; omega) (.int .i64 C)).setCell (p := ⟨X, 1, none⟩) (fun h => by have : X < w.heap.size := h; omega) (.int .i64 S)
  have HV9 := Lib.hid hV9; have HB9 := Lib.hid hB9
  clear hM hB2 hB9 hV9 hX
  go_wp2_with fail
  have hB9 := HB9.out
  have hV9 := HV9.out
  generalize (w2.setCell ⟨X, 0, none⟩ (.int .i64 C)).setCell ⟨X, 1, none⟩ (.int .i64 S) = w9 at *
  have k0 := hB9.cell (j := 0) rfl; have k1 := hB9.cell (j := 1) rfl
  clear q4 q5 f4 f5 hB9 HB9 HV9
  exact bodyPost_ret (v := .agg #[.int .i64 C, .int .i64 S]) (by simp [results, Tryd.results50, go_sem, k0, k1]) rfl ⟨rfl, hV9⟩
theorem tdown (a b q m : Int) (hb : 0 < b) (e1 : Int.tdiv a b = q) (e2 : Int.tmod a b = m) : a / b = if m < 0 then q - 1 else q := by
  have h1 := Int.lt_tmod_of_pos a hb
  have h2 := Int.tmod_lt_of_pos a hb
  have h3 := Int.mul_tdiv_add_tmod a b
  rw [e2] at h1 h2 h3
  rw [e1] at h3
  split
  · have : a = (m + b) + b * (q - 1) := by rw [← h3]; grind
    rw [this, Int.add_mul_ediv_left _ _ (by omega), Int.ediv_eq_zero_of_lt (by omega) (by omega)]
    omega
  · have : a = m + b * q := by rw [← h3]; grind
    rw [this, Int.add_mul_ediv_left _ _ (by omega), Int.ediv_eq_zero_of_lt (by omega) (by omega)]
    omega
theorem quarter_any (w : World) (x : Int) (hx : Bd.I64 x) : Calls Tryd.prog 56 #[.int .i64 x] w fun e w' => e = .returned (.int .i64 (x / 4)) ∧ w' = w := by
  obtain ⟨q, e1⟩ : ∃ q, Int.tdiv x 4 = q := ⟨_, rfl⟩
  obtain ⟨m, e2⟩ : ∃ q, Int.tmod x 4 = q := ⟨_, rfl⟩
  have hd := tdown x 4 q m (by decide) e1 e2
  unfold Bd.I64 at hx
  have hq1 : -4611686018427387904 ≤ q := by split at hd <;> omega
  have hq2 : q ≤ 4611686018427387904 := by split at hd <;> omega
  by_cases c : m < 0
  · rw [if_pos c] at hd
    rw [hd]
    clear hd hx
    go_enter Tryd.func56, Tryd.ntmps56
    go_wp2
    go_ret
    exact ⟨rfl, rfl⟩
  · rw [if_neg c] at hd
    rw [hd]
    clear hd hx
    go_enter Tryd.func56, Tryd.ntmps56
    go_wp2
    go_ret
    exact ⟨rfl, rfl⟩
theorem rdown_any (w : World) (a b : Int) (ha : Bd.I64 a) (hb : 0 < b ∧ b ≤ 1000000) : Calls Tryd.prog 67 #[.int .i64 a, .int .i64 b] w fun e w' => e = .returned (.int .i64 (a / b)) ∧ w' = w := by
  obtain ⟨q, e1⟩ : ∃ q, Int.tdiv a b = q := ⟨_, rfl⟩
  obtain ⟨m, e2⟩ : ∃ q, Int.tmod a b = q := ⟨_, rfl⟩
  have hd := tdown a b q m hb.1 e1 e2
  have hb0 : ¬ b = 0 := by omega
  have hb1 : ¬ b = -1 := by omega
  have hq : -9223372036854775808 ≤ a / b ∧ a / b ≤ 9223372036854775807 := by
    unfold Bd.I64 at ha
    constructor
    · have := (Int.le_ediv_iff_mul_le (a := -9223372036854775808) (b := a) hb.1).2 (by
        have : -9223372036854775808 * b ≤ -9223372036854775808 * 1 := Int.mul_le_mul_of_nonpos_left (by omega) (by omega)
        omega)
      exact this
    · by_cases h : 0 ≤ a
      · have := Int.ediv_le_self b h
        omega
      · have := Int.ediv_neg_of_neg_of_pos (show a < 0 by omega) hb.1
        omega
  have hq1 : -9223372036854775808 ≤ q := by split at hd <;> omega
  by_cases c : m < 0
  · rw [if_pos c] at hd
    have hq2 : q - 1 ≤ 9223372036854775806 := by
      by_cases h : 0 ≤ a
      · have := Int.tmod_nonneg b h
        omega
      · have := Int.ediv_neg_of_neg_of_pos (show a < 0 by omega) hb.1
        omega
    have hq3 : -9223372036854775808 ≤ q - 1 := by omega
    rw [hd]
    clear hd hq ha
    go_enter Tryd.func67, Tryd.ntmps67
    go_wp2
    go_ret
    exact ⟨rfl, rfl⟩
  · rw [if_neg c] at hd
    have hq2 : q ≤ 9223372036854775807 := by omega
    rw [hd]
    clear hd hq ha
    go_enter Tryd.func67, Tryd.ntmps67
    go_wp2
    go_ret
    exact ⟨rfl, rfl⟩
theorem rmore_any (w : World) (x n most : Int) (hx : Bd.I64 x) (hn : 0 ≤ n ∧ n ≤ 1000) (hm : 0 ≤ most ∧ most ≤ 1000) : Calls Tryd.prog 85 #[.int .i64 x, .int .i64 n, .int .i64 most] w fun e w' => e = .returned (.int .i64 (if most < x + n then most else x + n)) ∧ w' = w := by
  unfold Bd.I64 at hx
  by_cases c1 : most ≤ x
  · obtain ⟨R, hR⟩ : ∃ R, (if most < x + n then most else x + n) = R := ⟨_, rfl⟩
    have h1 : R = most := by rw [← hR]; split <;> omega
    rw [hR, h1]
    clear hR h1
    go_enter Tryd.func85, Tryd.ntmps85
    go_wp2
    go_ret
    exact ⟨rfl, rfl⟩
  · have e1 : IntKind.i64.wrap (x + n) = x + n := wrap_in _ (by unfold Bd.I64; omega)
    by_cases c2 : most < x + n
    · rw [if_pos c2]
      go_enter Tryd.func85, Tryd.ntmps85
      go_wp2
      go_ret
      exact ⟨rfl, rfl⟩
    · rw [if_neg c2]
      go_enter Tryd.func85, Tryd.ntmps85
      go_wp2
      go_ret
      exact ⟨rfl, rfl⟩
end Go.Proofs.YtinjlkceplhibaaDoor
