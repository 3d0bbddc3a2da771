/- Shots: the document's Move: the walk. -/
import Derived.Test.YtinjlkceplhibaaDoorShE
namespace Go.Proofs.YtinjlkceplhibaaDoor
open Go.RowKit

theorem metI_some {s : Sh} {L : List Cr} {i : Nat} (h : firstHit s 0 L = some i) : metI s 0 L = (i : Int) := by
  unfold metI
  rw [h]
theorem metI_none {s : Sh} {L : List Cr} (h : firstHit s 0 L = none) : metI s 0 L = -1 := by
  unfold metI
  rw [h]
theorem goOn_some {W H : Nat} {E : List Int} {L : List Cr} {k i : Nat} {s : Sh} (h : firstHit s 0 L = some i) : goOn W H E L k 0 s = (s, (i : Int), false) := by
  unfold goOn
  rw [List.drop_zero, h]
theorem goOn_none {W H : Nat} {E : List Int} {L : List Cr} {k : Nat} {s : Sh} (h : firstHit s 0 L = none) : goOn W H E L k 0 s = flight W H E L k s := by
  unfold goOn
  rw [List.drop_zero, h]
/-- what a quarter keeps throughout -/
structure MoV (Z : Nat) (sx sy : Int) (w0 q : World) : Prop where
  sx : q.cell? ⟨Z, 4, none⟩ = some (.int .i64 sx)
  sy : q.cell? ⟨Z, 5, none⟩ = some (.int .i64 sy)
  m : Mod none_ w0 q
theorem MoS.v {Z X : Nat} {t : Sh} {w0 q : World} (s : MoS Z X t w0 q) : MoV Z t.sx t.sy w0 q := ⟨s.shot.cell (j := 4) rfl, s.shot.cell (j := 5) rfl, s.m⟩
theorem MoS.setc {Z X : Nat} {t t' : Sh} {w0 q : World} (s : MoS Z X t w0 q) (j : Nat) (v : Value) (hz : w0.heap.size ≤ Z ∧ Z ≠ X) (hc : t.cells.set j v = t'.cells) : MoS Z X t' w0 (q.setCell ⟨Z, j, Option.none⟩ v) :=
  ⟨hc ▸ (s.shot.set j v).cs rfl, s.x.set_other (fun e => hz.2 e.symm) _, s.m.setCell (p := ⟨Z, j, Option.none⟩) (fun h => by have : Z < w0.heap.size := h; omega) _⟩
theorem MoS.w {Z X : Nat} {t : Sh} {w0 q : World} (s : MoS Z X t w0 q) {sx sy : Int} (hx : t.sx = sx) (hy : t.sy = sy) : MoV Z sx sy w0 q := by rw [← hx, ← hy]; exact s.v
theorem rshot_new (w : World) (s : Sh) : ∃ w1, (w.alloc (.cells s.cells.toArray 28)).alloc (.cells #[.int .i64 0, .int .i64 0, .int .i64 0, .int .i64 0, .int .i64 0, .int .i64 0, .int .i64 0] 28) = w1 ∧ MoS w.heap.size (w.heap.size + 1) s w w1 := shot_new w s
set_option maxHeartbeats 4000000 in
set_option maxRecDepth 100000 in
theorem rmove_any (w : World) {b W H : Nat} {E : List Int} (hb : RBrd w b W H E) (sa : Option Addr) (n cp : Nat) (L : List Cr) (hn : L.length = n) (hn2 : n ≤ 9223372036854775807) (hL : Crs w w.heap.size sa L) (s : Sh) (hs : s.Ok) :
    Calls Tryd.prog 23 #[.pointer (some ⟨b, 0, none⟩), .slice sa n cp, s.agg] w fun e w' => e = .returned (.tuple #[(flight W H E L 4 s).1.agg, .int .i64 (flight W H E L 4 s).2.1, .bool (flight W H E L 4 s).2.2]) ∧ Mod none_ w w' := by
  obtain ⟨R, hR⟩ : ∃ R, flight W H E L 4 s = R := ⟨_, rfl⟩
  rw [hR]
  have HR := Lib.hid hR; have HB := Lib.hid hb; have HL := Lib.hid hL; have HN := Lib.hid hn; have HS := Lib.hid hs
  clear hR hb hL hn hs
  unfold Sh.agg
  go_enter Tryd.func23, Tryd.ntmps23
  go_upto_region 1 with fail
  obtain ⟨w1, hw1, hM1⟩ := shot_new w s
  rw [hw1]
  obtain ⟨Z, hZ⟩ : ∃ Z, w.heap.size = Z := ⟨_, rfl⟩
  rw [hZ] at hM1 ⊢
  obtain ⟨X, hX⟩ : ∃ X, Z + 1 = X := ⟨_, rfl⟩
  rw [hX] at hM1 ⊢
  have HZX := Lib.hid (show w.heap.size ≤ Z ∧ w.heap.size ≤ X ∧ Z ≠ X by omega)
  have HM1 := Lib.hid hM1
  clear hM1 hw1 hZ hX
  go_wp2_with fail
  go_loopw [9] (fun v wr => ∃ (k : Nat) (t : Sh), v = .int .i64 k ∧ k ≤ 4 ∧ t.Ok ∧ MoS Z X t w wr ∧ flight W H E L (4 - k) t = R) (fun v _ => 4 - (intOf v).toNat)
  case atStart => exact ⟨0, s, rfl, by omega, HS.out, HM1.out, HR.out⟩
  case round =>
    obtain ⟨k, t, rfl, hk, ht, hM, hfl⟩ := hrel
    have HT := Lib.hid ht; have HM := Lib.hid hM; have HFL := Lib.hid hfl
    clear ht hM hfl HM1 HR HS
    by_cases hk4 : k < 4
    · have hk4' : (k : Int) < 4 := by omega
      have hso := step_ok HT.out
      have hfl := HFL.out
      obtain ⟨j, hj⟩ : ∃ j, 4 - k = j + 1 := ⟨3 - k, by omega⟩
      have hj2 : j = 4 - (k + 1) := by omega
      rw [hj] at hfl
      have q2 := HM.out.shot.cell (j := 2) rfl; have q3 := HM.out.shot.cell (j := 3) rfl; have q4 := HM.out.shot.cell (j := 4) rfl; have q5 := HM.out.shot.cell (j := 5) rfl
      have g2 := HM.out.shot.frozen 2
      have hqx := fun q : World => quarter_any q t.sx HT.out.sx
      have hqy := fun q : World => quarter_any q t.sy HT.out.sy
      have hsx := fun q : World => rsum_any q t.ax (t.sx / 4) 1099511627776 HT.out.ax (by have := HT.out.sx; unfold Bd.I64 at this ⊢; omega) (by decide)
      have hsy := fun q : World => rsum_any q t.ay (t.sy / 4) 1099511627776 HT.out.ay (by have := HT.out.sy; unfold Bd.I64 at this ⊢; omega) (by decide)
      simp only [Vx.keep_lim] at hsx hsy
      have hst : t.step = { t with ax := Vx.lim (t.ax + t.sx / 4), ay := Vx.lim (t.ay + t.sy / 4) } := rfl
      generalize Vx.lim (t.ax + t.sx / 4) = RX at *
      generalize Vx.lim (t.ay + t.sy / 4) = RY at *
      obtain ⟨u, hu⟩ : ∃ u, t.step = u := ⟨_, rfl⟩
      rw [hu] at hst hso
      have hfw : Bd.atOf W H E u.ax u.ay = 35 → (u, (-1 : Int), false) = R := fun h => by rw [← hfl, flight_wall (by rw [hu]; exact h), hu]
      have hfo : ¬ Bd.atOf W H E u.ax u.ay = 35 → goOn W H E L j 0 u = R := fun h => by rw [← hfl, flight_on (by rw [hu]; exact h), hu]
      have HST := Lib.hid hst; have HSO := Lib.hid hso; have HFW := Lib.hid hfw; have HFO := Lib.hid hfo; have HQX := Lib.hid hqx; have HQY := Lib.hid hqy; have HSX := Lib.hid hsx; have HSY := Lib.hid hsy; have HJ := Lib.hid hj2
      clear hst hso hfl hu HFL hj hj2 hfw hfo hqx hqy hsx hsy
      obtain ⟨wo, rfl⟩ : ∃ wo : World, wo = wr := ⟨_, rfl⟩
      go_upto_region 4 with fail
      have hS : MoV Z t.sx t.sy w wo.drew := (HM.out.none (Mod.refl _ _).drew).v
      go_cut [] (fun wx => MoS Z X { t with ax := RX } w wx)
      case first =>
        refine wp_region_noPanic ?_
        refine wp_region_held_drew (S := MoV Z t.sx t.sy w) (by kernel_rfl) hS (fun hHeld => ?_)
        clear hHeld
        refine wpAnyH_take (i := 0) (v := ?_) (by simp only [List.getElem?_toArray, List.getElem?_cons_zero]; rfl) (by kernel_rfl) (by kernel_rfl) (by kernel_rfl) (fun _ _ _ h => h) (Or.inl ⟨by rfl, ?_⟩) hS ?_
        rotate_left
        · (intro wq hSw; go_simp; all_goals with_reducible rfl)
        try simp only [Act.put, List.setIfInBounds_toArray, List.set_cons_zero, List.set_cons_succ]
        refine wpAnyH_take (i := 1) (v := ?_) (by simp only [List.getElem?_toArray, List.getElem?_cons_zero, List.getElem?_cons_succ]; rfl) (by kernel_rfl) (by kernel_rfl) (by kernel_rfl) (fun _ _ _ h => h) (Or.inl ⟨by rfl, ?_⟩) hS ?_
        rotate_left
        · (intro wq hSw; go_simp; all_goals with_reducible rfl)
        try simp only [Act.put, List.setIfInBounds_toArray, List.set_cons_zero, List.set_cons_succ]
        refine wpAnyH_take (i := 3) (v := ?_) (by simp only [List.getElem?_toArray, List.getElem?_cons_zero, List.getElem?_cons_succ]; rfl) (by kernel_rfl) (by kernel_rfl) (by kernel_rfl) (fun _ _ _ h => h) (Or.inl ⟨by rfl, ?_⟩) hS ?_
        rotate_left
        · (intro wq hSw; go_simp; all_goals with_reducible rfl)
        try simp only [Act.put, List.setIfInBounds_toArray, List.set_cons_zero, List.set_cons_succ]
        refine wpAnyH_take (i := 4) (v := ?_) (by simp only [List.getElem?_toArray, List.getElem?_cons_zero, List.getElem?_cons_succ]; rfl) (by kernel_rfl) (by kernel_rfl) (by kernel_rfl) (fun _ _ _ h => h) (Or.inl ⟨by rfl, ?_⟩) hS ?_
        rotate_left
        · (intro wq hSw; go_simp; all_goals with_reducible rfl)
        try simp only [Act.put, List.setIfInBounds_toArray, List.set_cons_zero, List.set_cons_succ]
        refine wpAnyH_take (i := 5) (v := ?_) (by simp only [List.getElem?_toArray, List.getElem?_cons_zero, List.getElem?_cons_succ]; rfl) (by kernel_rfl) (by kernel_rfl) (by kernel_rfl) (fun _ _ _ h => h) (Or.inl ⟨by rfl, ?_⟩) hS ?_
        rotate_left
        · (intro wq hSw; have q5 := hSw.sx; go_simp; all_goals with_reducible rfl)
        try simp only [Act.put, List.setIfInBounds_toArray, List.set_cons_zero, List.set_cons_succ]
        refine wpAnyH_ready (rs := [2, 6]) (by kernel_rfl) (by simp) ?_
        refine AllReadyH.cons (by simp only [List.getElem?_toArray, List.getElem?_cons_zero, List.getElem?_cons_succ]; rfl) (fun K hK => ?_) (AllReadyH.cons (by simp only [List.getElem?_toArray, List.getElem?_cons_zero, List.getElem?_cons_succ]; rfl) (fun K hK => ?_) (AllReadyH.nil))
        · rw [if_pos (by rfl)]
          go_simp
          refine hK.out _ _ hS (fun _ => ?_)
          clear hK K
          try simp only [Act.put, List.setIfInBounds_toArray, List.set_cons_zero, List.set_cons_succ]
          refine wpAnyH_ready (rs := [6]) (by kernel_rfl) (by simp) ?_
          refine AllReadyH.cons (by simp only [List.getElem?_toArray, List.getElem?_cons_zero, List.getElem?_cons_succ]; rfl) (fun K hK => ?_) (AllReadyH.nil)
          go_simp
          go_at_call 56
          refine (HQX.out _).mono ?_
          rintro r wz ⟨rfl, hwz⟩
          replace hwz := hwz.symm; subst hwz
          go_wp2_with fail
          refine hK.out _ _ hS (fun _ => ?_)
          clear hK K
          try simp only [Act.put, List.setIfInBounds_toArray, List.set_cons_zero, List.set_cons_succ]
          refine wpAnyH_ready (rs := [7]) (by kernel_rfl) (by simp) ?_
          refine AllReadyH.cons (by simp only [List.getElem?_toArray, List.getElem?_cons_zero, List.getElem?_cons_succ]; rfl) (fun K hK => ?_) (AllReadyH.nil)
          go_simp
          go_at_call 51
          refine (HSX.out _).mono ?_
          rintro r wz ⟨rfl, hwz⟩
          replace hwz := hwz.symm; subst hwz
          go_wp2_with fail
          refine hK.out _ _ hS (fun _ => ?_)
          clear hK K
          try simp only [Act.put, List.setIfInBounds_toArray, List.set_cons_zero, List.set_cons_succ]
          refine wpAnyH_take (i := 8) (v := ?_) (by simp only [List.getElem?_toArray, List.getElem?_cons_zero, List.getElem?_cons_succ]; rfl) (by kernel_rfl) (by kernel_rfl) (by kernel_rfl) (fun _ _ _ h => h) (Or.inl ⟨by rfl, ?_⟩) hS ?_
          rotate_left
          · (intro wq hSw; go_simp; all_goals with_reducible rfl)
          try simp only [Act.put, List.setIfInBounds_toArray, List.set_cons_zero, List.set_cons_succ]
          refine wpAnyH_take (i := 9) (v := ?_) (by simp only [List.getElem?_toArray, List.getElem?_cons_zero, List.getElem?_cons_succ]; rfl) (by kernel_rfl) (by kernel_rfl) (by kernel_rfl) (fun _ _ _ h => h) (Or.inl ⟨by rfl, ?_⟩) hS ?_
          rotate_left
          · (intro wq hSw; go_simp; all_goals with_reducible rfl)
          try simp only [Act.put, List.setIfInBounds_toArray, List.set_cons_zero, List.set_cons_succ]
          refine wpAnyH_ready (rs := [10]) (by kernel_rfl) (by simp) ?_
          refine AllReadyH.cons (by simp only [List.getElem?_toArray, List.getElem?_cons_zero, List.getElem?_cons_succ]; rfl) (fun K hK => ?_) (AllReadyH.nil)
          rw [if_pos (by rfl)]
          go_simp
          have hSS := (HM.out.none (Mod.refl _ _).drew).setc (t' := { t with ax := RX }) 2 (.int .i64 RX) ⟨HZX.out.1, HZX.out.2.2⟩ rfl
          refine hK.out _ _ (hSS.w rfl rfl) (fun _ => ?_)
          clear hK K
          try simp only [Act.put]
          refine wpAnyH_done (by kernel_rfl) ?_ _
          refine NoPanic.normal ?_
          try go_wp2
          go_meet
          exact hSS
        · go_simp
          go_at_call 56
          refine (HQX.out _).mono ?_
          rintro r wz ⟨rfl, hwz⟩
          replace hwz := hwz.symm; subst hwz
          go_wp2_with fail
          refine hK.out _ _ hS (fun _ => ?_)
          clear hK K
          try simp only [Act.put, List.setIfInBounds_toArray, List.set_cons_zero, List.set_cons_succ]
          refine wpAnyH_ready (rs := [2]) (by kernel_rfl) (by simp) ?_
          refine AllReadyH.cons (by simp only [List.getElem?_toArray, List.getElem?_cons_zero, List.getElem?_cons_succ]; rfl) (fun K hK => ?_) (AllReadyH.nil)
          rw [if_pos (by rfl)]
          go_simp
          refine hK.out _ _ hS (fun _ => ?_)
          clear hK K
          try simp only [Act.put, List.setIfInBounds_toArray, List.set_cons_zero, List.set_cons_succ]
          refine wpAnyH_ready (rs := [7]) (by kernel_rfl) (by simp) ?_
          refine AllReadyH.cons (by simp only [List.getElem?_toArray, List.getElem?_cons_zero, List.getElem?_cons_succ]; rfl) (fun K hK => ?_) (AllReadyH.nil)
          go_simp
          go_at_call 51
          refine (HSX.out _).mono ?_
          rintro r wz ⟨rfl, hwz⟩
          replace hwz := hwz.symm; subst hwz
          go_wp2_with fail
          refine hK.out _ _ hS (fun _ => ?_)
          clear hK K
          try simp only [Act.put, List.setIfInBounds_toArray, List.set_cons_zero, List.set_cons_succ]
          refine wpAnyH_take (i := 8) (v := ?_) (by simp only [List.getElem?_toArray, List.getElem?_cons_zero, List.getElem?_cons_succ]; rfl) (by kernel_rfl) (by kernel_rfl) (by kernel_rfl) (fun _ _ _ h => h) (Or.inl ⟨by rfl, ?_⟩) hS ?_
          rotate_left
          · (intro wq hSw; go_simp; all_goals with_reducible rfl)
          try simp only [Act.put, List.setIfInBounds_toArray, List.set_cons_zero, List.set_cons_succ]
          refine wpAnyH_take (i := 9) (v := ?_) (by simp only [List.getElem?_toArray, List.getElem?_cons_zero, List.getElem?_cons_succ]; rfl) (by kernel_rfl) (by kernel_rfl) (by kernel_rfl) (fun _ _ _ h => h) (Or.inl ⟨by rfl, ?_⟩) hS ?_
          rotate_left
          · (intro wq hSw; go_simp; all_goals with_reducible rfl)
          try simp only [Act.put, List.setIfInBounds_toArray, List.set_cons_zero, List.set_cons_succ]
          refine wpAnyH_ready (rs := [10]) (by kernel_rfl) (by simp) ?_
          refine AllReadyH.cons (by simp only [List.getElem?_toArray, List.getElem?_cons_zero, List.getElem?_cons_succ]; rfl) (fun K hK => ?_) (AllReadyH.nil)
          rw [if_pos (by rfl)]
          go_simp
          have hSS := (HM.out.none (Mod.refl _ _).drew).setc (t' := { t with ax := RX }) 2 (.int .i64 RX) ⟨HZX.out.1, HZX.out.2.2⟩ rfl
          refine hK.out _ _ (hSS.w rfl rfl) (fun _ => ?_)
          clear hK K
          try simp only [Act.put]
          refine wpAnyH_done (by kernel_rfl) ?_ _
          refine NoPanic.normal ?_
          try go_wp2
          go_meet
          exact hSS
      case rest =>
        clear hS q2 q3 q4 q5 g2 HM
        have HM3 := Lib.hid hcut
        obtain ⟨w3, rfl⟩ : ∃ q, q = wc := ⟨_, rfl⟩
        clear hcut
        have q3 := HM3.out.shot.cell (j := 3) rfl; have q5 := HM3.out.shot.cell (j := 5) rfl
        have g3 := HM3.out.shot.frozen 3
        go_upto_region 5 with fail
        have hS : MoV Z t.sx t.sy w w3.drew := (HM3.out.none (Mod.refl _ _).drew).v
        go_cut [] (fun wx => MoS Z X u w wx)
        case first =>
          refine wp_region_noPanic ?_
          refine wp_region_held_drew (S := MoV Z t.sx t.sy w) (by kernel_rfl) hS (fun hHeld => ?_)
          clear hHeld
          refine wpAnyH_take (i := 0) (v := ?_) (by simp only [List.getElem?_toArray, List.getElem?_cons_zero]; rfl) (by kernel_rfl) (by kernel_rfl) (by kernel_rfl) (fun _ _ _ h => h) (Or.inl ⟨by rfl, ?_⟩) hS ?_
          rotate_left
          · (intro wq hSw; go_simp; all_goals with_reducible rfl)
          try simp only [Act.put, List.setIfInBounds_toArray, List.set_cons_zero, List.set_cons_succ]
          refine wpAnyH_take (i := 1) (v := ?_) (by simp only [List.getElem?_toArray, List.getElem?_cons_zero, List.getElem?_cons_succ]; rfl) (by kernel_rfl) (by kernel_rfl) (by kernel_rfl) (fun _ _ _ h => h) (Or.inl ⟨by rfl, ?_⟩) hS ?_
          rotate_left
          · (intro wq hSw; go_simp; all_goals with_reducible rfl)
          try simp only [Act.put, List.setIfInBounds_toArray, List.set_cons_zero, List.set_cons_succ]
          refine wpAnyH_take (i := 3) (v := ?_) (by simp only [List.getElem?_toArray, List.getElem?_cons_zero, List.getElem?_cons_succ]; rfl) (by kernel_rfl) (by kernel_rfl) (by kernel_rfl) (fun _ _ _ h => h) (Or.inl ⟨by rfl, ?_⟩) hS ?_
          rotate_left
          · (intro wq hSw; go_simp; all_goals with_reducible rfl)
          try simp only [Act.put, List.setIfInBounds_toArray, List.set_cons_zero, List.set_cons_succ]
          refine wpAnyH_take (i := 4) (v := ?_) (by simp only [List.getElem?_toArray, List.getElem?_cons_zero, List.getElem?_cons_succ]; rfl) (by kernel_rfl) (by kernel_rfl) (by kernel_rfl) (fun _ _ _ h => h) (Or.inl ⟨by rfl, ?_⟩) hS ?_
          rotate_left
          · (intro wq hSw; go_simp; all_goals with_reducible rfl)
          try simp only [Act.put, List.setIfInBounds_toArray, List.set_cons_zero, List.set_cons_succ]
          refine wpAnyH_take (i := 5) (v := ?_) (by simp only [List.getElem?_toArray, List.getElem?_cons_zero, List.getElem?_cons_succ]; rfl) (by kernel_rfl) (by kernel_rfl) (by kernel_rfl) (fun _ _ _ h => h) (Or.inl ⟨by rfl, ?_⟩) hS ?_
          rotate_left
          · (intro wq hSw; have q5 := hSw.sy; go_simp; all_goals with_reducible rfl)
          try simp only [Act.put, List.setIfInBounds_toArray, List.set_cons_zero, List.set_cons_succ]
          refine wpAnyH_ready (rs := [2, 6]) (by kernel_rfl) (by simp) ?_
          refine AllReadyH.cons (by simp only [List.getElem?_toArray, List.getElem?_cons_zero, List.getElem?_cons_succ]; rfl) (fun K hK => ?_) (AllReadyH.cons (by simp only [List.getElem?_toArray, List.getElem?_cons_zero, List.getElem?_cons_succ]; rfl) (fun K hK => ?_) (AllReadyH.nil))
          · rw [if_pos (by rfl)]
            go_simp
            refine hK.out _ _ hS (fun _ => ?_)
            clear hK K
            try simp only [Act.put, List.setIfInBounds_toArray, List.set_cons_zero, List.set_cons_succ]
            refine wpAnyH_ready (rs := [6]) (by kernel_rfl) (by simp) ?_
            refine AllReadyH.cons (by simp only [List.getElem?_toArray, List.getElem?_cons_zero, List.getElem?_cons_succ]; rfl) (fun K hK => ?_) (AllReadyH.nil)
            go_simp
            go_at_call 56
            refine (HQY.out _).mono ?_
            rintro r wz ⟨rfl, hwz⟩
            replace hwz := hwz.symm; subst hwz
            go_wp2_with fail
            refine hK.out _ _ hS (fun _ => ?_)
            clear hK K
            try simp only [Act.put, List.setIfInBounds_toArray, List.set_cons_zero, List.set_cons_succ]
            refine wpAnyH_ready (rs := [7]) (by kernel_rfl) (by simp) ?_
            refine AllReadyH.cons (by simp only [List.getElem?_toArray, List.getElem?_cons_zero, List.getElem?_cons_succ]; rfl) (fun K hK => ?_) (AllReadyH.nil)
            go_simp
            go_at_call 51
            refine (HSY.out _).mono ?_
            rintro r wz ⟨rfl, hwz⟩
            replace hwz := hwz.symm; subst hwz
            go_wp2_with fail
            refine hK.out _ _ hS (fun _ => ?_)
            clear hK K
            try simp only [Act.put, List.setIfInBounds_toArray, List.set_cons_zero, List.set_cons_succ]
            refine wpAnyH_take (i := 8) (v := ?_) (by simp only [List.getElem?_toArray, List.getElem?_cons_zero, List.getElem?_cons_succ]; rfl) (by kernel_rfl) (by kernel_rfl) (by kernel_rfl) (fun _ _ _ h => h) (Or.inl ⟨by rfl, ?_⟩) hS ?_
            rotate_left
            · (intro wq hSw; go_simp; all_goals with_reducible rfl)
            try simp only [Act.put, List.setIfInBounds_toArray, List.set_cons_zero, List.set_cons_succ]
            refine wpAnyH_take (i := 9) (v := ?_) (by simp only [List.getElem?_toArray, List.getElem?_cons_zero, List.getElem?_cons_succ]; rfl) (by kernel_rfl) (by kernel_rfl) (by kernel_rfl) (fun _ _ _ h => h) (Or.inl ⟨by rfl, ?_⟩) hS ?_
            rotate_left
            · (intro wq hSw; go_simp; all_goals with_reducible rfl)
            try simp only [Act.put, List.setIfInBounds_toArray, List.set_cons_zero, List.set_cons_succ]
            refine wpAnyH_ready (rs := [10]) (by kernel_rfl) (by simp) ?_
            refine AllReadyH.cons (by simp only [List.getElem?_toArray, List.getElem?_cons_zero, List.getElem?_cons_succ]; rfl) (fun K hK => ?_) (AllReadyH.nil)
            rw [if_pos (by rfl)]
            go_simp
            have hSS := (HM3.out.none (Mod.refl _ _).drew).setc (t' := u) 3 (.int .i64 RY) ⟨HZX.out.1, HZX.out.2.2⟩ (by rw [HST.out]; rfl)
            refine hK.out _ _ (hSS.w (by rw [HST.out]) (by rw [HST.out])) (fun _ => ?_)
            clear hK K
            try simp only [Act.put]
            refine wpAnyH_done (by kernel_rfl) ?_ _
            refine NoPanic.normal ?_
            try go_wp2
            go_meet
            exact hSS
          · go_simp
            go_at_call 56
            refine (HQY.out _).mono ?_
            rintro r wz ⟨rfl, hwz⟩
            replace hwz := hwz.symm; subst hwz
            go_wp2_with fail
            refine hK.out _ _ hS (fun _ => ?_)
            clear hK K
            try simp only [Act.put, List.setIfInBounds_toArray, List.set_cons_zero, List.set_cons_succ]
            refine wpAnyH_ready (rs := [2]) (by kernel_rfl) (by simp) ?_
            refine AllReadyH.cons (by simp only [List.getElem?_toArray, List.getElem?_cons_zero, List.getElem?_cons_succ]; rfl) (fun K hK => ?_) (AllReadyH.nil)
            rw [if_pos (by rfl)]
            go_simp
            refine hK.out _ _ hS (fun _ => ?_)
            clear hK K
            try simp only [Act.put, List.setIfInBounds_toArray, List.set_cons_zero, List.set_cons_succ]
            refine wpAnyH_ready (rs := [7]) (by kernel_rfl) (by simp) ?_
            refine AllReadyH.cons (by simp only [List.getElem?_toArray, List.getElem?_cons_zero, List.getElem?_cons_succ]; rfl) (fun K hK => ?_) (AllReadyH.nil)
            go_simp
            go_at_call 51
            refine (HSY.out _).mono ?_
            rintro r wz ⟨rfl, hwz⟩
            replace hwz := hwz.symm; subst hwz
            go_wp2_with fail
            refine hK.out _ _ hS (fun _ => ?_)
            clear hK K
            try simp only [Act.put, List.setIfInBounds_toArray, List.set_cons_zero, List.set_cons_succ]
            refine wpAnyH_take (i := 8) (v := ?_) (by simp only [List.getElem?_toArray, List.getElem?_cons_zero, List.getElem?_cons_succ]; rfl) (by kernel_rfl) (by kernel_rfl) (by kernel_rfl) (fun _ _ _ h => h) (Or.inl ⟨by rfl, ?_⟩) hS ?_
            rotate_left
            · (intro wq hSw; go_simp; all_goals with_reducible rfl)
            try simp only [Act.put, List.setIfInBounds_toArray, List.set_cons_zero, List.set_cons_succ]
            refine wpAnyH_take (i := 9) (v := ?_) (by simp only [List.getElem?_toArray, List.getElem?_cons_zero, List.getElem?_cons_succ]; rfl) (by kernel_rfl) (by kernel_rfl) (by kernel_rfl) (fun _ _ _ h => h) (Or.inl ⟨by rfl, ?_⟩) hS ?_
            rotate_left
            · (intro wq hSw; go_simp; all_goals with_reducible rfl)
            try simp only [Act.put, List.setIfInBounds_toArray, List.set_cons_zero, List.set_cons_succ]
            refine wpAnyH_ready (rs := [10]) (by kernel_rfl) (by simp) ?_
            refine AllReadyH.cons (by simp only [List.getElem?_toArray, List.getElem?_cons_zero, List.getElem?_cons_succ]; rfl) (fun K hK => ?_) (AllReadyH.nil)
            rw [if_pos (by rfl)]
            go_simp
            have hSS := (HM3.out.none (Mod.refl _ _).drew).setc (t' := u) 3 (.int .i64 RY) ⟨HZX.out.1, HZX.out.2.2⟩ (by rw [HST.out]; rfl)
            refine hK.out _ _ (hSS.w (by rw [HST.out]) (by rw [HST.out])) (fun _ => ?_)
            clear hK K
            try simp only [Act.put]
            refine wpAnyH_done (by kernel_rfl) ?_ _
            refine NoPanic.normal ?_
            try go_wp2
            go_meet
            exact hSS
        case rest =>
          clear hS q3 q5 g3 HM3
          have HM4 := Lib.hid hcut
          obtain ⟨w4, rfl⟩ : ∃ q, q = wc := ⟨_, rfl⟩
          clear hcut
          have hso2 := fun (q : World) (hM : Mod none_ w q) => rsolid_any q (HB.out.mod hM (fun _ _ h => h)) u.ax u.ay HSO.out.ax HSO.out.ay
          have HSOL := Lib.hid hso2
          clear hso2
          have p2 := HM4.out.shot.cell (j := 2) rfl; have p3 := HM4.out.shot.cell (j := 3) rfl
          go_upto_if 38 with (go_at_call 57; refine (HSOL.out _ HM4.out.m).mono ?_; rintro r w5 ⟨rfl, hM5⟩; have HM5 := Lib.hid (HM4.out.none hM5); clear hM5)
          clear p2 p3 HM4
          by_cases hsol : Bd.atOf W H E u.ax u.ay = 35
          · have HE := Lib.hid (HFW.out hsol)
            have hd : decide (Bd.atOf W H E u.ax u.ay = 35) = true := decide_eq_true hsol
            rw [hd]
            clear HFW HFO hsol hd
            go_wp2_with (first | (refine wpList_load_blk rfl 28 (.tmp 5) rfl Z rfl 28 u.cells _ HM5.out.shot under_shot rfl size_shot ?_) | (refine wpList_store_blk rfl 28 (.tmp 6) (.tmp 39) rfl X u.cells rfl rfl 28 _ HM5.out.x size_shot rfl (one_shot u) ?_; intro w6 hX6 hM6 _))
            exact bodyPost_ret (move_back Tryd.results23 _ _ X u (.int .i64 (-1)) (.bool false) rfl hX6 rfl rfl) rfl ⟨by rw [← HE.out]; rfl, HM5.out.m.trans hM6 (fun j hj e => by have : j = X := e; have := HZX.out; omega)⟩
          · have HE := Lib.hid (HFO.out hsol)
            have hd : decide (Bd.atOf W H E u.ax u.ay = 35) = false := decide_eq_false hsol
            rw [hd]
            clear HFW HFO hsol hd
            have hmt := fun (q : World) (hM : Mod none_ w q) => met_any q sa n cp L HN.out hn2 w.heap.size (HL.out.mod hM (fun _ _ h => h)) u HSO.out
            unfold Sh.agg at hmt
            have HMT := Lib.hid hmt
            clear hmt
            have he := HE.out
            cases hf : firstHit u 0 L with
            | some i =>
              rw [goOn_some hf] at he
              have hmi := metI_some hf
              have HE2 := Lib.hid he; have HMI := Lib.hid hmi
              clear he hmi HE hf
              have hi0 : (0 : Int) ≤ (i : Int) := by omega
              go_wp2_with (first | (refine wpList_load_blk rfl 28 (.tmp 5) rfl Z rfl 28 u.cells _ (by first | exact HM6.out.shot | exact HM5.out.shot) under_shot rfl size_shot ?_) | (refine wpList_store_blk rfl 28 (.tmp 6) (.tmp 45) rfl X u.cells rfl rfl 28 _ HM6.out.x size_shot rfl (one_shot u) ?_; intro w7 hX7 hM7 _) | (go_at_call 58; refine (HMT.out _ HM5.out.m).mono ?_; rintro r w6 ⟨rfl, hM6⟩; have HM6 := Lib.hid (HM5.out.none hM6); rw [HMI.out]; clear hM6))
              exact bodyPost_ret (move_back Tryd.results23 _ _ X u (.int .i64 (i : Int)) (.bool false) rfl hX7 rfl rfl) rfl ⟨by rw [← HE2.out]; rfl, HM6.out.m.trans hM7 (fun j hj e => by have : j = X := e; have := HZX.out; omega)⟩
            | none =>
              rw [goOn_none hf, HJ.out] at he
              have hmi := metI_none hf
              have HE2 := Lib.hid he; have HMI := Lib.hid hmi
              clear he hmi HE hf
              go_wp2_with (first | (refine wpList_load_blk rfl 28 (.tmp 5) rfl Z rfl 28 u.cells _ HM5.out.shot under_shot rfl size_shot ?_) | (go_at_call 58; refine (HMT.out _ HM5.out.m).mono ?_; rintro r w6 ⟨rfl, hM6⟩; have HM6 := Lib.hid (HM5.out.none hM6); rw [HMI.out]; clear hM6))
              go_roundw
              case rel => exact ⟨k + 1, u, by go_num, by omega, HSO.out, HM6.out, HE2.out⟩
              case measure => simp [intOf]; omega
    · have hk4' : ¬ (k : Int) < 4 := by omega
      have hk0 : 4 - k = 0 := by omega
      have hfl := HFL.out
      rw [hk0, flight] at hfl
      have HE := Lib.hid hfl
      clear hfl hk0 HFL
      have q6 := HM.out.shot.cell (j := 6) rfl
      have g6 := HM.out.shot.frozen 6
      obtain ⟨LF, hLF⟩ : ∃ x, IntKind.i64.wrap (t.left - 1) = x := ⟨_, rfl⟩
      rw [hLF] at HE
      obtain ⟨wo, rfl⟩ : ∃ wo : World, wo = wr := ⟨_, rfl⟩
      go_upto_region 12 with fail
      obtain ⟨v, hv⟩ : ∃ v : Sh, { t with left := LF } = v := ⟨_, rfl⟩
      rw [hv] at HE
      obtain ⟨w2, hw2, hS, hX⟩ : ∃ w2, wo.setCell ⟨Z, 6, none⟩ (.int .i64 LF) = w2 ∧ MoT Z v w w2.drew ∧ Blk w2.drew X shot0.cells 28 :=
        ⟨_, rfl, MoT.none ⟨by rw [← hv]; exact (HM.out.shot.set 6 _).cs rfl, HM.out.m.setCell (p := ⟨Z, 6, none⟩) (fun h => by have : Z < w.heap.size := h; have := HZX.out; omega) _⟩ (Mod.refl _ _).drew, ((HM.out.x.set_other (fun e => HZX.out.2.2 e.symm) _)).drew⟩
      rw [hw2]
      have hvl : v.left = LF := by rw [← hv]
      have HX := Lib.hid hX
      clear q6 g6 hw2 hX HM hv hLF
      refine wp_region_noPanic ?_
      refine wp_region_held_drew (S := MoT Z v w) (by kernel_rfl) hS (fun hHeld => ?_)
      clear hHeld
      refine wpAnyH_take (i := 0) (v := _) (by simp only [List.getElem?_toArray, List.getElem?_cons_zero]; rfl) (by kernel_rfl) (by kernel_rfl) (by kernel_rfl) (fun _ _ _ h => h) (yieldsIf_load_mid (by rfl) 28 (.tmp 5) rfl Z 0 rfl v.cells _ (fun _ h => h.all) under_shot rfl size_shot) hS ?_
      try simp only [Act.put, List.setIfInBounds_toArray, List.set_cons_zero, List.set_cons_succ]
      refine wpAnyH_take (i := 1) (v := ?_) (by simp only [List.getElem?_toArray, List.getElem?_cons_zero, List.getElem?_cons_succ]; rfl) (by kernel_rfl) (by kernel_rfl) (by kernel_rfl) (fun _ _ _ h => h) (Or.inl ⟨by rfl, ?_⟩) hS ?_
      rotate_left
      · (intro wq hSw; go_simp; all_goals with_reducible rfl)
      try simp only [Act.put, List.setIfInBounds_toArray, List.set_cons_zero, List.set_cons_succ]
      refine wpAnyH_take (i := 2) (v := ?_) (by simp only [List.getElem?_toArray, List.getElem?_cons_zero, List.getElem?_cons_succ]; rfl) (by kernel_rfl) (by kernel_rfl) (by kernel_rfl) (fun _ _ _ h => h) (Or.inl ⟨by rfl, ?_⟩) hS ?_
      rotate_left
      · (intro wq hSw; have q6 := hSw.left; rw [hvl] at q6; go_simp; all_goals with_reducible rfl)
      try simp only [Act.put, List.setIfInBounds_toArray, List.set_cons_zero, List.set_cons_succ]
      refine wpAnyH_take (i := 3) (v := ?_) (by simp only [List.getElem?_toArray, List.getElem?_cons_zero, List.getElem?_cons_succ]; rfl) (by kernel_rfl) (by kernel_rfl) (by kernel_rfl) (fun _ _ _ h => h) (Or.inl ⟨by rfl, ?_⟩) hS ?_
      rotate_left
      · (intro wq hSw; go_simp; all_goals with_reducible rfl)
      try simp only [Act.put, List.setIfInBounds_toArray, List.set_cons_zero, List.set_cons_succ]
      refine wpAnyH_ready (rs := [4]) (by kernel_rfl) (by simp) ?_
      refine AllReadyH.cons (by simp only [List.getElem?_toArray, List.getElem?_cons_zero, List.getElem?_cons_succ]; rfl) (fun K hK => ?_) (AllReadyH.nil)
      rw [if_pos (by rfl)]
      refine wp_store_blk 28 (.tmp 6) (.tmp 51) rfl X v.cells rfl rfl 28 _ HX.out size_shot rfl (one_shot v) ?_
      intro w6 hX6 hM6 _
      have hS6 := MoT.store hS hM6 (by have := HZX.out; omega)
      refine hK.out _ _ hS6 (fun _ => ?_)
      clear hK K
      try simp only [Act.put]
      refine wpAnyH_take (i := 5) (v := ?_) (by simp only [List.getElem?_toArray, List.getElem?_cons_zero, List.getElem?_cons_succ]; rfl) (by kernel_rfl) (by kernel_rfl) (by kernel_rfl) (fun _ _ _ h => h) (Or.inl ⟨by rfl, ?_⟩) hS6 ?_
      rotate_left
      · (intro wq hSw; go_simp; all_goals with_reducible rfl)
      try simp only [Act.put, List.setIfInBounds_toArray, List.set_cons_zero, List.set_cons_succ]
      refine wpAnyH_take (i := 6) (v := ?_) (by simp only [List.getElem?_toArray, List.getElem?_cons_zero, List.getElem?_cons_succ]; rfl) (by kernel_rfl) (by kernel_rfl) (by kernel_rfl) (fun _ _ _ h => h) (Or.inl ⟨by rfl, ?_⟩) hS6 ?_
      rotate_left
      · (intro wq hSw; go_simp; all_goals with_reducible rfl)
      try simp only [Act.put, List.setIfInBounds_toArray, List.set_cons_zero, List.set_cons_succ]
      refine wpAnyH_done (by kernel_rfl) ?_ _
      refine NoPanic.normal ?_

      go_wp2_with fail
      exact bodyPost_ret (move_back Tryd.results23 _ _ X v (.int .i64 (-1)) (.bool (decide (0 < LF))) rfl hX6 rfl rfl) rfl ⟨by rw [← HE.out]; rfl, hS6.m⟩
end Go.Proofs.YtinjlkceplhibaaDoor
