/- A list of cars kept as it was: the walk. -/
import Derived.Test.YtinjlkceplhibaaDoorCrL
namespace Go.Proofs.YtinjlkceplhibaaDoor
open Go.RowKit

theorem CSrc.keep {w w' : World} {sa : Option Addr} {M : List Cr} (h : CSrc w sa M) (hM : Mod none_ w w') : CSrc w' sa M := fun hp => by
  obtain ⟨b, off, h1, h2⟩ := h hp
  exact ⟨b, off, h1, fun i c hc => rangeAt_mod (h2 i c hc) hM (fun h => h)⟩
structure KeS (g o b p : Nat) (c : Cr) (q : World) : Prop where
  l : q.rangeAt g o c.cells
  r : q.rangeAt b p c.cells
set_option maxHeartbeats 2000000 in
set_option maxRecDepth 100000 in
theorem kept_any (w : World) (base g n cap : Nat) (sa : Option Addr) (cp : Nat) (L : List Cr) (hn : L.length = n) (hn2 : n ≤ 1048576) (hO : OwnC w base (.slice (some ⟨g, 0, none⟩) (n + 2) cap) (L ++ [mark (-77), mark (-78)])) (hC : CSrc w sa L) :
    Calls Tryd.prog 24 #[.slice (some ⟨g, 0, none⟩) (n + 2) cap, .slice sa n cp] w fun e w' => e = .returned (.bool true) ∧ Mod none_ w w' := by
  have HO := Lib.hid hO; have HC := Lib.hid hC; have HN := Lib.hid hn
  clear hO hC hn
  go_enter Tryd.func24, Tryd.ntmps24
  go_wp2_with fail
  go_loopw [5] (fun u wr => ∃ i : Nat, u = .int .i64 i ∧ i ≤ n ∧ Mod none_ w wr) (fun u _ => n - (intOf u).toNat)
  case atStart => exact ⟨0, rfl, by omega, Mod.refl _ _⟩
  case round =>
    obtain ⟨i, rfl, hi, hM⟩ := hrel
    have HM := Lib.hid hM
    clear hM
    by_cases hin : i < n
    · have hin' : (i : Int) < (n : Int) := by omega
      have hin2 : (i : Int) < (n : Int) + 2 := by omega
      have hl := HN.out
      obtain ⟨c, hc⟩ : ∃ c, L[i]? = some c := ⟨_, List.getElem?_eq_getElem (by omega)⟩
      have hc2 : (L ++ [mark (-77), mark (-78)])[i]? = some c := by rw [List.getElem?_append_left (by omega)]; exact hc
      obtain ⟨sa2, cap2, e2, hat⟩ := (HO.out.keep HM.out).at
      obtain ⟨g2, e3, _, _, h4⟩ := hat (by rw [List.length_append]; simp)
      subst e3
      injection e2 with e2 e3 e4
      injection e2 with e2
      injection e2 with e2
      subst e2
      obtain ⟨b, off, rfl, h5⟩ := HC.out.keep HM.out (by omega)
      have hS : KeS g (i * 14) b (off + i * 14) c wr.drew := ⟨by have := h4 i c hc2; rw [Nat.zero_add] at this; exact this, h5 i c hc⟩
      have hne := fun q : World => neC q c c
      rw [Cr.beq_self] at hne
      simp only [Cr.agg, Bool.not_true] at hne
      clear hat h4 h5 hc hc2 hl e3 e4
      go_upto_region 4 with fail
      refine wp_region_noPanic ?_
      refine wp_region_held_drew (S := KeS g (i * 14) b (off + i * 14) c) (by kernel_rfl) hS (fun hHeld => ?_)
      clear hHeld
      refine wpAnyH_take (i := 0) (v := ?_) (by simp only [List.getElem?_toArray, List.getElem?_cons_zero]; rfl) (by kernel_rfl) (by kernel_rfl) (by kernel_rfl) (fun _ _ _ h => h) (Or.inl ⟨by rfl, ?_⟩) hS ?_
      rotate_left
      · (intro wq hSw; go_simp; all_goals with_reducible rfl)
      try simp only [Act.put, List.setIfInBounds_toArray, List.set_cons_zero, List.set_cons_succ]
      refine wpAnyH_take (i := 1) (v := ?_) (by simp only [List.getElem?_toArray, List.getElem?_cons_zero, List.getElem?_cons_succ]; rfl) (by kernel_rfl) (by kernel_rfl) (by kernel_rfl) (fun _ _ _ h => h) (Or.inl ⟨by rfl, ?_⟩) hS ?_
      rotate_left
      · (intro wq hSw; go_simp; all_goals with_reducible rfl)
      try simp only [Act.put, List.setIfInBounds_toArray, List.set_cons_zero, List.set_cons_succ]
      refine wpAnyH_take (i := 2) (v := ?_) (by simp only [List.getElem?_toArray, List.getElem?_cons_zero, List.getElem?_cons_succ]; rfl) (by kernel_rfl) (by kernel_rfl) (by kernel_rfl) (fun _ _ _ h => h) (Or.inl ⟨by rfl, ?_⟩) hS ?_
      rotate_left
      · (intro wq hSw; go_simp; all_goals with_reducible rfl)
      try simp only [Act.put, List.setIfInBounds_toArray, List.set_cons_zero, List.set_cons_succ]
      refine wpAnyH_take (i := 3) (v := _) (by simp only [List.getElem?_toArray, List.getElem?_cons_zero, List.getElem?_cons_succ]; rfl) (by kernel_rfl) (by kernel_rfl) (by kernel_rfl) (fun _ _ _ h => h) (yieldsIf_load_mid (by rfl) 25 (.tmp 14) rfl g (i * 14) rfl c.cells _ (fun _ h => h.l) under_car rfl size_car) hS ?_
      try simp only [Act.put, List.setIfInBounds_toArray, List.set_cons_zero, List.set_cons_succ]
      refine wpAnyH_take (i := 4) (v := ?_) (by simp only [List.getElem?_toArray, List.getElem?_cons_zero, List.getElem?_cons_succ]; rfl) (by kernel_rfl) (by kernel_rfl) (by kernel_rfl) (fun _ _ _ h => h) (Or.inl ⟨by rfl, ?_⟩) hS ?_
      rotate_left
      · (intro wq hSw; go_simp; all_goals with_reducible rfl)
      try simp only [Act.put, List.setIfInBounds_toArray, List.set_cons_zero, List.set_cons_succ]
      refine wpAnyH_take (i := 5) (v := ?_) (by simp only [List.getElem?_toArray, List.getElem?_cons_zero, List.getElem?_cons_succ]; rfl) (by kernel_rfl) (by kernel_rfl) (by kernel_rfl) (fun _ _ _ h => h) (Or.inl ⟨by rfl, ?_⟩) hS ?_
      rotate_left
      · (intro wq hSw; go_simp; all_goals with_reducible rfl)
      try simp only [Act.put, List.setIfInBounds_toArray, List.set_cons_zero, List.set_cons_succ]
      refine wpAnyH_take (i := 6) (v := ?_) (by simp only [List.getElem?_toArray, List.getElem?_cons_zero, List.getElem?_cons_succ]; rfl) (by kernel_rfl) (by kernel_rfl) (by kernel_rfl) (fun _ _ _ h => h) (Or.inl ⟨by rfl, ?_⟩) hS ?_
      rotate_left
      · (intro wq hSw; go_simp; all_goals with_reducible rfl)
      try simp only [Act.put, List.setIfInBounds_toArray, List.set_cons_zero, List.set_cons_succ]
      refine wpAnyH_take (i := 7) (v := _) (by simp only [List.getElem?_toArray, List.getElem?_cons_zero, List.getElem?_cons_succ]; rfl) (by kernel_rfl) (by kernel_rfl) (by kernel_rfl) (fun _ _ _ h => h) (yieldsIf_load_mid (by rfl) 25 (.tmp 18) rfl b (off + i * 14) rfl c.cells _ (fun _ h => h.r) under_car rfl size_car) hS ?_
      try simp only [Act.put, List.setIfInBounds_toArray, List.set_cons_zero, List.set_cons_succ]
      refine wpAnyH_take (i := 8) (v := (.bool false)) (by simp only [List.getElem?_toArray, List.getElem?_cons_zero, List.getElem?_cons_succ]; rfl) (by kernel_rfl) (by kernel_rfl) (by kernel_rfl) (fun _ _ _ h => h) (Or.inl ⟨by rfl, ?_⟩) hS ?_
      · (intro wq hSw; go_simp; all_goals with_reducible rfl)
      try simp only [Act.put, List.setIfInBounds_toArray, List.set_cons_zero, List.set_cons_succ]
      refine wpAnyH_done (by kernel_rfl) ?_ _
      refine NoPanic.normal ?_
      go_wp2_with fail
      go_roundw
      case rel => exact ⟨i + 1, by go_num, by omega, HM.out.drew⟩
      case measure => simp [intOf]; omega
    · have hin' : ¬ (i : Int) < (n : Int) := by omega
      obtain ⟨sa2, cap2, e2, hat⟩ := (HO.out.keep HM.out).at
      obtain ⟨g2, e3, _, _, h4⟩ := hat (by rw [List.length_append]; simp)
      subst e3
      injection e2 with e2 e3 e4
      injection e2 with e2
      injection e2 with e2
      subst e2
      have k1 : (L ++ [mark (-77), mark (-78)])[n]? = some (mark (-77)) := by rw [← HN.out, List.getElem?_append_right (Nat.le_refl _), Nat.sub_self]; rfl
      have k2 : (L ++ [mark (-77), mark (-78)])[n + 1]? = some (mark (-78)) := by rw [← HN.out, List.getElem?_append_right (Nat.le_succ _), Nat.succ_sub (Nat.le_refl _), Nat.sub_self]; rfl
      have r1 := h4 n _ k1
      have r2 := h4 (n + 1) _ k2
      rw [Nat.zero_add] at r1 r2
      have x0 : wr.cell? ⟨g, n * 14, none⟩ = some (.int .i64 (-77)) := r1 0 _ rfl
      have x1 : wr.cell? ⟨g, n * 14 + 1, none⟩ = some (.string ⟨#[]⟩) := r1 1 _ rfl
      have x2 : wr.cell? ⟨g, n * 14 + 2, none⟩ = some (.int .i64 0) := r1 2 _ rfl
      have x3 : wr.cell? ⟨g, n * 14 + 3, none⟩ = some (.int .i64 0) := r1 3 _ rfl
      have x4 : wr.cell? ⟨g, n * 14 + 4, none⟩ = some (.int .i64 0) := r1 4 _ rfl
      have x5 : wr.cell? ⟨g, n * 14 + 5, none⟩ = some (.int .i64 0) := r1 5 _ rfl
      have x6 : wr.cell? ⟨g, n * 14 + 6, none⟩ = some (.int .i64 0) := r1 6 _ rfl
      have x7 : wr.cell? ⟨g, n * 14 + 7, none⟩ = some (.int .i64 0) := r1 7 _ rfl
      have x8 : wr.cell? ⟨g, n * 14 + 8, none⟩ = some (.int .i64 0) := r1 8 _ rfl
      have x9 : wr.cell? ⟨g, n * 14 + 9, none⟩ = some (.int .i64 0) := r1 9 _ rfl
      have x10 : wr.cell? ⟨g, n * 14 + 10, none⟩ = some (.int .i64 0) := r1 10 _ rfl
      have x11 : wr.cell? ⟨g, n * 14 + 11, none⟩ = some (.int .i64 0) := r1 11 _ rfl
      have x12 : wr.cell? ⟨g, n * 14 + 12, none⟩ = some (.int .i64 0) := r1 12 _ rfl
      have x13 : wr.cell? ⟨g, n * 14 + 13, none⟩ = some (.int .i64 0) := r1 13 _ rfl
      have y0 : wr.cell? ⟨g, (n + 1) * 14, none⟩ = some (.int .i64 (-78)) := r2 0 _ rfl
      have y1 : wr.cell? ⟨g, (n + 1) * 14 + 1, none⟩ = some (.string ⟨#[]⟩) := r2 1 _ rfl
      have y2 : wr.cell? ⟨g, (n + 1) * 14 + 2, none⟩ = some (.int .i64 0) := r2 2 _ rfl
      have y3 : wr.cell? ⟨g, (n + 1) * 14 + 3, none⟩ = some (.int .i64 0) := r2 3 _ rfl
      have y4 : wr.cell? ⟨g, (n + 1) * 14 + 4, none⟩ = some (.int .i64 0) := r2 4 _ rfl
      have y5 : wr.cell? ⟨g, (n + 1) * 14 + 5, none⟩ = some (.int .i64 0) := r2 5 _ rfl
      have y6 : wr.cell? ⟨g, (n + 1) * 14 + 6, none⟩ = some (.int .i64 0) := r2 6 _ rfl
      have y7 : wr.cell? ⟨g, (n + 1) * 14 + 7, none⟩ = some (.int .i64 0) := r2 7 _ rfl
      have y8 : wr.cell? ⟨g, (n + 1) * 14 + 8, none⟩ = some (.int .i64 0) := r2 8 _ rfl
      have y9 : wr.cell? ⟨g, (n + 1) * 14 + 9, none⟩ = some (.int .i64 0) := r2 9 _ rfl
      have y10 : wr.cell? ⟨g, (n + 1) * 14 + 10, none⟩ = some (.int .i64 0) := r2 10 _ rfl
      have y11 : wr.cell? ⟨g, (n + 1) * 14 + 11, none⟩ = some (.int .i64 0) := r2 11 _ rfl
      have y12 : wr.cell? ⟨g, (n + 1) * 14 + 12, none⟩ = some (.int .i64 0) := r2 12 _ rfl
      have y13 : wr.cell? ⟨g, (n + 1) * 14 + 13, none⟩ = some (.int .i64 0) := r2 13 _ rfl
      clear r1 r2
      have he1 : ∀ q : World, (binOp .eql 25 (.agg #[.int .i64 (-77), .string ⟨#[]⟩, .int .i64 0, .int .i64 0, .int .i64 0, .int .i64 0, .int .i64 0, .int .i64 0, .int .i64 0, .int .i64 0, .int .i64 0, .int .i64 0, .int .i64 0, .int .i64 0]) (.agg #[.int .i64 (-77), .string ⟨#[]⟩, .int .i64 0, .int .i64 0, .int .i64 0, .int .i64 0, .int .i64 0, .int .i64 0, .int .i64 0, .int .i64 0, .int .i64 0, .int .i64 0, .int .i64 0, .int .i64 0])).run Tryd.prog q = .ok (.bool true) q := fun q => by
        have := eqC q (mark (-77)) (mark (-77))
        rw [Cr.beq_self] at this
        exact this
      have he2 : ∀ q : World, (binOp .eql 25 (.agg #[.int .i64 (-78), .string ⟨#[]⟩, .int .i64 0, .int .i64 0, .int .i64 0, .int .i64 0, .int .i64 0, .int .i64 0, .int .i64 0, .int .i64 0, .int .i64 0, .int .i64 0, .int .i64 0, .int .i64 0]) (.agg #[.int .i64 (-78), .string ⟨#[]⟩, .int .i64 0, .int .i64 0, .int .i64 0, .int .i64 0, .int .i64 0, .int .i64 0, .int .i64 0, .int .i64 0, .int .i64 0, .int .i64 0, .int .i64 0, .int .i64 0])).run Tryd.prog q = .ok (.bool true) q := fun q => by
        have := eqC q (mark (-78)) (mark (-78))
        rw [Cr.beq_self] at this
        exact this
      have hx1 : (n : Int) < (n : Int) + 2 := by omega
      have hx2 : (n : Int) + 1 < (n : Int) + 2 := by omega
      have ln : (((n + 2 : Nat) : Int) == (n : Int) + 2) = true := by simp
      clear hat h4 k1 k2 e3 e4
      go_wp2_with fail
      go_ret
      exact ⟨rfl, HM.out⟩
end Go.Proofs.YtinjlkceplhibaaDoor
