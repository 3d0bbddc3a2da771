/- Shots: the document's met and Move: the walk. -/
import Derived.Test.YtinjlkceplhibaaDoorShD
import Derived.Test.YtinjlkceplhibaaDoorVxH
import Derived.Test.YtinjlkceplhibaaDoorBdRb
namespace Go.Proofs.YtinjlkceplhibaaDoor
open Go.RowKit

theorem dif_swap (a b : Int) : Vx.dif a b = -Vx.dif b a := by
  unfold Vx.dif Vx.keep
  split <;> split <;> (try split) <;> (try split) <;> omega
theorem near_swap (a b c d r : Int) : Vx.nearB a b c d r = Vx.nearB c d a b r := by
  unfold Vx.nearB Vx.dist
  rw [dif_swap c a, dif_swap d b, Vx.sq_neg, Vx.sq_neg]
/-- where the first car that is hit lies; -1: none -/
def metI (s : Sh) (i : Nat) (L : List Cr) : Int := match firstHit s i L with
  | some k => (k : Int)
  | none => -1
theorem metI_hit {L : List Cr} {j : Nat} {s : Sh} {c : Cr} (h : L[j]? = some c) (hm : meets s c = true) : metI s j (L.drop j) = (j : Int) := by
  obtain ⟨hj, hc⟩ := List.getElem?_eq_some_iff.1 h
  unfold metI
  rw [List.drop_eq_getElem_cons hj, hc, firstHit, if_pos hm]
theorem metI_miss {L : List Cr} {j : Nat} {s : Sh} {c : Cr} (h : L[j]? = some c) (hm : meets s c = false) : metI s j (L.drop j) = metI s (j + 1) (L.drop (j + 1)) := by
  obtain ⟨hj, hc⟩ := List.getElem?_eq_some_iff.1 h
  unfold metI
  rw [List.drop_eq_getElem_cons hj, hc, firstHit, hm, if_neg (by simp)]
theorem metI_end {L : List Cr} {s : Sh} : metI s L.length (L.drop L.length) = -1 := by
  unfold metI
  rw [List.drop_length]
  rfl
theorem range_sub {w : World} {b o : Nat} {cs : List Value} (h : w.rangeAt b o cs) (k : Nat) (vs : List Value) (hv : ∀ j v, vs[j]? = some v → cs[k + j]? = some v) : w.rangeAt b (o + k) vs := fun j v hj => by
  have := h (k + j) v (hv j v hj)
  rw [Nat.add_assoc]
  exact this
/-- what a round of met finds -/
structure MeS (cb o Z : Nat) (c : Cr) (s : Sh) (w0 q : World) : Prop where
  car : q.rangeAt cb o c.cells
  shot : q.rangeAt Z 0 s.cells
  m : Mod none_ w0 q
theorem MeS.wait {cb o Z : Nat} {c : Cr} {s : Sh} {w0 q : World} (h : MeS cb o Z c s w0 q) : q.cell? ⟨cb, o + 11, none⟩ = some (.int .i64 c.wait) := h.car 11 _ rfl
theorem MeS.pl {cb o Z : Nat} {c : Cr} {s : Sh} {w0 q : World} (h : MeS cb o Z c s w0 q) : q.cell? ⟨cb, o, none⟩ = some (.int .i64 c.player) := h.car 0 _ rfl
theorem MeS.sp {cb o Z : Nat} {c : Cr} {s : Sh} {w0 q : World} (h : MeS cb o Z c s w0 q) : q.cell? ⟨Z, 1, none⟩ = some (.int .i64 s.player) := by have := h.shot 1 _ rfl; rw [Nat.zero_add] at this; exact this
theorem MeS.at {cb o Z : Nat} {c : Cr} {s : Sh} {w0 q : World} (h : MeS cb o Z c s w0 q) : q.rangeAt cb (o + 2) [.int .i64 c.ax, .int .i64 c.ay] := range_sub h.car 2 _ (fun j v hj => by
  match j, hj with
  | 0, hj => exact hj
  | 1, hj => exact hj)
theorem MeS.sat {cb o Z : Nat} {c : Cr} {s : Sh} {w0 q : World} (h : MeS cb o Z c s w0 q) : q.rangeAt Z 2 [.int .i64 s.ax, .int .i64 s.ay] := by
  have := range_sub h.shot 2 [.int .i64 s.ax, .int .i64 s.ay] (fun j v hj => by
    match j, hj with
    | 0, hj => exact hj
    | 1, hj => exact hj)
  rw [Nat.zero_add] at this
  exact this
theorem MeS.none {cb o Z : Nat} {c : Cr} {s : Sh} {w0 q q' : World} (h : MeS cb o Z c s w0 q) (hM : Mod none_ q q') : MeS cb o Z c s w0 q' := ⟨rangeAt_mod h.car hM (fun h => h), rangeAt_mod h.shot hM (fun h => h), h.m.then hM⟩
set_option maxHeartbeats 4000000 in
set_option maxRecDepth 100000 in
theorem met_any (w : World) (sa : Option Addr) (n cp : Nat) (L : List Cr) (hn : L.length = n) (hn2 : n ≤ 9223372036854775807) (B0 : Nat) (hL : Crs w B0 sa L) (s : Sh) (hs : s.Ok) :
    Calls Tryd.prog 58 #[.slice sa n cp, s.agg] w fun e w' => e = .returned (.int .i64 (metI s 0 L)) ∧ Mod none_ w w' := by
  obtain ⟨R, hR⟩ : ∃ R, metI s 0 L = R := ⟨_, rfl⟩
  rw [hR]
  have HR := Lib.hid hR; have HL := Lib.hid hL; have HN := Lib.hid hn; have HS := Lib.hid hs
  clear hR hL hn hs
  unfold Sh.agg
  go_enter Tryd.func58, Tryd.ntmps58
  go_upto_region 1 with fail
  obtain ⟨w1, hw1, hB1, hM1⟩ : ∃ w1, w.alloc (.cells s.cells.toArray 28) = w1 ∧ Blk w1 w.heap.size s.cells 28 ∧ Mod none_ w w1 := ⟨_, rfl, Blk.new w s.cells _, (Mod.refl none_ w).alloc _⟩
  rw [hw1]
  obtain ⟨Z, hZ⟩ : ∃ Z, w.heap.size = Z := ⟨_, rfl⟩
  rw [hZ] at hB1 ⊢
  have HB1 := Lib.hid hB1; have HM1 := Lib.hid hM1
  clear hB1 hM1 hw1 hZ
  go_wp2_with fail
  go_loopw [5] (fun u wr => ∃ i : Nat, u = .int .i64 i ∧ i ≤ n ∧ Blk wr Z s.cells 28 ∧ Mod none_ w wr ∧ metI s i (L.drop i) = R) (fun u _ => n - (intOf u).toNat)
  case atStart => exact ⟨0, rfl, by omega, HB1.out, HM1.out, HR.out⟩
  case round =>
    obtain ⟨i, rfl, hi, hB, hM, hR⟩ := hrel
    have HB := Lib.hid hB; have HM := Lib.hid hM; have HR := Lib.hid hR
    clear hB hM hR HB1 HM1
    by_cases hin : i < n
    · have hin' : (i : Int) < (n : Int) := by omega
      obtain ⟨c, hc⟩ : ∃ c, L[i]? = some c := ⟨_, List.getElem?_eq_getElem (by have := HN.out; omega)⟩
      obtain ⟨cb, off, rfl, hcb, hat⟩ := HL.out.row (by have := HN.out; omega)
      have HCO := Lib.hid (HL.out.ok c (List.mem_of_getElem? hc))
      obtain ⟨wo, rfl⟩ : ∃ wo : World, wo = wr := ⟨_, rfl⟩
      have hS0 : MeS cb (off + i * 14) Z c s w wo := ⟨rangeAt_mod (hat i c hc) HM.out (fun h => h), blk_mid HB.out 0 _ (fun j v hj => by rw [Nat.zero_add]; exact hj), HM.out⟩
      have hS : MeS cb (off + i * 14) Z c s w wo.drew := MeS.none hS0 (Mod.refl _ _).drew
      have hne := fun q : World => rnear_any q c.ax c.ay s.ax s.ay 98304 HCO.out.ax HCO.out.ay HS.out.ax HS.out.ay
      have hme : meets s c = (decide (c.wait ≤ 0) && (c.player != s.player && Vx.nearB s.ax s.ay c.ax c.ay 98304)) := rfl
      rw [near_swap] at hme
      generalize Vx.nearB c.ax c.ay s.ax s.ay 98304 = NB at *
      have hgo := HR.out
      have HNE := Lib.hid hne; have HC := Lib.hid hc
      clear hne hc hat HR
      have HB2 := Lib.hid (HB.out.drew)
      by_cases c11 : c.wait ≤ 0
      · have c12 : decide (c.wait ≤ 0) = true := decide_eq_true c11
        cases cp0 : (c.player != s.player) with
        | true =>
          have hm2 : meets s c = NB := by rw [hme, cp0, c12]; simp
          clear hme
          go_upto_region 4 with fail
          refine wp_region_noPanic ?_
          refine wp_region_held_drew (S := MeS cb (off + i * 14) Z c s w) (by kernel_rfl) hS (fun hHeld => ?_)
          clear hHeld
          refine wpAnyH_take (i := 0) (v := ?_) (by simp only [List.getElem?_toArray, List.getElem?_cons_zero]; rfl) (by kernel_rfl) (by kernel_rfl) (by kernel_rfl) (fun _ _ _ h => h) (Or.inl ⟨by rfl, ?_⟩) hS ?_
          rotate_left
          · (intro wq hSw; go_simp; all_goals with_reducible rfl)
          try simp only [Act.put, List.setIfInBounds_toArray, List.set_cons_zero, List.set_cons_succ]
          refine wpAnyH_take (i := 1) (v := ?_) (by simp only [List.getElem?_toArray, List.getElem?_cons_zero, List.getElem?_cons_succ]; rfl) (by kernel_rfl) (by kernel_rfl) (by kernel_rfl) (fun _ _ _ h => h) (Or.inl ⟨by rfl, ?_⟩) hS ?_
          rotate_left
          · (intro wq hSw; go_simp; all_goals with_reducible rfl)
          try simp only [Act.put, List.setIfInBounds_toArray, List.set_cons_zero, List.set_cons_succ]
          refine wpAnyH_take (i := 2) (v := ?_) (by simp only [List.getElem?_toArray, List.getElem?_cons_zero, List.getElem?_cons_succ]; rfl) (by kernel_rfl) (by kernel_rfl) (by kernel_rfl) (fun _ _ _ h => h) (Or.inl ⟨by rfl, ?_⟩) hS ?_
          rotate_left
          · (intro wq hSw; go_simp; all_goals with_reducible rfl)
          try simp only [Act.put, List.setIfInBounds_toArray, List.set_cons_zero, List.set_cons_succ]
          refine wpAnyH_take (i := 3) (v := ?_) (by simp only [List.getElem?_toArray, List.getElem?_cons_zero, List.getElem?_cons_succ]; rfl) (by kernel_rfl) (by kernel_rfl) (by kernel_rfl) (fun _ _ _ h => h) (Or.inl ⟨by rfl, ?_⟩) hS ?_
          rotate_left
          · (intro wq hSw; go_simp; all_goals with_reducible rfl)
          try simp only [Act.put, List.setIfInBounds_toArray, List.set_cons_zero, List.set_cons_succ]
          refine wpAnyH_take (i := 4) (v := ?_) (by simp only [List.getElem?_toArray, List.getElem?_cons_zero, List.getElem?_cons_succ]; rfl) (by kernel_rfl) (by kernel_rfl) (by kernel_rfl) (fun _ _ _ h => h) (Or.inl ⟨by rfl, ?_⟩) hS ?_
          rotate_left
          · (intro wq hSw; have q1 := hSw.wait; have q2 := hSw.pl; have q3 := hSw.sp; go_simp; all_goals with_reducible rfl)
          try simp only [Act.put, List.setIfInBounds_toArray, List.set_cons_zero, List.set_cons_succ]
          refine wpAnyH_take (i := 5) (v := .bool true) (by simp only [List.getElem?_toArray, List.getElem?_cons_zero, List.getElem?_cons_succ]; rfl) (by kernel_rfl) (by kernel_rfl) (by kernel_rfl) (fun _ _ _ h => h) (Or.inl ⟨by rfl, ?_⟩) hS ?_
          · (intro wq hSw; go_simp; all_goals (try simp only [c12]); all_goals with_reducible rfl)
          try simp only [Act.put, List.setIfInBounds_toArray, List.set_cons_zero, List.set_cons_succ]
          refine wpAnyH_take (i := 6) (v := ?_) (by simp only [List.getElem?_toArray, List.getElem?_cons_zero, List.getElem?_cons_succ]; rfl) (by kernel_rfl) (by kernel_rfl) (by kernel_rfl) (fun _ _ _ h => h) (Or.inl ⟨by rfl, ?_⟩) hS ?_
          rotate_left
          · (intro wq hSw; go_simp; all_goals with_reducible rfl)
          try simp only [Act.put, List.setIfInBounds_toArray, List.set_cons_zero, List.set_cons_succ]
          refine wpAnyH_take (i := 7) (v := ?_) (by simp only [List.getElem?_toArray, List.getElem?_cons_zero, List.getElem?_cons_succ]; rfl) (by kernel_rfl) (by kernel_rfl) (by kernel_rfl) (fun _ _ _ h => h) (Or.inl ⟨by rfl, ?_⟩) hS ?_
          rotate_left
          · (intro wq hSw; go_simp; all_goals with_reducible rfl)
          try simp only [Act.put, List.setIfInBounds_toArray, List.set_cons_zero, List.set_cons_succ]
          refine wpAnyH_take (i := 8) (v := ?_) (by simp only [List.getElem?_toArray, List.getElem?_cons_zero, List.getElem?_cons_succ]; rfl) (by kernel_rfl) (by kernel_rfl) (by kernel_rfl) (fun _ _ _ h => h) (Or.inl ⟨by rfl, ?_⟩) hS ?_
          rotate_left
          · (intro wq hSw; go_simp; all_goals with_reducible rfl)
          try simp only [Act.put, List.setIfInBounds_toArray, List.set_cons_zero, List.set_cons_succ]
          refine wpAnyH_take (i := 9) (v := ?_) (by simp only [List.getElem?_toArray, List.getElem?_cons_zero, List.getElem?_cons_succ]; rfl) (by kernel_rfl) (by kernel_rfl) (by kernel_rfl) (fun _ _ _ h => h) (Or.inl ⟨by rfl, ?_⟩) hS ?_
          rotate_left
          · (intro wq hSw; go_simp; all_goals with_reducible rfl)
          try simp only [Act.put, List.setIfInBounds_toArray, List.set_cons_zero, List.set_cons_succ]
          refine wpAnyH_take (i := 10) (v := ?_) (by simp only [List.getElem?_toArray, List.getElem?_cons_zero, List.getElem?_cons_succ]; rfl) (by kernel_rfl) (by kernel_rfl) (by kernel_rfl) (fun _ _ _ h => h) (Or.inl ⟨by rfl, ?_⟩) hS ?_
          rotate_left
          · (intro wq hSw; go_simp; all_goals with_reducible rfl)
          try simp only [Act.put, List.setIfInBounds_toArray, List.set_cons_zero, List.set_cons_succ]
          refine wpAnyH_take (i := 11) (v := ?_) (by simp only [List.getElem?_toArray, List.getElem?_cons_zero, List.getElem?_cons_succ]; rfl) (by kernel_rfl) (by kernel_rfl) (by kernel_rfl) (fun _ _ _ h => h) (Or.inl ⟨by rfl, ?_⟩) hS ?_
          rotate_left
          · (intro wq hSw; have q1 := hSw.wait; have q2 := hSw.pl; have q3 := hSw.sp; go_simp; all_goals with_reducible rfl)
          try simp only [Act.put, List.setIfInBounds_toArray, List.set_cons_zero, List.set_cons_succ]
          refine wpAnyH_take (i := 12) (v := ?_) (by simp only [List.getElem?_toArray, List.getElem?_cons_zero, List.getElem?_cons_succ]; rfl) (by kernel_rfl) (by kernel_rfl) (by kernel_rfl) (fun _ _ _ h => h) (Or.inl ⟨by rfl, ?_⟩) hS ?_
          rotate_left
          · (intro wq hSw; go_simp; all_goals with_reducible rfl)
          try simp only [Act.put, List.setIfInBounds_toArray, List.set_cons_zero, List.set_cons_succ]
          refine wpAnyH_take (i := 13) (v := ?_) (by simp only [List.getElem?_toArray, List.getElem?_cons_zero, List.getElem?_cons_succ]; rfl) (by kernel_rfl) (by kernel_rfl) (by kernel_rfl) (fun _ _ _ h => h) (Or.inl ⟨by rfl, ?_⟩) hS ?_
          rotate_left
          · (intro wq hSw; have q1 := hSw.wait; have q2 := hSw.pl; have q3 := hSw.sp; go_simp; all_goals with_reducible rfl)
          try simp only [Act.put, List.setIfInBounds_toArray, List.set_cons_zero, List.set_cons_succ]
          refine wpAnyH_take (i := 14) (v := .bool true) (by simp only [List.getElem?_toArray, List.getElem?_cons_zero, List.getElem?_cons_succ]; rfl) (by kernel_rfl) (by kernel_rfl) (by kernel_rfl) (fun _ _ _ h => h) (Or.inl ⟨by rfl, ?_⟩) hS ?_
          · (intro wq hSw; go_simp; all_goals (try simp only [cp0]); all_goals with_reducible rfl)
          try simp only [Act.put, List.setIfInBounds_toArray, List.set_cons_zero, List.set_cons_succ]
          refine wpAnyH_take (i := 15) (v := ?_) (by simp only [List.getElem?_toArray, List.getElem?_cons_zero, List.getElem?_cons_succ]; rfl) (by kernel_rfl) (by kernel_rfl) (by kernel_rfl) (fun _ _ _ h => h) (Or.inl ⟨by rfl, ?_⟩) hS ?_
          rotate_left
          · (intro wq hSw; go_simp; all_goals with_reducible rfl)
          try simp only [Act.put, List.setIfInBounds_toArray, List.set_cons_zero, List.set_cons_succ]
          refine wpAnyH_take (i := 16) (v := ?_) (by simp only [List.getElem?_toArray, List.getElem?_cons_zero, List.getElem?_cons_succ]; rfl) (by kernel_rfl) (by kernel_rfl) (by kernel_rfl) (fun _ _ _ h => h) (Or.inl ⟨by rfl, ?_⟩) hS ?_
          rotate_left
          · (intro wq hSw; go_simp; all_goals with_reducible rfl)
          try simp only [Act.put, List.setIfInBounds_toArray, List.set_cons_zero, List.set_cons_succ]
          refine wpAnyH_take (i := 17) (v := ?_) (by simp only [List.getElem?_toArray, List.getElem?_cons_zero, List.getElem?_cons_succ]; rfl) (by kernel_rfl) (by kernel_rfl) (by kernel_rfl) (fun _ _ _ h => h) (Or.inl ⟨by rfl, ?_⟩) hS ?_
          rotate_left
          · (intro wq hSw; go_simp; all_goals with_reducible rfl)
          try simp only [Act.put, List.setIfInBounds_toArray, List.set_cons_zero, List.set_cons_succ]
          refine wpAnyH_take (i := 18) (v := ?_) (by simp only [List.getElem?_toArray, List.getElem?_cons_zero, List.getElem?_cons_succ]; rfl) (by kernel_rfl) (by kernel_rfl) (by kernel_rfl) (fun _ _ _ h => h) (Or.inl ⟨by rfl, ?_⟩) hS ?_
          rotate_left
          · (intro wq hSw; go_simp; all_goals with_reducible rfl)
          try simp only [Act.put, List.setIfInBounds_toArray, List.set_cons_zero, List.set_cons_succ]
          refine wpAnyH_take (i := 19) (v := ?_) (by simp only [List.getElem?_toArray, List.getElem?_cons_zero, List.getElem?_cons_succ]; rfl) (by kernel_rfl) (by kernel_rfl) (by kernel_rfl) (fun _ _ _ h => h) (Or.inl ⟨by rfl, ?_⟩) hS ?_
          rotate_left
          · (intro wq hSw; go_simp; all_goals with_reducible rfl)
          try simp only [Act.put, List.setIfInBounds_toArray, List.set_cons_zero, List.set_cons_succ]
          refine wpAnyH_take (i := 20) (v := ?_) (by simp only [List.getElem?_toArray, List.getElem?_cons_zero, List.getElem?_cons_succ]; rfl) (by kernel_rfl) (by kernel_rfl) (by kernel_rfl) (fun _ _ _ h => h) (Or.inl ⟨by rfl, ?_⟩) hS ?_
          rotate_left
          · (intro wq hSw; go_simp; all_goals with_reducible rfl)
          try simp only [Act.put, List.setIfInBounds_toArray, List.set_cons_zero, List.set_cons_succ]
          refine wpAnyH_take (i := 21) (v := _) (by simp only [List.getElem?_toArray, List.getElem?_cons_zero, List.getElem?_cons_succ]; rfl) (by kernel_rfl) (by kernel_rfl) (by kernel_rfl) (fun _ _ _ h => h) (yieldsIf_load_mid (by rfl) 23 (.tmp 32) rfl cb (off + i * 14 + 2) rfl [.int .i64 c.ax, .int .i64 c.ay] _ (fun _ h => h.at) Tryd.underlying23 rfl size_vec2) hS ?_
          try simp only [Act.put, List.setIfInBounds_toArray, List.set_cons_zero, List.set_cons_succ]
          refine wpAnyH_take (i := 22) (v := ?_) (by simp only [List.getElem?_toArray, List.getElem?_cons_zero, List.getElem?_cons_succ]; rfl) (by kernel_rfl) (by kernel_rfl) (by kernel_rfl) (fun _ _ _ h => h) (Or.inl ⟨by rfl, ?_⟩) hS ?_
          rotate_left
          · (intro wq hSw; go_simp; all_goals with_reducible rfl)
          try simp only [Act.put, List.setIfInBounds_toArray, List.set_cons_zero, List.set_cons_succ]
          refine wpAnyH_take (i := 23) (v := _) (by simp only [List.getElem?_toArray, List.getElem?_cons_zero, List.getElem?_cons_succ]; rfl) (by kernel_rfl) (by kernel_rfl) (by kernel_rfl) (fun _ _ _ h => h) (yieldsIf_load_mid (by rfl) 23 (.tmp 34) rfl Z 2 rfl [.int .i64 s.ax, .int .i64 s.ay] _ (fun _ h => h.sat) Tryd.underlying23 rfl size_vec2) hS ?_
          try simp only [Act.put, List.setIfInBounds_toArray, List.set_cons_zero, List.set_cons_succ]
          refine wpAnyH_ready (rs := [24]) (by kernel_rfl) (by simp) ?_
          refine AllReadyH.cons (by simp only [List.getElem?_toArray, List.getElem?_cons_zero, List.getElem?_cons_succ]; rfl) (fun K hK => ?_) AllReadyH.nil
          go_simp
          go_at_call 86
          refine (HNE.out _).mono ?_
          rintro r w7 ⟨rfl, hM7⟩
          have hS7 := hS.none hM7
          have hB7 := hM7.blk HB2.out (fun h => h)

          go_wp2_with fail
          refine hK.out _ _ hS7 (fun _ => ?_)
          clear hK K
          try simp only [Act.put, List.setIfInBounds_toArray, List.set_cons_zero, List.set_cons_succ]
          refine wpAnyH_take (i := 25) (v := ?_) (by simp only [List.getElem?_toArray, List.getElem?_cons_zero, List.getElem?_cons_succ]; rfl) (by kernel_rfl) (by kernel_rfl) (by kernel_rfl) (fun _ _ _ h => h) (Or.inl ⟨by rfl, ?_⟩) hS7 ?_
          rotate_left
          · (intro wq hSw; go_simp; all_goals with_reducible rfl)
          try simp only [Act.put, List.setIfInBounds_toArray, List.set_cons_zero, List.set_cons_succ]
          refine wpAnyH_done (by kernel_rfl) ?_ _
          refine NoPanic.normal ?_
          cases NB with
          | true =>
            rw [metI_hit HC.out hm2] at hgo
            go_wp2_with fail
            go_ret
            exact ⟨by rw [← hgo]; rfl, (hS7).m⟩
          | false =>
            rw [metI_miss HC.out hm2] at hgo
            go_wp2_with fail
            go_roundw
            case rel => exact ⟨i + 1, by go_num, by omega, by assumption, (hS7).m, hgo⟩
            case measure => simp [intOf]; omega
        | false =>
          have hm2 : meets s c = false := by rw [hme, cp0, c12]; simp
          rw [metI_miss HC.out hm2] at hgo
          clear hme
          have q1 := hS0.wait; have q2 := hS0.pl; have q3 := hS0.sp
          go_upto_region 4 with fail
          go_quiet (fail)
          go_wp2_with fail
          go_roundw
          case rel => exact ⟨i + 1, by go_num, by omega, HB.out.drewN nq, HM.out.then ((Mod.refl _ _).drewN nq), hgo⟩
          case measure => simp [intOf]; omega
      · have c12 : decide (c.wait ≤ 0) = false := decide_eq_false c11
        have hm2 : meets s c = false := by rw [hme, c12]; simp
        rw [metI_miss HC.out hm2] at hgo
        clear hme
        have q1 := hS0.wait; have q2 := hS0.pl; have q3 := hS0.sp
        go_upto_region 4 with fail
        go_quiet (fail)
        go_wp2_with fail
        go_roundw
        case rel => exact ⟨i + 1, by go_num, by omega, HB.out.drewN nq, HM.out.then ((Mod.refl _ _).drewN nq), hgo⟩
        case measure => simp [intOf]; omega
    · have hin' : ¬ (i : Int) < (n : Int) := by omega
      have hgo := HR.out
      have hie : i = L.length := by have := HN.out; omega
      rw [hie, metI_end] at hgo
      go_wp2_with fail
      go_ret
      exact ⟨by rw [← hgo]; rfl, HM.out⟩
end Go.Proofs.YtinjlkceplhibaaDoor
