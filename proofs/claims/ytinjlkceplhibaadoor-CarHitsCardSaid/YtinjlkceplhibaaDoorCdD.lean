/- car: fresh, New, Come: the walks. -/
import Derived.Test.YtinjlkceplhibaaDoorCdC
import Derived.Test.YtinjlkceplhibaaDoorBdS
namespace Go.Proofs.YtinjlkceplhibaaDoor
open Go.RowKit

theorem vc_get {l : List (Int × Int)} {j : Nat} {p : Int × Int} (h : l[j]? = some p) : (vcells l)[j * 2]? = some (.int .i64 p.1) ∧ (vcells l)[j * 2 + 1]? = some (.int .i64 p.2) := by
  induction l generalizing j with
  | nil => simp at h
  | cons q r ih =>
    cases j with
    | zero => obtain rfl := Option.some.inj h; exact ⟨rfl, rfl⟩
    | succ j =>
      have := ih (j := j) h
      rw [show (j + 1) * 2 = j * 2 + 2 by omega]
      exact this
theorem OwnV.at {w : World} {base : Nat} {v : Value} {l : List (Int × Int)} (h : OwnV w base v l) (hp : 0 < l.length) : ∃ g cap, v = .slice (some ⟨g, 0, none⟩) l.length cap ∧ base ≤ g ∧ ∀ j p, l[j]? = some p → w.rangeAt g (j * 2) [.int .i64 p.1, .int .i64 p.2] := by
  obtain ⟨h1, ⟨rfl, h2⟩ | ⟨g, cap, cur, h3, h4, h5, h6, h7, h8, h9⟩⟩ := h
  · omega
  · refine ⟨g, cap, h3, h4, fun j p hj => ?_⟩
    obtain ⟨a, b⟩ := vc_get hj
    have hc : ∀ i u, (vcells l)[i]? = some u → w.cell? ⟨g, i, none⟩ = some u := fun i u hu => by
      rw [← h9, List.getElem?_take] at hu
      split at hu
      · rw [cell_of_row w g _ cur _ (0, 0) h5]
        simpa using hu
      · cases hu
    intro i u hu
    match i, hu with
    | 0, hu => obtain rfl := Option.some.inj hu; exact hc _ _ a
    | 1, hu => obtain rfl := Option.some.inj hu; exact hc _ _ b
    | k + 2, hu => simp at hu
theorem spawns_few {W H : Nat} {E : List Int} (h : Bd.Fine W H E) : (Bd.spawns W E).length ≤ 4096 := by
  have h1 : ∀ (E : List Int) i, (Bd.spawnsFrom W i E).length ≤ E.length := by
    intro E
    induction E with
    | nil => intro i; exact Nat.le_refl _
    | cons c r ih =>
      intro i
      have := ih (i + 1)
      unfold Bd.spawnsFrom
      split <;> simp at this ⊢ <;> omega
  have h2 := h1 E 0
  have h3 : W * H ≤ 64 * 64 := Nat.mul_le_mul h.w64 h.h64
  have h4 := h.len
  unfold Bd.spawns
  omega
/-- the spawn of a number, counted round and round -/
def spawnAt (W : Nat) (E : List Int) (n : Int) : Int × Int := ((Bd.spawns W E)[(n % ((Bd.spawns W E).length : Int)).toNat]?).getD (0, 0)
theorem Int.tmod_emod_cases (n : Int) {N : Nat} (h : 0 < N) : (Int.tmod n N < 0 → n % (N : Int) = Int.tmod n N + N) ∧ (¬ Int.tmod n N < 0 → n % (N : Int) = Int.tmod n N) ∧ -(N : Int) < Int.tmod n N ∧ Int.tmod n N < N := by
  have h0 : (0 : Int) < N := by omega
  have h1 := Int.tmod_add_mul_tdiv n N
  have h2 := Int.tmod_lt_of_pos n h0
  have h3 := Int.lt_tmod_of_pos n h0
  refine ⟨fun hn => ?_, fun hn => ?_, h3, h2⟩
  · have h4 : n = (Int.tmod n N + N) + N * (Int.tdiv n N - 1) := by rw [Int.mul_sub]; omega
    conv => lhs; rw [h4]
    rw [Int.add_mul_emod_self_left, Int.emod_eq_of_lt (by omega) (by omega)]
  · conv => lhs; rw [← h1]
    rw [Int.add_mul_emod_self_left, Int.emod_eq_of_lt (by omega) h2]
/-- a car as it comes -/
def Cr.fresh (W : Nat) (E : List Int) (c : Cr) (n : Int) : Cr := ⟨c.player, c.name, (spawnAt W E n).1, (spawnAt W E n).2, 0, 0, 0, 100, 100, 20, 0, 0, c.spawns, c.score⟩
/-- what the last region finds -/
structure FrS (Z g k : Nat) (c : Cr) (p : Int × Int) (w0 q : World) : Prop where
  car : Blk q Z c.cells 25
  sp : q.rangeAt g (k * 2) [.int .i64 p.1, .int .i64 p.2]
  m : Mod none_ w0 q
theorem FrS.keep {Z g k : Nat} {c : Cr} {p : Int × Int} {w0 q q' : World} (h : FrS Z g k c p w0 q) (hM : Mod none_ q q') : FrS Z g k c p w0 q' := ⟨hM.blk h.car (fun h => h), rangeAt_mod h.sp hM (fun h => h), h.m.then hM⟩
theorem FrS.store {Z g k X : Nat} {c : Cr} {p : Int × Int} {w0 q q' : World} (h : FrS Z g k c p w0 q) (hM : Mod (only X) q q') (hn : Z ≠ X ∧ g ≠ X ∧ w0.heap.size ≤ X) : FrS Z g k c p w0 q' := ⟨hM.blk h.car (not_only hn.1), rangeAt_mod h.sp hM (not_only hn.2.1), h.m.trans hM (fun j hj e => by have : j = X := e; omega)⟩
set_option maxHeartbeats 4000000 in
set_option maxRecDepth 100000 in
theorem fresh_any (w : World) {b W H : Nat} {E : List Int} (hB : BrdP w b W H E) (c : Cr) (n : Int) :
    Calls Tryd.prog 80 #[.pointer (some ⟨b, 0, none⟩), c.agg, .int .i64 n] w fun e w' => e = .returned (c.fresh W E n).agg ∧ Mod none_ w w' := by
  have hsp : ∀ q : World, Mod none_ w q → Calls Tryd.prog 42 #[.pointer (some ⟨b, 0, none⟩)] q fun e w' => ∃ v, e = .returned v ∧ OwnV w' q.heap.size v (Bd.spawns W E) ∧ Mod none_ q w' := fun q hM => by
    obtain ⟨g, hg⟩ := (hB.none hM).toM
    exact spawns_any q hg
  have hpos : 0 < (Bd.spawns W E).length := List.length_pos_iff.2 hB.fine.some
  have hlen := spawns_few hB.fine
  have hdef : c.fresh W E n = ⟨c.player, c.name, (spawnAt W E n).1, (spawnAt W E n).2, 0, 0, 0, 100, 100, 20, 0, 0, c.spawns, c.score⟩ := rfl
  have hsa : spawnAt W E n = ((Bd.spawns W E)[(n % ((Bd.spawns W E).length : Int)).toNat]?).getD (0, 0) := rfl
  obtain ⟨p, hp⟩ : ∃ p, spawnAt W E n = p := ⟨_, rfl⟩
  rw [hp] at hdef hsa
  obtain ⟨R, hR⟩ : ∃ R, c.fresh W E n = R := ⟨_, rfl⟩
  rw [hR] at hdef ⊢
  clear hR hp
  generalize Bd.spawns W E = l at *
  obtain ⟨k, hk⟩ : ∃ k : Nat, n % (l.length : Int) = (k : Int) := ⟨(n % (l.length : Int)).toNat, by have := Int.emod_nonneg n (show (l.length : Int) ≠ 0 by omega); omega⟩
  have hkl : k < l.length := by have := Int.emod_lt_of_pos n (show (0 : Int) < l.length by omega); omega
  have hkp : l[k]? = some p := by
    rw [hk] at hsa
    rw [show ((k : Int)).toNat = k by omega] at hsa
    rw [hsa, List.getElem?_eq_getElem hkl]
    rfl
  have hm1 := Int.tmod_emod_cases n hpos
  obtain ⟨m, hm⟩ : ∃ m, Int.tmod n (l.length : Int) = m := ⟨_, rfl⟩
  rw [hm] at hm1
  have HSP := Lib.hid hsp; have HDEF := Lib.hid hdef; have HKP := Lib.hid hkp; have HM1 := Lib.hid hm1; have HK := Lib.hid hk; have HMM := Lib.hid hm; have HLEN := Lib.hid (And.intro hpos hlen); have HLP := Lib.hid hpos
  clear hsp hdef hkp hm1 hk hm hsa hB
  obtain ⟨N, hN⟩ : ∃ N, l.length = N := ⟨_, rfl⟩
  rw [hN] at HM1 HK HMM HLEN hkl hpos hlen
  have HN := Lib.hid hN
  clear hN
  unfold Cr.agg
  go_enter Tryd.func80, Tryd.ntmps80
  go_upto_region 1 with fail
  obtain ⟨w1, hw1, hC1, hX1, hM1⟩ := car_new1 w c
  rw [hw1]
  obtain ⟨Z, hZ⟩ : ∃ Z, w.heap.size = Z := ⟨_, rfl⟩
  rw [hZ] at hC1 hX1 ⊢
  obtain ⟨X, hXe⟩ : ∃ X, Z + 1 = X := ⟨_, rfl⟩
  rw [hXe] at hX1 ⊢
  have HC1 := Lib.hid hC1; have HX1 := Lib.hid hX1; have HW1 := Lib.hid hM1
  have HZX := Lib.hid (show w.heap.size ≤ Z ∧ Z ≠ X ∧ w.heap.size ≤ X by omega)
  clear hC1 hX1 hM1 hw1 hZ hXe
  go_upto_region 2 with (go_at_call 42; refine (HSP.out _ HW1.out).mono ?_; rintro r w2 ⟨v, rfl, hO, hM⟩; have HO2 := Lib.hid hO; have HC2 := Lib.hid (hM.blk HC1.out (fun h => h)); have HX2 := Lib.hid (hM.blk HX1.out (fun h => h)); have HM2 := Lib.hid (HW1.out.then hM); have HX1L := Lib.hid HX1.out.lt; clear hM hO)
  obtain ⟨g, cap, rfl, hgb, hat⟩ := HO2.out.at HLP.out
  rw [HN.out]
  have hS2 : FrS Z g k c p w w2 := ⟨HC2.out, hat k p HKP.out, HM2.out⟩
  have HGX := Lib.hid (show g ≠ X by have := HX1L.out; omega)
  have HS2 := Lib.hid hS2
  clear hat hgb hS2 HO2 HC1 HX1 HW1
  go_upto_if 16 with fail
  rw [HMM.out]
  go_cut [8] (fun v wx => v = .int .i64 k ∧ wx = w2)
  case first =>
    by_cases c1 : m < 0
    · have d1 : decide (m < 0) = true := decide_eq_true c1
      have hk : m + (N : Int) = (k : Int) := by rw [← HK.out]; exact (HM1.out.1 c1).symm
      have hw : wrap64 (m + (N : Int)) = (k : Int) := by rw [hk]; exact w64 (by omega)
      have HWW := Lib.hid hw
      clear hk hw
      go_wp2_with fail
      go_meet
      exact ⟨by rw [HWW.out], rfl⟩
    · have d1 : decide (m < 0) = false := decide_eq_false c1
      have hk : m = (k : Int) := by rw [← HK.out]; exact (HM1.out.2.1 (by omega)).symm
      have HKK := Lib.hid hk
      clear hk
      go_wp2_with fail
      go_meet
      exact ⟨by rw [HKK.out], rfl⟩
  case rest =>
    obtain ⟨rfl, hwc⟩ := hcut
    replace hwc := hwc.symm
    subst hwc
    have hkN : (k : Int) < (N : Int) := by omega
    go_upto_region 5 with fail
    have hS : FrS Z g k c p w w2.drew := HS2.out.keep (Mod.refl _ _).drew
    refine wp_region_noPanic ?_
    refine wp_region_held_drew (S := FrS Z g k c p w) (by kernel_rfl) hS (fun hHeld => ?_)
    clear hHeld
    refine wpAnyH_take (i := 0) (v := ?_) (by simp only [List.getElem?_toArray, List.getElem?_cons_zero]; rfl) (by kernel_rfl) (by kernel_rfl) (by kernel_rfl) (fun _ _ _ h => h) (Or.inl ⟨by rfl, ?_⟩) hS ?_
    rotate_left
    · (intro wq hSw; go_simp; all_goals with_reducible rfl)
    try simp only [Act.put, List.setIfInBounds_toArray, List.set_cons_zero, List.set_cons_succ]
    refine wpAnyH_take (i := 1) (v := ?_) (by simp only [List.getElem?_toArray, List.getElem?_cons_zero, List.getElem?_cons_succ]; rfl) (by kernel_rfl) (by kernel_rfl) (by kernel_rfl) (fun _ _ _ h => h) (Or.inl ⟨by rfl, ?_⟩) hS ?_
    rotate_left
    · (intro wq hSw; have q_a := hSw.car.cell (j := 0) rfl; go_simp; all_goals with_reducible rfl)
    try simp only [Act.put, List.setIfInBounds_toArray, List.set_cons_zero, List.set_cons_succ]
    refine wpAnyH_take (i := 2) (v := ?_) (by simp only [List.getElem?_toArray, List.getElem?_cons_zero, List.getElem?_cons_succ]; rfl) (by kernel_rfl) (by kernel_rfl) (by kernel_rfl) (fun _ _ _ h => h) (Or.inl ⟨by rfl, ?_⟩) hS ?_
    rotate_left
    · (intro wq hSw; go_simp; all_goals with_reducible rfl)
    try simp only [Act.put, List.setIfInBounds_toArray, List.set_cons_zero, List.set_cons_succ]
    refine wpAnyH_take (i := 3) (v := ?_) (by simp only [List.getElem?_toArray, List.getElem?_cons_zero, List.getElem?_cons_succ]; rfl) (by kernel_rfl) (by kernel_rfl) (by kernel_rfl) (fun _ _ _ h => h) (Or.inl ⟨by rfl, ?_⟩) hS ?_
    rotate_left
    · (intro wq hSw; have q_a := hSw.car.cell (j := 1) rfl; go_simp; all_goals with_reducible rfl)
    try simp only [Act.put, List.setIfInBounds_toArray, List.set_cons_zero, List.set_cons_succ]
    refine wpAnyH_take (i := 4) (v := ?_) (by simp only [List.getElem?_toArray, List.getElem?_cons_zero, List.getElem?_cons_succ]; rfl) (by kernel_rfl) (by kernel_rfl) (by kernel_rfl) (fun _ _ _ h => h) (Or.inl ⟨by rfl, ?_⟩) hS ?_
    rotate_left
    · (intro wq hSw; go_simp; all_goals with_reducible rfl)
    try simp only [Act.put, List.setIfInBounds_toArray, List.set_cons_zero, List.set_cons_succ]
    refine wpAnyH_take (i := 5) (v := ?_) (by simp only [List.getElem?_toArray, List.getElem?_cons_zero, List.getElem?_cons_succ]; rfl) (by kernel_rfl) (by kernel_rfl) (by kernel_rfl) (fun _ _ _ h => h) (Or.inl ⟨by rfl, ?_⟩) hS ?_
    rotate_left
    · (intro wq hSw; go_simp; all_goals with_reducible rfl)
    try simp only [Act.put, List.setIfInBounds_toArray, List.set_cons_zero, List.set_cons_succ]
    refine wpAnyH_take (i := 6) (v := ?_) (by simp only [List.getElem?_toArray, List.getElem?_cons_zero, List.getElem?_cons_succ]; rfl) (by kernel_rfl) (by kernel_rfl) (by kernel_rfl) (fun _ _ _ h => h) (Or.inl ⟨by rfl, ?_⟩) hS ?_
    rotate_left
    · (intro wq hSw; go_simp; all_goals with_reducible rfl)
    try simp only [Act.put, List.setIfInBounds_toArray, List.set_cons_zero, List.set_cons_succ]
    refine wpAnyH_take (i := 7) (v := _) (by simp only [List.getElem?_toArray, List.getElem?_cons_zero, List.getElem?_cons_succ]; rfl) (by kernel_rfl) (by kernel_rfl) (by kernel_rfl) (fun _ _ _ h => h) (yieldsIf_load_mid (by rfl) 23 (.tmp 27) rfl g (k * 2) rfl [.int .i64 p.1, .int .i64 p.2] _ (fun _ h => h.sp) Tryd.underlying23 rfl size_vec2) hS ?_
    try simp only [Act.put, List.setIfInBounds_toArray, List.set_cons_zero, List.set_cons_succ]
    refine wpAnyH_take (i := 8) (v := ?_) (by simp only [List.getElem?_toArray, List.getElem?_cons_zero, List.getElem?_cons_succ]; rfl) (by kernel_rfl) (by kernel_rfl) (by kernel_rfl) (fun _ _ _ h => h) (Or.inl ⟨by rfl, ?_⟩) hS ?_
    rotate_left
    · (intro wq hSw; go_simp; all_goals with_reducible rfl)
    try simp only [Act.put, List.setIfInBounds_toArray, List.set_cons_zero, List.set_cons_succ]
    refine wpAnyH_take (i := 9) (v := ?_) (by simp only [List.getElem?_toArray, List.getElem?_cons_zero, List.getElem?_cons_succ]; rfl) (by kernel_rfl) (by kernel_rfl) (by kernel_rfl) (fun _ _ _ h => h) (Or.inl ⟨by rfl, ?_⟩) hS ?_
    rotate_left
    · (intro wq hSw; have q_a := hSw.car.cell (j := 12) rfl; go_simp; all_goals with_reducible rfl)
    try simp only [Act.put, List.setIfInBounds_toArray, List.set_cons_zero, List.set_cons_succ]
    refine wpAnyH_take (i := 10) (v := ?_) (by simp only [List.getElem?_toArray, List.getElem?_cons_zero, List.getElem?_cons_succ]; rfl) (by kernel_rfl) (by kernel_rfl) (by kernel_rfl) (fun _ _ _ h => h) (Or.inl ⟨by rfl, ?_⟩) hS ?_
    rotate_left
    · (intro wq hSw; go_simp; all_goals with_reducible rfl)
    try simp only [Act.put, List.setIfInBounds_toArray, List.set_cons_zero, List.set_cons_succ]
    refine wpAnyH_take (i := 11) (v := ?_) (by simp only [List.getElem?_toArray, List.getElem?_cons_zero, List.getElem?_cons_succ]; rfl) (by kernel_rfl) (by kernel_rfl) (by kernel_rfl) (fun _ _ _ h => h) (Or.inl ⟨by rfl, ?_⟩) hS ?_
    rotate_left
    · (intro wq hSw; have q_a := hSw.car.cell (j := 13) rfl; go_simp; all_goals with_reducible rfl)
    try simp only [Act.put, List.setIfInBounds_toArray, List.set_cons_zero, List.set_cons_succ]
    refine wpAnyH_take (i := 12) (v := ?_) (by simp only [List.getElem?_toArray, List.getElem?_cons_zero, List.getElem?_cons_succ]; rfl) (by kernel_rfl) (by kernel_rfl) (by kernel_rfl) (fun _ _ _ h => h) (Or.inl ⟨by rfl, ?_⟩) hS ?_
    rotate_left
    · (intro wq hSw; go_simp; all_goals with_reducible rfl)
    try simp only [Act.put, List.setIfInBounds_toArray, List.set_cons_zero, List.set_cons_succ]
    refine wpAnyH_ready (rs := [13]) (by kernel_rfl) (by simp) ?_
    refine AllReadyH.cons (by simp only [List.getElem?_toArray, List.getElem?_cons_zero, List.getElem?_cons_succ]; rfl) (fun K hK => ?_) (AllReadyH.nil)
    rw [if_pos (by rfl)]
    refine wp_store_blk 25 (.tmp 6) (.tmp 33) rfl X R.cells rfl (by rw [HDEF.out]; rfl) 25 _ HX2.out.drew size_car rfl (one_car R) ?_
    intro w9 hX9 hM9 _
    have hSS := FrS.store hS hM9 ⟨HZX.out.2.1, HGX.out, HZX.out.2.2⟩
    refine hK.out _ _ hSS (fun _ => ?_)
    clear hK K
    try simp only [Act.put]
    refine wpAnyH_done (by kernel_rfl) ?_ _
    refine NoPanic.normal ?_

    go_wp2_with fail
    exact bodyPost_ret (car_back Tryd.results80 _ _ X R rfl hX9) rfl ⟨rfl, hSS.m⟩
def newC (player : Int) (name : ByteArray) : Cr := ⟨player, name, 0, 0, 0, 0, 0, 0, 0, 0, 0, 0, 0, 0⟩
set_option maxHeartbeats 2000000 in
set_option maxRecDepth 100000 in
theorem new_any (w : World) {b W H : Nat} {E : List Int} (hB : BrdP w b W H E) (player : Int) (name : ByteArray) :
    Calls Tryd.prog 35 #[.pointer (some ⟨b, 0, none⟩), .int .i64 player, .string name] w fun e w' => e = .returned ((newC player name).fresh W E player).agg ∧ Mod none_ w w' := by
  have hf := fun (q : World) (hM : Mod none_ w q) => fresh_any q (hB.none hM) (newC player name) player
  obtain ⟨R, hR⟩ : ∃ R, (newC player name).fresh W E player = R := ⟨_, rfl⟩
  simp only [hR] at hf
  rw [hR]
  have HF := Lib.hid hf
  clear hf hR hB
  go_enter Tryd.func35, Tryd.ntmps35
  go_upto_region 1 with fail
  obtain ⟨w1, hw1, hX1, hM1⟩ : ∃ w1, w.alloc (.cells car0.cells.toArray 25) = w1 ∧ Blk w1 w.heap.size car0.cells 25 ∧ Mod none_ w w1 := ⟨_, rfl, Blk.new w car0.cells _, (Mod.refl none_ w).alloc _⟩
  change Code.wp _ _ _ _ (w.alloc (.cells car0.cells.toArray 25))
  rw [hw1]
  obtain ⟨X, hX⟩ : ∃ Z, w.heap.size = Z := ⟨_, rfl⟩
  rw [hX] at hX1 ⊢
  have HX1 := Lib.hid hX1; have HM1 := Lib.hid hM1; have HX := Lib.hid hX
  clear hX1 hM1 hw1 hX
  go_wp2_with (first | (go_at_call 80; refine (HF.out _ HM1.out).mono ?_; rintro r w2 ⟨rfl, hM⟩; have HX2 := Lib.hid (hM.blk HX1.out (fun h => h)); have HM2 := Lib.hid (HM1.out.then hM); clear hM) | (refine wpList_store_blk rfl 25 (.tmp 6) (.tmp 12) rfl X R.cells rfl rfl 25 _ HX2.out size_car rfl (one_car _) ?_; intro w3 hX3 hM3 _))
  exact bodyPost_ret (car_back Tryd.results35 _ _ X R rfl hX3) rfl ⟨rfl, HM2.out.trans hM3 (fun j hj e => by have := HX.out; have : j = X := e; omega)⟩
end Go.Proofs.YtinjlkceplhibaaDoor
