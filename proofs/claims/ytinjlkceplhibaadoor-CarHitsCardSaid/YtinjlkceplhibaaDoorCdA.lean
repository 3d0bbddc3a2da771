/- car: a drive in memory: the walks of its steps. -/
import Derived.Test.YtinjlkceplhibaaDoorCrB
import Derived.Test.YtinjlkceplhibaaDoorBdQ
namespace Go.Proofs.YtinjlkceplhibaaDoor
open Go.RowKit

/-- a car on its way through a tick -/
structure Dr where
  c : Cr
  ip : Int
  thr : Int
  turn : Int
  fire : Bool
  boost : Bool
  pw : Int
def Dr.cells (b : Nat) (d : Dr) : List Value := [.pointer (some ⟨b, 0, none⟩), .int .i64 d.c.player, .string d.c.name, .int .i64 d.c.ax, .int .i64 d.c.ay, .int .i64 d.c.sx, .int .i64 d.c.sy, .int .i64 d.c.heading, .int .i64 d.c.health, .int .i64 d.c.energy, .int .i64 d.c.ammo, .int .i64 d.c.cool, .int .i64 d.c.wait, .int .i64 d.c.spawns, .int .i64 d.c.score, .int .i64 d.ip, .int .i64 d.thr, .int .i64 d.turn, .bool d.fire, .bool d.boost, .int .i64 d.pw]
def Dr.turned (d : Dr) : Dr := { d with c := { d.c with heading := (d.c.heading + d.turn) % 256 } }
/-- one cell that stays -/
structure Keep1 (D j : Nat) (v : Value) (q : World) : Prop where
  a : q.cell? ⟨D, j, none⟩ = some v
set_option maxHeartbeats 1000000 in
set_option maxRecDepth 100000 in
theorem dturn_any (w : World) (D b : Nat) (d : Dr) (hD : Blk w D (d.cells b) 107) : Calls Tryd.prog 74 #[.pointer (some ⟨D, 0, none⟩)] w fun e w' => e = .returned (.tuple #[]) ∧ Blk w' D (d.turned.cells b) 107 ∧ Mod (only D) w w' := by
  have ht := fun q : World => vturn_any q d.c.heading d.turn
  obtain ⟨h, hh⟩ : ∃ h, (d.c.heading + d.turn) % 256 = h := ⟨_, rfl⟩
  simp only [hh] at ht
  have HT := Lib.hid ht; have HD := Lib.hid hD; have HH := Lib.hid hh
  have q7 := hD.cell (j := 7) rfl; have f7 := hD.frozen 7
  have hS : Keep1 D 17 (.int .i64 d.turn) w.drew := ⟨hD.cell (j := 17) rfl⟩
  clear ht hD hh
  go_enter Tryd.func74, Tryd.ntmps74
  go_upto_region 0 with fail
  refine wp_region_noPanic ?_
  refine wp_region_held_drew (S := Keep1 D 17 (.int .i64 d.turn)) (by kernel_rfl) hS (fun hHeld => ?_)
  clear hHeld
  refine wpAnyH_take (i := 0) (v := ?_) (by simp only [List.getElem?_toArray, List.getElem?_cons_zero]; rfl) (by kernel_rfl) (by kernel_rfl) (by kernel_rfl) (fun _ _ _ h => h) (Or.inl ⟨by rfl, ?_⟩) hS ?_
  rotate_left
  · (intro wq hSw; go_simp; all_goals with_reducible rfl)
  try simp only [Act.put, List.setIfInBounds_toArray, List.set_cons_zero, List.set_cons_succ]
  refine wpAnyH_take (i := 1) (v := ?_) (by simp only [List.getElem?_toArray, List.getElem?_cons_zero, List.getElem?_cons_succ]; rfl) (by kernel_rfl) (by kernel_rfl) (by kernel_rfl) (fun _ _ _ h => h) (Or.inl ⟨by rfl, ?_⟩) hS ?_
  rotate_left
  · (intro wq hSw; go_simp; all_goals with_reducible rfl)
  try simp only [Act.put, List.setIfInBounds_toArray, List.set_cons_zero, List.set_cons_succ]
  refine wpAnyH_take (i := 2) (v := ?_) (by simp only [List.getElem?_toArray, List.getElem?_cons_zero, List.getElem?_cons_succ]; rfl) (by kernel_rfl) (by kernel_rfl) (by kernel_rfl) (fun _ _ _ h => h) (Or.inl ⟨by rfl, ?_⟩) hS ?_
  rotate_left
  · (intro wq hSw; go_simp; all_goals with_reducible rfl)
  try simp only [Act.put, List.setIfInBounds_toArray, List.set_cons_zero, List.set_cons_succ]
  refine wpAnyH_take (i := 3) (v := ?_) (by simp only [List.getElem?_toArray, List.getElem?_cons_zero, List.getElem?_cons_succ]; rfl) (by kernel_rfl) (by kernel_rfl) (by kernel_rfl) (fun _ _ _ h => h) (Or.inl ⟨by rfl, ?_⟩) hS ?_
  rotate_left
  · (intro wq hSw; go_simp; all_goals with_reducible rfl)
  try simp only [Act.put, List.setIfInBounds_toArray, List.set_cons_zero, List.set_cons_succ]
  refine wpAnyH_take (i := 4) (v := ?_) (by simp only [List.getElem?_toArray, List.getElem?_cons_zero, List.getElem?_cons_succ]; rfl) (by kernel_rfl) (by kernel_rfl) (by kernel_rfl) (fun _ _ _ h => h) (Or.inl ⟨by rfl, ?_⟩) hS ?_
  rotate_left
  · (intro wq hSw; go_simp; all_goals with_reducible rfl)
  try simp only [Act.put, List.setIfInBounds_toArray, List.set_cons_zero, List.set_cons_succ]
  refine wpAnyH_take (i := 6) (v := ?_) (by simp only [List.getElem?_toArray, List.getElem?_cons_zero, List.getElem?_cons_succ]; rfl) (by kernel_rfl) (by kernel_rfl) (by kernel_rfl) (fun _ _ _ h => h) (Or.inl ⟨by rfl, ?_⟩) hS ?_
  rotate_left
  · (intro wq hSw; go_simp; all_goals with_reducible rfl)
  try simp only [Act.put, List.setIfInBounds_toArray, List.set_cons_zero, List.set_cons_succ]
  refine wpAnyH_take (i := 7) (v := ?_) (by simp only [List.getElem?_toArray, List.getElem?_cons_zero, List.getElem?_cons_succ]; rfl) (by kernel_rfl) (by kernel_rfl) (by kernel_rfl) (fun _ _ _ h => h) (Or.inl ⟨by rfl, ?_⟩) hS ?_
  rotate_left
  · (intro wq hSw; go_simp; all_goals with_reducible rfl)
  try simp only [Act.put, List.setIfInBounds_toArray, List.set_cons_zero, List.set_cons_succ]
  refine wpAnyH_take (i := 8) (v := ?_) (by simp only [List.getElem?_toArray, List.getElem?_cons_zero, List.getElem?_cons_succ]; rfl) (by kernel_rfl) (by kernel_rfl) (by kernel_rfl) (fun _ _ _ h => h) (Or.inl ⟨by rfl, ?_⟩) hS ?_
  rotate_left
  · (intro wq hSw; go_simp; all_goals with_reducible rfl)
  try simp only [Act.put, List.setIfInBounds_toArray, List.set_cons_zero, List.set_cons_succ]
  refine wpAnyH_take (i := 9) (v := ?_) (by simp only [List.getElem?_toArray, List.getElem?_cons_zero, List.getElem?_cons_succ]; rfl) (by kernel_rfl) (by kernel_rfl) (by kernel_rfl) (fun _ _ _ h => h) (Or.inl ⟨by rfl, ?_⟩) hS ?_
  rotate_left
  · (intro wq hSw; go_simp; all_goals with_reducible rfl)
  try simp only [Act.put, List.setIfInBounds_toArray, List.set_cons_zero, List.set_cons_succ]
  refine wpAnyH_take (i := 10) (v := ?_) (by simp only [List.getElem?_toArray, List.getElem?_cons_zero, List.getElem?_cons_succ]; rfl) (by kernel_rfl) (by kernel_rfl) (by kernel_rfl) (fun _ _ _ h => h) (Or.inl ⟨by rfl, ?_⟩) hS ?_
  rotate_left
  · (intro wq hSw; have q_a := hSw.a; go_simp; all_goals with_reducible rfl)
  try simp only [Act.put, List.setIfInBounds_toArray, List.set_cons_zero, List.set_cons_succ]
  refine wpAnyH_ready (rs := [5]) (by kernel_rfl) (by simp) ?_
  refine AllReadyH.cons (by simp only [List.getElem?_toArray, List.getElem?_cons_zero, List.getElem?_cons_succ]; rfl) (fun K hK => ?_) (AllReadyH.nil)
  rw [if_pos (by rfl)]
  go_simp
  refine hK.out _ _ hS (fun _ => ?_)
  clear hK K
  try simp only [Act.put, List.setIfInBounds_toArray, List.set_cons_zero, List.set_cons_succ]
  refine wpAnyH_ready (rs := [11]) (by kernel_rfl) (by simp) ?_
  refine AllReadyH.cons (by simp only [List.getElem?_toArray, List.getElem?_cons_zero, List.getElem?_cons_succ]; rfl) (fun K hK => ?_) (AllReadyH.nil)
  go_simp
  go_at_call 98
  refine (HT.out _).mono ?_
  rintro r wz ⟨rfl, hwz⟩
  replace hwz := hwz.symm; subst hwz
  go_wp2_with fail
  refine hK.out _ _ hS (fun _ => ?_)
  clear hK K
  try simp only [Act.put, List.setIfInBounds_toArray, List.set_cons_zero, List.set_cons_succ]
  refine wpAnyH_take (i := 12) (v := ?_) (by simp only [List.getElem?_toArray, List.getElem?_cons_zero, List.getElem?_cons_succ]; rfl) (by kernel_rfl) (by kernel_rfl) (by kernel_rfl) (fun _ _ _ h => h) (Or.inl ⟨by rfl, ?_⟩) hS ?_
  rotate_left
  · (intro wq hSw; go_simp; all_goals with_reducible rfl)
  try simp only [Act.put, List.setIfInBounds_toArray, List.set_cons_zero, List.set_cons_succ]
  refine wpAnyH_take (i := 13) (v := ?_) (by simp only [List.getElem?_toArray, List.getElem?_cons_zero, List.getElem?_cons_succ]; rfl) (by kernel_rfl) (by kernel_rfl) (by kernel_rfl) (fun _ _ _ h => h) (Or.inl ⟨by rfl, ?_⟩) hS ?_
  rotate_left
  · (intro wq hSw; go_simp; all_goals with_reducible rfl)
  try simp only [Act.put, List.setIfInBounds_toArray, List.set_cons_zero, List.set_cons_succ]
  refine wpAnyH_take (i := 14) (v := ?_) (by simp only [List.getElem?_toArray, List.getElem?_cons_zero, List.getElem?_cons_succ]; rfl) (by kernel_rfl) (by kernel_rfl) (by kernel_rfl) (fun _ _ _ h => h) (Or.inl ⟨by rfl, ?_⟩) hS ?_
  rotate_left
  · (intro wq hSw; go_simp; all_goals with_reducible rfl)
  try simp only [Act.put, List.setIfInBounds_toArray, List.set_cons_zero, List.set_cons_succ]
  refine wpAnyH_ready (rs := [15]) (by kernel_rfl) (by simp) ?_
  refine AllReadyH.cons (by simp only [List.getElem?_toArray, List.getElem?_cons_zero, List.getElem?_cons_succ]; rfl) (fun K hK => ?_) (AllReadyH.nil)
  rw [if_pos (by rfl)]
  go_simp
  refine hK.out _ _ ⟨(HD.out.drew.set 7 _).cell (j := 17) rfl⟩ (fun _ => ?_)
  clear hK K
  try simp only [Act.put]
  refine wpAnyH_done (by kernel_rfl) ?_ _
  refine NoPanic.normal ?_
  go_wp2
  go_end0
  exact ⟨rfl, (HD.out.drew.set 7 _).cs (by unfold Dr.turned; rw [HH.out]; rfl), ((Mod.refl _ _).drew).setCell (p := ⟨D, 7, none⟩) (fun _ => only_self D) _⟩
theorem w64 {n : Int} (h : -9223372036854775808 ≤ n ∧ n ≤ 9223372036854775807) : wrap64 n = n := by unfold wrap64; omega
/-- what a throttle gives -/
def Dr.power (d : Dr) : Int := d.thr * 4096 / 100
open Classical in
noncomputable def Dr.pressed (d : Dr) : Dr := if d.boost = true ∧ 4 ≤ d.c.energy then { d with pw := d.power * 2, c := { d.c with energy := d.c.energy - 4 } } else { d with pw := d.power }
def Dr.pushed (d : Dr) : Dr := { d with c := { d.c with sx := Vx.lim (d.c.sx + Vx.mulV (sinT (d.c.heading + 64)) d.pw), sy := Vx.lim (d.c.sy + Vx.mulV (sinT d.c.heading) d.pw) } }
def Dr.rubbed (d : Dr) : Dr := { d with c := { d.c with sx := Vx.keep (d.c.sx - d.c.sx / 16) (Vx.capM 65536), sy := Vx.keep (d.c.sy - d.c.sy / 16) (Vx.capM 65536) } }
open Classical in
noncomputable def Dr.alonged (W H : Nat) (E : List Int) (d : Dr) : Dr := if Bd.Blocked W H E (Vx.lim (d.c.ax + d.c.sx)) d.c.ay 98304 then { d with c := { d.c with sx := -(d.c.sx / 2) } } else { d with c := { d.c with ax := Vx.lim (d.c.ax + d.c.sx) } }
open Classical in
noncomputable def Dr.acrossed (W H : Nat) (E : List Int) (d : Dr) : Dr := if Bd.Blocked W H E d.c.ax (Vx.lim (d.c.ay + d.c.sy)) 98304 then { d with c := { d.c with sy := -(d.c.sy / 2) } } else { d with c := { d.c with ay := Vx.lim (d.c.ay + d.c.sy) } }
theorem tdiv_down (a : Int) : (if Int.tmod a 100 < 0 then Int.tdiv a 100 - 1 else Int.tdiv a 100) = a / 100 := by
  have h1 := Int.tmod_add_mul_tdiv a 100
  have h2 : a < 0 → Int.tmod a 100 ≤ 0 := fun h => by
    have h3 := Int.tmod_nonneg 100 (show 0 ≤ -a by omega)
    rw [Int.neg_tmod] at h3
    omega
  have h3 : 0 ≤ a → 0 ≤ Int.tmod a 100 := fun h => Int.tmod_nonneg _ h
  have h4 := Int.tmod_lt_of_pos a (show (0 : Int) < 100 by decide)
  have h5 := Int.lt_tmod_of_pos a (show (0 : Int) < 100 by decide)
  generalize Int.tmod a 100 = r at *
  generalize Int.tdiv a 100 = q at *
  split <;> omega
set_option maxHeartbeats 1000000 in
set_option maxRecDepth 100000 in
theorem dpress_any (w : World) (D b : Nat) (d : Dr) (ht : -100 ≤ d.thr ∧ d.thr ≤ 100) (he : Bd.I64 d.c.energy) (hD : Blk w D (d.cells b) 107) : Calls Tryd.prog 75 #[.pointer (some ⟨D, 0, none⟩)] w fun e w' => e = .returned (.tuple #[]) ∧ Blk w' D (d.pressed.cells b) 107 ∧ Mod (only D) w w' := by
  unfold Bd.I64 at he
  have hraw : wrap64 (d.thr * 4096) = d.thr * 4096 := w64 (by omega)
  have hdn := tdiv_down (d.thr * 4096)
  obtain ⟨P, hP⟩ : ∃ P, d.thr * 4096 / 100 = P := ⟨_, rfl⟩
  have hpb : -4096 ≤ P ∧ P ≤ 4096 := by omega
  rw [hP] at hdn
  have hpr : d.pressed = if d.boost = true ∧ 4 ≤ d.c.energy then { d with pw := P * 2, c := { d.c with energy := d.c.energy - 4 } } else { d with pw := P } := by
    unfold Dr.pressed Dr.power
    rw [hP]
  obtain ⟨R, hR⟩ : ∃ R, wrap64 (d.thr * 4096) = R := ⟨_, rfl⟩
  have hRR : R = d.thr * 4096 := by rw [← hR]; exact hraw
  rw [← hRR] at hdn
  have hrb : -409600 ≤ R ∧ R ≤ 409600 := by omega
  have hqb : -4097 ≤ Int.tdiv R 100 ∧ Int.tdiv R 100 ≤ 4097 := by have := Int.tmod_add_mul_tdiv R 100; have h4 := Int.tmod_lt_of_pos R (show (0 : Int) < 100 by decide); have h5 := Int.lt_tmod_of_pos R (show (0 : Int) < 100 by decide); omega
  clear hraw hRR hrb hP
  obtain ⟨Q, hQ⟩ : ∃ Q, Int.tdiv R 100 = Q := ⟨_, rfl⟩
  obtain ⟨M, hM⟩ : ∃ M, Int.tmod R 100 = M := ⟨_, rfl⟩
  rw [hQ] at hdn hqb
  rw [hM] at hdn
  have HD := Lib.hid hD; have HR := Lib.hid hR; have HQ := Lib.hid hQ; have HM := Lib.hid hM
  have HPR := Lib.hid hpr
  clear hD hpr hR hQ hM ht
  have q16 := HD.out.cell (j := 16) rfl; have q20 := HD.out.cell (j := 20) rfl; have f20 := HD.out.frozen 20
  go_enter Tryd.func75, Tryd.ntmps75
  go_upto_region 1 with fail
  rw [HR.out]
  go_upto_region 2 with fail
  rw [HQ.out, w64 (n := Q) (by omega)]
  obtain ⟨w1, hw1, hD1, hM1⟩ : ∃ w1, w.setCell ⟨D, 20, none⟩ (.int .i64 Q) = w1 ∧ Blk w1 D (({ d with pw := Q } : Dr).cells b) 107 ∧ Mod (only D) w w1 := ⟨_, rfl, (HD.out.set 20 _).cs rfl, (Mod.refl _ _).setCell (p := ⟨D, 20, none⟩) (fun _ => only_self D) _⟩
  rw [hw1]
  have HD1 := Lib.hid hD1; have HM1 := Lib.hid hM1
  clear hw1 hD1 hM1 q16 q20 f20 HD
  go_upto_if 16 with fail
  rw [HM.out]
  go_cut [] (fun wx => Blk wx D (({ d with pw := P } : Dr).cells b) 107 ∧ Mod (only D) w wx)
  case first =>
    by_cases c1 : M < 0
    · have d1 : decide (M < 0) = true := decide_eq_true c1
      rw [if_pos c1] at hdn
      have hw : wrap64 (Q - 1) = P := by rw [hdn]; exact w64 (by omega)
      have q20 := HD1.out.cell (j := 20) rfl; have f20 := HD1.out.frozen 20
      go_wp2_with fail
      go_meet
      exact ⟨(HD1.out.set 20 _).cs rfl, HM1.out.setCell (p := ⟨D, 20, none⟩) (fun _ => only_self D) _⟩
    · have d1 : decide (M < 0) = false := decide_eq_false c1
      rw [if_neg c1] at hdn
      go_wp2_with fail
      go_meet
      rw [← hdn]
      exact ⟨HD1.out, HM1.out⟩
  case rest =>
    obtain ⟨hD2, hM2⟩ := hcut
    obtain ⟨w2, rfl⟩ : ∃ q, q = wc := ⟨_, rfl⟩
    have HD2 := Lib.hid hD2; have HM2 := Lib.hid hM2
    clear hD2 hM2 HD1 HM1 hdn hqb HQ HM HR
    have q19 := HD2.out.cell (j := 19) rfl; have q9 := HD2.out.cell (j := 9) rfl; have q20 := HD2.out.cell (j := 20) rfl; have f20 := HD2.out.frozen 20; have f9 := HD2.out.frozen 9
    have hbs : d.boost = true ∨ d.boost = false := by cases d.boost <;> simp
    rcases hbs with hb | hb
    · rw [hb] at q19
      by_cases c2 : 4 ≤ d.c.energy
      · have hpr := HPR.out
        rw [if_pos ⟨hb, c2⟩] at hpr
        have hw1 : wrap64 (P * 2) = P * 2 := w64 (by omega)
        have hw2 : wrap64 (d.c.energy - 4) = d.c.energy - 4 := w64 (by omega)
        have d2 : decide (4 ≤ d.c.energy) = true := decide_eq_true c2
        clear hb hpb
        go_wp2_with fail
        go_end0
        try rw [hpr]
        exact ⟨rfl, ((HD2.out.set 20 _).set 9 _).cs rfl, (HM2.out.setCell (p := ⟨D, 20, none⟩) (fun _ => only_self D) _).setCell (p := ⟨D, 9, none⟩) (fun _ => only_self D) _⟩
      · have hpr := HPR.out
        rw [if_neg (fun h => c2 h.2)] at hpr
        have d2 : decide (4 ≤ d.c.energy) = false := decide_eq_false c2
        clear hb hpb
        go_wp2_with fail
        go_end0
        try rw [hpr]
        exact ⟨rfl, HD2.out, HM2.out⟩
    · rw [hb] at q19
      have hpr := HPR.out
      rw [if_neg (fun h => by rw [hb] at h; exact absurd h.1 (by decide))] at hpr
      clear hb hpb
      go_wp2_with fail
      go_end0
      try rw [hpr]
      exact ⟨rfl, HD2.out, HM2.out⟩
/-- what a push reads -/
structure PuC (D : Nat) (h p : Int) (w0 q : World) : Prop where
  h : q.cell? ⟨D, 7, none⟩ = some (.int .i64 h)
  p : q.cell? ⟨D, 20, none⟩ = some (.int .i64 p)
  m : Mod (only D) w0 q
theorem PuC.keep {D : Nat} {h p : Int} {w0 q q' : World} (s : PuC D h p w0 q) (hM : Mod none_ q q') : PuC D h p w0 q' := ⟨hM.cellS s.h (fun h => h), hM.cellS s.p (fun h => h), s.m.trans hM (fun _ _ h => h.elim)⟩
theorem Sines.only {D : Nat} {w w' : World} (h : Sines w) (hM : Mod (only D) w w') (hn : 0 ≠ D) : Sines w' := fun i hi => hM.cellS (h i hi) (not_only hn)
theorem mulV_bd (a b : Int) : Bd.I64 (Vx.mulV a b) := by have := Vx.lim_in (a * b / 65536); unfold Vx.mulV Bd.I64; omega
theorem i64_small {x : Int} (h : -65536 ≤ x ∧ x ≤ 65536) : Bd.I64 x := by unfold Bd.I64; omega
set_option maxHeartbeats 2000000 in
set_option maxRecDepth 100000 in
theorem dpush_any (w : World) (hG : Sines w) (D b : Nat) (d : Dr) (hx : Bd.I64 d.c.sx) (hy : Bd.I64 d.c.sy) (hp : Bd.I64 d.pw) (hD : Blk w D (d.cells b) 107) (hDg : 0 ≠ D) : Calls Tryd.prog 76 #[.pointer (some ⟨D, 0, none⟩)] w fun e w' => e = .returned (.tuple #[]) ∧ Blk w' D (d.pushed.cells b) 107 ∧ Mod (only D) w w' := by
  have h1 := fun (q : World) (hM : Mod (only D) w q) => vunit_any q (hG.only hM hDg) d.c.heading
  have h2 := fun q : World => vscale_any q (sinT (d.c.heading + 64)) (sinT d.c.heading) d.pw (i64_small (sinT_bd _)) (i64_small (sinT_bd _)) hp
  have hb1 := mulV_bd (sinT (d.c.heading + 64)) d.pw
  have hb2 := mulV_bd (sinT d.c.heading) d.pw
  have hpu : d.pushed = { d with c := { d.c with sx := Vx.lim (d.c.sx + Vx.mulV (sinT (d.c.heading + 64)) d.pw), sy := Vx.lim (d.c.sy + Vx.mulV (sinT d.c.heading) d.pw) } } := rfl
  generalize sinT (d.c.heading + 64) = UX at *
  generalize sinT d.c.heading = UY at *
  generalize Vx.mulV UX d.pw = AX at *
  generalize Vx.mulV UY d.pw = AY at *
  have h3 := fun q : World => vadd_any q d.c.sx d.c.sy AX AY hx hy hb1 hb2
  generalize Vx.lim (d.c.sx + AX) = RX at *
  generalize Vx.lim (d.c.sy + AY) = RY at *
  have H1 := Lib.hid h1; have H2 := Lib.hid h2; have H3 := Lib.hid h3; have HPU := Lib.hid hpu
  have hD0 := hD.drew
  have q5 := hD0.cell (j := 5) rfl; have q6 := hD0.cell (j := 6) rfl
  have f5 := hD0.frozen 5; have f6 := hD0.frozen 6
  have hS : PuC D d.c.heading d.pw w w.drew := ⟨hD0.cell (j := 7) rfl, hD0.cell (j := 20) rfl, (Mod.refl _ _).drew⟩
  clear h1 h2 h3 hpu hD hb1 hb2 hx hy hp hDg hG
  go_enter Tryd.func76, Tryd.ntmps76
  go_upto_region 0 with fail
  refine wp_region_noPanic ?_
  refine wp_region_held_drew (S := PuC D d.c.heading d.pw w) (by kernel_rfl) hS (fun hHeld => ?_)
  clear hHeld
  refine wpAnyH_take (i := 0) (v := ?_) (by simp only [List.getElem?_toArray, List.getElem?_cons_zero]; rfl) (by kernel_rfl) (by kernel_rfl) (by kernel_rfl) (fun _ _ _ h => h) (Or.inl ⟨by rfl, ?_⟩) hS ?_
  rotate_left
  · (intro wq hSw; go_simp; all_goals with_reducible rfl)
  try simp only [Act.put, List.setIfInBounds_toArray, List.set_cons_zero, List.set_cons_succ]
  refine wpAnyH_take (i := 1) (v := ?_) (by simp only [List.getElem?_toArray, List.getElem?_cons_zero, List.getElem?_cons_succ]; rfl) (by kernel_rfl) (by kernel_rfl) (by kernel_rfl) (fun _ _ _ h => h) (Or.inl ⟨by rfl, ?_⟩) hS ?_
  rotate_left
  · (intro wq hSw; go_simp; all_goals with_reducible rfl)
  try simp only [Act.put, List.setIfInBounds_toArray, List.set_cons_zero, List.set_cons_succ]
  refine wpAnyH_take (i := 2) (v := ?_) (by simp only [List.getElem?_toArray, List.getElem?_cons_zero, List.getElem?_cons_succ]; rfl) (by kernel_rfl) (by kernel_rfl) (by kernel_rfl) (fun _ _ _ h => h) (Or.inl ⟨by rfl, ?_⟩) hS ?_
  rotate_left
  · (intro wq hSw; go_simp; all_goals with_reducible rfl)
  try simp only [Act.put, List.setIfInBounds_toArray, List.set_cons_zero, List.set_cons_succ]
  refine wpAnyH_take (i := 3) (v := ?_) (by simp only [List.getElem?_toArray, List.getElem?_cons_zero, List.getElem?_cons_succ]; rfl) (by kernel_rfl) (by kernel_rfl) (by kernel_rfl) (fun _ _ _ h => h) (Or.inl ⟨by rfl, ?_⟩) hS ?_
  rotate_left
  · (intro wq hSw; go_simp; all_goals with_reducible rfl)
  try simp only [Act.put, List.setIfInBounds_toArray, List.set_cons_zero, List.set_cons_succ]
  refine wpAnyH_take (i := 4) (v := ?_) (by simp only [List.getElem?_toArray, List.getElem?_cons_zero, List.getElem?_cons_succ]; rfl) (by kernel_rfl) (by kernel_rfl) (by kernel_rfl) (fun _ _ _ h => h) (Or.inl ⟨by rfl, ?_⟩) hS ?_
  rotate_left
  · (intro wq hSw; go_simp; all_goals with_reducible rfl)
  try simp only [Act.put, List.setIfInBounds_toArray, List.set_cons_zero, List.set_cons_succ]
  refine wpAnyH_take (i := 6) (v := ?_) (by simp only [List.getElem?_toArray, List.getElem?_cons_zero, List.getElem?_cons_succ]; rfl) (by kernel_rfl) (by kernel_rfl) (by kernel_rfl) (fun _ _ _ h => h) (Or.inl ⟨by rfl, ?_⟩) hS ?_
  rotate_left
  · (intro wq hSw; go_simp; all_goals with_reducible rfl)
  try simp only [Act.put, List.setIfInBounds_toArray, List.set_cons_zero, List.set_cons_succ]
  refine wpAnyH_take (i := 7) (v := ?_) (by simp only [List.getElem?_toArray, List.getElem?_cons_zero, List.getElem?_cons_succ]; rfl) (by kernel_rfl) (by kernel_rfl) (by kernel_rfl) (fun _ _ _ h => h) (Or.inl ⟨by rfl, ?_⟩) hS ?_
  rotate_left
  · (intro wq hSw; go_simp; all_goals with_reducible rfl)
  try simp only [Act.put, List.setIfInBounds_toArray, List.set_cons_zero, List.set_cons_succ]
  refine wpAnyH_take (i := 8) (v := ?_) (by simp only [List.getElem?_toArray, List.getElem?_cons_zero, List.getElem?_cons_succ]; rfl) (by kernel_rfl) (by kernel_rfl) (by kernel_rfl) (fun _ _ _ h => h) (Or.inl ⟨by rfl, ?_⟩) hS ?_
  rotate_left
  · (intro wq hSw; go_simp; all_goals with_reducible rfl)
  try simp only [Act.put, List.setIfInBounds_toArray, List.set_cons_zero, List.set_cons_succ]
  refine wpAnyH_take (i := 9) (v := ?_) (by simp only [List.getElem?_toArray, List.getElem?_cons_zero, List.getElem?_cons_succ]; rfl) (by kernel_rfl) (by kernel_rfl) (by kernel_rfl) (fun _ _ _ h => h) (Or.inl ⟨by rfl, ?_⟩) hS ?_
  rotate_left
  · (intro wq hSw; go_simp; all_goals with_reducible rfl)
  try simp only [Act.put, List.setIfInBounds_toArray, List.set_cons_zero, List.set_cons_succ]
  refine wpAnyH_take (i := 10) (v := ?_) (by simp only [List.getElem?_toArray, List.getElem?_cons_zero, List.getElem?_cons_succ]; rfl) (by kernel_rfl) (by kernel_rfl) (by kernel_rfl) (fun _ _ _ h => h) (Or.inl ⟨by rfl, ?_⟩) hS ?_
  rotate_left
  · (intro wq hSw; have q_a := hSw.h; go_simp; all_goals with_reducible rfl)
  try simp only [Act.put, List.setIfInBounds_toArray, List.set_cons_zero, List.set_cons_succ]
  refine wpAnyH_take (i := 12) (v := ?_) (by simp only [List.getElem?_toArray, List.getElem?_cons_zero, List.getElem?_cons_succ]; rfl) (by kernel_rfl) (by kernel_rfl) (by kernel_rfl) (fun _ _ _ h => h) (Or.inl ⟨by rfl, ?_⟩) hS ?_
  rotate_left
  · (intro wq hSw; go_simp; all_goals with_reducible rfl)
  try simp only [Act.put, List.setIfInBounds_toArray, List.set_cons_zero, List.set_cons_succ]
  refine wpAnyH_take (i := 13) (v := ?_) (by simp only [List.getElem?_toArray, List.getElem?_cons_zero, List.getElem?_cons_succ]; rfl) (by kernel_rfl) (by kernel_rfl) (by kernel_rfl) (fun _ _ _ h => h) (Or.inl ⟨by rfl, ?_⟩) hS ?_
  rotate_left
  · (intro wq hSw; go_simp; all_goals with_reducible rfl)
  try simp only [Act.put, List.setIfInBounds_toArray, List.set_cons_zero, List.set_cons_succ]
  refine wpAnyH_take (i := 14) (v := ?_) (by simp only [List.getElem?_toArray, List.getElem?_cons_zero, List.getElem?_cons_succ]; rfl) (by kernel_rfl) (by kernel_rfl) (by kernel_rfl) (fun _ _ _ h => h) (Or.inl ⟨by rfl, ?_⟩) hS ?_
  rotate_left
  · (intro wq hSw; go_simp; all_goals with_reducible rfl)
  try simp only [Act.put, List.setIfInBounds_toArray, List.set_cons_zero, List.set_cons_succ]
  refine wpAnyH_take (i := 15) (v := ?_) (by simp only [List.getElem?_toArray, List.getElem?_cons_zero, List.getElem?_cons_succ]; rfl) (by kernel_rfl) (by kernel_rfl) (by kernel_rfl) (fun _ _ _ h => h) (Or.inl ⟨by rfl, ?_⟩) hS ?_
  rotate_left
  · (intro wq hSw; have q_a := hSw.p; go_simp; all_goals with_reducible rfl)
  try simp only [Act.put, List.setIfInBounds_toArray, List.set_cons_zero, List.set_cons_succ]
  refine wpAnyH_ready (rs := [5, 11]) (by kernel_rfl) (by simp) ?_
  refine AllReadyH.cons (by simp only [List.getElem?_toArray, List.getElem?_cons_zero, List.getElem?_cons_succ]; rfl) (fun K hK => ?_) (AllReadyH.cons (by simp only [List.getElem?_toArray, List.getElem?_cons_zero, List.getElem?_cons_succ]; rfl) (fun K hK => ?_) (AllReadyH.nil))
  · rw [if_pos (by rfl)]
    go_simp
    refine hK.out _ _ hS (fun _ => ?_)
    clear hK K
    try simp only [Act.put, List.setIfInBounds_toArray, List.set_cons_zero, List.set_cons_succ]
    refine wpAnyH_ready (rs := [11]) (by kernel_rfl) (by simp) ?_
    refine AllReadyH.cons (by simp only [List.getElem?_toArray, List.getElem?_cons_zero, List.getElem?_cons_succ]; rfl) (fun K hK => ?_) (AllReadyH.nil)
    go_simp
    go_at_call 25
    refine (H1.out _ (hS).m).mono ?_
    rintro r w_5_11 ⟨rfl, hM⟩
    have hS_5_11 := PuC.keep hS hM
    replace hD0 := hM.blk hD0 (fun h => h)
    clear q5 q6 f5 f6 hM
    have q5 := hD0.cell (j := 5) rfl; have q6 := hD0.cell (j := 6) rfl; have f5 := hD0.frozen 5; have f6 := hD0.frozen 6
    go_wp2_with fail
    refine hK.out _ _ hS_5_11 (fun _ => ?_)
    clear hK K
    try simp only [Act.put, List.setIfInBounds_toArray, List.set_cons_zero, List.set_cons_succ]
    refine wpAnyH_ready (rs := [16]) (by kernel_rfl) (by simp) ?_
    refine AllReadyH.cons (by simp only [List.getElem?_toArray, List.getElem?_cons_zero, List.getElem?_cons_succ]; rfl) (fun K hK => ?_) (AllReadyH.nil)
    go_simp
    go_at_call 99
    refine (H2.out _).mono ?_
    rintro r w_5_11_16 ⟨rfl, hM⟩
    have hS_5_11_16 := PuC.keep hS_5_11 hM
    replace hD0 := hM.blk hD0 (fun h => h)
    clear q5 q6 f5 f6 hM
    have q5 := hD0.cell (j := 5) rfl; have q6 := hD0.cell (j := 6) rfl; have f5 := hD0.frozen 5; have f6 := hD0.frozen 6
    go_wp2_with fail
    refine hK.out _ _ hS_5_11_16 (fun _ => ?_)
    clear hK K
    try simp only [Act.put, List.setIfInBounds_toArray, List.set_cons_zero, List.set_cons_succ]
    refine wpAnyH_ready (rs := [17]) (by kernel_rfl) (by simp) ?_
    refine AllReadyH.cons (by simp only [List.getElem?_toArray, List.getElem?_cons_zero, List.getElem?_cons_succ]; rfl) (fun K hK => ?_) (AllReadyH.nil)
    go_simp
    go_at_call 26
    refine (H3.out _).mono ?_
    rintro r w_5_11_16_17 ⟨rfl, hM⟩
    have hS_5_11_16_17 := PuC.keep hS_5_11_16 hM
    replace hD0 := hM.blk hD0 (fun h => h)
    clear q5 q6 f5 f6 hM
    have q5 := hD0.cell (j := 5) rfl; have q6 := hD0.cell (j := 6) rfl; have f5 := hD0.frozen 5; have f6 := hD0.frozen 6
    go_wp2_with fail
    refine hK.out _ _ hS_5_11_16_17 (fun _ => ?_)
    clear hK K
    try simp only [Act.put, List.setIfInBounds_toArray, List.set_cons_zero, List.set_cons_succ]
    refine wpAnyH_take (i := 18) (v := ?_) (by simp only [List.getElem?_toArray, List.getElem?_cons_zero, List.getElem?_cons_succ]; rfl) (by kernel_rfl) (by kernel_rfl) (by kernel_rfl) (fun _ _ _ h => h) (Or.inl ⟨by rfl, ?_⟩) hS_5_11_16_17 ?_
    rotate_left
    · (intro wq hSw; go_simp; all_goals with_reducible rfl)
    try simp only [Act.put, List.setIfInBounds_toArray, List.set_cons_zero, List.set_cons_succ]
    refine wpAnyH_take (i := 19) (v := ?_) (by simp only [List.getElem?_toArray, List.getElem?_cons_zero, List.getElem?_cons_succ]; rfl) (by kernel_rfl) (by kernel_rfl) (by kernel_rfl) (fun _ _ _ h => h) (Or.inl ⟨by rfl, ?_⟩) hS_5_11_16_17 ?_
    rotate_left
    · (intro wq hSw; go_simp; all_goals with_reducible rfl)
    try simp only [Act.put, List.setIfInBounds_toArray, List.set_cons_zero, List.set_cons_succ]
    refine wpAnyH_take (i := 20) (v := ?_) (by simp only [List.getElem?_toArray, List.getElem?_cons_zero, List.getElem?_cons_succ]; rfl) (by kernel_rfl) (by kernel_rfl) (by kernel_rfl) (fun _ _ _ h => h) (Or.inl ⟨by rfl, ?_⟩) hS_5_11_16_17 ?_
    rotate_left
    · (intro wq hSw; go_simp; all_goals with_reducible rfl)
    try simp only [Act.put, List.setIfInBounds_toArray, List.set_cons_zero, List.set_cons_succ]
    refine wpAnyH_ready (rs := [21]) (by kernel_rfl) (by simp) ?_
    refine AllReadyH.cons (by simp only [List.getElem?_toArray, List.getElem?_cons_zero, List.getElem?_cons_succ]; rfl) (fun K hK => ?_) (AllReadyH.nil)
    rw [if_pos (by rfl)]
    go_simp
    have hDD := ((hD0.set 5 (.int .i64 RX)).set 6 (.int .i64 RY)).cs (ds := d.pushed.cells b) (by rw [HPU.out]; rfl)
    have hSS : PuC D d.c.heading d.pw w _ := ⟨(hDD.cs (by rw [HPU.out])).cell (j := 7) rfl, (hDD.cs (by rw [HPU.out])).cell (j := 20) rfl, ((PuC.m hS_5_11_16_17).setCell (p := ⟨D, 5, none⟩) (fun _ => only_self D) _).setCell (p := ⟨D, 6, none⟩) (fun _ => only_self D) _⟩
    refine hK.out _ _ hSS (fun _ => ?_)
    clear hK K
    try simp only [Act.put]
    refine wpAnyH_done (by kernel_rfl) ?_ _
    refine NoPanic.normal ?_
    go_wp2
    go_end0
    exact ⟨rfl, hDD, hSS.m⟩
  · go_simp
    go_at_call 25
    refine (H1.out _ (hS).m).mono ?_
    rintro r w_11 ⟨rfl, hM⟩
    have hS_11 := PuC.keep hS hM
    replace hD0 := hM.blk hD0 (fun h => h)
    clear q5 q6 f5 f6 hM
    have q5 := hD0.cell (j := 5) rfl; have q6 := hD0.cell (j := 6) rfl; have f5 := hD0.frozen 5; have f6 := hD0.frozen 6
    go_wp2_with fail
    refine hK.out _ _ hS_11 (fun _ => ?_)
    clear hK K
    try simp only [Act.put, List.setIfInBounds_toArray, List.set_cons_zero, List.set_cons_succ]
    refine wpAnyH_ready (rs := [5, 16]) (by kernel_rfl) (by simp) ?_
    refine AllReadyH.cons (by simp only [List.getElem?_toArray, List.getElem?_cons_zero, List.getElem?_cons_succ]; rfl) (fun K hK => ?_) (AllReadyH.cons (by simp only [List.getElem?_toArray, List.getElem?_cons_zero, List.getElem?_cons_succ]; rfl) (fun K hK => ?_) (AllReadyH.nil))
    · rw [if_pos (by rfl)]
      go_simp
      refine hK.out _ _ hS_11 (fun _ => ?_)
      clear hK K
      try simp only [Act.put, List.setIfInBounds_toArray, List.set_cons_zero, List.set_cons_succ]
      refine wpAnyH_ready (rs := [16]) (by kernel_rfl) (by simp) ?_
      refine AllReadyH.cons (by simp only [List.getElem?_toArray, List.getElem?_cons_zero, List.getElem?_cons_succ]; rfl) (fun K hK => ?_) (AllReadyH.nil)
      go_simp
      go_at_call 99
      refine (H2.out _).mono ?_
      rintro r w_11_5_16 ⟨rfl, hM⟩
      have hS_11_5_16 := PuC.keep hS_11 hM
      replace hD0 := hM.blk hD0 (fun h => h)
      clear q5 q6 f5 f6 hM
      have q5 := hD0.cell (j := 5) rfl; have q6 := hD0.cell (j := 6) rfl; have f5 := hD0.frozen 5; have f6 := hD0.frozen 6
      go_wp2_with fail
      refine hK.out _ _ hS_11_5_16 (fun _ => ?_)
      clear hK K
      try simp only [Act.put, List.setIfInBounds_toArray, List.set_cons_zero, List.set_cons_succ]
      refine wpAnyH_ready (rs := [17]) (by kernel_rfl) (by simp) ?_
      refine AllReadyH.cons (by simp only [List.getElem?_toArray, List.getElem?_cons_zero, List.getElem?_cons_succ]; rfl) (fun K hK => ?_) (AllReadyH.nil)
      go_simp
      go_at_call 26
      refine (H3.out _).mono ?_
      rintro r w_11_5_16_17 ⟨rfl, hM⟩
      have hS_11_5_16_17 := PuC.keep hS_11_5_16 hM
      replace hD0 := hM.blk hD0 (fun h => h)
      clear q5 q6 f5 f6 hM
      have q5 := hD0.cell (j := 5) rfl; have q6 := hD0.cell (j := 6) rfl; have f5 := hD0.frozen 5; have f6 := hD0.frozen 6
      go_wp2_with fail
      refine hK.out _ _ hS_11_5_16_17 (fun _ => ?_)
      clear hK K
      try simp only [Act.put, List.setIfInBounds_toArray, List.set_cons_zero, List.set_cons_succ]
      refine wpAnyH_take (i := 18) (v := ?_) (by simp only [List.getElem?_toArray, List.getElem?_cons_zero, List.getElem?_cons_succ]; rfl) (by kernel_rfl) (by kernel_rfl) (by kernel_rfl) (fun _ _ _ h => h) (Or.inl ⟨by rfl, ?_⟩) hS_11_5_16_17 ?_
      rotate_left
      · (intro wq hSw; go_simp; all_goals with_reducible rfl)
      try simp only [Act.put, List.setIfInBounds_toArray, List.set_cons_zero, List.set_cons_succ]
      refine wpAnyH_take (i := 19) (v := ?_) (by simp only [List.getElem?_toArray, List.getElem?_cons_zero, List.getElem?_cons_succ]; rfl) (by kernel_rfl) (by kernel_rfl) (by kernel_rfl) (fun _ _ _ h => h) (Or.inl ⟨by rfl, ?_⟩) hS_11_5_16_17 ?_
      rotate_left
      · (intro wq hSw; go_simp; all_goals with_reducible rfl)
      try simp only [Act.put, List.setIfInBounds_toArray, List.set_cons_zero, List.set_cons_succ]
      refine wpAnyH_take (i := 20) (v := ?_) (by simp only [List.getElem?_toArray, List.getElem?_cons_zero, List.getElem?_cons_succ]; rfl) (by kernel_rfl) (by kernel_rfl) (by kernel_rfl) (fun _ _ _ h => h) (Or.inl ⟨by rfl, ?_⟩) hS_11_5_16_17 ?_
      rotate_left
      · (intro wq hSw; go_simp; all_goals with_reducible rfl)
      try simp only [Act.put, List.setIfInBounds_toArray, List.set_cons_zero, List.set_cons_succ]
      refine wpAnyH_ready (rs := [21]) (by kernel_rfl) (by simp) ?_
      refine AllReadyH.cons (by simp only [List.getElem?_toArray, List.getElem?_cons_zero, List.getElem?_cons_succ]; rfl) (fun K hK => ?_) (AllReadyH.nil)
      rw [if_pos (by rfl)]
      go_simp
      have hDD := ((hD0.set 5 (.int .i64 RX)).set 6 (.int .i64 RY)).cs (ds := d.pushed.cells b) (by rw [HPU.out]; rfl)
      have hSS : PuC D d.c.heading d.pw w _ := ⟨(hDD.cs (by rw [HPU.out])).cell (j := 7) rfl, (hDD.cs (by rw [HPU.out])).cell (j := 20) rfl, ((PuC.m hS_11_5_16_17).setCell (p := ⟨D, 5, none⟩) (fun _ => only_self D) _).setCell (p := ⟨D, 6, none⟩) (fun _ => only_self D) _⟩
      refine hK.out _ _ hSS (fun _ => ?_)
      clear hK K
      try simp only [Act.put]
      refine wpAnyH_done (by kernel_rfl) ?_ _
      refine NoPanic.normal ?_
      go_wp2
      go_end0
      exact ⟨rfl, hDD, hSS.m⟩
    · go_simp
      go_at_call 99
      refine (H2.out _).mono ?_
      rintro r w_11_16 ⟨rfl, hM⟩
      have hS_11_16 := PuC.keep hS_11 hM
      replace hD0 := hM.blk hD0 (fun h => h)
      clear q5 q6 f5 f6 hM
      have q5 := hD0.cell (j := 5) rfl; have q6 := hD0.cell (j := 6) rfl; have f5 := hD0.frozen 5; have f6 := hD0.frozen 6
      go_wp2_with fail
      refine hK.out _ _ hS_11_16 (fun _ => ?_)
      clear hK K
      try simp only [Act.put, List.setIfInBounds_toArray, List.set_cons_zero, List.set_cons_succ]
      refine wpAnyH_ready (rs := [5]) (by kernel_rfl) (by simp) ?_
      refine AllReadyH.cons (by simp only [List.getElem?_toArray, List.getElem?_cons_zero, List.getElem?_cons_succ]; rfl) (fun K hK => ?_) (AllReadyH.nil)
      rw [if_pos (by rfl)]
      go_simp
      refine hK.out _ _ hS_11_16 (fun _ => ?_)
      clear hK K
      try simp only [Act.put, List.setIfInBounds_toArray, List.set_cons_zero, List.set_cons_succ]
      refine wpAnyH_ready (rs := [17]) (by kernel_rfl) (by simp) ?_
      refine AllReadyH.cons (by simp only [List.getElem?_toArray, List.getElem?_cons_zero, List.getElem?_cons_succ]; rfl) (fun K hK => ?_) (AllReadyH.nil)
      go_simp
      go_at_call 26
      refine (H3.out _).mono ?_
      rintro r w_11_16_5_17 ⟨rfl, hM⟩
      have hS_11_16_5_17 := PuC.keep hS_11_16 hM
      replace hD0 := hM.blk hD0 (fun h => h)
      clear q5 q6 f5 f6 hM
      have q5 := hD0.cell (j := 5) rfl; have q6 := hD0.cell (j := 6) rfl; have f5 := hD0.frozen 5; have f6 := hD0.frozen 6
      go_wp2_with fail
      refine hK.out _ _ hS_11_16_5_17 (fun _ => ?_)
      clear hK K
      try simp only [Act.put, List.setIfInBounds_toArray, List.set_cons_zero, List.set_cons_succ]
      refine wpAnyH_take (i := 18) (v := ?_) (by simp only [List.getElem?_toArray, List.getElem?_cons_zero, List.getElem?_cons_succ]; rfl) (by kernel_rfl) (by kernel_rfl) (by kernel_rfl) (fun _ _ _ h => h) (Or.inl ⟨by rfl, ?_⟩) hS_11_16_5_17 ?_
      rotate_left
      · (intro wq hSw; go_simp; all_goals with_reducible rfl)
      try simp only [Act.put, List.setIfInBounds_toArray, List.set_cons_zero, List.set_cons_succ]
      refine wpAnyH_take (i := 19) (v := ?_) (by simp only [List.getElem?_toArray, List.getElem?_cons_zero, List.getElem?_cons_succ]; rfl) (by kernel_rfl) (by kernel_rfl) (by kernel_rfl) (fun _ _ _ h => h) (Or.inl ⟨by rfl, ?_⟩) hS_11_16_5_17 ?_
      rotate_left
      · (intro wq hSw; go_simp; all_goals with_reducible rfl)
      try simp only [Act.put, List.setIfInBounds_toArray, List.set_cons_zero, List.set_cons_succ]
      refine wpAnyH_take (i := 20) (v := ?_) (by simp only [List.getElem?_toArray, List.getElem?_cons_zero, List.getElem?_cons_succ]; rfl) (by kernel_rfl) (by kernel_rfl) (by kernel_rfl) (fun _ _ _ h => h) (Or.inl ⟨by rfl, ?_⟩) hS_11_16_5_17 ?_
      rotate_left
      · (intro wq hSw; go_simp; all_goals with_reducible rfl)
      try simp only [Act.put, List.setIfInBounds_toArray, List.set_cons_zero, List.set_cons_succ]
      refine wpAnyH_ready (rs := [21]) (by kernel_rfl) (by simp) ?_
      refine AllReadyH.cons (by simp only [List.getElem?_toArray, List.getElem?_cons_zero, List.getElem?_cons_succ]; rfl) (fun K hK => ?_) (AllReadyH.nil)
      rw [if_pos (by rfl)]
      go_simp
      have hDD := ((hD0.set 5 (.int .i64 RX)).set 6 (.int .i64 RY)).cs (ds := d.pushed.cells b) (by rw [HPU.out]; rfl)
      have hSS : PuC D d.c.heading d.pw w _ := ⟨(hDD.cs (by rw [HPU.out])).cell (j := 7) rfl, (hDD.cs (by rw [HPU.out])).cell (j := 20) rfl, ((PuC.m hS_11_16_5_17).setCell (p := ⟨D, 5, none⟩) (fun _ => only_self D) _).setCell (p := ⟨D, 6, none⟩) (fun _ => only_self D) _⟩
      refine hK.out _ _ hSS (fun _ => ?_)
      clear hK K
      try simp only [Act.put]
      refine wpAnyH_done (by kernel_rfl) ?_ _
      refine NoPanic.normal ?_
      go_wp2
      go_end0
      exact ⟨rfl, hDD, hSS.m⟩
set_option maxHeartbeats 2000000 in
set_option maxRecDepth 100000 in
theorem drub_any (w : World) (D b : Nat) (d : Dr) (hx : Bd.I64 d.c.sx) (hy : Bd.I64 d.c.sy) (hD : Blk w D (d.cells b) 107) : Calls Tryd.prog 77 #[.pointer (some ⟨D, 0, none⟩)] w fun e w' => e = .returned (.tuple #[]) ∧ Blk w' D (d.rubbed.cells b) 107 ∧ Mod (only D) w w' := by
  unfold Bd.I64 at hx hy
  have hw1 : wrap64 (d.c.sx - d.c.sx / 16) = d.c.sx - d.c.sx / 16 := w64 (by omega)
  have hw2 : wrap64 (d.c.sy - d.c.sy / 16) = d.c.sy - d.c.sy / 16 := w64 (by omega)
  have hr : d.rubbed = { d with c := { d.c with sx := Vx.keep (d.c.sx - d.c.sx / 16) (Vx.capM 65536), sy := Vx.keep (d.c.sy - d.c.sy / 16) (Vx.capM 65536) } } := rfl
  have hc := fun q : World => vcap_any q (d.c.sx - d.c.sx / 16) (d.c.sy - d.c.sy / 16) 65536
  obtain ⟨NX, hNX⟩ : ∃ x, d.c.sx - d.c.sx / 16 = x := ⟨_, rfl⟩
  obtain ⟨NY, hNY⟩ : ∃ x, d.c.sy - d.c.sy / 16 = x := ⟨_, rfl⟩
  simp only [hNX] at hw1 hr hc
  simp only [hNY] at hw2 hr hc
  have hw1 : IntKind.i64.wrap NX = NX := (IntWalk.i64_left _).trans hw1
  have hw2 : IntKind.i64.wrap NY = NY := (IntWalk.i64_left _).trans hw2
  generalize Vx.keep NX (Vx.capM 65536) = RX at *
  generalize Vx.keep NY (Vx.capM 65536) = RY at *
  have HC := Lib.hid hc; have HR := Lib.hid hr; have HNX := Lib.hid hNX; have HNY := Lib.hid hNY; have HW1 := Lib.hid hw1; have HW2 := Lib.hid hw2; have HD := Lib.hid hD
  clear hc hr hNX hNY hw1 hw2 hx hy hD
  have q5 := HD.out.drew.cell (j := 5) rfl; have f5 := HD.out.drew.frozen 5
  go_enter Tryd.func77, Tryd.ntmps77
  go_upto_region 1 with fail
  have hS : True := trivial
  go_cut [] (fun wx => Blk wx D (({ d with c := { d.c with sx := NX } } : Dr).cells b) 107 ∧ Mod (only D) w wx)
  case first =>
    refine wp_region_noPanic ?_
    refine wp_region_held_drew (S := fun _ => True) (by kernel_rfl) trivial (fun hHeld => ?_)
    clear hHeld
    refine wpAnyH_take (i := 0) (v := ?_) (by simp only [List.getElem?_toArray, List.getElem?_cons_zero]; rfl) (by kernel_rfl) (by kernel_rfl) (by kernel_rfl) (fun _ _ _ h => h) (Or.inl ⟨by rfl, ?_⟩) trivial ?_
    rotate_left
    · (intro wq hSw; go_simp; all_goals with_reducible rfl)
    try simp only [Act.put, List.setIfInBounds_toArray, List.set_cons_zero, List.set_cons_succ]
    refine wpAnyH_take (i := 1) (v := ?_) (by simp only [List.getElem?_toArray, List.getElem?_cons_zero, List.getElem?_cons_succ]; rfl) (by kernel_rfl) (by kernel_rfl) (by kernel_rfl) (fun _ _ _ h => h) (Or.inl ⟨by rfl, ?_⟩) trivial ?_
    rotate_left
    · (intro wq hSw; go_simp; all_goals with_reducible rfl)
    try simp only [Act.put, List.setIfInBounds_toArray, List.set_cons_zero, List.set_cons_succ]
    refine wpAnyH_take (i := 2) (v := ?_) (by simp only [List.getElem?_toArray, List.getElem?_cons_zero, List.getElem?_cons_succ]; rfl) (by kernel_rfl) (by kernel_rfl) (by kernel_rfl) (fun _ _ _ h => h) (Or.inl ⟨by rfl, ?_⟩) trivial ?_
    rotate_left
    · (intro wq hSw; go_simp; all_goals with_reducible rfl)
    try simp only [Act.put, List.setIfInBounds_toArray, List.set_cons_zero, List.set_cons_succ]
    refine wpAnyH_take (i := 4) (v := ?_) (by simp only [List.getElem?_toArray, List.getElem?_cons_zero, List.getElem?_cons_succ]; rfl) (by kernel_rfl) (by kernel_rfl) (by kernel_rfl) (fun _ _ _ h => h) (Or.inl ⟨by rfl, ?_⟩) trivial ?_
    rotate_left
    · (intro wq hSw; go_simp; all_goals with_reducible rfl)
    try simp only [Act.put, List.setIfInBounds_toArray, List.set_cons_zero, List.set_cons_succ]
    refine wpAnyH_take (i := 5) (v := ?_) (by simp only [List.getElem?_toArray, List.getElem?_cons_zero, List.getElem?_cons_succ]; rfl) (by kernel_rfl) (by kernel_rfl) (by kernel_rfl) (fun _ _ _ h => h) (Or.inl ⟨by rfl, ?_⟩) trivial ?_
    rotate_left
    · (intro wq hSw; go_simp; all_goals with_reducible rfl)
    try simp only [Act.put, List.setIfInBounds_toArray, List.set_cons_zero, List.set_cons_succ]
    refine wpAnyH_take (i := 6) (v := ?_) (by simp only [List.getElem?_toArray, List.getElem?_cons_zero, List.getElem?_cons_succ]; rfl) (by kernel_rfl) (by kernel_rfl) (by kernel_rfl) (fun _ _ _ h => h) (Or.inl ⟨by rfl, ?_⟩) trivial ?_
    rotate_left
    · (intro wq hSw; go_simp; all_goals with_reducible rfl)
    try simp only [Act.put, List.setIfInBounds_toArray, List.set_cons_zero, List.set_cons_succ]
    refine wpAnyH_ready (rs := [3, 7]) (by kernel_rfl) (by simp) ?_
    refine AllReadyH.cons (by simp only [List.getElem?_toArray, List.getElem?_cons_zero, List.getElem?_cons_succ]; rfl) (fun K hK => ?_) (AllReadyH.cons (by simp only [List.getElem?_toArray, List.getElem?_cons_zero, List.getElem?_cons_succ]; rfl) (fun K hK => ?_) (AllReadyH.nil))
    · rw [if_pos (by rfl)]
      go_simp
      refine hK.out _ _ trivial (fun _ => ?_)
      clear hK K
      try simp only [Act.put, List.setIfInBounds_toArray, List.set_cons_zero, List.set_cons_succ]
      refine wpAnyH_ready (rs := [7]) (by kernel_rfl) (by simp) ?_
      refine AllReadyH.cons (by simp only [List.getElem?_toArray, List.getElem?_cons_zero, List.getElem?_cons_succ]; rfl) (fun K hK => ?_) (AllReadyH.nil)
      rw [if_pos (by rfl)]
      go_simp
      refine hK.out _ _ trivial (fun _ => ?_)
      clear hK K
      try simp only [Act.put, List.setIfInBounds_toArray, List.set_cons_zero, List.set_cons_succ]
      refine wpAnyH_take (i := 8) (v := ?_) (by simp only [List.getElem?_toArray, List.getElem?_cons_zero, List.getElem?_cons_succ]; rfl) (by kernel_rfl) (by kernel_rfl) (by kernel_rfl) (fun _ _ _ h => h) (Or.inl ⟨by rfl, ?_⟩) trivial ?_
      rotate_left
      · (intro wq hSw; go_simp; all_goals with_reducible rfl)
      try simp only [Act.put, List.setIfInBounds_toArray, List.set_cons_zero, List.set_cons_succ]
      refine wpAnyH_take (i := 9) (v := (.int .i64 NX)) (by simp only [List.getElem?_toArray, List.getElem?_cons_zero, List.getElem?_cons_succ]; rfl) (by kernel_rfl) (by kernel_rfl) (by kernel_rfl) (fun _ _ _ h => h) (Or.inl ⟨by rfl, ?_⟩) trivial ?_
      · (intro wq hSw; go_simp; rw [HNX.out, HW1.out])
      try simp only [Act.put, List.setIfInBounds_toArray, List.set_cons_zero, List.set_cons_succ]
      refine wpAnyH_take (i := 10) (v := ?_) (by simp only [List.getElem?_toArray, List.getElem?_cons_zero, List.getElem?_cons_succ]; rfl) (by kernel_rfl) (by kernel_rfl) (by kernel_rfl) (fun _ _ _ h => h) (Or.inl ⟨by rfl, ?_⟩) trivial ?_
      rotate_left
      · (intro wq hSw; go_simp; all_goals with_reducible rfl)
      try simp only [Act.put, List.setIfInBounds_toArray, List.set_cons_zero, List.set_cons_succ]
      refine wpAnyH_take (i := 11) (v := ?_) (by simp only [List.getElem?_toArray, List.getElem?_cons_zero, List.getElem?_cons_succ]; rfl) (by kernel_rfl) (by kernel_rfl) (by kernel_rfl) (fun _ _ _ h => h) (Or.inl ⟨by rfl, ?_⟩) trivial ?_
      rotate_left
      · (intro wq hSw; go_simp; all_goals with_reducible rfl)
      try simp only [Act.put, List.setIfInBounds_toArray, List.set_cons_zero, List.set_cons_succ]
      refine wpAnyH_ready (rs := [12]) (by kernel_rfl) (by simp) ?_
      refine AllReadyH.cons (by simp only [List.getElem?_toArray, List.getElem?_cons_zero, List.getElem?_cons_succ]; rfl) (fun K hK => ?_) (AllReadyH.nil)
      rw [if_pos (by rfl)]
      go_simp
      refine hK.out _ _ trivial (fun _ => ?_)
      clear hK K
      try simp only [Act.put]
      refine wpAnyH_done (by kernel_rfl) ?_ _
      refine NoPanic.normal ?_
      try go_wp2
      go_meet
      exact ⟨(HD.out.drew.set 5 _).cs rfl, ((Mod.refl _ _).drew).setCell (p := ⟨D, 5, none⟩) (fun _ => only_self D) _⟩
    · rw [if_pos (by rfl)]
      go_simp
      refine hK.out _ _ trivial (fun _ => ?_)
      clear hK K
      try simp only [Act.put, List.setIfInBounds_toArray, List.set_cons_zero, List.set_cons_succ]
      refine wpAnyH_take (i := 8) (v := ?_) (by simp only [List.getElem?_toArray, List.getElem?_cons_zero, List.getElem?_cons_succ]; rfl) (by kernel_rfl) (by kernel_rfl) (by kernel_rfl) (fun _ _ _ h => h) (Or.inl ⟨by rfl, ?_⟩) trivial ?_
      rotate_left
      · (intro wq hSw; go_simp; all_goals with_reducible rfl)
      try simp only [Act.put, List.setIfInBounds_toArray, List.set_cons_zero, List.set_cons_succ]
      refine wpAnyH_ready (rs := [3]) (by kernel_rfl) (by simp) ?_
      refine AllReadyH.cons (by simp only [List.getElem?_toArray, List.getElem?_cons_zero, List.getElem?_cons_succ]; rfl) (fun K hK => ?_) (AllReadyH.nil)
      rw [if_pos (by rfl)]
      go_simp
      refine hK.out _ _ trivial (fun _ => ?_)
      clear hK K
      try simp only [Act.put, List.setIfInBounds_toArray, List.set_cons_zero, List.set_cons_succ]
      refine wpAnyH_take (i := 9) (v := (.int .i64 NX)) (by simp only [List.getElem?_toArray, List.getElem?_cons_zero, List.getElem?_cons_succ]; rfl) (by kernel_rfl) (by kernel_rfl) (by kernel_rfl) (fun _ _ _ h => h) (Or.inl ⟨by rfl, ?_⟩) trivial ?_
      · (intro wq hSw; go_simp; rw [HNX.out, HW1.out])
      try simp only [Act.put, List.setIfInBounds_toArray, List.set_cons_zero, List.set_cons_succ]
      refine wpAnyH_take (i := 10) (v := ?_) (by simp only [List.getElem?_toArray, List.getElem?_cons_zero, List.getElem?_cons_succ]; rfl) (by kernel_rfl) (by kernel_rfl) (by kernel_rfl) (fun _ _ _ h => h) (Or.inl ⟨by rfl, ?_⟩) trivial ?_
      rotate_left
      · (intro wq hSw; go_simp; all_goals with_reducible rfl)
      try simp only [Act.put, List.setIfInBounds_toArray, List.set_cons_zero, List.set_cons_succ]
      refine wpAnyH_take (i := 11) (v := ?_) (by simp only [List.getElem?_toArray, List.getElem?_cons_zero, List.getElem?_cons_succ]; rfl) (by kernel_rfl) (by kernel_rfl) (by kernel_rfl) (fun _ _ _ h => h) (Or.inl ⟨by rfl, ?_⟩) trivial ?_
      rotate_left
      · (intro wq hSw; go_simp; all_goals with_reducible rfl)
      try simp only [Act.put, List.setIfInBounds_toArray, List.set_cons_zero, List.set_cons_succ]
      refine wpAnyH_ready (rs := [12]) (by kernel_rfl) (by simp) ?_
      refine AllReadyH.cons (by simp only [List.getElem?_toArray, List.getElem?_cons_zero, List.getElem?_cons_succ]; rfl) (fun K hK => ?_) (AllReadyH.nil)
      rw [if_pos (by rfl)]
      go_simp
      refine hK.out _ _ trivial (fun _ => ?_)
      clear hK K
      try simp only [Act.put]
      refine wpAnyH_done (by kernel_rfl) ?_ _
      refine NoPanic.normal ?_
      try go_wp2
      go_meet
      exact ⟨(HD.out.drew.set 5 _).cs rfl, ((Mod.refl _ _).drew).setCell (p := ⟨D, 5, none⟩) (fun _ => only_self D) _⟩
  case rest =>
    obtain ⟨hD1, hM1⟩ := hcut
    obtain ⟨w1, rfl⟩ : ∃ q, q = wc := ⟨_, rfl⟩
    have HD1 := Lib.hid hD1; have HM1 := Lib.hid hM1
    clear hD1 hM1 q5 f5 HD
    go_upto_region 2 with fail
    have q6 := HD1.out.drew.cell (j := 6) rfl; have f6 := HD1.out.drew.frozen 6
    go_cut [] (fun wx => Blk wx D (({ d with c := { d.c with sx := NX, sy := NY } } : Dr).cells b) 107 ∧ Mod (only D) w wx)
    case first =>
      refine wp_region_noPanic ?_
      refine wp_region_held_drew (S := fun _ => True) (by kernel_rfl) trivial (fun hHeld => ?_)
      clear hHeld
      refine wpAnyH_take (i := 0) (v := ?_) (by simp only [List.getElem?_toArray, List.getElem?_cons_zero]; rfl) (by kernel_rfl) (by kernel_rfl) (by kernel_rfl) (fun _ _ _ h => h) (Or.inl ⟨by rfl, ?_⟩) trivial ?_
      rotate_left
      · (intro wq hSw; go_simp; all_goals with_reducible rfl)
      try simp only [Act.put, List.setIfInBounds_toArray, List.set_cons_zero, List.set_cons_succ]
      refine wpAnyH_take (i := 1) (v := ?_) (by simp only [List.getElem?_toArray, List.getElem?_cons_zero, List.getElem?_cons_succ]; rfl) (by kernel_rfl) (by kernel_rfl) (by kernel_rfl) (fun _ _ _ h => h) (Or.inl ⟨by rfl, ?_⟩) trivial ?_
      rotate_left
      · (intro wq hSw; go_simp; all_goals with_reducible rfl)
      try simp only [Act.put, List.setIfInBounds_toArray, List.set_cons_zero, List.set_cons_succ]
      refine wpAnyH_take (i := 2) (v := ?_) (by simp only [List.getElem?_toArray, List.getElem?_cons_zero, List.getElem?_cons_succ]; rfl) (by kernel_rfl) (by kernel_rfl) (by kernel_rfl) (fun _ _ _ h => h) (Or.inl ⟨by rfl, ?_⟩) trivial ?_
      rotate_left
      · (intro wq hSw; go_simp; all_goals with_reducible rfl)
      try simp only [Act.put, List.setIfInBounds_toArray, List.set_cons_zero, List.set_cons_succ]
      refine wpAnyH_take (i := 4) (v := ?_) (by simp only [List.getElem?_toArray, List.getElem?_cons_zero, List.getElem?_cons_succ]; rfl) (by kernel_rfl) (by kernel_rfl) (by kernel_rfl) (fun _ _ _ h => h) (Or.inl ⟨by rfl, ?_⟩) trivial ?_
      rotate_left
      · (intro wq hSw; go_simp; all_goals with_reducible rfl)
      try simp only [Act.put, List.setIfInBounds_toArray, List.set_cons_zero, List.set_cons_succ]
      refine wpAnyH_take (i := 5) (v := ?_) (by simp only [List.getElem?_toArray, List.getElem?_cons_zero, List.getElem?_cons_succ]; rfl) (by kernel_rfl) (by kernel_rfl) (by kernel_rfl) (fun _ _ _ h => h) (Or.inl ⟨by rfl, ?_⟩) trivial ?_
      rotate_left
      · (intro wq hSw; go_simp; all_goals with_reducible rfl)
      try simp only [Act.put, List.setIfInBounds_toArray, List.set_cons_zero, List.set_cons_succ]
      refine wpAnyH_take (i := 6) (v := ?_) (by simp only [List.getElem?_toArray, List.getElem?_cons_zero, List.getElem?_cons_succ]; rfl) (by kernel_rfl) (by kernel_rfl) (by kernel_rfl) (fun _ _ _ h => h) (Or.inl ⟨by rfl, ?_⟩) trivial ?_
      rotate_left
      · (intro wq hSw; go_simp; all_goals with_reducible rfl)
      try simp only [Act.put, List.setIfInBounds_toArray, List.set_cons_zero, List.set_cons_succ]
      refine wpAnyH_ready (rs := [3, 7]) (by kernel_rfl) (by simp) ?_
      refine AllReadyH.cons (by simp only [List.getElem?_toArray, List.getElem?_cons_zero, List.getElem?_cons_succ]; rfl) (fun K hK => ?_) (AllReadyH.cons (by simp only [List.getElem?_toArray, List.getElem?_cons_zero, List.getElem?_cons_succ]; rfl) (fun K hK => ?_) (AllReadyH.nil))
      · rw [if_pos (by rfl)]
        go_simp
        refine hK.out _ _ trivial (fun _ => ?_)
        clear hK K
        try simp only [Act.put, List.setIfInBounds_toArray, List.set_cons_zero, List.set_cons_succ]
        refine wpAnyH_ready (rs := [7]) (by kernel_rfl) (by simp) ?_
        refine AllReadyH.cons (by simp only [List.getElem?_toArray, List.getElem?_cons_zero, List.getElem?_cons_succ]; rfl) (fun K hK => ?_) (AllReadyH.nil)
        rw [if_pos (by rfl)]
        go_simp
        refine hK.out _ _ trivial (fun _ => ?_)
        clear hK K
        try simp only [Act.put, List.setIfInBounds_toArray, List.set_cons_zero, List.set_cons_succ]
        refine wpAnyH_take (i := 8) (v := ?_) (by simp only [List.getElem?_toArray, List.getElem?_cons_zero, List.getElem?_cons_succ]; rfl) (by kernel_rfl) (by kernel_rfl) (by kernel_rfl) (fun _ _ _ h => h) (Or.inl ⟨by rfl, ?_⟩) trivial ?_
        rotate_left
        · (intro wq hSw; go_simp; all_goals with_reducible rfl)
        try simp only [Act.put, List.setIfInBounds_toArray, List.set_cons_zero, List.set_cons_succ]
        refine wpAnyH_take (i := 9) (v := (.int .i64 NY)) (by simp only [List.getElem?_toArray, List.getElem?_cons_zero, List.getElem?_cons_succ]; rfl) (by kernel_rfl) (by kernel_rfl) (by kernel_rfl) (fun _ _ _ h => h) (Or.inl ⟨by rfl, ?_⟩) trivial ?_
        · (intro wq hSw; go_simp; rw [HNY.out, HW2.out])
        try simp only [Act.put, List.setIfInBounds_toArray, List.set_cons_zero, List.set_cons_succ]
        refine wpAnyH_take (i := 10) (v := ?_) (by simp only [List.getElem?_toArray, List.getElem?_cons_zero, List.getElem?_cons_succ]; rfl) (by kernel_rfl) (by kernel_rfl) (by kernel_rfl) (fun _ _ _ h => h) (Or.inl ⟨by rfl, ?_⟩) trivial ?_
        rotate_left
        · (intro wq hSw; go_simp; all_goals with_reducible rfl)
        try simp only [Act.put, List.setIfInBounds_toArray, List.set_cons_zero, List.set_cons_succ]
        refine wpAnyH_take (i := 11) (v := ?_) (by simp only [List.getElem?_toArray, List.getElem?_cons_zero, List.getElem?_cons_succ]; rfl) (by kernel_rfl) (by kernel_rfl) (by kernel_rfl) (fun _ _ _ h => h) (Or.inl ⟨by rfl, ?_⟩) trivial ?_
        rotate_left
        · (intro wq hSw; go_simp; all_goals with_reducible rfl)
        try simp only [Act.put, List.setIfInBounds_toArray, List.set_cons_zero, List.set_cons_succ]
        refine wpAnyH_ready (rs := [12]) (by kernel_rfl) (by simp) ?_
        refine AllReadyH.cons (by simp only [List.getElem?_toArray, List.getElem?_cons_zero, List.getElem?_cons_succ]; rfl) (fun K hK => ?_) (AllReadyH.nil)
        rw [if_pos (by rfl)]
        go_simp
        refine hK.out _ _ trivial (fun _ => ?_)
        clear hK K
        try simp only [Act.put]
        refine wpAnyH_done (by kernel_rfl) ?_ _
        refine NoPanic.normal ?_
        try go_wp2
        go_meet
        exact ⟨(HD1.out.drew.set 6 _).cs rfl, ((HM1.out).drew).setCell (p := ⟨D, 6, none⟩) (fun _ => only_self D) _⟩
      · rw [if_pos (by rfl)]
        go_simp
        refine hK.out _ _ trivial (fun _ => ?_)
        clear hK K
        try simp only [Act.put, List.setIfInBounds_toArray, List.set_cons_zero, List.set_cons_succ]
        refine wpAnyH_take (i := 8) (v := ?_) (by simp only [List.getElem?_toArray, List.getElem?_cons_zero, List.getElem?_cons_succ]; rfl) (by kernel_rfl) (by kernel_rfl) (by kernel_rfl) (fun _ _ _ h => h) (Or.inl ⟨by rfl, ?_⟩) trivial ?_
        rotate_left
        · (intro wq hSw; go_simp; all_goals with_reducible rfl)
        try simp only [Act.put, List.setIfInBounds_toArray, List.set_cons_zero, List.set_cons_succ]
        refine wpAnyH_ready (rs := [3]) (by kernel_rfl) (by simp) ?_
        refine AllReadyH.cons (by simp only [List.getElem?_toArray, List.getElem?_cons_zero, List.getElem?_cons_succ]; rfl) (fun K hK => ?_) (AllReadyH.nil)
        rw [if_pos (by rfl)]
        go_simp
        refine hK.out _ _ trivial (fun _ => ?_)
        clear hK K
        try simp only [Act.put, List.setIfInBounds_toArray, List.set_cons_zero, List.set_cons_succ]
        refine wpAnyH_take (i := 9) (v := (.int .i64 NY)) (by simp only [List.getElem?_toArray, List.getElem?_cons_zero, List.getElem?_cons_succ]; rfl) (by kernel_rfl) (by kernel_rfl) (by kernel_rfl) (fun _ _ _ h => h) (Or.inl ⟨by rfl, ?_⟩) trivial ?_
        · (intro wq hSw; go_simp; rw [HNY.out, HW2.out])
        try simp only [Act.put, List.setIfInBounds_toArray, List.set_cons_zero, List.set_cons_succ]
        refine wpAnyH_take (i := 10) (v := ?_) (by simp only [List.getElem?_toArray, List.getElem?_cons_zero, List.getElem?_cons_succ]; rfl) (by kernel_rfl) (by kernel_rfl) (by kernel_rfl) (fun _ _ _ h => h) (Or.inl ⟨by rfl, ?_⟩) trivial ?_
        rotate_left
        · (intro wq hSw; go_simp; all_goals with_reducible rfl)
        try simp only [Act.put, List.setIfInBounds_toArray, List.set_cons_zero, List.set_cons_succ]
        refine wpAnyH_take (i := 11) (v := ?_) (by simp only [List.getElem?_toArray, List.getElem?_cons_zero, List.getElem?_cons_succ]; rfl) (by kernel_rfl) (by kernel_rfl) (by kernel_rfl) (fun _ _ _ h => h) (Or.inl ⟨by rfl, ?_⟩) trivial ?_
        rotate_left
        · (intro wq hSw; go_simp; all_goals with_reducible rfl)
        try simp only [Act.put, List.setIfInBounds_toArray, List.set_cons_zero, List.set_cons_succ]
        refine wpAnyH_ready (rs := [12]) (by kernel_rfl) (by simp) ?_
        refine AllReadyH.cons (by simp only [List.getElem?_toArray, List.getElem?_cons_zero, List.getElem?_cons_succ]; rfl) (fun K hK => ?_) (AllReadyH.nil)
        rw [if_pos (by rfl)]
        go_simp
        refine hK.out _ _ trivial (fun _ => ?_)
        clear hK K
        try simp only [Act.put]
        refine wpAnyH_done (by kernel_rfl) ?_ _
        refine NoPanic.normal ?_
        try go_wp2
        go_meet
        exact ⟨(HD1.out.drew.set 6 _).cs rfl, ((HM1.out).drew).setCell (p := ⟨D, 6, none⟩) (fun _ => only_self D) _⟩
    case rest =>
      obtain ⟨hD2, hM2⟩ := hcut
      obtain ⟨w2, rfl⟩ : ∃ q, q = wc := ⟨_, rfl⟩
      have HD2 := Lib.hid hD2; have HM2 := Lib.hid hM2
      clear hD2 hM2 q6 f6 HD1 HM1 hS
      have q5 := HD2.out.cell (j := 5) rfl; have q6 := HD2.out.cell (j := 6) rfl; have f5 := HD2.out.frozen 5; have f6 := HD2.out.frozen 6
      go_wp2_with (go_at_call 100; refine (HC.out _).mono ?_; rintro r w3 ⟨rfl, hM⟩; have HD3 := Lib.hid (hM.blk HD2.out (fun h => h)); have HM3 := Lib.hid (HM2.out.trans hM (fun _ _ h => h.elim)); have r5 := HD3.out.cell (j := 5) rfl; have r6 := HD3.out.cell (j := 6) rfl; have g5 := HD3.out.frozen 5; have g6 := HD3.out.frozen 6; clear hM)
      go_end0
      rw [HR.out]
      exact ⟨rfl, ((HD3.out.set 5 _).set 6 _).cs rfl, (HM3.out.setCell (p := ⟨D, 5, none⟩) (fun _ => only_self D) _).setCell (p := ⟨D, 6, none⟩) (fun _ => only_self D) _⟩
end Go.Proofs.YtinjlkceplhibaaDoor
