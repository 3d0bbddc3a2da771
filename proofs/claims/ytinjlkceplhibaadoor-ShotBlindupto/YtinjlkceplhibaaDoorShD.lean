/- Shots: Move: what it computes; the walk. -/
import Derived.Test.YtinjlkceplhibaaDoorShC
import Derived.ScopeJumps
import Derived.WalkMore
namespace Go.Proofs.YtinjlkceplhibaaDoor
open Go.RowKit

def Sh.step (s : Sh) : Sh := { s with ax := Vx.lim (s.ax + s.sx / 4), ay := Vx.lim (s.ay + s.sy / 4) }
/-- does a shot hit a car? -/
def meets (s : Sh) (c : Cr) : Bool := decide (c.wait ≤ 0) && (c.player != s.player && Vx.nearB s.ax s.ay c.ax c.ay 98304)
/-- the first car that is hit -/
def firstHit (s : Sh) : Nat → List Cr → Option Nat
  | _, [] => none
  | i, c :: r => if meets s c = true then some i else firstHit s (i + 1) r
/-- quarter after quarter -/
def flight (W H : Nat) (E : List Int) (L : List Cr) : Nat → Sh → Sh × Int × Bool
  | 0, s => ({ s with left := IntKind.i64.wrap (s.left - 1) }, -1, decide (0 < IntKind.i64.wrap (s.left - 1)))
  | k + 1, s => if Bd.atOf W H E s.step.ax s.step.ay = 35 then (s.step, -1, false) else match firstHit s.step 0 L with
    | some i => (s.step, (i : Int), false)
    | none => flight W H E L k s.step
theorem step_ok {s : Sh} (h : s.Ok) : s.step.Ok := by
  have a := Vx.lim_in (s.ax + s.sx / 4)
  have b := Vx.lim_in (s.ay + s.sy / 4)
  exact ⟨h.id, h.player, (by unfold Bd.I64 Sh.step; simp only; omega), (by unfold Bd.I64 Sh.step; simp only; omega), h.sx, h.sy, h.left⟩
/-- a list of cars, as it lies in memory -/
structure Crs (w : World) (B : Nat) (sa : Option Addr) (L : List Cr) : Prop where
  row : 0 < L.length → ∃ b off, sa = some ⟨b, off, none⟩ ∧ b < B ∧ ∀ i c, L[i]? = some c → w.rangeAt b (off + i * 14) c.cells
  ok : ∀ c ∈ L, c.Ok
theorem Crs.mod {S : Nat → Prop} {w w' : World} {B : Nat} {sa : Option Addr} {L : List Cr} (h : Crs w B sa L) (hM : Mod S w w') (hS : ∀ k, k < B → ¬ S k) : Crs w' B sa L :=
  ⟨fun hp => by
    obtain ⟨b, off, h1, h2, h3⟩ := h.row hp
    exact ⟨b, off, h1, h2, fun i c hc => rangeAt_mod (h3 i c hc) hM (hS b h2)⟩, h.ok⟩
/-- what a move finds in memory -/
structure MoS (Z X : Nat) (t : Sh) (w0 q : World) : Prop where
  shot : Blk q Z t.cells 28
  x : Blk q X shot0.cells 28
  m : Mod none_ w0 q
theorem MoS.none {Z X : Nat} {t : Sh} {w0 q q' : World} (s : MoS Z X t w0 q) (hM : Mod none_ q q') : MoS Z X t w0 q' := ⟨hM.blk s.shot (fun h => h), hM.blk s.x (fun h => h), s.m.then hM⟩
/-- the same, without the result's cell -/
structure MoT (Z : Nat) (t : Sh) (w0 q : World) : Prop where
  shot : Blk q Z t.cells 28
  m : Mod none_ w0 q
theorem MoT.all {Z : Nat} {t : Sh} {w0 q : World} (s : MoT Z t w0 q) : q.rangeAt Z 0 t.cells := blk_mid s.shot 0 _ (fun j v hj => by rw [Nat.zero_add]; exact hj)
theorem MoT.left {Z : Nat} {t : Sh} {w0 q : World} (s : MoT Z t w0 q) : q.cell? ⟨Z, 6, none⟩ = some (.int .i64 t.left) := s.shot.cell (j := 6) rfl
theorem MoT.ax {Z : Nat} {t : Sh} {w0 q : World} (s : MoT Z t w0 q) : q.cell? ⟨Z, 2, none⟩ = some (.int .i64 t.ax) := s.shot.cell (j := 2) rfl
theorem MoT.ay {Z : Nat} {t : Sh} {w0 q : World} (s : MoT Z t w0 q) : q.cell? ⟨Z, 3, none⟩ = some (.int .i64 t.ay) := s.shot.cell (j := 3) rfl
theorem MoT.sx {Z : Nat} {t : Sh} {w0 q : World} (s : MoT Z t w0 q) : q.cell? ⟨Z, 4, none⟩ = some (.int .i64 t.sx) := s.shot.cell (j := 4) rfl
theorem MoT.sy {Z : Nat} {t : Sh} {w0 q : World} (s : MoT Z t w0 q) : q.cell? ⟨Z, 5, none⟩ = some (.int .i64 t.sy) := s.shot.cell (j := 5) rfl
theorem MoT.none {Z : Nat} {t : Sh} {w0 q q' : World} (s : MoT Z t w0 q) (hM : Mod none_ q q') : MoT Z t w0 q' := ⟨hM.blk s.shot (fun h => h), s.m.then hM⟩
theorem MoT.store {Z B : Nat} {t : Sh} {w0 q q' : World} (s : MoT Z t w0 q) (hM : Mod (only B) q q') (h : Z ≠ B ∧ w0.heap.size ≤ B) : MoT Z t w0 q' := ⟨hM.blk s.shot (not_only h.1), s.m.trans hM (fun j hj e => by have : j = B := e; omega)⟩
theorem move_back {fn : Func} {p q b : Tmp} (h : fn.results = #[.cell p 28, .tmp q, .tmp b]) (tmps : Array Value) (w : World) (g : Nat) (s : Sh) (u v : Value) (hp : tmps.getD p undef = .pointer (some ⟨g, 0, none⟩)) (hg : Blk w g s.cells 28)
    (hq : tmps.getD q undef = u) (hb : tmps.getD b undef = v) : (results fn tmps).run Tryd.prog w = .ok (.tuple #[s.agg, u, v]) w := by
  have hp' : tmps[p]?.getD undef = .pointer (some ⟨g, 0, none⟩) := by simpa using hp
  have hq' : tmps[q]?.getD undef = u := by simpa using hq
  have hb' : tmps[b]?.getD undef = v := by simpa using hb
  simp [results, h, hp', hq', hb', asAddr, run_loadVar_row w g 28 28 s.cells.toArray (0, 0) _ hg under_shot rfl size_shot]
  rfl
theorem wp_scope_once {P : Program} {a : Act} {w : World} {Q : Exit → Act → World → Prop} {c rest : Code} (l : Nat) (hf : findLabel c l = some rest)
    (first : c.wp P (Exit.jump l (fun a' w' => rest.wp P (Exit.jump l (fun _ _ => False) Q) a' w') Q) a w) : (Code.scope c).wp P Q a w :=
  wp_scope_jumps l _ (fun _ _ => 0) hf first (fun a w h => wp_mono h (fun e a w hq => by
    cases e with
    | goto l' => exact hq.2.elim
    | normal => exact hq
    | exit id => exact hq
    | ret => exact hq
    | panic ch => exact hq
    | outgrown => exact hq))
theorem shot_new (w : World) (s : Sh) : ∃ w1, (w.alloc (.cells s.cells.toArray 28)).alloc (.cells #[.int .i64 0, .int .i64 0, .int .i64 0, .int .i64 0, .int .i64 0, .int .i64 0, .int .i64 0] 28) = w1 ∧ MoS w.heap.size (w.heap.size + 1) s w w1 := by
  refine ⟨_, rfl, (Blk.new w s.cells _).alloc _, ?_, ((Mod.refl none_ w).alloc _).alloc _⟩
  have := Blk.new (w.alloc (.cells s.cells.toArray 28)) shot0.cells 28
  rw [World.size_alloc] at this
  exact this
/-- what is left behind the first j cars -/
def goOn (W H : Nat) (E : List Int) (L : List Cr) (k j : Nat) (s : Sh) : Sh × Int × Bool := match firstHit s j (L.drop j) with
  | some i => (s, (i : Int), false)
  | none => flight W H E L k s
theorem goOn_hit {W H : Nat} {E : List Int} {L : List Cr} {k j : Nat} {s : Sh} {c : Cr} (h : L[j]? = some c) (hm : meets s c = true) : goOn W H E L k j s = (s, (j : Int), false) := by
  obtain ⟨hj, hc⟩ := List.getElem?_eq_some_iff.1 h
  unfold goOn
  rw [List.drop_eq_getElem_cons hj, hc, firstHit, if_pos hm]
theorem goOn_miss {W H : Nat} {E : List Int} {L : List Cr} {k j : Nat} {s : Sh} {c : Cr} (h : L[j]? = some c) (hm : meets s c = false) : goOn W H E L k j s = goOn W H E L k (j + 1) s := by
  obtain ⟨hj, hc⟩ := List.getElem?_eq_some_iff.1 h
  unfold goOn
  rw [List.drop_eq_getElem_cons hj, hc, firstHit, hm, if_neg (by simp)]
theorem goOn_end {W H : Nat} {E : List Int} {L : List Cr} {k : Nat} {s : Sh} : goOn W H E L k L.length s = flight W H E L k s := by
  unfold goOn
  rw [List.drop_length]
  rfl
theorem flight_on {W H : Nat} {E : List Int} {L : List Cr} {k : Nat} {s : Sh} (h : ¬ Bd.atOf W H E s.step.ax s.step.ay = 35) : flight W H E L (k + 1) s = goOn W H E L k 0 s.step := by
  rw [flight, if_neg h]
  rfl
theorem flight_wall {W H : Nat} {E : List Int} {L : List Cr} {k : Nat} {s : Sh} (h : Bd.atOf W H E s.step.ax s.step.ay = 35) : flight W H E L (k + 1) s = (s.step, -1, false) := by
  rw [flight, if_pos h]
set_option maxHeartbeats 4000000 in
set_option maxRecDepth 100000 in
theorem move_any (w : World) {b W H : Nat} {E : List Int} (hb : BrdP w b W H E) (sa : Option Addr) (n cp : Nat) (L : List Cr) (hn : L.length = n) (hn2 : n ≤ 9223372036854775807) (hL : Crs w w.heap.size sa L) (s : Sh) (hs : s.Ok) :
    Calls Tryd.prog 22 #[.pointer (some ⟨b, 0, none⟩), .slice sa n cp, s.agg] w fun e w' => e = .returned (.tuple #[(flight W H E L 4 s).1.agg, .int .i64 (flight W H E L 4 s).2.1, .bool (flight W H E L 4 s).2.2]) ∧ Mod none_ w w' := by
  obtain ⟨R, hR⟩ : ∃ R, flight W H E L 4 s = R := ⟨_, rfl⟩
  rw [hR]
  have HR := Lib.hid hR; have HB := Lib.hid hb; have HL := Lib.hid hL; have HN := Lib.hid hn; have HS := Lib.hid hs
  clear hR hb hL hn hs
  unfold Sh.agg
  go_enter Tryd.func22, Tryd.ntmps22
  go_wp2_with fail
  refine wp_scope_once 0 (by rfl) ?_
  go_upto_region 1 with fail
  obtain ⟨w1, hw1, hM1⟩ := shot_new w s
  rw [hw1]
  obtain ⟨Z, hZ⟩ : ∃ Z, w.heap.size = Z := ⟨_, rfl⟩
  rw [hZ] at hM1 ⊢
  obtain ⟨X, hX⟩ : ∃ X, Z + 1 = X := ⟨_, rfl⟩
  rw [hX] at hM1 ⊢
  have HZX := Lib.hid (show w.heap.size ≤ Z ∧ w.heap.size ≤ X ∧ Z ≠ X by omega)
  have HM1 := Lib.hid hM1
  clear hM1 hw1 hZ hX
  go_wp2_with fail
  go_loopw [9, 12] (fun u v wr => ∃ (k : Nat) (t : Sh), u = .int .i64 (-1) ∧ v = .int .i64 k ∧ k ≤ 4 ∧ t.Ok ∧ MoS Z X t w wr ∧ flight W H E L (4 - k) t = R) (fun _ v _ => 4 - (intOf v).toNat)
  case atStart => exact ⟨0, s, rfl, rfl, by omega, HS.out, HM1.out, HR.out⟩
  case round =>
    obtain ⟨k, t, rfl, rfl, hk, ht, hM, hfl⟩ := hrel
    have HT := Lib.hid ht; have HM := Lib.hid hM; have HFL := Lib.hid hfl
    clear ht hM hfl HM1 HR HS
    by_cases hk4 : k < 4
    · have hk4' : (k : Int) < 4 := by omega
      have hso := step_ok HT.out
      have hfl := HFL.out
      obtain ⟨j, hj⟩ : ∃ j, 4 - k = j + 1 := ⟨3 - k, by omega⟩
      have hj2 : j = 4 - (k + 1) := by omega
      rw [hj] at hfl
      have q2 := HM.out.shot.cell (j := 2) rfl; have q3 := HM.out.shot.cell (j := 3) rfl; have q4 := HM.out.shot.cell (j := 4) rfl; have q5 := HM.out.shot.cell (j := 5) rfl
      have had := fun q : World => vadd_any q t.ax t.ay (t.sx / 4) (t.sy / 4) HT.out.ax HT.out.ay (by have := HT.out.sx; unfold Bd.I64 at this ⊢; omega) (by have := HT.out.sy; unfold Bd.I64 at this ⊢; omega)
      have hst : t.step = { t with ax := Vx.lim (t.ax + t.sx / 4), ay := Vx.lim (t.ay + t.sy / 4) } := rfl
      generalize Vx.lim (t.ax + t.sx / 4) = RX at *
      generalize Vx.lim (t.ay + t.sy / 4) = RY at *
      obtain ⟨u, hu⟩ : ∃ u, t.step = u := ⟨_, rfl⟩
      rw [hu] at hst hso
      have hfw : Bd.atOf W H E u.ax u.ay = 35 → (u, (-1 : Int), false) = R := fun h => by rw [← hfl, flight_wall (by rw [hu]; exact h), hu]
      have hfo : ¬ Bd.atOf W H E u.ax u.ay = 35 → goOn W H E L j 0 u = R := fun h => by rw [← hfl, flight_on (by rw [hu]; exact h), hu]
      have HST := Lib.hid hst; have HSO := Lib.hid hso; have HFW := Lib.hid hfw; have HFO := Lib.hid hfo; have HAD := Lib.hid had; have HJ := Lib.hid hj2
      clear hst hso hfl had hu HFL hj hj2 hfw hfo
      obtain ⟨wo, rfl⟩ : ∃ wo : World, wo = wr := ⟨_, rfl⟩
      go_upto_region 5 with (go_at_call 26; refine (HAD.out _).mono ?_; rintro r w3 ⟨rfl, hM3⟩; have HM3 := Lib.hid (HM.out.none hM3); have r2 := HM3.out.shot.cell (j := 2) rfl; have r3 := HM3.out.shot.cell (j := 3) rfl; have g2 := HM3.out.shot.frozen 2; have g3 := HM3.out.shot.frozen 3; clear hM3)
      obtain ⟨w4, hw4, hM4⟩ : ∃ w4, ((w3.setCell ⟨Z, 2, none⟩ (.int .i64 RX)).setCell ⟨Z, 3, none⟩ (.int .i64 RY)) = w4 ∧ MoS Z X u w w4 :=
        ⟨_, rfl, by rw [HST.out]; exact ((HM3.out.shot.set 2 _).set 3 _).cs rfl, HM3.out.x.set_other (fun e => HZX.out.2.2 e.symm) _ |>.set_other (fun e => HZX.out.2.2 e.symm) _, (HM3.out.m.setCell (p := ⟨Z, 2, none⟩) (fun h => by have : Z < w.heap.size := h; have := HZX.out; omega) _).setCell (p := ⟨Z, 3, none⟩) (fun h => by have : Z < w.heap.size := h; have := HZX.out; omega) _⟩
      rw [hw4]
      have HM4 := Lib.hid hM4
      have hso2 := fun (q : World) (hM : Mod none_ w q) => solid_any q (HB.out.none hM) u.ax u.ay HSO.out.ax HSO.out.ay
      have HSOL := Lib.hid hso2
      clear q2 q3 q4 q5 r2 r3 g2 g3 hM4 hw4 HM3 HM hso2
      have p2 := HM4.out.shot.cell (j := 2) rfl; have p3 := HM4.out.shot.cell (j := 3) rfl
      go_upto_if 30 with (go_at_call 28; refine (HSOL.out _ HM4.out.m).mono ?_; rintro r w5 ⟨rfl, hM5⟩; have HM5 := Lib.hid (HM4.out.none hM5); clear hM5)
      clear p2 p3 HM4
      by_cases hsol : Bd.atOf W H E u.ax u.ay = 35
      · have HE := Lib.hid (HFW.out hsol)
        have hd : decide (Bd.atOf W H E u.ax u.ay = 35) = true := decide_eq_true hsol
        rw [hd]
        clear HFW HFO hsol hd
        go_wp2_with fail
        go_step3
        refine ⟨rfl, ?_⟩
        go_wp2_with (first | (refine wpList_load_blk rfl 28 (.tmp 5) rfl Z rfl 28 u.cells _ HM5.out.shot under_shot rfl size_shot ?_) | (refine wpList_store_blk rfl 28 (.tmp 6) (.tmp 66) rfl X u.cells rfl rfl 28 _ HM5.out.x size_shot rfl (one_shot u) ?_; intro w6 hX6 hM6 _))
        simp only [Exit.jump]
        exact bodyPost_ret (move_back Tryd.results22 _ _ X u (.int .i64 (-1)) (.bool false) rfl hX6 rfl rfl) rfl ⟨by rw [← HE.out]; rfl, HM5.out.m.trans hM6 (fun j hj e => by have : j = X := e; have := HZX.out; omega)⟩
      · have HE := Lib.hid (HFO.out hsol)
        have hd : decide (Bd.atOf W H E u.ax u.ay = 35) = false := decide_eq_false hsol
        rw [hd]
        clear HFW HFO hsol hd
        go_wp2_with fail
        go_loopw [9, 33] (fun p v wr => ∃ i : Nat, p = .int .i64 (-1) ∧ v = .int .i64 i ∧ i ≤ n ∧ MoS Z X u w wr ∧ goOn W H E L j i u = R) (fun _ v _ => n - (intOf v).toNat)
        case atStart => exact ⟨0, rfl, rfl, by omega, HM5.out, HE.out⟩
        case round =>
          obtain ⟨i, rfl, rfl, hi, hM, hgo⟩ := hrel
          have HM := Lib.hid hM; have HGO := Lib.hid hgo
          clear hM hgo HM5 HE
          by_cases hin : i < n
          · have hin' : (i : Int) < (n : Int) := by omega
            have hll := HN.out
            obtain ⟨c, hc⟩ : ∃ c, L[i]? = some c := ⟨_, List.getElem?_eq_getElem (by omega)⟩
            obtain ⟨cb, off, rfl, hcb, hat⟩ := HL.out.row (by omega)
            have hr := rangeAt_mod (hat i c hc) HM.out.m (fun h => h)
            have hcok := HL.out.ok c (List.mem_of_getElem? hc)
            have HC := Lib.hid hc; have HR := Lib.hid hr; have HCO := Lib.hid hcok
            obtain ⟨wo, rfl⟩ : ∃ wo : World, wo = wr := ⟨_, rfl⟩
            obtain ⟨Y, hYe⟩ : ∃ Y, wo.heap.size = Y := ⟨_, rfl⟩
            have HYE := Lib.hid hYe
            clear hc hat hr hcok hll hYe
            go_upto_region 9 with (first | (refine wpList_load_mid rfl 25 (.tmp 36) rfl cb (off + i * 14) rfl c.cells _ HR.out under_car rfl size_car ?_) | (refine wpList_store_new rfl 25 (.tmp 11) (.tmp 37) rfl 25 _ c.cells rfl rfl size_car rfl (one_car c) ?_; intro w6 hY hM6 hs6))
            rw [HYE.out] at hY ⊢
            have q11 := hY.cell (j := 11) rfl; have q0 := hY.cell (j := 0) rfl; have c2 := hY.cell (j := 2) rfl; have c3 := hY.cell (j := 3) rfl
            have HM6 := Lib.hid (HM.out.none hM6)
            have p1 := HM6.out.shot.cell (j := 1) rfl; have p2 := HM6.out.shot.cell (j := 2) rfl; have p3 := HM6.out.shot.cell (j := 3) rfl
            have hne := fun q : World => vnear_any q u.ax u.ay c.ax c.ay 98304 HSO.out.ax HSO.out.ay HCO.out.ax HCO.out.ay
            have hme : meets u c = (decide (c.wait ≤ 0) && (c.player != u.player && Vx.nearB u.ax u.ay c.ax c.ay 98304)) := rfl
            have hgo := HGO.out
            generalize Vx.nearB u.ax u.ay c.ax c.ay 98304 = NB at *
            have HNE := Lib.hid hne
            clear hY hM6 hs6 hne HGO
            by_cases c11 : c.wait ≤ 0
            · cases cp : (c.player != u.player) with
              | true =>
                have hm2 : meets u c = NB := by rw [hme, cp, decide_eq_true c11]; simp
                clear hme
                cases NB with
                | true =>
                  rw [goOn_hit HC.out hm2] at hgo
                  have HE := Lib.hid hgo
                  clear hgo hm2
                  go_wp2_with (go_at_call 29; refine (HNE.out _).mono ?_; rintro r w7 ⟨rfl, hM7⟩; have HM7 := Lib.hid (HM6.out.none hM7); clear hM7)
                  go_step3
                  refine ⟨rfl, ?_⟩
                  go_wp2_with (first | (refine wpList_load_blk rfl 28 (.tmp 5) rfl Z rfl 28 u.cells _ HM7.out.shot under_shot rfl size_shot ?_) | (refine wpList_store_blk rfl 28 (.tmp 6) (.tmp 66) rfl X u.cells rfl rfl 28 _ HM7.out.x size_shot rfl (one_shot u) ?_; intro w6 hX6 hM6 _))
                  simp only [Exit.jump]
                  exact bodyPost_ret (move_back Tryd.results22 _ _ X u (.int .i64 (i : Int)) (.bool false) rfl hX6 rfl rfl) rfl ⟨by rw [← HE.out]; rfl, HM7.out.m.trans hM6 (fun j hj e => by have : j = X := e; have := HZX.out; omega)⟩
                | false =>
                  rw [goOn_miss HC.out hm2] at hgo
                  have HG := Lib.hid hgo
                  clear hgo hm2
                  go_upto_region 11 with (go_at_call 29; refine (HNE.out _).mono ?_; rintro r w7 ⟨rfl, hM7⟩; have HM7 := Lib.hid (HM6.out.none hM7); clear hM7)
                  go_wp2_with fail
                  go_roundw
                  case rel => exact ⟨i + 1, rfl, by go_num, by omega, HM7.out, HG.out⟩
                  case measure => simp [intOf]; omega
              | false =>
                have hm2 : meets u c = false := by rw [hme, cp, decide_eq_true c11]; simp
                rw [goOn_miss HC.out hm2] at hgo
                have HG := Lib.hid hgo
                clear hgo hm2 hme
                go_wp2_with fail
                go_roundw
                case rel => exact ⟨i + 1, rfl, by go_num, by omega, HM6.out, HG.out⟩
                case measure => simp [intOf]; omega
            · have c12 : decide (c.wait ≤ 0) = false := decide_eq_false c11
              have hm2 : meets u c = false := by rw [hme, c12]; simp
              rw [goOn_miss HC.out hm2] at hgo
              have HG := Lib.hid hgo
              clear hgo hm2 hme
              go_wp2_with fail
              go_roundw
              case rel => exact ⟨i + 1, rfl, by go_num, by omega, HM6.out, HG.out⟩
              case measure => simp [intOf]; omega
          · have hin' : ¬ (i : Int) < (n : Int) := by omega
            have hie : i = L.length := by have := HN.out; omega
            have hgo := HGO.out
            rw [hie, goOn_end, HJ.out] at hgo
            have HG := Lib.hid hgo
            clear hgo hie
            go_wp2_with fail
            go_roundw
            case rel => exact ⟨k + 1, u, rfl, by go_num, by omega, HSO.out, HM.out, HG.out⟩
            case measure => simp [intOf]; omega
    · have hk4' : ¬ (k : Int) < 4 := by omega
      have hk0 : 4 - k = 0 := by omega
      have hfl := HFL.out
      rw [hk0, flight] at hfl
      have HE := Lib.hid hfl
      clear hfl hk0 HFL
      have q6 := HM.out.shot.cell (j := 6) rfl
      have g6 := HM.out.shot.frozen 6
      obtain ⟨LF, hLF⟩ : ∃ x, IntKind.i64.wrap (t.left - 1) = x := ⟨_, rfl⟩
      rw [hLF] at HE
      obtain ⟨wo, rfl⟩ : ∃ wo : World, wo = wr := ⟨_, rfl⟩
      go_upto_region 14 with fail
      obtain ⟨v, hv⟩ : ∃ v : Sh, { t with left := LF } = v := ⟨_, rfl⟩
      rw [hv] at HE
      obtain ⟨w2, hw2, hS, hX⟩ : ∃ w2, wo.setCell ⟨Z, 6, none⟩ (.int .i64 LF) = w2 ∧ MoT Z v w w2.drew ∧ Blk w2.drew X shot0.cells 28 :=
        ⟨_, rfl, MoT.none ⟨by rw [← hv]; exact (HM.out.shot.set 6 _).cs rfl, HM.out.m.setCell (p := ⟨Z, 6, none⟩) (fun h => by have : Z < w.heap.size := h; have := HZX.out; omega) _⟩ (Mod.refl _ _).drew, ((HM.out.x.set_other (fun e => HZX.out.2.2 e.symm) _)).drew⟩
      rw [hw2]
      have hvl : v.left = LF := by rw [← hv]
      have HX := Lib.hid hX
      clear q6 g6 hw2 hX HM hv hLF
      refine wp_region_noPanic ?_
      refine wp_region_held_drew (S := MoT Z v w) (by kernel_rfl) hS (fun hHeld => ?_)
      clear hHeld
      refine wpAnyH_take (i := 0) (v := _) (by simp only [List.getElem?_toArray, List.getElem?_cons_zero]; rfl) (by kernel_rfl) (by kernel_rfl) (by kernel_rfl) (fun _ _ _ h => h) (yieldsIf_load_mid (by rfl) 28 (.tmp 5) rfl Z 0 rfl v.cells _ (fun _ h => h.all) under_shot rfl size_shot) hS ?_
      try simp only [Act.put, List.setIfInBounds_toArray, List.set_cons_zero, List.set_cons_succ]
      refine wpAnyH_take (i := 1) (v := ?_) (by simp only [List.getElem?_toArray, List.getElem?_cons_zero, List.getElem?_cons_succ]; rfl) (by kernel_rfl) (by kernel_rfl) (by kernel_rfl) (fun _ _ _ h => h) (Or.inl ⟨by rfl, ?_⟩) hS ?_
      rotate_left
      · (intro wq hSw; go_simp; all_goals with_reducible rfl)
      try simp only [Act.put, List.setIfInBounds_toArray, List.set_cons_zero, List.set_cons_succ]
      refine wpAnyH_take (i := 2) (v := ?_) (by simp only [List.getElem?_toArray, List.getElem?_cons_zero, List.getElem?_cons_succ]; rfl) (by kernel_rfl) (by kernel_rfl) (by kernel_rfl) (fun _ _ _ h => h) (Or.inl ⟨by rfl, ?_⟩) hS ?_
      rotate_left
      · (intro wq hSw; have q6 := hSw.left; rw [hvl] at q6; go_simp; all_goals with_reducible rfl)
      try simp only [Act.put, List.setIfInBounds_toArray, List.set_cons_zero, List.set_cons_succ]
      refine wpAnyH_take (i := 3) (v := ?_) (by simp only [List.getElem?_toArray, List.getElem?_cons_zero, List.getElem?_cons_succ]; rfl) (by kernel_rfl) (by kernel_rfl) (by kernel_rfl) (fun _ _ _ h => h) (Or.inl ⟨by rfl, ?_⟩) hS ?_
      rotate_left
      · (intro wq hSw; go_simp; all_goals with_reducible rfl)
      try simp only [Act.put, List.setIfInBounds_toArray, List.set_cons_zero, List.set_cons_succ]
      refine wpAnyH_ready (rs := [4]) (by kernel_rfl) (by simp) ?_
      refine AllReadyH.cons (by simp only [List.getElem?_toArray, List.getElem?_cons_zero, List.getElem?_cons_succ]; rfl) (fun K hK => ?_) (AllReadyH.nil)
      rw [if_pos (by rfl)]
      refine wp_store_blk 28 (.tmp 6) (.tmp 62) rfl X v.cells rfl rfl 28 _ HX.out size_shot rfl (one_shot v) ?_
      intro w6 hX6 hM6 _
      have hS6 := MoT.store hS hM6 (by have := HZX.out; omega)
      refine hK.out _ _ hS6 (fun _ => ?_)
      clear hK K
      try simp only [Act.put]
      refine wpAnyH_take (i := 5) (v := ?_) (by simp only [List.getElem?_toArray, List.getElem?_cons_zero, List.getElem?_cons_succ]; rfl) (by kernel_rfl) (by kernel_rfl) (by kernel_rfl) (fun _ _ _ h => h) (Or.inl ⟨by rfl, ?_⟩) hS6 ?_
      rotate_left
      · (intro wq hSw; go_simp; all_goals with_reducible rfl)
      try simp only [Act.put, List.setIfInBounds_toArray, List.set_cons_zero, List.set_cons_succ]
      refine wpAnyH_take (i := 6) (v := ?_) (by simp only [List.getElem?_toArray, List.getElem?_cons_zero, List.getElem?_cons_succ]; rfl) (by kernel_rfl) (by kernel_rfl) (by kernel_rfl) (fun _ _ _ h => h) (Or.inl ⟨by rfl, ?_⟩) hS6 ?_
      rotate_left
      · (intro wq hSw; go_simp; all_goals with_reducible rfl)
      try simp only [Act.put, List.setIfInBounds_toArray, List.set_cons_zero, List.set_cons_succ]
      refine wpAnyH_done (by kernel_rfl) ?_ _
      refine NoPanic.normal ?_

      go_wp2_with fail
      simp only [Exit.jump]
      exact bodyPost_ret (move_back Tryd.results22 _ _ X v (.int .i64 (-1)) (.bool (decide (0 < LF))) rfl hX6 rfl rfl) rfl ⟨by rw [← HE.out]; rfl, hS6.m⟩
end Go.Proofs.YtinjlkceplhibaaDoor
