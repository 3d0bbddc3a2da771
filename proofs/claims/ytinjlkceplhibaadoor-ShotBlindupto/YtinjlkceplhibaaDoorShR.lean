/- ShotBlind: the walk. -/
import Derived.Test.YtinjlkceplhibaaDoorShN
namespace Go.Proofs.YtinjlkceplhibaaDoor
open Go.RowKit

theorem run_build_car (w : World) (c : Cr) : (Instr.buildSlice 32 1 #[(0, c.agg)]).run Tryd.prog w = .ok (.slice (some ⟨w.heap.size, 0, none⟩) 1 1) (w.alloc (.cells c.cells.toArray 25)) := by
  obtain ⟨i, hi, hz0, hz1, hz2⟩ := info_parts' info_car
  unfold Cr.agg Cr.cells
  simp [Instr.buildSlice, run_underlying under_cars, sizeOf, typeInfo, hi, hz1, zeroValue, hz0]
  kernel_rfl
theorem wpList_build_car {ops : Array Oper} {rest : List Oper} {o : Oper} {a : Act} {w : World} {Q : Exit → Act → World → Prop} (hgd : o.guard = none) (x : Operand) (ho : o.op = .buildSlice 32 1 #[(0, x)]) (c : Cr) (hx : a.eval x = c.agg)
    (h : wpList Tryd.prog ops Q rest (a.put o.dst (.slice (some ⟨w.heap.size, 0, none⟩) 1 1)) (w.alloc (.cells c.cells.toArray 25))) : wpList Tryd.prog ops Q (o :: rest) a w := by
  refine wpList_plain hgd fun K hK' => ?_
  have hr := run_build_car w c
  have hp : (#[(0, x)] : Array (Nat × Operand)).map (fun (i, x) => (i, a.eval x)) = #[(0, c.agg)] := by simp [hx]
  unfold Oper.wp execOp
  simp only [ho, hp, Sem.run_bind, Sem.run_pure, hr, Result.andThen_ok]
  exact hK' _ _ h
theorem crs_more {w w' : World} {B : Nat} {sa : Option Addr} {L : List Cr} (h : Crs w B sa L) (hB : B ≤ w'.heap.size) (hM : Mod none_ w w') : Crs w' w'.heap.size sa L :=
  ⟨fun hp => by
    obtain ⟨b, off, h1, h2, h3⟩ := h.row hp
    exact ⟨b, off, h1, by omega, fun i c hc => rangeAt_mod (h3 i c hc) hM (fun h => h)⟩, h.ok⟩
/-- what the law's rounds find -/
structure BlS (S X b W H : Nat) (E : List Int) (s x : Sh) (w0 q : World) : Prop where
  s : Blk q S s.cells 28
  x : Blk q X x.cells 28
  b : BrdP q b W H E
  m : Mod none_ w0 q
theorem BlS.keep {S X b W H : Nat} {E : List Int} {s x : Sh} {w0 q q' : World} (h : BlS S X b W H E s x w0 q) (hM : Mod none_ q q') : BlS S X b W H E s x w0 q' :=
  ⟨hM.blk h.s (fun h => h), hM.blk h.x (fun h => h), h.b.none hM, h.m.then hM⟩
theorem par_even {i : Nat} (h : i % 2 = 0) : ((i : Int).tmod 2 == 0) = true := by
  have : (i : Int).tmod 2 = ((i % 2 : Nat) : Int) := rfl
  rw [this, h]; rfl
theorem par_odd {i : Nat} (h : ¬ i % 2 = 0) : ((i : Int).tmod 2 == 0) = false := by
  have : (i : Int).tmod 2 = ((i % 2 : Nat) : Int) := rfl
  rw [this]
  have : i % 2 = 1 := by omega
  rw [this]; rfl
theorem blind_ok {s : Sh} {c : Cr} {i : Nat} (hs : s.Ok) (hc : c.Ok) : (blindB s.player i c).Ok := by
  unfold blindB
  split
  · exact ⟨hs.player, hc.name, hc.ax, hc.ay, hc.sx, hc.sy, hc.heading, hc.health, hc.energy, hc.ammo, hc.cool, hc.wait, hc.spawns, hc.score⟩
  · exact hc
/-- both lists of a round, the call's own -/
structure BlL (wb : World) (v11 v12 : Value) (M : List Cr) (F : List Int) (q : World) : Prop where
  c : OwnC q wb.heap.size v11 M
  n : OwnN q wb.heap.size v12 F
  m : Mod none_ wb q
theorem BlL.keep {wb : World} {v11 v12 : Value} {M : List Cr} {F : List Int} {q q' : World} (h : BlL wb v11 v12 M F q) (hM : Mod none_ q q') : BlL wb v11 v12 M F q' := ⟨h.c.mod2 hM (fun _ _ h => h), h.n.mod hM (fun _ _ h => h), h.m.then hM⟩
theorem BlL.own1 {wb : World} {v11 v12 v' : Value} {M M' : List Cr} {F : List Int} {q q' : World} (h : BlL wb v11 v12 M F q) (hO : OwnC q' wb.heap.size v' M') (hg : q.grownBy q' v11.ownBlock) : BlL wb v' v12 M' F q' :=
  ⟨hO, h.n.mod (S := fun k => v11.ownBlock = some k) (Mod.grownBy hg (fun k _ e => e)) (fun k hk e => ownCN_ne h.c h.n k e hk), h.m.trans (T := fun k => v11.ownBlock = some k) (Mod.grownBy hg (fun k _ e => e)) (fun k hk e => by have := (World.ownsRow.lt h.c k e).1; omega)⟩
theorem BlL.own2 {wb : World} {v11 v12 v' : Value} {M : List Cr} {F F' : List Int} {q q' : World} (h : BlL wb v11 v12 M F q) (hO : OwnN q' wb.heap.size v' F') (hg : q.grownBy q' v12.ownBlock) : BlL wb v11 v' M F' q' :=
  ⟨h.c.mod2 (S := fun k => v12.ownBlock = some k) (Mod.grownBy hg (fun k _ e => e)) (fun k hk e => ownCN_ne h.c h.n k hk e), hO, h.m.trans (T := fun k => v12.ownBlock = some k) (Mod.grownBy hg (fun k _ e => e)) (fun k hk e => by have := (h.n.lt k e).1; omega)⟩
theorem BlL.put {wb : World} {v11 v12 : Value} {M : List Cr} {F : List Int} {q0 q q' : World} {Y : Nat} (h0 : BlL wb v11 v12 M F q0) (hY : q0.heap.size = Y) (h : BlL wb v11 v12 M F q) (hM : Mod (only Y) q q') : BlL wb v11 v12 M F q' :=
  ⟨h.c.mod2 hM (fun k hk e => by have := (World.ownsRow.lt h0.c k hk).2; have : k = Y := e; omega), h.n.mod hM (fun k hk e => by have := (h0.n.lt k hk).2; have : k = Y := e; omega), h.m.trans hM (fun j hj e => by have := h0.m.size; have : j = Y := e; omega)⟩
set_option maxHeartbeats 8000000 in
set_option maxRecDepth 100000 in
theorem shotBlind_any (w : World) (hG : Sines w) (text : ByteArray) (htx : text.size ≤ 1048576) (sa sb : Option Addr) (n cp m cm : Nat) (C Wk : List Cr) (hn : C.length = n) (hn2 : n ≤ 1048576) (hm : Wk.length = m) (hm2 : m ≤ 1048576) (hC : Crs w w.heap.size sa C) (hW : Crs w w.heap.size sb Wk) (s : Sh) (hs : s.Ok) :
    Calls Tryd.prog 7 #[.agg #[.string text, .slice sa n cp, .int .i64 s.id, .int .i64 s.player, .int .i64 s.ax, .int .i64 s.ay, .int .i64 s.sx, .int .i64 s.sy, .int .i64 s.left, .slice sb m cm]] w fun e w' => e = .returned (.bool true) ∧ Mod none_ w w' := by
  have ha := fun (q : World) (h : Sines q) => alive16_any q h
  have hp := fun (q : World) => parse_any q text (by omega)
  have HA := Lib.hid ha; have HG := Lib.hid hG; have HP := Lib.hid hp; have HC := Lib.hid hC; have HW := Lib.hid hW; have HN := Lib.hid hn; have HMm := Lib.hid hm; have HS := Lib.hid hs
  clear ha hp hG hC hW hn hm hs htx
  go_enter Tryd.func7, Tryd.ntmps7
  go_upto_region 1 with fail
  obtain ⟨w1, hw1, hB1, hM1⟩ : ∃ w1, w.alloc (.cells #[.string text, .slice sa n cp, .int .i64 s.id, .int .i64 s.player, .int .i64 s.ax, .int .i64 s.ay, .int .i64 s.sx, .int .i64 s.sy, .int .i64 s.left, .slice sb m cm] 53) = w1 ∧ Blk w1 w.heap.size [.string text, .slice sa n cp, .int .i64 s.id, .int .i64 s.player, .int .i64 s.ax, .int .i64 s.ay, .int .i64 s.sx, .int .i64 s.sy, .int .i64 s.left, .slice sb m cm] 53 ∧ Mod none_ w w1 := ⟨_, rfl, Blk.new w [.string text, .slice sa n cp, .int .i64 s.id, .int .i64 s.player, .int .i64 s.ax, .int .i64 s.ay, .int .i64 s.sx, .int .i64 s.sy, .int .i64 s.left, .slice sb m cm] _, (Mod.refl none_ w).alloc _⟩
  rw [hw1]
  obtain ⟨Z, hZ⟩ : ∃ Z, w.heap.size = Z := ⟨_, rfl⟩
  rw [hZ] at hB1 ⊢
  have HB1 := Lib.hid hB1; have HM1 := Lib.hid hM1; have HZ := Lib.hid hZ
  clear hB1 hM1 hw1 hZ
  go_upto_region 3 with (go_at_call 15; refine (HA.out _ (HG.out.mod HM1.out)).mono ?_; rintro r w2 ⟨rfl, hM⟩; have HM2 := Lib.hid (HM1.out.then hM); have HB2 := Lib.hid (hM.blk HB1.out (fun h => h)); clear hM)
  clear HB1 HM1 HA HG
  have z0 := HB2.out.cell (j := 0) rfl; have z1 := HB2.out.cell (j := 1) rfl; have z2 := HB2.out.cell (j := 2) rfl; have z3 := HB2.out.cell (j := 3) rfl; have z4 := HB2.out.cell (j := 4) rfl; have z5 := HB2.out.cell (j := 5) rfl; have z6 := HB2.out.cell (j := 6) rfl; have z7 := HB2.out.cell (j := 7) rfl; have z8 := HB2.out.cell (j := 8) rfl
  go_upto_region 5 with (refine wpList_store_new rfl 28 (.tmp 4) (.tmp 23) rfl 28 _ s.cells rfl rfl size_shot rfl (one_shot s) ?_; intro w3 hS hM3 hs3)
  obtain ⟨S, hSe⟩ : ∃ X, w2.heap.size = X := ⟨_, rfl⟩
  rw [hSe] at hS ⊢
  have HB3 := Lib.hid (hM3.blk HB2.out (fun h => h)); have HS3 := Lib.hid hS; have HM3 := Lib.hid (HM2.out.then hM3)
  clear z0 z1 z2 z3 z4 z5 z6 z7 z8 hS hM3 hs3 hSe HB2 HM2
  have z9 := HB3.out.cell (j := 9) rfl; have z0 := HB3.out.cell (j := 0) rfl
  cases hrd : Bd.read (Bd.runes text) with
  | bad =>
    go_wp2_with (go_at_call 18; refine (HP.out _).mono ?_; rintro r w4 ⟨hpp, hM⟩; rw [hrd] at hpp; obtain rfl := hpp; have HM4 := Lib.hid (HM3.out.then hM); clear hM)
    go_ret
    exact ⟨rfl, HM4.out⟩
  | place =>
    go_wp2_with (go_at_call 18; refine (HP.out _).mono ?_; rintro r w4 ⟨hpp, hM⟩; rw [hrd] at hpp; obtain rfl := hpp; have HM4 := Lib.hid (HM3.out.then hM); clear hM)
    go_ret
    exact ⟨rfl, HM4.out⟩
  | board W H E =>
    obtain ⟨x, h, on, hR⟩ : ∃ x h on, flight W H E C 4 s = (x, h, on) := ⟨_, _, _, rfl⟩
    have hmv := fun (q : World) (b : Nat) (hb : BrdP q b W H E) (hM : Mod none_ w q) => move_any q hb sa n cp C HN.out (by omega) (crs_more HC.out hM.size hM) s HS.out
    simp only [hR] at hmv
    unfold Sh.agg at hmv
    have HMV := Lib.hid hmv; have HR := Lib.hid hR
    clear hmv hR
    go_upto_region 10 with (first | (go_at_call 18; refine (HP.out _).mono ?_; rintro r w4 ⟨hpp, hM⟩; rw [hrd] at hpp; obtain ⟨b, rfl, hbb, hB⟩ := hpp; have HM4 := Lib.hid (HM3.out.then hM); have HS4 := Lib.hid (hM.blk HS3.out (fun h => h)); have HBD4 := Lib.hid hB; clear hM hbb hB) | (refine wpList_load_blk rfl 28 (.tmp 4) rfl S rfl 28 s.cells _ HS4.out under_shot rfl size_shot ?_) |
      (go_at_call 22; refine (HMV.out _ b HBD4.out HM4.out).mono ?_; rintro r w5 ⟨rfl, hM⟩; have HS5 := Lib.hid (hM.blk HS4.out (fun h => h)); have HBD5 := Lib.hid (HBD4.out.none hM); have HM5 := Lib.hid (HM4.out.then hM); clear hM) | (refine wpList_store_new rfl 28 (.tmp 8) (.tmp 39) rfl 28 _ x.cells rfl rfl size_shot rfl (one_shot x) ?_; intro w6 hX hM6 hs6))
    obtain ⟨X, hXe⟩ : ∃ X, w5.heap.size = X := ⟨_, rfl⟩
    rw [hXe] at hX ⊢
    have hV6 : BlS S X b W H E s x w w6 := ⟨hM6.blk HS5.out (fun h => h), hX, HBD5.out.none hM6, HM5.out.then hM6⟩
    have HV6 := Lib.hid hV6
    clear hX hM6 hs6 hXe hV6 z9 z0 hrd HP HB3 HS3 HM3 HS4 HBD4 HM4 HS5 HBD5 HM5 HMV
    obtain ⟨wb, hwb⟩ : ∃ q, q = w6 := ⟨_, rfl⟩
    have HWB := Lib.hid hwb
    clear hwb
    go_upto_block 0 with fail
    go_cut [11, 12] (fun v v12 wx => ∃ M F, BlL wb v v12 M F wx ∧ Wv s.player C M F ∧ (∀ c ∈ M, c.Ok) ∧ M.length ≤ 4194304)
    case first =>
      go_wp2_with fail
      go_loopw [11, 12, 13] (fun v v12 u wr => ∃ (i : Nat) (M : List Cr) (F : List Int), u = .int .i64 i ∧ i ≤ n + m ∧ M.length ≤ 2 * i ∧ BlL wb v v12 M F wr ∧ Wv s.player (C.take i) M F ∧ (∀ c ∈ M, c.Ok)) (fun _ _ u _ => n + m - (intOf u).toNat)
      case atStart => exact ⟨0, [], [], rfl, by omega, by simp, ⟨OwnC.none _ _, OwnN.none _ _, Mod.of_same HWB.out⟩, Wv.nil _, fun c h => by simp at h⟩
      case round =>
        obtain ⟨i, M, F, rfl, hi, hlen, hL, hwv, hok⟩ := hrel
        have HL := Lib.hid hL; have HWV := Lib.hid hwv; have HOK := Lib.hid hok; have HLEN := Lib.hid (show M.length ≤ 2 * i ∧ i ≤ 2097152 from ⟨hlen, by omega⟩)
        clear hL hwv hok hlen
        by_cases hin : i < n
        · have d1 : (i : Int) < (n : Int) := by omega
          by_cases him : i < m
          · have d2 : (i : Int) < (m : Int) := by omega
            obtain ⟨cw, hcw⟩ : ∃ c, Wk[i]? = some c := ⟨_, List.getElem?_eq_getElem (by have := HMm.out; omega)⟩
            obtain ⟨eb, eoff, hsb, heb, heat⟩ := HW.out.row (by have := HMm.out; omega)
            subst hsb
            have HRE := Lib.hid (rangeAt_mod (heat i cw hcw) (HV6.out.m.then (HWB.out ▸ HL.out.m)) (fun h => h))
            have HWO := Lib.hid (HW.out.ok cw (List.mem_of_getElem? hcw))
            clear heat hcw heb
            go_upto_if 57 with fail
            go_cut [11, 12] (fun v v12 wx => ∃ M F, BlL wb v v12 M F wx ∧ Wv s.player (C.take i) M F ∧ (∀ c ∈ M, c.Ok) ∧ M.length ≤ 2 * i + 1)
            case first =>
              go_upto_region 17 with (first | (refine wpList_load_mid rfl 25 (.tmp 60) rfl eb (eoff + i * 14) rfl cw.cells _ HRE.out under_car rfl size_car ?_) | (refine wpList_store_new rfl 25 (.tmp 14) (.tmp 61) rfl 25 _ cw.cells rfl rfl size_car rfl (one_car cw) ?_; intro wy hY hMy hsy))
              obtain ⟨Y, hYe⟩ : ∃ Y, wr.heap.size = Y := ⟨_, rfl⟩
              rw [hYe] at hY ⊢
              have HLy := Lib.hid (HL.out.keep hMy); have HY := Lib.hid hY; have HYE := Lib.hid hYe
              have HVy := Lib.hid (HV6.out.keep (HWB.out ▸ HLy.out.m))
              clear hY hMy hsy hYe HRE
              have y11 := HY.out.cell (j := 11) rfl; have y0 := HY.out.cell (j := 0) rfl; have fy := HY.out.frozen 0; have s1 := HVy.out.s.cell (j := 1) rfl
              obtain ⟨c', hc'⟩ : ∃ c', blindB s.player i cw = c' := ⟨_, rfl⟩
              have HCE := Lib.hid hc'
              clear hc'
              by_cases hpar : i % 2 = 0
              · have e1 : ((i : Int).tmod 2 == 0) = true := par_even hpar
                have HB := Lib.hid (show blindB s.player i cw = { cw with player := s.player } from if_pos (Or.inl hpar))
                go_upto_region 19 with fail
                obtain ⟨wz, hwz, hYz, hMz⟩ : ∃ wz, wy.setCell ⟨Y, 0, none⟩ (.int .i64 s.player) = wz ∧ Blk wz Y c'.cells 25 ∧ Mod (only Y) wy wz := ⟨_, rfl, (HY.out.set 0 _).cs (by rw [← HCE.out, HB.out]; rfl), (Mod.refl _ _).setCell (p := ⟨Y, 0, none⟩) (fun _ => only_self Y) _⟩
                rw [hwz]
                have HLz := Lib.hid (HL.out.put HYE.out HLy.out hMz); have HYz := Lib.hid hYz; have HWVz := HWV; have HLENz := HLEN
                clear hwz hYz hMz HLy HY y11 y0 fy s1
                have hbk := (Blk.new wz c'.cells 25).cs (ds := ccells [c']) (List.append_nil _).symm
                have HBKz := Lib.hid hbk
                clear hbk
                go_wp2_with (first | (refine wpList_load_blk rfl 25 (.tmp 14) rfl Y rfl 25 c'.cells _ HYz.out under_car rfl size_car ?_) | (refine wpList_build_car rfl (.tmp 74) rfl c' rfl ?_) | (refine wpList_append_c rfl (.tmp 73) (.tmp 75) rfl wb.heap.size _ _ rfl (HLz.out.keep ((Mod.refl _ _).alloc _)).c (some ⟨wz.heap.size, 0, Option.none⟩) [c'] 1 1 rfl rfl (CSrc.blk HBKz.out) (by have := HLENz.out; omega) (Nat.le_trans HLz.out.m.size (by simp)) ?_; intro vaz wcz hO hg; have HLcz := Lib.hid ((HLz.out.keep ((Mod.refl _ _).alloc _)).own1 hO hg); clear hO hg) |
                  (refine wpList_append_n rfl (.tmp 77) (.tmp 78) rfl wb.heap.size _ _ rfl (HLcz.out.keep ((Mod.refl _ _).alloc _)).n (-1) wcz.heap.size rfl (Blk.new wcz [.int .i64 (-1)] 3) (by have := HLENz.out; have := HWVz.out.len; omega) (Nat.le_trans HLcz.out.m.size (by simp)) ?_; intro vbz wnz hO hg; have HLnz := Lib.hid ((HLcz.out.keep ((Mod.refl _ _).alloc _)).own2 hO hg); clear hO hg))
                go_meet
                exact ⟨_, _, HLnz.out, HWVz.out.blind (fun s' hs' => by rw [← HCE.out]; exact blind_unseen hs'), fun c hc => by
                  rcases List.mem_append.1 hc with hc | hc
                  · exact HOK.out c hc
                  · rw [List.mem_singleton.1 hc, ← HCE.out]; exact blind_ok HS.out HWO.out, by rw [List.length_append]; have := HLENz.out; simp; omega⟩
              · have e1 : ((i : Int).tmod 2 == 0) = false := par_odd hpar
                by_cases hwt : cw.wait ≤ 0
                · have e2 : decide (cw.wait ≤ 0) = true := decide_eq_true hwt
                  have HB := Lib.hid (show blindB s.player i cw = { cw with player := s.player } from if_pos (Or.inr hwt))
                  go_upto_region 19 with fail
                  obtain ⟨wz, hwz, hYz, hMz⟩ : ∃ wz, wy.setCell ⟨Y, 0, none⟩ (.int .i64 s.player) = wz ∧ Blk wz Y c'.cells 25 ∧ Mod (only Y) wy wz := ⟨_, rfl, (HY.out.set 0 _).cs (by rw [← HCE.out, HB.out]; rfl), (Mod.refl _ _).setCell (p := ⟨Y, 0, none⟩) (fun _ => only_self Y) _⟩
                  rw [hwz]
                  have HLz := Lib.hid (HL.out.put HYE.out HLy.out hMz); have HYz := Lib.hid hYz; have HWVz := HWV; have HLENz := HLEN
                  clear hwz hYz hMz HLy HY y11 y0 fy s1
                  have hbk := (Blk.new wz c'.cells 25).cs (ds := ccells [c']) (List.append_nil _).symm
                  have HBKz := Lib.hid hbk
                  clear hbk
                  go_wp2_with (first | (refine wpList_load_blk rfl 25 (.tmp 14) rfl Y rfl 25 c'.cells _ HYz.out under_car rfl size_car ?_) | (refine wpList_build_car rfl (.tmp 74) rfl c' rfl ?_) | (refine wpList_append_c rfl (.tmp 73) (.tmp 75) rfl wb.heap.size _ _ rfl (HLz.out.keep ((Mod.refl _ _).alloc _)).c (some ⟨wz.heap.size, 0, Option.none⟩) [c'] 1 1 rfl rfl (CSrc.blk HBKz.out) (by have := HLENz.out; omega) (Nat.le_trans HLz.out.m.size (by simp)) ?_; intro vaz wcz hO hg; have HLcz := Lib.hid ((HLz.out.keep ((Mod.refl _ _).alloc _)).own1 hO hg); clear hO hg) |
                    (refine wpList_append_n rfl (.tmp 77) (.tmp 78) rfl wb.heap.size _ _ rfl (HLcz.out.keep ((Mod.refl _ _).alloc _)).n (-1) wcz.heap.size rfl (Blk.new wcz [.int .i64 (-1)] 3) (by have := HLENz.out; have := HWVz.out.len; omega) (Nat.le_trans HLcz.out.m.size (by simp)) ?_; intro vbz wnz hO hg; have HLnz := Lib.hid ((HLcz.out.keep ((Mod.refl _ _).alloc _)).own2 hO hg); clear hO hg))
                  go_meet
                  exact ⟨_, _, HLnz.out, HWVz.out.blind (fun s' hs' => by rw [← HCE.out]; exact blind_unseen hs'), fun c hc => by
                    rcases List.mem_append.1 hc with hc | hc
                    · exact HOK.out c hc
                    · rw [List.mem_singleton.1 hc, ← HCE.out]; exact blind_ok HS.out HWO.out, by rw [List.length_append]; have := HLENz.out; simp; omega⟩
                · have e2 : decide (cw.wait ≤ 0) = false := decide_eq_false hwt
                  have HB := Lib.hid (show blindB s.player i cw = cw from if_neg (fun h => h.elim hpar hwt))
                  go_upto_region 19 with fail
                  have HLz := HLy; have HYz := Lib.hid (HY.out.cs (show cw.cells = c'.cells by rw [← HCE.out, HB.out])); have HWVz := HWV; have HLENz := HLEN
                  clear HLy HY y11 y0 fy s1
                  have hbk := (Blk.new wy c'.cells 25).cs (ds := ccells [c']) (List.append_nil _).symm
                  have HBKz := Lib.hid hbk
                  clear hbk
                  go_wp2_with (first | (refine wpList_load_blk rfl 25 (.tmp 14) rfl Y rfl 25 c'.cells _ HYz.out under_car rfl size_car ?_) | (refine wpList_build_car rfl (.tmp 74) rfl c' rfl ?_) | (refine wpList_append_c rfl (.tmp 73) (.tmp 75) rfl wb.heap.size _ _ rfl (HLz.out.keep ((Mod.refl _ _).alloc _)).c (some ⟨wy.heap.size, 0, Option.none⟩) [c'] 1 1 rfl rfl (CSrc.blk HBKz.out) (by have := HLENz.out; omega) (Nat.le_trans HLz.out.m.size (by simp)) ?_; intro vaz wcz hO hg; have HLcz := Lib.hid ((HLz.out.keep ((Mod.refl _ _).alloc _)).own1 hO hg); clear hO hg) |
                    (refine wpList_append_n rfl (.tmp 77) (.tmp 78) rfl wb.heap.size _ _ rfl (HLcz.out.keep ((Mod.refl _ _).alloc _)).n (-1) wcz.heap.size rfl (Blk.new wcz [.int .i64 (-1)] 3) (by have := HLENz.out; have := HWVz.out.len; omega) (Nat.le_trans HLcz.out.m.size (by simp)) ?_; intro vbz wnz hO hg; have HLnz := Lib.hid ((HLcz.out.keep ((Mod.refl _ _).alloc _)).own2 hO hg); clear hO hg))
                  go_meet
                  exact ⟨_, _, HLnz.out, HWVz.out.blind (fun s' hs' => by rw [← HCE.out]; exact blind_unseen hs'), fun c hc => by
                    rcases List.mem_append.1 hc with hc | hc
                    · exact HOK.out c hc
                    · rw [List.mem_singleton.1 hc, ← HCE.out]; exact blind_ok HS.out HWO.out, by rw [List.length_append]; have := HLENz.out; simp; omega⟩
            case rest =>
              obtain ⟨M1, F1, hL1, hwv1, hok1, hlen1⟩ := hcut
              obtain ⟨wx0, rfl⟩ : ∃ q, q = wc := ⟨_, rfl⟩
              have HLx := Lib.hid hL1; have HWVx := Lib.hid hwv1; have HOKx := Lib.hid hok1; have HLENx := Lib.hid (show M1.length ≤ 2 * i + 1 ∧ i ≤ 2097152 from ⟨hlen1, by omega⟩)
              clear hL1 hwv1 hok1 hlen1 HL HWV HOK HLEN
              obtain ⟨ca, hca⟩ : ∃ c, C[i]? = some c := ⟨_, List.getElem?_eq_getElem (by have := HN.out; omega)⟩
              obtain ⟨db, doff, hsa, hdb, hdat⟩ := HC.out.row (by have := HN.out; omega)
              subst hsa
              have HRD := Lib.hid (rangeAt_mod (hdat i ca hca) (HV6.out.m.then (HWB.out ▸ HLx.out.m)) (fun h => h))
              have HCO := Lib.hid (HC.out.ok ca (List.mem_of_getElem? hca)); have HCA := Lib.hid hca
              clear hdat hca hdb
              have hin' : (i : Int) < (n : Int) := by omega
              have hbk := (Blk.new wx0 ca.cells 25).cs (ds := ccells [ca]) (List.append_nil _).symm
              have HBKx := Lib.hid hbk
              clear hbk
              go_wp2_with (first | (refine wpList_load_mid rfl 25 (.tmp 87) rfl db (doff + i * 14) rfl ca.cells _ HRD.out under_car rfl size_car ?_) | (refine wpList_build_car rfl (.tmp 88) rfl ca rfl ?_) | (refine wpList_append_c rfl (.tmp 84) (.tmp 89) rfl wb.heap.size _ _ rfl (HLx.out.keep ((Mod.refl _ _).alloc _)).c (some ⟨wx0.heap.size, 0, Option.none⟩) [ca] 1 1 rfl rfl (CSrc.blk HBKx.out) (by have := HLENx.out; omega) (Nat.le_trans HLx.out.m.size (by simp)) ?_; intro vax wcx hO hg; have HLcx := Lib.hid ((HLx.out.keep ((Mod.refl _ _).alloc _)).own1 hO hg); clear hO hg) |
                (refine wpList_append_n rfl (.tmp 91) (.tmp 93) rfl wb.heap.size _ _ rfl (HLcx.out.keep ((Mod.refl _ _).alloc _)).n (i : Int) wcx.heap.size rfl (Blk.new wcx [.int .i64 (i : Int)] 3) (by have := HLENx.out; have := HWVx.out.len; omega) (Nat.le_trans HLcx.out.m.size (by simp)) ?_; intro vbx wnx hO hg; have HLnx := Lib.hid ((HLcx.out.keep ((Mod.refl _ _).alloc _)).own2 hO hg); clear hO hg))
              go_roundw
              case rel =>
                refine ⟨i + 1, _, _, by go_num, by omega, by rw [List.length_append]; have := HLENx.out; simp; omega, HLnx.out, ?_, ?_⟩
                · have h1 : C.take (i + 1) = C.take i ++ [ca] := by rw [List.take_add_one, HCA.out]; rfl
                  have h2 : (C.take i).length = i := by rw [List.length_take]; have := HN.out; omega
                  have h3 := HWVx.out.car ca
                  rw [h2] at h3
                  rw [h1]
                  exact h3
                · intro c hc
                  rcases List.mem_append.1 hc with hc | hc
                  · exact HOKx.out c hc
                  · rw [List.mem_singleton.1 hc]; exact HCO.out
              case measure => simp [intOf]; omega
          · have d2 : ¬ (i : Int) < (m : Int) := by omega
            go_upto_if 57 with fail
            go_cut [11, 12] (fun v v12 wx => ∃ M F, BlL wb v v12 M F wx ∧ Wv s.player (C.take i) M F ∧ (∀ c ∈ M, c.Ok) ∧ M.length ≤ 2 * i + 1)
            case first =>
              go_wp2_with fail
              go_meet
              exact ⟨M, F, HL.out, HWV.out, HOK.out, by have := HLEN.out; omega⟩
            case rest =>
              obtain ⟨M1, F1, hL1, hwv1, hok1, hlen1⟩ := hcut
              obtain ⟨wx0, rfl⟩ : ∃ q, q = wc := ⟨_, rfl⟩
              have HLx := Lib.hid hL1; have HWVx := Lib.hid hwv1; have HOKx := Lib.hid hok1; have HLENx := Lib.hid (show M1.length ≤ 2 * i + 1 ∧ i ≤ 2097152 from ⟨hlen1, by omega⟩)
              clear hL1 hwv1 hok1 hlen1 HL HWV HOK HLEN
              obtain ⟨ca, hca⟩ : ∃ c, C[i]? = some c := ⟨_, List.getElem?_eq_getElem (by have := HN.out; omega)⟩
              obtain ⟨db, doff, hsa, hdb, hdat⟩ := HC.out.row (by have := HN.out; omega)
              subst hsa
              have HRD := Lib.hid (rangeAt_mod (hdat i ca hca) (HV6.out.m.then (HWB.out ▸ HLx.out.m)) (fun h => h))
              have HCO := Lib.hid (HC.out.ok ca (List.mem_of_getElem? hca)); have HCA := Lib.hid hca
              clear hdat hca hdb
              have hin' : (i : Int) < (n : Int) := by omega
              have hbk := (Blk.new wx0 ca.cells 25).cs (ds := ccells [ca]) (List.append_nil _).symm
              have HBKx := Lib.hid hbk
              clear hbk
              go_wp2_with (first | (refine wpList_load_mid rfl 25 (.tmp 87) rfl db (doff + i * 14) rfl ca.cells _ HRD.out under_car rfl size_car ?_) | (refine wpList_build_car rfl (.tmp 88) rfl ca rfl ?_) | (refine wpList_append_c rfl (.tmp 84) (.tmp 89) rfl wb.heap.size _ _ rfl (HLx.out.keep ((Mod.refl _ _).alloc _)).c (some ⟨wx0.heap.size, 0, Option.none⟩) [ca] 1 1 rfl rfl (CSrc.blk HBKx.out) (by have := HLENx.out; omega) (Nat.le_trans HLx.out.m.size (by simp)) ?_; intro vax wcx hO hg; have HLcx := Lib.hid ((HLx.out.keep ((Mod.refl _ _).alloc _)).own1 hO hg); clear hO hg) |
                (refine wpList_append_n rfl (.tmp 91) (.tmp 93) rfl wb.heap.size _ _ rfl (HLcx.out.keep ((Mod.refl _ _).alloc _)).n (i : Int) wcx.heap.size rfl (Blk.new wcx [.int .i64 (i : Int)] 3) (by have := HLENx.out; have := HWVx.out.len; omega) (Nat.le_trans HLcx.out.m.size (by simp)) ?_; intro vbx wnx hO hg; have HLnx := Lib.hid ((HLcx.out.keep ((Mod.refl _ _).alloc _)).own2 hO hg); clear hO hg))
              go_roundw
              case rel =>
                refine ⟨i + 1, _, _, by go_num, by omega, by rw [List.length_append]; have := HLENx.out; simp; omega, HLnx.out, ?_, ?_⟩
                · have h1 : C.take (i + 1) = C.take i ++ [ca] := by rw [List.take_add_one, HCA.out]; rfl
                  have h2 : (C.take i).length = i := by rw [List.length_take]; have := HN.out; omega
                  have h3 := HWVx.out.car ca
                  rw [h2] at h3
                  rw [h1]
                  exact h3
                · intro c hc
                  rcases List.mem_append.1 hc with hc | hc
                  · exact HOKx.out c hc
                  · rw [List.mem_singleton.1 hc]; exact HCO.out
              case measure => simp [intOf]; omega
        · have d1 : ¬ (i : Int) < (n : Int) := by omega
          by_cases him : i < m
          · have d2 : (i : Int) < (m : Int) := by omega
            obtain ⟨cw, hcw⟩ : ∃ c, Wk[i]? = some c := ⟨_, List.getElem?_eq_getElem (by have := HMm.out; omega)⟩
            obtain ⟨eb, eoff, hsb, heb, heat⟩ := HW.out.row (by have := HMm.out; omega)
            subst hsb
            have HRE := Lib.hid (rangeAt_mod (heat i cw hcw) (HV6.out.m.then (HWB.out ▸ HL.out.m)) (fun h => h))
            have HWO := Lib.hid (HW.out.ok cw (List.mem_of_getElem? hcw))
            clear heat hcw heb
            go_upto_if 57 with fail
            go_cut [11, 12] (fun v v12 wx => ∃ M F, BlL wb v v12 M F wx ∧ Wv s.player (C.take i) M F ∧ (∀ c ∈ M, c.Ok) ∧ M.length ≤ 2 * i + 1)
            case first =>
              go_upto_region 17 with (first | (refine wpList_load_mid rfl 25 (.tmp 60) rfl eb (eoff + i * 14) rfl cw.cells _ HRE.out under_car rfl size_car ?_) | (refine wpList_store_new rfl 25 (.tmp 14) (.tmp 61) rfl 25 _ cw.cells rfl rfl size_car rfl (one_car cw) ?_; intro wy hY hMy hsy))
              obtain ⟨Y, hYe⟩ : ∃ Y, wr.heap.size = Y := ⟨_, rfl⟩
              rw [hYe] at hY ⊢
              have HLy := Lib.hid (HL.out.keep hMy); have HY := Lib.hid hY; have HYE := Lib.hid hYe
              have HVy := Lib.hid (HV6.out.keep (HWB.out ▸ HLy.out.m))
              clear hY hMy hsy hYe HRE
              have y11 := HY.out.cell (j := 11) rfl; have y0 := HY.out.cell (j := 0) rfl; have fy := HY.out.frozen 0; have s1 := HVy.out.s.cell (j := 1) rfl
              obtain ⟨c', hc'⟩ : ∃ c', blindB s.player i cw = c' := ⟨_, rfl⟩
              have HCE := Lib.hid hc'
              clear hc'
              by_cases hpar : i % 2 = 0
              · have e1 : ((i : Int).tmod 2 == 0) = true := par_even hpar
                have HB := Lib.hid (show blindB s.player i cw = { cw with player := s.player } from if_pos (Or.inl hpar))
                go_upto_region 19 with fail
                obtain ⟨wz, hwz, hYz, hMz⟩ : ∃ wz, wy.setCell ⟨Y, 0, none⟩ (.int .i64 s.player) = wz ∧ Blk wz Y c'.cells 25 ∧ Mod (only Y) wy wz := ⟨_, rfl, (HY.out.set 0 _).cs (by rw [← HCE.out, HB.out]; rfl), (Mod.refl _ _).setCell (p := ⟨Y, 0, none⟩) (fun _ => only_self Y) _⟩
                rw [hwz]
                have HLz := Lib.hid (HL.out.put HYE.out HLy.out hMz); have HYz := Lib.hid hYz; have HWVz := HWV; have HLENz := HLEN
                clear hwz hYz hMz HLy HY y11 y0 fy s1
                have hbk := (Blk.new wz c'.cells 25).cs (ds := ccells [c']) (List.append_nil _).symm
                have HBKz := Lib.hid hbk
                clear hbk
                go_wp2_with (first | (refine wpList_load_blk rfl 25 (.tmp 14) rfl Y rfl 25 c'.cells _ HYz.out under_car rfl size_car ?_) | (refine wpList_build_car rfl (.tmp 74) rfl c' rfl ?_) | (refine wpList_append_c rfl (.tmp 73) (.tmp 75) rfl wb.heap.size _ _ rfl (HLz.out.keep ((Mod.refl _ _).alloc _)).c (some ⟨wz.heap.size, 0, Option.none⟩) [c'] 1 1 rfl rfl (CSrc.blk HBKz.out) (by have := HLENz.out; omega) (Nat.le_trans HLz.out.m.size (by simp)) ?_; intro vaz wcz hO hg; have HLcz := Lib.hid ((HLz.out.keep ((Mod.refl _ _).alloc _)).own1 hO hg); clear hO hg) |
                  (refine wpList_append_n rfl (.tmp 77) (.tmp 78) rfl wb.heap.size _ _ rfl (HLcz.out.keep ((Mod.refl _ _).alloc _)).n (-1) wcz.heap.size rfl (Blk.new wcz [.int .i64 (-1)] 3) (by have := HLENz.out; have := HWVz.out.len; omega) (Nat.le_trans HLcz.out.m.size (by simp)) ?_; intro vbz wnz hO hg; have HLnz := Lib.hid ((HLcz.out.keep ((Mod.refl _ _).alloc _)).own2 hO hg); clear hO hg))
                go_meet
                exact ⟨_, _, HLnz.out, HWVz.out.blind (fun s' hs' => by rw [← HCE.out]; exact blind_unseen hs'), fun c hc => by
                  rcases List.mem_append.1 hc with hc | hc
                  · exact HOK.out c hc
                  · rw [List.mem_singleton.1 hc, ← HCE.out]; exact blind_ok HS.out HWO.out, by rw [List.length_append]; have := HLENz.out; simp; omega⟩
              · have e1 : ((i : Int).tmod 2 == 0) = false := par_odd hpar
                by_cases hwt : cw.wait ≤ 0
                · have e2 : decide (cw.wait ≤ 0) = true := decide_eq_true hwt
                  have HB := Lib.hid (show blindB s.player i cw = { cw with player := s.player } from if_pos (Or.inr hwt))
                  go_upto_region 19 with fail
                  obtain ⟨wz, hwz, hYz, hMz⟩ : ∃ wz, wy.setCell ⟨Y, 0, none⟩ (.int .i64 s.player) = wz ∧ Blk wz Y c'.cells 25 ∧ Mod (only Y) wy wz := ⟨_, rfl, (HY.out.set 0 _).cs (by rw [← HCE.out, HB.out]; rfl), (Mod.refl _ _).setCell (p := ⟨Y, 0, none⟩) (fun _ => only_self Y) _⟩
                  rw [hwz]
                  have HLz := Lib.hid (HL.out.put HYE.out HLy.out hMz); have HYz := Lib.hid hYz; have HWVz := HWV; have HLENz := HLEN
                  clear hwz hYz hMz HLy HY y11 y0 fy s1
                  have hbk := (Blk.new wz c'.cells 25).cs (ds := ccells [c']) (List.append_nil _).symm
                  have HBKz := Lib.hid hbk
                  clear hbk
                  go_wp2_with (first | (refine wpList_load_blk rfl 25 (.tmp 14) rfl Y rfl 25 c'.cells _ HYz.out under_car rfl size_car ?_) | (refine wpList_build_car rfl (.tmp 74) rfl c' rfl ?_) | (refine wpList_append_c rfl (.tmp 73) (.tmp 75) rfl wb.heap.size _ _ rfl (HLz.out.keep ((Mod.refl _ _).alloc _)).c (some ⟨wz.heap.size, 0, Option.none⟩) [c'] 1 1 rfl rfl (CSrc.blk HBKz.out) (by have := HLENz.out; omega) (Nat.le_trans HLz.out.m.size (by simp)) ?_; intro vaz wcz hO hg; have HLcz := Lib.hid ((HLz.out.keep ((Mod.refl _ _).alloc _)).own1 hO hg); clear hO hg) |
                    (refine wpList_append_n rfl (.tmp 77) (.tmp 78) rfl wb.heap.size _ _ rfl (HLcz.out.keep ((Mod.refl _ _).alloc _)).n (-1) wcz.heap.size rfl (Blk.new wcz [.int .i64 (-1)] 3) (by have := HLENz.out; have := HWVz.out.len; omega) (Nat.le_trans HLcz.out.m.size (by simp)) ?_; intro vbz wnz hO hg; have HLnz := Lib.hid ((HLcz.out.keep ((Mod.refl _ _).alloc _)).own2 hO hg); clear hO hg))
                  go_meet
                  exact ⟨_, _, HLnz.out, HWVz.out.blind (fun s' hs' => by rw [← HCE.out]; exact blind_unseen hs'), fun c hc => by
                    rcases List.mem_append.1 hc with hc | hc
                    · exact HOK.out c hc
                    · rw [List.mem_singleton.1 hc, ← HCE.out]; exact blind_ok HS.out HWO.out, by rw [List.length_append]; have := HLENz.out; simp; omega⟩
                · have e2 : decide (cw.wait ≤ 0) = false := decide_eq_false hwt
                  have HB := Lib.hid (show blindB s.player i cw = cw from if_neg (fun h => h.elim hpar hwt))
                  go_upto_region 19 with fail
                  have HLz := HLy; have HYz := Lib.hid (HY.out.cs (show cw.cells = c'.cells by rw [← HCE.out, HB.out])); have HWVz := HWV; have HLENz := HLEN
                  clear HLy HY y11 y0 fy s1
                  have hbk := (Blk.new wy c'.cells 25).cs (ds := ccells [c']) (List.append_nil _).symm
                  have HBKz := Lib.hid hbk
                  clear hbk
                  go_wp2_with (first | (refine wpList_load_blk rfl 25 (.tmp 14) rfl Y rfl 25 c'.cells _ HYz.out under_car rfl size_car ?_) | (refine wpList_build_car rfl (.tmp 74) rfl c' rfl ?_) | (refine wpList_append_c rfl (.tmp 73) (.tmp 75) rfl wb.heap.size _ _ rfl (HLz.out.keep ((Mod.refl _ _).alloc _)).c (some ⟨wy.heap.size, 0, Option.none⟩) [c'] 1 1 rfl rfl (CSrc.blk HBKz.out) (by have := HLENz.out; omega) (Nat.le_trans HLz.out.m.size (by simp)) ?_; intro vaz wcz hO hg; have HLcz := Lib.hid ((HLz.out.keep ((Mod.refl _ _).alloc _)).own1 hO hg); clear hO hg) |
                    (refine wpList_append_n rfl (.tmp 77) (.tmp 78) rfl wb.heap.size _ _ rfl (HLcz.out.keep ((Mod.refl _ _).alloc _)).n (-1) wcz.heap.size rfl (Blk.new wcz [.int .i64 (-1)] 3) (by have := HLENz.out; have := HWVz.out.len; omega) (Nat.le_trans HLcz.out.m.size (by simp)) ?_; intro vbz wnz hO hg; have HLnz := Lib.hid ((HLcz.out.keep ((Mod.refl _ _).alloc _)).own2 hO hg); clear hO hg))
                  go_meet
                  exact ⟨_, _, HLnz.out, HWVz.out.blind (fun s' hs' => by rw [← HCE.out]; exact blind_unseen hs'), fun c hc => by
                    rcases List.mem_append.1 hc with hc | hc
                    · exact HOK.out c hc
                    · rw [List.mem_singleton.1 hc, ← HCE.out]; exact blind_ok HS.out HWO.out, by rw [List.length_append]; have := HLENz.out; simp; omega⟩
            case rest =>
              obtain ⟨M1, F1, hL1, hwv1, hok1, hlen1⟩ := hcut
              obtain ⟨wx0, rfl⟩ : ∃ q, q = wc := ⟨_, rfl⟩
              have HLx := Lib.hid hL1; have HWVx := Lib.hid hwv1; have HOKx := Lib.hid hok1; have HLENx := Lib.hid (show M1.length ≤ 2 * i + 1 ∧ i ≤ 2097152 from ⟨hlen1, by omega⟩)
              clear hL1 hwv1 hok1 hlen1 HL HWV HOK HLEN
              have hin' : ¬ (i : Int) < (n : Int) := by omega
              go_wp2_with fail
              go_roundw
              case rel =>
                refine ⟨i + 1, _, _, by go_num, by omega, by have := HLENx.out; omega, HLx.out, ?_, HOKx.out⟩
                have h1 : C.take (i + 1) = C.take i := by rw [List.take_of_length_le (by have := HN.out; omega), List.take_of_length_le (by have := HN.out; omega)]
                rw [h1]
                exact HWVx.out
              case measure => simp [intOf]; omega
          · have d2 : ¬ (i : Int) < (m : Int) := by omega
            go_wp2_with fail
            go_meet
            have h1 : C.take i = C := List.take_of_length_le (by have := HN.out; omega)
            have hwv := HWV.out
            rw [h1] at hwv
            exact ⟨M, F, HL.out, hwv, HOK.out, by have := HLEN.out; omega⟩
    case rest =>
      obtain ⟨M, F, hL, hwv, hok, hlen⟩ := hcut
      obtain ⟨w7, rfl⟩ : ∃ q, q = wc := ⟨_, rfl⟩
      obtain ⟨s1, cap1, rfl, hcr⟩ := hL.c.crs hok
      obtain ⟨s2, cap2, rfl, hat⟩ := hL.n.at
      have hwl := hwv.len
      obtain ⟨y, h', on', hR2⟩ : ∃ x h on, flight W H E M 4 s = (x, h, on) := ⟨_, _, _, rfl⟩
      obtain ⟨hf1, hf2, hf3⟩ := flight_weave (W := W) (H := H) (E := E) hwv 4 s rfl
      rw [hR2, HR.out] at hf1 hf2 hf3
      simp only at hf1 hf2 hf3
      subst hf1
      subst hf2
      have HV7 := Lib.hid (HV6.out.keep (HWB.out ▸ hL.m))
      have hmv := fun (q : World) (hb : BrdP q b W H E) (hc : Crs q q.heap.size s1 M) => move_any q hb s1 M.length cap1 M rfl (by omega) hc s HS.out
      simp only [hR2] at hmv
      unfold Sh.agg at hmv
      have HMV := Lib.hid hmv; have HCR := Lib.hid hcr; have HN2 := Lib.hid hL.n
      have HWLEN := Lib.hid hwl
      clear hmv hcr hR2 HR HV6 hL hok hlen hat hwv hwl
      go_upto_region 25 with (first | (refine wpList_load_blk rfl 28 (.tmp 4) rfl S rfl 28 s.cells _ HV7.out.s under_shot rfl size_shot ?_) | (go_at_call 22; refine (HMV.out _ HV7.out.b HCR.out).mono ?_; rintro r w8 ⟨rfl, hM⟩; have HV8 := Lib.hid (HV7.out.keep hM); have HN8 := Lib.hid (HN2.out.mod hM (fun _ _ h => h)); clear hM) | (refine wpList_store_new rfl 28 (.tmp 15) (.tmp 100) rfl 28 _ y.cells rfl rfl size_shot rfl (one_shot y) ?_; intro w9 hY hM9 hs9))
      obtain ⟨Y, hYe⟩ : ∃ Y, w8.heap.size = Y := ⟨_, rfl⟩
      rw [hYe] at hY ⊢
      have HV9 := Lib.hid (HV8.out.keep hM9); have HN9 := Lib.hid (HN8.out.mod hM9 (fun _ _ h => h)); have HY9 := Lib.hid hY
      clear hY hM9 hs9 hYe HV7 HN2 HCR HMV HV8 HN8
      have hne := fun q : World => neSh q y y
      rw [Sh.beq_self] at hne
      simp only [Sh.agg, Bool.not_true] at hne
      have e2 : (on' != on') = false := by simp
      rcases hf3 with ⟨rfl, rfl⟩ | ⟨a, j, rfl, hF, rfl⟩
      · go_wp2_with (first | (refine wpList_load_blk rfl 28 (.tmp 8) rfl X rfl 28 y.cells _ HV9.out.x under_shot rfl size_shot ?_) | (refine wpList_load_blk rfl 28 (.tmp 15) rfl Y rfl 28 y.cells _ HY9.out under_shot rfl size_shot ?_))
        go_ret
        exact ⟨rfl, HV9.out.m⟩
      · have ha := (List.getElem?_eq_some_iff.1 hF).1
        have e3 : ¬ (a : Int) < 0 := by omega
        have e4 : ¬ (j : Int) < 0 := by omega
        have e5 : (a : Int) < (F.length : Int) := by omega
        obtain ⟨s3, cap3, hs3, hat⟩ := HN9.out.at
        obtain ⟨g, hg, hcell⟩ := hat (by omega)
        injection hs3 with hs3 _ _
        subst hs3
        subst hg
        have hc := hcell a _ hF
        have e6 : ((j : Int) == (j : Int)) = true := by simp
        clear hat hcell hF
        go_wp2_with (first | (refine wpList_load_blk rfl 28 (.tmp 8) rfl X rfl 28 y.cells _ HV9.out.x under_shot rfl size_shot ?_) | (refine wpList_load_blk rfl 28 (.tmp 15) rfl Y rfl 28 y.cells _ HY9.out under_shot rfl size_shot ?_))
        go_ret
        exact ⟨rfl, HV9.out.m⟩
end Go.Proofs.YtinjlkceplhibaaDoor
