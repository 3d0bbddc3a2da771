/- ShotFlies: the plain facts and the walk. -/
import Derived.Test.YtinjlkceplhibaaDoorShG
import Derived.Test.YtinjlkceplhibaaDoorShE
namespace Go.Proofs.YtinjlkceplhibaaDoor
open Go.RowKit

theorem firstHit_lt (s : Sh) : ∀ (L : List Cr) (i k : Nat), firstHit s i L = some k → i ≤ k ∧ k < i + L.length := by
  intro L
  induction L with
  | nil => intro i k h; simp [firstHit] at h
  | cons c r ih =>
    intro i k h
    rw [firstHit] at h
    split at h
    · injection h with h
      subst h
      simp
    · have := ih (i + 1) k h
      simp
      omega
/-- what a flight leaves as it was, and what it tells -/
theorem flight_keeps (W H : Nat) (E : List Int) (L : List Cr) (s : Sh) : ∀ (k : Nat) (a b : Int), ∃ (xa xb xl h : Int) (on : Bool), flight W H E L k { s with ax := a, ay := b } = ({ s with ax := xa, ay := xb, left := xl }, h, on) ∧ -1 ≤ h ∧ h < (L.length : Int) ∧ (on = true → h = -1) := by
  intro k
  induction k with
  | zero => exact fun a b => ⟨a, b, _, -1, _, rfl, by omega, by omega, fun _ => rfl⟩
  | succ k ih =>
    intro a b
    have hst : ({ s with ax := a, ay := b } : Sh).step = { s with ax := Vx.lim (a + s.sx / 4), ay := Vx.lim (b + s.sy / 4) } := rfl
    rw [flight, hst]
    split
    · exact ⟨_, _, s.left, -1, false, rfl, by omega, by omega, fun h => by cases h⟩
    · split
      · rename_i i hi
        have := firstHit_lt _ _ _ _ hi
        exact ⟨_, _, s.left, (i : Int), false, rfl, by omega, by omega, fun h => by cases h⟩
      · exact ih _ _
/-- what the law's memory holds -/
structure FlS (Z X V : Nat) (s x : Sh) (w0 q : World) : Prop where
  bs : Blk q Z s.cells 28
  bx : Blk q X x.cells 28
  bv : Blk q V [.int .i64 (s.sx / 4), .int .i64 (s.sy / 4)] 23
  m : Mod none_ w0 q
theorem FlS.keep {Z X V : Nat} {s x : Sh} {w0 q q' : World} (h : FlS Z X V s x w0 q) (hM : Mod none_ q q') : FlS Z X V s x w0 q' := ⟨hM.blk h.bs (fun h => h), hM.blk h.bx (fun h => h), hM.blk h.bv (fun h => h), h.m.then hM⟩
theorem FlS.put {Z X V A j : Nat} {s x : Sh} {w0 q : World} (h : FlS Z X V s x w0 q) (u : Value) (hn : A ≠ Z ∧ A ≠ X ∧ A ≠ V ∧ w0.heap.size ≤ A) : FlS Z X V s x w0 (q.setCell ⟨A, j, none⟩ u) :=
  ⟨h.bs.set_other (fun e => hn.1 e.symm) _, h.bx.set_other (fun e => hn.2.1 e.symm) _, h.bv.set_other (fun e => hn.2.2.1 e.symm) _, h.m.setCell (p := ⟨A, j, Option.none⟩) (fun h => by have : A < w0.heap.size := h; omega) _⟩
theorem one_vec (a b : Int) : ∀ v ∈ [Value.int .i64 a, .int .i64 b], v.oneCell' = true := by simp [Value.oneCell']
set_option maxHeartbeats 8000000 in
set_option maxRecDepth 100000 in
theorem shotFlies_any (w : World) (hG : Sines w) (text : ByteArray) (htx : text.size ≤ 9223372036854775807) (sa : Option Addr) (n cp : Nat) (L : List Cr) (hn : L.length = n) (hn2 : n ≤ 9223372036854775807) (hL : Crs w w.heap.size sa L) (s : Sh) (hs : s.Ok) :
    Calls Tryd.prog 6 #[.string text, .slice sa n cp, s.agg] w fun e w' => e = .returned (.bool true) ∧ Mod none_ w w' := by
  have ha := fun (q : World) (h : Sines q) => alive16_any q h
  have hp := fun (q : World) => parse_any q text htx
  have HA := Lib.hid ha; have HG := Lib.hid hG; have HP := Lib.hid hp; have HL := Lib.hid hL; have HN := Lib.hid hn; have HS := Lib.hid hs
  clear ha hp hG hL hn hs htx
  unfold Sh.agg
  go_enter Tryd.func6, Tryd.ntmps6
  go_upto_region 1 with fail
  obtain ⟨w1, hw1, hB1, hM1⟩ : ∃ w1, w.alloc (.cells s.cells.toArray 28) = w1 ∧ Blk w1 w.heap.size s.cells 28 ∧ Mod none_ w w1 := ⟨_, rfl, Blk.new w s.cells _, (Mod.refl none_ w).alloc _⟩
  rw [hw1]
  obtain ⟨Z, hZ⟩ : ∃ Z, w.heap.size = Z := ⟨_, rfl⟩
  rw [hZ] at hB1 ⊢
  have HB1 := Lib.hid hB1; have HM1 := Lib.hid hM1; have HZ := Lib.hid hZ
  clear hB1 hM1 hw1 hZ
  go_upto_region 3 with (go_at_call 15; refine (HA.out _ (HG.out.mod HM1.out)).mono ?_; rintro r w2 ⟨rfl, hM⟩; have HM2 := Lib.hid (HM1.out.then hM); have HB2 := Lib.hid (hM.blk HB1.out (fun h => h)); clear hM)
  clear HB1 HM1
  cases hrd : Bd.read (Bd.runes text) with
  | bad =>
    go_wp2_with (go_at_call 18; refine (HP.out _).mono ?_; rintro r w3 ⟨hpp, hM⟩; rw [hrd] at hpp; obtain rfl := hpp; have HM3 := Lib.hid (HM2.out.then hM); clear hM)
    go_ret
    exact ⟨rfl, HM3.out⟩
  | place =>
    go_wp2_with (go_at_call 18; refine (HP.out _).mono ?_; rintro r w3 ⟨hpp, hM⟩; rw [hrd] at hpp; obtain rfl := hpp; have HM3 := Lib.hid (HM2.out.then hM); clear hM)
    go_ret
    exact ⟨rfl, HM3.out⟩
  | board W H E =>
    obtain ⟨xa, xb, xl, h, on, hR, h1, h2, h3⟩ := flight_keeps W H E L s 4 s.ax s.ay
    have hmv := fun (q : World) (b : Nat) (hb : BrdP q b W H E) (hM : Mod none_ w q) => move_any q hb sa n cp L HN.out hn2 ⟨((HL.out.mod hM (fun _ _ h => h)).row · |>.imp fun b h => h.imp fun off h => ⟨h.1, by have := h.2.1; have := hM.size; omega, h.2.2⟩), HL.out.ok⟩ s HS.out
    have hR' : flight W H E L 4 s = ({ s with ax := xa, ay := xb, left := xl }, h, on) := hR
    simp only [hR'] at hmv
    unfold Sh.agg at hmv
    obtain ⟨x, hx⟩ : ∃ x : Sh, { s with ax := xa, ay := xb, left := xl } = x := ⟨_, rfl⟩
    simp only [hx] at hmv
    have HMV := Lib.hid hmv; have HR := Lib.hid hR
    clear hmv hR hR'
    go_upto_if 25 with (go_at_call 18; refine (HP.out _).mono ?_; rintro r w3 ⟨hpp, hM⟩; rw [hrd] at hpp; obtain ⟨b, rfl, hbb, hB⟩ := hpp; have HM3 := Lib.hid (HM2.out.then hM); have HB3 := Lib.hid (hM.blk HB2.out (fun h => h)); have HBD := Lib.hid hB; clear hM hbb hB)
    clear HB2 HM2 hrd HP HA HG
    go_upto_region 7 with (first | (refine wpList_load_blk rfl 28 (.tmp 5) rfl Z rfl 28 s.cells _ HB3.out under_shot rfl size_shot ?_) | (go_at_call 22; refine (HMV.out _ b HBD.out HM3.out).mono ?_; rintro r w4 ⟨rfl, hM⟩; have HB4 := Lib.hid (hM.blk HB3.out (fun h => h)); have HBD4 := Lib.hid (HBD.out.none hM); have HM4 := Lib.hid (HM3.out.then hM); clear hM) | (refine wpList_store_new rfl 28 (.tmp 9) (.tmp 31) rfl 28 _ x.cells rfl rfl size_shot rfl (one_shot x) ?_; intro w5 hX hM5 hs5))
    obtain ⟨X, hXe⟩ : ∃ X, w4.heap.size = X := ⟨_, rfl⟩
    rw [hXe] at hX ⊢
    have HX5 := Lib.hid hX; have HB5 := Lib.hid (hM5.blk HB4.out (fun h => h)); have HBD5 := Lib.hid (HBD4.out.none hM5); have HM5 := Lib.hid (HM4.out.then hM5)
    clear hX hM5 hs5 hXe HB3 HBD HM3 HB4 HBD4 HM4 HMV
    have xc := fun (q : World) (hb : Blk q X x.cells 28) => (by rw [← hx] at hb; exact hb : Blk q X [.int .i64 s.id, .int .i64 s.player, .int .i64 xa, .int .i64 xb, .int .i64 s.sx, .int .i64 s.sy, .int .i64 xl] 28)
    have XC := Lib.hid xc
    clear xc
    obtain ⟨wo, rfl⟩ : ∃ wo : World, wo = w5 := ⟨_, rfl⟩
    go_cut [69] (fun v wx => v = .bool false ∧ wx = wo)
    case first =>
      have z0 := HB5.out.cell (j := 0) rfl; have z1 := HB5.out.cell (j := 1) rfl; have z4 := HB5.out.cell (j := 4) rfl; have z5 := HB5.out.cell (j := 5) rfl
      have hxx := XC.out _ HX5.out
      have x0 := hxx.cell (j := 0) rfl; have x1 := hxx.cell (j := 1) rfl; have x4 := hxx.cell (j := 4) rfl; have x5 := hxx.cell (j := 5) rfl
      have e0 : (s.id != s.id) = false := by simp
      have e1 : (s.player != s.player) = false := by simp
      have nv := fun q : World => neV q s.sx s.sy s.sx s.sy
      simp only [beq_self_eq_true, Bool.and_self, Bool.not_true] at nv
      have e2 : decide (h < -1) = false := decide_eq_false (by omega)
      have hnn := HN.out
      have e3 : decide ((n : Int) ≤ h) = false := decide_eq_false (by omega)
      have e4 : ¬ h < -1 := by omega
      have e5 : ¬ (n : Int) ≤ h := by omega
      clear hxx
      cases on with
      | true =>
        have hh := h3 rfl
        subst hh
        go_wp2_with fail
        go_meet
        exact ⟨rfl, rfl⟩
      | false =>
        go_wp2_with fail
        go_meet
        exact ⟨rfl, rfl⟩
    case rest =>
      obtain ⟨rfl, hwc⟩ := hcut
      replace hwc := hwc.symm
      subst hwc
      clear h1 h2 h3
      have p2 := HB5.out.cell (j := 2) rfl; have p3 := HB5.out.cell (j := 3) rfl; have p4 := HB5.out.cell (j := 4) rfl; have p5 := HB5.out.cell (j := 5) rfl
      go_upto_region 10 with (refine wpList_store_new rfl 23 (.tmp 12) (.tmp 71) rfl 23 _ [.int .i64 s.ax, .int .i64 s.ay] rfl rfl size_vec2 rfl (one_vec _ _) ?_; intro w6 hA hM6 hs6)
      obtain ⟨A, hAe⟩ : ∃ A, wo.heap.size = A := ⟨_, rfl⟩
      rw [hAe] at hA ⊢
      have HA6 := Lib.hid hA
      have HZ6 := Lib.hid (hM6.blk HB5.out (fun h => h)); have HX6 := Lib.hid (hM6.blk HX5.out (fun h => h)); have HM6 := Lib.hid hM6
      clear p2 p3 p4 p5 hA hM6
      have p4 := HZ6.out.cell (j := 4) rfl; have p5 := HZ6.out.cell (j := 5) rfl
      go_upto_region 11 with (refine wpList_store_new rfl 23 (.tmp 13) (.tmp 80) rfl 23 _ [.int .i64 (s.sx / 4), .int .i64 (s.sy / 4)] rfl rfl size_vec2 rfl (one_vec _ _) ?_; intro w7 hV hM7 hs7)
      obtain ⟨V, hVe⟩ : ∃ V, w6.heap.size = V := ⟨_, rfl⟩
      rw [hVe] at hV ⊢
      have hF7 : FlS Z X V s x wo w7 := ⟨hM7.blk HZ6.out (fun h => h), hM7.blk HX6.out (fun h => h), hV, HM6.out.then hM7⟩
      have HF7 := Lib.hid hF7; have HA7 := Lib.hid (hM7.blk HA6.out (fun h => h))
      have hl1 := HB5.out.lt; have hl2 := HX5.out.lt; have hl3 := HA6.out.lt
      have HNE := Lib.hid (show A ≠ Z ∧ A ≠ X ∧ A ≠ V ∧ wo.heap.size ≤ A by omega)
      clear p4 p5 hV hM7 hs7 hs6 hF7 hl1 hl2 hl3 hAe hVe HA6 HZ6 HX6 HM6 HB5 HX5
      have HSB := Lib.hid (show Bd.I64 (s.sx / 4) ∧ Bd.I64 (s.sy / 4) from by have h4 := HS.out.sx; have h5 := HS.out.sy; unfold Bd.I64 at h4 h5 ⊢; omega)
      go_wp2_with fail
      go_loopw [14] (fun u wr => ∃ (k : Nat) (ta tb : Int), u = .int .i64 k ∧ k ≤ 4 ∧ Bd.I64 ta ∧ Bd.I64 tb ∧ Blk wr A [.int .i64 ta, .int .i64 tb] 23 ∧ FlS Z X V s x wo wr ∧ flight W H E L (4 - k) { s with ax := ta, ay := tb } = ({ s with ax := xa, ay := xb, left := xl }, h, on)) (fun u _ => 4 - (intOf u).toNat)
      case atStart => exact ⟨0, s.ax, s.ay, rfl, by omega, HS.out.ax, HS.out.ay, HA7.out, HF7.out, HR.out⟩
      case round =>
        obtain ⟨k, ta, tb, rfl, hk, hta, htb, hA, hF, hfl⟩ := hrel
        have HA6 := Lib.hid hA; have HF6 := Lib.hid hF; have HFL := Lib.hid hfl
        clear hA hF hfl HA7 HF7 HR
        by_cases hk4 : k < 4
        · have hk4' : (k : Int) < 4 := by omega
          obtain ⟨j, hj⟩ : ∃ j, 4 - k = j + 1 := ⟨3 - k, by omega⟩
          have hj2 : j = 4 - (k + 1) := by omega
          have hfl := HFL.out
          rw [hj] at hfl
          have had := fun q : World => vadd_any q ta tb (s.sx / 4) (s.sy / 4) hta htb HSB.out.1 HSB.out.2
          have hst : ({ s with ax := ta, ay := tb } : Sh).step = { s with ax := Vx.lim (ta + s.sx / 4), ay := Vx.lim (tb + s.sy / 4) } := rfl
          have hr1 : Bd.I64 (Vx.lim (ta + s.sx / 4)) := by have := Vx.lim_in (ta + s.sx / 4); unfold Bd.I64; omega
          have hr2 : Bd.I64 (Vx.lim (tb + s.sy / 4)) := by have := Vx.lim_in (tb + s.sy / 4); unfold Bd.I64; omega
          generalize Vx.lim (ta + s.sx / 4) = RX at *
          generalize Vx.lim (tb + s.sy / 4) = RY at *
          have hfw : Bd.atOf W H E RX RY = 35 → (({ s with ax := RX, ay := RY } : Sh), (-1 : Int), false) = ({ s with ax := xa, ay := xb, left := xl }, h, on) := fun hh => by rw [← hfl, flight_wall (by rw [hst]; exact hh), hst]
          have hfo : ¬ Bd.atOf W H E RX RY = 35 → goOn W H E L j 0 { s with ax := RX, ay := RY } = ({ s with ax := xa, ay := xb, left := xl }, h, on) := fun hh => by rw [← hfl, flight_on (by rw [hst]; exact hh), hst]
          have HFW := Lib.hid hfw; have HFO := Lib.hid hfo; have HAD := Lib.hid had; have HJ := Lib.hid hj2
          clear hfl hst hfw hfo had hj hj2 HFL
          have a0 := HA6.out.cell (j := 0) rfl; have a1 := HA6.out.cell (j := 1) rfl; have v0 := HF6.out.bv.cell (j := 0) rfl; have v1 := HF6.out.bv.cell (j := 1) rfl
          go_upto_region 15 with (go_at_call 26; refine (HAD.out _).mono ?_; rintro r w8 ⟨rfl, hM⟩; have HF8 := Lib.hid (HF6.out.keep hM); have hA8 := hM.blk HA6.out (fun h => h); have r0 := hA8.cell (j := 0) rfl; have r1 := hA8.cell (j := 1) rfl; have g0 := hA8.frozen 0; have g1 := hA8.frozen 1; have HA8 := Lib.hid hA8; clear hA8 hM)
          obtain ⟨w9, hw9, hA9, hF9⟩ : ∃ w9, ((w8.setCell ⟨A, 0, none⟩ (.int .i64 RX)).setCell ⟨A, 1, none⟩ (.int .i64 RY)) = w9 ∧ Blk w9 A [.int .i64 RX, .int .i64 RY] 23 ∧ FlS Z X V s x wo w9 :=
            ⟨_, rfl, ((HA8.out.set 0 _).set 1 _).cs rfl, (HF8.out.put _ HNE.out).put _ HNE.out⟩
          rw [hw9]
          have HA9 := Lib.hid hA9; have HF9 := Lib.hid hF9
          clear a0 a1 v0 v1 r0 r1 g0 g1 hw9 hA9 hF9 HA8 HF8 HA6 HF6
          have a0 := HA9.out.cell (j := 0) rfl; have a1 := HA9.out.cell (j := 1) rfl
          go_upto_if 90 with (go_at_call 28; refine (solid_any _ (HBD5.out.none HF9.out.m) RX RY hr1 hr2).mono ?_; rintro r w10 ⟨rfl, hM⟩; have HF6 := Lib.hid (HF9.out.keep hM); have HA6 := Lib.hid (hM.blk HA9.out (fun h => h)); clear hM)
          clear a0 a1 HA9 HF9
          by_cases hsol : Bd.atOf W H E RX RY = 35
          · have hee := HFW.out hsol
            have hd : decide (Bd.atOf W H E RX RY = 35) = true := decide_eq_true hsol
            rw [hd]
            clear HFW HFO hsol hd
            have hxa : xa = RX := (congrArg (fun r : Sh × Int × Bool => r.1.ax) hee).symm
            have hxb : xb = RY := (congrArg (fun r : Sh × Int × Bool => r.1.ay) hee).symm
            have hxl : xl = s.left := (congrArg (fun r : Sh × Int × Bool => r.1.left) hee).symm
            have hh : h = -1 := (congrArg (fun r : Sh × Int × Bool => r.2.1) hee).symm
            have hon : on = false := (congrArg (fun r : Sh × Int × Bool => r.2.2) hee).symm
            have hxx := XC.out _ HF6.out.bx
            have x2 := hxx.cell (j := 2) rfl; have x3 := hxx.cell (j := 3) rfl; have x6 := hxx.cell (j := 6) rfl
            rw [hxa] at x2
            rw [hxb] at x3
            rw [hxl] at x6
            rw [hh, hon]
            have z6 := HF6.out.bs.cell (j := 6) rfl
            have a0 := HA6.out.cell (j := 0) rfl; have a1 := HA6.out.cell (j := 1) rfl
            have ev := fun q : World => eqV q RX RY RX RY
            simp only [beq_self_eq_true, Bool.and_self] at ev
            have el : (s.left == s.left) = true := by simp
            clear hxx hxa hxb hxl hh hon hee
            go_wp2_with fail
            go_ret
            exact ⟨rfl, HM5.out.then HF6.out.m⟩
          · have HGO0 := Lib.hid (HFO.out hsol)
            have hd : decide (Bd.atOf W H E RX RY = 35) = false := decide_eq_false hsol
            rw [hd]
            clear HFW HFO hsol hd
            go_wp2_with fail
            go_loopw [15] (fun v wr => ∃ i : Nat, v = .int .i64 i ∧ i ≤ n ∧ Blk wr A [.int .i64 RX, .int .i64 RY] 23 ∧ FlS Z X V s x wo wr ∧ goOn W H E L j i { s with ax := RX, ay := RY } = ({ s with ax := xa, ay := xb, left := xl }, h, on)) (fun v _ => n - (intOf v).toNat)
            case atStart => exact ⟨0, rfl, by omega, HA6.out, HF6.out, HGO0.out⟩
            case round =>
              obtain ⟨i, rfl, hi, hA, hF, hgo⟩ := hrel
              have HA9 := Lib.hid hA; have HF9 := Lib.hid hF; have HGO := Lib.hid hgo
              clear hA hF hgo HA6 HF6 HGO0
              by_cases hin : i < n
              · have hin' : (i : Int) < (n : Int) := by omega
                have hll := HN.out
                obtain ⟨c, hc⟩ : ∃ c, L[i]? = some c := ⟨_, List.getElem?_eq_getElem (by omega)⟩
                obtain ⟨cb, off, rfl, hcb, hat⟩ := HL.out.row (by omega)
                have HRG := Lib.hid (rangeAt_mod (hat i c hc) (HM5.out.then HF9.out.m) (fun h => h))
                have HCO := Lib.hid (HL.out.ok c (List.mem_of_getElem? hc)); have HC := Lib.hid hc
                obtain ⟨wp, rfl⟩ : ∃ wp : World, wp = wr := ⟨_, rfl⟩
                obtain ⟨Y, hYe⟩ : ∃ Y, wp.heap.size = Y := ⟨_, rfl⟩
                have HYE := Lib.hid hYe
                clear hc hat hll hYe
                go_upto_region 21 with (first | (refine wpList_load_mid rfl 25 (.tmp 118) rfl cb (off + i * 14) rfl c.cells _ HRG.out under_car rfl size_car ?_) | (refine wpList_store_new rfl 25 (.tmp 16) (.tmp 119) rfl 25 _ c.cells rfl rfl size_car rfl (one_car c) ?_; intro w11 hY hM11 hs11))
                rw [HYE.out] at hY ⊢
                have q11 := hY.cell (j := 11) rfl; have q0 := hY.cell (j := 0) rfl; have c2 := hY.cell (j := 2) rfl; have c3 := hY.cell (j := 3) rfl
                have HA6 := Lib.hid (hM11.blk HA9.out (fun h => h)); have HF6 := Lib.hid (HF9.out.keep hM11)
                have p1 := HF6.out.bs.cell (j := 1) rfl; have a0 := HA6.out.cell (j := 0) rfl; have a1 := HA6.out.cell (j := 1) rfl
                have hne := fun q : World => vnear_any q c.ax c.ay RX RY 98304 HCO.out.ax HCO.out.ay hr1 hr2
                have hme : meets { s with ax := RX, ay := RY } c = (decide (c.wait ≤ 0) && (c.player != s.player && Vx.nearB RX RY c.ax c.ay 98304)) := rfl
                rw [near_swap RX RY c.ax c.ay] at hme
                generalize Vx.nearB c.ax c.ay RX RY 98304 = NB at *
                have hgo := HGO.out
                have HNR := Lib.hid hne
                clear hY hM11 hs11 hne HGO HA9 HF9
                by_cases c11 : c.wait ≤ 0
                · cases cp0 : (c.player != s.player) with
                  | true =>
                    have hm2 : meets { s with ax := RX, ay := RY } c = NB := by rw [hme, cp0, decide_eq_true c11]; simp
                    clear hme
                    cases NB with
                    | true =>
                      rw [goOn_hit HC.out hm2] at hgo
                      have hee := hgo
                      clear hgo hm2
                      go_upto_region 22 with (go_at_call 29; refine (HNR.out _).mono ?_; rintro r w12 ⟨rfl, hM⟩; have HF7 := Lib.hid (HF6.out.keep hM); have HA7 := Lib.hid (hM.blk HA6.out (fun h => h)); clear hM)
                      clear a0 a1 HA6 HF6
                      have hxa : xa = RX := (congrArg (fun r : Sh × Int × Bool => r.1.ax) hee).symm
                      have hxb : xb = RY := (congrArg (fun r : Sh × Int × Bool => r.1.ay) hee).symm
                      have hxl : xl = s.left := (congrArg (fun r : Sh × Int × Bool => r.1.left) hee).symm
                      have hh : h = (i : Int) := (congrArg (fun r : Sh × Int × Bool => r.2.1) hee).symm
                      have hon : on = false := (congrArg (fun r : Sh × Int × Bool => r.2.2) hee).symm
                      have hxx := XC.out _ HF7.out.bx
                      have x2 := hxx.cell (j := 2) rfl; have x3 := hxx.cell (j := 3) rfl; have x6 := hxx.cell (j := 6) rfl
                      rw [hxa] at x2
                      rw [hxb] at x3
                      rw [hxl] at x6
                      rw [hh, hon]
                      have z6 := HF7.out.bs.cell (j := 6) rfl
                      have a0 := HA7.out.cell (j := 0) rfl; have a1 := HA7.out.cell (j := 1) rfl
                      have ev := fun q : World => eqV q RX RY RX RY
                      simp only [beq_self_eq_true, Bool.and_self] at ev
                      have el : (s.left == s.left) = true := by simp
                      have eii : ((i : Int) == (i : Int)) = true := by simp
                      clear hxx hxa hxb hxl hh hon hee
                      go_wp2_with fail
                      go_ret
                      exact ⟨rfl, HM5.out.then HF7.out.m⟩
                    | false =>
                      rw [goOn_miss HC.out hm2] at hgo
                      have HG2 := Lib.hid hgo
                      clear hgo hm2
                      go_wp2_with (go_at_call 29; refine (HNR.out _).mono ?_; rintro r w12 ⟨rfl, hM⟩; have HF7 := Lib.hid (HF6.out.keep hM); have HA7 := Lib.hid (hM.blk HA6.out (fun h => h)); clear hM)
                      go_roundw
                      case rel => exact ⟨i + 1, by go_num, by omega, HA7.out, HF7.out, HG2.out⟩
                      case measure => simp [intOf]; omega
                  | false =>
                    have hm2 : meets { s with ax := RX, ay := RY } c = false := by rw [hme, cp0, decide_eq_true c11]; simp
                    rw [goOn_miss HC.out hm2] at hgo
                    have HG2 := Lib.hid hgo
                    clear hgo hm2 hme
                    go_wp2_with fail
                    go_roundw
                    case rel => exact ⟨i + 1, by go_num, by omega, HA6.out, HF6.out, HG2.out⟩
                    case measure => simp [intOf]; omega
                · have c12 : decide (c.wait ≤ 0) = false := decide_eq_false c11
                  have hm2 : meets { s with ax := RX, ay := RY } c = false := by rw [hme, c12]; simp
                  rw [goOn_miss HC.out hm2] at hgo
                  have HG2 := Lib.hid hgo
                  clear hgo hm2 hme
                  go_wp2_with fail
                  go_roundw
                  case rel => exact ⟨i + 1, by go_num, by omega, HA6.out, HF6.out, HG2.out⟩
                  case measure => simp [intOf]; omega
              · have hin' : ¬ (i : Int) < (n : Int) := by omega
                have hgo := HGO.out
                have hie : i = L.length := by have := HN.out; omega
                rw [hie, goOn_end, HJ.out] at hgo
                have HG2 := Lib.hid hgo
                clear hgo hie
                go_wp2_with fail
                go_roundw
                case rel => exact ⟨k + 1, RX, RY, by go_num, by omega, hr1, hr2, HA9.out, HF9.out, HG2.out⟩
                case measure => simp [intOf]; omega
        · have hk4' : ¬ (k : Int) < 4 := by omega
          have hk0 : 4 - k = 0 := by omega
          have hee := HFL.out
          rw [hk0, flight] at hee
          obtain ⟨LF, hLF⟩ : ∃ x, IntKind.i64.wrap (s.left - 1) = x := ⟨_, rfl⟩
          simp only [hLF] at hee
          obtain ⟨D, hD⟩ : ∃ d, decide (0 < LF) = d := ⟨_, rfl⟩
          rw [hD] at hee
          have hxa : xa = ta := (congrArg (fun r : Sh × Int × Bool => r.1.ax) hee).symm
          have hxb : xb = tb := (congrArg (fun r : Sh × Int × Bool => r.1.ay) hee).symm
          have hxl : xl = LF := (congrArg (fun r : Sh × Int × Bool => r.1.left) hee).symm
          have hh : h = -1 := (congrArg (fun r : Sh × Int × Bool => r.2.1) hee).symm
          have hon : on = D := (congrArg (fun r : Sh × Int × Bool => r.2.2) hee).symm
          have hxx := XC.out _ HF6.out.bx
          have x2 := hxx.cell (j := 2) rfl; have x3 := hxx.cell (j := 3) rfl; have x6 := hxx.cell (j := 6) rfl
          rw [hxa] at x2
          rw [hxb] at x3
          rw [hxl] at x6
          rw [hh, hon]
          have z6 := HF6.out.bs.cell (j := 6) rfl
          have a0 := HA6.out.cell (j := 0) rfl; have a1 := HA6.out.cell (j := 1) rfl
          have ev := fun q : World => eqV q ta tb ta tb
          simp only [beq_self_eq_true, Bool.and_self] at ev
          have el : (s.left == s.left) = true := by simp
          have ell : (LF == LF) = true := by simp
          have edd : (D == D) = true := by simp
          clear hxx hxa hxb hxl hh hon hee
          go_wp2_with fail
          go_ret
          exact ⟨rfl, HM5.out.then HF6.out.m⟩
end Go.Proofs.YtinjlkceplhibaaDoor
