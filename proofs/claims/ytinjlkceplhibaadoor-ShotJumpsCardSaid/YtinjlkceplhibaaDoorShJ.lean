/- ShotJumps: the plain facts and the walk. -/
import Derived.Test.YtinjlkceplhibaaDoorShI
namespace Go.Proofs.YtinjlkceplhibaaDoor
open Go.RowKit

theorem cell_floor (a : Int) : (if a < 0 ∧ Int.tmod a 524288 ≠ 0 then Int.tdiv a 524288 - 1 else Int.tdiv a 524288) = a / 524288 := by
  have h1 := Int.tmod_add_mul_tdiv a 524288
  have h2 : a < 0 → Int.tmod a 524288 ≤ 0 := fun h => by
    have h3 := Int.tmod_nonneg 524288 (show 0 ≤ -a by omega)
    rw [Int.neg_tmod] at h3
    omega
  have h3 : 0 ≤ a → 0 ≤ Int.tmod a 524288 := fun h => Int.tmod_nonneg _ h
  have h4 := Int.tmod_lt_of_pos a (show (0 : Int) < 524288 by decide)
  have h5 := Int.lt_tmod_of_pos a (show (0 : Int) < 524288 by decide)
  generalize Int.tmod a 524288 = r at *
  generalize Int.tdiv a 524288 = q at *
  split <;> omega
theorem cell_any (w : World) (a : Int) (ha : Bd.I64 a) : Calls Tryd.prog 30 #[.int .i64 a] w fun e w' => e = .returned (.int .i64 (a / 524288)) ∧ w' = w := by
  have hf := cell_floor a
  have hb : -17592186044416 ≤ a / 524288 ∧ a / 524288 ≤ 17592186044416 := by unfold Bd.I64 at ha; omega
  have h1 := Int.tmod_add_mul_tdiv a 524288
  have h4 := Int.tmod_lt_of_pos a (show (0 : Int) < 524288 by decide)
  have h5 := Int.lt_tmod_of_pos a (show (0 : Int) < 524288 by decide)
  unfold Bd.I64 at ha
  by_cases c1 : a < 0
  · cases c2 : (Int.tmod a 524288 != 0) with
    | true =>
      rw [if_pos ⟨c1, by simpa using c2⟩] at hf
      have hw : IntKind.i64.wrap (Int.tdiv a 524288 - 1) = a / 524288 := by rw [hf]; exact wrap_in _ (by unfold Bd.I64; omega)
      clear hf hb h1 h4 h5
      go_enter Tryd.func30, Tryd.ntmps30
      go_wp2
      go_ret
      exact ⟨ret_int (by omega), rfl⟩
    | false =>
      rw [if_neg (fun h => h.2 (by simpa using c2))] at hf
      clear hb h1 h4 h5
      go_enter Tryd.func30, Tryd.ntmps30
      go_wp2
      go_ret
      exact ⟨ret_int (by omega), rfl⟩
  · rw [if_neg (fun h => c1 h.1)] at hf
    clear hb h1 h4 h5
    go_enter Tryd.func30, Tryd.ntmps30
    go_wp2
    go_ret
    exact ⟨ret_int (by omega), rfl⟩
theorem flight_nil (W H : Nat) (E : List Int) (k : Nat) (t : Sh) : flight W H E [] (k + 1) t = if Bd.atOf W H E t.step.ax t.step.ay = 35 then (t.step, -1, false) else flight W H E [] k t.step := by
  rw [flight]
  rfl
/-- a place in no wall lies on the board -/
theorem on_board {W H : Nat} {E : List Int} {a b : Int} (hW : W ≤ 64) (hH : H ≤ 64) (h : ¬ Bd.atOf W H E a b = 35) : (0 ≤ a ∧ a < 33554432) ∧ (0 ≤ b ∧ b < 33554432) := by
  unfold Bd.atOf at h
  have h1 : ¬ (Bd.num a < 0 ∨ Bd.num b < 0 ∨ (W : Int) ≤ Bd.num a ∨ (H : Int) ≤ Bd.num b) := fun hh => h (Bd.cellOf_out hh)
  unfold Bd.num at h1
  omega
theorem lim_at {x : Int} (h : -1099511627776 ≤ x ∧ x ≤ 1099511627776) : Vx.lim x = x := by
  unfold Vx.lim
  split
  · omega
  · split <;> omega
/-- a quarter passes at most one side of a cell -/
theorem one_side {a q : Int} (ha : 0 ≤ a ∧ a < 33554432) (hq : -1048576 ≤ q ∧ q ≤ 1048576) : -1 ≤ Vx.lim (a + q / 4) / 524288 - a / 524288 ∧ Vx.lim (a + q / 4) / 524288 - a / 524288 ≤ 1 ∧ IntKind.i64.wrap (Vx.lim (a + q / 4) / 524288 - a / 524288) = Vx.lim (a + q / 4) / 524288 - a / 524288 := by
  rw [lim_at (x := a + q / 4) (by omega)]
  have h1 : -1 ≤ (a + q / 4) / 524288 - a / 524288 ∧ (a + q / 4) / 524288 - a / 524288 ≤ 1 := by omega
  exact ⟨h1.1, h1.2, wrap_in _ (by unfold Bd.I64; omega)⟩
theorem Blk.ne {w : World} {b b' : Nat} {cs ds : List Value} {t t' : TypeId} (h : Blk w b cs t) (k : Blk w b' ds t') (ht : t ≠ t') : b ≠ b' := by
  rintro rfl
  rw [Blk] at h k
  rw [h] at k
  injection k with k
  injection k with _ k
  exact ht k
theorem BrdP.put {w w' : World} {b W H Z : Nat} {E : List Int} {cs : List Value} {t : TypeId} (h : BrdP w b W H E) (hZ : Blk w Z cs t) (h1 : t ≠ 90) (h2 : t ≠ 21) (hM : Mod (only Z) w w') : BrdP w' b W H E := by
  obtain ⟨g, cap, rest, k1, k2, k3⟩ := h.mem
  exact ⟨h.fine, g, cap, rest, hM.blk k1 (not_only (fun e => Blk.ne hZ k1 h1 e.symm)), hM.blk k2 (not_only (fun e => Blk.ne hZ k2 h2 e.symm)), k3⟩
/-- what a round of the law holds -/
structure JuS (Z b W H : Nat) (E : List Int) (t : Sh) (w0 q : World) : Prop where
  shot : Blk q Z t.cells 28
  brd : BrdP q b W H E
  m : Mod none_ w0 q
theorem JuS.keep {Z b W H : Nat} {E : List Int} {t : Sh} {w0 q q' : World} (h : JuS Z b W H E t w0 q) (hM : Mod none_ q q') : JuS Z b W H E t w0 q' := ⟨hM.blk h.shot (fun h => h), h.brd.none hM, h.m.then hM⟩
theorem JuS.new {Z b W H A : Nat} {E : List Int} {t : Sh} {cs : List Value} {w0 q q' : World} (h : JuS Z b W H E t w0 q) (hA : Blk q A cs 23) (hw : w0.heap.size ≤ A) (hM : Mod (only A) q q') : JuS Z b W H E t w0 q' := ⟨hM.blk h.shot (not_only (fun e => Blk.ne hA h.shot (by decide) e.symm)), h.brd.put hA (by decide) (by decide) hM, h.m.trans hM (fun j hj e => by have : j = A := e; omega)⟩
theorem JuS.put {Z b W H : Nat} {E : List Int} {t t' : Sh} {w0 q q' : World} (h : JuS Z b W H E t w0 q) (hw : w0.heap.size ≤ Z) (hM : Mod (only Z) q q') (hZ : Blk q' Z t'.cells 28) : JuS Z b W H E t' w0 q' := ⟨hZ, h.brd.put h.shot (by decide) (by decide) hM, h.m.trans hM (fun j hj e => by have : j = Z := e; omega)⟩
/-- what a round of the inner loop holds besides -/
structure JuI (Z b W H X A : Nat) (E : List Int) (t x : Sh) (w0 q : World) : Prop where
  j : JuS Z b W H E t w0 q
  x : Blk q X x.cells 28
  lt : w0.heap.size ≤ A
theorem JuI.keep {Z b W H X A : Nat} {E : List Int} {t x : Sh} {w0 q q' : World} (h : JuI Z b W H X A E t x w0 q) (hM : Mod none_ q q') : JuI Z b W H X A E t x w0 q' := ⟨h.j.keep hM, hM.blk h.x (fun h => h), h.lt⟩
theorem JuI.new {Z b W H X A : Nat} {E : List Int} {t x : Sh} {cs : List Value} {w0 q q' : World} (h : JuI Z b W H X A E t x w0 q) (hA : Blk q A cs 23) (hM : Mod (only A) q q') : JuI Z b W H X A E t x w0 q' := ⟨h.j.new hA h.lt hM, hM.blk h.x (not_only (fun e => Blk.ne hA h.x (by decide) e.symm)), h.lt⟩
/-- how far the law's own flight is -/
structure JuE (W H : Nat) (E : List Int) (t x : Sh) (on e : Bool) (p q : Int) (k : Nat) : Prop where
  i1 : Bd.I64 p
  i2 : Bd.I64 q
  yes : e = true → (({ t with ax := p, ay := q } : Sh), (-1 : Int), false) = (x, -1, on)
  no : e = false → ¬ Bd.atOf W H E p q = 35 ∧ flight W H E [] k { t with ax := p, ay := q } = (x, -1, on)
/-- what the cells' numbers find -/
structure JuR (T A : Nat) (rx ry ax ay : Int) (q : World) : Prop where
  t0 : q.cell? ⟨T, 0, none⟩ = some (.int .i64 rx)
  t1 : q.cell? ⟨T, 1, none⟩ = some (.int .i64 ry)
  a0 : q.cell? ⟨A, 0, none⟩ = some (.int .i64 ax)
  a1 : q.cell? ⟨A, 1, none⟩ = some (.int .i64 ay)
set_option maxHeartbeats 8000000 in
set_option maxRecDepth 100000 in
theorem shotJumps_any (w : World) (hG : Sines w) (text : ByteArray) (htx : text.size ≤ 9223372036854775807) (s : Sh) (hs : s.Ok) :
    Calls Tryd.prog 8 #[.string text, s.agg] w fun e w' => e = .returned (.bool true) ∧ Mod none_ w w' := by
  have ha := fun (q : World) (h : Sines q) => alive16_any q h
  have hp := fun (q : World) => parse_any q text htx
  have HA := Lib.hid ha; have HG := Lib.hid hG; have HP := Lib.hid hp; have HS := Lib.hid hs
  clear ha hp hG hs htx
  unfold Sh.agg
  go_enter Tryd.func8, Tryd.ntmps8
  go_upto_region 1 with fail
  obtain ⟨w1, hw1, hB1, hM1⟩ : ∃ w1, w.alloc (.cells s.cells.toArray 28) = w1 ∧ Blk w1 w.heap.size s.cells 28 ∧ Mod none_ w w1 := ⟨_, rfl, Blk.new w s.cells _, (Mod.refl none_ w).alloc _⟩
  rw [hw1]
  obtain ⟨Z, hZ⟩ : ∃ Z, w.heap.size = Z := ⟨_, rfl⟩
  rw [hZ] at hB1 ⊢
  have HB1 := Lib.hid hB1; have HM1 := Lib.hid hM1; have HZ := Lib.hid hZ
  clear hB1 hM1 hw1 hZ
  go_upto_region 3 with (go_at_call 15; refine (HA.out _ (HG.out.mod HM1.out)).mono ?_; rintro r w2 ⟨rfl, hM⟩; have HM2 := Lib.hid (HM1.out.then hM); have HB2 := Lib.hid (hM.blk HB1.out (fun h => h)); clear hM)
  clear HB1 HM1
  cases hrd : Bd.read (Bd.runes text) with
  | bad =>
    go_wp2_with (go_at_call 18; refine (HP.out _).mono ?_; rintro r w3 ⟨hpp, hM⟩; rw [hrd] at hpp; obtain rfl := hpp; have HM3 := Lib.hid (HM2.out.then hM); clear hM)
    go_ret
    exact ⟨rfl, HM3.out⟩
  | place =>
    go_wp2_with (go_at_call 18; refine (HP.out _).mono ?_; rintro r w3 ⟨hpp, hM⟩; rw [hrd] at hpp; obtain rfl := hpp; have HM3 := Lib.hid (HM2.out.then hM); clear hM)
    go_ret
    exact ⟨rfl, HM3.out⟩
  | board W H E =>
    go_upto_region 4 with (go_at_call 18; refine (HP.out _).mono ?_; rintro r w3 ⟨hpp, hM⟩; rw [hrd] at hpp; obtain ⟨b, rfl, hbb, hB⟩ := hpp; have HM3 := Lib.hid (HM2.out.then hM); have HJ3 : RowKit.Hid (JuS Z b W H E s w w3) := Lib.hid ⟨hM.blk HB2.out (fun h => h), hB, HM3.out⟩; clear hM hbb hB)
    clear HB2 HM2 hrd HP HA HG HM3
    have z2 := HJ3.out.shot.cell (j := 2) rfl; have z3 := HJ3.out.shot.cell (j := 3) rfl; have z4 := HJ3.out.shot.cell (j := 4) rfl; have z5 := HJ3.out.shot.cell (j := 5) rfl
    have hsl := fun q : World => fun hb : BrdP q b W H E => solid_any q hb s.ax s.ay HS.out.ax HS.out.ay
    obtain ⟨D0, hD0⟩ : ∃ D, decide (Bd.atOf W H E s.ax s.ay = 35) = D := ⟨_, rfl⟩
    simp only [hD0] at hsl
    have HSL := Lib.hid hsl; have HD0 := Lib.hid hD0
    clear hsl hD0
    cases D0 with
    | true =>
      go_wp2_with (go_at_call 28; refine (HSL.out _ HJ3.out.brd).mono ?_; rintro r w4 ⟨rfl, hM⟩; have HJ4 := Lib.hid (HJ3.out.keep hM); clear hM; have z4 := HJ4.out.shot.cell (j := 4) rfl; have z5 := HJ4.out.shot.cell (j := 5) rfl)
      go_ret
      exact ⟨rfl, HJ4.out.m⟩
    | false =>
      have hns : ¬ Bd.atOf W H E s.ax s.ay = 35 := of_decide_eq_false HD0.out
      have HNS := Lib.hid hns
      clear hns HD0
      by_cases c1 : 1048576 < s.sx
      · have d1 : decide (1048576 < s.sx) = true := decide_eq_true c1
        go_wp2_with (go_at_call 28; refine (HSL.out _ HJ3.out.brd).mono ?_; rintro r w4 ⟨rfl, hM⟩; have HJ4 := Lib.hid (HJ3.out.keep hM); clear hM; have z4 := HJ4.out.shot.cell (j := 4) rfl; have z5 := HJ4.out.shot.cell (j := 5) rfl)
        go_ret
        exact ⟨rfl, HJ4.out.m⟩
      by_cases c2 : s.sx < -1048576
      · have d2 : decide (s.sx < -1048576) = true := decide_eq_true c2
        go_wp2_with (go_at_call 28; refine (HSL.out _ HJ3.out.brd).mono ?_; rintro r w4 ⟨rfl, hM⟩; have HJ4 := Lib.hid (HJ3.out.keep hM); clear hM; have z4 := HJ4.out.shot.cell (j := 4) rfl; have z5 := HJ4.out.shot.cell (j := 5) rfl)
        go_ret
        exact ⟨rfl, HJ4.out.m⟩
      by_cases c3 : 1048576 < s.sy
      · have d3 : decide (1048576 < s.sy) = true := decide_eq_true c3
        go_wp2_with (go_at_call 28; refine (HSL.out _ HJ3.out.brd).mono ?_; rintro r w4 ⟨rfl, hM⟩; have HJ4 := Lib.hid (HJ3.out.keep hM); clear hM; have z4 := HJ4.out.shot.cell (j := 4) rfl; have z5 := HJ4.out.shot.cell (j := 5) rfl)
        go_ret
        exact ⟨rfl, HJ4.out.m⟩
      by_cases c4 : s.sy < -1048576
      · have d4 : decide (s.sy < -1048576) = true := decide_eq_true c4
        go_wp2_with (go_at_call 28; refine (HSL.out _ HJ3.out.brd).mono ?_; rintro r w4 ⟨rfl, hM⟩; have HJ4 := Lib.hid (HJ3.out.keep hM); clear hM; have z4 := HJ4.out.shot.cell (j := 4) rfl; have z5 := HJ4.out.shot.cell (j := 5) rfl)
        go_ret
        exact ⟨rfl, HJ4.out.m⟩
      go_wp2_with (go_at_call 28; refine (HSL.out _ HJ3.out.brd).mono ?_; rintro r w4 ⟨rfl, hM⟩; have HJ4 := Lib.hid (HJ3.out.keep hM); clear hM; have z4 := HJ4.out.shot.cell (j := 4) rfl; have z5 := HJ4.out.shot.cell (j := 5) rfl)
      have hZw : w.heap.size ≤ Z := by have := HZ.out; omega
      have HZW := Lib.hid hZw
      clear hZw z2 z3 z4 z5 HSL HJ3 HZ
      go_loopw [7] (fun u wr => ∃ (i : Nat) (t : Sh), u = .int .i64 i ∧ i ≤ 60 ∧ t.Ok ∧ (-1048576 ≤ t.sx ∧ t.sx ≤ 1048576) ∧ (-1048576 ≤ t.sy ∧ t.sy ≤ 1048576) ∧ ¬ Bd.atOf W H E t.ax t.ay = 35 ∧ JuS Z b W H E t w wr) (fun u _ => 60 - (intOf u).toNat)
      case atStart => exact ⟨0, s, rfl, by omega, HS.out, ⟨by omega, by omega⟩, ⟨by omega, by omega⟩, HNS.out, HJ4.out⟩
      case round =>
        obtain ⟨i, t, rfl, hi, hok, hbx, hby, hns, hJ⟩ := hrel
        have HJ := Lib.hid hJ; have HOK := Lib.hid hok; have HT := Lib.hid hns; have HBX := Lib.hid (And.intro hbx hby)
        clear hJ hok hns HJ4 HNS hbx hby c1 c2 c3 c4
        have z6 := HJ.out.shot.cell (j := 6) rfl
        by_cases hi60 : i < 60
        · have hi60' : (i : Int) < 60 := by omega
          by_cases hl : 1 < t.left
          · have hl' : decide (1 < t.left) = true := decide_eq_true hl
            have hfl := flight_keeps W H E [] t 4 t.ax t.ay
            obtain ⟨xa, xb, xl, h, on, hR, h1, h2, h3⟩ := hfl
            have hh : h = -1 := by simp at h2; omega
            subst hh
            have hR' : flight W H E [] 4 t = ({ t with ax := xa, ay := xb, left := xl }, -1, on) := hR
            have hmv := fun (q : World) (hb : BrdP q b W H E) => move_any q hb none 0 0 [] rfl (by omega) (crs_nil q _) t HOK.out
            simp only [hR'] at hmv
            unfold Sh.agg at hmv
            obtain ⟨x, hx⟩ : ∃ x : Sh, { t with ax := xa, ay := xb, left := xl } = x := ⟨_, rfl⟩
            simp only [hx] at hmv
            rw [hx] at hR'
            have HMV := Lib.hid hmv; have HR := Lib.hid hR'; have HX := Lib.hid hx
            clear hmv hR hR' h1 h2 h3 hx
            go_upto_region 10 with (first | (refine wpList_load_blk rfl 28 (.tmp 3) rfl Z rfl 28 t.cells _ HJ.out.shot under_shot rfl size_shot ?_) | (go_at_call 22; refine (HMV.out _ HJ.out.brd).mono ?_; rintro r w5 ⟨rfl, hM⟩; have HJ5 := Lib.hid (HJ.out.keep hM); clear hM) | (refine wpList_store_new rfl 28 (.tmp 8) (.tmp 69) rfl 28 _ x.cells rfl rfl size_shot rfl (one_shot x) ?_; intro w6 hX hM6 hs6))
            obtain ⟨X, hXe⟩ : ∃ X, w5.heap.size = X := ⟨_, rfl⟩
            rw [hXe] at hX ⊢
            have HJ6 := Lib.hid (HJ5.out.keep hM6); have HX6 := Lib.hid hX
            clear hX hM6 hs6 hXe HJ HJ5 HMV z6
            have z2 := HJ6.out.shot.cell (j := 2) rfl; have z3 := HJ6.out.shot.cell (j := 3) rfl
            go_upto_region 11 with (refine wpList_store_new rfl 23 (.tmp 11) (.tmp 73) rfl 23 _ [.int .i64 t.ax, .int .i64 t.ay] rfl rfl size_vec2 rfl (one_vec _ _) ?_; intro w7 hA hM7 hs7)
            obtain ⟨A, hAe⟩ : ∃ A, w6.heap.size = A := ⟨_, rfl⟩
            rw [hAe] at hA ⊢
            have hI7 : JuI Z b W H X A E t x w w7 := ⟨HJ6.out.keep hM7, hM7.blk HX6.out (fun h => h), by have := HJ6.out.m.size; omega⟩
            have HI7 := Lib.hid hI7; have HA7 := Lib.hid hA
            clear hA hM7 hs7 hAe hI7 HJ6 HX6 z2 z3
            go_upto_block 2 with fail
            go_cut [12] (fun v wx => ∃ (e : Bool) (p q : Int), v = .bool e ∧ JuI Z b W H X A E t x w wx ∧ Blk wx A [.int .i64 p, .int .i64 q] 23 ∧ ∃ z, z = 0 ∧ JuE W H E t x on e p q z)
            case first =>
              go_wp2_with fail
              go_loopw [12, 13] (fun u v wr => ∃ (k : Nat) (e : Bool) (p q : Int), u = .bool e ∧ v = .int .i64 k ∧ k ≤ 4 ∧ JuI Z b W H X A E t x w wr ∧ Blk wr A [.int .i64 p, .int .i64 q] 23 ∧ JuE W H E t x on e p q (4 - k)) (fun _ v _ => 4 - (intOf v).toNat)
              case atStart => exact ⟨0, false, t.ax, t.ay, rfl, rfl, by omega, HI7.out, HA7.out, HOK.out.ax, HOK.out.ay, fun h => (by cases h), fun _ => ⟨HT.out, HR.out⟩⟩
              case round =>
                obtain ⟨k, e, p, q, rfl, rfl, hk, hI, hA, hE⟩ := hrel
                have HI := Lib.hid hI; have HA := Lib.hid hA; have HE := Lib.hid hE; have HPQ := Lib.hid (And.intro hE.i1 hE.i2)
                clear hI hA hE HI7 HA7
                by_cases hk4 : k < 4
                · have hk4' : (k : Int) < 4 := by omega
                  cases e with
                  | true =>
                    go_wp2_with fail
                    go_meet
                    exact ⟨true, p, q, rfl, HI.out, HA.out, 0, rfl, HPQ.out.1, HPQ.out.2, HE.out.yes, fun h => (by cases h)⟩
                  | false =>
                    obtain ⟨hn1, hfl⟩ := HE.out.no rfl
                    obtain ⟨j, hj⟩ : ∃ j, 4 - k = j + 1 := ⟨3 - k, by omega⟩
                    have hj2 : j = 4 - (k + 1) := by omega
                    rw [hj, flight_nil] at hfl
                    have hfine := HI.out.j.brd.fine
                    have hob := on_board hfine.w64 hfine.h64 hn1
                    have o1 := one_side hob.1 HBX.out.1
                    have o2 := one_side hob.2 HBX.out.2
                    have hst : ({ t with ax := p, ay := q } : Sh).step = { t with ax := Vx.lim (p + t.sx / 4), ay := Vx.lim (q + t.sy / 4) } := rfl
                    rw [hst] at hfl
                    have hsb : Bd.I64 (t.sx / 4) ∧ Bd.I64 (t.sy / 4) := by have h4 := HOK.out.sx; have h5 := HOK.out.sy; unfold Bd.I64 at h4 h5 ⊢; omega
                    have had := fun q' : World => vadd_any q' p q (t.sx / 4) (t.sy / 4) HPQ.out.1 HPQ.out.2 hsb.1 hsb.2
                    have hr1 : Bd.I64 (Vx.lim (p + t.sx / 4)) := by have := Vx.lim_in (p + t.sx / 4); unfold Bd.I64; omega
                    have hr2 : Bd.I64 (Vx.lim (q + t.sy / 4)) := by have := Vx.lim_in (q + t.sy / 4); unfold Bd.I64; omega
                    generalize Vx.lim (p + t.sx / 4) = RX at *
                    generalize Vx.lim (q + t.sy / 4) = RY at *
                    have hc1 := fun q' : World => cell_any q' RX hr1
                    have hc2 := fun q' : World => cell_any q' RY hr2
                    have hc3 := fun q' : World => cell_any q' p HPQ.out.1
                    have hc4 := fun q' : World => cell_any q' q HPQ.out.2
                    obtain ⟨DX, hDX⟩ : ∃ d, RX / 524288 - p / 524288 = d := ⟨_, rfl⟩
                    obtain ⟨DY, hDY⟩ : ∃ d, RY / 524288 - q / 524288 = d := ⟨_, rfl⟩
                    rw [hDX] at o1
                    rw [hDY] at o2
                    generalize RX / 524288 = CX at *
                    generalize RY / 524288 = CY at *
                    generalize p / 524288 = CP at *
                    generalize q / 524288 = CQ at *
                    have HC1 := Lib.hid hc1; have HC2 := Lib.hid hc2; have HC3 := Lib.hid hc3; have HC4 := Lib.hid hc4; have HAD := Lib.hid had; have HJ := Lib.hid hj2; have HFL := Lib.hid hfl; have HRR := Lib.hid (And.intro hr1 hr2)
                    have g1 : decide (1 < DX) = false := decide_eq_false (by omega)
                    have g2 : decide (DX < -1) = false := decide_eq_false (by omega)
                    have g3 : decide (1 < DY) = false := decide_eq_false (by omega)
                    have g4 : decide (DY < -1) = false := decide_eq_false (by omega)
                    have HWX := Lib.hid (show IntKind.i64.wrap (CX - CP) = DX by rw [hDX]; exact o1.2.2)
                    have HWY := Lib.hid (show IntKind.i64.wrap (CY - CQ) = DY by rw [hDY]; exact o2.2.2)
                    clear hc1 hc2 hc3 hc4 had hj hj2 hfl hst hsb hob hfine hn1 o1 o2 hDX hDY HE
                    have a0 := HA.out.cell (j := 0) rfl; have a1 := HA.out.cell (j := 1) rfl; have z4 := HI.out.j.shot.cell (j := 4) rfl; have z5 := HI.out.j.shot.cell (j := 5) rfl
                    go_upto_region 16 with (first | (go_at_call 26; refine (HAD.out _).mono ?_; rintro r w8 ⟨rfl, hM⟩; have HI8 := Lib.hid (HI.out.keep hM); have HA8 := Lib.hid (hM.blk HA.out (fun h => h)); clear hM) | (refine wpList_store_new rfl 23 (.tmp 14) (.tmp 92) rfl 23 _ [.int .i64 RX, .int .i64 RY] rfl rfl size_vec2 rfl (one_vec _ _) ?_; intro w9 hT hM9 hs9))
                    obtain ⟨T, hTe⟩ : ∃ T, w8.heap.size = T := ⟨_, rfl⟩
                    rw [hTe] at hT ⊢
                    have HI9 := Lib.hid (HI8.out.keep hM9); have HA9 := Lib.hid (hM9.blk HA8.out (fun h => h)); have HT9 := Lib.hid hT
                    clear a0 a1 z4 z5 hT hM9 hs9 hTe HI8 HA8 HI HA HAD
                    have hJR : JuR T A RX RY p q w9.drew := ⟨HT9.out.drew.cell rfl, HT9.out.drew.cell rfl, HA9.out.drew.cell rfl, HA9.out.drew.cell rfl⟩
                    refine wp_region_noPanic ?_
                    refine wp_region_held_drew (S := JuR T A RX RY p q) (by kernel_rfl) hJR (fun hHeld => ?_)
                    clear hHeld
                    refine wpAnyH_take (i := 0) (v := ?_) (by simp only [List.getElem?_toArray, List.getElem?_cons_zero]; rfl) (by kernel_rfl) (by kernel_rfl) (by kernel_rfl) (fun _ _ _ h => h) (Or.inl ⟨by rfl, ?_⟩) hJR ?_
                    rotate_left
                    · (intro wq hSw; go_simp; all_goals with_reducible rfl)
                    try simp only [Act.put, List.setIfInBounds_toArray, List.set_cons_zero, List.set_cons_succ]
                    refine wpAnyH_take (i := 1) (v := ?_) (by simp only [List.getElem?_toArray, List.getElem?_cons_zero, List.getElem?_cons_succ]; rfl) (by kernel_rfl) (by kernel_rfl) (by kernel_rfl) (fun _ _ _ h => h) (Or.inl ⟨by rfl, ?_⟩) hJR ?_
                    rotate_left
                    · (intro wq hSw; have q_t0 := hSw.t0; have q_a0 := hSw.a0; go_simp; all_goals with_reducible rfl)
                    try simp only [Act.put, List.setIfInBounds_toArray, List.set_cons_zero, List.set_cons_succ]
                    refine wpAnyH_take (i := 3) (v := ?_) (by simp only [List.getElem?_toArray, List.getElem?_cons_zero, List.getElem?_cons_succ]; rfl) (by kernel_rfl) (by kernel_rfl) (by kernel_rfl) (fun _ _ _ h => h) (Or.inl ⟨by rfl, ?_⟩) hJR ?_
                    rotate_left
                    · (intro wq hSw; go_simp; all_goals with_reducible rfl)
                    try simp only [Act.put, List.setIfInBounds_toArray, List.set_cons_zero, List.set_cons_succ]
                    refine wpAnyH_take (i := 4) (v := ?_) (by simp only [List.getElem?_toArray, List.getElem?_cons_zero, List.getElem?_cons_succ]; rfl) (by kernel_rfl) (by kernel_rfl) (by kernel_rfl) (fun _ _ _ h => h) (Or.inl ⟨by rfl, ?_⟩) hJR ?_
                    rotate_left
                    · (intro wq hSw; have q_t0 := hSw.t0; have q_a0 := hSw.a0; go_simp; all_goals with_reducible rfl)
                    try simp only [Act.put, List.setIfInBounds_toArray, List.set_cons_zero, List.set_cons_succ]
                    refine wpAnyH_ready (rs := [2]) (by kernel_rfl) (by simp) ?_
                    refine AllReadyH.cons (by simp only [List.getElem?_toArray, List.getElem?_cons_zero, List.getElem?_cons_succ]; rfl) (fun K hK => ?_) AllReadyH.nil
                    go_simp
                    go_at_call 30
                    refine (HC1.out _).mono ?_
                    rintro r wz ⟨rfl, rfl⟩
                    go_wp2_with fail
                    refine hK.out _ _ hJR (fun _ => ?_)
                    clear hK K
                    try simp only [Act.put, List.setIfInBounds_toArray, List.set_cons_zero, List.set_cons_succ]
                    refine wpAnyH_ready (rs := [5]) (by kernel_rfl) (by simp) ?_
                    refine AllReadyH.cons (by simp only [List.getElem?_toArray, List.getElem?_cons_zero, List.getElem?_cons_succ]; rfl) (fun K hK => ?_) AllReadyH.nil
                    go_simp
                    go_at_call 30
                    refine (HC3.out _).mono ?_
                    rintro r wz ⟨rfl, rfl⟩
                    go_wp2_with fail
                    refine hK.out _ _ hJR (fun _ => ?_)
                    clear hK K
                    try simp only [Act.put, List.setIfInBounds_toArray, List.set_cons_zero, List.set_cons_succ]
                    refine wpAnyH_take (i := 6) (v := ?_) (by simp only [List.getElem?_toArray, List.getElem?_cons_zero, List.getElem?_cons_succ]; rfl) (by kernel_rfl) (by kernel_rfl) (by kernel_rfl) (fun _ _ _ h => h) (Or.inl ⟨by rfl, ?_⟩) hJR ?_
                    rotate_left
                    · (intro wq hSw; go_simp; all_goals with_reducible rfl)
                    try simp only [Act.put, List.setIfInBounds_toArray, List.set_cons_zero, List.set_cons_succ]
                    refine wpAnyH_take (i := 7) (v := ?_) (by simp only [List.getElem?_toArray, List.getElem?_cons_zero, List.getElem?_cons_succ]; rfl) (by kernel_rfl) (by kernel_rfl) (by kernel_rfl) (fun _ _ _ h => h) (Or.inl ⟨by rfl, ?_⟩) hJR ?_
                    rotate_left
                    · (intro wq hSw; go_simp; all_goals with_reducible rfl)
                    try simp only [Act.put, List.setIfInBounds_toArray, List.set_cons_zero, List.set_cons_succ]
                    refine wpAnyH_done (by kernel_rfl) ?_ _
                    refine NoPanic.normal ?_
                    rw [HWX.out]
                    go_upto_region 17 with fail
                    have hJR : JuR T A RX RY p q w9.drew.drew := ⟨HT9.out.drew.cell rfl, HT9.out.drew.cell rfl, HA9.out.drew.cell rfl, HA9.out.drew.cell rfl⟩
                    refine wp_region_noPanic ?_
                    refine wp_region_held_drew (S := JuR T A RX RY p q) (by kernel_rfl) hJR (fun hHeld => ?_)
                    clear hHeld
                    refine wpAnyH_take (i := 0) (v := ?_) (by simp only [List.getElem?_toArray, List.getElem?_cons_zero]; rfl) (by kernel_rfl) (by kernel_rfl) (by kernel_rfl) (fun _ _ _ h => h) (Or.inl ⟨by rfl, ?_⟩) hJR ?_
                    rotate_left
                    · (intro wq hSw; go_simp; all_goals with_reducible rfl)
                    try simp only [Act.put, List.setIfInBounds_toArray, List.set_cons_zero, List.set_cons_succ]
                    refine wpAnyH_take (i := 1) (v := ?_) (by simp only [List.getElem?_toArray, List.getElem?_cons_zero, List.getElem?_cons_succ]; rfl) (by kernel_rfl) (by kernel_rfl) (by kernel_rfl) (fun _ _ _ h => h) (Or.inl ⟨by rfl, ?_⟩) hJR ?_
                    rotate_left
                    · (intro wq hSw; have q_t1 := hSw.t1; have q_a1 := hSw.a1; go_simp; all_goals with_reducible rfl)
                    try simp only [Act.put, List.setIfInBounds_toArray, List.set_cons_zero, List.set_cons_succ]
                    refine wpAnyH_take (i := 3) (v := ?_) (by simp only [List.getElem?_toArray, List.getElem?_cons_zero, List.getElem?_cons_succ]; rfl) (by kernel_rfl) (by kernel_rfl) (by kernel_rfl) (fun _ _ _ h => h) (Or.inl ⟨by rfl, ?_⟩) hJR ?_
                    rotate_left
                    · (intro wq hSw; go_simp; all_goals with_reducible rfl)
                    try simp only [Act.put, List.setIfInBounds_toArray, List.set_cons_zero, List.set_cons_succ]
                    refine wpAnyH_take (i := 4) (v := ?_) (by simp only [List.getElem?_toArray, List.getElem?_cons_zero, List.getElem?_cons_succ]; rfl) (by kernel_rfl) (by kernel_rfl) (by kernel_rfl) (fun _ _ _ h => h) (Or.inl ⟨by rfl, ?_⟩) hJR ?_
                    rotate_left
                    · (intro wq hSw; have q_t1 := hSw.t1; have q_a1 := hSw.a1; go_simp; all_goals with_reducible rfl)
                    try simp only [Act.put, List.setIfInBounds_toArray, List.set_cons_zero, List.set_cons_succ]
                    refine wpAnyH_ready (rs := [2]) (by kernel_rfl) (by simp) ?_
                    refine AllReadyH.cons (by simp only [List.getElem?_toArray, List.getElem?_cons_zero, List.getElem?_cons_succ]; rfl) (fun K hK => ?_) AllReadyH.nil
                    go_simp
                    go_at_call 30
                    refine (HC2.out _).mono ?_
                    rintro r wz ⟨rfl, rfl⟩
                    go_wp2_with fail
                    refine hK.out _ _ hJR (fun _ => ?_)
                    clear hK K
                    try simp only [Act.put, List.setIfInBounds_toArray, List.set_cons_zero, List.set_cons_succ]
                    refine wpAnyH_ready (rs := [5]) (by kernel_rfl) (by simp) ?_
                    refine AllReadyH.cons (by simp only [List.getElem?_toArray, List.getElem?_cons_zero, List.getElem?_cons_succ]; rfl) (fun K hK => ?_) AllReadyH.nil
                    go_simp
                    go_at_call 30
                    refine (HC4.out _).mono ?_
                    rintro r wz ⟨rfl, rfl⟩
                    go_wp2_with fail
                    refine hK.out _ _ hJR (fun _ => ?_)
                    clear hK K
                    try simp only [Act.put, List.setIfInBounds_toArray, List.set_cons_zero, List.set_cons_succ]
                    refine wpAnyH_take (i := 6) (v := ?_) (by simp only [List.getElem?_toArray, List.getElem?_cons_zero, List.getElem?_cons_succ]; rfl) (by kernel_rfl) (by kernel_rfl) (by kernel_rfl) (fun _ _ _ h => h) (Or.inl ⟨by rfl, ?_⟩) hJR ?_
                    rotate_left
                    · (intro wq hSw; go_simp; all_goals with_reducible rfl)
                    try simp only [Act.put, List.setIfInBounds_toArray, List.set_cons_zero, List.set_cons_succ]
                    refine wpAnyH_take (i := 7) (v := ?_) (by simp only [List.getElem?_toArray, List.getElem?_cons_zero, List.getElem?_cons_succ]; rfl) (by kernel_rfl) (by kernel_rfl) (by kernel_rfl) (fun _ _ _ h => h) (Or.inl ⟨by rfl, ?_⟩) hJR ?_
                    rotate_left
                    · (intro wq hSw; go_simp; all_goals with_reducible rfl)
                    try simp only [Act.put, List.setIfInBounds_toArray, List.set_cons_zero, List.set_cons_succ]
                    refine wpAnyH_done (by kernel_rfl) ?_ _
                    refine NoPanic.normal ?_
                    rw [HWY.out]
                    obtain ⟨w10, hw10, hM10⟩ : ∃ q, w9.drew.drew = q ∧ Mod none_ w9 q := ⟨_, rfl, ((Mod.refl _ _).drew).drew⟩
                    rw [hw10]
                    have HI10 := Lib.hid (HI9.out.keep hM10); have HA10 := Lib.hid (hM10.blk HA9.out (fun h => h)); have HT10 := Lib.hid (hM10.blk HT9.out (fun h => h))
                    clear hM10 hw10 hJR HI9 HA9 HT9 HWX HWY HC1 HC2 HC3 HC4
                    have t0 := HT10.out.cell (j := 0) rfl; have t1 := HT10.out.cell (j := 1) rfl; have r0 := HA10.out.cell (j := 0) rfl; have r1 := HA10.out.cell (j := 1) rfl; have f0 := HA10.out.frozen 0; have f1 := HA10.out.frozen 1
                    go_upto_region 21 with fail
                    obtain ⟨w11, hw11, hA11, hM11⟩ : ∃ w11, ((w10.setCell ⟨A, 0, none⟩ (.int .i64 RX)).setCell ⟨A, 1, none⟩ (.int .i64 RY)) = w11 ∧ Blk w11 A [.int .i64 RX, .int .i64 RY] 23 ∧ Mod (only A) w10 w11 :=
                      ⟨_, rfl, ((HA10.out.set 0 _).set 1 _).cs rfl, ((Mod.refl _ _).setCell (p := ⟨A, 0, none⟩) (fun _ => only_self A) _).setCell (p := ⟨A, 1, none⟩) (fun _ => only_self A) _⟩
                    rw [hw11]
                    have HI11 := Lib.hid (HI10.out.new HA10.out hM11); have HA11 := Lib.hid hA11
                    clear hw11 hA11 hM11 HI10 HA10 HT10 t0 t1 r0 r1 f0 f1 g1 g2 g3 g4
                    have a0 := HA11.out.cell (j := 0) rfl; have a1 := HA11.out.cell (j := 1) rfl
                    have hsl := fun q' : World => fun hb : BrdP q' b W H E => solid_any q' hb RX RY HRR.out.1 HRR.out.2
                    obtain ⟨D, hD⟩ : ∃ D, decide (Bd.atOf W H E RX RY = 35) = D := ⟨_, rfl⟩
                    simp only [hD] at hsl
                    have HSL := Lib.hid hsl; have HD := Lib.hid hD
                    clear hsl hD
                    go_wp2_with (go_at_call 28; refine (HSL.out _ HI11.out.j.brd).mono ?_; rintro r w12 ⟨rfl, hM⟩; have HI12 := Lib.hid (HI11.out.keep hM); have HA12 := Lib.hid (hM.blk HA11.out (fun h => h)); clear hM)
                    go_roundw
                    case rel =>
                      refine ⟨k + 1, D, RX, RY, rfl, by go_num, by omega, HI12.out, HA12.out, HRR.out.1, HRR.out.2, fun hd => ?_, fun hd => ?_⟩
                      · have h35 : Bd.atOf W H E RX RY = 35 := of_decide_eq_true (HD.out.trans hd)
                        have hfl := HFL.out
                        rw [if_pos h35] at hfl
                        exact hfl
                      · have h35 : ¬ Bd.atOf W H E RX RY = 35 := of_decide_eq_false (HD.out.trans hd)
                        have hfl := HFL.out
                        rw [if_neg h35] at hfl
                        refine ⟨h35, ?_⟩
                        rw [← HJ.out]
                        exact hfl
                    case measure => simp [intOf]; omega
                · have hk4' : ¬ (k : Int) < 4 := by omega
                  have hk0 : 4 - k = 0 := by omega
                  have hE := HE.out
                  have HE0 := Lib.hid hE
                  have HK0 := Lib.hid hk0
                  clear hE hk0
                  go_wp2_with fail
                  go_meet
                  exact ⟨e, p, q, rfl, HI.out, HA.out, 4 - k, HK0.out, HE0.out⟩
            case rest =>
              obtain ⟨e, p, q, rfl, hI, hA, z, rfl, hE⟩ := hcut
              obtain ⟨w10, rfl⟩ : ∃ q, q = wc := ⟨_, rfl⟩
              have HI := Lib.hid hI; have HA := Lib.hid hA; have HE := Lib.hid hE
              clear hI hA hE HI7 HA7
              cases e with
              | true =>
                have hee := HE.out.yes rfl
                have hon : on = false := (congrArg (fun r : Sh × Int × Bool => r.2.2) hee).symm
                have hx := congrArg (fun r : Sh × Int × Bool => r.1) hee
                have hxx := HI.out.x
                rw [← show ({ t with ax := p, ay := q } : Sh) = x from hx] at hxx
                have x2 := hxx.cell (j := 2) (v := .int .i64 p) rfl; have x3 := hxx.cell (j := 3) (v := .int .i64 q) rfl
                have a0 := HA.out.cell (j := 0) rfl; have a1 := HA.out.cell (j := 1) rfl
                have nv := fun q' : World => neV q' p q p q
                simp only [beq_self_eq_true, Bool.and_self, Bool.not_true] at nv
                subst hon
                clear hee hx hxx
                go_wp2_with fail
                go_ret
                exact ⟨rfl, HI.out.j.m⟩
              | false =>
                obtain ⟨hn, hee⟩ := HE.out.no rfl
                rw [flight] at hee
                have hlw : IntKind.i64.wrap (t.left - 1) = t.left - 1 := wrap_in _ (by have := HOK.out.left; unfold Bd.I64 at this ⊢; omega)
                rw [hlw] at hee
                have hon : on = true := (show on = decide (0 < t.left - 1) from (congrArg (fun r : Sh × Int × Bool => r.2.2) hee).symm).trans (decide_eq_true (by omega))
                have hx : ({ t with ax := p, ay := q, left := t.left - 1 } : Sh) = x := congrArg (fun r : Sh × Int × Bool => r.1) hee
                have HXE := Lib.hid hx; have HNN := Lib.hid hn
                have hsl := fun q' : World => fun hb : BrdP q' b W H E => solid_any q' hb p q HE.out.i1 HE.out.i2
                rw [decide_eq_false hn] at hsl
                have HSL := Lib.hid hsl
                have hxx := HI.out.x
                rw [← hx] at hxx
                have x2 := hxx.cell (j := 2) (v := .int .i64 p) rfl; have x3 := hxx.cell (j := 3) (v := .int .i64 q) rfl
                have a0 := HA.out.cell (j := 0) rfl; have a1 := HA.out.cell (j := 1) rfl
                have nv := fun q' : World => neV q' p q p q
                simp only [beq_self_eq_true, Bool.and_self, Bool.not_true] at nv
                subst hon
                clear hee hx hxx hlw hn hsl
                go_upto_region 26 with (go_at_call 28; refine (HSL.out _ HI.out.j.brd).mono ?_; rintro r w12 ⟨rfl, hM⟩; have HI12 := Lib.hid (HI.out.keep hM); clear hM)
                clear x2 x3 a0 a1 HSL
                go_wp2_with (first | (refine wpList_load_blk rfl 28 (.tmp 8) rfl X rfl 28 x.cells _ HI12.out.x under_shot rfl size_shot ?_) | (refine wpList_store_blk rfl 28 (.tmp 3) (.tmp 150) rfl Z x.cells rfl rfl 28 _ HI12.out.j.shot size_shot rfl (one_shot x) ?_; intro w13 hZ13 hM13 hs13; clear hs13; have HJ13 := Lib.hid (HI12.out.j.put HZW.out hM13 hZ13); clear hM13 hZ13))
                go_roundw
                case rel =>
                  have hok := HOK.out
                  have hl1 := hok.left
                  unfold Bd.I64 at hl1
                  refine ⟨i + 1, x, by go_num, by omega, ?_, ?_, ?_, ?_, HJ13.out⟩
                  · rw [← HXE.out]
                    exact ⟨hok.id, hok.player, HE.out.i1, HE.out.i2, hok.sx, hok.sy, by unfold Bd.I64; simp only; omega⟩
                  · rw [← HXE.out]; exact HBX.out.1
                  · rw [← HXE.out]; exact HBX.out.2
                  · rw [← HXE.out]; exact HNN.out
                case measure => simp [intOf]; omega
          · have hl' : decide (1 < t.left) = false := decide_eq_false hl
            go_wp2_with fail
            go_ret
            exact ⟨rfl, HJ.out.m⟩
        · have hi60' : ¬ (i : Int) < 60 := by omega
          go_wp2_with fail
          go_ret
          exact ⟨rfl, HJ.out.m⟩
end Go.Proofs.YtinjlkceplhibaaDoor
