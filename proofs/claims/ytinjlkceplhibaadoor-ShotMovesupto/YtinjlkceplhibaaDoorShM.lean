/- ShotMoves: the walk. -/
import Derived.Test.YtinjlkceplhibaaDoorCrK
import Derived.Test.YtinjlkceplhibaaDoorShG
import Derived.Test.YtinjlkceplhibaaDoorShF
import Derived.Test.YtinjlkceplhibaaDoorBdRd
namespace Go.Proofs.YtinjlkceplhibaaDoor
open Go.RowKit

theorem blk_ne {w : World} {b b' : Nat} {cs ds : List Value} {t t' : TypeId} (h : Blk w b cs t) (k : Blk w b' ds t') (ht : t ≠ t') : b ≠ b' := by
  rintro rfl
  rw [Blk] at h k
  rw [h] at k
  injection k with k
  injection k with _ k
  exact ht k
theorem brdP_put {w w' : World} {b W H Z : Nat} {E : List Int} {cs : List Value} {t : TypeId} (h : BrdP w b W H E) (hZ : Blk w Z cs t) (h1 : t ≠ 90) (h2 : t ≠ 21) (hM : Mod (only Z) w w') : BrdP w' b W H E := by
  obtain ⟨g, cap, rest, k1, k2, k3⟩ := h.mem
  exact ⟨h.fine, g, cap, rest, hM.blk k1 (not_only (fun e => blk_ne hZ k1 h1 e.symm)), hM.blk k2 (not_only (fun e => blk_ne hZ k2 h2 e.symm)), k3⟩
theorem rbrd_put {w w' : World} {b W H Z : Nat} {E : List Int} {cs : List Value} {t : TypeId} (h : RBrd w b W H E) (hZ : Blk w Z cs t) (h1 : t ≠ 94) (h2 : t ≠ 21) (h3 : t ≠ 88) (hM : Mod (only Z) w w') : RBrd w' b W H E := by
  obtain ⟨m, cap, vs, rest, k1, k2, k3, k4, k5⟩ := h.mem
  refine ⟨h.fine, m, cap, vs, rest, hM.blk k1 (not_only (fun e => blk_ne hZ k1 h1 e.symm)), hM.blk k2 (not_only (fun e => blk_ne hZ k2 h3 e.symm)), k3, k4, fun y v hy => ?_⟩
  obtain ⟨g, c, r, l1, l2, l3⟩ := k5 y v hy
  exact ⟨g, c, r, l1, hM.blk l2 (not_only (fun e => blk_ne hZ l2 h2 e.symm)), l3⟩
theorem ownC_put {w w' : World} {base Z : Nat} {v : Value} {L : List Cr} {cs : List Value} {t : TypeId} (h : OwnC w base v L) (hZ : Blk w Z cs t) (h1 : t ≠ 25) (hM : Mod (only Z) w w') : OwnC w' base v L := by
  obtain ⟨k1, k2 | ⟨g, cap, cur, k3, k4, k5, k6⟩⟩ := h
  · exact ⟨k1, .inl k2⟩
  · have hg := (Array.getElem?_eq_some_iff.1 k5).1
    have hb : Blk w g cur.toList 25 := by rw [Blk, Array.toArray_toList]; exact k5
    have hb' := hM.blk hb (not_only (fun e => blk_ne hZ hb h1 e.symm))
    rw [Blk, Array.toArray_toList] at hb'
    exact ⟨k1, .inr ⟨g, cap, cur, k3, k4, hb', k6⟩⟩
/-- what the law's rounds find -/
structure MvS (Z T b d W H g n cap : Nat) (E : List Int) (L : List Cr) (base : Nat) (t : Sh) (w0 q : World) : Prop where
  z : Blk q Z t.cells 28
  t : Blk q T t.cells 28
  b : BrdP q b W H E
  d : RBrd q d W H E
  o : OwnC q base (.slice (some ⟨g, 0, none⟩) (n + 2) cap) (L ++ [mark (-77), mark (-78)])
  m : Mod none_ w0 q
theorem MvS.keep {Z T b d W H g n cap : Nat} {E : List Int} {L : List Cr} {base : Nat} {t : Sh} {w0 q q' : World} (h : MvS Z T b d W H g n cap E L base t w0 q) (hM : Mod none_ q q') : MvS Z T b d W H g n cap E L base t w0 q' :=
  ⟨hM.blk h.z (fun h => h), hM.blk h.t (fun h => h), h.b.none hM, h.d.none hM, h.o.keep hM, h.m.then hM⟩
theorem MvS.put {Z T b d W H g n cap : Nat} {E : List Int} {L : List Cr} {base : Nat} {t x : Sh} {w0 q q1 q2 : World} (h : MvS Z T b d W H g n cap E L base t w0 q) (hn : Z ≠ T ∧ w0.heap.size ≤ Z ∧ w0.heap.size ≤ T) (hM : Mod (only Z) q q1) (hZ : Blk q1 Z x.cells 28) (hM2 : Mod (only T) q1 q2) (hT : Blk q2 T x.cells 28) : MvS Z T b d W H g n cap E L base x w0 q2 := by
  have ht1 := hM.blk h.t (not_only (fun e => hn.1 e.symm))
  exact ⟨hM2.blk hZ (not_only hn.1), hT, brdP_put (brdP_put h.b h.z (by decide) (by decide) hM) ht1 (by decide) (by decide) hM2, rbrd_put (rbrd_put h.d h.z (by decide) (by decide) (by decide) hM) ht1 (by decide) (by decide) (by decide) hM2,
    ownC_put (ownC_put h.o h.z (by decide) hM) ht1 (by decide) hM2, (h.m.trans hM (fun j hj e => by have : j = Z := e; omega)).trans hM2 (fun j hj e => by have : j = T := e; omega)⟩
theorem MvS.new {Z T b d W H g n cap D : Nat} {E : List Int} {L : List Cr} {base : Nat} {t : Sh} {cs : List Value} {w0 q q' : World} (h : MvS Z T b d W H g n cap E L base t w0 q) (hD : Blk q D cs 28) (hn : Z < D ∧ T < D ∧ w0.heap.size ≤ D) (hM : Mod (only D) q q') : MvS Z T b d W H g n cap E L base t w0 q' :=
  ⟨hM.blk h.z (not_only (by omega)), hM.blk h.t (not_only (by omega)), brdP_put h.b hD (by decide) (by decide) hM, rbrd_put h.d hD (by decide) (by decide) (by decide) hM, ownC_put h.o hD (by decide) hM, h.m.trans hM (fun j hj e => by have : j = D := e; omega)⟩
theorem MvS.lt {Z T b d W H g n cap : Nat} {E : List Int} {L : List Cr} {base : Nat} {t : Sh} {w0 q : World} (h : MvS Z T b d W H g n cap E L base t w0 q) : Z < q.heap.size ∧ T < q.heap.size ∧ w0.heap.size ≤ q.heap.size := ⟨h.z.lt, h.t.lt, h.m.size⟩
theorem crs_front {w : World} {base g n cap : Nat} {L M : List Cr} (h : OwnC w base (.slice (some ⟨g, 0, none⟩) (n + 2) cap) (L ++ M)) (hok : ∀ c ∈ L, c.Ok) : Crs w w.heap.size (some ⟨g, 0, none⟩) L := by
  refine ⟨fun hp => ?_, hok⟩
  obtain ⟨sa, cap2, e, hat⟩ := h.at
  obtain ⟨g2, e2, _, h3, h4⟩ := hat (by rw [List.length_append]; omega)
  subst e2
  injection e with e
  injection e with e
  injection e with e
  subst e
  exact ⟨g, 0, rfl, h3, fun i c hc => h4 i c (by rw [List.getElem?_append_left (List.getElem?_eq_some_iff.1 hc).1]; exact hc)⟩
theorem flight_ok {W H : Nat} {E : List Int} {L : List Cr} : ∀ (k : Nat) (s : Sh), s.Ok → (flight W H E L k s).1.Ok := by
  intro k
  induction k with
  | zero =>
    intro s hs
    have h := IntKind.wrap_i64 (s.left - 1)
    exact ⟨hs.id, hs.player, hs.ax, hs.ay, hs.sx, hs.sy, by unfold Bd.I64 flight; simp only; rw [h]; omega⟩
  | succ k ih =>
    intro s hs
    have h1 := step_ok hs
    rw [flight]
    split
    · exact h1
    · split
      · exact h1
      · exact ih _ h1
set_option maxHeartbeats 8000000 in
set_option maxRecDepth 100000 in
theorem shotMoves_any (w : World) (hG : Sines w) (text : ByteArray) (htx : text.size ≤ 1048576) (sa : Option Addr) (n cp : Nat) (L : List Cr) (hn : L.length = n) (hn2 : n ≤ 1048576) (hL : Crs w w.heap.size sa L) (s : Sh) (hs : s.Ok) :
    Calls Tryd.prog 4 #[.string text, .slice sa n cp, s.agg] w fun e w' => e = .returned (.bool true) ∧ Mod none_ w w' := by
  have ha := fun (q : World) (h : Sines q) => alive16_any q h
  have hp := fun (q : World) => parse_any q text (by omega)
  have hrp := fun (q : World) => rparse_any q text htx
  have HA := Lib.hid ha; have HG := Lib.hid hG; have HP := Lib.hid hp; have HRP := Lib.hid hrp; have HL := Lib.hid hL; have HN := Lib.hid hn; have HS := Lib.hid hs
  clear ha hp hrp hG hL hn hs htx
  unfold Sh.agg
  go_enter Tryd.func4, Tryd.ntmps4
  go_upto_region 1 with fail
  obtain ⟨w1, hw1, hB1, hM1⟩ : ∃ w1, w.alloc (.cells s.cells.toArray 28) = w1 ∧ Blk w1 w.heap.size s.cells 28 ∧ Mod none_ w w1 := ⟨_, rfl, Blk.new w s.cells _, (Mod.refl none_ w).alloc _⟩
  rw [hw1]
  obtain ⟨Z, hZ⟩ : ∃ Z, w.heap.size = Z := ⟨_, rfl⟩
  rw [hZ] at hB1 ⊢
  have HB1 := Lib.hid hB1; have HM1 := Lib.hid hM1; have HZ := Lib.hid hZ
  clear hB1 hM1 hw1 hZ
  go_upto_region 3 with (go_at_call 15; refine (HA.out _ (HG.out.mod HM1.out)).mono ?_; rintro r w2 ⟨rfl, hM⟩; have HM2 := Lib.hid (HM1.out.then hM); have HB2 := Lib.hid (hM.blk HB1.out (fun h => h)); clear hM)
  clear HB1 HM1
  have hnum := fun (q : World) (e : Int) => num16_any q e
  have HNUM := Lib.hid hnum
  clear hnum
  cases hrd : Bd.read (Bd.runes text) with
  | bad =>
    go_wp2_with (first | (go_at_call 18; refine (HP.out _).mono ?_; rintro r w3 ⟨hpp, hM⟩; rw [hrd] at hpp; obtain rfl := hpp; have HM3 := Lib.hid (HM2.out.then hM); clear hM) | (go_at_call 19; refine (HRP.out _).mono ?_; rintro r w4 ⟨hpp, hM⟩; rw [hrd] at hpp; obtain rfl := hpp; have HM4 := Lib.hid (HM3.out.then hM); clear hM) | (go_at_call 20; refine (HNUM.out _ _).mono ?_; rintro r wz ⟨rfl, hwz⟩; replace hwz := hwz.symm; subst hwz))
    go_ret
    exact ⟨rfl, HM4.out⟩
  | place =>
    go_wp2_with (first | (go_at_call 18; refine (HP.out _).mono ?_; rintro r w3 ⟨hpp, hM⟩; rw [hrd] at hpp; obtain rfl := hpp; have HM3 := Lib.hid (HM2.out.then hM); clear hM) | (go_at_call 19; refine (HRP.out _).mono ?_; rintro r w4 ⟨hpp, hM⟩; rw [hrd] at hpp; obtain rfl := hpp; have HM4 := Lib.hid (HM3.out.then hM); clear hM) | (go_at_call 20; refine (HNUM.out _ _).mono ?_; rintro r wz ⟨rfl, hwz⟩; replace hwz := hwz.symm; subst hwz))
    go_ret
    exact ⟨rfl, HM4.out⟩
  | board W H E =>
    have hlent := fun (q : World) (hM : Mod none_ w q) => lent_any q sa n cp L HN.out hn2 ⟨((HL.out.mod hM (fun _ _ h => h)).row · |>.imp fun b h => h.imp fun off h => ⟨h.1, by have := h.2.1; have := hM.size; omega, h.2.2⟩), HL.out.ok⟩
    have HLENT := Lib.hid hlent
    clear hlent
    go_upto_region 10 with (first | (go_at_call 18; refine (HP.out _).mono ?_; rintro r w3 ⟨hpp, hM⟩; rw [hrd] at hpp; obtain ⟨b, rfl, hbb, hB⟩ := hpp; have HM3 := Lib.hid (HM2.out.then hM); have HZ3 := Lib.hid (hM.blk HB2.out (fun h => h)); have HBD3 := Lib.hid hB; clear hM hbb hB) |
      (go_at_call 19; refine (HRP.out _).mono ?_; rintro r w4 ⟨hpp, hM⟩; rw [hrd] at hpp; obtain ⟨d, rfl, hbb, hB⟩ := hpp; have HM4 := Lib.hid (HM3.out.then hM); have HZ4 := Lib.hid (hM.blk HZ3.out (fun h => h)); have HBD4 := Lib.hid (HBD3.out.none hM); have HRB4 := Lib.hid hB; clear hM hbb hB) |
      (go_at_call 20; refine (HNUM.out _ _).mono ?_; rintro r wz ⟨rfl, hwz⟩; replace hwz := hwz.symm; subst hwz) |
      (go_at_call 21; refine (HLENT.out _ HM4.out).mono ?_; rintro r w5 ⟨g, cap, rfl, hO, hM⟩; have HM5 := Lib.hid (HM4.out.then hM); have HZ5 := Lib.hid (hM.blk HZ4.out (fun h => h)); have HBD5 := Lib.hid (HBD4.out.none hM); have HRB5 := Lib.hid (HRB4.out.none hM); have HO5 := Lib.hid hO; clear hM hO))
    clear HB2 HM2 hrd HP HRP HA HG HM3 HZ3 HBD3 HM4 HZ4 HBD4 HRB4 HLENT
    obtain ⟨base, hbase⟩ : ∃ x, w4.heap.size = x := ⟨_, rfl⟩
    rw [hbase] at HO5
    clear hbase
    go_upto_region 11 with (first | (refine wpList_load_blk rfl 28 (.tmp 5) rfl Z rfl 28 s.cells _ HZ5.out under_shot rfl size_shot ?_) | (refine wpList_store_new rfl 28 (.tmp 12) (.tmp 48) rfl 28 _ s.cells rfl rfl size_shot rfl (one_shot s) ?_; intro w6 hX hM6 hs6))
    obtain ⟨T, hTe⟩ : ∃ X, w5.heap.size = X := ⟨_, rfl⟩
    rw [hTe] at hX ⊢
    have hV6 : MvS Z T b d W H g n cap E L base s w w6 := ⟨hM6.blk HZ5.out (fun h => h), hX, HBD5.out.none hM6, HRB5.out.none hM6, HO5.out.keep hM6, HM5.out.then hM6⟩
    have hZT : Z ≠ T ∧ w.heap.size ≤ Z ∧ w.heap.size ≤ T := by have h1 := HZ5.out.lt; have h2 := HM5.out.size; have h3 := HZ.out; omega
    have HV6 := Lib.hid hV6; have HZT := Lib.hid hZT
    clear hX hM6 hs6 hTe hV6 hZT HZ HM5 HZ5 HBD5 HRB5 HO5
    go_wp2_with fail
    go_loopw [13] (fun u wr => ∃ (i : Nat) (t : Sh), u = .int .i64 i ∧ i ≤ 60 ∧ t.Ok ∧ MvS Z T b d W H g n cap E L base t w wr) (fun u _ => 60 - (intOf u).toNat)
    case atStart => exact ⟨0, s, rfl, by omega, HS.out, HV6.out⟩
    case round =>
      obtain ⟨i, t, rfl, hi, hok, hV⟩ := hrel
      have HV := Lib.hid hV; have HOK := Lib.hid hok
      clear hV hok HV6
      by_cases hi60 : i < 60
      · have hi60' : (i : Int) < 60 := by omega
        have hmv := fun (q : World) (hv : MvS Z T b d W H g n cap E L base t w q) => move_any q hv.b (some ⟨g, 0, none⟩) n cap L HN.out (by omega) (crs_front hv.o HL.out.ok) t HOK.out
        have hrm := fun (q : World) (hv : MvS Z T b d W H g n cap E L base t w q) => rmove_any q hv.d sa n cp L HN.out (by omega) ⟨((HL.out.mod hv.m (fun _ _ h => h)).row · |>.imp fun b h => h.imp fun off h => ⟨h.1, by have := h.2.1; have := hv.m.size; omega, h.2.2⟩), HL.out.ok⟩ t HOK.out
        have hxo := flight_ok (W := W) (H := H) (E := E) (L := L) 4 t HOK.out
        obtain ⟨R, hR⟩ : ∃ R, flight W H E L 4 t = R := ⟨_, rfl⟩
        rw [hR] at hxo
        simp only [hR] at hmv hrm
        clear hR
        obtain ⟨x, h, on⟩ := R
        simp only at hmv hrm hxo
        unfold Sh.agg at hmv hrm
        have hkt := fun (q : World) (hv : MvS Z T b d W H g n cap E L base t w q) => kept_any q base g n cap sa cp L HN.out hn2 hv.o (HL.out.mod hv.m (fun _ _ h => h)).src
        have HMV := Lib.hid hmv; have HRM := Lib.hid hrm; have HXO := Lib.hid hxo; have HKT := Lib.hid hkt
        clear hmv hrm hxo hkt
        obtain ⟨sa2, cap2, hc1, hc2⟩ := HV.out.o.at
        have hcap : n ≤ cap := by
          obtain ⟨_, h2 | ⟨g', cap', cur, h3, h4, h5, h6, _⟩⟩ := HV.out.o
          · cases h2.1
          · injection h3 with _ _ h3
            rw [List.length_append] at h6
            have := HN.out
            omega
        have hcap2 : (n : Int) ≤ (cap : Int) := by omega
        clear hc1 hc2
        go_upto_region 14 with fail
        have hS : MvS Z T b d W H g n cap E L base t w wr.drew := HV.out.keep (Mod.refl _ _).drew
        go_cut [14, 15, 16] (fun v v15 v16 wx => ∃ X, v = .pointer (some ⟨X, 0, none⟩) ∧ v15 = .int .i64 h ∧ v16 = .bool on ∧ MvS Z T b d W H g n cap E L base t w wx ∧ Blk wx X x.cells 28 ∧ Z < X ∧ T < X ∧ w.heap.size ≤ X)
        case first =>
          refine wp_region_noPanic ?_
          refine wp_region_held_drew (S := MvS Z T b d W H g n cap E L base t w) (by kernel_rfl) hS (fun hHeld => ?_)
          clear hHeld
          refine wpAnyH_take (i := 0) (v := ?_) (by simp only [List.getElem?_toArray, List.getElem?_cons_zero]; rfl) (by kernel_rfl) (by kernel_rfl) (by kernel_rfl) (fun _ _ _ h => h) (Or.inl ⟨by rfl, ?_⟩) hS ?_
          rotate_left
          · (intro wq hSw; go_simp; all_goals with_reducible rfl)
          try simp only [Act.put, List.setIfInBounds_toArray, List.set_cons_zero, List.set_cons_succ]
          refine wpAnyH_take (i := 1) (v := ?_) (by simp only [List.getElem?_toArray, List.getElem?_cons_zero, List.getElem?_cons_succ]; rfl) (by kernel_rfl) (by kernel_rfl) (by kernel_rfl) (fun _ _ _ h => h) (Or.inl ⟨by rfl, ?_⟩) hS ?_
          rotate_left
          · (intro wq hSw; go_simp; all_goals with_reducible rfl)
          try simp only [Act.put, List.setIfInBounds_toArray, List.set_cons_zero, List.set_cons_succ]
          refine wpAnyH_take (i := 2) (v := ?_) (by simp only [List.getElem?_toArray, List.getElem?_cons_zero, List.getElem?_cons_succ]; rfl) (by kernel_rfl) (by kernel_rfl) (by kernel_rfl) (fun _ _ _ h => h) (Or.inl ⟨by rfl, ?_⟩) hS ?_
          rotate_left
          · (intro wq hSw; go_simp; all_goals with_reducible rfl)
          try simp only [Act.put, List.setIfInBounds_toArray, List.set_cons_zero, List.set_cons_succ]
          refine wpAnyH_take (i := 3) (v := ?_) (by simp only [List.getElem?_toArray, List.getElem?_cons_zero, List.getElem?_cons_succ]; rfl) (by kernel_rfl) (by kernel_rfl) (by kernel_rfl) (fun _ _ _ h => h) (Or.inl ⟨by rfl, ?_⟩) hS ?_
          rotate_left
          · (intro wq hSw; go_simp; all_goals with_reducible rfl)
          try simp only [Act.put, List.setIfInBounds_toArray, List.set_cons_zero, List.set_cons_succ]
          refine wpAnyH_take (i := 4) (v := ?_) (by simp only [List.getElem?_toArray, List.getElem?_cons_zero, List.getElem?_cons_succ]; rfl) (by kernel_rfl) (by kernel_rfl) (by kernel_rfl) (fun _ _ _ h => h) (Or.inl ⟨by rfl, ?_⟩) hS ?_
          rotate_left
          · (intro wq hSw; go_simp; all_goals with_reducible rfl)
          try simp only [Act.put, List.setIfInBounds_toArray, List.set_cons_zero, List.set_cons_succ]
          refine wpAnyH_take (i := 5) (v := _) (by simp only [List.getElem?_toArray, List.getElem?_cons_zero, List.getElem?_cons_succ]; rfl) (by kernel_rfl) (by kernel_rfl) (by kernel_rfl) (fun _ _ _ h => h) (yieldsIf_load_mid (by rfl) 28 (.tmp 5) rfl Z 0 rfl t.cells _ (fun _ h => blk_mid h.z 0 _ (fun j v hj => by rw [Nat.zero_add]; exact hj)) under_shot rfl size_shot) hS ?_
          try simp only [Act.put, List.setIfInBounds_toArray, List.set_cons_zero, List.set_cons_succ]
          refine wpAnyH_ready (rs := [6, 11]) (by kernel_rfl) (by simp) ?_
          refine AllReadyH.cons (by simp only [List.getElem?_toArray, List.getElem?_cons_zero, List.getElem?_cons_succ]; rfl) (fun K hK => ?_) (AllReadyH.cons (by simp only [List.getElem?_toArray, List.getElem?_cons_zero, List.getElem?_cons_succ]; rfl) (fun K hK => ?_) (AllReadyH.nil))
          · go_simp
            go_at_call 22
            refine (HMV.out _ hS).mono ?_
            rintro r w_6 ⟨rfl, hM_6⟩
            have hS_6 := MvS.keep hS hM_6
            try (replace hbk := hM_6.blk hbk (fun h => h))
            go_wp2_with fail
            refine hK.out _ _ hS_6 (fun _ => ?_)
            clear hK K
            try simp only [Act.put, List.setIfInBounds_toArray, List.set_cons_zero, List.set_cons_succ]
            refine wpAnyH_take (i := 7) (v := ?_) (by simp only [List.getElem?_toArray, List.getElem?_cons_zero, List.getElem?_cons_succ]; rfl) (by kernel_rfl) (by kernel_rfl) (by kernel_rfl) (fun _ _ _ h => h) (Or.inl ⟨by rfl, ?_⟩) hS_6 ?_
            rotate_left
            · (intro wq hSw; go_simp; all_goals with_reducible rfl)
            try simp only [Act.put, List.setIfInBounds_toArray, List.set_cons_zero, List.set_cons_succ]
            refine wpAnyH_take (i := 8) (v := ?_) (by simp only [List.getElem?_toArray, List.getElem?_cons_zero, List.getElem?_cons_succ]; rfl) (by kernel_rfl) (by kernel_rfl) (by kernel_rfl) (fun _ _ _ h => h) (Or.inl ⟨by rfl, ?_⟩) hS_6 ?_
            rotate_left
            · (intro wq hSw; go_simp; all_goals with_reducible rfl)
            try simp only [Act.put, List.setIfInBounds_toArray, List.set_cons_zero, List.set_cons_succ]
            refine wpAnyH_take (i := 9) (v := ?_) (by simp only [List.getElem?_toArray, List.getElem?_cons_zero, List.getElem?_cons_succ]; rfl) (by kernel_rfl) (by kernel_rfl) (by kernel_rfl) (fun _ _ _ h => h) (Or.inl ⟨by rfl, ?_⟩) hS_6 ?_
            rotate_left
            · (intro wq hSw; go_simp; all_goals with_reducible rfl)
            try simp only [Act.put, List.setIfInBounds_toArray, List.set_cons_zero, List.set_cons_succ]
            refine wpAnyH_take (i := 10) (v := ?_) (by simp only [List.getElem?_toArray, List.getElem?_cons_zero, List.getElem?_cons_succ]; rfl) (by kernel_rfl) (by kernel_rfl) (by kernel_rfl) (fun _ _ _ h => h) (Or.inl ⟨by rfl, ?_⟩) hS_6 ?_
            rotate_left
            · (intro wq hSw; go_simp; all_goals with_reducible rfl)
            try simp only [Act.put, List.setIfInBounds_toArray, List.set_cons_zero, List.set_cons_succ]
            refine wpAnyH_ready (rs := [11]) (by kernel_rfl) (by simp) ?_
            refine AllReadyH.cons (by simp only [List.getElem?_toArray, List.getElem?_cons_zero, List.getElem?_cons_succ]; rfl) (fun K hK => ?_) (AllReadyH.nil)
            rw [if_pos (by rfl)]
            have hlt := MvS.lt hS_6
            have hS_6_11 := MvS.keep hS_6 ((Mod.refl none_ _).alloc (.cells #[.int .i64 0, .int .i64 0, .int .i64 0, .int .i64 0, .int .i64 0, .int .i64 0, .int .i64 0] 28))
            have hbk := Blk.new w_6 shot0.cells 28
            go_simp
            refine hK.out _ _ hS_6_11 (fun _ => ?_)
            clear hK K
            try simp only [Act.put, List.setIfInBounds_toArray, List.set_cons_zero, List.set_cons_succ]
            refine wpAnyH_ready (rs := [12]) (by kernel_rfl) (by simp) ?_
            refine AllReadyH.cons (by simp only [List.getElem?_toArray, List.getElem?_cons_zero, List.getElem?_cons_succ]; rfl) (fun K hK => ?_) (AllReadyH.nil)
            rw [if_pos (by rfl)]
            refine wp_store_blk 28 (.tmp 14) (.tmp 61) rfl (w_6.heap.size) x.cells rfl rfl 28 _ hbk size_shot rfl (one_shot x) ?_
            intro w_6_11_12 hbk2 hM_6_11_12 _
            have hS_6_11_12 := MvS.new (D := w_6.heap.size) hS_6_11 hbk (by have h4 := hlt.1; have h5 := hlt.2.1; have h6 := hlt.2.2; omega) hM_6_11_12
            refine hK.out _ _ hS_6_11_12 (fun _ => ?_)
            clear hK K
            try simp only [Act.put]
            refine wpAnyH_take (i := 13) (v := ?_) (by simp only [List.getElem?_toArray, List.getElem?_cons_zero, List.getElem?_cons_succ]; rfl) (by kernel_rfl) (by kernel_rfl) (by kernel_rfl) (fun _ _ _ h => h) (Or.inl ⟨by rfl, ?_⟩) hS_6_11_12 ?_
            rotate_left
            · (intro wq hSw; go_simp; all_goals with_reducible rfl)
            try simp only [Act.put, List.setIfInBounds_toArray, List.set_cons_zero, List.set_cons_succ]
            refine wpAnyH_take (i := 14) (v := ?_) (by simp only [List.getElem?_toArray, List.getElem?_cons_zero, List.getElem?_cons_succ]; rfl) (by kernel_rfl) (by kernel_rfl) (by kernel_rfl) (fun _ _ _ h => h) (Or.inl ⟨by rfl, ?_⟩) hS_6_11_12 ?_
            rotate_left
            · (intro wq hSw; go_simp; all_goals with_reducible rfl)
            try simp only [Act.put, List.setIfInBounds_toArray, List.set_cons_zero, List.set_cons_succ]
            refine wpAnyH_done (by kernel_rfl) ?_ _
            refine NoPanic.normal ?_
            go_wp2
            go_meet
            exact ⟨_, rfl, rfl, rfl, hS_6_11_12, hbk2, hlt.1, hlt.2.1, hlt.2.2⟩
          · rw [if_pos (by rfl)]
            have hlt := MvS.lt HV.out
            have hS_11 := MvS.keep hS ((Mod.refl none_ _).alloc (.cells #[.int .i64 0, .int .i64 0, .int .i64 0, .int .i64 0, .int .i64 0, .int .i64 0, .int .i64 0] 28))
            have hbk := Blk.new wr.drew shot0.cells 28
            go_simp
            refine hK.out _ _ hS_11 (fun _ => ?_)
            clear hK K
            try simp only [Act.put, List.setIfInBounds_toArray, List.set_cons_zero, List.set_cons_succ]
            refine wpAnyH_ready (rs := [6]) (by kernel_rfl) (by simp) ?_
            refine AllReadyH.cons (by simp only [List.getElem?_toArray, List.getElem?_cons_zero, List.getElem?_cons_succ]; rfl) (fun K hK => ?_) (AllReadyH.nil)
            go_simp
            go_at_call 22
            refine (HMV.out _ hS_11).mono ?_
            rintro r w_11_6 ⟨rfl, hM_11_6⟩
            have hS_11_6 := MvS.keep hS_11 hM_11_6
            try (replace hbk := hM_11_6.blk hbk (fun h => h))
            go_wp2_with fail
            refine hK.out _ _ hS_11_6 (fun _ => ?_)
            clear hK K
            try simp only [Act.put, List.setIfInBounds_toArray, List.set_cons_zero, List.set_cons_succ]
            refine wpAnyH_take (i := 7) (v := ?_) (by simp only [List.getElem?_toArray, List.getElem?_cons_zero, List.getElem?_cons_succ]; rfl) (by kernel_rfl) (by kernel_rfl) (by kernel_rfl) (fun _ _ _ h => h) (Or.inl ⟨by rfl, ?_⟩) hS_11_6 ?_
            rotate_left
            · (intro wq hSw; go_simp; all_goals with_reducible rfl)
            try simp only [Act.put, List.setIfInBounds_toArray, List.set_cons_zero, List.set_cons_succ]
            refine wpAnyH_take (i := 8) (v := ?_) (by simp only [List.getElem?_toArray, List.getElem?_cons_zero, List.getElem?_cons_succ]; rfl) (by kernel_rfl) (by kernel_rfl) (by kernel_rfl) (fun _ _ _ h => h) (Or.inl ⟨by rfl, ?_⟩) hS_11_6 ?_
            rotate_left
            · (intro wq hSw; go_simp; all_goals with_reducible rfl)
            try simp only [Act.put, List.setIfInBounds_toArray, List.set_cons_zero, List.set_cons_succ]
            refine wpAnyH_take (i := 9) (v := ?_) (by simp only [List.getElem?_toArray, List.getElem?_cons_zero, List.getElem?_cons_succ]; rfl) (by kernel_rfl) (by kernel_rfl) (by kernel_rfl) (fun _ _ _ h => h) (Or.inl ⟨by rfl, ?_⟩) hS_11_6 ?_
            rotate_left
            · (intro wq hSw; go_simp; all_goals with_reducible rfl)
            try simp only [Act.put, List.setIfInBounds_toArray, List.set_cons_zero, List.set_cons_succ]
            refine wpAnyH_take (i := 10) (v := ?_) (by simp only [List.getElem?_toArray, List.getElem?_cons_zero, List.getElem?_cons_succ]; rfl) (by kernel_rfl) (by kernel_rfl) (by kernel_rfl) (fun _ _ _ h => h) (Or.inl ⟨by rfl, ?_⟩) hS_11_6 ?_
            rotate_left
            · (intro wq hSw; go_simp; all_goals with_reducible rfl)
            try simp only [Act.put, List.setIfInBounds_toArray, List.set_cons_zero, List.set_cons_succ]
            refine wpAnyH_ready (rs := [12]) (by kernel_rfl) (by simp) ?_
            refine AllReadyH.cons (by simp only [List.getElem?_toArray, List.getElem?_cons_zero, List.getElem?_cons_succ]; rfl) (fun K hK => ?_) (AllReadyH.nil)
            rw [if_pos (by rfl)]
            refine wp_store_blk 28 (.tmp 14) (.tmp 61) rfl (wr.heap.size) x.cells rfl rfl 28 _ hbk size_shot rfl (one_shot x) ?_
            intro w_11_6_12 hbk2 hM_11_6_12 _
            have hS_11_6_12 := MvS.new (D := wr.heap.size) hS_11_6 hbk (by have h4 := hlt.1; have h5 := hlt.2.1; have h6 := hlt.2.2; omega) hM_11_6_12
            refine hK.out _ _ hS_11_6_12 (fun _ => ?_)
            clear hK K
            try simp only [Act.put]
            refine wpAnyH_take (i := 13) (v := ?_) (by simp only [List.getElem?_toArray, List.getElem?_cons_zero, List.getElem?_cons_succ]; rfl) (by kernel_rfl) (by kernel_rfl) (by kernel_rfl) (fun _ _ _ h => h) (Or.inl ⟨by rfl, ?_⟩) hS_11_6_12 ?_
            rotate_left
            · (intro wq hSw; go_simp; all_goals with_reducible rfl)
            try simp only [Act.put, List.setIfInBounds_toArray, List.set_cons_zero, List.set_cons_succ]
            refine wpAnyH_take (i := 14) (v := ?_) (by simp only [List.getElem?_toArray, List.getElem?_cons_zero, List.getElem?_cons_succ]; rfl) (by kernel_rfl) (by kernel_rfl) (by kernel_rfl) (fun _ _ _ h => h) (Or.inl ⟨by rfl, ?_⟩) hS_11_6_12 ?_
            rotate_left
            · (intro wq hSw; go_simp; all_goals with_reducible rfl)
            try simp only [Act.put, List.setIfInBounds_toArray, List.set_cons_zero, List.set_cons_succ]
            refine wpAnyH_done (by kernel_rfl) ?_ _
            refine NoPanic.normal ?_
            go_wp2
            go_meet
            exact ⟨_, rfl, rfl, rfl, hS_11_6_12, hbk2, hlt.1, hlt.2.1, hlt.2.2⟩
        case rest =>
          obtain ⟨X, rfl, rfl, rfl, hV, hX, hx1⟩ := hcut
          obtain ⟨w7, rfl⟩ : ∃ q, q = wc := ⟨_, rfl⟩
          have HV7 := Lib.hid hV; have HX7 := Lib.hid hX; have HX1 := Lib.hid hx1
          clear hV hX hx1 hS HV HMV
          go_upto_region 16 with (first | (refine wpList_load_blk rfl 28 (.tmp 12) rfl T rfl 28 t.cells _ HV7.out.t under_shot rfl size_shot ?_) | (go_at_call 23; refine (HRM.out _ HV7.out).mono ?_; rintro r w8 ⟨rfl, hM⟩; have HV8 := Lib.hid (HV7.out.keep hM); have HX8 := Lib.hid (hM.blk HX7.out (fun h => h)); clear hM) | (refine wpList_store_new rfl 28 (.tmp 17) (.tmp 69) rfl 28 _ x.cells rfl rfl size_shot rfl (one_shot x) ?_; intro w9 hY hM9 hs9))
          obtain ⟨Y, hYe⟩ : ∃ Y, w8.heap.size = Y := ⟨_, rfl⟩
          rw [hYe] at hY ⊢
          have HV9 := Lib.hid (HV8.out.keep hM9); have HX9 := Lib.hid (hM9.blk HX8.out (fun h => h)); have HY9 := Lib.hid hY
          have HXY := Lib.hid (show X ≠ Y by have := HX8.out.lt; omega)
          have HYN := Lib.hid (show Z < Y ∧ T < Y from by have h1 := HV8.out.z.lt; have h2 := HV8.out.t.lt; omega)
          clear hY hM9 hs9 hYe HV7 HX7 HV8 HX8 HRM
          have hne := fun q : World => neSh q x x
          rw [Sh.beq_self] at hne
          simp only [Sh.agg, Bool.not_true] at hne
          have e1 : (h != h) = false := by simp
          have e2 : (on != on) = false := by simp
          go_upto_region 18 with (first | (refine wpList_load_blk rfl 28 (.tmp 14) rfl X rfl 28 x.cells _ HX9.out under_shot rfl size_shot ?_) | (refine wpList_load_blk rfl 28 (.tmp 17) rfl Y rfl 28 x.cells _ HY9.out under_shot rfl size_shot ?_) | (go_at_call 24; refine (HKT.out _ HV9.out).mono ?_; rintro r w10 ⟨rfl, hM⟩; have HV10 := Lib.hid (HV9.out.keep hM); have HX10 := Lib.hid (hM.blk HX9.out (fun h => h)); have HY10 := Lib.hid (hM.blk HY9.out (fun h => h)); clear hM))
          clear hne e1 e2 HV9 HX9 HY9 HKT
          cases on with
          | false =>
            go_wp2_with fail
            go_ret
            exact ⟨rfl, HV10.out.m⟩
          | true =>
            go_upto_region 21 with (first | (refine wpList_load_blk rfl 28 (.tmp 14) rfl X rfl 28 x.cells _ HX10.out under_shot rfl size_shot ?_) | (refine wpList_store_blk rfl 28 (.tmp 5) (.tmp 93) rfl Z x.cells rfl rfl 28 _ HV10.out.z size_shot rfl (one_shot x) ?_; intro w11 hZ11 hM11 hs11; clear hs11))
            have HY11 := Lib.hid (hM11.blk HY10.out (not_only (by have := HYN.out; omega)))
            have HT11 := Lib.hid (hM11.blk HV10.out.t (not_only (fun e => HZT.out.1 e.symm)))
            have HZ11 := Lib.hid hZ11; have HM11 := Lib.hid hM11
            clear hZ11 hM11
            go_wp2_with (first | (refine wpList_load_blk rfl 28 (.tmp 17) rfl Y rfl 28 x.cells _ HY11.out under_shot rfl size_shot ?_) | (refine wpList_store_blk rfl 28 (.tmp 12) (.tmp 94) rfl T x.cells rfl rfl 28 _ HT11.out size_shot rfl (one_shot x) ?_; intro w12 hT12 hM12 hs12; clear hs12; have HV12 := Lib.hid (HV10.out.put HZT.out HM11.out HZ11.out hM12 hT12); clear hT12 hM12))
            go_roundw
            case rel => exact ⟨i + 1, x, by go_num, by omega, HXO.out, HV12.out⟩
            case measure => simp [intOf]; omega
      · have hi60' : ¬ (i : Int) < 60 := by omega
        go_wp2_with fail
        go_ret
        exact ⟨rfl, HV.out.m⟩
end Go.Proofs.YtinjlkceplhibaaDoor
