/- BoardPlaces: the law's walk. -/
import Derived.Test.YtlndgnlkfhlekaaBdRe
import Derived.Test.YtlndgnlkfhlekaaBdSp
namespace Go.Proofs.Ytlndgnlkfhlekaa
open Go.RowKit

theorem size_spot : (Try.prog.info? 38).map (·.size) = some 5 := by kernel_rfl
theorem one5 (a b c d e : Int) : ∀ v ∈ [Value.int .i64 a, .int .i64 b, .int .i64 c, .int .i64 d, .int .i64 e], v.oneCell' = true := by
  intro v hv
  simp only [List.mem_cons, List.not_mem_nil, or_false] at hv
  rcases hv with rfl | rfl | rfl | rfl | rfl <;> rfl
/-- the spot as it lies in memory, and what a call may have done -/
structure SpotS (Z : Nat) (x y half cx cy : Int) (w0 q : World) : Prop where
  a : q.rangeAt Z 0 [.int .i64 x, .int .i64 y]
  k : q.cell? ⟨Z, 2, none⟩ = some (.int .i64 half)
  h : q.cell? ⟨Z, 3, none⟩ = some (.int .i64 cx)
  j : q.cell? ⟨Z, 4, none⟩ = some (.int .i64 cy)
  m : Mod none_ w0 q
theorem SpotS.none {Z : Nat} {x y half cx cy : Int} {w0 q q' : World} (s : SpotS Z x y half cx cy w0 q) (hM : Mod none_ q q') : SpotS Z x y half cx cy w0 q' :=
  ⟨rangeAt_none s.a hM, hM.cellS s.k (fun h => h), hM.cellS s.h (fun h => h), hM.cellS s.j (fun h => h), s.m.then hM⟩
theorem SpotS.of {Z : Nat} {x y half cx cy : Int} {w0 q : World} (hB : Blk q Z [.int .i64 x, .int .i64 y, .int .i64 half, .int .i64 cx, .int .i64 cy] 38) (hM : Mod none_ w0 q) : SpotS Z x y half cx cy w0 q :=
  ⟨fun n v hn => by
      match n, hn with
      | 0, hn => obtain rfl := Option.some.inj hn; exact hB.cell rfl
      | 1, hn => obtain rfl := Option.some.inj hn; exact hB.cell rfl
      | n + 2, hn => simp at hn, hB.cell rfl, hB.cell rfl, hB.cell rfl, hM⟩
theorem Tells.at {e : Ending} {p : Prop} {t : Bool} (h : Tells e p) (ht : t = true ↔ p) : e = .returned (.bool t) := by
  obtain ⟨r, rfl, hr⟩ := h
  have : r = t := by
    cases r <;> cases t <;> simp_all
  rw [this]
set_option maxHeartbeats 8000000 in
set_option maxRecDepth 100000 in
theorem boardPlaces_any (w : World) (s : ByteArray) (hs : s.size ≤ 1048576) (sa : Option Addr) (n c : Nat) (hn : n ≤ 1048576) (hsp : Spots w w.heap.size sa n) :
    Calls Try.prog 4 #[.string s, .slice sa n c] w fun e w' => e = .returned (.bool true) ∧ Mod none_ w w' := by
  have hp := parsed_any w s hs
  obtain ⟨RR, hRR⟩ : ∃ RR, Bd.read (Bd.runes s) = RR := ⟨_, rfl⟩
  rw [hRR] at hp
  have HP := Lib.hid hp; have HSPOT := Lib.hid hsp
  clear hp hRR hs hsp
  go_enter Try.func4, Try.ntmps4
  go_wp2_with fail
  refine HP.out.mono ?_
  rintro r w1 ⟨hpp, hM1⟩
  have HM1 := Lib.hid hM1
  clear hM1 HP
  cases RR with
  | bad =>
    obtain rfl := hpp
    go_wp2_with fail
    refine (alive14_any w1).mono ?_
    rintro r w2 ⟨rfl, hM2⟩
    have HM2 := Lib.hid (HM1.out.then hM2)
    clear hM2
    go_wp2
    go_ret
    exact ⟨rfl, HM2.out⟩
  | place =>
    obtain rfl := hpp
    go_wp2_with fail
    refine (alive14_any w1).mono ?_
    rintro r w2 ⟨rfl, hM2⟩
    have HM2 := Lib.hid (HM1.out.then hM2)
    clear hM2
    go_wp2
    go_ret
    exact ⟨rfl, HM2.out⟩
  | board W H E =>
    obtain ⟨b, k, rfl, hB, hK⟩ := hpp
    have HB := Lib.hid hB; have HK := Lib.hid hK; have HF := Lib.hid hB.fine
    clear hB hK
    go_wp2_with fail
    refine (alive14_any w1).mono ?_
    rintro r w2 ⟨rfl, hM2⟩
    have HM2 := Lib.hid (HM1.out.then hM2); have HB2 := Lib.hid (HB.out.none hM2); have HK2 := Lib.hid (HK.out.none hM2)
    have hsp := HSPOT.out.mod HM2.out (fun _ _ h => h)
    have HSP := Lib.hid hsp
    clear hM2 HB HK HM1 hsp HSPOT
    have HI := Lib.hid (Mod.refl none_ w2)
    go_wp2_with fail
    go_loopw [8] (fun t wr => ∃ i : Nat, t = .int .i64 i ∧ i ≤ 2 * n ∧ i ≤ 200 ∧ Mod none_ w2 wr) (fun t _ => 200 - (intOf t).toNat)
    case atStart => exact ⟨0, rfl, by omega, by omega, HI.out⟩
    case round =>
      obtain ⟨i, rfl, hi1, hi2, hM⟩ := hrel
      have HMR := Lib.hid hM
      clear hM HI
      by_cases hin : i < 2 * n
      · have hin' : decide ((i : Int) < 2 * (n : Int)) = true := decide_eq_true (by omega)
        have hin2 : (i : Int) < 2 * (n : Int) := by omega
        by_cases hi3 : i < 200
        · have hi4 : (i : Int) < 200 := by omega
          have hn0 : 0 < n := by omega
          obtain ⟨p, hp⟩ : ∃ p : Nat, i % n = p := ⟨_, rfl⟩
          have hpn : p < n := by rw [← hp]; exact Nat.mod_lt _ hn0
          have hm : Int.tmod (i : Int) (n : Int) = (p : Int) := by rw [← hp]; rfl
          have hm0 : ¬ (n : Int) = 0 := by omega
          obtain ⟨lb, lo, rfl, hlb, hat⟩ := (HSP.out.mod HMR.out (fun _ _ h => h)).spot hn0
          obtain ⟨x1, y1, h1, cx1, cy1, k1, k2, k3, hr1⟩ := hat p hpn
          obtain ⟨x2, y2, h2, cx2, cy2, l1, l2, l3, hr2⟩ := hat (n - 1 - p) (by omega)
          have HR1 := Lib.hid hr1; have HR2 := Lib.hid hr2
          have hbs := HMR.out.size
          have hpn' : (p : Int) < (n : Int) := by omega
          obtain ⟨Z, hZ⟩ : ∃ Z, wr.heap.size = Z := ⟨_, rfl⟩
          have HZ := Lib.hid hZ
          clear hat hr1 hr2 hp hZ
          go_upto_region 10 with (first | (refine wpList_load_mid rfl 38 (.tmp 40) rfl lb (lo + p * 5) rfl [.int .i64 x1, .int .i64 y1, .int .i64 h1, .int .i64 cx1, .int .i64 cy1] _ HR1.out Try.underlying38 rfl size_spot ?_) | (refine wpList_store_new rfl 38 (.tmp 9) (.tmp 41) rfl 38 _ [.int .i64 x1, .int .i64 y1, .int .i64 h1, .int .i64 cx1, .int .i64 cy1] rfl rfl size_spot rfl (one5 _ _ _ _ _) ?_; intro w5 hY hM5 hs5))
          rw [HZ.out] at hY ⊢
          have HY := Lib.hid hY; have HM5 := Lib.hid hM5
          have HR2' := Lib.hid (rangeAt_none HR2.out hM5)
          clear hY hM5
          go_upto_if 45 with fail
          have HSZ := Lib.hid hs5
          clear hs5
          obtain ⟨t45, ht45⟩ : ∃ t, decide (n ≤ i) = t := ⟨_, rfl⟩
          rw [ht45]
          have HT45 := Lib.hid ht45
          clear ht45
          go_cut [] (fun wx => ∃ x y half cx cy : Int, (Bd.I64 x ∧ Bd.I64 y ∧ Bd.I64 half) ∧ SpotS Z x y half cx cy w2 wx)
          case first =>
            cases t45 with
            | true =>
              have hni : n ≤ i := of_decide_eq_true HT45.out
              have hq : (n : Int) - 1 - (p : Int) = ((n - 1 - p : Nat) : Int) := by omega
              have hq2 : n - 1 - p < n := by omega
              obtain ⟨q, hqq⟩ : ∃ q : Nat, n - 1 - p = q := ⟨_, rfl⟩
              rw [hqq] at hq hq2 HR2'
              have hq3 : (q : Int) < (n : Int) := by omega
              clear hqq hni hpn hpn'
              go_wp2_with (first | (refine wpList_load_mid rfl 38 (.tmp 55) rfl lb (lo + q * 5) rfl [.int .i64 x2, .int .i64 y2, .int .i64 h2, .int .i64 cx2, .int .i64 cy2] _ HR2'.out Try.underlying38 rfl size_spot ?_) | (refine wpList_store_blk rfl 38 (.tmp 9) (.tmp 56) rfl Z [.int .i64 x2, .int .i64 y2, .int .i64 h2, .int .i64 cx2, .int .i64 cy2] rfl rfl 38 _ HY.out size_spot rfl (one5 _ _ _ _ _) ?_; intro w6 hY6 hM6 hs6))
              go_meet
              exact ⟨x2, y2, h2, cx2, cy2, ⟨l1, l2, l3⟩, SpotS.of hY6 ((HMR.out.then HM5.out).trans hM6 (fun j hj e => by have : j = Z := e; have := HZ.out; omega))⟩
            | false =>
              go_wp2
              go_meet
              exact ⟨x1, y1, h1, cx1, cy1, ⟨k1, k2, k3⟩, SpotS.of HY.out (HMR.out.then HM5.out)⟩
          case rest =>
            obtain ⟨x, y, half, cx, cy, ⟨g1, g2, g3⟩, hs⟩ := hcut
            classical
            obtain ⟨t, ht⟩ : ∃ t : Bool, t = true ↔ Bd.Blocked W H E x y half := ⟨decide (Bd.Blocked W H E x y half), decide_eq_true_iff⟩
            have hat := fun (q : World) (h : SpotS Z x y half cx cy w2 q) => (at_any q (HB2.out.none h.m) x y g1 g2).mono (fun _ _ hh => And.intro hh.1 (h.none hh.2))
            have hrat := fun (q : World) (h : SpotS Z x y half cx cy w2 q) => (rat_any q (HK2.out.none h.m) x y g1 g2).mono (fun _ _ hh => And.intro hh.1 (h.none hh.2))
            have hso := fun (q : World) (h : SpotS Z x y half cx cy w2 q) => (solid_any q (HB2.out.none h.m) x y g1 g2).mono (fun _ _ hh => And.intro hh.1 (h.none hh.2))
            have hrso := fun (q : World) (h : SpotS Z x y half cx cy w2 q) => (rsolid_any q (HK2.out.none h.m) x y g1 g2).mono (fun _ _ hh => And.intro hh.1 (h.none hh.2))
            have hbl := fun (q : World) (h : SpotS Z x y half cx cy w2 q) => (blocked_any q (HB2.out.none h.m) x y half g1 g2 g3).mono (fun _ _ hh => And.intro (hh.1.at ht) (h.none hh.2))
            have hrbl := fun (q : World) (h : SpotS Z x y half cx cy w2 q) => (rblocked_any q (HK2.out.none h.m) x y half g1 g2 g3).mono (fun _ _ hh => And.intro (hh.1.at ht) (h.none hh.2))
            have hce := fun (q : World) (h : SpotS Z x y half cx cy w2 q) => (cellat_any q (HB2.out.none h.m) cx cy).mono (fun _ _ hh => And.intro hh.1 (h.none hh.2))
            have hrce := fun (q : World) (h : SpotS Z x y half cx cy w2 q) => (rcell_any q (HK2.out.none h.m) cx cy).mono (fun _ _ hh => And.intro hh.1 (h.none hh.2))
            obtain ⟨sb, hsb⟩ : ∃ sb, decide (Bd.atOf W H E x y = 35) = sb := ⟨_, rfl⟩
            simp only [hsb] at hso hrso
            generalize Bd.atOf W H E x y = AT at *
            generalize Bd.cellOf W H E cx cy = CE at *
            have HAT := Lib.hid hat; have HRAT := Lib.hid hrat; have HSO := Lib.hid hso; have HRSO := Lib.hid hrso; have HBL := Lib.hid hbl; have HRBL := Lib.hid hrbl; have HCE := Lib.hid hce; have HRCE := Lib.hid hrce
            have HS := Lib.hid hs
            clear hat hrat hso hrso hbl hrbl hce hrce hs ht hsb
            obtain ⟨w7, rfl⟩ : ∃ q, q = wc := ⟨_, rfl⟩
            go_upto_region 12 with fail
            have hS : SpotS Z x y half cx cy w2 w7.drew := HS.out.none (Mod.refl _ _).drew
            refine wp_region_noPanic ?_
            refine wp_region_held_drew (S := SpotS Z x y half cx cy w2) (by kernel_rfl) hS (fun hHeld => ?_)
            clear hHeld
            refine wpAnyH_take (i := 0) (v := ?_) (by simp only [List.getElem?_toArray, List.getElem?_cons_zero]; rfl) (by kernel_rfl) (by kernel_rfl) (by kernel_rfl) (fun _ _ _ h => h) (Or.inl ⟨by rfl, ?_⟩) hS ?_
            rotate_left
            · (intro wq hSw; go_simp; all_goals with_reducible rfl)
            try simp only [Act.put, List.setIfInBounds_toArray, List.set_cons_zero, List.set_cons_succ]
            refine wpAnyH_take (i := 1) (v := ?_) (by simp only [List.getElem?_toArray, List.getElem?_cons_zero, List.getElem?_cons_succ]; rfl) (by kernel_rfl) (by kernel_rfl) (by kernel_rfl) (fun _ _ _ h => h) (Or.inl ⟨by rfl, ?_⟩) hS ?_
            rotate_left
            · (intro wq hSw; go_simp; all_goals with_reducible rfl)
            try simp only [Act.put, List.setIfInBounds_toArray, List.set_cons_zero, List.set_cons_succ]
            refine wpAnyH_take (i := 2) (v := _) (by simp only [List.getElem?_toArray, List.getElem?_cons_zero, List.getElem?_cons_succ]; rfl) (by kernel_rfl) (by kernel_rfl) (by kernel_rfl) (fun _ _ _ h => h) (yieldsIf_load_mid (by rfl) 34 (.tmp 58) rfl Z 0 rfl [.int .i64 x, .int .i64 y] _ (fun _ h => h.a) Try.underlying34 rfl size_vec) hS ?_
            try simp only [Act.put, List.setIfInBounds_toArray, List.set_cons_zero, List.set_cons_succ]
            refine wpAnyH_take (i := 4) (v := ?_) (by simp only [List.getElem?_toArray, List.getElem?_cons_zero, List.getElem?_cons_succ]; rfl) (by kernel_rfl) (by kernel_rfl) (by kernel_rfl) (fun _ _ _ h => h) (Or.inl ⟨by rfl, ?_⟩) hS ?_
            rotate_left
            · (intro wq hSw; go_simp; all_goals with_reducible rfl)
            try simp only [Act.put, List.setIfInBounds_toArray, List.set_cons_zero, List.set_cons_succ]
            refine wpAnyH_take (i := 5) (v := ?_) (by simp only [List.getElem?_toArray, List.getElem?_cons_zero, List.getElem?_cons_succ]; rfl) (by kernel_rfl) (by kernel_rfl) (by kernel_rfl) (fun _ _ _ h => h) (Or.inl ⟨by rfl, ?_⟩) hS ?_
            rotate_left
            · (intro wq hSw; go_simp; all_goals with_reducible rfl)
            try simp only [Act.put, List.setIfInBounds_toArray, List.set_cons_zero, List.set_cons_succ]
            refine wpAnyH_take (i := 6) (v := _) (by simp only [List.getElem?_toArray, List.getElem?_cons_zero, List.getElem?_cons_succ]; rfl) (by kernel_rfl) (by kernel_rfl) (by kernel_rfl) (fun _ _ _ h => h) (yieldsIf_load_mid (by rfl) 34 (.tmp 62) rfl Z 0 rfl [.int .i64 x, .int .i64 y] _ (fun _ h => h.a) Try.underlying34 rfl size_vec) hS ?_
            try simp only [Act.put, List.setIfInBounds_toArray, List.set_cons_zero, List.set_cons_succ]
            refine wpAnyH_ready (rs := [3]) (by kernel_rfl) (by simp) ?_
            refine AllReadyH.cons (by simp only [List.getElem?_toArray, List.getElem?_cons_zero, List.getElem?_cons_succ]; rfl) (fun K hK => ?_) AllReadyH.nil
            go_simp
            go_at_call 19
            refine (HAT.out _ hS).mono ?_
            rintro r w121 ⟨rfl, hS1⟩
            go_wp2_with fail
            refine hK.out _ _ hS1 (fun _ => ?_)
            clear hK K
            try simp only [Act.put, List.setIfInBounds_toArray, List.set_cons_zero, List.set_cons_succ]
            refine wpAnyH_ready (rs := [7]) (by kernel_rfl) (by simp) ?_
            refine AllReadyH.cons (by simp only [List.getElem?_toArray, List.getElem?_cons_zero, List.getElem?_cons_succ]; rfl) (fun K hK => ?_) AllReadyH.nil
            go_simp
            go_at_call 20
            refine (HRAT.out _ hS1).mono ?_
            rintro r w122 ⟨rfl, hS2⟩
            go_wp2_with fail
            refine hK.out _ _ hS2 (fun _ => ?_)
            clear hK K
            try simp only [Act.put, List.setIfInBounds_toArray, List.set_cons_zero, List.set_cons_succ]
            refine wpAnyH_take (i := 8) (v := .bool false) (by simp only [List.getElem?_toArray, List.getElem?_cons_zero, List.getElem?_cons_succ]; rfl) (by kernel_rfl) (by kernel_rfl) (by kernel_rfl) (fun _ _ _ h => h) (Or.inl ⟨by rfl, ?_⟩) hS2 ?_
            · (intro wq hSw; go_simp; all_goals (try simp only [bne_self_eq_false]); all_goals with_reducible rfl)
            try simp only [Act.put, List.setIfInBounds_toArray, List.set_cons_zero, List.set_cons_succ]
            refine wpAnyH_take (i := 9) (v := ?_) (by simp only [List.getElem?_toArray, List.getElem?_cons_zero, List.getElem?_cons_succ]; rfl) (by kernel_rfl) (by kernel_rfl) (by kernel_rfl) (fun _ _ _ h => h) (Or.inl ⟨by rfl, ?_⟩) hS2 ?_
            rotate_left
            · (intro wq hSw; go_simp; all_goals with_reducible rfl)
            try simp only [Act.put, List.setIfInBounds_toArray, List.set_cons_zero, List.set_cons_succ]
            refine wpAnyH_take (i := 10) (v := ?_) (by simp only [List.getElem?_toArray, List.getElem?_cons_zero, List.getElem?_cons_succ]; rfl) (by kernel_rfl) (by kernel_rfl) (by kernel_rfl) (fun _ _ _ h => h) (Or.inl ⟨by rfl, ?_⟩) hS2 ?_
            rotate_left
            · (intro wq hSw; go_simp; all_goals with_reducible rfl)
            try simp only [Act.put, List.setIfInBounds_toArray, List.set_cons_zero, List.set_cons_succ]
            refine wpAnyH_take (i := 11) (v := ?_) (by simp only [List.getElem?_toArray, List.getElem?_cons_zero, List.getElem?_cons_succ]; rfl) (by kernel_rfl) (by kernel_rfl) (by kernel_rfl) (fun _ _ _ h => h) (Or.inl ⟨by rfl, ?_⟩) hS2 ?_
            rotate_left
            · (intro wq hSw; go_simp; all_goals with_reducible rfl)
            try simp only [Act.put, List.setIfInBounds_toArray, List.set_cons_zero, List.set_cons_succ]
            refine wpAnyH_take (i := 12) (v := _) (by simp only [List.getElem?_toArray, List.getElem?_cons_zero, List.getElem?_cons_succ]; rfl) (by kernel_rfl) (by kernel_rfl) (by kernel_rfl) (fun _ _ _ h => h) (yieldsIf_load_mid (by rfl) 34 (.tmp 68) rfl Z 0 rfl [.int .i64 x, .int .i64 y] _ (fun _ h => h.a) Try.underlying34 rfl size_vec) hS2 ?_
            try simp only [Act.put, List.setIfInBounds_toArray, List.set_cons_zero, List.set_cons_succ]
            refine wpAnyH_take (i := 14) (v := ?_) (by simp only [List.getElem?_toArray, List.getElem?_cons_zero, List.getElem?_cons_succ]; rfl) (by kernel_rfl) (by kernel_rfl) (by kernel_rfl) (fun _ _ _ h => h) (Or.inl ⟨by rfl, ?_⟩) hS2 ?_
            rotate_left
            · (intro wq hSw; go_simp; all_goals with_reducible rfl)
            try simp only [Act.put, List.setIfInBounds_toArray, List.set_cons_zero, List.set_cons_succ]
            refine wpAnyH_take (i := 15) (v := ?_) (by simp only [List.getElem?_toArray, List.getElem?_cons_zero, List.getElem?_cons_succ]; rfl) (by kernel_rfl) (by kernel_rfl) (by kernel_rfl) (fun _ _ _ h => h) (Or.inl ⟨by rfl, ?_⟩) hS2 ?_
            rotate_left
            · (intro wq hSw; go_simp; all_goals with_reducible rfl)
            try simp only [Act.put, List.setIfInBounds_toArray, List.set_cons_zero, List.set_cons_succ]
            refine wpAnyH_take (i := 16) (v := _) (by simp only [List.getElem?_toArray, List.getElem?_cons_zero, List.getElem?_cons_succ]; rfl) (by kernel_rfl) (by kernel_rfl) (by kernel_rfl) (fun _ _ _ h => h) (yieldsIf_load_mid (by rfl) 34 (.tmp 72) rfl Z 0 rfl [.int .i64 x, .int .i64 y] _ (fun _ h => h.a) Try.underlying34 rfl size_vec) hS2 ?_
            try simp only [Act.put, List.setIfInBounds_toArray, List.set_cons_zero, List.set_cons_succ]
            refine wpAnyH_ready (rs := [13]) (by kernel_rfl) (by simp) ?_
            refine AllReadyH.cons (by simp only [List.getElem?_toArray, List.getElem?_cons_zero, List.getElem?_cons_succ]; rfl) (fun K hK => ?_) AllReadyH.nil
            go_simp
            go_at_call 21
            refine (HSO.out _ hS2).mono ?_
            rintro r w123 ⟨rfl, hS3⟩
            go_wp2_with fail
            refine hK.out _ _ hS3 (fun _ => ?_)
            clear hK K
            try simp only [Act.put, List.setIfInBounds_toArray, List.set_cons_zero, List.set_cons_succ]
            refine wpAnyH_ready (rs := [17]) (by kernel_rfl) (by simp) ?_
            refine AllReadyH.cons (by simp only [List.getElem?_toArray, List.getElem?_cons_zero, List.getElem?_cons_succ]; rfl) (fun K hK => ?_) AllReadyH.nil
            go_simp
            go_at_call 22
            refine (HRSO.out _ hS3).mono ?_
            rintro r w124 ⟨rfl, hS4⟩
            go_wp2_with fail
            refine hK.out _ _ hS4 (fun _ => ?_)
            clear hK K
            try simp only [Act.put, List.setIfInBounds_toArray, List.set_cons_zero, List.set_cons_succ]
            refine wpAnyH_take (i := 18) (v := .bool false) (by simp only [List.getElem?_toArray, List.getElem?_cons_zero, List.getElem?_cons_succ]; rfl) (by kernel_rfl) (by kernel_rfl) (by kernel_rfl) (fun _ _ _ h => h) (Or.inl ⟨by rfl, ?_⟩) hS4 ?_
            · (intro wq hSw; go_simp; all_goals (try simp only [bne_self_eq_false]); all_goals with_reducible rfl)
            try simp only [Act.put, List.setIfInBounds_toArray, List.set_cons_zero, List.set_cons_succ]
            refine wpAnyH_take (i := 19) (v := .bool false) (by simp only [List.getElem?_toArray, List.getElem?_cons_zero, List.getElem?_cons_succ]; rfl) (by kernel_rfl) (by kernel_rfl) (by kernel_rfl) (fun _ _ _ h => h) (Or.inl ⟨by rfl, ?_⟩) hS4 ?_
            · (intro wq hSw; go_simp; all_goals with_reducible rfl)
            try simp only [Act.put, List.setIfInBounds_toArray, List.set_cons_zero, List.set_cons_succ]
            refine wpAnyH_take (i := 20) (v := ?_) (by simp only [List.getElem?_toArray, List.getElem?_cons_zero, List.getElem?_cons_succ]; rfl) (by kernel_rfl) (by kernel_rfl) (by kernel_rfl) (fun _ _ _ h => h) (Or.inl ⟨by rfl, ?_⟩) hS4 ?_
            rotate_left
            · (intro wq hSw; go_simp; all_goals with_reducible rfl)
            try simp only [Act.put, List.setIfInBounds_toArray, List.set_cons_zero, List.set_cons_succ]
            refine wpAnyH_take (i := 21) (v := ?_) (by simp only [List.getElem?_toArray, List.getElem?_cons_zero, List.getElem?_cons_succ]; rfl) (by kernel_rfl) (by kernel_rfl) (by kernel_rfl) (fun _ _ _ h => h) (Or.inl ⟨by rfl, ?_⟩) hS4 ?_
            rotate_left
            · (intro wq hSw; go_simp; all_goals with_reducible rfl)
            try simp only [Act.put, List.setIfInBounds_toArray, List.set_cons_zero, List.set_cons_succ]
            refine wpAnyH_take (i := 22) (v := ?_) (by simp only [List.getElem?_toArray, List.getElem?_cons_zero, List.getElem?_cons_succ]; rfl) (by kernel_rfl) (by kernel_rfl) (by kernel_rfl) (fun _ _ _ h => h) (Or.inl ⟨by rfl, ?_⟩) hS4 ?_
            rotate_left
            · (intro wq hSw; go_simp; all_goals with_reducible rfl)
            try simp only [Act.put, List.setIfInBounds_toArray, List.set_cons_zero, List.set_cons_succ]
            refine wpAnyH_take (i := 23) (v := _) (by simp only [List.getElem?_toArray, List.getElem?_cons_zero, List.getElem?_cons_succ]; rfl) (by kernel_rfl) (by kernel_rfl) (by kernel_rfl) (fun _ _ _ h => h) (yieldsIf_load_mid (by rfl) 34 (.tmp 79) rfl Z 0 rfl [.int .i64 x, .int .i64 y] _ (fun _ h => h.a) Try.underlying34 rfl size_vec) hS4 ?_
            try simp only [Act.put, List.setIfInBounds_toArray, List.set_cons_zero, List.set_cons_succ]
            refine wpAnyH_take (i := 24) (v := ?_) (by simp only [List.getElem?_toArray, List.getElem?_cons_zero, List.getElem?_cons_succ]; rfl) (by kernel_rfl) (by kernel_rfl) (by kernel_rfl) (fun _ _ _ h => h) (Or.inl ⟨by rfl, ?_⟩) hS4 ?_
            rotate_left
            · (intro wq hSw; go_simp; all_goals with_reducible rfl)
            try simp only [Act.put, List.setIfInBounds_toArray, List.set_cons_zero, List.set_cons_succ]
            refine wpAnyH_take (i := 25) (v := ?_) (by simp only [List.getElem?_toArray, List.getElem?_cons_zero, List.getElem?_cons_succ]; rfl) (by kernel_rfl) (by kernel_rfl) (by kernel_rfl) (fun _ _ _ h => h) (Or.inl ⟨by rfl, ?_⟩) hS4 ?_
            rotate_left
            · (intro wq hSw; have q4 := hSw.k; have q5 := hSw.h; have q6 := hSw.j; go_simp; all_goals with_reducible rfl)
            try simp only [Act.put, List.setIfInBounds_toArray, List.set_cons_zero, List.set_cons_succ]
            refine wpAnyH_take (i := 27) (v := ?_) (by simp only [List.getElem?_toArray, List.getElem?_cons_zero, List.getElem?_cons_succ]; rfl) (by kernel_rfl) (by kernel_rfl) (by kernel_rfl) (fun _ _ _ h => h) (Or.inl ⟨by rfl, ?_⟩) hS4 ?_
            rotate_left
            · (intro wq hSw; go_simp; all_goals with_reducible rfl)
            try simp only [Act.put, List.setIfInBounds_toArray, List.set_cons_zero, List.set_cons_succ]
            refine wpAnyH_take (i := 28) (v := ?_) (by simp only [List.getElem?_toArray, List.getElem?_cons_zero, List.getElem?_cons_succ]; rfl) (by kernel_rfl) (by kernel_rfl) (by kernel_rfl) (fun _ _ _ h => h) (Or.inl ⟨by rfl, ?_⟩) hS4 ?_
            rotate_left
            · (intro wq hSw; go_simp; all_goals with_reducible rfl)
            try simp only [Act.put, List.setIfInBounds_toArray, List.set_cons_zero, List.set_cons_succ]
            refine wpAnyH_take (i := 29) (v := _) (by simp only [List.getElem?_toArray, List.getElem?_cons_zero, List.getElem?_cons_succ]; rfl) (by kernel_rfl) (by kernel_rfl) (by kernel_rfl) (fun _ _ _ h => h) (yieldsIf_load_mid (by rfl) 34 (.tmp 85) rfl Z 0 rfl [.int .i64 x, .int .i64 y] _ (fun _ h => h.a) Try.underlying34 rfl size_vec) hS4 ?_
            try simp only [Act.put, List.setIfInBounds_toArray, List.set_cons_zero, List.set_cons_succ]
            refine wpAnyH_take (i := 30) (v := ?_) (by simp only [List.getElem?_toArray, List.getElem?_cons_zero, List.getElem?_cons_succ]; rfl) (by kernel_rfl) (by kernel_rfl) (by kernel_rfl) (fun _ _ _ h => h) (Or.inl ⟨by rfl, ?_⟩) hS4 ?_
            rotate_left
            · (intro wq hSw; go_simp; all_goals with_reducible rfl)
            try simp only [Act.put, List.setIfInBounds_toArray, List.set_cons_zero, List.set_cons_succ]
            refine wpAnyH_take (i := 31) (v := ?_) (by simp only [List.getElem?_toArray, List.getElem?_cons_zero, List.getElem?_cons_succ]; rfl) (by kernel_rfl) (by kernel_rfl) (by kernel_rfl) (fun _ _ _ h => h) (Or.inl ⟨by rfl, ?_⟩) hS4 ?_
            rotate_left
            · (intro wq hSw; have q4 := hSw.k; have q5 := hSw.h; have q6 := hSw.j; go_simp; all_goals with_reducible rfl)
            try simp only [Act.put, List.setIfInBounds_toArray, List.set_cons_zero, List.set_cons_succ]
            refine wpAnyH_ready (rs := [26]) (by kernel_rfl) (by simp) ?_
            refine AllReadyH.cons (by simp only [List.getElem?_toArray, List.getElem?_cons_zero, List.getElem?_cons_succ]; rfl) (fun K hK => ?_) AllReadyH.nil
            go_simp
            go_at_call 23
            refine (HBL.out _ hS4).mono ?_
            rintro r w125 ⟨rfl, hS5⟩
            go_wp2_with fail
            refine hK.out _ _ hS5 (fun _ => ?_)
            clear hK K
            try simp only [Act.put, List.setIfInBounds_toArray, List.set_cons_zero, List.set_cons_succ]
            refine wpAnyH_ready (rs := [32]) (by kernel_rfl) (by simp) ?_
            refine AllReadyH.cons (by simp only [List.getElem?_toArray, List.getElem?_cons_zero, List.getElem?_cons_succ]; rfl) (fun K hK => ?_) AllReadyH.nil
            go_simp
            go_at_call 24
            refine (HRBL.out _ hS5).mono ?_
            rintro r w126 ⟨rfl, hS6⟩
            go_wp2_with fail
            refine hK.out _ _ hS6 (fun _ => ?_)
            clear hK K
            try simp only [Act.put, List.setIfInBounds_toArray, List.set_cons_zero, List.set_cons_succ]
            refine wpAnyH_take (i := 33) (v := .bool false) (by simp only [List.getElem?_toArray, List.getElem?_cons_zero, List.getElem?_cons_succ]; rfl) (by kernel_rfl) (by kernel_rfl) (by kernel_rfl) (fun _ _ _ h => h) (Or.inl ⟨by rfl, ?_⟩) hS6 ?_
            · (intro wq hSw; go_simp; all_goals (try simp only [bne_self_eq_false]); all_goals with_reducible rfl)
            try simp only [Act.put, List.setIfInBounds_toArray, List.set_cons_zero, List.set_cons_succ]
            refine wpAnyH_take (i := 34) (v := .bool false) (by simp only [List.getElem?_toArray, List.getElem?_cons_zero, List.getElem?_cons_succ]; rfl) (by kernel_rfl) (by kernel_rfl) (by kernel_rfl) (fun _ _ _ h => h) (Or.inl ⟨by rfl, ?_⟩) hS6 ?_
            · (intro wq hSw; go_simp; all_goals with_reducible rfl)
            try simp only [Act.put, List.setIfInBounds_toArray, List.set_cons_zero, List.set_cons_succ]
            refine wpAnyH_take (i := 35) (v := ?_) (by simp only [List.getElem?_toArray, List.getElem?_cons_zero, List.getElem?_cons_succ]; rfl) (by kernel_rfl) (by kernel_rfl) (by kernel_rfl) (fun _ _ _ h => h) (Or.inl ⟨by rfl, ?_⟩) hS6 ?_
            rotate_left
            · (intro wq hSw; go_simp; all_goals with_reducible rfl)
            try simp only [Act.put, List.setIfInBounds_toArray, List.set_cons_zero, List.set_cons_succ]
            refine wpAnyH_take (i := 36) (v := ?_) (by simp only [List.getElem?_toArray, List.getElem?_cons_zero, List.getElem?_cons_succ]; rfl) (by kernel_rfl) (by kernel_rfl) (by kernel_rfl) (fun _ _ _ h => h) (Or.inl ⟨by rfl, ?_⟩) hS6 ?_
            rotate_left
            · (intro wq hSw; go_simp; all_goals with_reducible rfl)
            try simp only [Act.put, List.setIfInBounds_toArray, List.set_cons_zero, List.set_cons_succ]
            refine wpAnyH_take (i := 37) (v := ?_) (by simp only [List.getElem?_toArray, List.getElem?_cons_zero, List.getElem?_cons_succ]; rfl) (by kernel_rfl) (by kernel_rfl) (by kernel_rfl) (fun _ _ _ h => h) (Or.inl ⟨by rfl, ?_⟩) hS6 ?_
            rotate_left
            · (intro wq hSw; go_simp; all_goals with_reducible rfl)
            try simp only [Act.put, List.setIfInBounds_toArray, List.set_cons_zero, List.set_cons_succ]
            refine wpAnyH_take (i := 38) (v := ?_) (by simp only [List.getElem?_toArray, List.getElem?_cons_zero, List.getElem?_cons_succ]; rfl) (by kernel_rfl) (by kernel_rfl) (by kernel_rfl) (fun _ _ _ h => h) (Or.inl ⟨by rfl, ?_⟩) hS6 ?_
            rotate_left
            · (intro wq hSw; have q4 := hSw.k; have q5 := hSw.h; have q6 := hSw.j; go_simp; all_goals with_reducible rfl)
            try simp only [Act.put, List.setIfInBounds_toArray, List.set_cons_zero, List.set_cons_succ]
            refine wpAnyH_take (i := 39) (v := ?_) (by simp only [List.getElem?_toArray, List.getElem?_cons_zero, List.getElem?_cons_succ]; rfl) (by kernel_rfl) (by kernel_rfl) (by kernel_rfl) (fun _ _ _ h => h) (Or.inl ⟨by rfl, ?_⟩) hS6 ?_
            rotate_left
            · (intro wq hSw; go_simp; all_goals with_reducible rfl)
            try simp only [Act.put, List.setIfInBounds_toArray, List.set_cons_zero, List.set_cons_succ]
            refine wpAnyH_take (i := 40) (v := ?_) (by simp only [List.getElem?_toArray, List.getElem?_cons_zero, List.getElem?_cons_succ]; rfl) (by kernel_rfl) (by kernel_rfl) (by kernel_rfl) (fun _ _ _ h => h) (Or.inl ⟨by rfl, ?_⟩) hS6 ?_
            rotate_left
            · (intro wq hSw; have q4 := hSw.k; have q5 := hSw.h; have q6 := hSw.j; go_simp; all_goals with_reducible rfl)
            try simp only [Act.put, List.setIfInBounds_toArray, List.set_cons_zero, List.set_cons_succ]
            refine wpAnyH_take (i := 42) (v := ?_) (by simp only [List.getElem?_toArray, List.getElem?_cons_zero, List.getElem?_cons_succ]; rfl) (by kernel_rfl) (by kernel_rfl) (by kernel_rfl) (fun _ _ _ h => h) (Or.inl ⟨by rfl, ?_⟩) hS6 ?_
            rotate_left
            · (intro wq hSw; go_simp; all_goals with_reducible rfl)
            try simp only [Act.put, List.setIfInBounds_toArray, List.set_cons_zero, List.set_cons_succ]
            refine wpAnyH_take (i := 43) (v := ?_) (by simp only [List.getElem?_toArray, List.getElem?_cons_zero, List.getElem?_cons_succ]; rfl) (by kernel_rfl) (by kernel_rfl) (by kernel_rfl) (fun _ _ _ h => h) (Or.inl ⟨by rfl, ?_⟩) hS6 ?_
            rotate_left
            · (intro wq hSw; go_simp; all_goals with_reducible rfl)
            try simp only [Act.put, List.setIfInBounds_toArray, List.set_cons_zero, List.set_cons_succ]
            refine wpAnyH_take (i := 44) (v := ?_) (by simp only [List.getElem?_toArray, List.getElem?_cons_zero, List.getElem?_cons_succ]; rfl) (by kernel_rfl) (by kernel_rfl) (by kernel_rfl) (fun _ _ _ h => h) (Or.inl ⟨by rfl, ?_⟩) hS6 ?_
            rotate_left
            · (intro wq hSw; have q4 := hSw.k; have q5 := hSw.h; have q6 := hSw.j; go_simp; all_goals with_reducible rfl)
            try simp only [Act.put, List.setIfInBounds_toArray, List.set_cons_zero, List.set_cons_succ]
            refine wpAnyH_take (i := 45) (v := ?_) (by simp only [List.getElem?_toArray, List.getElem?_cons_zero, List.getElem?_cons_succ]; rfl) (by kernel_rfl) (by kernel_rfl) (by kernel_rfl) (fun _ _ _ h => h) (Or.inl ⟨by rfl, ?_⟩) hS6 ?_
            rotate_left
            · (intro wq hSw; go_simp; all_goals with_reducible rfl)
            try simp only [Act.put, List.setIfInBounds_toArray, List.set_cons_zero, List.set_cons_succ]
            refine wpAnyH_take (i := 46) (v := ?_) (by simp only [List.getElem?_toArray, List.getElem?_cons_zero, List.getElem?_cons_succ]; rfl) (by kernel_rfl) (by kernel_rfl) (by kernel_rfl) (fun _ _ _ h => h) (Or.inl ⟨by rfl, ?_⟩) hS6 ?_
            rotate_left
            · (intro wq hSw; have q4 := hSw.k; have q5 := hSw.h; have q6 := hSw.j; go_simp; all_goals with_reducible rfl)
            try simp only [Act.put, List.setIfInBounds_toArray, List.set_cons_zero, List.set_cons_succ]
            refine wpAnyH_ready (rs := [41]) (by kernel_rfl) (by simp) ?_
            refine AllReadyH.cons (by simp only [List.getElem?_toArray, List.getElem?_cons_zero, List.getElem?_cons_succ]; rfl) (fun K hK => ?_) AllReadyH.nil
            go_simp
            go_at_call 15
            refine (HCE.out _ hS6).mono ?_
            rintro r w127 ⟨rfl, hS7⟩
            go_wp2_with fail
            refine hK.out _ _ hS7 (fun _ => ?_)
            clear hK K
            try simp only [Act.put, List.setIfInBounds_toArray, List.set_cons_zero, List.set_cons_succ]
            refine wpAnyH_ready (rs := [47]) (by kernel_rfl) (by simp) ?_
            refine AllReadyH.cons (by simp only [List.getElem?_toArray, List.getElem?_cons_zero, List.getElem?_cons_succ]; rfl) (fun K hK => ?_) AllReadyH.nil
            go_simp
            go_at_call 16
            refine (HRCE.out _ hS7).mono ?_
            rintro r w128 ⟨rfl, hS8⟩
            go_wp2_with fail
            refine hK.out _ _ hS8 (fun _ => ?_)
            clear hK K
            try simp only [Act.put, List.setIfInBounds_toArray, List.set_cons_zero, List.set_cons_succ]
            refine wpAnyH_take (i := 48) (v := .bool false) (by simp only [List.getElem?_toArray, List.getElem?_cons_zero, List.getElem?_cons_succ]; rfl) (by kernel_rfl) (by kernel_rfl) (by kernel_rfl) (fun _ _ _ h => h) (Or.inl ⟨by rfl, ?_⟩) hS8 ?_
            · (intro wq hSw; go_simp; all_goals (try simp only [bne_self_eq_false]); all_goals with_reducible rfl)
            try simp only [Act.put, List.setIfInBounds_toArray, List.set_cons_zero, List.set_cons_succ]
            refine wpAnyH_take (i := 49) (v := .bool false) (by simp only [List.getElem?_toArray, List.getElem?_cons_zero, List.getElem?_cons_succ]; rfl) (by kernel_rfl) (by kernel_rfl) (by kernel_rfl) (fun _ _ _ h => h) (Or.inl ⟨by rfl, ?_⟩) hS8 ?_
            · (intro wq hSw; go_simp; all_goals with_reducible rfl)
            try simp only [Act.put, List.setIfInBounds_toArray, List.set_cons_zero, List.set_cons_succ]
            refine wpAnyH_done (by kernel_rfl) ?_ _
            refine NoPanic.normal ?_
            have HL := Lib.hid hS8
            clear hS8
            go_wp2
            go_roundw
            case rel => exact ⟨i + 1, by go_num, by omega, by omega, HL.out.m⟩
            case measure => simp [intOf]; omega
        · have hi4 : ¬ (i : Int) < 200 := by omega
          go_wp2
          go_ret
          exact ⟨rfl, HM2.out.then HMR.out⟩
      · have hin2 : ¬ (i : Int) < 2 * (n : Int) := by omega
        go_wp2
        go_ret
        exact ⟨rfl, HM2.out.then HMR.out⟩
end Go.Proofs.Ytlndgnlkfhlekaa
