/- CookiePlays: the law's walk. -/
import Derived.Test.YtlndgnlkfhlekaaDoorCkY
namespace Go.Proofs.YtlndgnlkfhlekaaDoor
open Go.RowKit

/-- the two lists of jars, as they lie -/
structure PlT (js ks ja jb ka kb : Nat) (w q : World) : Prop where
  j0 : q.cell? ⟨js, 0, none⟩ = some (.pointer (some ⟨ja, 0, none⟩))
  j1 : q.cell? ⟨js, 1, none⟩ = some (.pointer (some ⟨jb, 0, none⟩))
  k0 : q.cell? ⟨ks, 0, none⟩ = some (.pointer (some ⟨ka, 0, none⟩))
  k1 : q.cell? ⟨ks, 1, none⟩ = some (.pointer (some ⟨kb, 0, none⟩))
  m : Mod none_ w q
theorem PlT.then {js ks ja jb ka kb : Nat} {w q q' : World} (h : PlT js ks ja jb ka kb w q) (hM : Mod none_ q q') : PlT js ks ja jb ka kb w q' :=
  ⟨hM.cellS h.j0 (fun h => h), hM.cellS h.j1 (fun h => h), hM.cellS h.k0 (fun h => h), hM.cellS h.k1 (fun h => h), h.m.then hM⟩
structure PlS (js ks ja jb ka kb lb off : Nat) (o : CkOp) (F : Nat → Prop) (w q : World) : Prop where
  j0 : q.cell? ⟨js, 0, none⟩ = some (.pointer (some ⟨ja, 0, none⟩))
  j1 : q.cell? ⟨js, 1, none⟩ = some (.pointer (some ⟨jb, 0, none⟩))
  k0 : q.cell? ⟨ks, 0, none⟩ = some (.pointer (some ⟨ka, 0, none⟩))
  k1 : q.cell? ⟨ks, 1, none⟩ = some (.pointer (some ⟨kb, 0, none⟩))
  op : q.rangeAt lb off o.cells
  m : Mod F w q
theorem PlS.mod {js ks ja jb ka kb lb off : Nat} {o : CkOp} {F S : Nat → Prop} {w q q' : World} (h : PlS js ks ja jb ka kb lb off o F w q) (hM : Mod S q q') (h1 : ¬ S js) (h2 : ¬ S ks) (h3 : ¬ S lb) (hF : ∀ b, b < w.heap.size → S b → F b) : PlS js ks ja jb ka kb lb off o F w q' :=
  ⟨hM.cellS h.j0 h1, hM.cellS h.j1 h1, hM.cellS h.k0 h2, hM.cellS h.k1 h2, rangeAt_mod h.op hM h3, h.m.trans hM hF⟩
theorem RefJ.base {w : World} {b base base' : Nat} {v : Value} {ss : List ByteArray} (h : RefJ w b base v ss) (hb : base' ≤ base) : RefJ w b base' v ss := by
  refine ⟨h.blk, ?_, h.s32, h.pos, h.few, h.nb⟩
  obtain ⟨h1, h2 | ⟨g, cap, cur, h3, h4, h5⟩⟩ := h.own
  · exact ⟨h1, Or.inl h2⟩
  · exact ⟨h1, Or.inr ⟨g, cap, cur, h3, Nat.le_trans hb h4, h5⟩⟩
theorem not3 {j k g x : Nat} (h1 : j ≠ x) (h2 : k ≠ x) (h3 : g ≠ x) : ¬ (x = j ∨ x = k ∨ x = g) := by
  rintro (h | h | h)
  · exact h1 h.symm
  · exact h2 h.symm
  · exact h3 h.symm
theorem fresh_ne {g' g n x : Nat} (h : g' = g ∨ n ≤ g') (hx : g ≠ x) (hl : x < n) : g' ≠ x := by
  rcases h with h | h
  · rw [h]; exact hx
  · exact Nat.ne_of_gt (Nat.lt_of_lt_of_le hl h)
theorem which_bit (x : Int) : ∃ (u : Int) (c : Nat), IntKind.u64.wrap x = u ∧ Int.tmod u 2 = (c : Int) ∧ (c = 0 ∨ c = 1) := by
  refine ⟨IntKind.u64.wrap x, (x % 2).toNat, rfl, ?_, by omega⟩
  rw [IntKind.wrap_u64, Int.tmod_eq_emod_of_nonneg (by omega)]
  omega

set_option maxHeartbeats 4000000 in
set_option maxRecDepth 100000 in
theorem cookiePlays_any (w : World) (hK : Rounds w) (hT : RefTabs w) (one two : ByteArray) (f1 : Fits one) (f2 : Fits two)
    (oa : Option Addr) (on oc : Nat) (ops : List CkOp) (ho : CkOpsAt w w.heap.size oa on ops) (hon : on ≤ 1048576) (hos : ∀ o ∈ ops, Fits o.a ∧ Fits o.b) :
    Calls Tryd.prog 3 #[.string one, .string two, .slice oa on oc] w fun r w' => r = .returned (.bool true) ∧ Mod none_ w w' := by
  have HK := Lib.hid hK; have HT := Lib.hid hT; have HO := Lib.hid ho; have HOS := Lib.hid hos
  have fE : Fits (⟨#[]⟩ : ByteArray) := by unfold Fits; decide
  have fN : Fits (⟨#[110]⟩ : ByteArray) := by unfold Fits; decide
  have fX : Fits (⟨#[120]⟩ : ByteArray) := by unfold Fits; decide
  have hro : ∀ q : World, Mod none_ w q → Rounds q := fun q hM => HK.out.mod hM (fun h => h)
  have HRO := Lib.hid hro
  clear hK hT ho hos hro
  go_enter Tryd.func3, Tryd.ntmps3
  go_wp2_with fail
  refine (alive10_any w HK.out).mono ?_
  rintro r w1 ⟨rfl, hM⟩
  have HM1 := Lib.hid hM
  clear hM
  go_wp2_with fail
  refine (ckNew_any w1 (HRO.out _ HM1.out) one f1).mono ?_
  rintro r w2 ⟨ja, rfl, hja, hJa, hMa⟩
  have HM2 := Lib.hid (HM1.out.then hMa); have HJa := Lib.hid hJa
  have hjaw : w.heap.size ≤ ja := Nat.le_trans HM1.out.size hja
  have hjal : ja < w2.heap.size := hJa.blk.lt
  clear hJa
  go_wp2_with fail
  refine (ckNew_any w2 (HRO.out _ HM2.out) two f2).mono ?_
  rintro r w3 ⟨jb, rfl, hjb, hJb, hMb⟩
  have HM3 := Lib.hid (HM2.out.then hMb); have HJb := Lib.hid hJb; have HJa3 := Lib.hid (HJa.out.mod hMb (fun h => h))
  have hjbl : jb < w3.heap.size := hJb.blk.lt
  clear hJb hMa hMb
  go_upto_region 4 with fail
  obtain ⟨w4, hw4⟩ : ∃ w4, w3.alloc (.cells #[.pointer (some ⟨ja, 0, none⟩), .pointer (some ⟨jb, 0, none⟩)] 24) = w4 := ⟨_, rfl⟩
  have hM4 : Mod none_ w3 w4 := hw4 ▸ (Mod.refl none_ w3).alloc _
  have hB4 : Blk w4 w3.heap.size [.pointer (some ⟨ja, 0, none⟩), .pointer (some ⟨jb, 0, none⟩)] 24 := hw4 ▸ Blk.new w3 _ _
  rw [hw4]
  obtain ⟨js, hjs⟩ : ∃ js, w3.heap.size = js := ⟨_, rfl⟩
  rw [hjs] at hB4 hjbl ⊢
  have hjsl : js < w4.heap.size := hB4.lt
  have HM4 := Lib.hid (HM3.out.then hM4); have HJa4 := Lib.hid (HJa3.out.mod hM4 (fun h => h)); have HJb4 := Lib.hid (HJb.out.mod hM4 (fun h => h)); have HB4 := Lib.hid hB4
  clear hM4 hw4 hB4 HJa HJa3 HJb
  go_wp2_with fail
  refine (rjNew_any w4 (HT.out.none HM4.out) one f1).mono ?_
  rintro r w5 ⟨ka, va, rfl, hka, hRa, hMc⟩
  have HM5 := Lib.hid (HM4.out.then hMc); have HMc := Lib.hid hMc; have HRa := Lib.hid hRa
  have hkal : ka < w5.heap.size := hRa.blk.lt
  clear hRa hMc
  go_wp2_with fail
  refine (rjNew_any w5 (HT.out.none HM5.out) two f2).mono ?_
  rintro r w6 ⟨kb, vb, rfl, hkb, hRb, hMd⟩
  have HM6 := Lib.hid (HM5.out.then hMd); have HMd := Lib.hid hMd; have HRb := Lib.hid hRb
  have hkbl : kb < w6.heap.size := hRb.blk.lt
  clear hRb hMd
  go_upto_region 5 with fail
  obtain ⟨w7, hw7⟩ : ∃ w7, w6.alloc (.cells #[.pointer (some ⟨ka, 0, none⟩), .pointer (some ⟨kb, 0, none⟩)] 27) = w7 := ⟨_, rfl⟩
  have hM7 : Mod none_ w6 w7 := hw7 ▸ (Mod.refl none_ w6).alloc _
  have hB7 : Blk w7 w6.heap.size [.pointer (some ⟨ka, 0, none⟩), .pointer (some ⟨kb, 0, none⟩)] 27 := hw7 ▸ Blk.new w6 _ _
  rw [hw7]
  obtain ⟨ks, hks⟩ : ∃ ks, w6.heap.size = ks := ⟨_, rfl⟩
  rw [hks] at hB7 hkbl ⊢
  have hwks : w.heap.size ≤ ks := by rw [← hks]; exact HM6.out.size
  have hwjs : w.heap.size ≤ js := by rw [← hjs]; exact HM3.out.size
  -- the two pairs
  obtain ⟨ga, capa, resta, rfl, hga, hBa, hca⟩ := HRa.out.slice
  obtain ⟨gb, capb, restb, rfl, hgb, hBb, hcb⟩ := HRb.out.slice
  have hgal : ga < w5.heap.size := hBa.lt
  have hgbl : gb < ks := by rw [← hks]; exact hBb.lt
  have hgka : ga ≠ ka := HRa.out.nb ga rfl
  have hgkb : gb ≠ kb := HRb.out.nb gb rfl
  have hMcd := HMc.out.then (HMd.out.then hM7)
  have hPa : Pair w7 w.heap.size ja ka ga 0 [Ck.dv one Ck.cookieB []] (Ck.dv one Ck.cookieB []) Ck.zeroB := by
    refine ⟨⟨capa, ((HRa.out.mod HMd.out).mod hM7).base (Nat.le_trans HM4.out.size (Nat.le_refl _))⟩, rfl, HJa4.out.mod hMcd (fun h => h), rfl, fun q hq => by omega, by omega, by omega, hjaw, ?_, ?_⟩
    · exact Nat.le_trans HM4.out.size hka
    · exact Nat.le_trans HM4.out.size hga
  have hPb : Pair w7 w.heap.size jb kb gb 0 [Ck.dv two Ck.cookieB []] (Ck.dv two Ck.cookieB []) Ck.zeroB := by
    refine ⟨⟨capb, (HRb.out.mod hM7).base (Nat.le_trans HM5.out.size (Nat.le_refl _))⟩, rfl, HJb4.out.mod hMcd (fun h => h), rfl, fun q hq => by omega, by have := HMc.out.size; omega, by have := HMc.out.size; omega, Nat.le_trans HM2.out.size hjb, ?_, ?_⟩
    · exact Nat.le_trans HM5.out.size hkb
    · exact Nat.le_trans HM5.out.size hgb
  have h45 := HMc.out.size
  have h56 := HMd.out.size
  rw [hks] at h56
  have hT0 : PlT js ks ja jb ka kb w7 w7 := by
    have h1 := hMcd.blk HB4.out (fun h => h)
    exact ⟨h1.cell rfl, h1.cell rfl, hB7.cell rfl, hB7.cell rfl, Mod.refl _ _⟩
  have HM7 := Lib.hid (HM6.out.then hM7); have HPa := Lib.hid hPa; have HPb := Lib.hid hPb; have HT0 := Lib.hid hT0
  have HO7 := Lib.hid (HO.out.mod HM7.out (fun _ _ h => h))
  obtain ⟨F, hF⟩ : ∃ F : Nat → Prop, F = fun b => w.heap.size ≤ b ∧ b ≠ js ∧ b ≠ ks := ⟨_, rfl⟩
  have hFi : ∀ b, F b ↔ (w.heap.size ≤ b ∧ b ≠ js ∧ b ≠ ks) := by intro b; rw [hF]
  have HF := Lib.hid hFi
  clear hPa hPb hT0 hMcd hM7 hw7 hB7 hBa hBb HRa HRb HJa4 HJb4 HB4 HO hF hFi hks hjs hca hcb
  have hjaK : ja < js := by omega
  have hdis : ja ≠ jb ∧ ja ≠ ka ∧ ja ≠ kb ∧ jb ≠ ka ∧ jb ≠ kb ∧ ka ≠ kb ∧ ja ≠ js ∧ jb ≠ js ∧ ka ≠ js ∧ kb ≠ js ∧ ja ≠ ks ∧ jb ≠ ks ∧ ka ≠ ks ∧ kb ≠ ks := by omega
  have hdg : ga ≠ jb ∧ ga ≠ kb ∧ gb ≠ ja ∧ gb ≠ ka ∧ ga ≠ gb ∧ ga ≠ js ∧ gb ≠ js ∧ ga ≠ ks ∧ gb ≠ ks := by omega
  have hsz7 : js < w7.heap.size ∧ ks < w7.heap.size ∧ ja < w7.heap.size ∧ jb < w7.heap.size ∧ ka < w7.heap.size ∧ kb < w7.heap.size := by
    have h1 := World.block_lt_of_cell? _ _ HT0.out.k0
    have h1 : ks < w7.heap.size := h1
    omega
  have HD := Lib.hid hdis; have HG := Lib.hid hdg; have HSZ := Lib.hid hsz7
  clear hdis hdg hsz7 hja hjb hka hkb hga hgb hkal hkbl hgal hgbl hgka hgkb h45 h56 hjal hjbl hjsl hjaK
  obtain ⟨w4', hw4'⟩ : ∃ x, x = w7 := ⟨_, rfl⟩
  go_wp2_with fail
  go_loopw [9] (fun i wr => ∃ n : Nat, n ≤ on ∧ n ≤ 200 ∧ i = .int .i64 n ∧ PlT js ks ja jb ka kb wr wr ∧ Mod F w7 wr ∧ ∃ ga ma sa na wa gb mb sb nb wb, Pair wr w.heap.size ja ka ga ma sa na wa ∧ Pair wr w.heap.size jb kb gb mb sb nb wb ∧ ma ≤ n ∧ mb ≤ n ∧ (ga ≠ jb ∧ ga ≠ kb ∧ gb ≠ ja ∧ gb ≠ ka ∧ ga ≠ gb ∧ ga ≠ js ∧ gb ≠ js ∧ ga ≠ ks ∧ gb ≠ ks)) (fun i _ => 200 - (intOf i).toNat)
  case atStart => exact ⟨0, by omega, by omega, rfl, HT0.out, Mod.refl _ _, _, _, _, _, _, _, _, _, _, _, HPa.out, HPb.out, by omega, by omega, HG.out⟩
  case round =>
    obtain ⟨n, hnon, hn200, rfl, hTr, hMr, ga, ma, sa, na, wa, gb, mb, sb, nb, wb, hPa, hPb, hma, hmb, hg⟩ := hrel
    have hMw : Mod none_ w wr := HM7.out.trans hMr (fun b hb e => by have := (HF.out b).1 e; omega)
    have HTr := Lib.hid hTr; have HMr := Lib.hid hMr; have HPA := Lib.hid hPa; have HPB := Lib.hid hPb; have HGG := Lib.hid hg; have HMW := Lib.hid hMw
    clear hTr hMr hPa hPb hg hMw HPa HPb HG HT0
    by_cases hin : n < on ∧ n < 200
    · obtain ⟨hi, hi2⟩ := hin
      have hni : (n : Int) < (on : Int) := by omega
      have hn2 : (n : Int) < 200 := by omega
      obtain ⟨o, ho⟩ : ∃ o, ops[n]? = some o := ⟨_, List.getElem?_eq_getElem (by rw [HO7.out.1]; exact hi)⟩
      have hoK := HO7.out.2.1 o (List.mem_of_getElem? ho)
      obtain ⟨fA, fB⟩ := HOS.out o (List.mem_of_getElem? ho)
      obtain ⟨lb, lo, hoa, hlb, hro⟩ := HO7.out.range hi ho
      subst hoa
      have hlF : ¬ F lb := fun e => by have := (HF.out lb).1 e; omega
      have hror := rangeAt_mod hro HMr.out hlF
      obtain ⟨u, c, e1, e2, hc⟩ := which_bit o.which
      have q1 : wr.cell? ⟨lb, lo + n * 8 + 1, none⟩ = some (.int .i64 o.which) := hror 1 _ rfl
      have HROR := Lib.hid hror; have HOK := Lib.hid hoK
      obtain ⟨W, hW⟩ : ∃ W, o.which = W := ⟨_, rfl⟩
      rw [hW] at q1 e1
      clear hro hror hoK ho hW
      rcases hc with rfl | rfl
      · have hpl := plays_any w wr.drew HK.out HT.out HMW.out.drew ja ka ga ma sa na wa (HPA.out.none (Mod.refl _ _).drew) (by omega) o HOK.out fA fB
        obtain ⟨w4, hw4⟩ : ∃ x, x = w7 := ⟨_, rfl⟩
        have hS7 : PlS js ks ja jb ka kb lb (lo + n * 8) o F w4 wr.drew := hw4 ▸ ⟨HTr.out.j0, HTr.out.j1, HTr.out.k0, HTr.out.k1, HROR.out, HMr.out.drew⟩
        have hlw : lb < w.heap.size := hlb
        have hpb := HPA.out.bj
        have hpk := HPA.out.bk
        have hpg := HPA.out.bg
        obtain ⟨d1, d2, d3, d4, d5, d6, d7, d8, d9, d10, d11, d12, d13, d14⟩ := HD.out
        obtain ⟨x1, x2, x3, x4, x5, x6, x7, x8, x9⟩ := HGG.out
        have hSP : ∀ w8, Mod (fun b => b = ja ∨ b = ka ∨ b = ga) wr.drew w8 → PlS js ks ja jb ka kb lb (lo + n * 8) o F w4 w8 := fun w8 hM =>
          hS7.mod hM (not3 d7 d9 x6) (not3 d11 d13 x8) (not3 (Nat.ne_of_gt (Nat.lt_of_lt_of_le hlw hpb)) (Nat.ne_of_gt (Nat.lt_of_lt_of_le hlw hpk)) (Nat.ne_of_gt (Nat.lt_of_lt_of_le hlw hpg))) (fun b hb e => (HF.out b).2 (by
            rcases e with e | e | e
            · rw [e]; exact ⟨hpb, d7, d11⟩
            · rw [e]; exact ⟨hpk, d9, d13⟩
            · rw [e]; exact ⟨hpg, x6, x8⟩))
        have HPL := Lib.hid hpl; have HSP := Lib.hid hSP
        clear hpl hSP d1 d2 d3 d4 d5 d6 d7 d8 d9 d10 d11 d12 d13 d14 x1 x2 x3 x4 x5 x6 x7 x8 x9
        go_upto_region 9 with fail
        refine wp_region_noPanic ?_
        refine wp_region_held_drew (S := PlS js ks ja jb ka kb lb (lo + n * 8) o F w4) (by kernel_rfl) hS7 (fun hHeld => ?_)
        clear hHeld
        refine wpAnyH_take (i := 0) (v := ?_) (by simp only [List.getElem?_toArray, List.getElem?_cons_zero]; rfl) (by kernel_rfl) (by kernel_rfl) (by kernel_rfl) (fun _ _ _ h => h) (Or.inl ⟨by rfl, ?_⟩) hS7 ?_
        rotate_left
        · (intro wq hSw; go_simp; all_goals with_reducible rfl)
        try simp only [Act.put, List.setIfInBounds_toArray, List.set_cons_zero, List.set_cons_succ]
        refine wpAnyH_take (i := 1) (v := ?_) (by simp only [List.getElem?_toArray, List.getElem?_cons_zero, List.getElem?_cons_succ]; rfl) (by kernel_rfl) (by kernel_rfl) (by kernel_rfl) (fun _ _ _ h => h) (Or.inl ⟨by rfl, ?_⟩) hS7 ?_
        rotate_left
        · (intro wq hSw; go_simp; all_goals with_reducible rfl)
        try simp only [Act.put, List.setIfInBounds_toArray, List.set_cons_zero, List.set_cons_succ]
        refine wpAnyH_take (i := 2) (v := ?_) (by simp only [List.getElem?_toArray, List.getElem?_cons_zero, List.getElem?_cons_succ]; rfl) (by kernel_rfl) (by kernel_rfl) (by kernel_rfl) (fun _ _ _ h => h) (Or.inl ⟨by rfl, ?_⟩) hS7 ?_
        rotate_left
        · (intro wq hSw; go_simp; all_goals with_reducible rfl)
        try simp only [Act.put, List.setIfInBounds_toArray, List.set_cons_zero, List.set_cons_succ]
        refine wpAnyH_take (i := 3) (v := ?_) (by simp only [List.getElem?_toArray, List.getElem?_cons_zero, List.getElem?_cons_succ]; rfl) (by kernel_rfl) (by kernel_rfl) (by kernel_rfl) (fun _ _ _ h => h) (Or.inl ⟨by rfl, ?_⟩) hS7 ?_
        rotate_left
        · (intro wq hSw; have q0 := hSw.j0; have q1 := hSw.j1; have q2 := hSw.k0; have q3 := hSw.k1; go_simp; all_goals with_reducible rfl)
        try simp only [Act.put, List.setIfInBounds_toArray, List.set_cons_zero, List.set_cons_succ]
        refine wpAnyH_take (i := 4) (v := ?_) (by simp only [List.getElem?_toArray, List.getElem?_cons_zero, List.getElem?_cons_succ]; rfl) (by kernel_rfl) (by kernel_rfl) (by kernel_rfl) (fun _ _ _ h => h) (Or.inl ⟨by rfl, ?_⟩) hS7 ?_
        rotate_left
        · (intro wq hSw; go_simp; all_goals with_reducible rfl)
        try simp only [Act.put, List.setIfInBounds_toArray, List.set_cons_zero, List.set_cons_succ]
        refine wpAnyH_take (i := 5) (v := ?_) (by simp only [List.getElem?_toArray, List.getElem?_cons_zero, List.getElem?_cons_succ]; rfl) (by kernel_rfl) (by kernel_rfl) (by kernel_rfl) (fun _ _ _ h => h) (Or.inl ⟨by rfl, ?_⟩) hS7 ?_
        rotate_left
        · (intro wq hSw; go_simp; all_goals with_reducible rfl)
        try simp only [Act.put, List.setIfInBounds_toArray, List.set_cons_zero, List.set_cons_succ]
        refine wpAnyH_take (i := 6) (v := ?_) (by simp only [List.getElem?_toArray, List.getElem?_cons_zero, List.getElem?_cons_succ]; rfl) (by kernel_rfl) (by kernel_rfl) (by kernel_rfl) (fun _ _ _ h => h) (Or.inl ⟨by rfl, ?_⟩) hS7 ?_
        rotate_left
        · (intro wq hSw; go_simp; all_goals with_reducible rfl)
        try simp only [Act.put, List.setIfInBounds_toArray, List.set_cons_zero, List.set_cons_succ]
        refine wpAnyH_take (i := 7) (v := ?_) (by simp only [List.getElem?_toArray, List.getElem?_cons_zero, List.getElem?_cons_succ]; rfl) (by kernel_rfl) (by kernel_rfl) (by kernel_rfl) (fun _ _ _ h => h) (Or.inl ⟨by rfl, ?_⟩) hS7 ?_
        rotate_left
        · (intro wq hSw; have q0 := hSw.j0; have q1 := hSw.j1; have q2 := hSw.k0; have q3 := hSw.k1; go_simp; all_goals with_reducible rfl)
        try simp only [Act.put, List.setIfInBounds_toArray, List.set_cons_zero, List.set_cons_succ]
        refine wpAnyH_take (i := 8) (v := ?_) (by simp only [List.getElem?_toArray, List.getElem?_cons_zero, List.getElem?_cons_succ]; rfl) (by kernel_rfl) (by kernel_rfl) (by kernel_rfl) (fun _ _ _ h => h) (Or.inl ⟨by rfl, ?_⟩) hS7 ?_
        rotate_left
        · (intro wq hSw; go_simp; all_goals with_reducible rfl)
        try simp only [Act.put, List.setIfInBounds_toArray, List.set_cons_zero, List.set_cons_succ]
        refine wpAnyH_take (i := 9) (v := ?_) (by simp only [List.getElem?_toArray, List.getElem?_cons_zero, List.getElem?_cons_succ]; rfl) (by kernel_rfl) (by kernel_rfl) (by kernel_rfl) (fun _ _ _ h => h) (Or.inl ⟨by rfl, ?_⟩) hS7 ?_
        rotate_left
        · (intro wq hSw; go_simp; all_goals with_reducible rfl)
        try simp only [Act.put, List.setIfInBounds_toArray, List.set_cons_zero, List.set_cons_succ]
        refine wpAnyH_take (i := 10) (v := ?_) (by simp only [List.getElem?_toArray, List.getElem?_cons_zero, List.getElem?_cons_succ]; rfl) (by kernel_rfl) (by kernel_rfl) (by kernel_rfl) (fun _ _ _ h => h) (Or.inl ⟨by rfl, ?_⟩) hS7 ?_
        rotate_left
        · (intro wq hSw; go_simp; all_goals with_reducible rfl)
        try simp only [Act.put, List.setIfInBounds_toArray, List.set_cons_zero, List.set_cons_succ]
        refine wpAnyH_take (i := 11) (v := _) (by simp only [List.getElem?_toArray, List.getElem?_cons_zero, List.getElem?_cons_succ]; rfl) (by kernel_rfl) (by kernel_rfl) (by kernel_rfl) (fun _ _ _ h => h) (yieldsIf_load_mid (by rfl) 33 (.tmp 52) rfl lb (lo + n * 8) rfl o.cells _ (fun _ h => h.op) Tryd.underlying33 rfl size_op) hS7 ?_
        try simp only [Act.put, List.setIfInBounds_toArray, List.set_cons_zero, List.set_cons_succ]
        refine wpAnyH_ready (rs := [12]) (by kernel_rfl) (by simp) ?_
        refine AllReadyH.cons (by simp only [List.getElem?_toArray, List.getElem?_cons_zero, List.getElem?_cons_succ]; rfl) (fun K hK => ?_) AllReadyH.nil
        go_simp
        go_at_call 11
        refine (HPL.out.mono ?_)
        rintro r w8 ⟨rfl, g', m', s', now', was', hP', hm', hMp, hg'⟩
        have hS8 : PlS js ks ja jb ka kb lb (lo + n * 8) o F w4 w8 := HSP.out _ hMp
        go_wp2_with fail
        refine hK.out _ _ hS8 (fun _ => ?_)
        clear hK K
        try simp only [Act.put, List.setIfInBounds_toArray, List.set_cons_zero, List.set_cons_succ]
        refine wpAnyH_take (i := 13) (v := ?_) (by simp only [List.getElem?_toArray, List.getElem?_cons_zero, List.getElem?_cons_succ]; rfl) (by kernel_rfl) (by kernel_rfl) (by kernel_rfl) (fun _ _ _ h => h) (Or.inl ⟨by rfl, ?_⟩) hS8 ?_
        rotate_left
        · (intro wq hSw; go_simp; all_goals with_reducible rfl)
        try simp only [Act.put, List.setIfInBounds_toArray, List.set_cons_zero, List.set_cons_succ]
        refine wpAnyH_done (by kernel_rfl) ?_ _
        refine NoPanic.normal ?_
        have hgn : g' = ga ∨ wr.heap.size ≤ g' := hg'
        obtain ⟨d1, d2, d3, d4, d5, d6, d7, d8, d9, d10, d11, d12, d13, d14⟩ := HD.out
        obtain ⟨x1, x2, x3, x4, x5, x6, x7, x8, x9⟩ := HGG.out
        replace hMp := ((Mod.refl (fun b => b = ja ∨ b = ka ∨ b = ga) wr).drew).trans hMp (fun _ _ h => h)
        have hQ8 := HPB.out.modS hMp (not3 d1 d4.symm x1) (not3 d3 d6 x2) (not3 x3.symm x4.symm x5)
        obtain ⟨y1', y2', y3', y4', y5', y6'⟩ := HSZ.out
        have hsw := HMr.out.size
        have y1 := Nat.lt_of_lt_of_le y1' hsw
        have y2 := Nat.lt_of_lt_of_le y2' hsw
        have y3 := Nat.lt_of_lt_of_le y3' hsw
        have y4 := Nat.lt_of_lt_of_le y4' hsw
        have y5 := Nat.lt_of_lt_of_le y5' hsw
        have y6 := Nat.lt_of_lt_of_le y6' hsw
        have hglt := HPB.out.glt
        have hrl : ((g' ≠ jb ∧ g' ≠ kb ∧ gb ≠ ja ∧ gb ≠ ka ∧ g' ≠ gb ∧ g' ≠ js ∧ gb ≠ js ∧ g' ≠ ks ∧ gb ≠ ks) : Prop) := ⟨fresh_ne hgn x1 y4, fresh_ne hgn x2 y6, x3, x4, fresh_ne hgn x5 hglt, fresh_ne hgn x6 y1, x7, fresh_ne hgn x8 y2, x9⟩
        have HRL := Lib.hid hrl
        clear hrl d1 d2 d3 d4 d5 d6 d7 d8 d9 d10 d11 d12 d13 d14 x1 x2 x3 x4 x5 x6 x7 x8 x9
        have hm8 : Mod F w7 w8 := hw4 ▸ hS8.m
        have hT8 : PlT js ks ja jb ka kb w8 w8 := ⟨hS8.j0, hS8.j1, hS8.k0, hS8.k1, Mod.refl _ _⟩
        have HR := Lib.hid (And.intro hm8 (And.intro hT8 (And.intro hQ8 hP')))
        clear hQ8 hm8 hT8 hP' hMp hS8 hS7 HPL
        go_wp2_with fail
        go_roundw
        case rel =>
          exact ⟨n + 1, by omega, by omega, by go_num, HR.out.2.1, HR.out.1, g', m', s', now', was', gb, mb, sb, nb, wb, HR.out.2.2.2, HR.out.2.2.1, by omega, by omega, HRL.out⟩
        case measure => simp [intOf]; omega

      · have hpl := plays_any w wr.drew HK.out HT.out HMW.out.drew jb kb gb mb sb nb wb (HPB.out.none (Mod.refl _ _).drew) (by omega) o HOK.out fA fB
        obtain ⟨w4, hw4⟩ : ∃ x, x = w7 := ⟨_, rfl⟩
        have hS7 : PlS js ks ja jb ka kb lb (lo + n * 8) o F w4 wr.drew := hw4 ▸ ⟨HTr.out.j0, HTr.out.j1, HTr.out.k0, HTr.out.k1, HROR.out, HMr.out.drew⟩
        have hlw : lb < w.heap.size := hlb
        have hpb := HPB.out.bj
        have hpk := HPB.out.bk
        have hpg := HPB.out.bg
        obtain ⟨d1, d2, d3, d4, d5, d6, d7, d8, d9, d10, d11, d12, d13, d14⟩ := HD.out
        obtain ⟨x1, x2, x3, x4, x5, x6, x7, x8, x9⟩ := HGG.out
        have hSP : ∀ w8, Mod (fun b => b = jb ∨ b = kb ∨ b = gb) wr.drew w8 → PlS js ks ja jb ka kb lb (lo + n * 8) o F w4 w8 := fun w8 hM =>
          hS7.mod hM (not3 d8 d10 x7) (not3 d12 d14 x9) (not3 (Nat.ne_of_gt (Nat.lt_of_lt_of_le hlw hpb)) (Nat.ne_of_gt (Nat.lt_of_lt_of_le hlw hpk)) (Nat.ne_of_gt (Nat.lt_of_lt_of_le hlw hpg))) (fun b hb e => (HF.out b).2 (by
            rcases e with e | e | e
            · rw [e]; exact ⟨hpb, d8, d12⟩
            · rw [e]; exact ⟨hpk, d10, d14⟩
            · rw [e]; exact ⟨hpg, x7, x9⟩))
        have HPL := Lib.hid hpl; have HSP := Lib.hid hSP
        clear hpl hSP d1 d2 d3 d4 d5 d6 d7 d8 d9 d10 d11 d12 d13 d14 x1 x2 x3 x4 x5 x6 x7 x8 x9
        go_upto_region 9 with fail
        refine wp_region_noPanic ?_
        refine wp_region_held_drew (S := PlS js ks ja jb ka kb lb (lo + n * 8) o F w4) (by kernel_rfl) hS7 (fun hHeld => ?_)
        clear hHeld
        refine wpAnyH_take (i := 0) (v := ?_) (by simp only [List.getElem?_toArray, List.getElem?_cons_zero]; rfl) (by kernel_rfl) (by kernel_rfl) (by kernel_rfl) (fun _ _ _ h => h) (Or.inl ⟨by rfl, ?_⟩) hS7 ?_
        rotate_left
        · (intro wq hSw; go_simp; all_goals with_reducible rfl)
        try simp only [Act.put, List.setIfInBounds_toArray, List.set_cons_zero, List.set_cons_succ]
        refine wpAnyH_take (i := 1) (v := ?_) (by simp only [List.getElem?_toArray, List.getElem?_cons_zero, List.getElem?_cons_succ]; rfl) (by kernel_rfl) (by kernel_rfl) (by kernel_rfl) (fun _ _ _ h => h) (Or.inl ⟨by rfl, ?_⟩) hS7 ?_
        rotate_left
        · (intro wq hSw; go_simp; all_goals with_reducible rfl)
        try simp only [Act.put, List.setIfInBounds_toArray, List.set_cons_zero, List.set_cons_succ]
        refine wpAnyH_take (i := 2) (v := ?_) (by simp only [List.getElem?_toArray, List.getElem?_cons_zero, List.getElem?_cons_succ]; rfl) (by kernel_rfl) (by kernel_rfl) (by kernel_rfl) (fun _ _ _ h => h) (Or.inl ⟨by rfl, ?_⟩) hS7 ?_
        rotate_left
        · (intro wq hSw; go_simp; all_goals with_reducible rfl)
        try simp only [Act.put, List.setIfInBounds_toArray, List.set_cons_zero, List.set_cons_succ]
        refine wpAnyH_take (i := 3) (v := ?_) (by simp only [List.getElem?_toArray, List.getElem?_cons_zero, List.getElem?_cons_succ]; rfl) (by kernel_rfl) (by kernel_rfl) (by kernel_rfl) (fun _ _ _ h => h) (Or.inl ⟨by rfl, ?_⟩) hS7 ?_
        rotate_left
        · (intro wq hSw; have q0 := hSw.j0; have q1 := hSw.j1; have q2 := hSw.k0; have q3 := hSw.k1; go_simp; all_goals with_reducible rfl)
        try simp only [Act.put, List.setIfInBounds_toArray, List.set_cons_zero, List.set_cons_succ]
        refine wpAnyH_take (i := 4) (v := ?_) (by simp only [List.getElem?_toArray, List.getElem?_cons_zero, List.getElem?_cons_succ]; rfl) (by kernel_rfl) (by kernel_rfl) (by kernel_rfl) (fun _ _ _ h => h) (Or.inl ⟨by rfl, ?_⟩) hS7 ?_
        rotate_left
        · (intro wq hSw; go_simp; all_goals with_reducible rfl)
        try simp only [Act.put, List.setIfInBounds_toArray, List.set_cons_zero, List.set_cons_succ]
        refine wpAnyH_take (i := 5) (v := ?_) (by simp only [List.getElem?_toArray, List.getElem?_cons_zero, List.getElem?_cons_succ]; rfl) (by kernel_rfl) (by kernel_rfl) (by kernel_rfl) (fun _ _ _ h => h) (Or.inl ⟨by rfl, ?_⟩) hS7 ?_
        rotate_left
        · (intro wq hSw; go_simp; all_goals with_reducible rfl)
        try simp only [Act.put, List.setIfInBounds_toArray, List.set_cons_zero, List.set_cons_succ]
        refine wpAnyH_take (i := 6) (v := ?_) (by simp only [List.getElem?_toArray, List.getElem?_cons_zero, List.getElem?_cons_succ]; rfl) (by kernel_rfl) (by kernel_rfl) (by kernel_rfl) (fun _ _ _ h => h) (Or.inl ⟨by rfl, ?_⟩) hS7 ?_
        rotate_left
        · (intro wq hSw; go_simp; all_goals with_reducible rfl)
        try simp only [Act.put, List.setIfInBounds_toArray, List.set_cons_zero, List.set_cons_succ]
        refine wpAnyH_take (i := 7) (v := ?_) (by simp only [List.getElem?_toArray, List.getElem?_cons_zero, List.getElem?_cons_succ]; rfl) (by kernel_rfl) (by kernel_rfl) (by kernel_rfl) (fun _ _ _ h => h) (Or.inl ⟨by rfl, ?_⟩) hS7 ?_
        rotate_left
        · (intro wq hSw; have q0 := hSw.j0; have q1 := hSw.j1; have q2 := hSw.k0; have q3 := hSw.k1; go_simp; all_goals with_reducible rfl)
        try simp only [Act.put, List.setIfInBounds_toArray, List.set_cons_zero, List.set_cons_succ]
        refine wpAnyH_take (i := 8) (v := ?_) (by simp only [List.getElem?_toArray, List.getElem?_cons_zero, List.getElem?_cons_succ]; rfl) (by kernel_rfl) (by kernel_rfl) (by kernel_rfl) (fun _ _ _ h => h) (Or.inl ⟨by rfl, ?_⟩) hS7 ?_
        rotate_left
        · (intro wq hSw; go_simp; all_goals with_reducible rfl)
        try simp only [Act.put, List.setIfInBounds_toArray, List.set_cons_zero, List.set_cons_succ]
        refine wpAnyH_take (i := 9) (v := ?_) (by simp only [List.getElem?_toArray, List.getElem?_cons_zero, List.getElem?_cons_succ]; rfl) (by kernel_rfl) (by kernel_rfl) (by kernel_rfl) (fun _ _ _ h => h) (Or.inl ⟨by rfl, ?_⟩) hS7 ?_
        rotate_left
        · (intro wq hSw; go_simp; all_goals with_reducible rfl)
        try simp only [Act.put, List.setIfInBounds_toArray, List.set_cons_zero, List.set_cons_succ]
        refine wpAnyH_take (i := 10) (v := ?_) (by simp only [List.getElem?_toArray, List.getElem?_cons_zero, List.getElem?_cons_succ]; rfl) (by kernel_rfl) (by kernel_rfl) (by kernel_rfl) (fun _ _ _ h => h) (Or.inl ⟨by rfl, ?_⟩) hS7 ?_
        rotate_left
        · (intro wq hSw; go_simp; all_goals with_reducible rfl)
        try simp only [Act.put, List.setIfInBounds_toArray, List.set_cons_zero, List.set_cons_succ]
        refine wpAnyH_take (i := 11) (v := _) (by simp only [List.getElem?_toArray, List.getElem?_cons_zero, List.getElem?_cons_succ]; rfl) (by kernel_rfl) (by kernel_rfl) (by kernel_rfl) (fun _ _ _ h => h) (yieldsIf_load_mid (by rfl) 33 (.tmp 52) rfl lb (lo + n * 8) rfl o.cells _ (fun _ h => h.op) Tryd.underlying33 rfl size_op) hS7 ?_
        try simp only [Act.put, List.setIfInBounds_toArray, List.set_cons_zero, List.set_cons_succ]
        refine wpAnyH_ready (rs := [12]) (by kernel_rfl) (by simp) ?_
        refine AllReadyH.cons (by simp only [List.getElem?_toArray, List.getElem?_cons_zero, List.getElem?_cons_succ]; rfl) (fun K hK => ?_) AllReadyH.nil
        go_simp
        go_at_call 11
        refine (HPL.out.mono ?_)
        rintro r w8 ⟨rfl, g', m', s', now', was', hP', hm', hMp, hg'⟩
        have hS8 : PlS js ks ja jb ka kb lb (lo + n * 8) o F w4 w8 := HSP.out _ hMp
        go_wp2_with fail
        refine hK.out _ _ hS8 (fun _ => ?_)
        clear hK K
        try simp only [Act.put, List.setIfInBounds_toArray, List.set_cons_zero, List.set_cons_succ]
        refine wpAnyH_take (i := 13) (v := ?_) (by simp only [List.getElem?_toArray, List.getElem?_cons_zero, List.getElem?_cons_succ]; rfl) (by kernel_rfl) (by kernel_rfl) (by kernel_rfl) (fun _ _ _ h => h) (Or.inl ⟨by rfl, ?_⟩) hS8 ?_
        rotate_left
        · (intro wq hSw; go_simp; all_goals with_reducible rfl)
        try simp only [Act.put, List.setIfInBounds_toArray, List.set_cons_zero, List.set_cons_succ]
        refine wpAnyH_done (by kernel_rfl) ?_ _
        refine NoPanic.normal ?_
        have hgn : g' = gb ∨ wr.heap.size ≤ g' := hg'
        obtain ⟨d1, d2, d3, d4, d5, d6, d7, d8, d9, d10, d11, d12, d13, d14⟩ := HD.out
        obtain ⟨x1, x2, x3, x4, x5, x6, x7, x8, x9⟩ := HGG.out
        replace hMp := ((Mod.refl (fun b => b = jb ∨ b = kb ∨ b = gb) wr).drew).trans hMp (fun _ _ h => h)
        have hQ8 := HPA.out.modS hMp (not3 d1.symm d3.symm x3) (not3 d4 d6.symm x4) (not3 x1.symm x2.symm x5.symm)
        obtain ⟨y1', y2', y3', y4', y5', y6'⟩ := HSZ.out
        have hsw := HMr.out.size
        have y1 := Nat.lt_of_lt_of_le y1' hsw
        have y2 := Nat.lt_of_lt_of_le y2' hsw
        have y3 := Nat.lt_of_lt_of_le y3' hsw
        have y4 := Nat.lt_of_lt_of_le y4' hsw
        have y5 := Nat.lt_of_lt_of_le y5' hsw
        have y6 := Nat.lt_of_lt_of_le y6' hsw
        have hglt := HPA.out.glt
        have hrl : ((ga ≠ jb ∧ ga ≠ kb ∧ g' ≠ ja ∧ g' ≠ ka ∧ ga ≠ g' ∧ ga ≠ js ∧ g' ≠ js ∧ ga ≠ ks ∧ g' ≠ ks) : Prop) := ⟨x1, x2, fresh_ne hgn x3 y3, fresh_ne hgn x4 y5, (fresh_ne hgn x5.symm hglt).symm, x6, fresh_ne hgn x7 y1, x8, fresh_ne hgn x9 y2⟩
        have HRL := Lib.hid hrl
        clear hrl d1 d2 d3 d4 d5 d6 d7 d8 d9 d10 d11 d12 d13 d14 x1 x2 x3 x4 x5 x6 x7 x8 x9
        have hm8 : Mod F w7 w8 := hw4 ▸ hS8.m
        have hT8 : PlT js ks ja jb ka kb w8 w8 := ⟨hS8.j0, hS8.j1, hS8.k0, hS8.k1, Mod.refl _ _⟩
        have HR := Lib.hid (And.intro hm8 (And.intro hT8 (And.intro hQ8 hP')))
        clear hQ8 hm8 hT8 hP' hMp hS8 hS7 HPL
        go_wp2_with fail
        go_roundw
        case rel =>
          exact ⟨n + 1, by omega, by omega, by go_num, HR.out.2.1, HR.out.1, ga, ma, sa, na, wa, g', m', s', now', was', HR.out.2.2.1, HR.out.2.2.2, by omega, by omega, HRL.out⟩
        case measure => simp [intOf]; omega

    · have hT0 : PlT js ks ja jb ka kb wr wr.drew := ⟨HTr.out.j0, HTr.out.j1, HTr.out.k0, HTr.out.k1, (Mod.refl _ _).drew⟩
      obtain ⟨_, _⟩ : True ∧ True := ⟨trivial, trivial⟩
      have hc0 : ∀ q, PlT js ks ja jb ka kb wr q → Calls Tryd.prog 12 #[.pointer (some ⟨ja, 0, none⟩)] q fun r w' => r = .returned (.int .u64 ((ma : Int) + 1)) ∧ PlT js ks ja jb ka kb wr w' := fun q h => (ckEpoch_any q _ _ _ _ (HPA.out.jar.mod h.m (fun h => h))).mono (by rintro r w' ⟨rfl, rfl⟩; exact ⟨rfl, h⟩)
      have hc2 : ∀ q, PlT js ks ja jb ka kb wr q → Calls Tryd.prog 12 #[.pointer (some ⟨jb, 0, none⟩)] q fun r w' => r = .returned (.int .u64 ((mb : Int) + 1)) ∧ PlT js ks ja jb ka kb wr w' := fun q h => (ckEpoch_any q _ _ _ _ (HPB.out.jar.mod h.m (fun h => h))).mono (by rintro r w' ⟨rfl, rfl⟩; exact ⟨rfl, h⟩)
      have hc1 : ∀ q, PlT js ks ja jb ka kb wr q → Calls Tryd.prog 13 #[.pointer (some ⟨ka, 0, none⟩)] q fun r w' => r = .returned (.int .u64 ((ma : Int) + 1)) ∧ PlT js ks ja jb ka kb wr w' := fun q h => by
        obtain ⟨cap, hr⟩ := HPA.out.ref
        refine (rjEpoch_any q _ _ _ (hr.toV.mod h.m)).mono ?_
        rintro r w' ⟨rfl, rfl⟩
        exact ⟨by rw [HPA.out.len]; congr 2, h⟩
      have hc3 : ∀ q, PlT js ks ja jb ka kb wr q → Calls Tryd.prog 13 #[.pointer (some ⟨kb, 0, none⟩)] q fun r w' => r = .returned (.int .u64 ((mb : Int) + 1)) ∧ PlT js ks ja jb ka kb wr w' := fun q h => by
        obtain ⟨cap, hr⟩ := HPB.out.ref
        refine (rjEpoch_any q _ _ _ (hr.toV.mod h.m)).mono ?_
        rintro r w' ⟨rfl, rfl⟩
        exact ⟨by rw [HPB.out.len]; congr 2, h⟩
      have hc4 : ∀ q, PlT js ks ja jb ka kb wr q → Calls Tryd.prog 14 #[.pointer (some ⟨ja, 0, none⟩), .string ⟨#[]⟩, .string ⟨#[]⟩] q fun r w' => r = .returned (.string (Ck.ck na ⟨#[]⟩ ⟨#[]⟩ ((ma : Int) + 1))) ∧ PlT js ks ja jb ka kb wr w' := fun q h => (ckBake_any q (HRO.out _ (HMW.out.then h.m)) _ _ _ _ _ _ (HPA.out.jar.mod h.m (fun h => h)) fE fE).mono (by rintro r w' ⟨rfl, hM⟩; exact ⟨rfl, h.then hM⟩)
      have hc6 : ∀ q, PlT js ks ja jb ka kb wr q → Calls Tryd.prog 14 #[.pointer (some ⟨jb, 0, none⟩), .string ⟨#[120]⟩, .string ⟨#[110]⟩] q fun r w' => r = .returned (.string (Ck.ck nb ⟨#[120]⟩ ⟨#[110]⟩ ((mb : Int) + 1))) ∧ PlT js ks ja jb ka kb wr w' := fun q h => (ckBake_any q (HRO.out _ (HMW.out.then h.m)) _ _ _ _ _ _ (HPB.out.jar.mod h.m (fun h => h)) fX fN).mono (by rintro r w' ⟨rfl, hM⟩; exact ⟨rfl, h.then hM⟩)
      have hc5 : ∀ q, PlT js ks ja jb ka kb wr q → Calls Tryd.prog 15 #[.pointer (some ⟨ka, 0, none⟩), .string ⟨#[]⟩, .string ⟨#[]⟩] q fun r w' => r = .returned (.string (Ck.ck na ⟨#[]⟩ ⟨#[]⟩ ((ma : Int) + 1))) ∧ PlT js ks ja jb ka kb wr w' := fun q h => by
        obtain ⟨cap, hr⟩ := HPA.out.ref
        exact (rjBake_any q (HT.out.none (HMW.out.then h.m)) _ _ _ _ _ _ _ HPA.out.now HPA.out.len (hr.toV.mod h.m) fE fE).mono (by rintro r w' ⟨rfl, hM⟩; exact ⟨rfl, h.then hM⟩)
      have hc7 : ∀ q, PlT js ks ja jb ka kb wr q → Calls Tryd.prog 15 #[.pointer (some ⟨kb, 0, none⟩), .string ⟨#[120]⟩, .string ⟨#[110]⟩] q fun r w' => r = .returned (.string (Ck.ck nb ⟨#[120]⟩ ⟨#[110]⟩ ((mb : Int) + 1))) ∧ PlT js ks ja jb ka kb wr w' := fun q h => by
        obtain ⟨cap, hr⟩ := HPB.out.ref
        exact (rjBake_any q (HT.out.none (HMW.out.then h.m)) _ _ _ _ _ _ _ HPB.out.now HPB.out.len (hr.toV.mod h.m) fX fN).mono (by rintro r w' ⟨rfl, hM⟩; exact ⟨rfl, h.then hM⟩)
      generalize Ck.ck na ⟨#[]⟩ ⟨#[]⟩ ((ma : Int) + 1) = Za at *
      generalize Ck.ck nb ⟨#[120]⟩ ⟨#[110]⟩ ((mb : Int) + 1) = Zb at *
      have HC0 := Lib.hid hc0; have HC1 := Lib.hid hc1; have HC2 := Lib.hid hc2; have HC3 := Lib.hid hc3; have HC4 := Lib.hid hc4; have HC5 := Lib.hid hc5; have HC6 := Lib.hid hc6; have HC7 := Lib.hid hc7
      clear hc0 hc1 hc2 hc3 hc4 hc5 hc6 hc7
      by_cases hio : n < on
      · have hni : (n : Int) < (on : Int) := by omega
        have hn2 : ¬ (n : Int) < 200 := by omega
        go_upto_region 12 with fail
        refine wp_region_noPanic ?_
        refine wp_region_held_drew (S := PlT js ks ja jb ka kb wr) (by kernel_rfl) hT0 (fun hHeld => ?_)
        clear hHeld
        refine wpAnyH_take (i := 0) (v := ?_) (by simp only [List.getElem?_toArray, List.getElem?_cons_zero]; rfl) (by kernel_rfl) (by kernel_rfl) (by kernel_rfl) (fun _ _ _ h => h) (Or.inl ⟨by rfl, ?_⟩) hT0 ?_
        rotate_left
        · (intro wq hSw; go_simp; all_goals with_reducible rfl)
        try simp only [Act.put, List.setIfInBounds_toArray, List.set_cons_zero, List.set_cons_succ]
        refine wpAnyH_take (i := 1) (v := ?_) (by simp only [List.getElem?_toArray, List.getElem?_cons_zero, List.getElem?_cons_succ]; rfl) (by kernel_rfl) (by kernel_rfl) (by kernel_rfl) (fun _ _ _ h => h) (Or.inl ⟨by rfl, ?_⟩) hT0 ?_
        rotate_left
        · (intro wq hSw; go_simp; all_goals with_reducible rfl)
        try simp only [Act.put, List.setIfInBounds_toArray, List.set_cons_zero, List.set_cons_succ]
        refine wpAnyH_take (i := 2) (v := ?_) (by simp only [List.getElem?_toArray, List.getElem?_cons_zero, List.getElem?_cons_succ]; rfl) (by kernel_rfl) (by kernel_rfl) (by kernel_rfl) (fun _ _ _ h => h) (Or.inl ⟨by rfl, ?_⟩) hT0 ?_
        rotate_left
        · (intro wq hSw; have q0 := hSw.j0; have q1 := hSw.j1; have q2 := hSw.k0; have q3 := hSw.k1; go_simp; all_goals with_reducible rfl)
        try simp only [Act.put, List.setIfInBounds_toArray, List.set_cons_zero, List.set_cons_succ]
        refine wpAnyH_take (i := 3) (v := ?_) (by simp only [List.getElem?_toArray, List.getElem?_cons_zero, List.getElem?_cons_succ]; rfl) (by kernel_rfl) (by kernel_rfl) (by kernel_rfl) (fun _ _ _ h => h) (Or.inl ⟨by rfl, ?_⟩) hT0 ?_
        rotate_left
        · (intro wq hSw; go_simp; all_goals with_reducible rfl)
        try simp only [Act.put, List.setIfInBounds_toArray, List.set_cons_zero, List.set_cons_succ]
        refine wpAnyH_take (i := 4) (v := ?_) (by simp only [List.getElem?_toArray, List.getElem?_cons_zero, List.getElem?_cons_succ]; rfl) (by kernel_rfl) (by kernel_rfl) (by kernel_rfl) (fun _ _ _ h => h) (Or.inl ⟨by rfl, ?_⟩) hT0 ?_
        rotate_left
        · (intro wq hSw; go_simp; all_goals with_reducible rfl)
        try simp only [Act.put, List.setIfInBounds_toArray, List.set_cons_zero, List.set_cons_succ]
        refine wpAnyH_take (i := 6) (v := ?_) (by simp only [List.getElem?_toArray, List.getElem?_cons_zero, List.getElem?_cons_succ]; rfl) (by kernel_rfl) (by kernel_rfl) (by kernel_rfl) (fun _ _ _ h => h) (Or.inl ⟨by rfl, ?_⟩) hT0 ?_
        rotate_left
        · (intro wq hSw; go_simp; all_goals with_reducible rfl)
        try simp only [Act.put, List.setIfInBounds_toArray, List.set_cons_zero, List.set_cons_succ]
        refine wpAnyH_take (i := 7) (v := ?_) (by simp only [List.getElem?_toArray, List.getElem?_cons_zero, List.getElem?_cons_succ]; rfl) (by kernel_rfl) (by kernel_rfl) (by kernel_rfl) (fun _ _ _ h => h) (Or.inl ⟨by rfl, ?_⟩) hT0 ?_
        rotate_left
        · (intro wq hSw; go_simp; all_goals with_reducible rfl)
        try simp only [Act.put, List.setIfInBounds_toArray, List.set_cons_zero, List.set_cons_succ]
        refine wpAnyH_take (i := 8) (v := ?_) (by simp only [List.getElem?_toArray, List.getElem?_cons_zero, List.getElem?_cons_succ]; rfl) (by kernel_rfl) (by kernel_rfl) (by kernel_rfl) (fun _ _ _ h => h) (Or.inl ⟨by rfl, ?_⟩) hT0 ?_
        rotate_left
        · (intro wq hSw; have q0 := hSw.j0; have q1 := hSw.j1; have q2 := hSw.k0; have q3 := hSw.k1; go_simp; all_goals with_reducible rfl)
        try simp only [Act.put, List.setIfInBounds_toArray, List.set_cons_zero, List.set_cons_succ]
        refine wpAnyH_ready (rs := [5]) (by kernel_rfl) (by simp) ?_
        refine AllReadyH.cons (by simp only [List.getElem?_toArray, List.getElem?_cons_zero, List.getElem?_cons_succ]; rfl) (fun K hK => ?_) AllReadyH.nil
        go_simp
        go_at_call 12
        refine (HC0.out _ hT0).mono ?_
        rintro r wt1 ⟨rfl, hT1⟩
        go_wp2_with fail
        refine hK.out _ _ hT1 (fun _ => ?_)
        clear hK K
        try simp only [Act.put, List.setIfInBounds_toArray, List.set_cons_zero, List.set_cons_succ]
        refine wpAnyH_ready (rs := [9]) (by kernel_rfl) (by simp) ?_
        refine AllReadyH.cons (by simp only [List.getElem?_toArray, List.getElem?_cons_zero, List.getElem?_cons_succ]; rfl) (fun K hK => ?_) AllReadyH.nil
        go_simp
        go_at_call 13
        refine (HC1.out _ hT1).mono ?_
        rintro r wt2 ⟨rfl, hT2⟩
        go_wp2_with fail
        refine hK.out _ _ hT2 (fun _ => ?_)
        clear hK K
        try simp only [Act.put, List.setIfInBounds_toArray, List.set_cons_zero, List.set_cons_succ]
        refine wpAnyH_take (i := 10) (v := .bool true) (by simp only [List.getElem?_toArray, List.getElem?_cons_zero, List.getElem?_cons_succ]; rfl) (by kernel_rfl) (by kernel_rfl) (by kernel_rfl) (fun _ _ _ h => h) (Or.inl ⟨by rfl, ?_⟩) hT2 ?_
        · (intro wq hSw; go_simp; all_goals with_reducible rfl)
        try simp only [Act.put, List.setIfInBounds_toArray, List.set_cons_zero, List.set_cons_succ]
        refine wpAnyH_take (i := 11) (v := ?_) (by simp only [List.getElem?_toArray, List.getElem?_cons_zero, List.getElem?_cons_succ]; rfl) (by kernel_rfl) (by kernel_rfl) (by kernel_rfl) (fun _ _ _ h => h) (Or.inl ⟨by rfl, ?_⟩) hT2 ?_
        rotate_left
        · (intro wq hSw; go_simp; all_goals with_reducible rfl)
        try simp only [Act.put, List.setIfInBounds_toArray, List.set_cons_zero, List.set_cons_succ]
        refine wpAnyH_take (i := 12) (v := ?_) (by simp only [List.getElem?_toArray, List.getElem?_cons_zero, List.getElem?_cons_succ]; rfl) (by kernel_rfl) (by kernel_rfl) (by kernel_rfl) (fun _ _ _ h => h) (Or.inl ⟨by rfl, ?_⟩) hT2 ?_
        rotate_left
        · (intro wq hSw; go_simp; all_goals with_reducible rfl)
        try simp only [Act.put, List.setIfInBounds_toArray, List.set_cons_zero, List.set_cons_succ]
        refine wpAnyH_take (i := 13) (v := ?_) (by simp only [List.getElem?_toArray, List.getElem?_cons_zero, List.getElem?_cons_succ]; rfl) (by kernel_rfl) (by kernel_rfl) (by kernel_rfl) (fun _ _ _ h => h) (Or.inl ⟨by rfl, ?_⟩) hT2 ?_
        rotate_left
        · (intro wq hSw; go_simp; all_goals with_reducible rfl)
        try simp only [Act.put, List.setIfInBounds_toArray, List.set_cons_zero, List.set_cons_succ]
        refine wpAnyH_take (i := 14) (v := ?_) (by simp only [List.getElem?_toArray, List.getElem?_cons_zero, List.getElem?_cons_succ]; rfl) (by kernel_rfl) (by kernel_rfl) (by kernel_rfl) (fun _ _ _ h => h) (Or.inl ⟨by rfl, ?_⟩) hT2 ?_
        rotate_left
        · (intro wq hSw; have q0 := hSw.j0; have q1 := hSw.j1; have q2 := hSw.k0; have q3 := hSw.k1; go_simp; all_goals with_reducible rfl)
        try simp only [Act.put, List.setIfInBounds_toArray, List.set_cons_zero, List.set_cons_succ]
        refine wpAnyH_take (i := 15) (v := ?_) (by simp only [List.getElem?_toArray, List.getElem?_cons_zero, List.getElem?_cons_succ]; rfl) (by kernel_rfl) (by kernel_rfl) (by kernel_rfl) (fun _ _ _ h => h) (Or.inl ⟨by rfl, ?_⟩) hT2 ?_
        rotate_left
        · (intro wq hSw; go_simp; all_goals with_reducible rfl)
        try simp only [Act.put, List.setIfInBounds_toArray, List.set_cons_zero, List.set_cons_succ]
        refine wpAnyH_take (i := 16) (v := ?_) (by simp only [List.getElem?_toArray, List.getElem?_cons_zero, List.getElem?_cons_succ]; rfl) (by kernel_rfl) (by kernel_rfl) (by kernel_rfl) (fun _ _ _ h => h) (Or.inl ⟨by rfl, ?_⟩) hT2 ?_
        rotate_left
        · (intro wq hSw; go_simp; all_goals with_reducible rfl)
        try simp only [Act.put, List.setIfInBounds_toArray, List.set_cons_zero, List.set_cons_succ]
        refine wpAnyH_take (i := 18) (v := ?_) (by simp only [List.getElem?_toArray, List.getElem?_cons_zero, List.getElem?_cons_succ]; rfl) (by kernel_rfl) (by kernel_rfl) (by kernel_rfl) (fun _ _ _ h => h) (Or.inl ⟨by rfl, ?_⟩) hT2 ?_
        rotate_left
        · (intro wq hSw; go_simp; all_goals with_reducible rfl)
        try simp only [Act.put, List.setIfInBounds_toArray, List.set_cons_zero, List.set_cons_succ]
        refine wpAnyH_take (i := 19) (v := ?_) (by simp only [List.getElem?_toArray, List.getElem?_cons_zero, List.getElem?_cons_succ]; rfl) (by kernel_rfl) (by kernel_rfl) (by kernel_rfl) (fun _ _ _ h => h) (Or.inl ⟨by rfl, ?_⟩) hT2 ?_
        rotate_left
        · (intro wq hSw; go_simp; all_goals with_reducible rfl)
        try simp only [Act.put, List.setIfInBounds_toArray, List.set_cons_zero, List.set_cons_succ]
        refine wpAnyH_take (i := 20) (v := ?_) (by simp only [List.getElem?_toArray, List.getElem?_cons_zero, List.getElem?_cons_succ]; rfl) (by kernel_rfl) (by kernel_rfl) (by kernel_rfl) (fun _ _ _ h => h) (Or.inl ⟨by rfl, ?_⟩) hT2 ?_
        rotate_left
        · (intro wq hSw; have q0 := hSw.j0; have q1 := hSw.j1; have q2 := hSw.k0; have q3 := hSw.k1; go_simp; all_goals with_reducible rfl)
        try simp only [Act.put, List.setIfInBounds_toArray, List.set_cons_zero, List.set_cons_succ]
        refine wpAnyH_ready (rs := [17]) (by kernel_rfl) (by simp) ?_
        refine AllReadyH.cons (by simp only [List.getElem?_toArray, List.getElem?_cons_zero, List.getElem?_cons_succ]; rfl) (fun K hK => ?_) AllReadyH.nil
        go_simp
        go_at_call 12
        refine (HC2.out _ hT2).mono ?_
        rintro r wt3 ⟨rfl, hT3⟩
        go_wp2_with fail
        refine hK.out _ _ hT3 (fun _ => ?_)
        clear hK K
        try simp only [Act.put, List.setIfInBounds_toArray, List.set_cons_zero, List.set_cons_succ]
        refine wpAnyH_ready (rs := [21]) (by kernel_rfl) (by simp) ?_
        refine AllReadyH.cons (by simp only [List.getElem?_toArray, List.getElem?_cons_zero, List.getElem?_cons_succ]; rfl) (fun K hK => ?_) AllReadyH.nil
        go_simp
        go_at_call 13
        refine (HC3.out _ hT3).mono ?_
        rintro r wt4 ⟨rfl, hT4⟩
        go_wp2_with fail
        refine hK.out _ _ hT4 (fun _ => ?_)
        clear hK K
        try simp only [Act.put, List.setIfInBounds_toArray, List.set_cons_zero, List.set_cons_succ]
        refine wpAnyH_take (i := 22) (v := .bool true) (by simp only [List.getElem?_toArray, List.getElem?_cons_zero, List.getElem?_cons_succ]; rfl) (by kernel_rfl) (by kernel_rfl) (by kernel_rfl) (fun _ _ _ h => h) (Or.inl ⟨by rfl, ?_⟩) hT4 ?_
        · (intro wq hSw; go_simp; all_goals with_reducible rfl)
        try simp only [Act.put, List.setIfInBounds_toArray, List.set_cons_zero, List.set_cons_succ]
        refine wpAnyH_take (i := 23) (v := .bool true) (by simp only [List.getElem?_toArray, List.getElem?_cons_zero, List.getElem?_cons_succ]; rfl) (by kernel_rfl) (by kernel_rfl) (by kernel_rfl) (fun _ _ _ h => h) (Or.inl ⟨by rfl, ?_⟩) hT4 ?_
        · (intro wq hSw; go_simp; all_goals with_reducible rfl)
        try simp only [Act.put, List.setIfInBounds_toArray, List.set_cons_zero, List.set_cons_succ]
        refine wpAnyH_take (i := 24) (v := ?_) (by simp only [List.getElem?_toArray, List.getElem?_cons_zero, List.getElem?_cons_succ]; rfl) (by kernel_rfl) (by kernel_rfl) (by kernel_rfl) (fun _ _ _ h => h) (Or.inl ⟨by rfl, ?_⟩) hT4 ?_
        rotate_left
        · (intro wq hSw; go_simp; all_goals with_reducible rfl)
        try simp only [Act.put, List.setIfInBounds_toArray, List.set_cons_zero, List.set_cons_succ]
        refine wpAnyH_take (i := 25) (v := ?_) (by simp only [List.getElem?_toArray, List.getElem?_cons_zero, List.getElem?_cons_succ]; rfl) (by kernel_rfl) (by kernel_rfl) (by kernel_rfl) (fun _ _ _ h => h) (Or.inl ⟨by rfl, ?_⟩) hT4 ?_
        rotate_left
        · (intro wq hSw; go_simp; all_goals with_reducible rfl)
        try simp only [Act.put, List.setIfInBounds_toArray, List.set_cons_zero, List.set_cons_succ]
        refine wpAnyH_take (i := 26) (v := ?_) (by simp only [List.getElem?_toArray, List.getElem?_cons_zero, List.getElem?_cons_succ]; rfl) (by kernel_rfl) (by kernel_rfl) (by kernel_rfl) (fun _ _ _ h => h) (Or.inl ⟨by rfl, ?_⟩) hT4 ?_
        rotate_left
        · (intro wq hSw; go_simp; all_goals with_reducible rfl)
        try simp only [Act.put, List.setIfInBounds_toArray, List.set_cons_zero, List.set_cons_succ]
        refine wpAnyH_take (i := 27) (v := ?_) (by simp only [List.getElem?_toArray, List.getElem?_cons_zero, List.getElem?_cons_succ]; rfl) (by kernel_rfl) (by kernel_rfl) (by kernel_rfl) (fun _ _ _ h => h) (Or.inl ⟨by rfl, ?_⟩) hT4 ?_
        rotate_left
        · (intro wq hSw; have q0 := hSw.j0; have q1 := hSw.j1; have q2 := hSw.k0; have q3 := hSw.k1; go_simp; all_goals with_reducible rfl)
        try simp only [Act.put, List.setIfInBounds_toArray, List.set_cons_zero, List.set_cons_succ]
        refine wpAnyH_take (i := 29) (v := ?_) (by simp only [List.getElem?_toArray, List.getElem?_cons_zero, List.getElem?_cons_succ]; rfl) (by kernel_rfl) (by kernel_rfl) (by kernel_rfl) (fun _ _ _ h => h) (Or.inl ⟨by rfl, ?_⟩) hT4 ?_
        rotate_left
        · (intro wq hSw; go_simp; all_goals with_reducible rfl)
        try simp only [Act.put, List.setIfInBounds_toArray, List.set_cons_zero, List.set_cons_succ]
        refine wpAnyH_take (i := 30) (v := ?_) (by simp only [List.getElem?_toArray, List.getElem?_cons_zero, List.getElem?_cons_succ]; rfl) (by kernel_rfl) (by kernel_rfl) (by kernel_rfl) (fun _ _ _ h => h) (Or.inl ⟨by rfl, ?_⟩) hT4 ?_
        rotate_left
        · (intro wq hSw; go_simp; all_goals with_reducible rfl)
        try simp only [Act.put, List.setIfInBounds_toArray, List.set_cons_zero, List.set_cons_succ]
        refine wpAnyH_take (i := 31) (v := ?_) (by simp only [List.getElem?_toArray, List.getElem?_cons_zero, List.getElem?_cons_succ]; rfl) (by kernel_rfl) (by kernel_rfl) (by kernel_rfl) (fun _ _ _ h => h) (Or.inl ⟨by rfl, ?_⟩) hT4 ?_
        rotate_left
        · (intro wq hSw; have q0 := hSw.j0; have q1 := hSw.j1; have q2 := hSw.k0; have q3 := hSw.k1; go_simp; all_goals with_reducible rfl)
        try simp only [Act.put, List.setIfInBounds_toArray, List.set_cons_zero, List.set_cons_succ]
        refine wpAnyH_ready (rs := [28]) (by kernel_rfl) (by simp) ?_
        refine AllReadyH.cons (by simp only [List.getElem?_toArray, List.getElem?_cons_zero, List.getElem?_cons_succ]; rfl) (fun K hK => ?_) AllReadyH.nil
        go_simp
        go_at_call 14
        refine (HC4.out _ hT4).mono ?_
        rintro r wt5 ⟨rfl, hT5⟩
        go_wp2_with fail
        refine hK.out _ _ hT5 (fun _ => ?_)
        clear hK K
        try simp only [Act.put, List.setIfInBounds_toArray, List.set_cons_zero, List.set_cons_succ]
        refine wpAnyH_ready (rs := [32]) (by kernel_rfl) (by simp) ?_
        refine AllReadyH.cons (by simp only [List.getElem?_toArray, List.getElem?_cons_zero, List.getElem?_cons_succ]; rfl) (fun K hK => ?_) AllReadyH.nil
        go_simp
        go_at_call 15
        refine (HC5.out _ hT5).mono ?_
        rintro r wt6 ⟨rfl, hT6⟩
        go_wp2_with fail
        refine hK.out _ _ hT6 (fun _ => ?_)
        clear hK K
        try simp only [Act.put, List.setIfInBounds_toArray, List.set_cons_zero, List.set_cons_succ]
        refine wpAnyH_take (i := 33) (v := .bool true) (by simp only [List.getElem?_toArray, List.getElem?_cons_zero, List.getElem?_cons_succ]; rfl) (by kernel_rfl) (by kernel_rfl) (by kernel_rfl) (fun _ _ _ h => h) (Or.inl ⟨by rfl, ?_⟩) hT6 ?_
        · (intro wq hSw; go_simp; all_goals with_reducible rfl)
        try simp only [Act.put, List.setIfInBounds_toArray, List.set_cons_zero, List.set_cons_succ]
        refine wpAnyH_take (i := 34) (v := .bool true) (by simp only [List.getElem?_toArray, List.getElem?_cons_zero, List.getElem?_cons_succ]; rfl) (by kernel_rfl) (by kernel_rfl) (by kernel_rfl) (fun _ _ _ h => h) (Or.inl ⟨by rfl, ?_⟩) hT6 ?_
        · (intro wq hSw; go_simp; all_goals with_reducible rfl)
        try simp only [Act.put, List.setIfInBounds_toArray, List.set_cons_zero, List.set_cons_succ]
        refine wpAnyH_take (i := 35) (v := ?_) (by simp only [List.getElem?_toArray, List.getElem?_cons_zero, List.getElem?_cons_succ]; rfl) (by kernel_rfl) (by kernel_rfl) (by kernel_rfl) (fun _ _ _ h => h) (Or.inl ⟨by rfl, ?_⟩) hT6 ?_
        rotate_left
        · (intro wq hSw; go_simp; all_goals with_reducible rfl)
        try simp only [Act.put, List.setIfInBounds_toArray, List.set_cons_zero, List.set_cons_succ]
        refine wpAnyH_take (i := 36) (v := ?_) (by simp only [List.getElem?_toArray, List.getElem?_cons_zero, List.getElem?_cons_succ]; rfl) (by kernel_rfl) (by kernel_rfl) (by kernel_rfl) (fun _ _ _ h => h) (Or.inl ⟨by rfl, ?_⟩) hT6 ?_
        rotate_left
        · (intro wq hSw; go_simp; all_goals with_reducible rfl)
        try simp only [Act.put, List.setIfInBounds_toArray, List.set_cons_zero, List.set_cons_succ]
        refine wpAnyH_take (i := 37) (v := ?_) (by simp only [List.getElem?_toArray, List.getElem?_cons_zero, List.getElem?_cons_succ]; rfl) (by kernel_rfl) (by kernel_rfl) (by kernel_rfl) (fun _ _ _ h => h) (Or.inl ⟨by rfl, ?_⟩) hT6 ?_
        rotate_left
        · (intro wq hSw; go_simp; all_goals with_reducible rfl)
        try simp only [Act.put, List.setIfInBounds_toArray, List.set_cons_zero, List.set_cons_succ]
        refine wpAnyH_take (i := 38) (v := ?_) (by simp only [List.getElem?_toArray, List.getElem?_cons_zero, List.getElem?_cons_succ]; rfl) (by kernel_rfl) (by kernel_rfl) (by kernel_rfl) (fun _ _ _ h => h) (Or.inl ⟨by rfl, ?_⟩) hT6 ?_
        rotate_left
        · (intro wq hSw; have q0 := hSw.j0; have q1 := hSw.j1; have q2 := hSw.k0; have q3 := hSw.k1; go_simp; all_goals with_reducible rfl)
        try simp only [Act.put, List.setIfInBounds_toArray, List.set_cons_zero, List.set_cons_succ]
        refine wpAnyH_take (i := 40) (v := ?_) (by simp only [List.getElem?_toArray, List.getElem?_cons_zero, List.getElem?_cons_succ]; rfl) (by kernel_rfl) (by kernel_rfl) (by kernel_rfl) (fun _ _ _ h => h) (Or.inl ⟨by rfl, ?_⟩) hT6 ?_
        rotate_left
        · (intro wq hSw; go_simp; all_goals with_reducible rfl)
        try simp only [Act.put, List.setIfInBounds_toArray, List.set_cons_zero, List.set_cons_succ]
        refine wpAnyH_take (i := 41) (v := ?_) (by simp only [List.getElem?_toArray, List.getElem?_cons_zero, List.getElem?_cons_succ]; rfl) (by kernel_rfl) (by kernel_rfl) (by kernel_rfl) (fun _ _ _ h => h) (Or.inl ⟨by rfl, ?_⟩) hT6 ?_
        rotate_left
        · (intro wq hSw; go_simp; all_goals with_reducible rfl)
        try simp only [Act.put, List.setIfInBounds_toArray, List.set_cons_zero, List.set_cons_succ]
        refine wpAnyH_take (i := 42) (v := ?_) (by simp only [List.getElem?_toArray, List.getElem?_cons_zero, List.getElem?_cons_succ]; rfl) (by kernel_rfl) (by kernel_rfl) (by kernel_rfl) (fun _ _ _ h => h) (Or.inl ⟨by rfl, ?_⟩) hT6 ?_
        rotate_left
        · (intro wq hSw; have q0 := hSw.j0; have q1 := hSw.j1; have q2 := hSw.k0; have q3 := hSw.k1; go_simp; all_goals with_reducible rfl)
        try simp only [Act.put, List.setIfInBounds_toArray, List.set_cons_zero, List.set_cons_succ]
        refine wpAnyH_ready (rs := [39]) (by kernel_rfl) (by simp) ?_
        refine AllReadyH.cons (by simp only [List.getElem?_toArray, List.getElem?_cons_zero, List.getElem?_cons_succ]; rfl) (fun K hK => ?_) AllReadyH.nil
        go_simp
        go_at_call 14
        refine (HC6.out _ hT6).mono ?_
        rintro r wt7 ⟨rfl, hT7⟩
        go_wp2_with fail
        refine hK.out _ _ hT7 (fun _ => ?_)
        clear hK K
        try simp only [Act.put, List.setIfInBounds_toArray, List.set_cons_zero, List.set_cons_succ]
        refine wpAnyH_ready (rs := [43]) (by kernel_rfl) (by simp) ?_
        refine AllReadyH.cons (by simp only [List.getElem?_toArray, List.getElem?_cons_zero, List.getElem?_cons_succ]; rfl) (fun K hK => ?_) AllReadyH.nil
        go_simp
        go_at_call 15
        refine (HC7.out _ hT7).mono ?_
        rintro r wt8 ⟨rfl, hT8⟩
        go_wp2_with fail
        refine hK.out _ _ hT8 (fun _ => ?_)
        clear hK K
        try simp only [Act.put, List.setIfInBounds_toArray, List.set_cons_zero, List.set_cons_succ]
        refine wpAnyH_take (i := 44) (v := .bool true) (by simp only [List.getElem?_toArray, List.getElem?_cons_zero, List.getElem?_cons_succ]; rfl) (by kernel_rfl) (by kernel_rfl) (by kernel_rfl) (fun _ _ _ h => h) (Or.inl ⟨by rfl, ?_⟩) hT8 ?_
        · (intro wq hSw; go_simp; all_goals with_reducible rfl)
        try simp only [Act.put, List.setIfInBounds_toArray, List.set_cons_zero, List.set_cons_succ]
        refine wpAnyH_take (i := 45) (v := .bool true) (by simp only [List.getElem?_toArray, List.getElem?_cons_zero, List.getElem?_cons_succ]; rfl) (by kernel_rfl) (by kernel_rfl) (by kernel_rfl) (fun _ _ _ h => h) (Or.inl ⟨by rfl, ?_⟩) hT8 ?_
        · (intro wq hSw; go_simp; all_goals with_reducible rfl)
        try simp only [Act.put, List.setIfInBounds_toArray, List.set_cons_zero, List.set_cons_succ]
        refine wpAnyH_take (i := 46) (v := ?_) (by simp only [List.getElem?_toArray, List.getElem?_cons_zero, List.getElem?_cons_succ]; rfl) (by kernel_rfl) (by kernel_rfl) (by kernel_rfl) (fun _ _ _ h => h) (Or.inl ⟨by rfl, ?_⟩) hT8 ?_
        rotate_left
        · (intro wq hSw; go_simp; all_goals with_reducible rfl)
        try simp only [Act.put, List.setIfInBounds_toArray, List.set_cons_zero, List.set_cons_succ]
        refine wpAnyH_done (by kernel_rfl) ?_ _
        refine NoPanic.normal ?_
        have hMT := HMW.out.then hT8.m
        go_wp2_with fail
        go_ret
        exact ⟨rfl, hMT⟩
      · have hni : ¬ (n : Int) < (on : Int) := by omega
        go_upto_region 12 with fail
        refine wp_region_noPanic ?_
        refine wp_region_held_drew (S := PlT js ks ja jb ka kb wr) (by kernel_rfl) hT0 (fun hHeld => ?_)
        clear hHeld
        refine wpAnyH_take (i := 0) (v := ?_) (by simp only [List.getElem?_toArray, List.getElem?_cons_zero]; rfl) (by kernel_rfl) (by kernel_rfl) (by kernel_rfl) (fun _ _ _ h => h) (Or.inl ⟨by rfl, ?_⟩) hT0 ?_
        rotate_left
        · (intro wq hSw; go_simp; all_goals with_reducible rfl)
        try simp only [Act.put, List.setIfInBounds_toArray, List.set_cons_zero, List.set_cons_succ]
        refine wpAnyH_take (i := 1) (v := ?_) (by simp only [List.getElem?_toArray, List.getElem?_cons_zero, List.getElem?_cons_succ]; rfl) (by kernel_rfl) (by kernel_rfl) (by kernel_rfl) (fun _ _ _ h => h) (Or.inl ⟨by rfl, ?_⟩) hT0 ?_
        rotate_left
        · (intro wq hSw; go_simp; all_goals with_reducible rfl)
        try simp only [Act.put, List.setIfInBounds_toArray, List.set_cons_zero, List.set_cons_succ]
        refine wpAnyH_take (i := 2) (v := ?_) (by simp only [List.getElem?_toArray, List.getElem?_cons_zero, List.getElem?_cons_succ]; rfl) (by kernel_rfl) (by kernel_rfl) (by kernel_rfl) (fun _ _ _ h => h) (Or.inl ⟨by rfl, ?_⟩) hT0 ?_
        rotate_left
        · (intro wq hSw; have q0 := hSw.j0; have q1 := hSw.j1; have q2 := hSw.k0; have q3 := hSw.k1; go_simp; all_goals with_reducible rfl)
        try simp only [Act.put, List.setIfInBounds_toArray, List.set_cons_zero, List.set_cons_succ]
        refine wpAnyH_take (i := 3) (v := ?_) (by simp only [List.getElem?_toArray, List.getElem?_cons_zero, List.getElem?_cons_succ]; rfl) (by kernel_rfl) (by kernel_rfl) (by kernel_rfl) (fun _ _ _ h => h) (Or.inl ⟨by rfl, ?_⟩) hT0 ?_
        rotate_left
        · (intro wq hSw; go_simp; all_goals with_reducible rfl)
        try simp only [Act.put, List.setIfInBounds_toArray, List.set_cons_zero, List.set_cons_succ]
        refine wpAnyH_take (i := 4) (v := ?_) (by simp only [List.getElem?_toArray, List.getElem?_cons_zero, List.getElem?_cons_succ]; rfl) (by kernel_rfl) (by kernel_rfl) (by kernel_rfl) (fun _ _ _ h => h) (Or.inl ⟨by rfl, ?_⟩) hT0 ?_
        rotate_left
        · (intro wq hSw; go_simp; all_goals with_reducible rfl)
        try simp only [Act.put, List.setIfInBounds_toArray, List.set_cons_zero, List.set_cons_succ]
        refine wpAnyH_take (i := 6) (v := ?_) (by simp only [List.getElem?_toArray, List.getElem?_cons_zero, List.getElem?_cons_succ]; rfl) (by kernel_rfl) (by kernel_rfl) (by kernel_rfl) (fun _ _ _ h => h) (Or.inl ⟨by rfl, ?_⟩) hT0 ?_
        rotate_left
        · (intro wq hSw; go_simp; all_goals with_reducible rfl)
        try simp only [Act.put, List.setIfInBounds_toArray, List.set_cons_zero, List.set_cons_succ]
        refine wpAnyH_take (i := 7) (v := ?_) (by simp only [List.getElem?_toArray, List.getElem?_cons_zero, List.getElem?_cons_succ]; rfl) (by kernel_rfl) (by kernel_rfl) (by kernel_rfl) (fun _ _ _ h => h) (Or.inl ⟨by rfl, ?_⟩) hT0 ?_
        rotate_left
        · (intro wq hSw; go_simp; all_goals with_reducible rfl)
        try simp only [Act.put, List.setIfInBounds_toArray, List.set_cons_zero, List.set_cons_succ]
        refine wpAnyH_take (i := 8) (v := ?_) (by simp only [List.getElem?_toArray, List.getElem?_cons_zero, List.getElem?_cons_succ]; rfl) (by kernel_rfl) (by kernel_rfl) (by kernel_rfl) (fun _ _ _ h => h) (Or.inl ⟨by rfl, ?_⟩) hT0 ?_
        rotate_left
        · (intro wq hSw; have q0 := hSw.j0; have q1 := hSw.j1; have q2 := hSw.k0; have q3 := hSw.k1; go_simp; all_goals with_reducible rfl)
        try simp only [Act.put, List.setIfInBounds_toArray, List.set_cons_zero, List.set_cons_succ]
        refine wpAnyH_ready (rs := [5]) (by kernel_rfl) (by simp) ?_
        refine AllReadyH.cons (by simp only [List.getElem?_toArray, List.getElem?_cons_zero, List.getElem?_cons_succ]; rfl) (fun K hK => ?_) AllReadyH.nil
        go_simp
        go_at_call 12
        refine (HC0.out _ hT0).mono ?_
        rintro r wt1 ⟨rfl, hT1⟩
        go_wp2_with fail
        refine hK.out _ _ hT1 (fun _ => ?_)
        clear hK K
        try simp only [Act.put, List.setIfInBounds_toArray, List.set_cons_zero, List.set_cons_succ]
        refine wpAnyH_ready (rs := [9]) (by kernel_rfl) (by simp) ?_
        refine AllReadyH.cons (by simp only [List.getElem?_toArray, List.getElem?_cons_zero, List.getElem?_cons_succ]; rfl) (fun K hK => ?_) AllReadyH.nil
        go_simp
        go_at_call 13
        refine (HC1.out _ hT1).mono ?_
        rintro r wt2 ⟨rfl, hT2⟩
        go_wp2_with fail
        refine hK.out _ _ hT2 (fun _ => ?_)
        clear hK K
        try simp only [Act.put, List.setIfInBounds_toArray, List.set_cons_zero, List.set_cons_succ]
        refine wpAnyH_take (i := 10) (v := .bool true) (by simp only [List.getElem?_toArray, List.getElem?_cons_zero, List.getElem?_cons_succ]; rfl) (by kernel_rfl) (by kernel_rfl) (by kernel_rfl) (fun _ _ _ h => h) (Or.inl ⟨by rfl, ?_⟩) hT2 ?_
        · (intro wq hSw; go_simp; all_goals with_reducible rfl)
        try simp only [Act.put, List.setIfInBounds_toArray, List.set_cons_zero, List.set_cons_succ]
        refine wpAnyH_take (i := 11) (v := ?_) (by simp only [List.getElem?_toArray, List.getElem?_cons_zero, List.getElem?_cons_succ]; rfl) (by kernel_rfl) (by kernel_rfl) (by kernel_rfl) (fun _ _ _ h => h) (Or.inl ⟨by rfl, ?_⟩) hT2 ?_
        rotate_left
        · (intro wq hSw; go_simp; all_goals with_reducible rfl)
        try simp only [Act.put, List.setIfInBounds_toArray, List.set_cons_zero, List.set_cons_succ]
        refine wpAnyH_take (i := 12) (v := ?_) (by simp only [List.getElem?_toArray, List.getElem?_cons_zero, List.getElem?_cons_succ]; rfl) (by kernel_rfl) (by kernel_rfl) (by kernel_rfl) (fun _ _ _ h => h) (Or.inl ⟨by rfl, ?_⟩) hT2 ?_
        rotate_left
        · (intro wq hSw; go_simp; all_goals with_reducible rfl)
        try simp only [Act.put, List.setIfInBounds_toArray, List.set_cons_zero, List.set_cons_succ]
        refine wpAnyH_take (i := 13) (v := ?_) (by simp only [List.getElem?_toArray, List.getElem?_cons_zero, List.getElem?_cons_succ]; rfl) (by kernel_rfl) (by kernel_rfl) (by kernel_rfl) (fun _ _ _ h => h) (Or.inl ⟨by rfl, ?_⟩) hT2 ?_
        rotate_left
        · (intro wq hSw; go_simp; all_goals with_reducible rfl)
        try simp only [Act.put, List.setIfInBounds_toArray, List.set_cons_zero, List.set_cons_succ]
        refine wpAnyH_take (i := 14) (v := ?_) (by simp only [List.getElem?_toArray, List.getElem?_cons_zero, List.getElem?_cons_succ]; rfl) (by kernel_rfl) (by kernel_rfl) (by kernel_rfl) (fun _ _ _ h => h) (Or.inl ⟨by rfl, ?_⟩) hT2 ?_
        rotate_left
        · (intro wq hSw; have q0 := hSw.j0; have q1 := hSw.j1; have q2 := hSw.k0; have q3 := hSw.k1; go_simp; all_goals with_reducible rfl)
        try simp only [Act.put, List.setIfInBounds_toArray, List.set_cons_zero, List.set_cons_succ]
        refine wpAnyH_take (i := 15) (v := ?_) (by simp only [List.getElem?_toArray, List.getElem?_cons_zero, List.getElem?_cons_succ]; rfl) (by kernel_rfl) (by kernel_rfl) (by kernel_rfl) (fun _ _ _ h => h) (Or.inl ⟨by rfl, ?_⟩) hT2 ?_
        rotate_left
        · (intro wq hSw; go_simp; all_goals with_reducible rfl)
        try simp only [Act.put, List.setIfInBounds_toArray, List.set_cons_zero, List.set_cons_succ]
        refine wpAnyH_take (i := 16) (v := ?_) (by simp only [List.getElem?_toArray, List.getElem?_cons_zero, List.getElem?_cons_succ]; rfl) (by kernel_rfl) (by kernel_rfl) (by kernel_rfl) (fun _ _ _ h => h) (Or.inl ⟨by rfl, ?_⟩) hT2 ?_
        rotate_left
        · (intro wq hSw; go_simp; all_goals with_reducible rfl)
        try simp only [Act.put, List.setIfInBounds_toArray, List.set_cons_zero, List.set_cons_succ]
        refine wpAnyH_take (i := 18) (v := ?_) (by simp only [List.getElem?_toArray, List.getElem?_cons_zero, List.getElem?_cons_succ]; rfl) (by kernel_rfl) (by kernel_rfl) (by kernel_rfl) (fun _ _ _ h => h) (Or.inl ⟨by rfl, ?_⟩) hT2 ?_
        rotate_left
        · (intro wq hSw; go_simp; all_goals with_reducible rfl)
        try simp only [Act.put, List.setIfInBounds_toArray, List.set_cons_zero, List.set_cons_succ]
        refine wpAnyH_take (i := 19) (v := ?_) (by simp only [List.getElem?_toArray, List.getElem?_cons_zero, List.getElem?_cons_succ]; rfl) (by kernel_rfl) (by kernel_rfl) (by kernel_rfl) (fun _ _ _ h => h) (Or.inl ⟨by rfl, ?_⟩) hT2 ?_
        rotate_left
        · (intro wq hSw; go_simp; all_goals with_reducible rfl)
        try simp only [Act.put, List.setIfInBounds_toArray, List.set_cons_zero, List.set_cons_succ]
        refine wpAnyH_take (i := 20) (v := ?_) (by simp only [List.getElem?_toArray, List.getElem?_cons_zero, List.getElem?_cons_succ]; rfl) (by kernel_rfl) (by kernel_rfl) (by kernel_rfl) (fun _ _ _ h => h) (Or.inl ⟨by rfl, ?_⟩) hT2 ?_
        rotate_left
        · (intro wq hSw; have q0 := hSw.j0; have q1 := hSw.j1; have q2 := hSw.k0; have q3 := hSw.k1; go_simp; all_goals with_reducible rfl)
        try simp only [Act.put, List.setIfInBounds_toArray, List.set_cons_zero, List.set_cons_succ]
        refine wpAnyH_ready (rs := [17]) (by kernel_rfl) (by simp) ?_
        refine AllReadyH.cons (by simp only [List.getElem?_toArray, List.getElem?_cons_zero, List.getElem?_cons_succ]; rfl) (fun K hK => ?_) AllReadyH.nil
        go_simp
        go_at_call 12
        refine (HC2.out _ hT2).mono ?_
        rintro r wt3 ⟨rfl, hT3⟩
        go_wp2_with fail
        refine hK.out _ _ hT3 (fun _ => ?_)
        clear hK K
        try simp only [Act.put, List.setIfInBounds_toArray, List.set_cons_zero, List.set_cons_succ]
        refine wpAnyH_ready (rs := [21]) (by kernel_rfl) (by simp) ?_
        refine AllReadyH.cons (by simp only [List.getElem?_toArray, List.getElem?_cons_zero, List.getElem?_cons_succ]; rfl) (fun K hK => ?_) AllReadyH.nil
        go_simp
        go_at_call 13
        refine (HC3.out _ hT3).mono ?_
        rintro r wt4 ⟨rfl, hT4⟩
        go_wp2_with fail
        refine hK.out _ _ hT4 (fun _ => ?_)
        clear hK K
        try simp only [Act.put, List.setIfInBounds_toArray, List.set_cons_zero, List.set_cons_succ]
        refine wpAnyH_take (i := 22) (v := .bool true) (by simp only [List.getElem?_toArray, List.getElem?_cons_zero, List.getElem?_cons_succ]; rfl) (by kernel_rfl) (by kernel_rfl) (by kernel_rfl) (fun _ _ _ h => h) (Or.inl ⟨by rfl, ?_⟩) hT4 ?_
        · (intro wq hSw; go_simp; all_goals with_reducible rfl)
        try simp only [Act.put, List.setIfInBounds_toArray, List.set_cons_zero, List.set_cons_succ]
        refine wpAnyH_take (i := 23) (v := .bool true) (by simp only [List.getElem?_toArray, List.getElem?_cons_zero, List.getElem?_cons_succ]; rfl) (by kernel_rfl) (by kernel_rfl) (by kernel_rfl) (fun _ _ _ h => h) (Or.inl ⟨by rfl, ?_⟩) hT4 ?_
        · (intro wq hSw; go_simp; all_goals with_reducible rfl)
        try simp only [Act.put, List.setIfInBounds_toArray, List.set_cons_zero, List.set_cons_succ]
        refine wpAnyH_take (i := 24) (v := ?_) (by simp only [List.getElem?_toArray, List.getElem?_cons_zero, List.getElem?_cons_succ]; rfl) (by kernel_rfl) (by kernel_rfl) (by kernel_rfl) (fun _ _ _ h => h) (Or.inl ⟨by rfl, ?_⟩) hT4 ?_
        rotate_left
        · (intro wq hSw; go_simp; all_goals with_reducible rfl)
        try simp only [Act.put, List.setIfInBounds_toArray, List.set_cons_zero, List.set_cons_succ]
        refine wpAnyH_take (i := 25) (v := ?_) (by simp only [List.getElem?_toArray, List.getElem?_cons_zero, List.getElem?_cons_succ]; rfl) (by kernel_rfl) (by kernel_rfl) (by kernel_rfl) (fun _ _ _ h => h) (Or.inl ⟨by rfl, ?_⟩) hT4 ?_
        rotate_left
        · (intro wq hSw; go_simp; all_goals with_reducible rfl)
        try simp only [Act.put, List.setIfInBounds_toArray, List.set_cons_zero, List.set_cons_succ]
        refine wpAnyH_take (i := 26) (v := ?_) (by simp only [List.getElem?_toArray, List.getElem?_cons_zero, List.getElem?_cons_succ]; rfl) (by kernel_rfl) (by kernel_rfl) (by kernel_rfl) (fun _ _ _ h => h) (Or.inl ⟨by rfl, ?_⟩) hT4 ?_
        rotate_left
        · (intro wq hSw; go_simp; all_goals with_reducible rfl)
        try simp only [Act.put, List.setIfInBounds_toArray, List.set_cons_zero, List.set_cons_succ]
        refine wpAnyH_take (i := 27) (v := ?_) (by simp only [List.getElem?_toArray, List.getElem?_cons_zero, List.getElem?_cons_succ]; rfl) (by kernel_rfl) (by kernel_rfl) (by kernel_rfl) (fun _ _ _ h => h) (Or.inl ⟨by rfl, ?_⟩) hT4 ?_
        rotate_left
        · (intro wq hSw; have q0 := hSw.j0; have q1 := hSw.j1; have q2 := hSw.k0; have q3 := hSw.k1; go_simp; all_goals with_reducible rfl)
        try simp only [Act.put, List.setIfInBounds_toArray, List.set_cons_zero, List.set_cons_succ]
        refine wpAnyH_take (i := 29) (v := ?_) (by simp only [List.getElem?_toArray, List.getElem?_cons_zero, List.getElem?_cons_succ]; rfl) (by kernel_rfl) (by kernel_rfl) (by kernel_rfl) (fun _ _ _ h => h) (Or.inl ⟨by rfl, ?_⟩) hT4 ?_
        rotate_left
        · (intro wq hSw; go_simp; all_goals with_reducible rfl)
        try simp only [Act.put, List.setIfInBounds_toArray, List.set_cons_zero, List.set_cons_succ]
        refine wpAnyH_take (i := 30) (v := ?_) (by simp only [List.getElem?_toArray, List.getElem?_cons_zero, List.getElem?_cons_succ]; rfl) (by kernel_rfl) (by kernel_rfl) (by kernel_rfl) (fun _ _ _ h => h) (Or.inl ⟨by rfl, ?_⟩) hT4 ?_
        rotate_left
        · (intro wq hSw; go_simp; all_goals with_reducible rfl)
        try simp only [Act.put, List.setIfInBounds_toArray, List.set_cons_zero, List.set_cons_succ]
        refine wpAnyH_take (i := 31) (v := ?_) (by simp only [List.getElem?_toArray, List.getElem?_cons_zero, List.getElem?_cons_succ]; rfl) (by kernel_rfl) (by kernel_rfl) (by kernel_rfl) (fun _ _ _ h => h) (Or.inl ⟨by rfl, ?_⟩) hT4 ?_
        rotate_left
        · (intro wq hSw; have q0 := hSw.j0; have q1 := hSw.j1; have q2 := hSw.k0; have q3 := hSw.k1; go_simp; all_goals with_reducible rfl)
        try simp only [Act.put, List.setIfInBounds_toArray, List.set_cons_zero, List.set_cons_succ]
        refine wpAnyH_ready (rs := [28]) (by kernel_rfl) (by simp) ?_
        refine AllReadyH.cons (by simp only [List.getElem?_toArray, List.getElem?_cons_zero, List.getElem?_cons_succ]; rfl) (fun K hK => ?_) AllReadyH.nil
        go_simp
        go_at_call 14
        refine (HC4.out _ hT4).mono ?_
        rintro r wt5 ⟨rfl, hT5⟩
        go_wp2_with fail
        refine hK.out _ _ hT5 (fun _ => ?_)
        clear hK K
        try simp only [Act.put, List.setIfInBounds_toArray, List.set_cons_zero, List.set_cons_succ]
        refine wpAnyH_ready (rs := [32]) (by kernel_rfl) (by simp) ?_
        refine AllReadyH.cons (by simp only [List.getElem?_toArray, List.getElem?_cons_zero, List.getElem?_cons_succ]; rfl) (fun K hK => ?_) AllReadyH.nil
        go_simp
        go_at_call 15
        refine (HC5.out _ hT5).mono ?_
        rintro r wt6 ⟨rfl, hT6⟩
        go_wp2_with fail
        refine hK.out _ _ hT6 (fun _ => ?_)
        clear hK K
        try simp only [Act.put, List.setIfInBounds_toArray, List.set_cons_zero, List.set_cons_succ]
        refine wpAnyH_take (i := 33) (v := .bool true) (by simp only [List.getElem?_toArray, List.getElem?_cons_zero, List.getElem?_cons_succ]; rfl) (by kernel_rfl) (by kernel_rfl) (by kernel_rfl) (fun _ _ _ h => h) (Or.inl ⟨by rfl, ?_⟩) hT6 ?_
        · (intro wq hSw; go_simp; all_goals with_reducible rfl)
        try simp only [Act.put, List.setIfInBounds_toArray, List.set_cons_zero, List.set_cons_succ]
        refine wpAnyH_take (i := 34) (v := .bool true) (by simp only [List.getElem?_toArray, List.getElem?_cons_zero, List.getElem?_cons_succ]; rfl) (by kernel_rfl) (by kernel_rfl) (by kernel_rfl) (fun _ _ _ h => h) (Or.inl ⟨by rfl, ?_⟩) hT6 ?_
        · (intro wq hSw; go_simp; all_goals with_reducible rfl)
        try simp only [Act.put, List.setIfInBounds_toArray, List.set_cons_zero, List.set_cons_succ]
        refine wpAnyH_take (i := 35) (v := ?_) (by simp only [List.getElem?_toArray, List.getElem?_cons_zero, List.getElem?_cons_succ]; rfl) (by kernel_rfl) (by kernel_rfl) (by kernel_rfl) (fun _ _ _ h => h) (Or.inl ⟨by rfl, ?_⟩) hT6 ?_
        rotate_left
        · (intro wq hSw; go_simp; all_goals with_reducible rfl)
        try simp only [Act.put, List.setIfInBounds_toArray, List.set_cons_zero, List.set_cons_succ]
        refine wpAnyH_take (i := 36) (v := ?_) (by simp only [List.getElem?_toArray, List.getElem?_cons_zero, List.getElem?_cons_succ]; rfl) (by kernel_rfl) (by kernel_rfl) (by kernel_rfl) (fun _ _ _ h => h) (Or.inl ⟨by rfl, ?_⟩) hT6 ?_
        rotate_left
        · (intro wq hSw; go_simp; all_goals with_reducible rfl)
        try simp only [Act.put, List.setIfInBounds_toArray, List.set_cons_zero, List.set_cons_succ]
        refine wpAnyH_take (i := 37) (v := ?_) (by simp only [List.getElem?_toArray, List.getElem?_cons_zero, List.getElem?_cons_succ]; rfl) (by kernel_rfl) (by kernel_rfl) (by kernel_rfl) (fun _ _ _ h => h) (Or.inl ⟨by rfl, ?_⟩) hT6 ?_
        rotate_left
        · (intro wq hSw; go_simp; all_goals with_reducible rfl)
        try simp only [Act.put, List.setIfInBounds_toArray, List.set_cons_zero, List.set_cons_succ]
        refine wpAnyH_take (i := 38) (v := ?_) (by simp only [List.getElem?_toArray, List.getElem?_cons_zero, List.getElem?_cons_succ]; rfl) (by kernel_rfl) (by kernel_rfl) (by kernel_rfl) (fun _ _ _ h => h) (Or.inl ⟨by rfl, ?_⟩) hT6 ?_
        rotate_left
        · (intro wq hSw; have q0 := hSw.j0; have q1 := hSw.j1; have q2 := hSw.k0; have q3 := hSw.k1; go_simp; all_goals with_reducible rfl)
        try simp only [Act.put, List.setIfInBounds_toArray, List.set_cons_zero, List.set_cons_succ]
        refine wpAnyH_take (i := 40) (v := ?_) (by simp only [List.getElem?_toArray, List.getElem?_cons_zero, List.getElem?_cons_succ]; rfl) (by kernel_rfl) (by kernel_rfl) (by kernel_rfl) (fun _ _ _ h => h) (Or.inl ⟨by rfl, ?_⟩) hT6 ?_
        rotate_left
        · (intro wq hSw; go_simp; all_goals with_reducible rfl)
        try simp only [Act.put, List.setIfInBounds_toArray, List.set_cons_zero, List.set_cons_succ]
        refine wpAnyH_take (i := 41) (v := ?_) (by simp only [List.getElem?_toArray, List.getElem?_cons_zero, List.getElem?_cons_succ]; rfl) (by kernel_rfl) (by kernel_rfl) (by kernel_rfl) (fun _ _ _ h => h) (Or.inl ⟨by rfl, ?_⟩) hT6 ?_
        rotate_left
        · (intro wq hSw; go_simp; all_goals with_reducible rfl)
        try simp only [Act.put, List.setIfInBounds_toArray, List.set_cons_zero, List.set_cons_succ]
        refine wpAnyH_take (i := 42) (v := ?_) (by simp only [List.getElem?_toArray, List.getElem?_cons_zero, List.getElem?_cons_succ]; rfl) (by kernel_rfl) (by kernel_rfl) (by kernel_rfl) (fun _ _ _ h => h) (Or.inl ⟨by rfl, ?_⟩) hT6 ?_
        rotate_left
        · (intro wq hSw; have q0 := hSw.j0; have q1 := hSw.j1; have q2 := hSw.k0; have q3 := hSw.k1; go_simp; all_goals with_reducible rfl)
        try simp only [Act.put, List.setIfInBounds_toArray, List.set_cons_zero, List.set_cons_succ]
        refine wpAnyH_ready (rs := [39]) (by kernel_rfl) (by simp) ?_
        refine AllReadyH.cons (by simp only [List.getElem?_toArray, List.getElem?_cons_zero, List.getElem?_cons_succ]; rfl) (fun K hK => ?_) AllReadyH.nil
        go_simp
        go_at_call 14
        refine (HC6.out _ hT6).mono ?_
        rintro r wt7 ⟨rfl, hT7⟩
        go_wp2_with fail
        refine hK.out _ _ hT7 (fun _ => ?_)
        clear hK K
        try simp only [Act.put, List.setIfInBounds_toArray, List.set_cons_zero, List.set_cons_succ]
        refine wpAnyH_ready (rs := [43]) (by kernel_rfl) (by simp) ?_
        refine AllReadyH.cons (by simp only [List.getElem?_toArray, List.getElem?_cons_zero, List.getElem?_cons_succ]; rfl) (fun K hK => ?_) AllReadyH.nil
        go_simp
        go_at_call 15
        refine (HC7.out _ hT7).mono ?_
        rintro r wt8 ⟨rfl, hT8⟩
        go_wp2_with fail
        refine hK.out _ _ hT8 (fun _ => ?_)
        clear hK K
        try simp only [Act.put, List.setIfInBounds_toArray, List.set_cons_zero, List.set_cons_succ]
        refine wpAnyH_take (i := 44) (v := .bool true) (by simp only [List.getElem?_toArray, List.getElem?_cons_zero, List.getElem?_cons_succ]; rfl) (by kernel_rfl) (by kernel_rfl) (by kernel_rfl) (fun _ _ _ h => h) (Or.inl ⟨by rfl, ?_⟩) hT8 ?_
        · (intro wq hSw; go_simp; all_goals with_reducible rfl)
        try simp only [Act.put, List.setIfInBounds_toArray, List.set_cons_zero, List.set_cons_succ]
        refine wpAnyH_take (i := 45) (v := .bool true) (by simp only [List.getElem?_toArray, List.getElem?_cons_zero, List.getElem?_cons_succ]; rfl) (by kernel_rfl) (by kernel_rfl) (by kernel_rfl) (fun _ _ _ h => h) (Or.inl ⟨by rfl, ?_⟩) hT8 ?_
        · (intro wq hSw; go_simp; all_goals with_reducible rfl)
        try simp only [Act.put, List.setIfInBounds_toArray, List.set_cons_zero, List.set_cons_succ]
        refine wpAnyH_take (i := 46) (v := ?_) (by simp only [List.getElem?_toArray, List.getElem?_cons_zero, List.getElem?_cons_succ]; rfl) (by kernel_rfl) (by kernel_rfl) (by kernel_rfl) (fun _ _ _ h => h) (Or.inl ⟨by rfl, ?_⟩) hT8 ?_
        rotate_left
        · (intro wq hSw; go_simp; all_goals with_reducible rfl)
        try simp only [Act.put, List.setIfInBounds_toArray, List.set_cons_zero, List.set_cons_succ]
        refine wpAnyH_done (by kernel_rfl) ?_ _
        refine NoPanic.normal ?_
        have hMT := HMW.out.then hT8.m
        go_wp2_with fail
        go_ret
        exact ⟨rfl, hMT⟩
end Go.Proofs.YtlndgnlkfhlekaaDoor
