/- CookieOne: the law's walk. -/
import Derived.Test.YtlndgnlkfhlekaaDoorCkQ
import Derived.Test.YtlndgnlkfhlekaaDoorCkR
namespace Go.Proofs.YtlndgnlkfhlekaaDoor
open Go.RowKit

namespace Ck
theorem tell_own (e : Int) (now was a b : ByteArray) (he : 1 ≤ e) : tell e now was a b e (ck now a b e) = 0 := by
  rw [tell, if_neg (by omega), if_pos rfl, if_pos rfl]
end Ck
theorem CkOpsAt.range {w : World} {B : Nat} {sa : Option Addr} {n : Nat} {ops : List CkOp} (h : CkOpsAt w B sa n ops) {k : Nat} {o : CkOp} (hk : k < n) (ho : ops[k]? = some o) :
    ∃ lb lo, sa = some ⟨lb, lo, none⟩ ∧ lb < B ∧ w.rangeAt lb (lo + k * 8) o.cells := by
  obtain ⟨lb, lo, e1, e2, e3⟩ := h.2.2 (by omega)
  exact ⟨lb, lo, e1, e2, fun f v hv => e3 k o ho f v hv⟩
theorem size_op : (Tryd.prog.info? 33).map (·.size) = some 8 := by kernel_rfl
theorem one_op (o : CkOp) : ∀ v ∈ o.cells, v.oneCell' = true := by
  intro v hv
  simp only [CkOp.cells, List.mem_cons, List.not_mem_nil, or_false] at hv
  rcases hv with rfl | rfl | rfl | rfl | rfl | rfl | rfl | rfl <;> rfl
def three (a b c : Nat) (k : Nat) : Prop := k = a ∨ k = b ∨ k = c
theorem Mod.three {w w1 : World} {a b c : Nat} (h : Mod (three a b c) w w1) {w0 : World} (k : Mod none_ w0 w) (ha : w0.heap.size ≤ a) (hb : w0.heap.size ≤ b) (hc : w0.heap.size ≤ c) : Mod none_ w0 w1 :=
  k.trans h (fun j hj e => by rcases (show j = a ∨ j = b ∨ j = c from e) with h | h | h <;> omega)

set_option maxHeartbeats 4000000 in
set_option maxRecDepth 100000 in
theorem cookieOne_any (w : World) (hK : Rounds w) (seed : ByteArray) (sa : Option Addr) (n c : Nat) (ss : List ByteArray) (hp : StrsAt w w.heap.size sa n ss) (h0 : sa = none → n = 0 ∧ c = 0) (hnc : n ≤ c) (hn : n ≤ 1048576)
    (oa : Option Addr) (on oc : Nat) (ops : List CkOp) (ho : CkOpsAt w w.heap.size oa on ops) (_honc : on ≤ oc) (hon : on ≤ 1048576) (hs : seed.size ≤ 1048576) (hss : ∀ s ∈ ss, Fits s) (hos : ∀ o ∈ ops, Fits o.a ∧ Fits o.b) :
    Calls Tryd.prog 7 #[.string seed, .slice sa n c, .slice oa on oc] w fun r w' => r = .returned (.bool true) ∧ Mod none_ w w' := by
  have HK := Lib.hid hK
  have fN : Fits (⟨#[110]⟩ : ByteArray) := by unfold Fits; decide
  have fX : Fits (⟨#[120]⟩ : ByteArray) := by unfold Fits; decide
  have fs : Fits seed := by unfold Fits; omega
  have fs2 : Fits (seed ++ ⟨#[33]⟩) := by
    unfold Fits; rw [ByteArray.size_append]
    have : (⟨#[33]⟩ : ByteArray).size = 1 := rfl
    omega
  have hadd := run_cat seed ⟨#[33]⟩ (by show seed.size + 1 ≤ _; omega)
  generalize seed ++ ⟨#[33]⟩ = seed2 at *
  have hfw := fun (q : World) => few_any q sa n c 30 h0 hnc (by decide) (by omega) ss w.heap.size
  have HP := Lib.hid hp; have HFW := Lib.hid hfw; have HSS := Lib.hid hss; have HO := Lib.hid ho; have HOS := Lib.hid hos
  clear hK hfw hp hss ho hos
  go_enter Tryd.func7, Tryd.ntmps7
  go_wp2_with fail
  refine (alive10_any w HK.out).mono ?_
  rintro r w1 ⟨rfl, hM⟩
  have HM := Lib.hid hM
  clear hM
  go_wp2_with fail
  refine (HFW.out w1 (HP.out.mod HM.out (fun _ _ h => h))).mono ?_
  rintro r w1' ⟨a', c', rfl, hat, rfl⟩
  obtain ⟨n', hn'⟩ : ∃ n', min n 30 = n' := ⟨_, rfl⟩
  obtain ⟨cs, hcs⟩ : ∃ cs, ss.take 30 = cs := ⟨_, rfl⟩
  rw [hn', hcs] at hat
  rw [hn']
  have hcf : ∀ s ∈ cs, Fits s := fun s h => HSS.out s (List.mem_of_mem_take (hcs ▸ h))
  have hn30 : n' ≤ 30 := by omega
  have HAT := Lib.hid hat; have HCF := Lib.hid hcf
  clear hat hcf hn' hcs HFW HSS HP
  go_wp2_with fail
  refine (ckNew_any w1' (HK.out.mod HM.out (fun h => h)) seed fs).mono ?_
  rintro r w2 ⟨ja, rfl, hja, hJa, hMa⟩
  have HM2 := Lib.hid (HM.out.then hMa); have HJa := Lib.hid hJa
  have hjaw : w.heap.size ≤ ja := Nat.le_trans HM.out.size hja
  clear hJa
  go_wp2_with fail
  refine (ckNew_any w2 (HK.out.mod HM2.out (fun h => h)) seed fs).mono ?_
  rintro r w3 ⟨jb, rfl, hjb, hJb, hMb⟩
  have HM3 := Lib.hid (HM2.out.then hMb); have HJb := Lib.hid hJb; have HJa3 := Lib.hid (HJa.out.mod hMb (fun h => h))
  have hab : ja < jb := Nat.lt_of_lt_of_le HJa.out.blk.lt hjb
  have hjbw : w.heap.size ≤ jb := Nat.le_trans HM2.out.size hjb
  clear hJb
  go_wp2_with fail
  refine (ckNew_any w3 (HK.out.mod HM3.out (fun h => h)) seed2 fs2).mono ?_
  rintro r w4 ⟨jc, rfl, hjc, hJc, hMc⟩
  have HM4 := Lib.hid (HM3.out.then hMc); have HJc := Lib.hid hJc; have HJb4 := Lib.hid (HJb.out.mod hMc (fun h => h)); have HJa4 := Lib.hid (HJa3.out.mod hMc (fun h => h))
  have hbc : jb < jc := Nat.lt_of_lt_of_le HJb.out.blk.lt hjc
  have hjcw : w.heap.size ≤ jc := Nat.le_trans HM3.out.size hjc
  have HO4 := Lib.hid (HO.out.mod HM4.out (fun _ _ h => h))
  have HAT4 := Lib.hid (HAT.out.mod ((hMa.then hMb).then hMc) (fun _ _ h => h))
  generalize Ck.dv seed2 Ck.cookieB [] = sc at *
  clear hJc hMa hMb hMc HM HM2 HM3 HJa HJb HJa3 HO HAT hja hjb hjc hadd
  go_wp2_with fail
  go_loopw [10] (fun i wr => ∃ k : Nat, k ≤ n' + 1 ∧ i = .int .i64 k ∧ (k ≤ n' → JarAt wr ja ((k : Int) + 1) (Ck.secs seed cs k) (Ck.wasOf seed cs k)) ∧ (k ≤ n' → JarAt wr jb ((k : Int) + 1) (Ck.secs seed cs k) (Ck.wasOf seed cs k)) ∧
      (∃ ec nc wc, JarAt wr jc ec nc wc ∧ ec ≤ 1 + 12 * (k : Int)) ∧ Mod (three ja jb jc) w4 wr) (fun i _ => n' + 1 - (intOf i).toNat)
  case atStart => exact ⟨0, by omega, rfl, fun _ => HJa4.out, fun _ => HJb4.out, ⟨_, _, _, HJc.out, by omega⟩, Mod.refl _ _⟩
  case round =>
    obtain ⟨i, hi, rfl, hJai, hJbi, hJci, hMi⟩ := hrel
    by_cases hlt : i ≤ n'
    · have hlti : (i : Int) ≤ (n' : Int) := by omega
      have HJA := Lib.hid (hJai hlt); have HJB := Lib.hid (hJbi hlt); have HMi := Lib.hid hMi
      have HWR := Lib.hid (hMi.three HM4.out hjaw hjbw hjcw)
      clear hJai hJbi hMi HJa4 HJb4 HJc
      obtain ⟨S, hS⟩ : ∃ S, Ck.secs seed cs i = S := ⟨_, rfl⟩
      obtain ⟨V, hV⟩ : ∃ S, Ck.wasOf seed cs i = S := ⟨_, rfl⟩
      rw [hS, hV] at HJA HJB
      obtain ⟨wo, rfl⟩ : ∃ wo : World, wo = wr := ⟨_, rfl⟩
      go_upto_block 2 with fail
      go_cut [] (fun wx => (∃ ec nc wc, JarAt wx jc ec nc wc ∧ ec ≤ 1 + 12 * (i : Int) + 12) ∧ Mod (only jc) wo wx)
      case first =>
        go_wp2_with fail
        go_loopw [11] (fun q wz => ∃ k : Nat, k ≤ 12 ∧ k ≤ on ∧ q = .int .i64 k ∧ (∃ ec nc wc, JarAt wz jc ec nc wc ∧ ec ≤ 1 + 12 * (i : Int) + k) ∧ Mod (only jc) wo wz) (fun q _ => 12 - (intOf q).toNat)
        case atStart => exact ⟨0, by omega, by omega, rfl, by simpa using hJci, Mod.refl _ _⟩
        case round =>
          clear hJci
          obtain ⟨k, hk12, hkon, rfl, ⟨ec, nc, wc, hJc, hec⟩, hMz⟩ := hrel
          have hWz := HWR.out.own hMz hjcw
          have HJAz := Lib.hid (HJA.out.mod hMz (not_only (by omega))); have HJBz := Lib.hid (HJB.out.mod hMz (not_only (by omega)))
          by_cases hkk : k < on ∧ k < 12
          · obtain ⟨hko, hk⟩ := hkk
            have hkoi : (k : Int) < (on : Int) := by omega
            have hki : (k : Int) < 12 := by omega
            have hopsz := (HO4.out.mod HMi.out (fun b hb e => by rcases (show b = ja ∨ b = jb ∨ b = jc from e) with h | h | h <;> omega)).mod hMz (fun b hb e => by have : b = jc := e; omega)
            obtain ⟨o, ho⟩ : ∃ o, ops[k]? = some o := ⟨_, List.getElem?_eq_getElem (by rw [HO4.out.1]; exact hko)⟩
            obtain ⟨fA, fB⟩ := HOS.out o (List.mem_of_getElem? ho)
            have hoe := (HO4.out.2.1 o (List.mem_of_getElem? ho)).1
            obtain ⟨lb, lo, rfl, hlb, hro⟩ := hopsz.range hko ho
            have HJC := Lib.hid hJc; have HMZ := Lib.hid hMz; have HWZ := Lib.hid hWz
            clear hJc hMz hWz hopsz
            go_upto_region 14 with (first | (refine wpList_load_mid rfl 33 (.tmp 42) rfl lb (lo + k * 8) rfl o.cells _ hro Tryd.underlying33 rfl size_op ?_) | (refine wpList_store_new rfl 33 (.tmp 12) (.tmp 43) rfl 33 _ o.cells rfl rfl size_op rfl (one_op o) ?_; intro w5 hY hM5 hs5))
            obtain ⟨Y, hYe⟩ : ∃ Y, wr.heap.size = Y := ⟨_, rfl⟩
            rw [hYe] at hY ⊢
            have y2 : w5.cell? ⟨Y, 2, none⟩ = some (.string o.a) := hY.cell rfl
            have y3 : w5.cell? ⟨Y, 3, none⟩ = some (.string o.b) := hY.cell rfl
            have y4 : w5.cell? ⟨Y, 4, none⟩ = some (.string o.c) := hY.cell rfl
            have y5 : w5.cell? ⟨Y, 5, none⟩ = some (.int .u64 o.ep) := hY.cell rfl
            have hYj : Y ≠ jc := by have := HJC.out.blk.lt; omega
            have HM5 := Lib.hid hM5; have HY := Lib.hid hY
            clear hM5 hY hro hs5
            go_wp2_with fail
            refine (ckCheck_any w5 (HK.out.mod (HWZ.out.then HM5.out) (fun h => h)) ja _ _ _ o.a o.b o.c o.ep hoe (HJAz.out.mod HM5.out (fun h => h)) fA fB).mono ?_
            rintro r w6 ⟨rfl, hN6⟩
            have HM6 := Lib.hid (HM5.out.then hN6)
            have z2 : w6.cell? ⟨Y, 2, none⟩ = some (.string o.a) := hN6.cellS y2 (fun h => h)
            have z3 : w6.cell? ⟨Y, 3, none⟩ = some (.string o.b) := hN6.cellS y3 (fun h => h)
            clear y2 y3 y4 y5 hN6
            go_wp2_with fail
            refine (ckBake_any w6 (HK.out.mod (HWZ.out.then HM6.out) (fun h => h)) ja _ _ _ o.b o.a (HJAz.out.mod HM6.out (fun h => h)) fB fA).mono ?_
            rintro r w7 ⟨rfl, hN7⟩
            have HM7 := Lib.hid (HM6.out.then hN7)
            have x2 : w7.cell? ⟨Y, 2, none⟩ = some (.string o.a) := hN7.cellS z2 (fun h => h)
            have x0 := x2
            clear z2 z3 hN7
            have htn := fun (q : World) (hM : Mod none_ w7 q) => ckTurn_any q (HK.out.mod ((HWZ.out.then HM7.out).then hM) (fun h => h)) jc (rounds_lt HK.out hjcw) ec (by omega) _ _ o.a ((HJC.out.mod HM7.out (fun h => h)).mod hM (fun h => h)) fA
            have hm0 := Mod.refl (only jc) w7
            have HTN := Lib.hid htn
            clear htn
            go_upto_region 16 with fail
            go_region_held3 (fun w' => w'.cell? ⟨Y, 2, none⟩ = some (.string o.a) ∧ Mod (only jc) w7 w')
              (first | ((refine ⟨Mod.cellS (S := only jc) (w := w7) ?_ x0 (not_only hYj), ?_⟩ <;> (repeat (first | assumption | exact Mod.refl _ _ | refine Mod.drew ?_))); done))
              (first | (go_at_call 20; refine (HTN.out _ (by repeat (first | assumption | exact Mod.refl _ _ | refine Mod.drew ?_))).mono ?_; rintro r w9 ⟨rfl, hJ9, hN9⟩; have hM9 : Mod (only jc) w7 w9 := (Mod.refl (only jc) w7).drew.trans hN9 (fun _ _ h => h)))
            have hMz9 : Mod (only jc) wo w9 := (HMZ.out.trans (HM7.out.mono (T := none_) (S := only jc) (fun _ _ h => h.elim)) (fun _ _ h => h)).trans hM9 (fun _ _ h => h)
            go_wp2_with fail
            go_roundw
            case rel => exact ⟨k + 1, by omega, by omega, by go_num, ⟨_, _, _, hJ9, by omega⟩, hMz9⟩
            case measure => simp [intOf]; omega
          · have hfin : (∃ ec nc wc, JarAt wr jc ec nc wc ∧ ec ≤ 1 + 12 * (i : Int) + 12) := ⟨_, _, _, hJc, by omega⟩
            have HF := Lib.hid hfin; have HMZ := Lib.hid hMz
            clear hfin hJc hMz hWz HJAz HJBz
            by_cases hko : k < on
            · have hkoi : (k : Int) < (on : Int) := by omega
              have hki : ¬ (k : Int) < 12 := by omega
              go_wp2_with fail
              go_meet
              exact ⟨HF.out, HMZ.out⟩
            · have hkoi : ¬ (k : Int) < (on : Int) := by omega
              go_wp2_with fail
              go_meet
              exact ⟨HF.out, HMZ.out⟩
      case rest =>
        clear hJci
        obtain ⟨⟨ec, nc, wc', hJc, hec⟩, hMz⟩ := hcut
        have hWc := HWR.out.own hMz hjcw
        have hJac := HJA.out.mod hMz (not_only (by omega))
        have hJbc := HJB.out.mod hMz (not_only (by omega))
        have hep : ∀ (q : World) (b : Nat), (b = ja ∨ b = jb) → Mod none_ wc q → Calls Tryd.prog 12 #[.pointer (some ⟨b, 0, none⟩)] q fun r w' => r = .returned (.int .u64 ((i : Int) + 1)) ∧ Mod none_ wc w' := by
          rintro q b hb hM
          refine (ckEpoch_any q b ((i : Int) + 1) S V ?_).mono ?_
          · rcases hb with rfl | rfl
            · exact hJac.mod hM (fun h => h)
            · exact hJbc.mod hM (fun h => h)
          · rintro r w' ⟨rfl, rfl⟩
            exact ⟨rfl, hM⟩
        have hbk : ∀ (q : World) (b : Nat) (x y : ByteArray), (b = ja ∨ b = jb) → Fits x → Fits y → Mod none_ wc q → Calls Tryd.prog 14 #[.pointer (some ⟨b, 0, none⟩), .string x, .string y] q fun r w' => r = .returned (.string (Ck.ck S x y ((i : Int) + 1))) ∧ Mod none_ wc w' := by
          rintro q b x y hb fx fy hM
          refine (ckBake_any q (HK.out.mod (hWc.then hM) (fun h => h)) b ((i : Int) + 1) S V x y ?_ fx fy).mono ?_
          · rcases hb with rfl | rfl
            · exact hJac.mod hM (fun h => h)
            · exact hJbc.mod hM (fun h => h)
          · rintro r w' ⟨rfl, hN⟩
            exact ⟨rfl, hM.then hN⟩
        have hck : ∀ q : World, Mod none_ wc q → Calls Tryd.prog 19 #[.pointer (some ⟨jb, 0, none⟩), .string ⟨#[120]⟩, .string ⟨#[110]⟩, .int .u64 ((i : Int) + 1), .string (Ck.ck S ⟨#[120]⟩ ⟨#[110]⟩ ((i : Int) + 1))] q fun r w' => r = .returned (.int .i64 0) ∧ Mod none_ wc w' := by
          intro q hM
          refine (ckCheck_any q (HK.out.mod (hWc.then hM) (fun h => h)) jb ((i : Int) + 1) S V ⟨#[120]⟩ ⟨#[110]⟩ _ ((i : Int) + 1) (by omega) (hJbc.mod hM (fun h => h)) fX fN).mono ?_
          rintro r w' ⟨rfl, hN⟩
          exact ⟨by rw [Ck.tell_own _ _ _ _ _ (by omega)], hM.then hN⟩
        have hm0 := Mod.refl none_ wc
        have HEP := Lib.hid hep; have HBK := Lib.hid hbk; have HCK := Lib.hid hck; have HWC := Lib.hid hWc; have HJAC := Lib.hid hJac; have HJBC := Lib.hid hJbc; have HMZ := Lib.hid hMz; have HJCC := Lib.hid hJc
        clear hep hbk hck hWc hJac hJbc hMz hJc HJA HJB
        go_upto_region 17 with fail
        go_region_held3 (fun w' => Mod none_ wc w') (first | ((repeat (first | assumption | exact Mod.refl _ _ | refine Mod.drew ?_ | refine Mod.alloc ?_ _)); done))
          (first | (go_at_call 12; refine (HEP.out _ _ (by first | exact Or.inl rfl | exact Or.inr rfl) (by assumption)).mono ?_; rintro r wa ⟨rfl, hNa⟩) | (go_at_call 14; refine (HBK.out _ _ _ _ (by first | exact Or.inl rfl | exact Or.inr rfl) (by assumption) (by assumption) (by assumption)).mono ?_; rintro r wb ⟨rfl, hNb⟩) | (go_at_call 19; refine (HCK.out _ (by assumption)).mono ?_; rintro r wd ⟨rfl, hNd⟩))
        have HND := Lib.hid hNd
        clear HEP HBK HCK
        have hWd := HWC.out.then HND.out
        have hJad := HJAC.out.mod HND.out (fun h => h)
        have hJbd := HJBC.out.mod HND.out (fun h => h)
        have hJcd := HJCC.out.mod HND.out (fun h => h)
        have hMd : Mod (three ja jb jc) w4 wd := (HMi.out.trans HMZ.out (fun b _ e => Or.inr (Or.inr e))).trans HND.out (fun _ _ h => h.elim)
        by_cases hin : i < n'
        · have hini : (i : Int) < (n' : Int) := by omega
          obtain ⟨lb, lo, rfl, hlb, hcc⟩ := HAT4.out.2 (by omega)
          obtain ⟨x, hx⟩ : ∃ x, cs[i]? = some x := ⟨_, List.getElem?_eq_getElem (by rw [HAT4.out.1]; exact hin)⟩
          have hxf : Fits x := HCF.out x (List.mem_of_getElem? hx)
          have qx : wd.cell? ⟨lb, lo + i, none⟩ = some (.string x) := hMd.cellS (hcc i x hx) (fun e => by rcases (show lb = ja ∨ lb = jb ∨ lb = jc from e) with h | h | h <;> omega)
          have qd := qx
          have hgx : Ck.tn S x = Ck.secs seed cs (i + 1) := by rw [Ck.secs, List.getD_eq_getElem?_getD, hx, hS]; rfl
          have hta := fun (q : World) (hM : Mod none_ wd q) => ckTurn_any q (HK.out.mod (hWd.then hM) (fun h => h)) ja (rounds_lt HK.out hjaw) ((i : Int) + 1) (by omega) _ _ x (hJad.mod hM (fun h => h)) hxf
          have htb := fun (q : World) (hM : Mod (only ja) wd q) => ckTurn_any q (HK.out.mod (hWd.own hM hjaw) (fun h => h)) jb (rounds_lt HK.out hjbw) ((i : Int) + 1) (by omega) _ _ x (hJbd.mod hM (not_only (by omega))) hxf
          rw [hgx] at hta htb
          have hm1 := Mod.refl (only ja) wd
          have HTA := Lib.hid hta; have HTB := Lib.hid htb; have HJCD := Lib.hid hJcd; have HMD := Lib.hid hMd
          clear hta htb hcc hJcd hMd hJad hJbd
          go_upto_region 20 with fail
          go_region_held3 (fun w' => w'.cell? ⟨lb, lo + i, none⟩ = some (.string x) ∧ Mod (only ja) wd w')
            (first | ((refine ⟨Mod.cellS (S := only ja) (w := wd) ?_ qd (fun h => by have : lb = ja := h; omega), ?_⟩ <;> (repeat (first | assumption | exact Mod.refl _ _ | refine Mod.drew ?_))); done))
            (first | (go_at_call 20; refine (HTA.out _ (by repeat (first | assumption | exact Mod.refl _ _ | refine Mod.drew ?_))).mono ?_; rintro r w9 ⟨rfl, hJ9, hN9⟩; have hM9 : Mod (only ja) wd w9 := (Mod.refl (only ja) wd).drew.trans hN9 (fun _ _ h => h)))
          have qy : w9.cell? ⟨lb, lo + i, none⟩ = some (.string x) := hM9.cellS qd (fun h => by have : lb = ja := h; omega)
          have qe := qy
          have hm2 := Mod.refl (only jb) w9
          have HM9 := Lib.hid hM9; have HJ9 := Lib.hid hJ9
          clear hN9 hJ9 HTA
          go_upto_region 21 with fail
          go_region_held3 (fun w' => w'.cell? ⟨lb, lo + i, none⟩ = some (.string x) ∧ Mod (only jb) w9 w')
            (first | ((refine ⟨Mod.cellS (S := only jb) (w := w9) ?_ qe (fun h => by have : lb = jb := h; omega), ?_⟩ <;> (repeat (first | assumption | exact Mod.refl _ _ | refine Mod.drew ?_))); done))
            (first | (go_at_call 20; refine (HTB.out _ (Mod.drew HM9.out)).mono ?_; rintro r w10 ⟨rfl, hJ10, hN10⟩; have hM10 : Mod (only jb) w9 w10 := (Mod.refl (only jb) w9).drew.trans hN10 (fun _ _ h => h)))
          have hJa10 := HJ9.out.mod hM10 (not_only (by omega))
          have hJc10 := (HJCD.out.mod HM9.out (not_only (by omega))).mod hM10 (not_only (by omega))
          have hM4 : Mod (three ja jb jc) w4 w10 := (HMD.out.trans HM9.out (fun b _ e => Or.inl e)).trans hM10 (fun b _ e => Or.inr (Or.inl e))
          have hrel9 : (((i + 1 : Nat) : Int) + 1) = (i : Int) + 1 + 1 := by omega
          have hw1 : Ck.wasOf seed cs (i + 1) = S := by rw [Ck.wasOf, hS]
          go_wp2_with fail
          go_roundw
          case rel => exact ⟨i + 1, by omega, by go_num, fun _ => by rw [hrel9, hw1]; exact hJa10, fun _ => by rw [hrel9, hw1]; exact hJ10, ⟨_, _, _, hJc10, by omega⟩, hM4⟩
          case measure => simp [intOf]; omega
        · have hini : ¬ (i : Int) < (n' : Int) := by omega
          go_wp2_with fail
          go_roundw
          case rel => exact ⟨i + 1, by omega, by go_num, fun h => absurd h (by omega), fun h => absurd h (by omega), ⟨_, _, _, hJcd, by omega⟩, hMd⟩
          case measure => simp [intOf]; omega
    · have hlti : ¬ (i : Int) ≤ (n' : Int) := by omega
      have hfin := hMi.three HM4.out hjaw hjbw hjcw
      go_wp2_with fail
      go_ret
      exact ⟨rfl, hfin⟩
end Go.Proofs.YtlndgnlkfhlekaaDoor
