/- CookieEchoed: the law's walk. -/
import Derived.Test.YtlndgnlkfhlekaaDoorCkI
namespace Go.Proofs.YtlndgnlkfhlekaaDoor
open Go.RowKit

namespace Ck
/-- the secrets of a jar with these turns -/
def secs (seed : ByteArray) (cs : List ByteArray) : Nat → ByteArray
  | 0 => dv seed cookieB []
  | k + 1 => tn (secs seed cs k) (cs.getD k ⟨#[]⟩)
def wasOf (seed : ByteArray) (cs : List ByteArray) : Nat → ByteArray
  | 0 => zeroB
  | k + 1 => secs seed cs k
/-- what is baked behind k turns -/
def bk (seed : ByteArray) (cs : List ByteArray) (a b : ByteArray) (k : Nat) : ByteArray := ck (secs seed cs k) a b ((k : Int) + 1)
theorem size_bk (seed : ByteArray) (cs : List ByteArray) (a b : ByteArray) (k : Nat) : (bk seed cs a b k).size = 32 := size_ck _ _ _ _
theorem tell_bk (seed : ByteArray) (cs : List ByteArray) (a b : ByteArray) (i k : Nat) (h : k ≤ i) : tell ((i : Int) + 1) (secs seed cs i) (wasOf seed cs i) a b ((k : Int) + 1) (bk seed cs a b k) = if i - k ≤ 1 then 0 else 100 := by
  rw [tell, if_neg (by omega)]
  by_cases h1 : k = i
  · subst h1
    rw [if_pos rfl, if_pos (by rw [bk]), if_pos (by omega)]
  · rw [if_neg (by omega)]
    by_cases h2 : k + 1 = i
    · subst h2
      rw [if_pos (by omega), if_pos (by rw [bk, wasOf]), if_pos (by omega)]
    · rw [if_neg (by omega), if_neg (by omega)]
end Ck

set_option maxHeartbeats 4000000 in
set_option maxRecDepth 100000 in
theorem cookieEchoed_any (w : World) (hK : Rounds w) (seed a : ByteArray) (sa : Option Addr) (n c : Nat) (ss : List ByteArray) (hp : StrsAt w w.heap.size sa n ss) (h0 : sa = none → n = 0 ∧ c = 0) (hnc : n ≤ c) (hn : n ≤ 1048576) (hs : Fits seed) (ha : Fits a) (hss : ∀ s ∈ ss, Fits s) :
    Calls Tryd.prog 5 #[.string seed, .slice sa n c, .string a] w fun r w' => r = .returned (.bool true) ∧ Mod none_ w w' := by
  have HK := Lib.hid hK
  have fN : Fits Ck.nB := by unfold Fits; decide
  have hfw := fun (q : World) => few_any q sa n c 60 h0 hnc (by decide) (by omega) ss w.heap.size
  have HP := Lib.hid hp; have HFW := Lib.hid hfw; have HSS := Lib.hid hss
  clear hK hfw hp hss
  go_enter Tryd.func5, Tryd.ntmps5
  go_wp2_with fail
  refine (alive10_any w HK.out).mono ?_
  rintro r w1 ⟨rfl, hM⟩
  have HM := Lib.hid hM
  clear hM
  go_wp2_with fail
  refine (HFW.out w1 (HP.out.mod HM.out (fun _ _ h => h))).mono ?_
  rintro r w1' ⟨a', c', rfl, hat, rfl⟩
  obtain ⟨n', hn'⟩ : ∃ n', min n 60 = n' := ⟨_, rfl⟩
  obtain ⟨cs, hcs⟩ : ∃ cs, ss.take 60 = cs := ⟨_, rfl⟩
  rw [hn', hcs] at hat
  rw [hn']
  have hcf : ∀ s ∈ cs, Fits s := fun s h => HSS.out s (List.mem_of_mem_take (hcs ▸ h))
  have hn60 : n' ≤ 60 := by omega
  have HAT := Lib.hid hat; have HCF := Lib.hid hcf
  clear hat hcf hn' hcs HFW HSS HP
  go_wp2_with fail
  refine (ckNew_any w1' (HK.out.mod HM.out (fun h => h)) seed hs).mono ?_
  rintro r w2 ⟨j, rfl, hj, hJ, hM⟩
  have hM2 := HM.out.then hM
  have hjw : w.heap.size ≤ j := Nat.le_trans HM.out.size hj
  have hat2 := HAT.out.mod hM (fun _ _ h => h)
  have hj2 := hJ.blk.lt
  have HJ := Lib.hid hJ; have HM2 := Lib.hid hM2; have HAT2 := Lib.hid hat2
  clear hM hJ hM2 hat2 HM HAT hj
  go_wp2_with fail
  go_loopw [8, 9] (fun v i wr => ∃ k : Nat, k ≤ n' + 1 ∧ i = .int .i64 k ∧ OwnS wr w2.heap.size v ((List.range k).map (Ck.bk seed cs a Ck.nB)) ∧ (k ≤ n' → JarAt wr j ((k : Int) + 1) (Ck.secs seed cs k) (Ck.wasOf seed cs k)) ∧ Mod (only j) w2 wr) (fun _ i _ => n' + 1 - (intOf i).toNat)
  case atStart => exact ⟨0, by omega, rfl, ⟨rfl, Or.inl ⟨rfl, rfl⟩⟩, fun _ => HJ.out, Mod.refl _ _⟩
  case round =>
    obtain ⟨i, hi, rfl, hv, hJi, hMi⟩ := hrel
    by_cases hlt : i ≤ n'
    · have hlti : (i : Int) ≤ (n' : Int) := by omega
      have hwr : Mod none_ w wr := HM2.out.own hMi hjw
      have HJi := Lib.hid (hJi hlt); have HV := Lib.hid hv; have HMi := Lib.hid hMi; have HWR := Lib.hid hwr
      clear hJi hv hMi hwr
      obtain ⟨b0, hb0⟩ : ∃ b, Ck.bk seed cs a Ck.nB i = b := ⟨_, rfl⟩
      have hbake := ckBake_any wr (HK.out.mod HWR.out (fun h => h)) j _ _ _ a Ck.nB HJi.out ha fN
      rw [show Ck.ck (Ck.secs seed cs i) a Ck.nB ((i : Int) + 1) = b0 from hb0] at hbake
      have HBAKE := Lib.hid hbake
      clear hbake
      go_wp2_with fail
      refine HBAKE.out.mono ?_
      rintro r w3 ⟨rfl, hN3⟩
      have hv3 := HV.out.modO hN3 (fun _ _ h => h)
      have hls : (List.map (Ck.bk seed cs a Ck.nB) (List.range i)).length = i := by simp
      have hbs : w2.heap.size ≤ w3.heap.size := Nat.le_trans HMi.out.size hN3.size
      have HV3 := Lib.hid hv3; have HN3 := Lib.hid hN3
      clear HV HBAKE hv3 hN3
      go_upto_region 10 with (refine wpList_append_strs rfl _ (.tmp 28) rfl w2.heap.size _ _ rfl (HV3.out.modO ((Mod.refl none_ _).alloc _) (fun _ _ h => h)) (some ⟨w3.heap.size, 0, none⟩) 1 1 [b0] rfl (w3.heap.size + 1) (one_str w3 _ _) (fun h => by cases h) (by rw [hls]; omega) (by simp; omega) ?_; intro v5 w5 hv5 hg5)
      have hv5' : OwnS w5 w2.heap.size v5 ((List.range (i + 1)).map (Ck.bk seed cs a Ck.nB)) := by
        rw [List.range_succ, List.map_append, List.map_cons, List.map_nil, hb0]; exact hv5
      have hM5 : Mod (only j) w2 w5 := (((HMi.out.trans (HN3.out.mono (S := only j) (fun _ _ h => h.elim)) (fun _ _ h => h)).alloc _).trans (Mod.grownBy (S := fun b => _ = some b) hg5 (fun j _ e => e)) (fun b hb e => by have := HV3.out.own_ge e; omega))
      have hW5 : Mod none_ w w5 := HM2.out.own hM5 hjw
      have hJ5 : JarAt w5 j ((i : Int) + 1) (Ck.secs seed cs i) (Ck.wasOf seed cs i) := by
        have h3 := HJi.out.mod HN3.out (fun h => h)
        exact (h3.mod ((Mod.refl none_ w3).alloc _) (fun h => h)).mod (Mod.grownBy (S := fun b => _ = some b) hg5 (fun j _ e => e)) (fun e => by have := HV3.out.own_ge e; omega)
      rcases hv5'.cases with ⟨_, e⟩ | ⟨g, cap, rest, rfl, hg, hBg, hcap⟩
      · have := congrArg List.length e
        simp at this
      have hlen5 : ((List.range (i + 1)).map (Ck.bk seed cs a Ck.nB)).length = i + 1 := by simp
      rw [hlen5] at hcap hv5' ⊢
      have hgj : j ≠ g := by omega
      have HV5 := Lib.hid hv5'; have HM5 := Lib.hid hM5; have HW5 := Lib.hid hW5; have HJ5 := Lib.hid hJ5; have HBG := Lib.hid hBg
      clear hv5 hg5 hv5' hM5 hW5 hJ5 hBg HV3 HN3 HJi
      go_wp2_with fail
      obtain ⟨wo, rfl⟩ : ∃ wo : World, wo = w5 := ⟨_, rfl⟩
      go_loopw [10] (fun q wz => ∃ k : Nat, k ≤ i + 1 ∧ q = .int .i64 k ∧ Mod none_ wo wz) (fun q _ => i + 1 - (intOf q).toNat)
      case atStart => exact ⟨0, by omega, rfl, Mod.refl _ _⟩
      case round =>
        obtain ⟨k, hk, rfl, hMz⟩ := hrel
        by_cases hki : k ≤ i
        · have hkii : (k : Int) ≤ (i : Int) := by omega
          have qb : wr.cell? ⟨g, k, none⟩ = some (.string (Ck.bk seed cs a Ck.nB k)) := hMz.cellS (HBG.out.cell (by
            rw [List.getElem?_append_left (by simp [strs]; omega), strs, List.getElem?_map, List.getElem?_map, List.getElem?_range (by omega)]; rfl)) (fun h => h)
          have hK4 := HK.out.mod (HW5.out.then hMz) (fun h => h)
          have hck := ckCheck_any wr hK4 j _ _ _ a Ck.nB (Ck.bk seed cs a Ck.nB k) ((k : Int) + 1) (by omega) (HJ5.out.mod hMz (fun h => h)) ha fN
          rw [Ck.tell_bk seed cs a Ck.nB i k hki] at hck
          obtain ⟨B, hBk⟩ : ∃ B, Ck.bk seed cs a Ck.nB k = B := ⟨_, rfl⟩
          rw [hBk] at qb hck
          have e1 : IntKind.i64.wrap ((k : Int) + 1) = (k : Int) + 1 := by rw [IntKind.wrap_i64]; omega
          have e2 : IntKind.u64.wrap ((k : Int) + 1) = (k : Int) + 1 := by rw [IntKind.wrap_u64]; omega
          have e3 : IntKind.i64.wrap ((i : Int) - (k : Int)) = (i : Int) - (k : Int) := by rw [IntKind.wrap_i64]; omega
          have hgl : (k : Int) < ((i + 1 : Nat) : Int) := by omega
          have HCK := Lib.hid hck; have HMZ := Lib.hid hMz
          clear hck hMz hBk hK4
          go_wp2_with fail
          refine HCK.out.mono ?_
          rintro r w6 ⟨rfl, hN6⟩
          have hMz6 := HMZ.out.then hN6
          clear HCK hN6 qb
          by_cases hd : i - k ≤ 1
          · rw [if_pos hd]
            have hd1 : (i : Int) - (k : Int) ≤ 1 := by omega
            have hd2 : ¬ 1 < (i : Int) - (k : Int) := by omega
            go_wp2_with fail
            go_roundw
            case rel => exact ⟨k + 1, by omega, by go_num, hMz6⟩
            case measure => simp [intOf]; omega
          · rw [if_neg hd]
            have hd1 : ¬ (i : Int) - (k : Int) ≤ 1 := by omega
            have hd2 : 1 < (i : Int) - (k : Int) := by omega
            go_wp2_with fail
            go_roundw
            case rel => exact ⟨k + 1, by omega, by go_num, hMz6⟩
            case measure => simp [intOf]; omega
        · have hkii : ¬ (k : Int) ≤ (i : Int) := by omega
          have hJ7 := HJ5.out.mod hMz (fun h => h)
          have hV7 := HV5.out.modO hMz (fun _ _ h => h)
          have hW7 := HW5.out.then hMz
          have hMj := HM5.out.trans (hMz.mono (T := none_) (S := only j) (fun _ _ h => h.elim)) (fun _ _ h => h)
          clear HV5 HM5 HW5 HJ5 HBG
          by_cases hin : i < n'
          · have hini : (i : Int) < (n' : Int) := by omega
            obtain ⟨lb, lo, rfl, hlb, hcc⟩ := HAT2.out.2 (by omega)
            obtain ⟨x, hx⟩ : ∃ x, cs[i]? = some x := ⟨_, List.getElem?_eq_getElem (by rw [HAT2.out.1]; exact hin)⟩
            have hxf : Fits x := HCF.out x (List.mem_of_getElem? hx)
            have qx : wr.cell? ⟨lb, lo + i, none⟩ = some (.string x) := hMj.cellS (hcc i x hx) (fun h => by have : lb = j := h; omega)
            have qd := qx
            have hgx : Ck.tn (Ck.secs seed cs i) x = Ck.secs seed cs (i + 1) := by rw [Ck.secs, List.getD_eq_getElem?_getD, hx]; rfl
            have htn := fun (q : World) (hM : Mod none_ wr q) => ckTurn_any q (HK.out.mod (hW7.then hM) (fun h => h)) j (rounds_lt HK.out hjw) ((i : Int) + 1) (by omega) _ _ x (hJ7.mod hM (fun h => h)) hxf
            rw [hgx] at htn
            have hm0 := Mod.refl (only j) wr
            have HTN := Lib.hid htn
            clear htn hcc
            go_upto_region 17 with fail
            go_region_held3 (fun w' => w'.cell? ⟨lb, lo + i, none⟩ = some (.string x) ∧ Mod (only j) wr w')
              (first | ((refine ⟨Mod.cellS (S := only j) (w := wr) ?_ qd (fun h => by have : lb = j := h; omega), ?_⟩ <;> (repeat (first | assumption | exact Mod.refl _ _ | refine Mod.drew ?_))); done))
              (first | (go_at_call 20; refine (HTN.out _ (by repeat (first | assumption | exact Mod.refl _ _ | refine Mod.drew ?_))).mono ?_; rintro r w9 ⟨rfl, hJ9, hN9⟩; have hM9 : Mod (only j) wr w9 := (Mod.refl (only j) wr).drew.trans hN9 (fun _ _ h => h)))
            have hV9 := hV7.modO hM9 (fun b e h => by have : b = j := h; have := hV7.own_ge e; omega)
            have hMj9 := hMj.trans hM9 (fun _ _ h => h)
            have hrel9 : (((i + 1 : Nat) : Int) + 1) = (i : Int) + 1 + 1 := by omega
            go_wp2_with fail
            go_roundw
            case rel => exact ⟨i + 1, by omega, by go_num, hV9, fun _ => by rw [hrel9]; exact hJ9, hMj9⟩
            case measure => simp [intOf]; omega
          · have hini : ¬ (i : Int) < (n' : Int) := by omega
            go_wp2_with fail
            go_roundw
            case rel => exact ⟨i + 1, by omega, by go_num, hV7, fun h => absurd h (by omega), hMj⟩
            case measure => simp [intOf]; omega
    · have hlti : ¬ (i : Int) ≤ (n' : Int) := by omega
      have hfin := HM2.out.own hMi hjw
      go_wp2_with fail
      go_ret
      exact ⟨rfl, hfin⟩
end Go.Proofs.YtlndgnlkfhlekaaDoor
