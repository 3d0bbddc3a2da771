/- CookieOwn: the law's walk. -/
import Derived.Test.YtlndgnlkfhlekaaDoorCkQ
import Derived.Test.YtlndgnlkfhlekaaDoorCkR
import Derived.Test.YtlndgnlkfhlekaaDoorCkS
namespace Go.Proofs.YtlndgnlkfhlekaaDoor
open Go.RowKit

/-- a list that has just been made, as one of the call's own -/
theorem ownS_made (w : World) (s : ByteArray) (base : Nat) (hb : base ≤ w.heap.size) : OwnS (w.alloc (.cells #[.string s] 9)) base (.slice (some ⟨w.heap.size, 0, none⟩) 1 1) [s] := by
  refine ⟨rfl, Or.inr ⟨w.heap.size, 1, #[.string s], rfl, hb, heap_alloc_new w _, Nat.le_refl _, by unfold maxLen; omega, rfl, rfl⟩⟩
theorem wp_append_str {o : Oper} {a : Act} {w : World} {K : Act → World → Prop} {Q : Exit → Act → World → Prop} (s x : Operand)
    (ho : o.op = .call { callee := .builtin .append, args := #[s, x], argTypes := #[44, 44] }) (base : Nat)
    (v : Value) (ss : List ByteArray) (hs : a.eval s = v) (hown : OwnS w base v ss) (lb : Nat) (u : ByteArray) (hx : a.eval x = .slice (some ⟨lb, 0, none⟩) 1 1) (hu : w.cell? ⟨lb, 0, none⟩ = some (.string u))
    (hlen : (ss.length + 1) * 16 ≤ 140737488355328) (hbase : base ≤ w.heap.size)
    (h : ∀ v' w', OwnS w' base v' (ss ++ [u]) → w.grownBy w' v.ownBlock → K (a.put o.dst v') w') : o.wp Tryd.prog a w K Q := by
  obtain ⟨i, hi, hz0, hz1, hz2⟩ := info_parts info_str
  refine wp_append_own w s x 44 ho base 9 i (.string ⟨#[]⟩) 1 16 under_s44 hi hz0 hz1 hz2 rfl (by decide) v ss.length (strs ss) hs hown ⟨lb, 0, none⟩ 1 1 [.string u] hx rfl ?_ (one_strs [u]) (by unfold maxLen; omega) hlen hbase ?_
  · intro j y hj
    match j, hj with
    | 0, hj => obtain rfl := Option.some.inj hj; exact hu
    | k + 1, hj => simp at hj
  · intro v' w' ho' hg _
    refine h v' w' ?_ hg
    unfold OwnS
    rw [List.length_append]
    simpa [strs] using ho'

namespace Ck
theorem tell_in (seed : ByteArray) (cs : List ByteArray) (a b : ByteArray) (i k : Nat) (z : ByteArray) (h1 : 1 ≤ k) (h2 : k ≤ i + 1) (h3 : i ≤ k) : tell ((i : Int) + 1) (secs seed cs i) (wasOf seed cs i) a b (k : Int) z = if z = bk seed cs a b (k - 1) then 0 else 101 := by
  rw [tell, if_neg (by omega)]
  by_cases h : k = i + 1
  · subst h
    rw [if_pos (by omega)]
    have e : (((i + 1 : Nat) : Int)) = (i : Int) + 1 := by omega
    rw [e]; rfl
  · obtain rfl : k = i := by omega
    rw [if_neg (by omega), if_pos (by omega)]
    obtain ⟨m, rfl⟩ : ∃ m, k = m + 1 := ⟨k - 1, by omega⟩
    have e : (((m + 1 : Nat) : Int)) = (m : Int) + 1 := by omega
    rw [e]; rfl
theorem tell_out (e : Int) (now was a b : ByteArray) (ep : Int) (z : ByteArray) (h : ep = 0 ∨ (ep ≠ e ∧ ep ≠ e - 1)) : tell e now was a b ep z = 100 := by
  rw [tell]
  by_cases h0 : ep = 0
  · rw [if_pos h0]
  · rcases h with h | ⟨h1, h2⟩
    · exact absurd h h0
    · rw [if_neg h0, if_neg h1, if_neg h2]
end Ck

set_option maxHeartbeats 8000000 in
set_option maxRecDepth 100000 in
theorem cookieOwn_any (w : World) (hK : Rounds w) (seed : ByteArray) (sa : Option Addr) (n c : Nat) (ss : List ByteArray) (hp : StrsAt w w.heap.size sa n ss) (h0 : sa = none → n = 0 ∧ c = 0) (hnc : n ≤ c) (hn : n ≤ 1048576)
    (a b d e : ByteArray) (hs : Fits seed) (ha : Fits a) (hb : Fits b) (hd : Fits d) (hss : ∀ s ∈ ss, Fits s) :
    Calls Tryd.prog 4 #[.string seed, .slice sa n c, .agg #[.string a, .string b, .string d, .string e]] w fun r w' => r = .returned (.bool true) ∧ Mod none_ w w' := by
  have HK := Lib.hid hK
  have hfw := fun (q : World) => few_any q sa n c 40 h0 hnc (by decide) (by omega) ss w.heap.size
  have HP := Lib.hid hp; have HFW := Lib.hid hfw; have HSS := Lib.hid hss
  clear hK hfw hp hss
  go_enter Tryd.func4, Tryd.ntmps4
  go_upto_region 1 with fail
  obtain ⟨w0, hw0, hQ0, hM0⟩ : ∃ w0, w.alloc (.cells #[.string a, .string b, .string d, .string e] 45) = w0 ∧ Blk w0 w.heap.size [.string a, .string b, .string d, .string e] 45 ∧ Mod none_ w w0 := ⟨_, rfl, Blk.new w [.string a, .string b, .string d, .string e] _, (Mod.refl _ _).alloc _⟩
  rw [hw0]
  clear hw0
  obtain ⟨Q, hQe⟩ : ∃ Q, w.heap.size = Q := ⟨_, rfl⟩
  rw [hQe] at hQ0 ⊢
  go_wp2_with fail
  refine (alive10_any w0 (HK.out.mod hM0 (fun h => h))).mono ?_
  rintro r w1 ⟨rfl, hM⟩
  have hQ1 := hM.blk hQ0 (fun h => h)
  have HM := Lib.hid (hM0.then hM)
  clear hM hM0 hQ0
  go_wp2_with fail
  refine (HFW.out w1 (HP.out.mod HM.out (fun _ _ h => h))).mono ?_
  rintro r w1' ⟨a', c', rfl, hat, rfl⟩
  obtain ⟨n', hn'⟩ : ∃ n', min n 40 = n' := ⟨_, rfl⟩
  obtain ⟨cs, hcs⟩ : ∃ cs, ss.take 40 = cs := ⟨_, rfl⟩
  rw [hn', hcs] at hat
  rw [hn']
  have hcf : ∀ s ∈ cs, Fits s := fun s h => HSS.out s (List.mem_of_mem_take (hcs ▸ h))
  have hn40 : n' ≤ 40 := by omega
  have HAT := Lib.hid hat; have HCF := Lib.hid hcf
  clear hat hcf hn' hcs HFW HSS HP
  have q0 : w1'.cell? ⟨Q, 0, none⟩ = some (.string a) := hQ1.cell rfl
  have q1 : w1'.cell? ⟨Q, 1, none⟩ = some (.string b) := hQ1.cell rfl
  have q2 : w1'.cell? ⟨Q, 2, none⟩ = some (.string d) := hQ1.cell rfl
  have q3 : w1'.cell? ⟨Q, 3, none⟩ = some (.string e) := hQ1.cell rfl
  clear hQ1
  go_upto_region 4 with fail
  go_quiet (fail)
  clear q0 q1 q2 q3
  go_wp2_with fail
  obtain ⟨wq, hwq, hMq⟩ : ∃ wq, w1'.drewN nq = wq ∧ Mod none_ w1' wq := ⟨_, rfl, (Mod.refl _ _).drewN _⟩
  rw [hwq]
  clear hwq
  refine (ckNew_any wq (HK.out.mod (HM.out.then hMq) (fun h => h)) seed hs).mono ?_
  rintro r w2 ⟨j, rfl, hj, hJ, hM2⟩
  have hjw : w.heap.size ≤ j := Nat.le_trans (HM.out.then hMq).size hj
  have HM2 := Lib.hid ((HM.out.then hMq).then hM2); have HJ2 := Lib.hid hJ
  have HAT2 := Lib.hid (HAT.out.mod (hMq.then hM2) (fun _ _ h => h))
  clear hJ hM2 hMq HM HAT
  go_wp2_with fail
  refine (derive_s w2 (HK.out.mod HM2.out (fun h => h)) seed Ck.cookieB none 0 0 [] (strs_nil _ _) hs fits_cookie (by simp) (by simp)).mono ?_
  rintro r w3 ⟨rfl, hM3⟩
  have HM3 := Lib.hid (HM2.out.then hM3); have HJ3 := Lib.hid (HJ2.out.mod hM3 (fun h => h)); have HAT3 := Lib.hid (HAT2.out.mod hM3 (fun _ _ h => h))
  have hjB : j < w3.heap.size := HJ3.out.blk.lt
  have hown0 := ownS_made w3 (Ck.dv seed Ck.cookieB []) w3.heap.size (Nat.le_refl _)
  have hJ4 := HJ3.out.mod ((Mod.refl none_ w3).alloc (.cells #[.string (Ck.dv seed Ck.cookieB [])] 9)) (fun h => h)
  have hM4 : Mod (only j) w3 (w3.alloc (.cells #[.string (Ck.dv seed Ck.cookieB [])] 9)) := (Mod.refl _ _).alloc _
  clear hM3 HM2 HJ2 HAT2
  go_wp2_with fail
  go_loopw [12, 13] (fun v q wr => ∃ i : Nat, i ≤ n' + 1 ∧ q = .int .i64 i ∧ (i ≤ n' → OwnS wr w3.heap.size v ((List.range (i + 1)).map (Ck.secs seed cs))) ∧ (i ≤ n' → JarAt wr j ((i : Int) + 1) (Ck.secs seed cs i) (Ck.wasOf seed cs i)) ∧ Mod (only j) w3 wr) (fun _ q _ => n' + 1 - (intOf q).toNat)
  case atStart => exact ⟨0, by omega, rfl, fun _ => hown0, fun _ => hJ4, hM4⟩
  case round =>
    clear hown0 hJ4 hM4
    obtain ⟨i, hi, rfl, hvi, hJi, hMi⟩ := hrel
    by_cases hlt : i ≤ n'
    · have hlti : (i : Int) ≤ (n' : Int) := by omega
      rcases (hvi hlt).cases with ⟨_, e⟩ | ⟨g, cap, rest, rfl, hg, hBg, hcap⟩
      · have := congrArg List.length e
        simp at this
      have hleni : ((List.range (i + 1)).map (Ck.secs seed cs)).length = i + 1 := by simp
      have hv := hvi hlt
      rw [hleni] at hcap hv ⊢
      have HV := Lib.hid hv; have HBG := Lib.hid hBg; have HMi := Lib.hid hMi; have HJ := Lib.hid (hJi hlt)
      have HWR := Lib.hid (HM3.out.own hMi hjw)
      have hgj : j ≠ g := by omega
      obtain ⟨si, hsi⟩ : ∃ S, Ck.secs seed cs i = S := ⟨_, rfl⟩
      obtain ⟨V, hV⟩ : ∃ S, Ck.wasOf seed cs i = S := ⟨_, rfl⟩
      rw [hsi, hV] at HJ
      have HCell : Hid (∀ k : Nat, k ≤ i → wr.cell? ⟨g, k, none⟩ = some (.string (Ck.secs seed cs k))) := Lib.hid (fun k hk => HBG.out.cell (by
        rw [List.getElem?_append_left (by simp [strs]; omega), strs, List.getElem?_map, List.getElem?_map, List.getElem?_range (by omega)]; rfl))
      have hsec32 : ∀ k : Nat, (Ck.secs seed cs k).size = 32 := fun k => by cases k with
        | zero => exact Ck.size_dv _ _ _
        | succ k => exact Ck.size_tn _ _
      have HS32 := Lib.hid hsec32
      clear hvi hv hBg hMi hJi hsec32
      have e1 : IntKind.i64.wrap ((i : Int) + 1) = (i : Int) + 1 := by rw [IntKind.wrap_i64]; omega
      have e2 : IntKind.u64.wrap ((i : Int) + 1) = (i : Int) + 1 := by rw [IntKind.wrap_u64]; omega
      have hd3 : ∀ (q : World) (k : Nat) (x y Z : ByteArray) (ep : Int), Mod none_ wr q → Fits x → Fits y → Ck.ck (Ck.secs seed cs k) x y ep = Z → Calls Tryd.prog 17 #[.string (Ck.secs seed cs k), .string Ck.cookieB, .slice (some ⟨q.heap.size, 0, none⟩) 3 3] (q.alloc (.cells #[.string x, .string y, .string (Ck.be ep)] 9)) fun r w' => r = .returned (.string Z) ∧ Mod none_ wr w' := by
        intro q k x y Z ep hM f1 f2 hZ
        refine (derive_s _ (HK.out.mod ((HWR.out.then hM).alloc _) (fun h => h)) (Ck.secs seed cs k) Ck.cookieB (some ⟨q.heap.size, 0, none⟩) 3 3 [x, y, Ck.be ep] ((three_strs q x y (Ck.be ep) 9).mono (by simp)) (fits32 (HS32.out k)) fits_cookie (by
          intro p hp
          simp only [List.mem_cons, List.not_mem_nil, or_false] at hp
          rcases hp with rfl | rfl | rfl
          · exact f1
          · exact f2
          · exact fits_be _) (by simp)).mono ?_
        rintro r w' ⟨rfl, hN⟩
        exact ⟨by rw [← hZ]; unfold Ck.ck; rfl, (hM.alloc _).then hN⟩
      have HD3 := Lib.hid hd3
      have HNU := Lib.hid (fun (q : World) (x : Int) => number_any q x)
      clear hd3
      obtain ⟨C, hC⟩ : ∃ C, Ck.bk seed cs a b i = C := ⟨_, rfl⟩
      have hC2 : Ck.ck (Ck.secs seed cs i) a b ((i : Int) + 1) = C := hC
      have qs := HCell.out i (Nat.le_refl _)
      have qs0 := qs
      have hgl : (i : Int) < ((i + 1 : Nat) : Int) := by omega
      have hgl2 : (i : Int) < (i : Int) + 1 := by omega
      have hgl0 : (0 : Int) ≤ (i : Int) := by omega
      have hm0 := Mod.refl none_ wr
      rw [hsi] at qs qs0
      have HDi := Lib.hid (fun (q : World) (x y Z : ByteArray) (ep : Int) (hM : Mod none_ wr q) (f1 : Fits x) (f2 : Fits y) (hZ : Ck.ck si x y ep = Z) => hsi ▸ HD3.out q i x y Z ep hM f1 f2 (hsi.symm ▸ hZ))
      rw [hsi] at hC2
      go_upto_region 11 with fail
      go_region_held3 (fun w' => w'.cell? ⟨g, i, none⟩ = some (.string si) ∧ Mod none_ wr w')
        (first | ((refine ⟨Mod.cellS (S := none_) (w := wr) ?_ qs0 (fun h => h), ?_⟩ <;> (repeat (first | assumption | exact Mod.refl _ _ | refine Mod.drew ?_ | refine Mod.alloc ?_ _))); done))
        (first | (go_at_call 18; refine (HNU.out _ _).mono ?_; rintro r w6 ⟨rfl, hN6⟩; have hM6 : Mod none_ wr w6 := Mod.then (by repeat (first | assumption | exact Mod.refl _ _ | refine Mod.drew ?_ | refine Mod.alloc ?_ _)) hN6) | (go_at_call 17; refine (HDi.out _ _ _ C _ (by assumption) ha hb hC2).mono ?_; rintro r w7 ⟨rfl, hM7⟩))
      have HM7 := Lib.hid hM7
      clear hM6 hM7 hN6 qs qs0
      go_wp2_with fail
      refine (ckEpoch_any w7 j _ _ _ (HJ.out.mod HM7.out (fun h => h))).mono ?_
      rintro r w7' ⟨rfl, rfl⟩
      go_wp2_with fail
      refine (ckBake_any w7' (HK.out.mod (HWR.out.then HM7.out) (fun h => h)) j _ _ _ a b (HJ.out.mod HM7.out (fun h => h)) ha hb).mono ?_
      rintro r w8 ⟨rfl, hN8⟩
      rw [hC2]
      have HM8 := Lib.hid (HM7.out.then hN8)
      clear hN8 HM7
      go_wp2_with fail
      obtain ⟨wo, rfl⟩ : ∃ wo : World, wo = wr := ⟨_, rfl⟩
      have hstart : ∀ ep : Int, Ck.tell ((i : Int) + 1) si V a b ep C = Ck.tell ((i : Int) + 1) si V a b ep C := fun _ => rfl
      clear hstart
      go_loopw [16] (fun q wz => ∃ k : Nat, k ≤ i + 4 ∧ q = .int .u64 k ∧ Mod none_ wo wz) (fun q _ => i + 4 - (intOf q).toNat)
      case atStart => exact ⟨0, by omega, rfl, HM8.out⟩
      case round =>
        obtain ⟨k, hk4, rfl, hMz⟩ := hrel
        have f1 : IntKind.u64.wrap ((i : Int) + 1 + 2) = (i : Int) + 1 + 2 := by rw [IntKind.wrap_u64]; omega
        have f2 : IntKind.u64.wrap ((k : Int) + 1) = (k : Int) + 1 := by rw [IntKind.wrap_u64]; omega
        by_cases hk3 : k ≤ i + 3
        · have hk3i : (k : Int) ≤ (i : Int) + 1 + 2 := by omega
          obtain ⟨β, hβ⟩ : ∃ β, decide (1 ≤ k ∧ k ≤ i + 1 ∧ i ≤ k) = β := ⟨_, rfl⟩
          have HMz := Lib.hid hMz
          clear hMz
          go_upto_region 19 with fail
          go_cut [90] (fun s wx => s = .bool β ∧ Mod none_ wo wx)
          case first =>
            by_cases c1 : 1 ≤ (k : Int)
            · by_cases c2 : (k : Int) ≤ (i : Int) + 1
              · by_cases c3 : (i : Int) + 1 ≤ (k : Int) + 1
                · have hβ1 : β = true := by rw [← hβ]; exact decide_eq_true (by omega)
                  go_wp2_with fail
                  go_meet
                  case rel => exact ⟨by rw [hβ1], HMz.out⟩
                · have hβ1 : β = false := by rw [← hβ]; exact decide_eq_false (by omega)
                  go_wp2_with fail
                  go_meet
                  case rel => exact ⟨by rw [hβ1], HMz.out⟩
              · have hβ1 : β = false := by rw [← hβ]; exact decide_eq_false (by omega)
                go_wp2_with fail
                go_meet
                case rel => exact ⟨by rw [hβ1], HMz.out⟩
            · have hβ1 : β = false := by rw [← hβ]; exact decide_eq_false (by omega)
              go_wp2_with fail
              go_meet
              case rel => exact ⟨by rw [hβ1], HMz.out⟩
          case rest =>
            obtain ⟨rfl, hMc⟩ := hcut
            have HMc := Lib.hid hMc
            clear hMc HMz
            go_upto_if 90 with fail
            go_cut [17, 18] (fun u v wx => ∃ (W : Int) (T : ByteArray), u = .int .i64 W ∧ v = .string T ∧ (∀ z, Ck.tell ((i : Int) + 1) si V a b (k : Int) z = if T.size = 32 ∧ z = T then 0 else W) ∧ (T.size = 32 ∨ T = ⟨#[]⟩) ∧ Mod none_ wo wx)
            case first =>
              cases β with
              | true =>
                obtain ⟨k1, k2, k3⟩ := of_decide_eq_true hβ
                obtain ⟨m, rfl⟩ : ∃ m, k = m + 1 := ⟨k - 1, by omega⟩
                have ht : ∀ z, Ck.tell ((i : Int) + 1) si V a b ((m + 1 : Nat) : Int) z = if (Ck.bk seed cs a b m).size = 32 ∧ z = Ck.bk seed cs a b m then 0 else 101 := fun z => by
                  rw [← hsi, ← hV, Ck.tell_in seed cs a b i (m + 1) z k1 k2 k3]
                  simp [Ck.size_bk]
                have em : ((m + 1 : Nat) : Int) = (m : Int) + 1 := by omega
                have e4 : IntKind.u64.wrap ((m : Int) + 1 - 1) = (m : Int) := by rw [IntKind.wrap_u64]; omega
                have qm : wo.cell? ⟨g, m, none⟩ = some (.string (Ck.secs seed cs m)) := HCell.out m (by omega)
                have qm0 := qm
                have e5 : IntKind.u64.wrap (m : Int) = (m : Int) := by rw [IntKind.wrap_u64]; omega
                have hml : (m : Int) < (i : Int) + 1 := by omega
                have hml0 : (0 : Int) ≤ (m : Int) := by omega
                obtain ⟨D, hD⟩ : ∃ D, Ck.bk seed cs a b m = D := ⟨_, rfl⟩
                have hD2 : Ck.ck (Ck.secs seed cs m) a b ((m : Int) + 1) = D := hD
                have hDs : D.size = 32 := by rw [← hD]; exact Ck.size_bk _ _ _ _ _
                rw [hD] at ht
                have HDm := Lib.hid (fun (q : World) (hM : Mod none_ wo q) => HD3.out q m a b D ((m : Int) + 1) hM ha hb hD2)
                obtain ⟨sm, hsm⟩ : ∃ S, Ck.secs seed cs m = S := ⟨_, rfl⟩
                rw [hsm] at qm qm0 HDm
                have HTT := Lib.hid ht
                have hMc := HMc.out
                rw [em] at HTT ⊢
                clear ht hD hD2
                go_upto_region 21 with fail
                go_region_held3 (fun w' => w'.cell? ⟨g, m, none⟩ = some (.string sm) ∧ Mod none_ wo w')
                  (first | ((refine ⟨Mod.cellS (S := none_) (w := wo) ?_ qm0 (fun h => h), ?_⟩ <;> (repeat (first | assumption | exact Mod.refl _ _ | refine Mod.drew ?_ | refine Mod.alloc ?_ _))); done))
                  (first | (go_at_call 18; refine (HNU.out _ _).mono ?_; rintro r w12 ⟨rfl, hN12⟩; have hM12 : Mod none_ wo w12 := Mod.then (by repeat (first | assumption | exact Mod.refl _ _ | refine Mod.drew ?_ | refine Mod.alloc ?_ _)) hN12) | (go_at_call 17; refine (HDm.out _ (by assumption)).mono ?_; rintro r w13 ⟨rfl, hM13⟩))
                have HM13 := Lib.hid hM13
                go_wp2_with fail
                go_meet
                case rel => exact ⟨101, D, rfl, rfl, HTT.out, Or.inl hDs, HM13.out⟩
              | false =>
                have hβ2 := of_decide_eq_false hβ
                have ht : ∀ z, Ck.tell ((i : Int) + 1) si V a b (k : Int) z = 100 := fun z => Ck.tell_out _ _ _ _ _ _ _ (by omega)
                go_wp2_with fail
                go_meet
                case rel => exact ⟨100, ⟨#[]⟩, rfl, rfl, fun z => by rw [ht, if_neg (fun h => by have : (0 : Nat) = 32 := h.1; omega)], Or.inr rfl, HMc.out⟩
            case rest =>
              obtain ⟨W, T, rfl, rfl, hTl, hT3, hMc⟩ := hcut
              have hTf : Fits T := by rcases hT3 with h | rfl
                                      · exact fits32 h
                                      · unfold Fits; decide
              have hC32 : C.size = 32 := by rw [← hC]; exact Ck.size_bk _ _ _ _ _
              have hadd := run_cat C ⟨#[0]⟩ (by rw [hC32]; decide)
              obtain ⟨C0, hC0⟩ : ∃ C0, C ++ ⟨#[0]⟩ = C0 := ⟨_, rfl⟩
              obtain ⟨D, hD⟩ : ∃ D, Ck.ck si d b ((i : Int) + 1) = D := ⟨_, rfl⟩
              have HDo := Lib.hid (fun (q : World) (hM : Mod none_ wo q) => HDi.out q d b D ((i : Int) + 1) hM hd hb hD)
              have qs := HCell.out i (Nat.le_refl _)
              rw [hsi] at qs
              have qs0 := qs
              have HTL := Lib.hid hTl; have HT3 := Lib.hid hT3
              clear hTl hT3 hD HMc
              go_upto_region 22 with fail
              go_region_held3 (fun w' => w'.cell? ⟨g, i, none⟩ = some (.string si) ∧ Mod none_ wo w')
                (first | ((refine ⟨Mod.cellS (S := none_) (w := wo) ?_ qs0 (fun h => h), ?_⟩ <;> (repeat (first | assumption | exact Mod.refl _ _ | refine Mod.drew ?_ | refine Mod.alloc ?_ _))); done))
                (first | (go_at_call 18; refine (HNU.out _ _).mono ?_; rintro r w12 ⟨rfl, hN12⟩; have hM12 : Mod none_ wo w12 := Mod.then (by repeat (first | assumption | exact Mod.refl _ _ | refine Mod.drew ?_ | refine Mod.alloc ?_ _)) hN12) | (go_at_call 17; refine (HDo.out _ (by assumption)).mono ?_; rintro r w13 ⟨rfl, hM13⟩))
              obtain ⟨G, hG⟩ : ∃ G, w13.heap.size = G := ⟨_, rfl⟩
              obtain ⟨wz, hwz, hZ, hMzz⟩ : ∃ wz, w13.alloc (.cells #[.string C, .string T, .string e, .string D, .string ⟨#[]⟩, .string C0] 9) = wz ∧ Blk wz G [.string C, .string T, .string e, .string D, .string ⟨#[]⟩, .string C0] 9 ∧ Mod none_ wo wz := ⟨_, rfl, hG ▸ Blk.newA w13 #[.string C, .string T, .string e, .string D, .string ⟨#[]⟩, .string C0] _, hM13.alloc _⟩
              rw [hwz, hG]
              have HZ := Lib.hid hZ; have HMZZ := Lib.hid hMzz
              clear hwz hG hZ hMzz hM12 hM13 hN12 qs qs0 hadd hC0 HDo
              go_wp2_with fail
              go_loopw [20] (fun q wx => ∃ t : Nat, t ≤ 6 ∧ q = .int .i64 t ∧ Mod none_ wz wx) (fun q _ => 6 - (intOf q).toNat)
              case atStart => exact ⟨0, by omega, rfl, Mod.refl _ _⟩
              case round =>
                obtain ⟨t, ht6, rfl, hMt⟩ := hrel
                by_cases htt : t < 6
                · have hti : (t : Int) < 6 := by omega
                  obtain ⟨z, hz⟩ : ∃ z, ([.string C, .string T, .string e, .string D, .string ⟨#[]⟩, .string C0] : List Value)[t]? = some (.string z) := by
                    have : t = 0 ∨ t = 1 ∨ t = 2 ∨ t = 3 ∨ t = 4 ∨ t = 5 := by omega
                    rcases this with rfl | rfl | rfl | rfl | rfl | rfl <;> exact ⟨_, rfl⟩
                  have qz : wr.cell? ⟨G, t, none⟩ = some (.string z) := hMt.cellS (HZ.out.cell hz) (fun h => h)
                  have hMw := HMZZ.out.then hMt
                  have hck := ckCheck_any wr (HK.out.mod (HWR.out.then hMw) (fun h => h)) j _ _ _ a b z (k : Int) (by omega) (HJ.out.mod hMw (fun h => h)) ha hb
                  rw [HTL.out z] at hck
                  have HCKK := Lib.hid hck; have HMT := Lib.hid hMt
                  clear hck hMt hz hMw
                  go_wp2_with fail
                  refine HCKK.out.mono ?_
                  rintro r w15 ⟨rfl, hN15⟩
                  have hMt5 := HMT.out.then hN15
                  have qz5 : w15.cell? ⟨G, t, none⟩ = some (.string z) := hN15.cellS qz (fun h => h)
                  have HMT5 := Lib.hid hMt5
                  clear hMt5 hN15 HCKK HMT qz
                  rcases HT3.out with h32 | rfl
                  · have hne : (T.toList == (⟨#[]⟩ : ByteArray).toList) = false := by
                      rw [toList_eq_num]
                      exact decide_eq_false (fun h => by rw [h] at h32; exact absurd h32 (by decide))
                    have hnl : ¬ T.toList = [] := fun h => by
                      rw [h] at hne
                      exact absurd hne (by decide +kernel)
                    have hie : T.toList.isEmpty = false := by
                      cases hq : T.toList with
                      | nil => exact absurd hq hnl
                      | cons x l => rfl
                    clear hne
                    by_cases hzT : z = T
                    · have hzt : (z.toList == T.toList) = true := by rw [toList_eq_num]; exact decide_eq_true hzT
                      rw [if_pos ⟨h32, hzT⟩]
                      clear hzT
                      go_wp2_with fail
                      go_roundw
                      case rel => exact ⟨t + 1, by omega, by go_num, HMT5.out⟩
                      case measure => simp [intOf]; omega
                    · have hzt : (z.toList == T.toList) = false := by rw [toList_eq_num]; exact decide_eq_false hzT
                      rw [if_neg (fun h => hzT h.2)]
                      go_wp2_with fail
                      go_roundw
                      case rel => exact ⟨t + 1, by omega, by go_num, HMT5.out⟩
                      case measure => simp [intOf]; omega
                  · rw [if_neg (fun h => absurd h.1 (by decide))]
                    go_wp2_with fail
                    go_roundw
                    case rel => exact ⟨t + 1, by omega, by go_num, HMT5.out⟩
                    case measure => simp [intOf]; omega
                · have hti : ¬ (t : Int) < 6 := by omega
                  have hMk := HMZZ.out.then hMt
                  go_wp2_with fail
                  go_roundw
                  case rel => exact ⟨k + 1, by omega, by go_num, hMk⟩
                  case measure => simp [intOf]; omega
        · have hk3i : ¬ (k : Int) ≤ (i : Int) + 1 + 2 := by omega
          have HMz := Lib.hid hMz
          clear hMz
          go_wp2_with fail
          refine (ckCheck_any wr (HK.out.mod (HWR.out.then HMz.out) (fun h => h)) j _ _ _ a b C 9223372036854775808 (by omega) (HJ.out.mod HMz.out (fun h => h)) ha hb).mono ?_
          rintro r w20 ⟨rfl, hN20⟩
          rw [Ck.tell_out _ _ _ _ _ _ _ (by omega)]
          have HM20 := Lib.hid (HMz.out.then hN20)
          clear hN20 HMz
          go_wp2_with fail
          refine (ckCheck_any w20 (HK.out.mod (HWR.out.then HM20.out) (fun h => h)) j _ _ _ a b C 0 (by omega) (HJ.out.mod HM20.out (fun h => h)) ha hb).mono ?_
          rintro r w21 ⟨rfl, hN21⟩
          rw [Ck.tell_out _ _ _ _ _ _ _ (by omega)]
          have hM21 := HM20.out.then hN21
          have hJ21 := HJ.out.mod hM21 (fun h => h)
          have hV21 := HV.out.modO hM21 (fun _ _ h => h)
          have hW21 := HWR.out.then hM21
          have hMj := HMi.out.trans (hM21.mono (T := none_) (S := only j) (fun _ _ h => h.elim)) (fun _ _ h => h)
          have qi : w21.cell? ⟨g, i, none⟩ = some (.string (Ck.secs seed cs i)) := hM21.cellS (HCell.out i (Nat.le_refl _)) (fun h => h)
          clear hN21 HM20
          by_cases hin : i < n'
          · have hini : (i : Int) < (n' : Int) := by omega
            obtain ⟨lb, lo, rfl, hlb, hcc⟩ := HAT3.out.2 (by omega)
            obtain ⟨x, hx⟩ : ∃ x, cs[i]? = some x := ⟨_, List.getElem?_eq_getElem (by rw [HAT3.out.1]; exact hin)⟩
            have hxf : Fits x := HCF.out x (List.mem_of_getElem? hx)
            have qx : w21.cell? ⟨lb, lo + i, none⟩ = some (.string x) := hMj.cellS (hcc i x hx) (fun h => by have : lb = j := h; omega)
            have qd := qx
            have hgx : Ck.tn si x = Ck.secs seed cs (i + 1) := by rw [Ck.secs, List.getD_eq_getElem?_getD, hx, hsi]; rfl
            have hcc2 := hcc
            have htn := fun (q : World) (hM : Mod none_ w21 q) => ckTurn_any q (HK.out.mod (hW21.then hM) (fun h => h)) j (rounds_lt HK.out hjw) ((i : Int) + 1) (by omega) _ _ x (hJ21.mod hM (fun h => h)) hxf
            rw [hgx] at htn
            have hm1 := Mod.refl (only j) w21
            have HTN := Lib.hid htn
            clear htn hcc
            go_upto_region 35 with fail
            go_region_held3 (fun w' => w'.cell? ⟨lb, lo + i, none⟩ = some (.string x) ∧ Mod (only j) w21 w')
              (first | ((refine ⟨Mod.cellS (S := only j) (w := w21) ?_ qd (fun h => by have : lb = j := h; omega), ?_⟩ <;> (repeat (first | assumption | exact Mod.refl _ _ | refine Mod.drew ?_))); done))
              (first | (go_at_call 20; refine (HTN.out _ (by repeat (first | assumption | exact Mod.refl _ _ | refine Mod.drew ?_))).mono ?_; rintro r w22 ⟨rfl, hJ22, hN22⟩; have hM22 : Mod (only j) w21 w22 := (Mod.refl (only j) w21).drew.trans hN22 (fun _ _ h => h)))
            obtain ⟨u, hu⟩ : ∃ u, Ck.secs seed cs (i + 1) = u := ⟨_, rfl⟩
            have hV22 := hV21.modO hM22 (fun bb hb e => by have : bb = j := e; have := hV21.own_ge hb; omega)
            have hMj22 := hMj.trans hM22 (fun _ _ h => h)
            have hW22 := hW21.own hM22 hjw
            have q22 : w22.cell? ⟨g, i, none⟩ = some (.string si) := by
              rw [hsi] at qi
              exact hM22.cellS qi (fun h => hgj (show g = j from h).symm)
            have hB22 : w3.heap.size ≤ w22.heap.size := hMj22.size
            have x22 : w22.drew.cell? ⟨lb, lo + i, none⟩ = some (.string x) := hM22.cellS qd (fun h => by have : lb = j := h; omega)
            have x23 : (w22.drew.alloc (.cells #[.string x] 9)).cell? ⟨lb, lo + i, none⟩ = some (.string x) := ((Mod.refl none_ w22.drew).alloc _).cellS x22 (fun h => h)
            have q23 : (w22.drew.alloc (.cells #[.string x] 9)).cell? ⟨g, i, none⟩ = some (.string si) := ((Mod.refl none_ w22.drew).alloc _).cellS q22 (fun h => h)
            have q24 : (w22.alloc (.cells #[.string x] 9)).cell? ⟨g, i, none⟩ = some (.string si) := ((Mod.refl none_ w22).alloc _).cellS q22 (fun h => h)
            have hder := derive_s (w22.drew.alloc (.cells #[.string x] 9)) (HK.out.mod (hW22.drew.alloc _) (fun h => h)) si Ck.turnB (some ⟨w22.drew.heap.size, 0, none⟩) 1 1 [x] ((one_str w22.drew x 9).mono (by simp)) (fits32 (by rw [← hsi]; exact HS32.out i)) fits_turn (by
              intro p hp
              obtain rfl : p = x := by simpa using hp
              exact hxf) (by simp)
            rw [show Ck.dv si Ck.turnB [x] = u from hgx.trans hu] at hder
            have hJ22' := hJ22
            have HDER := Lib.hid hder; have HJ22 := Lib.hid hJ22'; have HV22 := Lib.hid hV22; have HMj22 := Lib.hid hMj22
            clear hder hJ22 hJ22' hV22 hMj22 hN22 hM22 HTN qx qi hJ21 hV21
            go_upto_region 36 with fail
            refine wp_region_noPanic ?_
            refine wp_region_held_drew (S := fun w' => w'.cell? ⟨lb, lo + i, none⟩ = some (.string x)) (by kernel_rfl) x22 (fun hHeld => ?_)
            clear hHeld
            refine wpAnyH_take (i := 0) (v := ?_) (by simp only [List.getElem?_toArray, List.getElem?_cons_zero]; rfl) (by kernel_rfl) (by kernel_rfl) (by kernel_rfl) (fun _ _ _ h => h) (Or.inl ⟨by rfl, ?_⟩) x22 ?_
            rotate_left
            · (intro wq hSw; go_simp; all_goals with_reducible rfl)
            try simp only [Act.put, List.setIfInBounds_toArray, List.set_cons_zero, List.set_cons_succ]
            refine wpAnyH_take (i := 1) (v := ?_) (by simp only [List.getElem?_toArray, List.getElem?_cons_zero, List.getElem?_cons_succ]; rfl) (by kernel_rfl) (by kernel_rfl) (by kernel_rfl) (fun _ _ _ h => h) (Or.inl ⟨by rfl, ?_⟩) x22 ?_
            rotate_left
            · (intro wq hSw; go_simp; all_goals with_reducible rfl)
            try simp only [Act.put, List.setIfInBounds_toArray, List.set_cons_zero, List.set_cons_succ]
            refine wpAnyH_take (i := 2) (v := ?_) (by simp only [List.getElem?_toArray, List.getElem?_cons_zero, List.getElem?_cons_succ]; rfl) (by kernel_rfl) (by kernel_rfl) (by kernel_rfl) (fun _ _ _ h => h) (Or.inl ⟨by rfl, ?_⟩) x22 ?_
            rotate_left
            · (intro wq hSw; go_simp; all_goals with_reducible rfl)
            try simp only [Act.put, List.setIfInBounds_toArray, List.set_cons_zero, List.set_cons_succ]
            refine wpAnyH_take (i := 3) (v := ?_) (by simp only [List.getElem?_toArray, List.getElem?_cons_zero, List.getElem?_cons_succ]; rfl) (by kernel_rfl) (by kernel_rfl) (by kernel_rfl) (fun _ _ _ h => h) (Or.inl ⟨by rfl, ?_⟩) x22 ?_
            rotate_left
            · (intro wq hSw; go_simp; all_goals with_reducible rfl)
            try simp only [Act.put, List.setIfInBounds_toArray, List.set_cons_zero, List.set_cons_succ]
            refine wpAnyH_take (i := 5) (v := ?_) (by simp only [List.getElem?_toArray, List.getElem?_cons_zero, List.getElem?_cons_succ]; rfl) (by kernel_rfl) (by kernel_rfl) (by kernel_rfl) (fun _ _ _ h => h) (Or.inl ⟨by rfl, ?_⟩) x22 ?_
            rotate_left
            · (intro wq hSw; go_simp; all_goals with_reducible rfl)
            try simp only [Act.put, List.setIfInBounds_toArray, List.set_cons_zero, List.set_cons_succ]
            refine wpAnyH_take (i := 6) (v := ?_) (by simp only [List.getElem?_toArray, List.getElem?_cons_zero, List.getElem?_cons_succ]; rfl) (by kernel_rfl) (by kernel_rfl) (by kernel_rfl) (fun _ _ _ h => h) (Or.inl ⟨by rfl, ?_⟩) x22 ?_
            rotate_left
            · (intro wq hSw; go_simp; all_goals with_reducible rfl)
            try simp only [Act.put, List.setIfInBounds_toArray, List.set_cons_zero, List.set_cons_succ]
            refine wpAnyH_take (i := 7) (v := ?_) (by simp only [List.getElem?_toArray, List.getElem?_cons_zero, List.getElem?_cons_succ]; rfl) (by kernel_rfl) (by kernel_rfl) (by kernel_rfl) (fun _ _ _ h => h) (Or.inl ⟨by rfl, ?_⟩) x22 ?_
            rotate_left
            · (intro wq hSw; go_simp; all_goals with_reducible rfl)
            try simp only [Act.put, List.setIfInBounds_toArray, List.set_cons_zero, List.set_cons_succ]
            refine wpAnyH_take (i := 8) (v := ?_) (by simp only [List.getElem?_toArray, List.getElem?_cons_zero, List.getElem?_cons_succ]; rfl) (by kernel_rfl) (by kernel_rfl) (by kernel_rfl) (fun _ _ _ h => h) (Or.inl ⟨by rfl, ?_⟩) x22 ?_
            rotate_left
            · (intro wq hSw; go_simp; all_goals with_reducible rfl)
            try simp only [Act.put, List.setIfInBounds_toArray, List.set_cons_zero, List.set_cons_succ]
            refine wpAnyH_ready (rs := [4, 9]) (by kernel_rfl) (by simp) ?_
            refine AllReadyH.cons (by simp only [List.getElem?_toArray, List.getElem?_cons_zero, List.getElem?_cons_succ]; rfl) (fun K hK => ?_) (AllReadyH.cons (by simp only [List.getElem?_toArray, List.getElem?_cons_zero, List.getElem?_cons_succ]; rfl) (fun K hK => ?_) AllReadyH.nil)
            · go_simp
              refine hK.out _ _ x22 (fun _ => ?_)
              clear hK K
              try simp only [Act.put, List.setIfInBounds_toArray, List.set_cons_zero, List.set_cons_succ]
              refine wpAnyH_ready (rs := [9]) (by kernel_rfl) (by simp) ?_
              refine AllReadyH.cons (by simp only [List.getElem?_toArray, List.getElem?_cons_zero, List.getElem?_cons_succ]; rfl) (fun K1 hK1 => ?_) AllReadyH.nil
              go_simp
              refine hK1.out _ _ x23 (fun _ => ?_)
              clear hK1 K1
              try simp only [Act.put, List.setIfInBounds_toArray, List.set_cons_zero, List.set_cons_succ]
              refine wpAnyH_ready (rs := [10]) (by kernel_rfl) (by simp) ?_
              refine AllReadyH.cons (by simp only [List.getElem?_toArray, List.getElem?_cons_zero, List.getElem?_cons_succ]; rfl) (fun K2 hK2 => ?_) AllReadyH.nil
              go_simp
              go_at_call 17
              refine HDER.out.mono ?_
              rintro r w24 ⟨rfl, hN24⟩
              have x24 : w24.cell? ⟨lb, lo + i, none⟩ = some (.string x) := hN24.cellS x23 (fun h => h)
              go_wp2_with fail
              refine hK2.out _ _ x24 (fun _ => ?_)
              clear hK2 K2
              try simp only [Act.put, List.setIfInBounds_toArray, List.set_cons_zero, List.set_cons_succ]
              refine wpAnyH_ready (rs := [11]) (by kernel_rfl) (by simp) ?_
              refine AllReadyH.cons (by simp only [List.getElem?_toArray, List.getElem?_cons_zero, List.getElem?_cons_succ]; rfl) (fun K3 hK3 => ?_) AllReadyH.nil
              go_simp
              have x25 : (w24.alloc (.cells #[.string u] 9)).cell? ⟨lb, lo + i, none⟩ = some (.string x) := ((Mod.refl none_ w24).alloc _).cellS x24 (fun h => h)
              refine hK3.out _ _ x25 (fun _ => ?_)
              clear hK3 K3
              try simp only [Act.put, List.setIfInBounds_toArray, List.set_cons_zero, List.set_cons_succ]
              have hM24 : Mod none_ w22 (w24.alloc (.cells #[.string u] 9)) := ((((Mod.refl none_ w22).drew).alloc _).then hN24).alloc _
              have hV24 := HV22.out.modO hM24 (fun _ _ h => h)
              refine wpAnyH_ready (rs := [12]) (by kernel_rfl) (by simp) ?_
              refine AllReadyH.cons (by simp only [List.getElem?_toArray, List.getElem?_cons_zero, List.getElem?_cons_succ]; rfl) (fun K4 hK4 => ?_) AllReadyH.nil
              rw [if_pos (by rfl)]
              refine wp_append_str (.tmp 174) (.tmp 185) rfl w3.heap.size _ _ rfl hV24 w24.heap.size u rfl (by rw [World.cell?_alloc_new]; rfl) (by rw [hleni]; omega) (Nat.le_trans hB22 hM24.size) ?_
              intro v26 w26 hv26 hg26
              have hM26 : Mod (only j) w3 w26 := (HMj22.out.trans (hM24.mono (T := none_) (S := only j) (fun _ _ h => h.elim)) (fun _ _ h => h)).trans (Mod.grownBy (S := fun bb => bb = g) hg26 (fun bb _ e => (Option.some.inj e).symm)) (fun bb hb e => by have : bb = g := e; omega)
              have x26 : w26.cell? ⟨lb, lo + i, none⟩ = some (.string x) := hM26.cellS (hcc2 i x hx) (fun h => by have : lb = j := h; omega)
              have hJ26 := (HJ22.out.mod hM24 (fun h => h)).mod (Mod.grownBy (S := fun bb => bb = g) hg26 (fun bb _ e => (Option.some.inj e).symm)) hgj
              refine hK4.out _ _ x26 (fun _ => ?_)
              clear hK4 K4
              try simp only [Act.put, List.setIfInBounds_toArray, List.set_cons_zero, List.set_cons_succ]
              refine wpAnyH_take (i := 13) (v := ?_) (by simp only [List.getElem?_toArray, List.getElem?_cons_zero, List.getElem?_cons_succ]; rfl) (by kernel_rfl) (by kernel_rfl) (by kernel_rfl) (fun _ _ _ h => h) (Or.inl ⟨by rfl, ?_⟩) x26 ?_
              rotate_left
              · (intro wq hSw; go_simp; all_goals with_reducible rfl)
              try simp only [Act.put, List.setIfInBounds_toArray, List.set_cons_zero, List.set_cons_succ]
              refine wpAnyH_done (by kernel_rfl) ?_ _
              refine NoPanic.normal ?_
              have hv27 : OwnS w26 w3.heap.size v26 ((List.range (i + 1 + 1)).map (Ck.secs seed cs)) := by
                rw [List.range_succ, List.map_append, List.map_cons, List.map_nil, hu]; exact hv26
              have hrel9 : (((i + 1 : Nat) : Int) + 1) = (i : Int) + 1 + 1 := by omega
              have hw1 : Ck.wasOf seed cs (i + 1) = si := by rw [Ck.wasOf, hsi]
              go_wp2_with fail
              go_roundw
              case rel => exact ⟨i + 1, by omega, by go_num, fun _ => hv27, fun _ => by rw [hrel9, hw1]; exact hJ26, hM26⟩
              case measure => simp [intOf]; omega
            · go_simp
              refine hK.out _ _ x23 (fun _ => ?_)
              clear hK K
              try simp only [Act.put, List.setIfInBounds_toArray, List.set_cons_zero, List.set_cons_succ]
              refine wpAnyH_ready (rs := [4]) (by kernel_rfl) (by simp) ?_
              refine AllReadyH.cons (by simp only [List.getElem?_toArray, List.getElem?_cons_zero, List.getElem?_cons_succ]; rfl) (fun K1 hK1 => ?_) AllReadyH.nil
              go_simp
              refine hK1.out _ _ x23 (fun _ => ?_)
              clear hK1 K1
              try simp only [Act.put, List.setIfInBounds_toArray, List.set_cons_zero, List.set_cons_succ]
              refine wpAnyH_ready (rs := [10]) (by kernel_rfl) (by simp) ?_
              refine AllReadyH.cons (by simp only [List.getElem?_toArray, List.getElem?_cons_zero, List.getElem?_cons_succ]; rfl) (fun K2 hK2 => ?_) AllReadyH.nil
              go_simp
              go_at_call 17
              refine HDER.out.mono ?_
              rintro r w24 ⟨rfl, hN24⟩
              have x24 : w24.cell? ⟨lb, lo + i, none⟩ = some (.string x) := hN24.cellS x23 (fun h => h)
              go_wp2_with fail
              refine hK2.out _ _ x24 (fun _ => ?_)
              clear hK2 K2
              try simp only [Act.put, List.setIfInBounds_toArray, List.set_cons_zero, List.set_cons_succ]
              refine wpAnyH_ready (rs := [11]) (by kernel_rfl) (by simp) ?_
              refine AllReadyH.cons (by simp only [List.getElem?_toArray, List.getElem?_cons_zero, List.getElem?_cons_succ]; rfl) (fun K3 hK3 => ?_) AllReadyH.nil
              go_simp
              have x25 : (w24.alloc (.cells #[.string u] 9)).cell? ⟨lb, lo + i, none⟩ = some (.string x) := ((Mod.refl none_ w24).alloc _).cellS x24 (fun h => h)
              refine hK3.out _ _ x25 (fun _ => ?_)
              clear hK3 K3
              try simp only [Act.put, List.setIfInBounds_toArray, List.set_cons_zero, List.set_cons_succ]
              have hM24 : Mod none_ w22 (w24.alloc (.cells #[.string u] 9)) := ((((Mod.refl none_ w22).drew).alloc _).then hN24).alloc _
              have hV24 := HV22.out.modO hM24 (fun _ _ h => h)
              refine wpAnyH_ready (rs := [12]) (by kernel_rfl) (by simp) ?_
              refine AllReadyH.cons (by simp only [List.getElem?_toArray, List.getElem?_cons_zero, List.getElem?_cons_succ]; rfl) (fun K4 hK4 => ?_) AllReadyH.nil
              rw [if_pos (by rfl)]
              refine wp_append_str (.tmp 174) (.tmp 185) rfl w3.heap.size _ _ rfl hV24 w24.heap.size u rfl (by rw [World.cell?_alloc_new]; rfl) (by rw [hleni]; omega) (Nat.le_trans hB22 hM24.size) ?_
              intro v26 w26 hv26 hg26
              have hM26 : Mod (only j) w3 w26 := (HMj22.out.trans (hM24.mono (T := none_) (S := only j) (fun _ _ h => h.elim)) (fun _ _ h => h)).trans (Mod.grownBy (S := fun bb => bb = g) hg26 (fun bb _ e => (Option.some.inj e).symm)) (fun bb hb e => by have : bb = g := e; omega)
              have x26 : w26.cell? ⟨lb, lo + i, none⟩ = some (.string x) := hM26.cellS (hcc2 i x hx) (fun h => by have : lb = j := h; omega)
              have hJ26 := (HJ22.out.mod hM24 (fun h => h)).mod (Mod.grownBy (S := fun bb => bb = g) hg26 (fun bb _ e => (Option.some.inj e).symm)) hgj
              refine hK4.out _ _ x26 (fun _ => ?_)
              clear hK4 K4
              try simp only [Act.put, List.setIfInBounds_toArray, List.set_cons_zero, List.set_cons_succ]
              refine wpAnyH_take (i := 13) (v := ?_) (by simp only [List.getElem?_toArray, List.getElem?_cons_zero, List.getElem?_cons_succ]; rfl) (by kernel_rfl) (by kernel_rfl) (by kernel_rfl) (fun _ _ _ h => h) (Or.inl ⟨by rfl, ?_⟩) x26 ?_
              rotate_left
              · (intro wq hSw; go_simp; all_goals with_reducible rfl)
              try simp only [Act.put, List.setIfInBounds_toArray, List.set_cons_zero, List.set_cons_succ]
              refine wpAnyH_done (by kernel_rfl) ?_ _
              refine NoPanic.normal ?_
              have hv27 : OwnS w26 w3.heap.size v26 ((List.range (i + 1 + 1)).map (Ck.secs seed cs)) := by
                rw [List.range_succ, List.map_append, List.map_cons, List.map_nil, hu]; exact hv26
              have hrel9 : (((i + 1 : Nat) : Int) + 1) = (i : Int) + 1 + 1 := by omega
              have hw1 : Ck.wasOf seed cs (i + 1) = si := by rw [Ck.wasOf, hsi]
              go_wp2_with fail
              go_roundw
              case rel => exact ⟨i + 1, by omega, by go_num, fun _ => hv27, fun _ => by rw [hrel9, hw1]; exact hJ26, hM26⟩
              case measure => simp [intOf]; omega
          · have hini : ¬ (i : Int) < (n' : Int) := by omega
            go_wp2_with fail
            go_roundw
            case rel => exact ⟨i + 1, by omega, by go_num, fun h => absurd h (by omega), fun h => absurd h (by omega), hMj⟩
            case measure => simp [intOf]; omega
    · have hlti : ¬ (i : Int) ≤ (n' : Int) := by omega
      have hfin := HM3.out.own hMi hjw
      go_wp2_with fail
      go_ret
      exact ⟨rfl, hfin⟩
end Go.Proofs.YtlndgnlkfhlekaaDoor
