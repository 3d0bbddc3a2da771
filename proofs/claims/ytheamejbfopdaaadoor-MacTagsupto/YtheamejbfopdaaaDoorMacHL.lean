/- MacHmac: the law's walk. -/
import Derived.Test.YtheamejbfopdaaaDoorMacSL
import Derived.Deep.AppendLies
namespace Go.Proofs.YtheamejbfopdaaaDoor
open Go.RowKit

namespace Mac
theorem key_key (k : List Int) : key (key k) = key k := by
  have h := length_key k
  conv => lhs; rw [key, if_neg (by omega)]
theorem tag_key (k t : List Int) : tag (key k) t = tag k t := by rw [tag_eq, tag_eq, key_key]
theorem g_zeros (k : List Int) (n j : Nat) : Sha.g (k ++ Sha.zeros n) j = Sha.g k j := by
  simp only [Sha.g]
  by_cases h : j < k.length
  · rw [List.getElem?_append_left h]
  · rw [List.getElem?_append_right (by omega), List.getElem?_eq_none (l := k) (by omega)]
    simp only [Sha.zeros, List.getElem?_replicate]
    split <;> rfl
theorem tag_zeros (k t : List Int) (n : Nat) (h : k.length + n ≤ 64) : tag (k ++ Sha.zeros n) t = tag k t := by
  have h1 : key k = k := by rw [key, if_neg (by omega)]
  have h2 : key (k ++ Sha.zeros n) = k ++ Sha.zeros n := by rw [key, if_neg (by simp [Sha.zeros]; omega)]
  rw [tag_eq, tag_eq, h1, h2]
  simp only [pad_eq, row, g_zeros]
theorem row_all_get (k : List Int) (x : Int) (j : Nat) (h : j < 64) : (row k x 64)[j]? = some (x8 (Sha.g k j) x) := by rw [row_get k x 64 j h, if_pos h]
end Mac
/-- bytes appended, at least one: which block the new slice owns -/
theorem wpList_append_bytesL {ops : Array Oper} {rest : List Oper} {o : Oper} {a : Act} {w : World} {Q : Exit → Act → World → Prop} (hgd : o.guard = none) (s x : Operand)
    (ho : o.op = .call { callee := .builtin .append, args := #[s, x], argTypes := #[28, 28] }) (base : Nat)
    (v : Value) (xs : List Int) (hs : a.eval s = v) (hown : OwnB w base v xs) (u : Value) (p : List Int) (hx : a.eval x = u) (B : Nat) (hu : BytesAt w B u p) (hp : 0 < p.length)
    (hlen : xs.length + p.length ≤ 140737488355328) (hbase : base ≤ w.heap.size)
    (h : ∀ v' w', OwnB w' base v' (xs ++ p) → w.grownBy w' v.ownBlock → (∀ b, v'.ownBlock = some b → v.ownBlock = some b ∨ b = w.heap.size) → wpList Tryd.prog ops Q rest (a.put o.dst v') w') : wpList Tryd.prog ops Q (o :: rest) a w := by
  obtain ⟨i, hi, hz0, hz1, hz2⟩ := info_parts info_b8
  obtain ⟨h1, h2, ad, c, rfl, h4, h0, h5⟩ := hu
  have e : Sha.bcells (xs ++ p) = Sha.bcells xs ++ Sha.bcells p := by simp [Sha.bcells]
  have el : (xs ++ p).length = xs.length + p.length := by simp
  obtain ⟨pb, po, rfl, h7, h8⟩ := h5 hp
  refine wpList_append_lies w hgd s x 28 ho base 5 i (.int .u8 0) 1 1 under_b28 hi hz0 hz1 hz2 rfl (by decide) v xs.length (Sha.bcells xs) hs hown ⟨pb, po, none⟩ p.length c (Sha.bcells p) hx (by simp [Sha.bcells]) ?_ (Sha.one_b p) hp (by unfold maxLen; omega) (by omega) hbase w.heap.size rfl ?_
  · intro j y hj
    have hj' : j < p.length := by have := (List.getElem?_eq_some_iff.1 hj).1; simpa [Sha.bcells] using this
    rw [Addr.add_mid, h8 j hj', ← hj, Sha.bcells, List.getElem?_map, Sha.g, List.getElem?_eq_getElem hj']; rfl
  · intro g cap w' ho' hg hgg _
    refine h _ w' (by unfold OwnB; rw [el, e]; exact ho') hg (fun b hb => ?_)
    obtain rfl : g = b := Option.some.inj hb
    exact hgg

theorem sum2_h (w0 w : World) (hK : Rounds w0) (s r : ByteArray) (hs : s.size ≤ 140737488355328) (hr : strOf (Sha.sha (num s)) = r) (hM : Mod none_ w0 w) :
    Calls Tryd.prog 26 #[.string s] w fun e w' => e = .returned (.string r) ∧ Mod none_ w0 w' ∧ Mod none_ w w' := by
  subst hr
  refine (sum2_any w (hK.mod hM (fun h => h)) s hs).mono ?_
  rintro e w' ⟨rfl, h⟩
  exact ⟨rfl, hM.then h, h⟩
theorem tag_b (w : World) (hK : Rounds w) (k t : ByteArray) (r : ByteArray) (hr : strOf (Mac.tag (num k) (num t)) = r) (hk : k.size ≤ 140737488355328) (ht : t.size ≤ 140737488355328) :
    Calls Tryd.prog 27 #[.string k, .string t] w fun e w' => e = .returned (.string r) ∧ Mod none_ w w' := by
  subst hr; exact tag_any w hK k t hk ht
/-- two rows of the call's own do not share a block -/
def Apart (v u : Value) : Prop := ∀ g, v.ownBlock = some g → u.ownBlock ≠ some g

set_option maxHeartbeats 2000000 in
set_option maxRecDepth 100000 in
theorem macHmac_any (w : World) (hK : Rounds w) (k t : ByteArray) (z : Int) (hk : k.size ≤ 140737488351232) (ht : t.size ≤ 140737488351232) :
    Calls Tryd.prog 7 #[.string k, .string t, .int .i64 z] w fun e w' => e = .returned (.bool true) ∧ Mod none_ w w' := by
  go_enter Tryd.func7, Tryd.ntmps7
  go_wp2_with fail
  refine (alive2_any w hK).mono ?_
  rintro e w1 ⟨rfl, hM1⟩
  go_upto_if 19 with fail
  go_cut [7] (fun s wx => ∃ kb : ByteArray, s = .string kb ∧ num kb = Mac.key (num k) ∧ (k.size ≤ 64 → kb = k) ∧ Mod none_ w wx)
  case first =>
    have hlen := length_num k
    by_cases h : 64 < k.size
    · have hi : (64 : Int) < (k.size : Int) := by omega
      have hkey : Mac.key (num k) = Sha.sha (num k) := by rw [Mac.key, if_pos (by omega)]
      have HKEY := Lib.hid hkey
      clear hkey hlen
      go_wp2_with fail
      refine (sum2_any w1 (hK.mod hM1 (fun h => h)) k (by omega)).mono ?_
      rintro e w2 ⟨rfl, hM2⟩
      have hM2' := hM1.then hM2
      clear hM1 hM2
      go_wp2
      go_meet
      case rel => exact ⟨_, rfl, by rw [num_strOf _ (Sha.bytes_sha _), HKEY.out], fun h' => by omega, hM2'⟩
    · have hi : ¬ (64 : Int) < (k.size : Int) := by omega
      have hkey : Mac.key (num k) = num k := by rw [Mac.key, if_neg (by omega)]
      have HKEY := Lib.hid hkey
      clear hkey hlen
      go_wp2
      go_meet
      case rel => exact ⟨k, rfl, HKEY.out.symm, fun _ => rfl, hM1⟩
  case rest =>
    obtain ⟨kb, rfl, hkb, hkk, hM⟩ := hcut
    have hkl : kb.size ≤ 64 := by rw [← length_num, hkb]; exact Mac.length_key _
    have htag := Mac.tag_eq (num k) (num t)
    rw [Mac.pad_eq, Mac.pad_eq, ← hkb] at htag
    have hby := bytes_num kb
    have hg : ∀ i, i < kb.size → ∀ h2 : i < kb.size, Sha.g (num kb) i = ((kb[i]'h2).toNat : Int) := fun i h h2 => by
      rw [Sha.g, num, nums, List.getElem?_map]
      have : kb.data.toList[i]? = some (kb[i]'h2) := by rw [Array.getElem?_toList]; exact Array.getElem?_eq_getElem _
      rw [this]; rfl
    have HT := Lib.hid htag; have HKB := Lib.hid hkb; have HKK := Lib.hid hkk; have HG := Lib.hid hg
    clear htag hkb hM1 hkk hg
    go_wp2_with fail
    go_loopw [8, 9, 10] (fun vi vo i wr => ∃ j : Nat, j ≤ 64 ∧ i = .int .i64 j ∧ OwnB wr w.heap.size vi ((Mac.row (num kb) 54 64).take j) ∧ OwnB wr w.heap.size vo ((Mac.row (num kb) 92 64).take j) ∧ Apart vi vo ∧ Mod none_ w wr) (fun _ _ i _ => 64 - (intOf i).toNat)
    case atStart => exact ⟨0, by omega, rfl, ownB_nil _ _, ownB_nil _ _, (fun g h => by cases h), hM⟩
    case round =>
      clear hM
      obtain ⟨j, hj, rfl, hI, hO, hA, hM⟩ := hrel
      by_cases hlt : j < 64
      · go_upto_if 29 with fail
        go_cut [11] (fun s wx => s = .int .u8 (Sha.g (num kb) j) ∧ wx = wr)
        case first =>
          by_cases h2 : j < kb.size
          · have hi : (j : Int) < (kb.size : Int) := by omega
            have he := HG.out j h2 h2
            have HE := Lib.hid he
            clear he
            go_wp2
            go_meet
            case rel => exact ⟨by rw [HE.out], rfl⟩
          · have hi : ¬ (j : Int) < (kb.size : Int) := by omega
            have he : Sha.g (num kb) j = 0 := by rw [Sha.g, List.getElem?_eq_none (by rw [length_num]; omega)]; rfl
            have HE := Lib.hid he
            clear he
            go_wp2
            go_meet
            case rel => exact ⟨by rw [HE.out], rfl⟩
        case rest =>
          obtain ⟨rfl, rfl⟩ := hcut
          have hrI := Mac.row_all_get (num kb) 54 j hlt
          have hrO := Mac.row_all_get (num kb) 92 j hlt
          have hxI := Mac.x8_bd (Sha.g (num kb) j) 54
          have hxO := Mac.x8_bd (Sha.g (num kb) j) 92
          have hlI : ((Mac.row (num kb) 54 64).take j).length ≤ 64 := by rw [List.length_take]; omega
          have hlO : ((Mac.row (num kb) 92 64).take j).length ≤ 64 := by rw [List.length_take]; omega
          have hws := hM.size
          rw [← Mac.x8_eq] at hrI hrO hxI hxO
          have HRI := Lib.hid hrI; have HRO := Lib.hid hrO; have HXI := Lib.hid hxI; have HXO := Lib.hid hxO; have HLI := Lib.hid hlI; have HLO := Lib.hid hlO
          have HI := Lib.hid hI; have HO := Lib.hid hO; have HA := Lib.hid hA
          clear hrI hrO hxI hxO hlI hlO hI hO hA
          obtain ⟨wo, rfl⟩ : ∃ wo : World, wo = wc := ⟨_, rfl⟩
          go_upto_region 14 with (refine wpList_append_bytesL rfl _ (.tmp 36) rfl w.heap.size u8 ((Mac.row (num kb) 54 64).take j) rfl (HI.out.modO ((Mod.refl none_ _).alloc _) (fun _ _ h => h)) _ [bits BinOp.xor IntKind.u8 (Sha.g (num kb) j) 54] rfl (wo.heap.size + 1) (bytes_one1 _ _ _ HXI.out) (by simp) (by have := HLI.out; simp; omega) (by simp; omega) ?_; intro x w9 hx9 hg9 hb9)
          have hMa : Mod (fun b => u8.ownBlock = some b) wo w9 := ((Mod.refl none_ wo).alloc _ |>.mono (fun _ _ h => h.elim)).trans (Mod.grownBy hg9 (fun j _ e => e)) (fun _ _ h => h)
          have hO9 := HO.out.modO hMa (fun b hb e => HA.out b e hb)
          have hA9 : Apart x u9 := fun b hb e => by
            rcases hb9 b hb with h | h
            · exact HA.out b h e
            · have := HO.out.own_lt b e
              rw [h] at this
              simp at this
              omega
          have hM9 : Mod none_ w w9 := hM.trans hMa (fun b hb e => by have := HI.out.own_ge e; omega)
          have hI9 : OwnB w9 w.heap.size x ((Mac.row (num kb) 54 64).take (j + 1)) := by rw [List.take_add_one, HRI.out]; exact hx9
          have hs9 := hM9.size
          have HI9 := Lib.hid hI9; have HO9 := Lib.hid hO9; have HA9 := Lib.hid hA9
          clear hMa hO9 hA9 hg9 hb9 hx9 hI9 HI HO HA hM
          go_upto_region 9 with (refine wpList_append_bytesL rfl _ (.tmp 41) rfl w.heap.size u9 ((Mac.row (num kb) 92 64).take j) rfl (HO9.out.modO ((Mod.refl none_ _).alloc _) (fun _ _ h => h)) _ [bits BinOp.xor IntKind.u8 (Sha.g (num kb) j) 92] rfl (w9.heap.size + 1) (bytes_one1 _ _ _ HXO.out) (by simp) (by have := HLO.out; simp; omega) (by simp; omega) ?_; intro y w10 hy10 hg10 hb10)
          have hMa : Mod (fun b => u9.ownBlock = some b) w9 w10 := ((Mod.refl none_ w9).alloc _ |>.mono (fun _ _ h => h.elim)).trans (Mod.grownBy hg10 (fun j _ e => e)) (fun _ _ h => h)
          have hI10 := HI9.out.modO hMa (fun b hb e => HA9.out b hb e)
          have hA10 : Apart x y := fun b hb e => by
            rcases hb10 b e with h | h
            · exact HA9.out b hb h
            · have := HI9.out.own_lt b hb
              rw [h] at this
              simp at this
              omega
          have hM10 : Mod none_ w w10 := hM9.trans hMa (fun b hb e => by have := HO9.out.own_ge e; omega)
          have hO10 : OwnB w10 w.heap.size y ((Mac.row (num kb) 92 64).take (j + 1)) := by rw [List.take_add_one, HRO.out]; exact hy10
          clear hMa hg10 hb10 hy10 HI9 HO9 HA9 hM9
          go_wp2
          go_roundw
          case rel => exact ⟨j + 1, by omega, by go_num, hI10, hO10, hA10, hM10⟩
          case measure => simp [intOf]; omega
      · have h64 : j = 64 := by omega
        subst h64
        clear HG hlt
        rw [List.take_of_length_le (by rw [Mac.length_row]; decide)] at hI hO
        have hbI := hI.bytes (Mac.bytes_row hby _ _) (by rw [Mac.length_row]; decide)
        have hbO := hO.bytes (Mac.bytes_row hby _ _) (by rw [Mac.length_row]; decide)
        clear hI hO hA
        go_wp2_with fail
        refine (tag_any wr (hK.mod hM (fun h => h)) k t (by omega) (by omega)).mono ?_
        rintro e w5 ⟨rfl, hM5⟩
        have hM5' := hM.then hM5
        have hbI5 := hbI.mod hM5 (fun _ _ h => h)
        have hbO5 := hbO.mod hM5 (fun _ _ h => h)
        have hK5 := hK.mod hM5' (fun h => h)
        clear hM5 hM hbI hbO
        go_upto_region 16 with fail
        have hcI := fun wx hM => str_any wx _ _ _ (hbI5.mod (w' := wx) (S := none_) hM (fun _ _ h => h))
        have hcO := fun wx hM => str_any wx _ _ _ (hbO5.mod (w' := wx) (S := none_) hM (fun _ _ h => h))
        have hnI := num_strOf _ hbI5.1
        have hnO := num_strOf _ hbO5.1
        have hlI : (strOf (Mac.row (num kb) 54 64)).size = 64 := by rw [size_strOf, Mac.length_row]
        have hlO : (strOf (Mac.row (num kb) 92 64)).size = 64 := by rw [size_strOf, Mac.length_row]
        generalize strOf (Mac.row (num kb) 54 64) = inS at *
        generalize strOf (Mac.row (num kb) 92 64) = outS at *
        have hadd1 := run_cat inS t (by omega)
        have hn1 : num (inS ++ t) = Mac.row (num kb) 54 64 ++ num t := by rw [num_append, hnI]
        have hl1 : (inS ++ t).size = 64 + t.size := by rw [ByteArray.size_append, hlI]
        generalize inS ++ t = IT at *
        obtain ⟨S1, hS1⟩ : ∃ S1, strOf (Sha.sha (num IT)) = S1 := ⟨_, rfl⟩
        have hl2 : S1.size = 32 := by rw [← hS1, size_strOf, Sha.length_sha]
        have hn2 : num S1 = Sha.sha (Mac.row (num kb) 54 64 ++ num t) := by rw [← hS1, num_strOf _ (Sha.bytes_sha _), hn1]
        have hadd2 := run_cat outS S1 (by omega)
        have hn3 : num (outS ++ S1) = Mac.row (num kb) 92 64 ++ Sha.sha (Mac.row (num kb) 54 64 ++ num t) := by rw [num_append, hnO, hn2]
        have hl3 : (outS ++ S1).size = 96 := by rw [ByteArray.size_append, hlO, hl2]
        generalize outS ++ S1 = OS at *
        obtain ⟨TG, hTG⟩ : ∃ TG, Mac.tag (num k) (num t) = TG := ⟨_, rfl⟩
        have hS2 : strOf (Sha.sha (num OS)) = strOf TG := by rw [hn3, ← HT.out, hTG]
        rw [hTG]
        obtain ⟨TS, hTS⟩ : ∃ TS, strOf TG = TS := ⟨_, rfl⟩
        rw [hTS] at hS2 ⊢
        have HTS := Lib.hid hTS; have HS1 := Lib.hid hS1; have HS2 := Lib.hid hS2; have HTG := Lib.hid hTG
        clear hTS
        clear hbI5 hbO5 hnI hnO hn1 hn2 hn3 hS1 hS2 hTG
        have hM0 := Mod.refl none_ w5
        have hI0 := hcI w5 hM0
        have hO0 := hcO w5 hM0
        have HCI := Lib.hid hcI; have HCO := Lib.hid hcO
        clear hcI hcO
        have hsI : IT.size ≤ 140737488355328 := by omega
        have hsO : OS.size ≤ 140737488355328 := by omega
        go_cut [56] (fun s wx => s = .bool false ∧ Mod none_ w5 wx)
        case first =>
          go_region_held3 (fun w' => (convert 28 9 u8).run Tryd.prog w' = .ok (.string inS) w' ∧ (convert 28 9 u9).run Tryd.prog w' = .ok (.string outS) w' ∧ Mod none_ w5 w')
            (first | ((refine ⟨HCI.out _ ?_, HCO.out _ ?_, ?_⟩ <;> (repeat (first | assumption | refine Mod.drew ?_))); done))
            (first | (go_at_call 26; refine (sum2_h w5 _ hK5 IT S1 hsI HS1.out (by repeat (first | assumption | refine Mod.drew ?_))).mono ?_; rintro e w' ⟨rfl, hM11, hN11⟩)
                   | (go_at_call 26; refine (sum2_h w5 _ hK5 OS TS hsO HS2.out (by repeat (first | assumption | refine Mod.drew ?_))).mono ?_; rintro e w' ⟨rfl, hM11, hN11⟩))
          all_goals (go_wp2_with fail; go_meet)
          all_goals (refine ⟨rfl, ?_⟩; assumption)
        case rest =>
          obtain ⟨rfl, hM6⟩ := hcut
          have hM6' := hM5'.then hM6
          have hK6 := hK.mod hM6' (fun h => h)
          clear hM6 hM5' hK5 hadd1 hadd2 hM0 hI0 hO0 HCI HCO HS1 HS2
          by_cases h : 64 < k.size
          · have hi : (64 : Int) < (k.size : Int) := by omega
            go_wp2_with fail
            refine (tag_b wc hK6 kb t TS (by rw [HKB.out, Mac.tag_key, HTG.out, HTS.out]) (by omega) (by omega)).mono ?_
            rintro e w7 ⟨rfl, hM7⟩
            have hM7' := hM6'.then hM7
            clear hM7 hM6'
            go_wp2
            go_ret
            exact ⟨rfl, hM7'⟩
          · have hi : ¬ (64 : Int) < (k.size : Int) := by omega
            go_upto_region 21 with fail
            obtain ⟨n, hn, hne⟩ : ∃ n : Nat, n ≤ 64 - k.size ∧ wrap64 ((IntKind.u64.wrap z).tmod (65 - (k.size : Int))) = (n : Int) := by
              have h1 : IntKind.u64.wrap z = z % 18446744073709551616 := IntKind.wrap_u64 z
              have h2 : 0 ≤ z % 18446744073709551616 := Int.emod_nonneg _ (by decide)
              have h3 : (z % 18446744073709551616).tmod (65 - (k.size : Int)) = (z % 18446744073709551616) % (65 - (k.size : Int)) := Int.tmod_eq_emod_of_nonneg h2
              have h4 := Int.emod_nonneg (z % 18446744073709551616) (show (65 - (k.size : Int)) ≠ 0 by omega)
              have h5 := Int.emod_lt_of_pos (z % 18446744073709551616) (show (0 : Int) < 65 - (k.size : Int) by omega)
              refine ⟨((z % 18446744073709551616) % (65 - (k.size : Int))).toNat, by omega, ?_⟩
              rw [h1, h3]
              unfold wrap64
              omega
            rw [hne]
            have HNE := Lib.hid hne
            clear hne
            have hzb : Sha.bytes (Sha.zeros n) := Sha.bytes_zeros n
            have hzl : (Sha.zeros n).length = n := by simp [Sha.zeros]
            obtain ⟨zs, hzs⟩ : ∃ zs, strOf (Sha.zeros n) = zs := ⟨_, rfl⟩
            have hzn : num zs = Sha.zeros n := by rw [← hzs, num_strOf _ hzb]
            have hzsl : zs.size = n := by rw [← hzs, size_strOf, hzl]
            have hadd := run_cat k zs (by omega)
            have hkz : num (k ++ zs) = num k ++ Sha.zeros n := by rw [num_append, hzn]
            have hkzl : (k ++ zs).size = k.size + n := by rw [ByteArray.size_append, hzsl]
            generalize k ++ zs = kz at *
            have hres : strOf (Mac.tag (num kz) (num t)) = TS := by rw [hkz, Mac.tag_zeros _ _ _ (by rw [length_num]; omega), HTG.out, HTS.out]
            have HRES := Lib.hid hres; have HZS := Lib.hid hzs
            clear hkz hzn hres hzs
            go_wp2_with (refine wpList_make_bytes rfl (.tmp 75) (.tmp 75) rfl n rfl rfl (by omega) ?_; intro w8 hB8 hM8 hs8; have hcz := str_any w8 _ _ _ (bytes_arr hB8 hzl hzb (by omega) hB8.lt); rw [HZS.out] at hcz)
            refine (tag_b w8 (hK6.mod hM8 (fun h => h)) kz t TS HRES.out (by omega) (by omega)).mono ?_
            rintro e w7 ⟨rfl, hM7⟩
            have hM7' := (hM6'.then hM8).then hM7
            clear hM7 hM6' hM8 hcz hB8
            go_wp2
            go_ret
            exact ⟨rfl, hM7'⟩
end Go.Proofs.YtheamejbfopdaaaDoor
