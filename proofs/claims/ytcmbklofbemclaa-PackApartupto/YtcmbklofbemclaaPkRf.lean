/- The reference's Reader: Signed, Text. -/
import Derived.Test.YtcmbklofbemclaaPkRe
namespace Go.Proofs.Ytcmbklofbemclaa
open Go.RowKit

theorem Rd.signed_ask (t : List Int) (e k : Int) : Rd.signed t e k = (if (Rd.ask t e k (!decide (1 ≤ k ∧ k ≤ 8))).1 = [] then 0 else Rd.sx (Rd.val (Rd.ask t e k (!decide (1 ≤ k ∧ k ≤ 8))).1) (Rd.ask t e k (!decide (1 ≤ k ∧ k ≤ 8))).1.length, (Rd.ask t e k (!decide (1 ≤ k ∧ k ≤ 8))).2) := by
  rw [Rd.signed, Rd.number_ask]
  by_cases hk : 1 ≤ k ∧ k ≤ 8
  · rw [decide_eq_true hk]
    simp only [Rd.ask, Bool.not_true, Bool.false_eq_true, if_false]
    rw [Rd.take]
    by_cases he : e = 0
    · rw [if_pos he]
      by_cases hl : k.toNat ≤ t.length
      · rw [if_pos hl]
        have hlen : (t.take k.toNat).length = k.toNat := by rw [List.length_take]; omega
        have hne : ¬ t.take k.toNat = [] := fun h => by rw [h] at hlen; simp at hlen; omega
        simp only [if_neg hne, hlen]
        rfl
      · rw [if_neg hl]; rfl
    · rw [if_neg he]
      simp only [if_neg he]
      rfl
  · rw [decide_eq_false hk]
    simp only [Rd.ask, Bool.not_false, if_true]
    by_cases he : e = 0
    · rw [if_pos he]; rfl
    · rw [if_neg he]; simp only [if_neg he]

set_option maxHeartbeats 2000000 in
theorem q_signed (w : World) (R : Nat) (t : List Int) (e : Int) (k : Int) (hk2 : k ≤ 9223372036854775807) (h : QdAt w R t e) (v : Int) (hv : (Rd.signed t e k).1 = v) :
    Calls Try.prog 43 #[.pointer (some ⟨R, 0, none⟩), .int .i64 k] w fun en w' => en = .returned (.int .i64 v) ∧ QdTo w w' R (Rd.signed t e k).2 := by
  have hna := Rd.signed_ask t e k
  have hby := Rd.take_byt t e k.toNat h.byt
  have hle := Rd.take_len t e k.toNat
  obtain ⟨odd, hodd⟩ : ∃ odd, (!decide (1 ≤ k ∧ k ≤ 8)) = odd := ⟨_, rfl⟩
  rw [hodd] at hna
  obtain ⟨l, hl⟩ : ∃ l, (Rd.ask t e k odd).1 = l := ⟨_, rfl⟩
  have hlb : Sha.bytes l := by
    rw [← hl, Rd.ask]; split
    · exact fun x hx => by simp at hx
    · exact hby
  have hll : l.length ≤ 8 := by
    rw [← hl, Rd.ask]; split
    · simp
    · rename_i ho
      have : 1 ≤ k ∧ k ≤ 8 := by
        by_cases hc : 1 ≤ k ∧ k ≤ 8
        · exact hc
        · rw [decide_eq_false hc] at hodd; exact absurd hodd.symm ho
      omega
  have HB := Lib.hid (q_bytes w R t e k odd (fun h => by subst h; simp at hodd; omega) hk2 h (strOf l) (by rw [hl]))
  rw [hna, hl] at hv
  simp only at hv
  have HNA := Lib.hid hna
  clear hna hby hle hl h
  have hcase : (k < 1 ∧ odd = true) ∨ (¬ k < 1 ∧ 8 < k ∧ odd = true) ∨ (¬ k < 1 ∧ ¬ 8 < k ∧ odd = false) := by
    by_cases h1 : k < 1
    · exact Or.inl ⟨h1, by rw [← hodd, decide_eq_false (by omega)]; rfl⟩
    · by_cases h2 : 8 < k
      · exact Or.inr (Or.inl ⟨h1, h2, by rw [← hodd, decide_eq_false (by omega)]; rfl⟩)
      · exact Or.inr (Or.inr ⟨h1, h2, by rw [← hodd, decide_eq_true (by omega)]; rfl⟩)
  clear hodd
  rcases hcase with ⟨h1, rfl⟩ | ⟨h1, h2, rfl⟩ | ⟨h1, h2, rfl⟩
  all_goals
    go_enter Try.func43, Try.ntmps43
    go_wp2_with fail
    refine HB.out.mono ?_
    rintro en w1 ⟨rfl, hR⟩
    have HR := Lib.hid hR
    clear hR HB
    cases l with
    | nil =>
      rw [if_pos rfl] at hv
      obtain rfl : v = 0 := hv.symm
      have e0 : strOf [] = ⟨#[]⟩ := rfl
      rw [e0]
      clear e0
      go_wp2_with fail
      go_ret
      exact ⟨rfl, by rw [HNA.out]; exact HR.out⟩
    | cons b0 l =>
      rw [if_neg (by simp)] at hv
      have hsz := size_strOf (b0 :: l)
      have hns := num_strOf (b0 :: l) hlb
      obtain ⟨S, hS⟩ : ∃ S, strOf (b0 :: l) = S := ⟨_, rfl⟩
      rw [hS] at hsz hns ⊢
      have hg : ∀ i, i < S.size → ∀ h2 : i < S.size, (b0 :: l)[i]? = some ((S[i]'h2).toNat : Int) := fun i h h2 => by
        rw [← hns, num, nums, List.getElem?_map]
        have : S.data.toList[i]? = some (S[i]'h2) := by rw [Array.getElem?_toList]; exact Array.getElem?_eq_getElem _
        rw [this]; rfl
      rw [List.length_cons] at hsz hv hll
      have hz1 : 0 < S.size := by omega
      have hg0 : b0 = ((S[0]'hz1).toNat : Int) := by simpa using hg 0 hz1 hz1
      have hne1 : (S.toList == []) = false := by
        rw [ByteArray.toList_eq]
        cases hd : S.data.toList with
        | nil => have : S.size = 0 := by show S.data.size = 0; rw [← Array.length_toList, hd]; rfl
                 omega
        | cons x y => rfl
      have hbt0 := UInt8.toNat_lt (S[0]'hz1)
      have hone := Rd.sx_one (S[0]'hz1).toNat hbt0
      have hv1 : Rd.val [b0] = (S[0]'hz1).toNat := by rw [hg0]; simp [Rd.val]
      have HG := Lib.hid hg; have HV := Lib.hid hv; have HSZ := Lib.hid hsz; have HONE := Lib.hid hone; have HV1 := Lib.hid hv1; have HNS := Lib.hid hns; have HB0 := Lib.hid hg0
      clear hg hv hS hns hone hv1 hg0 hsz
      obtain ⟨L, hL⟩ : ∃ L, b0 :: l = L := ⟨_, rfl⟩
      have hLl : L.length = l.length + 1 := by rw [← hL]; rfl
      have hLb : Sha.bytes L := by rw [← hL]; exact hlb
      have h01 : Rd.sx (Rd.val (L.take 1)) 1 = if (127 : Int) < ((S[0]'hz1).toNat : Int) then ((S[0]'hz1).toNat : Int) - 256 else ((S[0]'hz1).toNat : Int) := by
        rw [← hL, show (b0 :: l).take 1 = [b0] from rfl, HV1.out, HONE.out]
      rw [hL] at HG HV
      have HLL := Lib.hid hLl; have H01 := Lib.hid h01
      have hLs : L.length = S.size := by rw [hLl, HSZ.out]
      have hLS1 : L.length ≤ S.size := by omega
      have hLS2 : S.size ≤ L.length := by omega
      have hL8 : L.length ≤ 8 := by omega
      clear hL hlb hLl h01 HSZ HNS HB0 HV1 HONE hLs
      by_cases hc : (127 : Int) < ((S[0]'hz1).toNat : Int)
      all_goals
        have H02 := H01.out
        first | rw [if_pos hc] at H02 | rw [if_neg hc] at H02
        have H03 := Lib.hid H02
        first | (have hcd : decide ((127 : Int) < ((S[0]'hz1).toNat : Int)) = true := decide_eq_true hc) | (have hcd : decide ((127 : Int) < ((S[0]'hz1).toNat : Int)) = false := decide_eq_false hc)
        clear H02 H01
        go_wp2_with fail
        go_loopw [6, 7] (fun xv i wr => ∃ j : Nat, 1 ≤ j ∧ j ≤ L.length ∧ i = .int .i64 j ∧ xv = .int .i64 (Rd.sx (Rd.val (L.take j)) j) ∧ wr = w1) (fun _ i _ => L.length - (intOf i).toNat)
        case atStart => exact ⟨1, by omega, by omega, rfl, by rw [H03.out], rfl⟩
        case round =>
          obtain ⟨j, hj1, hj, rfl, rfl, rfl⟩ := hrel
          by_cases hlt : j < L.length
          · have hji : (j : Int) < (S.size : Int) := by omega
            have hjs : j < S.size := by omega
            have hgj := HG.out j hjs hjs
            have hnx := Rd.val_take L j _ hgj
            rw [Int.toNat_natCast] at hnx
            have hvb := Rd.val_lt (L.take j) (Sha.bytes_take hLb j)
            have htl : (L.take j).length = j := by rw [List.length_take]; omega
            rw [htl] at hvb
            have hbt := UInt8.toNat_lt (S[j]'hjs)
            have hst := Rd.sx_step (Rd.val (L.take j)) (S[j]'hjs).toNat j hj1 (by omega) hvb hbt
            rw [← hnx] at hst
            have hbd := Rd.sx_bd (Rd.val (L.take j)) j hj1 (by omega) hvb
            obtain ⟨hbd1, hbd2⟩ := hbd
            have HST := Lib.hid hst
            clear hgj hnx hvb htl hst
            generalize Rd.sx (Rd.val (L.take j)) j = X at *
            go_wp2_with fail
            go_roundw
            case rel => exact ⟨j + 1, by omega, by omega, by go_num, by rw [HST.out], trivial⟩
            case measure => simp [intOf]; omega
          · have hjn : j = L.length := by omega
            have hji : ¬ (j : Int) < (S.size : Int) := by omega
            subst hjn
            rw [List.take_of_length_le (Nat.le_refl _)]
            have HVV := HV.out
            rw [← HLL.out] at HVV
            have HVX := Lib.hid HVV
            clear HVV
            go_wp2_with fail
            go_ret
            exact ⟨ret_int HVX.out, by rw [HNA.out]; exact HR.out⟩

set_option maxHeartbeats 2000000 in
theorem q_text (w : World) (R : Nat) (t : List Int) (e : Int) (h : QdAt w R t e) (r : ByteArray) (hr : strOf (Rd.text t e).1 = r) :
    Calls Try.prog 45 #[.pointer (some ⟨R, 0, none⟩)] w fun en w' => en = .returned (.string r) ∧ QdTo w w' R (Rd.text t e).2 := by
  have hbyt := h.byt
  have hn1 : Rd.number t e 1 = (Rd.val (Rd.ask t e 1 false).1, (Rd.ask t e 1 false).2) := Rd.number_ask t e 1
  have hta : Rd.ask t e 1 false = Rd.take t e 1 := rfl
  have HB := Lib.hid (q_bytes w R t e 1 false (fun _ => by omega) (by omega) h (strOf (Rd.ask t e 1 false).1) rfl)
  by_cases hz : (Rd.ask t e 1 false).1 = []
  · have he1 : (Rd.ask t e 1 false).2.2 ≠ 0 := by
      intro h0
      rw [hta, Rd.take] at hz h0
      by_cases he : e = 0
      · rw [if_pos he] at hz h0
        by_cases hl : 1 ≤ t.length
        · rw [if_pos hl] at hz
          have := congrArg List.length hz
          rw [List.length_take, List.length_nil] at this
          omega
        · rw [if_neg hl] at h0; cases h0
      · rw [if_neg he] at h0; exact he h0
    have htx : Rd.text t e = ([], (Rd.ask t e 1 false).2) := by
      rw [Rd.text, hn1]; simp only [Rd.take]; rw [if_neg he1]
    rw [htx] at hr
    obtain rfl : r = ⟨#[]⟩ := by rw [← hr]; rfl
    rw [hz] at HB
    have e0 : strOf [] = ⟨#[]⟩ := rfl
    rw [e0] at HB
    have HT := Lib.hid htx
    clear h hbyt hn1 hta hz he1 htx hr e0
    go_enter Try.func45, Try.ntmps45
    go_wp2_with fail
    refine HB.out.mono ?_
    rintro en w1 ⟨rfl, hR⟩
    go_wp2_with fail
    go_ret
    exact ⟨rfl, by rw [HT.out]; exact hR⟩
  · obtain ⟨he, hlen, he2⟩ : e = 0 ∧ (Rd.take t e 1).1.length = 1 ∧ (Rd.take t e 1).2.2 = 0 := by
      rcases Rd.take_len t e 1 with h1 | h1
      · exact absurd (List.eq_nil_of_length_eq_zero h1) hz
      · exact h1
    obtain ⟨b, hb⟩ : ∃ b, (Rd.ask t e 1 false).1 = [b] := by
      rw [hta]
      match h3 : (Rd.take t e 1).1, hlen with
      | [b], _ => exact ⟨b, rfl⟩
    obtain ⟨st, hst⟩ : ∃ st, (Rd.ask t e 1 false).2 = st := ⟨_, rfl⟩
    have hbb : 0 ≤ b ∧ b ≤ 255 := by
      have := Rd.take_byt t e 1 hbyt
      rw [← hta, hb] at this
      exact this b (by simp)
    have htx : Rd.text t e = Rd.ask st.1 st.2 (b.toNat : Int) false := by
      rw [Rd.text, hn1, hb, hst]
      show Rd.take st.1 st.2 (Rd.val [b]) = Rd.take st.1 st.2 ((b.toNat : Nat) : Int).toNat
      rw [Int.toNat_natCast]
      simp [Rd.val]
    rw [hb, hst] at HB
    rw [htx] at hr
    have hsz : (strOf [b]).size = 1 := by rw [size_strOf]; rfl
    have hns := num_strOf [b] (fun x hx => by obtain rfl : x = b := by simpa using hx
                                              exact hbb)
    obtain ⟨S, hS⟩ : ∃ S, strOf [b] = S := ⟨_, rfl⟩
    rw [hS] at hsz hns HB
    have hz1 : 0 < S.size := by omega
    have hg0 : b.toNat = (S[0]'hz1).toNat := by
      have h4 : (num S)[0]? = some b := by rw [hns]; rfl
      rw [num, nums, List.getElem?_map, Array.getElem?_toList, Array.getElem?_eq_getElem hz1] at h4
      have h5 : ((S[0]'hz1).toNat : Int) = b := Option.some.inj h4
      omega
    have hne1 : (S.toList == []) = false := by
      rw [ByteArray.toList_eq]
      cases hd : S.data.toList with
      | nil => have : S.size = 0 := by show S.data.size = 0; rw [← Array.length_toList, hd]; rfl
               omega
      | cons x y => rfl
    have hbt := UInt8.toNat_lt (S[0]'hz1)
    rw [hg0] at htx hr
    have HT := Lib.hid htx; have HRR := Lib.hid hr
    clear h hbyt hn1 hta hz htx hr hb hst hns hS hg0 he2 hlen he hsz
    go_enter Try.func45, Try.ntmps45
    go_wp2_with fail
    refine HB.out.mono ?_
    rintro en w1 ⟨rfl, hM1, hR⟩
    clear HB
    go_wp2_with fail
    refine (q_bytes w1 R st.1 st.2 ((S[0]'hz1).toNat : Int) false (fun _ => by omega) (by omega) hR r HRR.out).mono ?_
    rintro en w2 ⟨rfl, hM2, h2⟩
    go_wp2_with fail
    go_ret
    exact ⟨rfl, by rw [HT.out]; exact ⟨hM1.trans hM2 (fun _ _ h => h), h2⟩⟩
end Go.Proofs.Ytcmbklofbemclaa
