/- The reference's Reader: Number, Signed, Bytes, Text, Rest, Left, Done; pack's Reader: Bytes. -/
import Derived.Test.YtcmbklofbemclaaPkRd
namespace Go.Proofs.Ytcmbklofbemclaa
open Go.RowKit

set_option maxHeartbeats 2000000 in
theorem q_number (w : World) (R : Nat) (t : List Int) (e : Int) (k : Int) (hk2 : k ≤ 9223372036854775807) (h : QdAt w R t e) (v : Int) (hv : ((Rd.number t e k).1 : Int) = v) :
    Calls Try.prog 42 #[.pointer (some ⟨R, 0, none⟩), .int .i64 k] w fun en w' => en = .returned (.int .u64 v) ∧ QdTo w w' R (Rd.number t e k).2 := by
  have hna := Rd.number_ask t e k
  have hby := Rd.take_byt t e k.toNat h.byt
  have hle := Rd.take_len t e k.toNat
  obtain ⟨odd, hodd⟩ : ∃ odd, (!decide (1 ≤ k ∧ k ≤ 8)) = odd := ⟨_, rfl⟩
  rw [hodd] at hna
  obtain ⟨l, hl⟩ : ∃ l, (Rd.ask t e k odd).1 = l := ⟨_, rfl⟩
  have hlb : Sha.bytes l := by
    rw [← hl, Rd.ask]; split
    · exact fun x hx => by simp at hx
    · exact hby
  have hll : l.length ≤ 8 := by
    rw [← hl, Rd.ask]; split
    · simp
    · rename_i ho
      have : 1 ≤ k ∧ k ≤ 8 := by
        by_cases hc : 1 ≤ k ∧ k ≤ 8
        · exact hc
        · rw [decide_eq_false hc] at hodd; exact absurd hodd.symm ho
      omega
  have HB := Lib.hid (q_bytes w R t e k odd (fun h => by subst h; simp at hodd; omega) hk2 h (strOf l) (by rw [hl]))
  rw [hna, hl] at hv
  simp only at hv
  have HNA := Lib.hid hna
  clear hna hby hle hl h
  have hcase : (k < 1 ∧ odd = true) ∨ (¬ k < 1 ∧ 8 < k ∧ odd = true) ∨ (¬ k < 1 ∧ ¬ 8 < k ∧ odd = false) := by
    by_cases h1 : k < 1
    · exact Or.inl ⟨h1, by rw [← hodd, decide_eq_false (by omega)]; rfl⟩
    · by_cases h2 : 8 < k
      · exact Or.inr (Or.inl ⟨h1, h2, by rw [← hodd, decide_eq_false (by omega)]; rfl⟩)
      · exact Or.inr (Or.inr ⟨h1, h2, by rw [← hodd, decide_eq_true (by omega)]; rfl⟩)
  clear hodd
  rcases hcase with ⟨h1, rfl⟩ | ⟨h1, h2, rfl⟩ | ⟨h1, h2, rfl⟩
  all_goals
    go_enter Try.func42, Try.ntmps42
    go_wp2_with fail
    refine HB.out.mono ?_
    rintro en w1 ⟨rfl, hR⟩
    have hsz := size_strOf l
    have hns := num_strOf l hlb
    obtain ⟨S, hS⟩ : ∃ S, strOf l = S := ⟨_, rfl⟩
    rw [hS] at hsz hns ⊢
    have hg : ∀ i, i < S.size → ∀ h2 : i < S.size, l[i]? = some ((S[i]'h2).toNat : Int) := fun i h h2 => by
      rw [← hns, num, nums, List.getElem?_map]
      have : S.data.toList[i]? = some (S[i]'h2) := by rw [Array.getElem?_toList]; exact Array.getElem?_eq_getElem _
      rw [this]; rfl
    have HG := Lib.hid hg; have HV := Lib.hid hv; have HR := Lib.hid hR
    clear hg hv hR hS hns HB
    go_wp2_with fail
    go_loopw [6, 7] (fun xv i wr => ∃ j : Nat, j ≤ l.length ∧ i = .int .i64 j ∧ xv = .int .u64 ((Rd.val (l.take j) : Nat) : Int) ∧ wr = w1) (fun _ i _ => l.length - (intOf i).toNat)
    case atStart => exact ⟨0, by omega, rfl, rfl, rfl⟩
    case round =>
      obtain ⟨j, hj, rfl, rfl, rfl⟩ := hrel
      by_cases hlt : j < l.length
      · have hji : (j : Int) < (S.size : Int) := by omega
        have hjs : j < S.size := by omega
        have hgj := HG.out j hjs hjs
        have hnx := Rd.val_take l j _ hgj
        have hvb := Rd.val_lt (l.take j) (Sha.bytes_take hlb j)
        have hX : Rd.val (l.take j) < 72057594037927936 := by
          refine Nat.lt_of_lt_of_le hvb ?_
          have : (l.take j).length ≤ 7 := by rw [List.length_take]; omega
          exact Nat.le_trans (Nat.pow_le_pow_right (by decide) this) (by decide)
        have HNX := Lib.hid hnx
        have hbt := UInt8.toNat_lt (S[j]'hjs)
        clear hgj hnx hvb
        generalize Rd.val (l.take j) = X at *
        go_wp2_with fail
        go_roundw
        case rel => exact ⟨j + 1, by omega, by go_num, by rw [HNX.out]; go_num, trivial⟩
        case measure => simp [intOf]; omega
      · have hjn : j = l.length := by omega
        have hji : ¬ (j : Int) < (S.size : Int) := by omega
        rw [List.take_of_length_le (by omega)]
        have HVV := HV.out
        go_wp2_with fail
        go_ret
        exact ⟨by rw [← HVV]; rfl, by rw [HNA.out]; exact HR.out⟩


namespace Rd
/-- the last bytes' number with its sign, as it grows -/
theorem sx_step (x b n : Nat) (h1 : 1 ≤ n) (h7 : n ≤ 7) (hx : x < 256 ^ n) (hb : b < 256) : sx (x * 256 + b) (n + 1) = sx x n * 256 + b := by
  unfold sx
  have : n = 1 ∨ n = 2 ∨ n = 3 ∨ n = 4 ∨ n = 5 ∨ n = 6 ∨ n = 7 := by omega
  rcases this with rfl | rfl | rfl | rfl | rfl | rfl | rfl <;> simp only [Nat.reducePow, Nat.reduceMul, Nat.reduceSub, Nat.reduceAdd, Int.reducePow] at hx ⊢ <;> split <;> split <;> omega
theorem sx_bd (x n : Nat) (h1 : 1 ≤ n) (h7 : n ≤ 7) (hx : x < 256 ^ n) : -36028797018963968 ≤ sx x n ∧ sx x n < 36028797018963968 := by
  unfold sx
  have : n = 1 ∨ n = 2 ∨ n = 3 ∨ n = 4 ∨ n = 5 ∨ n = 6 ∨ n = 7 := by omega
  rcases this with rfl | rfl | rfl | rfl | rfl | rfl | rfl <;> simp only [Nat.reducePow, Nat.reduceMul, Nat.reduceSub, Int.reducePow] at hx ⊢ <;> split <;> omega
theorem sx_one (b : Nat) (hb : b < 256) : sx b 1 = if (127 : Int) < (b : Int) then (b : Int) - 256 else (b : Int) := by
  unfold sx
  simp only [Nat.reducePow, Nat.reduceMul, Nat.reduceSub, Int.reducePow]
  split <;> split <;> omega
end Rd

theorem q_rest (w : World) (R : Nat) (t : List Int) (e : Int) (h : QdAt w R t e) (r : ByteArray) (hr : strOf t = r) :
    Calls Try.prog 30 #[.pointer (some ⟨R, 0, none⟩)] w fun en w' => en = .returned (.string r) ∧ QdTo w w' R ([], e) := by
  obtain ⟨t', hb, htl, ht⟩ := h.row
  have q0 : w.cell? ⟨R, 0, none⟩ = some (.string (strOf t')) := hb.cell rfl
  have hsz := size_strOf t'
  have hmx : ((strOf t').size : Int) ≤ 9223372036854775807 := by omega
  have hask : Rd.ask t e ((strOf t').size : Int) false = (t, ([], e)) := by
    rw [Rd.ask, if_neg (by simp), Rd.take, hsz]
    by_cases he : e = 0
    · obtain rfl := ht he
      simp [he]
    · rw [if_neg he, h.dead he]
  have HB := Lib.hid (q_bytes w R t e ((strOf t').size : Int) false (fun _ => by omega) hmx h r (by rw [hask]; exact hr))
  rw [hask] at HB
  clear hb ht h hr hsz hask
  generalize strOf t' = S at *
  go_enter Try.func30, Try.ntmps30
  go_wp2_with fail
  refine HB.out.mono ?_
  rintro en w1 ⟨rfl, hR⟩
  go_wp2_with fail
  go_ret
  exact ⟨rfl, hR⟩
theorem q_left (w : World) (R : Nat) (t : List Int) (e : Int) (h : QdAt w R t e) :
    Calls Try.prog 26 #[.pointer (some ⟨R, 0, none⟩)] w fun en w' => en = .returned (.int .i64 (t.length : Int)) ∧ w' = w := by
  obtain ⟨t', hb, htl, ht⟩ := h.row
  have q0 : w.cell? ⟨R, 0, none⟩ = some (.string (strOf t')) := hb.cell rfl
  have q1 : w.cell? ⟨R, 1, none⟩ = some (.int .i64 e) := hb.cell rfl
  have hsz := size_strOf t'
  by_cases he : e = 0
  · subst he
    obtain rfl := ht rfl
    have HS := Lib.hid hsz
    clear h hsz hb ht
    go_enter Try.func26, Try.ntmps26
    go_wp2_with fail
    go_ret
    exact ⟨by rw [← HS.out]; rfl, rfl⟩
  · have he2 : (e != 0) = true := by simpa using he
    obtain rfl := h.dead he
    clear h hsz hb ht
    go_enter Try.func26, Try.ntmps26
    go_wp2_with fail
    go_ret
    exact ⟨rfl, rfl⟩
theorem q_done (w : World) (R : Nat) (t : List Int) (e : Int) (h : QdAt w R t e) (r : Int) (hr : (if e = 0 ∧ t ≠ [] then 51 else e) = r) :
    Calls Try.prog 28 #[.pointer (some ⟨R, 0, none⟩)] w fun en w' => en = .returned (.int .i64 r) ∧ w' = w := by
  obtain ⟨t', hb, htl, ht⟩ := h.row
  have q0 : w.cell? ⟨R, 0, none⟩ = some (.string (strOf t')) := hb.cell rfl
  have q1 : w.cell? ⟨R, 1, none⟩ = some (.int .i64 e) := hb.cell rfl
  have hsz := size_strOf t'
  by_cases he : e = 0
  · subst he
    obtain rfl := ht rfl
    by_cases ht : t' = []
    · obtain rfl : r = 0 := by rw [← hr, if_neg (fun h => h.2 ht)]
      have hz : (strOf t').size = 0 := by rw [hsz, ht]; rfl
      have hg : ¬ (0 : Int) < ((strOf t').size : Int) := by omega
      clear h hsz hr hz hb
      generalize strOf t' = S at *
      go_enter Try.func28, Try.ntmps28
      go_wp2_with fail
      go_ret
      exact ⟨rfl, rfl⟩
    · obtain rfl : r = 51 := by rw [← hr, if_pos ⟨rfl, ht⟩]
      have hz : 0 < (strOf t').size := by rw [hsz]; exact List.length_pos_iff.2 ht
      have hg : (0 : Int) < ((strOf t').size : Int) := by omega
      clear h hsz hr hz hb
      generalize strOf t' = S at *
      go_enter Try.func28, Try.ntmps28
      go_wp2_with fail
      go_ret
      exact ⟨rfl, rfl⟩
  · obtain rfl : r = e := by rw [← hr, if_neg (fun h => he h.1)]
    have he' : (r == 0) = false := by simpa using he
    clear h hsz hr hb ht
    generalize strOf t' = S at *
    go_enter Try.func28, Try.ntmps28
    go_wp2_with fail
    go_ret
    exact ⟨rfl, rfl⟩
/-- pack's Bytes, and the reference's -/
theorem rd_bytes (w : World) (G : Nat) (t : List Int) (e : Int) (k : Int) (hk : k ≤ 9223372036854775807) (h : RdAt w G t e) (r : ByteArray) (hr : strOf (Rd.ask t e k (decide (k < 0))).1 = r) :
    Calls Try.prog 34 #[.pointer (some ⟨G, 0, none⟩), .int .i64 k] w fun en w' => en = .returned (.string r) ∧ RdTo w w' G (Rd.ask t e k (decide (k < 0))).2 := by
  by_cases hk0 : k < 0
  · rw [decide_eq_true hk0] at hr ⊢
    obtain rfl : r = ⟨#[]⟩ := by rw [← hr]; rfl
    have HC := Lib.hid (rd_fail w G t e h 51 (by decide))
    have HS : Hid ((Rd.ask t e k true).2 = if e = 0 then ([], 51) else (t, e)) := Lib.hid rfl
    clear h hr
    go_enter Try.func34, Try.ntmps34
    go_wp2_with fail
    refine HC.out.mono ?_
    rintro en w2 ⟨rfl, h2⟩
    go_wp2_with fail
    go_ret
    exact ⟨rfl, by rw [HS.out]; exact h2⟩
  · rw [decide_eq_false hk0] at hr ⊢
    obtain ⟨n, rfl⟩ : ∃ n : Nat, k = n := ⟨k.toNat, by omega⟩
    have HS : Hid (Rd.ask t e (n : Int) false = Rd.take t e n) := Lib.hid rfl
    rw [HS.out] at hr
    have q2 : w.cell? ⟨G, 2, none⟩ = some (takeOf G e) := h.row.cell rfl
    by_cases he : e = 0
    · subst he
      rw [takeOf, if_pos rfl] at q2
      have HN := Lib.hid (next_any w G t n h (by omega) r hr _ rfl)
      clear h hr
      go_enter Try.func34, Try.ntmps34
      go_wp2_with fail
      refine HN.out.mono ?_
      rintro en w2 ⟨rfl, h2⟩
      go_wp2_with fail
      go_ret
      exact ⟨rfl, by rw [HS.out]; exact h2⟩
    · rw [takeOf, if_neg he] at q2
      have hte : Rd.take t e n = ([], (t, e)) := by rw [Rd.take, if_neg he]
      rw [hte] at hr HS
      obtain rfl : r = ⟨#[]⟩ := by rw [← hr]; rfl
      have HH := Lib.hid h
      clear hte h hr
      go_enter Try.func34, Try.ntmps34
      go_wp2_with fail
      refine (none_any w G n).mono ?_
      rintro en w2 ⟨rfl, rfl⟩
      go_wp2_with fail
      go_ret
      exact ⟨rfl, by rw [HS.out]; exact ⟨Mod.refl _ _, HH.out⟩⟩
theorem q_bytes2 (w : World) (R : Nat) (t : List Int) (e : Int) (k : Int) (hk : k ≤ 9223372036854775807) (h : QdAt w R t e) (r : ByteArray) (hr : strOf (Rd.ask t e k (decide (k < 0))).1 = r) :
    Calls Try.prog 44 #[.pointer (some ⟨R, 0, none⟩), .int .i64 k] w fun en w' => en = .returned (.string r) ∧ QdTo w w' R (Rd.ask t e k (decide (k < 0))).2 := by
  have HB := Lib.hid (q_bytes w R t e k (decide (k < 0)) (fun h => by simpa using h) hk h r hr)
  clear h hr
  go_enter Try.func44, Try.ntmps44
  go_wp2_with fail
  refine HB.out.mono ?_
  rintro en w2 ⟨rfl, h2⟩
  go_wp2_with fail
  go_ret
  exact ⟨rfl, h2⟩
end Go.Proofs.Ytcmbklofbemclaa
