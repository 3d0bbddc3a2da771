/- pack's Reader: Signed, Text. -/
import Derived.Test.YtcmbklofbemclaaPkY
namespace Go.Proofs.Ytcmbklofbemclaa
open Go.RowKit

namespace Rd
/-- a number of n bytes with its sign -/
def sx (x n : Nat) : Int := if x < 2 ^ (8 * n - 1) then (x : Int) else (x : Int) - 2 ^ (8 * n)
theorem sx_eq (x n : Nat) (h1 : 1 ≤ n) (h8 : n ≤ 8) (hx : x < 256 ^ n) : wrap64 (IntKind.u64.wrap ((x : Int) * 2 ^ (64 - 8 * n))) / 2 ^ (64 - 8 * n) = sx x n := by
  rw [IntKind.wrap_u64]
  unfold wrap64 sx
  have : n = 1 ∨ n = 2 ∨ n = 3 ∨ n = 4 ∨ n = 5 ∨ n = 6 ∨ n = 7 ∨ n = 8 := by omega
  rcases this with rfl | rfl | rfl | rfl | rfl | rfl | rfl | rfl <;> simp only [Nat.reducePow, Nat.reduceMul, Nat.reduceSub, Int.reducePow] at hx ⊢ <;> split <;> omega
/-- what a Reader answers to Signed, and holds then -/
def signed (t : List Int) (e k : Int) : Int × (List Int × Int) := (if (number t e k).2.2 = 0 then sx (number t e k).1 k.toNat else 0, (number t e k).2)
theorem number_ok (t : List Int) (e k : Int) (ht : Sha.bytes t) (h : (number t e k).2.2 = 0) : 1 ≤ k ∧ k ≤ 8 ∧ (number t e k).1 < 256 ^ k.toNat := by
  by_cases hk : 1 ≤ k ∧ k ≤ 8
  · refine ⟨hk.1, hk.2, ?_⟩
    rw [number, if_pos hk] at h ⊢
    simp only [take] at h ⊢
    split at h
    · rename_i he
      split at h
      · rename_i hl
        rw [if_pos he, if_pos hl]
        have := val_lt (t.take k.toNat) (Sha.bytes_take ht _)
        rw [List.length_take, Nat.min_eq_left hl] at this
        exact this
      · cases h
    · rename_i he; exact absurd h he
  · rw [number, if_neg hk] at h
    simp only at h
    split at h
    · cases h
    · rename_i he; exact absurd h he
end Rd

set_option maxHeartbeats 2000000 in
theorem rd_signed (w : World) (G : Nat) (t : List Int) (e : Int) (k : Int) (h : RdAt w G t e) (v : Int) (hv : (Rd.signed t e k).1 = v) :
    Calls Try.prog 33 #[.pointer (some ⟨G, 0, none⟩), .int .i64 k] w fun en w' => en = .returned (.int .i64 v) ∧ RdTo w w' G (Rd.signed t e k).2 := by
  have hno := Rd.number_ok t e k h.byt
  have HC := Lib.hid (rd_number w G t e k h _ rfl)
  have HS : Hid ((Rd.signed t e k).2 = (Rd.number t e k).2) := Lib.hid rfl
  rw [Rd.signed] at hv
  simp only at hv
  obtain ⟨x, hx⟩ : ∃ x, (Rd.number t e k).1 = x := ⟨_, rfl⟩
  obtain ⟨st, hst⟩ : ∃ st, (Rd.number t e k).2 = st := ⟨_, rfl⟩
  rw [hx, hst] at HC hv hno
  have HST := Lib.hid hst
  clear hst hx h
  go_enter Try.func33, Try.ntmps33
  go_wp2_with fail
  refine HC.out.mono ?_
  rintro en w1 ⟨rfl, hM, h1⟩
  have q1 : w1.cell? ⟨G, 1, none⟩ = some (.int .i64 st.2) := h1.row.cell rfl
  clear HC
  by_cases he : st.2 = 0
  · obtain ⟨hk1, hk8, hxl⟩ := hno he
    obtain ⟨n, rfl⟩ : ∃ n : Nat, k = n := ⟨k.toNat, by omega⟩
    rw [if_pos he, Int.toNat_natCast] at hv
    rw [Int.toNat_natCast] at hxl
    have hsx := Rd.sx_eq x n (by omega) (by omega) hxl
    rw [hv] at hsx
    rw [he] at q1
    have HSX := Lib.hid hsx
    clear hsx hv hno
    go_wp2_with fail
    go_ret
    exact ⟨by rw [← HSX.out]; rfl, by rw [HS.out, HST.out]; exact ⟨hM, h1⟩⟩
  · rw [if_neg he] at hv
    obtain rfl : v = 0 := hv.symm
    have he' : (st.2 != 0) = true := by simpa using he
    clear hno
    go_wp2_with fail
    go_ret
    exact ⟨rfl, by rw [HS.out, HST.out]; exact ⟨hM, h1⟩⟩

/-- what a Reader answers to Text, and holds then -/
def Rd.text (t : List Int) (e : Int) : List Int × (List Int × Int) := Rd.take (Rd.number t e 1).2.1 (Rd.number t e 1).2.2 (Rd.number t e 1).1
theorem Rd.number_small (t : List Int) (e : Int) (ht : Sha.bytes t) : (Rd.number t e 1).1 < 256 := by
  rw [Rd.number, if_pos (by decide)]
  have h1 : Sha.bytes (Rd.take t e (1 : Int).toNat).1 := by
    rw [Rd.take]
    split
    · split
      · exact Sha.bytes_take ht _
      · exact fun x hx => by simp at hx
    · exact fun x hx => by simp at hx
  have h2 : (Rd.take t e (1 : Int).toNat).1.length ≤ 1 := by
    rw [Rd.take]
    split
    · split
      · rw [List.length_take]; exact Nat.min_le_left _ _
      · simp
    · simp
  refine Nat.lt_of_lt_of_le (Rd.val_lt _ h1) ?_
  exact Nat.le_trans (Nat.pow_le_pow_right (by decide) h2) (by decide)

set_option maxHeartbeats 2000000 in
theorem rd_text (w : World) (G : Nat) (t : List Int) (e : Int) (h : RdAt w G t e) (r : ByteArray) (hr : strOf (Rd.text t e).1 = r) :
    Calls Try.prog 35 #[.pointer (some ⟨G, 0, none⟩)] w fun en w' => en = .returned (.string r) ∧ RdTo w w' G (Rd.text t e).2 := by
  have hsm := Rd.number_small t e h.byt
  have HC := Lib.hid (rd_number w G t e 1 h _ rfl)
  have HT : Hid (Rd.text t e = Rd.take (Rd.number t e 1).2.1 (Rd.number t e 1).2.2 (Rd.number t e 1).1) := Lib.hid rfl
  rw [HT.out] at hr
  obtain ⟨n, hn⟩ : ∃ n, (Rd.number t e 1).1 = n := ⟨_, rfl⟩
  obtain ⟨st, hst⟩ : ∃ st, (Rd.number t e 1).2 = st := ⟨_, rfl⟩
  rw [hn, hst] at HC HT hr
  rw [hn] at hsm
  clear hst hn h
  have hw : wrap64 (n : Int) = (n : Int) := by unfold wrap64; omega
  go_enter Try.func35, Try.ntmps35
  go_wp2_with fail
  refine HC.out.mono ?_
  rintro en w1 ⟨rfl, hM, h1⟩
  have q2 : w1.cell? ⟨G, 2, none⟩ = some (takeOf G st.2) := h1.row.cell rfl
  clear HC
  by_cases he : st.2 = 0
  · rw [he] at h1 q2 hr
    have HE := Lib.hid he
    rw [takeOf, if_pos rfl] at q2
    have HN := Lib.hid (next_any w1 G st.1 n h1 (by omega) r hr _ rfl)
    clear h1 hr he
    go_wp2_with fail
    refine HN.out.mono ?_
    rintro en w2 ⟨rfl, hM2, h2⟩
    go_wp2_with fail
    go_ret
    exact ⟨rfl, by rw [HT.out, HE.out]; exact ⟨hM.trans hM2 (fun _ _ h => h), h2⟩⟩
  · rw [takeOf, if_neg he] at q2
    have hte : Rd.take st.1 st.2 n = ([], st) := by rw [Rd.take, if_neg he]
    rw [hte] at hr
    obtain rfl : r = ⟨#[]⟩ := by rw [← hr]; rfl
    have HTE := Lib.hid hte; have HH := Lib.hid h1
    clear hte h1 hr
    go_wp2_with fail
    refine (none_any w1 G n).mono ?_
    rintro en w2 ⟨rfl, rfl⟩
    go_wp2_with fail
    go_ret
    exact ⟨rfl, by rw [HT.out, HTE.out]; exact ⟨hM, HH.out⟩⟩
end Go.Proofs.Ytcmbklofbemclaa
