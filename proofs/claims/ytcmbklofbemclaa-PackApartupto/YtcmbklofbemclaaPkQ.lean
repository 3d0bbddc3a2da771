/- The reference's Writer: Number, Signed, Bytes, Text, Done. -/
import Derived.Test.YtcmbklofbemclaaPkR
namespace Go.Proofs.Ytcmbklofbemclaa
open Go.RowKit

/-- what a call of the reference's Writer leaves -/
def RwTo (w w' : World) (R : Nat) (r : List Int × Int) : Prop := Mod (only R) w w' ∧ RwAt w' R r.1 r.2
theorem RwTo.then {w w1 w' : World} {R : Nat} {r : List Int × Int} (hM : Mod (only R) w w1) (h : RwTo w1 w' R r) : RwTo w w' R r := ⟨hM.trans h.1 (fun _ _ h => h), h.2⟩
theorem put_dead (t : List Int) (e : Int) (ok : Bool) (b : List Int) (he : e ≠ 0) : Pk.put t e ok b = (t, e) := by
  cases ok
  · rw [put_no, if_neg he]
  · exact put_err t e b he

/-- 'w.S = w.S + s' at the end of a call -/
theorem rw_laid {w w3 : World} {R : Nat} {t : List Int} (hM : Mod (only R) w w3) (h : RwAt w3 R t 0) (b : List Int) (hb : Sha.bytes b) (S : ByteArray) (hS : strOf (t ++ b) = S) : RwTo w (w3.setCell ⟨R, 0, none⟩ (.string S)) R (t ++ b, 0) :=
  ⟨hM.setCell (fun _ => only_self R) _, ⟨(h.row.set 0 _).cs (by rw [hS]; rfl), Sha.bytes_append h.byt hb⟩⟩

set_option maxHeartbeats 1000000 in
theorem r_number (w : World) (R : Nat) (t : List Int) (e : Int) (x : Nat) (k : Int) (hx : x < 18446744073709551616) (h : RwAt w R t e) (hl : t.length + 8 ≤ 140737488355328) :
    Calls Try.prog 13 #[.pointer (some ⟨R, 0, none⟩), .int .u64 (x : Int), .int .i64 k] w fun en w' => en = .returned (.tuple #[]) ∧ RwTo w w' R (Pk.put t e (Pk.fits (x : Int) k) (Pk.digs (x : Int) k.toNat)) := by
  have HH := Lib.hid h
  by_cases he : e = 0
  · subst he
    by_cases hk : 1 ≤ k ∧ k ≤ 8
    · obtain ⟨n, rfl⟩ : ∃ n : Nat, k = n := ⟨k.toNat, by omega⟩
      obtain ⟨hk1, hk8⟩ := hk
      have hg1 : ¬ (n : Int) < 1 := by omega
      have hg2 : ¬ (8 : Int) < (n : Int) := by omega
      have HF := Lib.hid (r_fails w R t 0 h false 0 rfl false rfl)
      have HD := Lib.hid (fun wx => r_digits wx x n hx (by omega))
      rw [Int.toNat_natCast]
      clear h
      go_enter Try.func13, Try.ntmps13
      go_wp2_with fail
      refine HF.out.mono ?_
      rintro en w1 ⟨rfl, hM1, h1⟩
      clear HF
      go_wp2_with fail
      refine (HD.out w1).mono ?_
      rintro en w2 ⟨rfl, hM2⟩
      have h2 := h1.mod hM2 (fun h => h)
      have hM2' : Mod (only R) w w2 := hM1.trans hM2 (fun _ _ h => h.elim)
      clear h1 hM1 hM2 HD
      by_cases hq : x / 2 ^ (8 * n) = 0
      · have hft : Pk.fits (x : Int) (n : Int) = true := by
          rw [Pk.fits, Int.toNat_natCast]
          refine decide_eq_true ⟨hk1, hk8, fun _ => ?_⟩
          have e3 : ((2 : Int) ^ (8 * n)) = (((2 : Nat) ^ (8 * n) : Nat) : Int) := by simp
          rw [e3, ← Int.natCast_ediv, hq]; rfl
        rw [hq]
        have HF := Lib.hid (r_fails w2 R t 0 h2 false 0 rfl false rfl)
        have HFT := Lib.hid hft
        clear hft
        go_wp2_with fail
        refine HF.out.mono ?_
        rintro en w3 ⟨rfl, hM3, h3⟩
        have hM3' := hM2'.trans hM3 (fun _ _ h => h)
        have q0 : w3.cell? ⟨R, 0, none⟩ = some (.string (strOf t)) := h3.row.cell rfl
        have f0 : w3.frozen? ⟨R, 0, none⟩ = false := h3.row.frozen 0
        have hadd := run_cat (strOf t) (strOf (Pk.digs x n)) (by rw [size_strOf, size_strOf, Pk.length_digs]; omega)
        have hap := strOf_append t (Pk.digs x n)
        obtain ⟨S, hS⟩ : ∃ S, strOf (t ++ Pk.digs x n) = S := ⟨_, rfl⟩
        rw [← hap, hS] at hadd
        have HL := Lib.hid (rw_laid hM3' h3 (Pk.digs x n) (Pk.bytes_digs _ _) S hS)
        clear hap h2 hM2' hM3 HF hM3' hS h3
        go_wp2_with fail
        go_end0
        exact ⟨rfl, by rw [HFT.out, put_ok]; exact HL.out⟩
      · have hft : Pk.fits (x : Int) (n : Int) = false := by
          rw [Pk.fits, Int.toNat_natCast]
          refine decide_eq_false (fun h => ?_)
          have e3 : ((2 : Int) ^ (8 * n)) = (((2 : Nat) ^ (8 * n) : Nat) : Int) := by simp
          by_cases h8 : (n : Int) < 8
          · have := h.2.2 h8
            rw [e3, ← Int.natCast_ediv] at this
            exact hq (by omega)
          · obtain rfl : n = 8 := by omega
            exact hq (Nat.div_eq_of_lt hx)
        obtain ⟨q, hqe⟩ : ∃ q : Nat, x / 2 ^ (8 * n) = q := ⟨_, rfl⟩
        rw [hqe] at hq ⊢
        have hq' : ((q : Int) != 0) = true := by simpa using hq
        have HF := Lib.hid (r_fails w2 R t 0 h2 true 51 rfl true rfl)
        have HFT := Lib.hid hft
        clear hft hqe
        go_wp2_with fail
        refine HF.out.mono ?_
        rintro en w3 ⟨rfl, hM3, h3⟩
        have hM3' := hM2'.trans hM3 (fun _ _ h => h)
        clear HF hM3 hM2' h2
        go_wp2_with fail
        refine bodyPost_ret (results_none rfl _ _ _) rfl ?_
        exact ⟨rfl, by rw [HFT.out, put_no]; exact ⟨hM3', h3⟩⟩
    · have hft : Pk.fits (x : Int) k = false := by rw [Pk.fits]; exact decide_eq_false (fun h => hk ⟨h.1, h.2.1⟩)
      have HF := Lib.hid (r_fails w R t 0 h true 51 rfl true rfl)
      have HFT := Lib.hid hft
      have hcase : k < 1 ∨ (¬ k < 1 ∧ 8 < k) := by omega
      clear hft h hk
      rcases hcase with hk1 | ⟨hk1, hk2⟩
      all_goals (
        go_enter Try.func13, Try.ntmps13
        go_wp2_with fail
        refine HF.out.mono ?_
        rintro en w1 ⟨rfl, hM1, h1⟩
        go_wp2_with fail
        refine bodyPost_ret (results_none rfl _ _ _) rfl ?_
        exact ⟨rfl, by rw [HFT.out, put_no]; exact ⟨hM1, h1⟩⟩)
  · have HF := Lib.hid (fun bad => r_fails w R t e h bad e (if_neg (fun h => he h.1)) true (decide_eq_true he))
    have hcase : k < 1 ∨ (¬ k < 1 ∧ 8 < k) ∨ (¬ k < 1 ∧ ¬ 8 < k) := by omega
    clear h
    rcases hcase with hk1 | ⟨hk1, hk2⟩ | ⟨hk1, hk2⟩
    all_goals (
      go_enter Try.func13, Try.ntmps13
      go_wp2_with fail
      refine (HF.out _).mono ?_
      rintro en w1 ⟨rfl, hM1, h1⟩
      go_wp2_with fail
      refine bodyPost_ret (results_none rfl _ _ _) rfl ?_
      exact ⟨rfl, by rw [put_dead _ _ _ _ he]; exact ⟨hM1, h1⟩⟩)

set_option maxHeartbeats 1000000 in
theorem r_bytes (w : World) (R : Nat) (t : List Int) (e : Int) (s : ByteArray) (h : RwAt w R t e) (hl : t.length + s.size ≤ 140737488355328) :
    Calls Try.prog 17 #[.pointer (some ⟨R, 0, none⟩), .string s] w fun en w' => en = .returned (.tuple #[]) ∧ RwTo w w' R (Pk.put t e true (num s)) := by
  by_cases he : e = 0
  · subst he
    have HF := Lib.hid (r_fails w R t 0 h false 0 rfl false rfl)
    clear h
    go_enter Try.func17, Try.ntmps17
    go_wp2_with fail
    refine HF.out.mono ?_
    rintro en w3 ⟨rfl, hM3, h3⟩
    have q0 : w3.cell? ⟨R, 0, none⟩ = some (.string (strOf t)) := h3.row.cell rfl
    have f0 : w3.frozen? ⟨R, 0, none⟩ = false := h3.row.frozen 0
    have hadd := run_cat (strOf t) s (by rw [size_strOf]; exact hl)
    have hap := strOf_append t (num s)
    rw [strOf_num] at hap
    obtain ⟨S, hS⟩ : ∃ S, strOf (t ++ num s) = S := ⟨_, rfl⟩
    rw [← hap, hS] at hadd
    have HL := Lib.hid (rw_laid hM3 h3 (num s) (bytes_num s) S hS)
    clear hap HF hM3 hS h3
    go_wp2_with fail
    go_end0
    exact ⟨rfl, by rw [put_ok]; exact HL.out⟩
  · have HF := Lib.hid (r_fails w R t e h false e (if_neg (fun h => he h.1)) true (decide_eq_true he))
    clear h
    go_enter Try.func17, Try.ntmps17
    go_wp2_with fail
    refine HF.out.mono ?_
    rintro en w1 ⟨rfl, hM1, h1⟩
    go_wp2_with fail
    go_end0
    exact ⟨rfl, by rw [put_dead _ _ _ _ he]; exact ⟨hM1, h1⟩⟩

set_option maxHeartbeats 1000000 in
theorem r_done (w : World) (R : Nat) (t : List Int) (e : Int) (h : RwAt w R t e) :
    Calls Try.prog 21 #[.pointer (some ⟨R, 0, none⟩)] w fun en w' => en = .returned (.tuple #[.string (if e = 0 then strOf t else ⟨#[]⟩), .int .i64 e]) ∧ Mod none_ w w' := by
  have q1 : w.cell? ⟨R, 1, none⟩ = some (.int .i64 e) := h.row.cell rfl
  have q0 : w.cell? ⟨R, 0, none⟩ = some (.string (strOf t)) := h.row.cell rfl
  by_cases he : e = 0
  · subst he
    clear h
    go_enter Try.func21, Try.ntmps21
    go_wp2_with fail
    go_ret2
    exact ⟨by simp, Mod.refl _ _⟩
  · have he' : (e == 0) = false := by simpa using he
    clear h
    go_enter Try.func21, Try.ntmps21
    go_wp2_with fail
    go_quiet (fail)
    go_wp2_with fail
    go_ret2
    exact ⟨rfl, (Mod.refl _ _).drewN _⟩
end Go.Proofs.Ytcmbklofbemclaa
