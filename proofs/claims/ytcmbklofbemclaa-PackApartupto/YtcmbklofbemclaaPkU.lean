/- The reference's Writer: Signed. -/
import Derived.Test.YtcmbklofbemclaaPkT
namespace Go.Proofs.Ytcmbklofbemclaa
open Go.RowKit

set_option maxHeartbeats 2000000 in
theorem r_signed (w : World) (R : Nat) (t : List Int) (e : Int) (x : Int) (k : Int) (h : RwAt w R t e) (hl : t.length + 8 ≤ 140737488355328) :
    Calls Try.prog 15 #[.pointer (some ⟨R, 0, none⟩), .int .i64 x, .int .i64 k] w fun en w' => en = .returned (.tuple #[]) ∧ RwTo w w' R (Pk.put t e (Pk.sfits x k) (Pk.digs (x % 18446744073709551616) k.toNat)) := by
  by_cases he : e = 0
  · subst he
    by_cases hk : 1 ≤ k ∧ k ≤ 8
    · obtain ⟨n, rfl⟩ : ∃ n : Nat, k = n := ⟨k.toNat, by omega⟩
      obtain ⟨hk1, hk8⟩ := hk
      have hg1 : ¬ (n : Int) < 1 := by omega
      have hg2 : ¬ (8 : Int) < (n : Int) := by omega
      have HF := Lib.hid (r_fails w R t 0 h false 0 rfl false rfl)
      obtain ⟨y, hy, hyl⟩ : ∃ y : Nat, x % 18446744073709551616 = (y : Int) ∧ y < 18446744073709551616 := ⟨(x % 18446744073709551616).toNat, by omega, by omega⟩
      have hyw : IntKind.u64.wrap x = (y : Int) := by rw [IntKind.wrap_u64, hy]
      have HY := Lib.hid hy
      have HD := Lib.hid (fun wx => r_digits wx y n hyl (by omega))
      rw [Int.toNat_natCast]
      clear h hy
      go_enter Try.func15, Try.ntmps15
      go_wp2_with fail
      refine HF.out.mono ?_
      rintro en w1 ⟨rfl, hM1, h1⟩
      clear HF
      go_upto_if 19 with fail
      go_cut [6] (fun s wx => Mod (only R) w wx ∧ RwAt wx R t 0 ∧ Pk.sfits x n = true)
      case first =>
        by_cases h8 : n = 8
        · subst h8
          have hsf : Pk.sfits x 8 = true := by rw [Pk.sfits]; exact decide_eq_true ⟨by decide, by decide, fun h => absurd h (by decide)⟩
          have HS := Lib.hid hsf
          clear hsf
          go_wp2_with fail
          go_meet
          case rel => exact ⟨hM1, h1, HS.out⟩
        · have hn8 : n < 8 := by omega
          have hni : (n : Int) < 8 := by omega
          obtain ⟨Bd, hBd, hB1, hB2⟩ : ∃ Bd : Int, (2 : Int) ^ (8 * n - 1) = Bd ∧ 1 ≤ Bd ∧ Bd ≤ 36028797018963968 := by
            have : n = 1 ∨ n = 2 ∨ n = 3 ∨ n = 4 ∨ n = 5 ∨ n = 6 ∨ n = 7 := by omega
            rcases this with rfl | rfl | rfl | rfl | rfl | rfl | rfl <;> exact ⟨_, rfl, by decide, by decide⟩
          have hsf : Pk.sfits x n = decide (-Bd ≤ x ∧ x < Bd) := by
            rw [Pk.sfits, Int.toNat_natCast, hBd]
            exact decide_eq_decide.2 ⟨fun h => h.2.2 (by omega), fun h => ⟨by omega, by omega, fun _ => h⟩⟩
          have HSF := Lib.hid hsf; have HBD := Lib.hid hBd
          clear hsf hBd
          go_wp2_with fail
          go_loopw [6, 7] (fun hv i wr => ∃ j P : Nat, j ≤ 8 * n - 1 ∧ i = .int .i64 j ∧ hv = .int .i64 (P : Int) ∧ P = 2 ^ j ∧ wr = w1) (fun _ i _ => 8 * n - 1 - (intOf i).toNat)
          case atStart => exact ⟨0, 1, by omega, rfl, rfl, rfl, rfl⟩
          case round =>
            obtain ⟨j, P, hj, rfl, rfl, hP, rfl⟩ := hrel
            have h8n : (8 : Int) * (n : Int) - 1 = ((8 * n - 1 : Nat) : Int) := by omega
            obtain ⟨m, hm⟩ : ∃ m : Nat, 8 * n - 1 = m := ⟨_, rfl⟩
            rw [hm] at hj h8n HBD ⊢
            have hm55 : m ≤ 55 := by omega
            by_cases hlt : j < m
            · have hji : (j : Int) < (m : Int) := by omega
              have hPl : P ≤ 18014398509481984 := by
                rw [hP]
                exact Nat.pow_le_pow_right (by decide) (show j ≤ 54 by omega)
              have hP2 : P * 2 = 2 ^ (j + 1) := by rw [hP, Nat.pow_succ]
              have HP := Lib.hid hP2
              clear hP hP2 hm
              go_wp2_with fail
              go_roundw
              case rel => exact ⟨j + 1, P * 2, by omega, by go_num, by congr 1; omega, HP.out, trivial⟩
              case measure => simp [intOf]; omega
            · have hjm : j = m := by omega
              subst hjm
              have hPB : (P : Int) = Bd := by rw [← HBD.out, hP]; simp
              have hji : ¬ (j : Int) < (j : Int) := by omega
              have hnB : wrap64 (-Bd) = -Bd := by unfold wrap64; omega
              rw [hPB]
              have HF0 := Lib.hid (r_fails wr R t 0 h1 false 0 rfl false rfl)
              have HF1 := Lib.hid (r_fails wr R t 0 h1 true 51 rfl true rfl)
              clear hP hPB hm
              by_cases hb : -Bd ≤ x ∧ x < Bd
              · have HYES := Lib.hid (show Pk.sfits x n = true by rw [HSF.out]; exact decide_eq_true hb)
                have hb1 : ¬ x < -Bd := by omega
                have hb2 : ¬ Bd ≤ x := by omega
                clear hb
                go_wp2_with fail
                refine HF0.out.mono ?_
                rintro en w3 ⟨rfl, hM3, h3⟩
                have hM3' := hM1.trans hM3 (fun _ _ h => h)
                go_wp2_with fail
                go_meet
                case rel => exact ⟨hM3', h3, HYES.out⟩
              · have HNO := Lib.hid (show Pk.sfits x n = false by rw [HSF.out]; exact decide_eq_false hb)
                have hcase : x < -Bd ∨ (¬ x < -Bd ∧ Bd ≤ x) := by omega
                clear hb
                rcases hcase with hb1 | ⟨hb1, hb2⟩
                all_goals (
                  go_wp2_with fail
                  refine HF1.out.mono ?_
                  rintro en w3 ⟨rfl, hM3, h3⟩
                  have hM3' := hM1.trans hM3 (fun _ _ h => h)
                  go_wp2_with fail
                  refine bodyPost_ret (results_none rfl _ _ _) rfl ?_
                  exact ⟨rfl, by rw [HNO.out, put_no]; exact ⟨hM3', h3⟩⟩)
      case rest =>
        obtain ⟨hMc, hc, hs⟩ := hcut
        have HS := Lib.hid hs
        clear hs
        go_wp2_with fail
        refine (HD.out wc).mono ?_
        rintro en w2 ⟨rfl, hM2⟩
        have h2 := hc.mod hM2 (fun h => h)
        have hM2' : Mod (only R) w w2 := hMc.trans hM2 (fun _ _ h => h.elim)
        have q0 : w2.cell? ⟨R, 0, none⟩ = some (.string (strOf t)) := h2.row.cell rfl
        have f0 : w2.frozen? ⟨R, 0, none⟩ = false := h2.row.frozen 0
        have hadd := run_cat (strOf t) (strOf (Pk.digs y n)) (by rw [size_strOf, size_strOf, Pk.length_digs]; omega)
        have hap := strOf_append t (Pk.digs y n)
        obtain ⟨S, hS⟩ : ∃ S, strOf (t ++ Pk.digs y n) = S := ⟨_, rfl⟩
        rw [← hap, hS] at hadd
        have HL := Lib.hid (rw_laid hM2' h2 (Pk.digs y n) (Pk.bytes_digs _ _) S hS)
        clear hap h2 hM2' hS hc hMc hM2
        go_wp2_with fail
        go_end0
        exact ⟨rfl, by rw [HS.out, put_ok, HY.out]; exact HL.out⟩
    · have hsf : Pk.sfits x k = false := by rw [Pk.sfits]; exact decide_eq_false (fun h => hk ⟨h.1, h.2.1⟩)
      have HF := Lib.hid (r_fails w R t 0 h true 51 rfl true rfl)
      have HS := Lib.hid hsf
      have hcase : k < 1 ∨ (¬ k < 1 ∧ 8 < k) := by omega
      clear hsf h hk
      rcases hcase with hk1 | ⟨hk1, hk2⟩
      all_goals (
        go_enter Try.func15, Try.ntmps15
        go_wp2_with fail
        refine HF.out.mono ?_
        rintro en w1 ⟨rfl, hM1, h1⟩
        go_wp2_with fail
        refine bodyPost_ret (results_none rfl _ _ _) rfl ?_
        exact ⟨rfl, by rw [HS.out, put_no]; exact ⟨hM1, h1⟩⟩)
  · have HF := Lib.hid (fun bad => r_fails w R t e h bad e (if_neg (fun h => he h.1)) true (decide_eq_true he))
    have hcase : k < 1 ∨ (¬ k < 1 ∧ 8 < k) ∨ (¬ k < 1 ∧ ¬ 8 < k) := by omega
    clear h
    rcases hcase with hk1 | ⟨hk1, hk2⟩ | ⟨hk1, hk2⟩
    all_goals (
      go_enter Try.func15, Try.ntmps15
      go_wp2_with fail
      refine (HF.out _).mono ?_
      rintro en w1 ⟨rfl, hM1, h1⟩
      go_wp2_with fail
      refine bodyPost_ret (results_none rfl _ _ _) rfl ?_
      exact ⟨rfl, by rw [put_dead _ _ _ _ he]; exact ⟨hM1, h1⟩⟩)
end Go.Proofs.Ytcmbklofbemclaa
