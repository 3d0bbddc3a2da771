/- The reference's Writer: the walks. -/
import Derived.Test.YtcmbklofbemclaaPkS
namespace Go.Proofs.Ytcmbklofbemclaa
open Go.RowKit

/-- block R is a reference's Writer that holds t; the first error is e -/
structure RwAt (w : World) (R : Nat) (t : List Int) (e : Int) : Prop where
  row : Blk w R [.string (strOf t), .int .i64 e] 29
  byt : Sha.bytes t
theorem RwAt.mod {S : Nat → Prop} {w w' : World} {R : Nat} {t : List Int} {e : Int} (h : RwAt w R t e) (hM : Mod S w w') (hR : ¬ S R) : RwAt w' R t e := ⟨hM.blk h.row hR, h.byt⟩

theorem r_fails (w : World) (R : Nat) (t : List Int) (e : Int) (h : RwAt w R t e) (bad : Bool) (e2 : Int) (he2 : (if e = 0 ∧ bad = true then 51 else e) = e2) (β : Bool) (hβ : decide (e2 ≠ 0) = β) :
    Calls Try.prog 39 #[.pointer (some ⟨R, 0, none⟩), .bool bad] w fun en w' => en = .returned (.bool β) ∧ Mod (only R) w w' ∧ RwAt w' R t e2 := by
  have q1 : w.cell? ⟨R, 1, none⟩ = some (.int .i64 e) := h.row.cell rfl
  have f1 : w.frozen? ⟨R, 1, none⟩ = false := h.row.frozen 1
  have HH := Lib.hid h
  clear h
  by_cases he : e = 0
  · subst he
    cases bad with
    | true =>
      obtain rfl : e2 = 51 := by rw [← he2]; rfl
      obtain rfl : β = true := by rw [← hβ]; rfl
      clear he2 hβ
      go_enter Try.func39, Try.ntmps39
      go_wp2
      go_ret
      exact ⟨rfl, (Mod.refl _ _).setCell (fun _ => only_self R) _, ⟨(HH.out.row.set 1 _).cs rfl, HH.out.byt⟩⟩
    | false =>
      obtain rfl : e2 = 0 := by rw [← he2]; rfl
      obtain rfl : β = false := by rw [← hβ]; rfl
      clear he2 hβ
      go_enter Try.func39, Try.ntmps39
      go_wp2
      go_ret
      exact ⟨rfl, Mod.refl _ _, HH.out⟩
  · obtain rfl : e2 = e := by rw [← he2, if_neg (fun h => he h.1)]
    obtain rfl : β = true := by rw [← hβ]; exact decide_eq_true he
    have h1 : (e2 == 0) = false := by simpa using he
    have h2 : (e2 != 0) = true := by simpa using he
    clear he2 hβ
    go_enter Try.func39, Try.ntmps39
    go_wp2
    go_ret
    exact ⟨rfl, Mod.refl _ _, HH.out⟩

theorem digs_succ (x : Int) (i : Nat) : Pk.digs x (i + 1) = (x / 2 ^ (8 * i) % 256) :: Pk.digs x i := by
  unfold Pk.digs
  rw [List.range_succ_eq_map, List.map_cons, List.map_map]
  congr 1
  apply List.map_congr_left
  intro j hj
  simp only [Function.comp]
  congr 3
  omega
theorem digs_nil (x : Int) : Pk.digs x 0 = [] := by unfold Pk.digs; rfl

set_option maxHeartbeats 1000000 in
theorem r_digits (w : World) (x n : Nat) (hx : x < 18446744073709551616) (hn : n ≤ 8) :
    Calls Try.prog 40 #[.int .u64 (x : Int), .int .i64 (n : Int)] w fun en w' => en = .returned (.tuple #[.string (strOf (Pk.digs x n)), .int .u64 ((x / 2 ^ (8 * n) : Nat) : Int)]) ∧ Mod none_ w w' := by
  go_enter Try.func40, Try.ntmps40
  go_wp2_with fail
  go_loopw [0, 6, 7] (fun xv sv i wr => ∃ j : Nat, j ≤ n ∧ i = .int .i64 j ∧ xv = .int .u64 ((x / 2 ^ (8 * j) : Nat) : Int) ∧ sv = .string (strOf (Pk.digs x j)) ∧ Mod none_ w wr) (fun _ _ i _ => n - (intOf i).toNat)
  case atStart => exact ⟨0, by omega, rfl, by simp, by rw [digs_nil]; rfl, Mod.refl _ _⟩
  case round =>
    obtain ⟨j, hj, rfl, rfl, rfl, hM⟩ := hrel
    by_cases hlt : j < n
    · obtain ⟨q, hq⟩ : ∃ q : Nat, x / 2 ^ (8 * j) = q := ⟨_, rfl⟩
      rw [hq]
      have hql : q < 18446744073709551616 := by rw [← hq]; exact Nat.lt_of_le_of_lt (Nat.div_le_self _ _) hx
      have hq2 : x / 2 ^ (8 * (j + 1)) = q / 256 := by rw [← hq, Nat.div_div_eq_div_mul, show 8 * (j + 1) = 8 * j + 8 by omega, Nat.pow_add]
      have hqx : (x : Int) / 2 ^ (8 * j) % 256 = (q : Int) % 256 := by rw [← hq]; simp
      have hnext : strOf (Pk.digs x (j + 1)) = strOf [(q : Int) % 256] ++ strOf (Pk.digs x j) := by rw [digs_succ, hqx, ← strOf_append]; rfl
      have hcv := fun wx : World => str_one wx ((q : Int) % 256) (by omega)
      have h1 : (strOf [(q : Int) % 256]).size = 1 := by rw [size_strOf]; rfl
      have h2 : (strOf (Pk.digs x j)).size = j := by rw [size_strOf, Pk.length_digs]
      obtain ⟨S1, hS1⟩ : ∃ S1, strOf [(q : Int) % 256] = S1 := ⟨_, rfl⟩
      obtain ⟨S2, hS2⟩ : ∃ S2, strOf (Pk.digs x j) = S2 := ⟨_, rfl⟩
      rw [hS1] at h1 hnext
      rw [hS2] at h2 hnext ⊢
      simp only [hS1] at hcv
      have hadd := run_cat S1 S2 (by omega)
      have hji : (j : Int) < (n : Int) := by omega
      have HN := Lib.hid hnext; have HQ := Lib.hid hq2
      clear hnext hq2 hqx hq hS1 hS2 h1 h2
      go_wp2_with fail
      go_roundw
      case rel => exact ⟨j + 1, by omega, by go_num, by rw [HQ.out]; rfl, by rw [HN.out], hM.alloc _⟩
      case measure => simp [intOf]; omega
    · have hjn : j = n := by omega
      subst hjn
      have hji : ¬ (j : Int) < (j : Int) := by omega
      go_wp2_with fail
      go_ret2
      exact ⟨rfl, hM⟩
end Go.Proofs.Ytcmbklofbemclaa
