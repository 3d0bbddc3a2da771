/- pack's Writer: Signed, Text. -/
import Derived.Test.YtcmbklofbemclaaPkN
import Derived.Laws.Bits64
namespace Go.Proofs.Ytcmbklofbemclaa
open Go.RowKit

namespace Pk
/-- does the number fit, with its sign, into so many bytes? -/
def sfits (x k : Int) : Bool := decide (1 ≤ k ∧ k ≤ 8 ∧ (k < 8 → -(2 ^ (8 * k.toNat - 1)) ≤ x ∧ x < 2 ^ (8 * k.toNat - 1)))
theorem digs_mod (y n : Nat) : digs (((y % 2 ^ (8 * n) : Nat)) : Int) n = digs (y : Int) n := by
  unfold digs
  apply List.map_congr_left
  intro j hj
  have hjn := List.mem_range.1 hj
  obtain ⟨i, hi⟩ : ∃ i, n - 1 - j = i := ⟨_, rfl⟩
  rw [hi]
  have hin : i < n := by omega
  have e1 : (2 : Nat) ^ (8 * n) = 2 ^ (8 * i) * (256 * 2 ^ (8 * (n - 1 - i))) := by
    rw [show (256 : Nat) = 2 ^ 8 by decide, ← Nat.pow_add, ← Nat.pow_add]
    congr 1; omega
  have e2 : y % 2 ^ (8 * n) / 2 ^ (8 * i) % 256 = y / 2 ^ (8 * i) % 256 := by
    rw [e1, Nat.mod_mul_right_div_self, Nat.mod_mul_right_mod]
  have e3 : ((2 : Int) ^ (8 * i)) = (((2 : Nat) ^ (8 * i) : Nat) : Int) := by simp
  rw [e3]
  omega
theorem fits_mod (y n : Nat) (h1 : 1 ≤ n) (h8 : n ≤ 8) : fits (((y % 2 ^ (8 * n) : Nat)) : Int) (n : Int) = true := by
  rw [fits]
  refine decide_eq_true ⟨by omega, by omega, fun _ => ?_⟩
  rw [Int.toNat_natCast]
  have e3 : ((2 : Int) ^ (8 * n)) = (((2 : Nat) ^ (8 * n) : Nat) : Int) := by simp
  rw [e3, ← Int.natCast_ediv, Nat.div_eq_of_lt (Nat.mod_lt _ (Nat.pow_pos (by decide)))]
  rfl
theorem bits_and_nat (a b : Nat) (ha : a < 18446744073709551616) (hb : b < 18446744073709551616) : bits .and .u64 (a : Int) (b : Int) = ((a &&& b : Nat) : Int) := by
  have hx : a &&& b < 2 ^ 64 := Nat.and_lt_two_pow _ (by omega)
  have h1 : (BitVec.ofInt 64 (a : Int)).toNat = a := by rw [BitVec.ofInt_natCast, BitVec.toNat_ofNat]; exact Nat.mod_eq_of_lt (by omega)
  have h2 : (BitVec.ofInt 64 (b : Int)).toNat = b := by rw [BitVec.ofInt_natCast, BitVec.toNat_ofNat]; exact Nat.mod_eq_of_lt (by omega)
  show IntKind.u64.wrap ((BitVec.ofInt 64 (a : Int) &&& BitVec.ofInt 64 (b : Int)).toNat : Int) = _
  rw [BitVec.toNat_and, h1, h2, IntKind.wrap_u64]
  omega
/-- the mask of the lowest bytes -/
theorem mask (y n : Nat) (hy : y < 18446744073709551616) (hn : n < 8) : bits .and .u64 (y : Int) (IntKind.u64.wrap (IntKind.u64.wrap (2 ^ (8 * n)) - 1)) = ((y % 2 ^ (8 * n) : Nat) : Int) := by
  have hp : (2 : Nat) ^ (8 * n) < 18446744073709551616 := by
    have : (2 : Nat) ^ (8 * n) ≤ 2 ^ 56 := Nat.pow_le_pow_right (by decide) (by omega)
    omega
  have hp0 : 0 < (2 : Nat) ^ (8 * n) := Nat.pow_pos (by decide)
  have e3 : ((2 : Int) ^ (8 * n)) = (((2 : Nat) ^ (8 * n) : Nat) : Int) := by simp
  have e4 : IntKind.u64.wrap (IntKind.u64.wrap (2 ^ (8 * n)) - 1) = (((2 : Nat) ^ (8 * n) - 1 : Nat) : Int) := by
    rw [e3, IntKind.wrap_u64, IntKind.wrap_u64]; omega
  rw [e4, bits_and_nat _ _ hy (by omega), Nat.and_two_pow_sub_one_eq_mod]
end Pk

set_option maxHeartbeats 2000000 in
theorem w_signed (w : World) (base G V : Nat) (out : Value) (t : List Int) (e : Int) (x k : Int) (h : WrAt w base G V out t e) (hl : t.length + 8 ≤ 140737488355328) (hb : base ≤ w.heap.size) :
    Calls Try.prog 14 #[.pointer (some ⟨G, 0, none⟩), .int .i64 x, .int .i64 k] w fun en w' => en = .returned (.tuple #[]) ∧ WrTo w w' base G V out (Pk.put t e (Pk.sfits x k) (Pk.digs (x % 18446744073709551616) k.toNat)) := by
  have HC := Lib.hid (fail_any w base G V out t e h 51 (by decide))
  have HH := Lib.hid h
  clear h
  by_cases hk : 1 ≤ k ∧ k ≤ 8
  · have hd : decide (1 ≤ k ∧ k ≤ 8) = true := decide_eq_true hk
    obtain ⟨n, rfl⟩ : ∃ n : Nat, k = n := ⟨k.toNat, by omega⟩
    rw [Int.toNat_natCast]
    obtain ⟨hk1, hk8⟩ := hk
    have HD := Lib.hid hd
    clear hd
    go_enter Try.func14, Try.ntmps14
    go_wp2_with fail
    refine (sized_b w _ _ HD.out).mono ?_
    rintro en w1 ⟨rfl, rfl⟩
    by_cases h8 : n = 8
    · subst h8
      have hsf : Pk.sfits x 8 = true := by rw [Pk.sfits]; exact decide_eq_true ⟨by decide, by decide, fun h => absurd h (by decide)⟩
      have hft : Pk.fits (x % 18446744073709551616) 8 = true := by rw [Pk.fits]; exact decide_eq_true ⟨by decide, by decide, fun h => absurd h (by decide)⟩
      have hc := w_number w1 base G V out t e (IntKind.u64.wrap x) 8 HH.out hl hb
      rw [IntKind.wrap_u64, hft] at hc
      rw [← IntKind.wrap_u64] at hc
      have HN := Lib.hid hc; have HSF := Lib.hid hsf
      clear hc hsf hft
      go_wp2_with fail
      refine HN.out.mono ?_
      rintro en w2 ⟨rfl, hW⟩
      go_wp2_with fail
      refine bodyPost_ret (results_none rfl _ _ _) rfl ?_
      rw [IntKind.wrap_u64] at hW
      exact ⟨rfl, by rw [show ((8 : Nat) : Int) = 8 from rfl, HSF.out]; exact hW⟩
    · have h8' : ¬ (n : Int) = 8 := by omega
      have hn8 : n < 8 := by omega
      obtain ⟨Bd, hBd, hB1, hB2⟩ : ∃ Bd : Int, (2 : Int) ^ (8 * n - 1) = Bd ∧ 1 ≤ Bd ∧ Bd ≤ 36028797018963968 := by
        have : n = 1 ∨ n = 2 ∨ n = 3 ∨ n = 4 ∨ n = 5 ∨ n = 6 ∨ n = 7 := by omega
        rcases this with rfl | rfl | rfl | rfl | rfl | rfl | rfl <;> exact ⟨_, rfl, by decide, by decide⟩
      have hwB : wrap64 Bd = Bd := by unfold wrap64; omega
      have hsf : Pk.sfits x n = decide (-Bd ≤ x ∧ x < Bd) := by
        rw [Pk.sfits, Int.toNat_natCast, hBd]
        exact decide_eq_decide.2 ⟨fun h => h.2.2 (by omega), fun h => ⟨hk1, hk8, fun _ => h⟩⟩
      obtain ⟨y, hy, hyl⟩ : ∃ y : Nat, x % 18446744073709551616 = (y : Int) ∧ y < 18446744073709551616 := ⟨(x % 18446744073709551616).toNat, by omega, by omega⟩
      have hyw : IntKind.u64.wrap x = (y : Int) := by rw [IntKind.wrap_u64, hy]
      have HY := Lib.hid hy
      clear hy
      have hmk := Pk.mask y n hyl hn8
      have hc := w_number w1 base G V out t e (((y % 2 ^ (8 * n) : Nat)) : Int) n HH.out hl hb
      rw [Pk.fits_mod y n (by omega) (by omega), Int.toNat_natCast, Pk.digs_mod, ← hmk] at hc
      have HN := Lib.hid hc; have HSF := Lib.hid hsf
      clear hc hsf hmk
      go_upto_region 5 with fail
      rw [hBd]
      clear hBd
      have hnB : wrap64 (-Bd) = -Bd := by unfold wrap64; omega
      by_cases h1 : x < -Bd
      · have hno : Pk.sfits x n = false := by rw [HSF.out]; exact decide_eq_false (fun h => by omega)
        have HNO := Lib.hid hno
        clear hno
        go_wp2_with fail
        refine HC.out.mono ?_
        rintro en w2 ⟨rfl, hM, hW⟩
        go_wp2_with fail
        refine bodyPost_ret (results_none rfl _ _ _) rfl ?_
        exact ⟨rfl, by rw [HNO.out, put_no]; exact ⟨hM.mono (fun _ _ h => Or.inl h), _, hW, fun _ hb => Or.inl hb⟩⟩
      · by_cases h2 : Bd ≤ x
        · have hno : Pk.sfits x n = false := by rw [HSF.out]; exact decide_eq_false (fun h => by omega)
          have HNO := Lib.hid hno
          clear hno
          go_wp2_with fail
          refine HC.out.mono ?_
          rintro en w2 ⟨rfl, hM, hW⟩
          go_wp2_with fail
          refine bodyPost_ret (results_none rfl _ _ _) rfl ?_
          exact ⟨rfl, by rw [HNO.out, put_no]; exact ⟨hM.mono (fun _ _ h => Or.inl h), _, hW, fun _ hb => Or.inl hb⟩⟩
        · have hyes : Pk.sfits x n = true := by rw [HSF.out]; exact decide_eq_true ⟨by omega, by omega⟩
          have HYES := Lib.hid hyes
          clear hyes
          go_wp2_with fail
          refine HN.out.mono ?_
          rintro en w2 ⟨rfl, hW⟩
          go_wp2_with fail
          go_end0
          exact ⟨rfl, by rw [HYES.out, HY.out]; exact hW⟩
  · have hd : decide (1 ≤ k ∧ k ≤ 8) = false := decide_eq_false hk
    have hp : Pk.put t e (Pk.sfits x k) (Pk.digs (x % 18446744073709551616) k.toNat) = (t, if e = 0 then 51 else e) := by
      have : Pk.sfits x k = false := by rw [Pk.sfits]; exact decide_eq_false (fun h => hk ⟨h.1, h.2.1⟩)
      rw [this, put_no]
    have HP := Lib.hid hp
    clear hp
    go_enter Try.func14, Try.ntmps14
    go_wp2_with fail
    refine (sized_b w _ _ hd).mono ?_
    rintro en w1 ⟨rfl, rfl⟩
    go_wp2_with fail
    refine HC.out.mono ?_
    rintro en w2 ⟨rfl, hM, hW⟩
    go_wp2_with fail
    refine bodyPost_ret (results_none rfl _ _ _) rfl ?_
    exact ⟨rfl, by rw [HP.out]; exact ⟨hM.mono (fun _ _ h => Or.inl h), _, hW, fun _ hb => Or.inl hb⟩⟩

theorem digs_one (L : Int) (h : 0 ≤ L ∧ L ≤ 255) : Pk.digs L 1 = [L] := by
  unfold Pk.digs
  simp
  omega
set_option maxHeartbeats 1000000 in
theorem w_text (w : World) (base G V : Nat) (out : Value) (t : List Int) (e : Int) (s : ByteArray) (h : WrAt w base G V out t e) (hl : t.length + 8 + s.size ≤ 140737488355328) (hb : base ≤ w.heap.size) :
    Calls Try.prog 18 #[.pointer (some ⟨G, 0, none⟩), .string s] w fun en w' => en = .returned (.tuple #[]) ∧ WrTo w w' base G V out (Pk.put t e (decide (s.size ≤ 255)) ((s.size : Int) :: num s)) := by
  by_cases hs : s.size ≤ 255
  · have hi : ¬ (255 : Int) < (s.size : Int) := by omega
    have hd : decide (s.size ≤ 255) = true := decide_eq_true hs
    have hft : Pk.fits (s.size : Int) 1 = true := by
      rw [Pk.fits]
      refine decide_eq_true ⟨by decide, by decide, fun _ => ?_⟩
      show (s.size : Int) / 2 ^ (8 * 1) = 0
      omega
    have hc := w_number w base G V out t e (s.size : Int) 1 h (by omega) hb
    rw [hft, show (1 : Int).toNat = 1 from rfl, digs_one _ (by omega)] at hc
    have HN := Lib.hid hc; have HD := Lib.hid hd
    clear hc hft hd
    go_enter Try.func18, Try.ntmps18
    go_wp2_with fail
    refine HN.out.mono ?_
    rintro en w2 ⟨rfl, hM2, out2, h2, ho2⟩
    by_cases he : e = 0
    · subst he
      rw [put_ok] at h2
      have q2 : w2.cell? ⟨G, 2, none⟩ = some (layOf V 0) := h2.row.cell rfl
      rw [layOf, if_pos rfl] at q2
      have HC := Lib.hid (lay_any w2 base G V out2 (t ++ [(s.size : Int)]) s h2 (by simp; omega) (Nat.le_trans hb hM2.size))
      have hG := h.row.lt
      have hsz := hM2.size
      go_wp2_with fail
      refine HC.out.mono ?_
      rintro en w3 ⟨rfl, hM3, out3, h3, ho3⟩
      go_wp2_with fail
      go_end0
      refine ⟨rfl, hM2.trans hM3 (fun b hb e => ?_), out3, by rw [HD.out, put_ok]; simpa using h3, fun b hb => ?_⟩
      · rcases e with e | e
        · exact Or.inl e
        · rcases ho2 b e with h | h
          · exact Or.inr h
          · omega
      · rcases ho3 b hb with h | h
        · exact ho2 b h
        · exact Or.inr (Nat.le_trans hsz h)
    · rw [put_err _ _ _ he] at h2
      have q2 : w2.cell? ⟨G, 2, none⟩ = some (layOf V e) := h2.row.cell rfl
      rw [layOf, if_neg he] at q2
      go_wp2_with fail
      refine (nop_any w2 s).mono ?_
      rintro en w3 ⟨rfl, rfl⟩
      go_wp2_with fail
      go_end0
      exact ⟨rfl, hM2, out2, by rw [HD.out, put_err _ _ _ he]; exact h2, ho2⟩
  · have hi : (255 : Int) < (s.size : Int) := by omega
    have hd : decide (s.size ≤ 255) = false := decide_eq_false hs
    have HC := Lib.hid (fail_any w base G V out t e h 51 (by decide)); have HD := Lib.hid hd
    clear hd
    go_enter Try.func18, Try.ntmps18
    go_wp2_with fail
    refine HC.out.mono ?_
    rintro en w2 ⟨rfl, hM, hW⟩
    go_wp2_with fail
    refine bodyPost_ret (results_none rfl _ _ _) rfl ?_
    exact ⟨rfl, by rw [HD.out, put_no]; exact ⟨hM.mono (fun _ _ h => Or.inl h), _, hW, fun _ hb => Or.inl hb⟩⟩
end Go.Proofs.Ytcmbklofbemclaa
