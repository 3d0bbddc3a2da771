/- What is laid is taken: plain. -/
import Derived.Test.YtcmbklofbemclaaPkLay
namespace Go.Proofs.Ytcmbklofbemclaa
open Go.RowKit

namespace Rd
theorem val_cons (b : Int) (l : List Int) : val (b :: l) = b.toNat * 256 ^ l.length + val l := by
  have : ∀ (l : List Int) (a : Nat), l.foldl (fun a b => a * 256 + b.toNat) a = a * 256 ^ l.length + l.foldl (fun a b => a * 256 + b.toNat) 0 := by
    intro l
    induction l with
    | nil => intro a; simp
    | cons c l ih =>
      intro a
      rw [List.foldl_cons, List.foldl_cons, ih, ih (0 * 256 + c.toNat), List.length_cons, Nat.pow_succ, Nat.add_mul]
      have e : a * 256 * 256 ^ l.length = a * (256 ^ l.length * 256) := by rw [Nat.mul_assoc, Nat.mul_comm 256]
      rw [e, Nat.zero_mul, Nat.zero_add]
      omega
  rw [val, List.foldl_cons, this, Nat.zero_mul, Nat.zero_add]; rfl
theorem val_digs (x n : Nat) : val (Pk.digs (x : Int) n) = x % 256 ^ n := by
  induction n with
  | zero => rw [digs_nil]; simp [val, Nat.mod_one]
  | succ n ih =>
    rw [digs_succ, val_cons, ih, Pk.length_digs]
    have e : ((x : Int) / 2 ^ (8 * n) % 256).toNat = x / 256 ^ n % 256 := by
      have e2 : ((2 : Int) ^ (8 * n)) = ((256 ^ n : Nat) : Int) := by rw [Int.pow_mul]; simp
      rw [e2]; omega
    rw [e, Nat.pow_succ, Nat.mod_mul, Nat.mul_comm (256 ^ n) (x / 256 ^ n % 256)]
    omega
theorem pow256 (n : Nat) : (2 : Int) ^ (8 * n) = ((256 ^ n : Nat) : Int) := by rw [Int.pow_mul]; simp
theorem fits_lt (x : Nat) (k : Int) (hx : x < 18446744073709551616) (h : Pk.fits (x : Int) k = true) : 1 ≤ k ∧ k ≤ 8 ∧ x < 256 ^ k.toNat := by
  simp only [Pk.fits, decide_eq_true_eq] at h
  obtain ⟨h1, h2, h3⟩ := h
  refine ⟨h1, h2, ?_⟩
  by_cases h8 : k < 8
  · have h4 := h3 h8
    rw [pow256, ← Int.natCast_ediv] at h4
    have h5 : x / 256 ^ k.toNat = 0 := by omega
    rcases Nat.div_eq_zero_iff.1 h5 with h6 | h6
    · have : 0 < 256 ^ k.toNat := Nat.pow_pos (by decide)
      omega
    · exact h6
  · obtain rfl : k = 8 := by omega
    exact hx
theorem take_app (a r : List Int) : take (a ++ r) 0 a.length = (a, (r, 0)) := by simp [take]
theorem number_back (x : Nat) (k : Int) (r : List Int) (hx : x < 18446744073709551616) (h : Pk.fits (x : Int) k = true) : number (Pk.digs (x : Int) k.toNat ++ r) 0 k = (x, (r, 0)) := by
  obtain ⟨h1, h2, h3⟩ := fits_lt x k hx h
  have e := take_app (Pk.digs (x : Int) k.toNat) r
  rw [Pk.length_digs] at e
  rw [number, if_pos ⟨h1, h2⟩, e]
  simp only
  rw [val_digs, Nat.mod_eq_of_lt h3]
theorem sfits_lt (x k : Int) (h : Pk.sfits x k = true) : 1 ≤ k ∧ k ≤ 8 ∧ (k < 8 → -(2 ^ (8 * k.toNat - 1)) ≤ x ∧ x < 2 ^ (8 * k.toNat - 1)) := by
  unfold Pk.sfits at h
  exact of_decide_eq_true h
theorem signed_back (x k : Int) (r : List Int) (hx : -9223372036854775808 ≤ x ∧ x ≤ 9223372036854775807) (h : Pk.sfits x k = true) : signed (Pk.digs (x % 18446744073709551616) k.toNat ++ r) 0 k = (x, (r, 0)) := by
  obtain ⟨h1, h2, h3⟩ := sfits_lt x k h
  obtain ⟨n, rfl⟩ : ∃ n : Nat, k = n := ⟨k.toNat, by omega⟩
  rw [Int.toNat_natCast] at h3 ⊢
  obtain ⟨y, hy⟩ : ∃ y : Nat, x % 18446744073709551616 = y := ⟨(x % 18446744073709551616).toNat, by omega⟩
  rw [hy]
  have e := take_app (Pk.digs (y : Int) n) r
  rw [Pk.length_digs] at e
  have hn : number (Pk.digs (y : Int) n ++ r) 0 (n : Int) = (y % 256 ^ n, (r, 0)) := by
    rw [number, if_pos ⟨h1, h2⟩, Int.toNat_natCast, e]
    simp only
    rw [val_digs]
  rw [signed, hn]
  simp only [if_true, Int.toNat_natCast]
  congr 1
  unfold sx
  have : n = 1 ∨ n = 2 ∨ n = 3 ∨ n = 4 ∨ n = 5 ∨ n = 6 ∨ n = 7 ∨ n = 8 := by omega
  rcases this with rfl | rfl | rfl | rfl | rfl | rfl | rfl | rfl <;> simp only [Nat.reducePow, Nat.reduceMul, Nat.reduceSub, Int.reducePow] at h3 ⊢ <;> split <;> omega
theorem ask_back (s : ByteArray) (r : List Int) : ask (num s ++ r) 0 (s.size : Int) false = (num s, (r, 0)) := by
  have e := take_app (num s) r
  rw [length_num] at e
  rw [ask, if_neg (by simp), Int.toNat_natCast, e]
theorem text_back (s : ByteArray) (r : List Int) : text ((s.size : Int) :: num s ++ r) 0 = (num s, (r, 0)) := by
  have e1 : number ((s.size : Int) :: num s ++ r) 0 1 = (s.size, (num s ++ r, 0)) := by
    have e := take_app [(s.size : Int)] (num s ++ r)
    rw [number, if_pos (by decide)]
    have e2 : take ((s.size : Int) :: num s ++ r) 0 (1 : Int).toNat = ([(s.size : Int)], (num s ++ r, 0)) := e
    rw [e2]
    simp [val]
  rw [text, e1]
  have e := take_app (num s) r
  rw [length_num] at e
  exact e
end Rd

namespace Pk
theorem step_ok (t : List Int) (o : PkOp) (h : oks o = true) : step (t, 0) o = (t ++ bts o, 0) := by simp [step, h, put]
theorem step_no (t : List Int) (o : PkOp) (h : oks o = false) : step (t, 0) o = (t, 51) := by simp [step, h, put]
theorem step_51 (t : List Int) (o : PkOp) : step (t, 51) o = (t, 51) := by cases h : oks o <;> simp [step, h, put]
theorem run_51 (t : List Int) (ops : List PkOp) : ops.foldl step (t, 51) = (t, 51) := by
  induction ops with
  | nil => rfl
  | cons o l ih => rw [List.foldl_cons, step_51, ih]
theorem run_e (ops : List PkOp) : ∀ t, (ops.foldl step (t, 0)).2 = 51 ∨ ((ops.foldl step (t, 0)) = (t ++ ops.flatMap bts, 0) ∧ ∀ o ∈ ops, oks o = true) := by
  induction ops with
  | nil => intro t; right; simp
  | cons o l ih =>
    intro t
    cases h : oks o with
    | true =>
      rw [List.foldl_cons, step_ok t o h]
      rcases ih (t ++ bts o) with h1 | ⟨h1, h2⟩
      · exact Or.inl h1
      · right
        refine ⟨by rw [h1, List.flatMap_cons, List.append_assoc], fun x hx => ?_⟩
        rcases List.mem_cons.1 hx with rfl | hx
        · exact h
        · exact h2 x hx
    | false => rw [List.foldl_cons, step_no t o h, run_51]; exact Or.inl rfl
end Pk
end Go.Proofs.Ytcmbklofbemclaa
