/- SHA walks: the leaves. -/
import Derived.Test.YtlndgnlkfhlekaaDoorRows
import Derived.Test.YtlndgnlkfhlekaaDoorShaP
import Derived.WalkKit
import Derived.BigQuiet
import Derived.Lib.Hide
import Derived.BigRegion
import Derived.Deep.QuietTactic
import Derived.Outline
namespace Go.Proofs.YtlndgnlkfhlekaaDoor
open Go.RowKit


theorem neg_and31 (n : Nat) (h0 : 1 ≤ n) (h1 : n ≤ 31) : bits BinOp.and IntKind.u64 (IntKind.u64.wrap (-(n : Int))) 31 = 32 - (n : Int) := by
  have : ∀ m : Nat, m < 31 → bits BinOp.and IntKind.u64 (IntKind.u64.wrap (-((m + 1 : Nat) : Int))) 31 = 32 - ((m + 1 : Nat) : Int) := by decide +kernel
  have h := this (n - 1) (by omega)
  rwa [show n - 1 + 1 = n by omega] at h

theorem rotl_any (x : Int) (n : Nat) (w : World) (_hx0 : 0 ≤ x) (_hx : x < 4294967296) (h0 : 1 ≤ n) (h1 : n ≤ 31) :
    Calls Tryd.prog 45 #[.int .u32 x, .int .i64 (-(n : Int))] w fun e w' => e = .returned (.int .u32 (Sha.rot x n)) ∧ w = w' := by
  have hb := neg_and31 n h0 h1
  go_enter Tryd.func45, Tryd.ntmps45
  go_wp2
  go_ret
  exact ⟨ret_int (by rw [Sha.rot, show 32 - (32 - n) = n by omega]), rfl⟩

theorem rot_any (x : Int) (n : Nat) (w : World) (_hx0 : 0 ≤ x) (_hx : x < 4294967296) (h0 : 1 ≤ n) (h1 : n ≤ 31) :
    Calls Tryd.prog 41 #[.int .u32 x, .int .i64 n] w fun e w' => e = .returned (.int .u32 (Sha.rot x n)) ∧ w = w' := by
  go_enter Tryd.func41, Tryd.ntmps41
  go_wp2_with (go_at_call 45; refine (rotl_any _ _ _ (by omega) (by omega) (by omega) (by omega)).mono ?_; rintro e w' ⟨rfl, rfl⟩)
  go_ret
  exact ⟨rfl, rfl⟩

theorem rot_int (x n : Int) (w : World) (hx0 : 0 ≤ x) (hx : x < 4294967296) (h0 : 1 ≤ n) (h1 : n ≤ 31) :
    Calls Tryd.prog 41 #[.int .u32 x, .int .i64 n] w fun e w' => e = .returned (.int .u32 (Sha.rot x n.toNat)) ∧ w = w' := by
  have h := rot_any x n.toNat w hx0 hx (by omega) (by omega)
  rwa [Int.toNat_of_nonneg (by omega)] at h

theorem rot_still (x n : Int) (w : World) (hx0 : 0 ≤ x) (hx : x < 4294967296) (h0 : 1 ≤ n) (h1 : n ≤ 31) :
    Calls Tryd.prog 41 #[.int .u32 x, .int .i64 n] w fun e w' => e = .returned (.int .u32 (Sha.rot x n.toNat)) ∧ w' = w :=
  (rot_int x n w hx0 hx h0 h1).mono fun _ _ ⟨a, b⟩ => ⟨a, b.symm⟩

theorem or32_comm (a b : Int) : bits BinOp.or IntKind.u32 a b = bits BinOp.or IntKind.u32 b a := by
  simp only [bits, BitVec.or_comm]

theorem turn_any (x : Int) (n : Nat) (w : World) (_hx0 : 0 ≤ x) (_hx : x < 4294967296) (h0 : 1 ≤ n) (h1 : n ≤ 31) :
    Calls Tryd.prog 44 #[.int .u32 x, .int .i64 n] w fun e w' => e = .returned (.int .u32 (Sha.rot x n)) ∧ ∃ q, w' = w.drewN q := by
  go_enter Tryd.func44, Tryd.ntmps44
  go_wp2
  go_quiet (fail)
  go_wp2
  go_ret
  exact ⟨ret_int (by rw [Sha.rot, or32_comm]), _, rfl⟩
end Go.Proofs.YtlndgnlkfhlekaaDoor
