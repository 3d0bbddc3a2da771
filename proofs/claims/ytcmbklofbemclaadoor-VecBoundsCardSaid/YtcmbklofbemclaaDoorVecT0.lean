/- vec: scans and units, plain. -/
import Derived.Test.YtcmbklofbemclaaDoorVecN
namespace Go.Proofs.YtcmbklofbemclaaDoor.FixM
open Go.RowKit Go.Proofs.YtcmbklofbemclaaDoor Go.Proofs.YtcmbklofbemclaaDoor.VVecB Go.Proofs.YtcmbklofbemclaaDoorW.PrintWords Go.Proofs.YtcmbklofbemclaaDoorW.PrintLast Go.Proofs.YtcmbklofbemclaaDoorW.PrintMore

theorem sinT_mod (h : Int) : sinT (h % 256) = sinT h := by unfold sinT; congr 2; omega
theorem sinT_eq {a b : Int} (h : a % 256 = b % 256) : sinT a = sinT b := by unfold sinT; rw [h]
theorem half_nat : (List.range 256).all (fun i => decide (sinT ((i : Int) + 128) = -sinT (i : Int))) = true := by decide +kernel
theorem sin_half (h : Int) : sinT (h + 128) = -sinT h := by
  obtain ⟨m, hm⟩ : ∃ m : Nat, h % 256 = (m : Int) := ⟨(h % 256).toNat, by omega⟩
  have h1 := List.all_eq_true.1 half_nat m (List.mem_range.2 (by omega))
  have h2 := of_decide_eq_true h1
  rw [sinT_eq (a := h + 128) (b := (m : Int) + 128) (by omega), sinT_eq (a := h) (b := (m : Int)) (by omega)]
  exact h2
theorem alive_eq : joustlaw13_alive.f 400 = some true := by decide +kernel
theorem alive_more (k : Nat) : joustlaw13_alive.f (400 + k) = some true := by
  induction k with
  | zero => exact alive_eq
  | succ k ih => exact joustlaw13_alive.mono (400 + k) true ih
theorem in_eq {x m : Int} (hm : 0 ≤ m ∧ m ≤ 9223372036854775807) : joustlaw13_in.f x m = some (decide (-m ≤ x ∧ x ≤ m)) := by
  unfold joustlaw13_in.f
  rw [w64_self (n := -m) (by unfold I64; omega)]
  by_cases h : x ≥ -m
  · rw [if_pos h]
    by_cases h2 : x ≤ m
    · rw [decide_eq_true h2, decide_eq_true ⟨h, h2⟩]
    · rw [decide_eq_false h2, decide_eq_false (fun h => h2 h.2)]
  · rw [if_neg h, decide_eq_false (fun h2 => h h2.1)]
theorem beq2 {a b c d : Int} (h1 : a = c) (h2 : b = d) : (a == c && (b == d)) = true := by subst h1 h2; simp
end Go.Proofs.YtcmbklofbemclaaDoor.FixM
