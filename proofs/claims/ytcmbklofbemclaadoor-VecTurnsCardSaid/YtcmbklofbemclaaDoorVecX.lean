/- VecTurns: plain, and the law's call. -/
import Derived.Test.YtcmbklofbemclaaDoorVecT0
import Derived.Test.YtcmbklofbemclaaDoorVVecTurnsx5
import Derived.Test.YtcmbklofbemclaaDoorSinL
namespace Go.Proofs.YtcmbklofbemclaaDoor.FixM
open Go.RowKit Go.Proofs.YtcmbklofbemclaaDoor Go.Proofs.YtcmbklofbemclaaDoor.VVecB Go.Proofs.YtcmbklofbemclaaDoorW.PrintWords Go.Proofs.YtcmbklofbemclaaDoorW.PrintLast Go.Proofs.YtcmbklofbemclaaDoorW.PrintMore

theorem vecTurns : VVecTurns.joustlaw13_VecTurns.Pure := by
  intro h j k _ _ _
  refine ⟨400 + 100, ?_⟩
  unfold VVecTurns.joustlaw13_VecTurns.f
  rw [alive_more]
  simp only [Option.bind_some, if_true, turn_eq]
  have hj0 : VVecTurns.joustlaw13_VecTurns.j0 (400 + 100) h false = some true := by
    rw [VVecTurns.joustlaw13_VecTurns.j0, if_neg (by decide)]
    simp only [turn_eq, unit_eq, Option.bind_some]
    have b1 := sinT_bd (h + 64)
    have b2 := sinT_bd h
    have e1 : sinT ((h + 128) % 256 + 64) = -sinT (h + 64) := by rw [sinT_eq (b := h + 64 + 128) (by omega), sin_half]
    have e2 : sinT ((h + 128) % 256) = -sinT h := by rw [sinT_mod, sin_half]
    have e3 : sinT ((h + 64) % 256 + 64) = -sinT h := by rw [sinT_eq (b := h + 128) (by omega), sin_half]
    have e4 : sinT ((h + 64) % 256) = sinT (h + 64) := sinT_mod _
    have e5 : sinT ((h + 0) % 256 + 64) = sinT (h + 64) := sinT_eq (by omega)
    have e6 : sinT ((h + 0) % 256) = sinT h := sinT_eq (by omega)
    rw [e1, e2, e3, e4, e5, e6, w64_self (n := -sinT (h + 64)) (by unfold I64; omega), w64_self (n := -sinT h) (by unfold I64; omega)]
    rw [if_pos (beq2 rfl rfl), if_pos (beq2 rfl rfl), if_pos (beq2 rfl rfl), in_eq (by decide), in_eq (by decide)]
    rw [decide_eq_true (show -65536 ≤ sinT (h + 64) ∧ sinT (h + 64) ≤ 65536 from b1), decide_eq_true (show -65536 ≤ sinT h ∧ sinT h ≤ 65536 from b2)]
    rfl
  rw [if_neg (by omega), if_neg (by omega), if_pos (by omega), if_pos (by omega), if_pos (by omega), if_pos (by omega)]
  have hb : ((h + -256) % 256 != (h + 0) % 256) = false := by
    have : (h + -256) % 256 = (h + 0) % 256 := by omega
    rw [this]; simp
  rw [hb]
  exact hj0
end Go.Proofs.YtcmbklofbemclaaDoor.FixM
namespace Go.Proofs.YtcmbklofbemclaaDoor
open Go.RowKit
theorem vecTurns_any (W : World) (hG : Sines W) (a b c : Int) (ha : (Lit.int .i64 a).wf = true) (hb : (Lit.int .i64 b).wf = true) (hc : (Lit.int .i64 c).wf = true) :
    Calls Tryd.prog 3 #[.int .i64 a, .int .i64 b, .int .i64 c] W fun e W' => e = .returned (.bool true) ∧ Mod none_ W W' := by
  obtain ⟨k, hk⟩ := FixM.vecTurns a b c ha hb hc
  exact (VVecTurns.joustlaw13_VecTurns.calls k a b c true W hk hG).mono fun e W' ⟨he, hd⟩ => ⟨he, Mod.of_below hd⟩
end Go.Proofs.YtcmbklofbemclaaDoor
