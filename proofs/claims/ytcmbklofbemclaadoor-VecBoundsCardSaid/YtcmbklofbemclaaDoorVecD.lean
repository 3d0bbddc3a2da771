/- VecBounds: the law's call. -/
import Derived.Test.YtcmbklofbemclaaDoorVecC
namespace Go.Proofs.YtcmbklofbemclaaDoor
open Go.RowKit Go.Proofs.YtcmbklofbemclaaDoorW.PrintWords Go.Proofs.YtcmbklofbemclaaDoor.VVecB

set_option maxHeartbeats 2000000 in
set_option maxRecDepth 100000 in
theorem vecBounds_any (w : World) (hG : Sines w) (ax ay bx by' k r n j : Int) (hax : FixM.I64 ax) (hay : FixM.I64 ay) (hbx : FixM.I64 bx) (hby : FixM.I64 by') (hk : FixM.I64 k) (hn : FixM.I64 n) :
    Calls Tryd.prog 5 #[.agg #[.int .i64 ax, .int .i64 ay, .int .i64 bx, .int .i64 by', .int .i64 k, .int .i64 r, .int .i64 n, .int .i64 j]] w fun e w' => e = .returned (.bool true) ∧ Mod none_ w w' := by
  go_enter Tryd.func5, Tryd.ntmps5
  go_upto_region 1 with fail
  obtain ⟨w1, hw1, hB1, hM1⟩ : ∃ w1, w.alloc (.cells #[.int .i64 ax, .int .i64 ay, .int .i64 bx, .int .i64 by', .int .i64 k, .int .i64 r, .int .i64 n, .int .i64 j] 34) = w1 ∧ Blk w1 w.heap.size [.int .i64 ax, .int .i64 ay, .int .i64 bx, .int .i64 by', .int .i64 k, .int .i64 r, .int .i64 n, .int .i64 j] 34 ∧ Mod none_ w w1 := ⟨_, rfl, Blk.new w [.int .i64 ax, .int .i64 ay, .int .i64 bx, .int .i64 by', .int .i64 k, .int .i64 r, .int .i64 n, .int .i64 j] _, (Mod.refl _ _).alloc _⟩
  rw [hw1]
  clear hw1
  go_wp2_with fail
  refine (joustlaw13_alive.calls 400 true _ FixM.alive_eq (hG.below hM1.below)).mono ?_
  rintro e w2 ⟨rfl, hb⟩
  have hM2 := hM1.then (Mod.of_below hb)
  have hB2 := (Mod.of_below (S := none_) hb).blk hB1 (fun h => h)
  have q0 := hB2.cell (j := 0) rfl; have q1 := hB2.cell (j := 1) rfl; have q2 := hB2.cell (j := 2) rfl; have q3 := hB2.cell (j := 3) rfl; have q4 := hB2.cell (j := 4) rfl; have q6 := hB2.cell (j := 6) rfl
  clear hb hM1 hB1 hB2
  go_wp2_with fail
  refine (bounds_any w2 ax ay bx by' k n hax hay hbx hby hk hn).mono ?_
  rintro e w3 ⟨rfl, hM3⟩
  have hM4 := hM2.then hM3
  clear q0 q1 q2 q3 q4 q6
  go_wp2_with fail
  go_ret
  exact ⟨rfl, hM4⟩
end Go.Proofs.YtcmbklofbemclaaDoor
