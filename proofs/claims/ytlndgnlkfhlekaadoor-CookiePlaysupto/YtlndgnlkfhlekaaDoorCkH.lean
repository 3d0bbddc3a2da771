/- joustlaw10's alive, number, few: the walks. -/
import Derived.Test.YtlndgnlkfhlekaaDoorCkG
namespace Go.Proofs.YtlndgnlkfhlekaaDoor
open Go.RowKit

namespace Ck
theorem tell1 : tell 1 S1 zeroB xB nB 1 C1 = 0 := by rw [tell, val2, if_neg (by decide), if_pos rfl, if_pos rfl]
theorem tell2 : tell 1 S1 zeroB yB nB 1 C1 = 101 := by rw [tell, val3, if_neg (by decide), if_pos rfl, if_neg ne1]
theorem tell3 : tell 1 S1 zeroB xB nB 2 C1 = 100 := by rw [tell, if_neg (by decide), if_neg (by decide), if_neg (by decide)]
theorem tell4 : tell 2 S2 S1 xB nB 1 C1 = 0 := by rw [tell, val2, if_neg (by decide), if_neg (by decide), if_pos (by decide), if_pos rfl]
end Ck
theorem rounds_lt {w : World} (hK : Rounds w) {b : Nat} (h : w.heap.size ≤ b) : b ≠ 0 := by
  have := World.block_lt_of_cell? _ _ (hK 0 (by omega))
  have h2 : 0 < w.heap.size := this
  omega
theorem Mod.own {w w1 w2 : World} {b : Nat} (h : Mod none_ w w1) (k : Mod (only b) w1 w2) (hb : w.heap.size ≤ b) : Mod none_ w w2 := h.trans k (fun j hj e => by have : j = b := e; omega)

set_option maxHeartbeats 2000000 in
set_option maxRecDepth 100000 in
theorem alive10_any (w : World) (hK : Rounds w) : Calls Tryd.prog 8 #[] w fun r w' => r = .returned (.bool true) ∧ Mod none_ w w' := by
  have fx : Fits Ck.xB := by unfold Fits; decide
  have fy : Fits Ck.yB := by unfold Fits; decide
  have fn : Fits Ck.nB := by unfold Fits; decide
  have fs : Fits Ck.sB := by unfold Fits; decide
  have fc : Fits Ck.chanceB := by unfold Fits; decide
  have HK := Lib.hid hK
  clear hK
  go_enter Tryd.func8, Tryd.ntmps8
  go_wp2_with fail
  refine (ckNew_any w HK.out Ck.sB fs).mono ?_
  rintro r w1 ⟨j, rfl, hj, hJ, hM⟩
  have hjr := rounds_lt HK.out hj
  rw [Ck.val1] at hJ
  have HJ := Lib.hid hJ; have HM := Lib.hid hM
  clear hJ hM
  go_wp2_with fail
  refine (ckBake_any w1 (HK.out.mod HM.out (fun h => h)) j 1 _ _ Ck.xB Ck.nB HJ.out fx fn).mono ?_
  rintro r w2 ⟨rfl, hM⟩
  rw [Ck.val2]
  have HJ2 := Lib.hid (HJ.out.mod hM (fun h => h)); have HM2 := Lib.hid (HM.out.then hM)
  clear hM HJ HM
  go_wp2_with fail
  refine (ckEpoch_any w2 j 1 _ _ HJ2.out).mono ?_
  rintro r w3 ⟨rfl, rfl⟩
  go_wp2_with fail
  refine (ckCheck_any w3 (HK.out.mod HM2.out (fun h => h)) j 1 _ _ Ck.xB Ck.nB Ck.C1 1 (by omega) HJ2.out fx fn).mono ?_
  rintro r w4 ⟨rfl, hM⟩
  rw [Ck.tell1]
  have HJ4 := Lib.hid (HJ2.out.mod hM (fun h => h)); have HM4 := Lib.hid (HM2.out.then hM)
  clear hM HJ2 HM2
  go_wp2_with fail
  refine (ckCheck_any w4 (HK.out.mod HM4.out (fun h => h)) j 1 _ _ Ck.yB Ck.nB Ck.C1 1 (by omega) HJ4.out fy fn).mono ?_
  rintro r w5 ⟨rfl, hM⟩
  rw [Ck.tell2]
  have HJ5 := Lib.hid (HJ4.out.mod hM (fun h => h)); have HM5 := Lib.hid (HM4.out.then hM)
  clear hM HJ4 HM4
  go_wp2_with fail
  refine (ckCheck_any w5 (HK.out.mod HM5.out (fun h => h)) j 1 _ _ Ck.xB Ck.nB Ck.C1 2 (by omega) HJ5.out fx fn).mono ?_
  rintro r w6 ⟨rfl, hM⟩
  rw [Ck.tell3]
  have HJ6 := Lib.hid (HJ5.out.mod hM (fun h => h)); have HM6 := Lib.hid (HM5.out.then hM)
  clear hM HJ5 HM5
  go_wp2_with fail
  refine (ckTurn_any w6 (HK.out.mod HM6.out (fun h => h)) j hjr 1 (by omega) _ _ Ck.chanceB HJ6.out fc).mono ?_
  rintro r w7 ⟨rfl, hJ, hM⟩
  rw [Ck.val4] at hJ
  have HJ7 := Lib.hid hJ; have HM7 := Lib.hid (HM6.out.own hM hj)
  clear hM hJ HJ6 HM6
  go_wp2_with fail
  refine (ckEpoch_any w7 j 2 _ _ HJ7.out).mono ?_
  rintro r w8 ⟨rfl, rfl⟩
  go_wp2_with fail
  refine (ckCheck_any w8 (HK.out.mod HM7.out (fun h => h)) j 2 _ _ Ck.xB Ck.nB Ck.C1 1 (by omega) HJ7.out fx fn).mono ?_
  rintro r w9 ⟨rfl, hM⟩
  rw [Ck.tell4]
  have HJ9 := Lib.hid (HJ7.out.mod hM (fun h => h)); have HM9 := Lib.hid (HM7.out.then hM)
  clear hM HJ7 HM7
  go_wp2_with fail
  refine (ckBake_any w9 (HK.out.mod HM9.out (fun h => h)) j 2 _ _ Ck.xB Ck.nB HJ9.out fx fn).mono ?_
  rintro r w10 ⟨rfl, hM⟩
  rw [Ck.val5]
  have hM10 := HM9.out.then hM
  have hne : (Ck.C2.toList == Ck.C1.toList) = false := by decide +kernel
  clear hM HJ9 HM9
  go_wp2_with fail
  go_ret
  exact ⟨rfl, hM10⟩
end Go.Proofs.YtlndgnlkfhlekaaDoor
