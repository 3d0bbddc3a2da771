/- The reference of chapter 1: plan. -/
import Derived.Test.YtlndgnlkfhlekaaDoorRefA
import Derived.Deep.RegionHeld3
import Derived.IntWalk
namespace Go.Proofs.YtlndgnlkfhlekaaDoor
open Go.RowKit
theorem under_w64 : Tryd.prog.underlying 81 = some (.array 64 76) := by kernel_rfl
theorem size_w64 : (Tryd.prog.info? 81).map (·.size) = some 64 := by kernel_rfl

theorem cell_set_off (w : World) (b i j : Nat) (v : Value) (h : j ≠ i) : (w.setCell ⟨b, i, none⟩ v).cell? ⟨b, j, none⟩ = w.cell? ⟨b, j, none⟩ :=
  by
  apply World.cell?_setCell_other
  intro e
  have := congrArg Addr.off e
  exact h this.symm
theorem turn_i (x n : Int) (w : World) (hx0 : 0 ≤ x) (hx : x < 4294967296) (h0 : 1 ≤ n) (h1 : n ≤ 31) :
    Calls Tryd.prog 44 #[.int .u32 x, .int .i64 n] w fun e w' => e = .returned (.int .u32 (Sha.rot x n.toNat)) ∧ ∃ q, w' = w.drewN q := by
  have h := turn_any x n.toNat w hx0 hx (by omega) (by omega)
  rwa [Int.toNat_of_nonneg (by omega)] at h

set_option maxHeartbeats 2000000 in
set_option maxRecDepth 100000 in
theorem plan_any (w : World) (b n at_ : Nat) (blk : List Int) (hat : at_ + 64 ≤ n) (hn : n ≤ 140737488355328)
    (hbd : ∀ i, 0 ≤ Sha.g blk i ∧ Sha.g blk i ≤ 255) (hc : ∀ i, i < 64 → w.cell? ⟨b, at_ + i, none⟩ = some (.int .u8 (Sha.g blk i))) :
    Calls Tryd.prog 43 #[.slice (some ⟨b, 0, none⟩) n n, .int .i64 at_] w fun e w' => e = .returned (.agg (Sha.wcells (Sha.sched blk 64)).toArray) ∧ Mod none_ w w' := by
  have hz : Sha.wcells (Sha.sched blk 0 ++ Sha.zeros (64 - 0)) = List.replicate 64 (.int .u32 0) := by simp [Sha.wcells, Sha.sched, Sha.zeros]
  have hbl : b < w.heap.size := World.block_lt_of_cell? _ _ (hc 0 (by omega))
  have HZ := Lib.hid hz; clear hz
  have HC := Lib.hid hc; clear hc
  go_enter Tryd.func43, Tryd.ntmps43
  go_upto_region 2 with fail
  obtain ⟨w2, hw2, hR2, hW2, hM2, hs2⟩ : ∃ w2, (w.alloc (.cells (List.replicate 64 (.int .u32 0)).toArray 81)).alloc (.cells (List.replicate 64 (.int .u32 0)).toArray 81) = w2 ∧ Blk w2 w.heap.size (List.replicate 64 (.int .u32 0)) 81 ∧ Blk w2 (w.heap.size + 1) (Sha.wcells (Sha.sched blk 0 ++ Sha.zeros (64 - 0))) 81 ∧ Mod none_ w w2 ∧ w2.heap.size = w.heap.size + 2 := by
    refine ⟨_, rfl, (Blk.new w _ _).alloc _, ?_, ((Mod.refl _ _).alloc _).alloc _, by simp⟩
    rw [HZ.out]
    have := Blk.new (w.alloc (.cells (List.replicate 64 (.int .u32 0)).toArray 81)) (List.replicate 64 (.int .u32 0)) 81
    simpa using this
  change Code.wp _ _ _ _ ((w.alloc (.cells (List.replicate 64 (.int .u32 0)).toArray 81)).alloc (.cells (List.replicate 64 (.int .u32 0)).toArray 81))
  rw [hw2]
  clear hw2
  generalize hA : w.heap.size + 1 = A at *
  have hAw : w.heap.size < A := by omega
  go_wp2_with fail
  go_loopw [6] (fun i wr => ∃ k : Nat, k ≤ 16 ∧ i = .int .i64 k ∧ Blk wr A (Sha.wcells (Sha.sched blk k ++ Sha.zeros (64 - k))) 81 ∧ Blk wr w.heap.size (List.replicate 64 (.int .u32 0)) 81 ∧ Mod none_ w wr) (fun i _ => 16 - (intOf i).toNat)
  case atStart => exact ⟨0, by omega, rfl, hW2, hR2, hM2⟩
  case round =>
    clear hR2 hW2 hM2 hs2 w2
    obtain ⟨k, hk, rfl, hW, hR, hM⟩ := hrel
    by_cases hlt : k < 16
    · have c0 : wr.cell? ⟨b, at_ + 4 * k, none⟩ = some (.int .u8 (Sha.g blk (4 * k))) := hM.cellS (HC.out (4 * k) (by omega)) (fun h => h)
      have c1 : wr.cell? ⟨b, at_ + 4 * k + 1, none⟩ = some (.int .u8 (Sha.g blk (4 * k + 1))) := hM.cellS (HC.out (4 * k + 1) (by omega)) (fun h => h)
      have c2 : wr.cell? ⟨b, at_ + 4 * k + 2, none⟩ = some (.int .u8 (Sha.g blk (4 * k + 2))) := hM.cellS (HC.out (4 * k + 2) (by omega)) (fun h => h)
      have c3 : wr.cell? ⟨b, at_ + 4 * k + 3, none⟩ = some (.int .u8 (Sha.g blk (4 * k + 3))) := hM.cellS (HC.out (4 * k + 3) (by omega)) (fun h => h)
      have d0 : wr.cell? ⟨A, k, none⟩ = some (.int .u32 0) := hW.cell (Sha.get_sched_zero _ _ _ (by omega) (by omega))
      have f0 : wr.frozen? ⟨A, k, none⟩ = false := hW.frozen k
      have b0 := hbd (4 * k)
      have b1 := hbd (4 * k + 1)
      have b2 := hbd (4 * k + 2)
      have b3 := hbd (4 * k + 3)
      go_wp2
      go_region
      go_wp2
      go_roundw
      case rel => exact ⟨k + 1, by omega, by go_num, (hW.set k _).cs (Sha.set_sched blk k (by omega) _ (by rw [if_pos hlt]; simp [Sha.word, Sha.word4, Sha.or])), hR.set_other (by simp; omega) _, (hM.setCell (fun h => absurd h (by simp; omega)) _).drew⟩
      case measure => simp [intOf]; omega
    · have hW' : Blk wr A (Sha.wcells (Sha.sched blk 16 ++ Sha.zeros (64 - 16))) 81 := by
        have e : k = 16 := by omega
        rw [e] at hW; exact hW
      clear hbd hW
      go_wp2
      go_loopw [8] (fun t wr => ∃ k : Nat, 16 ≤ k ∧ k ≤ 64 ∧ t = .int .i64 k ∧ Blk wr A (Sha.wcells (Sha.sched blk k ++ Sha.zeros (64 - k))) 81 ∧ Blk wr w.heap.size (List.replicate 64 (.int .u32 0)) 81 ∧ Mod none_ w wr) (fun t _ => 64 - (intOf t).toNat)
      case atStart => exact ⟨16, by omega, by omega, rfl, hW', hR, hM⟩
      case round =>
        clear hW' hM hR
        obtain ⟨k, hk0, hk, rfl, hW, hR, hM⟩ := hrel
        by_cases hlt : k < 64
        · have c15 : wr.cell? ⟨A, k - 15, none⟩ = some (.int .u32 (Sha.g (Sha.sched blk k) (k - 15))) := hW.cell (Sha.get_sched_zeros _ _ _ (by omega))
          have c2 : wr.cell? ⟨A, k - 2, none⟩ = some (.int .u32 (Sha.g (Sha.sched blk k) (k - 2))) := hW.cell (Sha.get_sched_zeros _ _ _ (by omega))
          have c7 : wr.cell? ⟨A, k - 7, none⟩ = some (.int .u32 (Sha.g (Sha.sched blk k) (k - 7))) := hW.cell (Sha.get_sched_zeros _ _ _ (by omega))
          have c16 : wr.cell? ⟨A, k - 16, none⟩ = some (.int .u32 (Sha.g (Sha.sched blk k) (k - 16))) := hW.cell (Sha.get_sched_zeros _ _ _ (by omega))
          have d0 : wr.cell? ⟨A, k, none⟩ = some (.int .u32 0) := hW.cell (Sha.get_sched_zero _ _ _ (by omega) (by omega))
          have f0 : wr.frozen? ⟨A, k, none⟩ = false := hW.frozen k
          have b15 := Sha.sched_bd blk k (k - 15)
          have b2 := Sha.sched_bd blk k (k - 2)
          have b7 := Sha.sched_bd blk k (k - 7)
          have b16 := Sha.sched_bd blk k (k - 16)
          go_wp2
          go_quiet (fail)
          go_upto_region 11 with fail
          have e16 : IntKind.i64.wrap ((k : Int) - 16) = ((k - 16 : Nat) : Int) := by rw [IntWalk.i64_in _ (by omega)]; omega
          have e7 : IntKind.i64.wrap ((k : Int) - 7) = ((k - 7 : Nat) : Int) := by rw [IntWalk.i64_in _ (by omega)]; omega
          have g16 : (0 : Int) ≤ ((k - 16 : Nat) : Int) := by omega
          have g7 : (0 : Int) ≤ ((k - 7 : Nat) : Int) := by omega
          have l16 : ((k - 16 : Nat) : Int) < 64 := by omega
          have l7 : ((k - 7 : Nat) : Int) < 64 := by omega
          have gk : (0 : Int) ≤ (k : Int) := by omega
          go_region_held3 (fun w' => w'.cell? ⟨A, k - 16, none⟩ = some (.int .u32 (Sha.g (Sha.sched blk k) (k - 16))) ∧ w'.cell? ⟨A, k - 7, none⟩ = some (.int .u32 (Sha.g (Sha.sched blk k) (k - 7)))) (first | (refine ⟨?_, ?_⟩ <;> simp [*]) | (refine ⟨?_, ?_⟩ <;> (rw [cell_set_off _ _ _ _ _ (by omega)]; simp [*])))
              (first | (go_at_call 44; refine (turn_i _ _ _ (by omega) (by omega) (by omega) (by omega)).mono ?_; rintro e w' ⟨rfl, q, rfl⟩))
          generalize hq : nq + 1 + _ = nn
          go_wp2
          go_roundw
          case rel =>
            refine ⟨k + 1, by omega, by omega, by go_num, ((hW.drewN _).set k _).cs (Sha.set_sched blk k (by omega) _ ?_), (hR.drewN _).set_other (by simp; omega) _, (hM.drewN _).setCell (fun h => absurd h (by simp; omega)) _⟩
            rw [if_neg (by omega)]
            simp only [Sha.next, Sha.s0, Sha.s1, Sha.xor]
            omega
          case measure => simp [intOf]; omega
        · have hW' : Blk wr A (Sha.wcells (Sha.sched blk 64)) 81 := by
            have e : k = 64 := by omega
            rw [e] at hW; simpa [Sha.zeros] using hW
          have hl : (Sha.wcells (Sha.sched blk 64)).length = 64 := by rw [Sha.wcells, List.length_map, Sha.length_sched]
          clear hW HZ HC
          go_wp2_with (first | (refine wpList_load_blk rfl 81 (.tmp 5) rfl A rfl 81 (Sha.wcells (Sha.sched blk 64)) _ hW' under_w64 rfl (by rw [size_w64, hl]) ?_) | (refine wpList_store_blk rfl 81 (.tmp 4) (.tmp 91) rfl w.heap.size (Sha.wcells (Sha.sched blk 64)) rfl rfl 81 _ hR (by rw [size_w64, hl]) (by rw [hl]; rfl) (Sha.one_w _) ?_; intro w9 hB9 hM9 hs9))
          refine bodyPost_ret (results_cell_row rfl _ w9 w.heap.size 81 (Sha.wcells (Sha.sched blk 64)).toArray (0, 0) _ rfl hB9 under_w64 rfl (by rw [size_w64, List.size_toArray, hl])) rfl ⟨rfl, hM.trans hM9 (fun k hk h => absurd hk (by rw [show k = w.heap.size from h]; omega))⟩
end Go.Proofs.YtlndgnlkfhlekaaDoor
