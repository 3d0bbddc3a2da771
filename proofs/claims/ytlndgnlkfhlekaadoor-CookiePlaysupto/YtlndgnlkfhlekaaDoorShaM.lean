/- SHA walks: mix. -/
import Derived.Test.YtlndgnlkfhlekaaDoorShaA
import Derived.BigRegion
namespace Go.Proofs.YtlndgnlkfhlekaaDoor
open Go.RowKit
theorem under_blk : Tryd.prog.underlying 68 = some (.array 64 5) := by kernel_rfl
theorem under_w66 : Tryd.prog.underlying 83 = some (.slice 76) := by kernel_rfl
theorem size_u32 : (Tryd.prog.info? 76).map (·.size) = some 1 := by kernel_rfl
theorem size_u8 : (Tryd.prog.info? 5).map (·.size) = some 1 := by kernel_rfl

set_option maxHeartbeats 2000000 in
set_option maxRecDepth 100000 in
theorem mix_any (w : World) (b : Nat) (v : Sha.V) (blk : List Int) (at_ n : Int) (T : TypeId) (hB : Blk w b (Sha.hcells v blk at_ n) T) (hv : v.ok) (hblk : blk.length = 64) (hbd : ∀ x ∈ blk, 0 ≤ x ∧ x ≤ 255)
    (hK : ∀ i, i < 64 → w.cell? ⟨0, i, none⟩ = some (.int .u32 (Sha.g Sha.K i))) :
    Calls Tryd.prog 39 #[.pointer (some ⟨b, 0, none⟩)] w fun e w' => e = .returned (.tuple #[]) ∧ Mod (only b) w w' ∧ Blk w' b (Sha.hcells (Sha.mix v blk) blk at_ n) T := by
  have hbd' : ∀ i, 0 ≤ Sha.g blk i ∧ Sha.g blk i ≤ 255 := fun i => by
    unfold Sha.g
    cases h : blk[i]? with
    | none => simp
    | some x => exact hbd x (List.mem_of_getElem? h)
  have hbl := hB.lt
  have hz : Sha.wcells (Sha.sched blk 0 ++ Sha.zeros (64 - 0)) = List.replicate 64 (.int .u32 0) := by simp [Sha.wcells, Sha.sched, Sha.zeros]
  have HZ := Lib.hid hz; clear hz
  go_enter Tryd.func39, Tryd.ntmps39
  go_wp2
  go_loopw [3, 21] (fun _ i wr => ∃ k : Nat, k ≤ 16 ∧ i = .int .i64 k ∧ Blk wr w.heap.size (Sha.wcells (Sha.sched blk k ++ Sha.zeros (64 - k))) 81 ∧ Mod none_ w wr) (fun _ i _ => 16 - (intOf i).toNat)
  case atStart => exact ⟨0, by omega, rfl, by rw [HZ.out]; exact Blk.new _ _ _, (Mod.refl _ _).alloc _⟩
  case round =>
    obtain ⟨k, hk, rfl, hW, hM⟩ := hrel
    by_cases hlt : k < 16
    · have hsl := fun wx => sliceAt_l (P := Tryd.prog) 68 5 64 under_blk size_u8 b 8 (4 * k) (4 * (k : Int)) (by omega) (by omega) wx
      have hBr := hM.blk hB (fun t => t)
      have c0 : wr.cell? ⟨b, 8 + 4 * k, none⟩ = some (.int .u8 (Sha.g blk (4 * k))) := hBr.cell (Sha.get_h_blk v blk at_ n (4 * k) (by omega))
      have c1 : wr.cell? ⟨b, 8 + 4 * k + 1, none⟩ = some (.int .u8 (Sha.g blk (4 * k + 1))) := hBr.cell (Sha.get_h_blk v blk at_ n (4 * k + 1) (by omega))
      have c2 : wr.cell? ⟨b, 8 + 4 * k + 2, none⟩ = some (.int .u8 (Sha.g blk (4 * k + 2))) := hBr.cell (Sha.get_h_blk v blk at_ n (4 * k + 2) (by omega))
      have c3 : wr.cell? ⟨b, 8 + 4 * k + 3, none⟩ = some (.int .u8 (Sha.g blk (4 * k + 3))) := hBr.cell (Sha.get_h_blk v blk at_ n (4 * k + 3) (by omega))
      have d0 : wr.cell? ⟨w.heap.size, k, none⟩ = some (.int .u32 0) := hW.cell (Sha.get_sched_zero _ _ _ (by omega) (by omega))
      have f0 : wr.frozen? ⟨w.heap.size, k, none⟩ = false := hW.frozen k
      have b0 := hbd' (4 * k)
      have b1 := hbd' (4 * k + 1)
      have b2 := hbd' (4 * k + 2)
      have b3 := hbd' (4 * k + 3)
      go_wp2
      go_region
      go_wp2
      go_roundw
      case rel => exact ⟨k + 1, by omega, by go_num, (hW.set k _).cs (Sha.set_sched blk k (by omega) _ (by rw [if_pos hlt]; simp [Sha.word, Sha.word4, Sha.or])), (hM.setCell (fun h => absurd h (by simp)) _).drew⟩
      case measure => simp [intOf]; omega
    · have hW' : Blk wr w.heap.size (Sha.wcells (Sha.sched blk 16 ++ Sha.zeros (64 - 16))) 81 := by
        have e : k = 16 := by omega
        rw [e] at hW; exact hW
      clear hbd' hW
      go_wp2
      go_loopw [5] (fun t wr => ∃ k : Nat, 16 ≤ k ∧ k ≤ 64 ∧ t = .int .i64 k ∧ Blk wr w.heap.size (Sha.wcells (Sha.sched blk k ++ Sha.zeros (64 - k))) 81 ∧ Mod none_ w wr) (fun t _ => 64 - (intOf t).toNat)
      case atStart => exact ⟨16, by omega, by omega, rfl, hW', hM⟩
      case round =>
        clear hW' hM
        obtain ⟨k, hk0, hk, rfl, hW, hM⟩ := hrel
        by_cases hlt : k < 64
        · have c15 : wr.cell? ⟨w.heap.size, k - 15, none⟩ = some (.int .u32 (Sha.g (Sha.sched blk k) (k - 15))) := hW.cell (Sha.get_sched_zeros _ _ _ (by omega))
          have c2 : wr.cell? ⟨w.heap.size, k - 2, none⟩ = some (.int .u32 (Sha.g (Sha.sched blk k) (k - 2))) := hW.cell (Sha.get_sched_zeros _ _ _ (by omega))
          have c7 : wr.cell? ⟨w.heap.size, k - 7, none⟩ = some (.int .u32 (Sha.g (Sha.sched blk k) (k - 7))) := hW.cell (Sha.get_sched_zeros _ _ _ (by omega))
          have c16 : wr.cell? ⟨w.heap.size, k - 16, none⟩ = some (.int .u32 (Sha.g (Sha.sched blk k) (k - 16))) := hW.cell (Sha.get_sched_zeros _ _ _ (by omega))
          have d0 : wr.cell? ⟨w.heap.size, k, none⟩ = some (.int .u32 0) := hW.cell (Sha.get_sched_zero _ _ _ (by omega) (by omega))
          have f0 : wr.frozen? ⟨w.heap.size, k, none⟩ = false := hW.frozen k
          have b15 := Sha.sched_bd blk k (k - 15)
          have b2 := Sha.sched_bd blk k (k - 2)
          have b7 := Sha.sched_bd blk k (k - 7)
          have b16 := Sha.sched_bd blk k (k - 16)
          go_wp2
          go_quiet (fail)
          go_wp2_with (go_at_call 41; refine (rot_int _ _ _ (by omega) (by omega) (by omega) (by omega)).mono ?_; rintro e w' ⟨rfl, rfl⟩)
          go_region
          go_wp2
          go_roundw
          case rel => exact ⟨k + 1, by omega, by omega, by go_num, (hW.set k _).cs (Sha.set_sched blk k (by omega) _ (by rw [if_neg (by omega)]; simp only [Sha.next, Sha.s0, Sha.s1, Sha.xor])), (hM.drewN _).setCell (fun h => absurd h (by simp)) _⟩
          case measure => simp [intOf]; omega
        · have hW' : Blk wr w.heap.size (Sha.wcells (Sha.sched blk 64)) 81 := by
            have e : k = 64 := by omega
            rw [e] at hW; simpa [Sha.zeros] using hW
          clear hW
          have hBr := hM.blk hB (fun t => t)
          obtain ⟨hva, hvb, hvc, hvd, hve, hvf, hvg, hvh⟩ := v.ok_iff.1 hv
          have s0 : wr.cell? ⟨b, 0, none⟩ = some (.int .u32 v.a) := hBr.cell (Sha.get_h_sum v blk at_ n 0 (by omega))
          have s1 : wr.cell? ⟨b, 1, none⟩ = some (.int .u32 v.b) := hBr.cell (Sha.get_h_sum v blk at_ n 1 (by omega))
          have s2 : wr.cell? ⟨b, 2, none⟩ = some (.int .u32 v.c) := hBr.cell (Sha.get_h_sum v blk at_ n 2 (by omega))
          have s3 : wr.cell? ⟨b, 3, none⟩ = some (.int .u32 v.d) := hBr.cell (Sha.get_h_sum v blk at_ n 3 (by omega))
          have s4 : wr.cell? ⟨b, 4, none⟩ = some (.int .u32 v.e) := hBr.cell (Sha.get_h_sum v blk at_ n 4 (by omega))
          have s5 : wr.cell? ⟨b, 5, none⟩ = some (.int .u32 v.f) := hBr.cell (Sha.get_h_sum v blk at_ n 5 (by omega))
          have s6 : wr.cell? ⟨b, 6, none⟩ = some (.int .u32 v.g) := hBr.cell (Sha.get_h_sum v blk at_ n 6 (by omega))
          have s7 : wr.cell? ⟨b, 7, none⟩ = some (.int .u32 v.h) := hBr.cell (Sha.get_h_sum v blk at_ n 7 (by omega))
          have hns : w.heap.size < wr.heap.size := hW'.lt
          go_wp2
          obtain ⟨wo, rfl⟩ : ∃ wo : World, wo = wr := ⟨_, rfl⟩
          go_loopw [102] (fun i wq => ∃ k : Nat, k ≤ 64 ∧ i = .int .i64 k ∧ Blk wq wo.heap.size (Sha.wcells (Sha.steps v (Sha.sched blk 64) k).list) 77 ∧ Blk wq w.heap.size (Sha.wcells (Sha.sched blk 64)) 81 ∧ Mod none_ w wq) (fun i _ => 64 - (intOf i).toNat)
          case atStart => exact ⟨0, by omega, rfl, (Blk.new wo (Sha.wcells v.list) _).cs (by rw [Sha.steps_zero]), hW'.alloc _, hM.alloc _⟩
          case round =>
            clear hW' hM s0 s1 s2 s3 s4 s5 s6 s7 hBr
            obtain ⟨k, hk, rfl, hV, hW, hM⟩ := hrel
            by_cases hlt : k < 64
            · obtain ⟨V, hVe⟩ : ∃ V, Sha.steps v (Sha.sched blk 64) k = V := ⟨_, rfl⟩
              have hVok := Sha.steps_ok hv (Sha.sched blk 64) k
              rw [hVe] at hV hVok
              have hVe' := Lib.hid hVe; clear hVe
              obtain ⟨hua, hub, huc, hud, hue, huf, hug, huh⟩ := V.ok_iff.1 hVok
              have hbK := (show 0 ≤ Sha.g Sha.K k ∧ Sha.g Sha.K k ≤ 4294967295 from Sha.K_bd k)
              have hbW := Sha.sched_bd blk 64 k
              have q0 : wr.cell? ⟨wo.heap.size, 0, none⟩ = some (.int .u32 V.a) := hV.cell rfl
              have q1 : wr.cell? ⟨wo.heap.size, 1, none⟩ = some (.int .u32 V.b) := hV.cell rfl
              have q2 : wr.cell? ⟨wo.heap.size, 2, none⟩ = some (.int .u32 V.c) := hV.cell rfl
              have q3 : wr.cell? ⟨wo.heap.size, 3, none⟩ = some (.int .u32 V.d) := hV.cell rfl
              have q4 : wr.cell? ⟨wo.heap.size, 4, none⟩ = some (.int .u32 V.e) := hV.cell rfl
              have q5 : wr.cell? ⟨wo.heap.size, 5, none⟩ = some (.int .u32 V.f) := hV.cell rfl
              have q6 : wr.cell? ⟨wo.heap.size, 6, none⟩ = some (.int .u32 V.g) := hV.cell rfl
              have q7 : wr.cell? ⟨wo.heap.size, 7, none⟩ = some (.int .u32 V.h) := hV.cell rfl
              have qK : wr.cell? ⟨0, k, none⟩ = some (.int .u32 (Sha.g Sha.K k)) := hM.cellS (hK k hlt) (fun t => t)
              have qW : wr.cell? ⟨w.heap.size, k, none⟩ = some (.int .u32 (Sha.g (Sha.sched blk 64) k)) := hW.cell (Sha.get_wcells _ _ (by rw [Sha.length_sched]; exact hlt))
              go_wp2
              go_quiet (fail)
              go_wp2
              go_quiet ((go_at_call 41; refine quiet_add_left (rot_int _ _ _ ?_ ?_ ?_ ?_) <;> omega))
              go_wp2_with (go_at_call 41; refine (rot_int _ _ _ (by omega) (by omega) (by omega) (by omega)).mono ?_; rintro e w' ⟨rfl, rfl⟩)
              go_region_law (refine step_copy_blk rfl (.tmp 165) (.tmp 166) 83 83 rfl 76 under_w66 size_u32 wo.heap.size 1 7 7 wo.heap.size 0 7 8 rfl rfl (Sha.wcells V.list) _ hV (Sha.wcells V.list) _ hV 7 rfl (by simp [Sha.wcells, Sha.V.list]) (by simp [Sha.wcells, Sha.V.list]) (Sha.one_w _) ?_)
              generalize hw3 : World.setRow _ _ _ = w3
              have hV3 : Blk w3 wo.heap.size (Sha.wcells [V.a, V.a, V.b, V.c, V.d, V.e, V.f, V.g]) 77 := by rw [← hw3]; exact ((hV.drewN _).row _).cs rfl
              have hW3 : Blk w3 w.heap.size (Sha.wcells (Sha.sched blk 64)) 81 := by rw [← hw3]; exact (hW.drewN _).row_other (by omega) _
              have hM3 : Mod none_ w w3 := by rw [← hw3]; exact (hM.drewN _).setRow (by omega) _
              clear hw3 q0 q1 q2 q3 q4 q5 q6 q7 qK qW hV hW hM
              have q4 : w3.cell? ⟨wo.heap.size, 4, none⟩ = some (.int .u32 V.d) := hV3.cell rfl
              have q0 : w3.cell? ⟨wo.heap.size, 0, none⟩ = some (.int .u32 V.a) := hV3.cell rfl
              have f4 : w3.frozen? ⟨wo.heap.size, 4, none⟩ = false := hV3.frozen 4
              have f0 : w3.frozen? ⟨wo.heap.size, 0, none⟩ = false := hV3.frozen 0
              go_wp2
              go_roundw
              case rel =>
                refine ⟨k + 1, by omega, by go_num, ((hV3.set 4 _).set 0 _).cs ?_, (hW3.set_other (by simp; omega) _).set_other (by simp; omega) _, (hM3.setCell (by simp; omega) _).setCell (by simp; omega) _⟩
                rw [Sha.steps_succ, hVe'.out]
                simp [Sha.wcells, Sha.V.list, Sha.step, Sha.tx, Sha.ty, Sha.bs1, Sha.bs0, Sha.ch, Sha.maj, Sha.inv, Sha.xor, Sha.and]
                trace_state
              case measure => simp [intOf]; omega
            · have hV' : Blk wr wo.heap.size (Sha.wcells (Sha.steps v (Sha.sched blk 64) 64).list) 77 := by
                have e : k = 64 := by omega
                rw [e] at hV; exact hV
              have hBr := hM.blk hB (fun t => t)
              have hu := Sha.steps_ok hv (Sha.sched blk 64) 64
              clear hV hW
              go_wp2
              go_loopw [178] (fun i wq => ∃ k : Nat, k ≤ 8 ∧ i = .int .i64 k ∧ Blk wq b (Sha.hl (Sha.part v (Sha.steps v (Sha.sched blk 64) 64) k) blk at_ n) T ∧ Blk wq wo.heap.size (Sha.wcells (Sha.steps v (Sha.sched blk 64) 64).list) 77 ∧ Mod (only b) w wq) (fun i _ => 8 - (intOf i).toNat)
              case atStart => exact ⟨0, by omega, rfl, hBr.cs (by rw [Sha.part_zero]; rfl), hV', hM.mono (fun _ _ t => t.elim)⟩
              case round =>
                clear hV' hM hBr
                obtain ⟨k, hk, rfl, hA, hV, hM⟩ := hrel
                by_cases hlt : k < 8
                · have b1 := Sha.V.bd hv k
                  have b2 := Sha.V.bd hu k
                  have q1 : wr.cell? ⟨b, k, none⟩ = some (.int .u32 (Sha.g v.list k)) := hA.cell (by rw [Sha.get_hl _ _ _ _ _ (by rw [Sha.length_part _ _ _ hk]; exact hlt), Sha.g_part _ _ _ hlt])
                  have q2 : wr.cell? ⟨wo.heap.size, k, none⟩ = some (.int .u32 (Sha.g (Sha.steps v (Sha.sched blk 64) 64).list k)) := hV.cell (Sha.get_wcells _ _ (by simp [Sha.V.list]; omega))
                  have f1 : wr.frozen? ⟨b, k, none⟩ = false := hA.frozen k
                  go_wp2
                  go_region
                  go_wp2
                  go_roundw
                  case rel =>
                    exact ⟨k + 1, by omega, by go_num, (hA.set k _).cs (by rw [Sha.set_hl _ _ _ _ _ (by rw [Sha.length_part _ _ _ hk]; exact hlt), ← Sha.add32_eq, Sha.set_part _ _ _ hlt]), hV.set_other (by simp; omega) _, (hM.setCell (fun _ => only_self b) _).drew⟩
                  case measure => simp [intOf]; omega
                · have hA' : Blk wr b (Sha.hcells (Sha.mix v blk) blk at_ n) T := by
                    have e : k = 8 := by omega
                    rw [e, Sha.part_eight, Sha.mix_eq] at hA; exact hA
                  clear hA
                  go_wp2
                  go_end0
                  exact ⟨rfl, hM, hA'⟩
end Go.Proofs.YtlndgnlkfhlekaaDoor
