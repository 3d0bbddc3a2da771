/- The reference of chapter 1: sum. -/
import Derived.Test.YtlndgnlkfhlekaaDoorRefB
namespace Go.Proofs.YtlndgnlkfhlekaaDoor
open Go.RowKit
namespace Sha
theorem g_block (l : List Int) (j i : Nat) (h : i < 64) : g (block l j) i = g l (64 * j + i) := by
  rw [block, g, g, List.getElem?_take, if_pos h, List.getElem?_drop]
theorem full_len (t : List Int) : (t ++ tail t).length = 64 * ((t ++ tail t).length / 64) := by
  have := length_tail t
  rw [List.length_append]; omega
theorem absorb_zero (l : List Int) : absorb l 0 = init := by unfold absorb; rfl
theorem absorb_succ (l : List Int) (k : Nat) : absorb l (k + 1) = mix (absorb l k) (block l k) := by rw [absorb]
theorem g_out' (v : V) (k : Nat) (h : k < 32) : g (out v) k = g v.list (k / 4) / 2 ^ (24 - 8 * (k % 4)) % 256 := by
  obtain ⟨h0, h1, h2, h3⟩ := g_out v (k / 4) (by omega)
  have : k % 4 = 0 ∨ k % 4 = 1 ∨ k % 4 = 2 ∨ k % 4 = 3 := by omega
  rcases this with e | e | e | e
  · rw [e]; conv => lhs; rw [show k = 4 * (k / 4) by omega]
    rw [h0]; simp
  · rw [e]; conv => lhs; rw [show k = 4 * (k / 4) + 1 by omega]
    rw [h1]; simp
  · rw [e]; conv => lhs; rw [show k = 4 * (k / 4) + 2 by omega]
    rw [h2]; simp
  · rw [e]; conv => lhs; rw [show k = 4 * (k / 4) + 3 by omega]
    rw [h3]; simp
end Sha
/-- the reference's tables lie where they must -/
def RefTabs (w : World) : Prop := (∀ i, i < 8 → w.cell? ⟨1, i, none⟩ = some (.int .u32 (Sha.g Sha.init.list i))) ∧ (∀ i, i < 64 → w.cell? ⟨2, i, none⟩ = some (.int .u32 (Sha.g Sha.K i)))
theorem RefTabs.mod {S : Nat → Prop} {w w' : World} (h : RefTabs w) (hM : Mod S w w') (h0 : ¬ S 1) (h1 : ¬ S 2) : RefTabs w' :=
  ⟨fun i hi => hM.cellS (h.1 i hi) h0, fun i hi => hM.cellS (h.2 i hi) h1⟩
theorem RefTabs.roots {w : World} (h : RefTabs w) : w.rangeAt 1 0 (Sha.wcells Sha.init.list) := fun j v hj => by
  have hj' : j < 8 := by have := (List.getElem?_eq_some_iff.1 hj).1; simpa [Sha.wcells, Sha.V.list] using this
  rw [Nat.zero_add, h.1 j hj', ← hj, Sha.get_wcells _ _ (by simp [Sha.V.list]; omega)]

set_option maxHeartbeats 2000000 in
set_option maxRecDepth 100000 in
theorem ref_sum (w : World) (v : Value) (t : List Int) (h : BytesAt w w.heap.size v t) (hl : t.length ≤ 70368744177664) (hT : RefTabs w) :
    Calls Tryd.prog 40 #[v] w fun e w' => e = .returned (.agg (Sha.bcells (Sha.sha t)).toArray) ∧ Mod none_ w w' := by
  go_enter Tryd.func40, Tryd.ntmps40
  go_upto_region 1 with fail
  obtain ⟨w1, hw1, hR1, hM1, hs1⟩ : ∃ w1, w.alloc (.cells (Sha.bcells (Sha.zeros 32)).toArray 36) = w1 ∧ Blk w1 w.heap.size (Sha.bcells (Sha.zeros 32)) 36 ∧ Mod none_ w w1 ∧ w.heap.size < w1.heap.size := ⟨_, rfl, Blk.new _ _ _, (Mod.refl _ _).alloc _, by simp⟩
  change Code.wp _ _ _ _ (w.alloc (.cells (Sha.bcells (Sha.zeros 32)).toArray 36))
  rw [hw1]
  clear hw1
  go_wp2_with fail
  refine (laid_any w1 v t ((h.mod hM1 (fun _ _ h => h)).mono hM1.size) hl).mono ?_
  rintro e w2 ⟨n, b, rfl, hn, hB2, hb2, hM2⟩
  have hM2' := hM1.then hM2
  have hR2 := hM2.blk hR1 (fun h => h)
  have hT2 := hT.mod hM2' (fun h => h) (fun h => h)
  have hfl := Sha.full_len t
  obtain ⟨nb, hnb⟩ : ∃ nb, (t ++ Sha.tail t).length / 64 = nb := ⟨_, rfl⟩
  have hby : Sha.bytes (t ++ Sha.tail t) := Sha.bytes_append h.1 (Sha.bytes_tail t)
  have hlt := Sha.length_tail t
  have hnbd : n ≤ 140737488355328 := by rw [hn, List.length_append]; omega
  have hbR : b ≠ w.heap.size := by omega
  have hbl2 := hB2.lt
  generalize hF : t ++ Sha.tail t = F at *
  have hn64 : n = 64 * nb := by rw [hn, hfl, hnb]
  have HF := Lib.hid hF; have HNB := Lib.hid hnb; have HN := Lib.hid hn
  have hFl : F.length = n := hn.symm
  have HFL := Lib.hid hFl
  clear h hF hnb hn hfl hlt hM1 hM2 hR1 hs1 hFl
  go_upto_region 3 with (first | (refine wpList_load_mid rfl 77 (.global 1) rfl 1 0 rfl (Sha.wcells Sha.init.list) _ hT2.roots under_u32a rfl (by rw [size_u32a]; rfl) ?_) | (refine wpList_store_new rfl 77 (.tmp 4) (.tmp 24) rfl 77 _ (Sha.wcells Sha.init.list) rfl rfl (by rw [size_u32a]; rfl) rfl (Sha.one_w _) ?_; intro w3 hS3 hM3 hs3))
  have hM3' := hM2'.then hM3
  have hR3 := hM3.blk hR2 (fun h => h)
  have hB3 := hM3.blk hB2 (fun h => h)
  have hRS : w.heap.size < w2.heap.size := hR2.lt
  generalize w2.heap.size = ST at *
  have hS3' : Blk w3 ST (Sha.wcells (Sha.absorb F 0).list) 77 := by rw [Sha.absorb_zero]; exact hS3
  have HT : ∀ wx, Mod none_ w wx → RefTabs wx := fun wx hm => hT.mod hm (fun h => h) (fun h => h)
  have hg : 2 < w.heap.size := World.block_lt_of_cell? _ _ (hT.2 0 (by omega))
  clear hS3 hM3 hR2 hB2 hT2 hM2' hb2 hT
  have HTT := Lib.hid HT
  clear HT
  go_wp2_with fail
  go_loopw [5] (fun at_ wr => ∃ j : Nat, j ≤ nb ∧ at_ = .int .i64 ((64 * j : Nat) : Int) ∧ Blk wr b (Sha.bcells F) 5 ∧ Blk wr ST (Sha.wcells (Sha.absorb F j).list) 77 ∧ Blk wr w.heap.size (Sha.bcells (Sha.zeros 32)) 36 ∧ Mod none_ w wr) (fun at_ _ => 64 * nb - (intOf at_).toNat)
  case atStart => exact ⟨0, by omega, rfl, hB3, hS3', hR3, hM3'⟩
  case round =>
    clear hB3 hS3' hR3 hM3' hs3
    obtain ⟨j, hj, rfl, hB, hS, hR, hM⟩ := hrel
    by_cases hlt : j < nb
    · have hst : Sha.V.ok (Sha.absorb F j) := Sha.absorb_ok F j
      obtain ⟨blk, hblk⟩ : ∃ blk, Sha.block F j = blk := ⟨_, rfl⟩
      have hbd : ∀ i, 0 ≤ Sha.g blk i ∧ Sha.g blk i ≤ 255 := fun i => Sha.bytes_g (by rw [← hblk]; exact Sha.bytes_take (Sha.bytes_drop hby _) _) i
      have hc : ∀ i, i < 64 → wr.cell? ⟨b, 64 * j + i, none⟩ = some (.int .u8 (Sha.g blk i)) := fun i hi => by
        rw [← hblk, Sha.g_block _ _ _ hi]
        exact blk_byte hB (by have := HFL.out; omega)
      have HC := Lib.hid hc
      have hnext : Sha.absorb F (j + 1) = Sha.mix (Sha.absorb F j) blk := by rw [Sha.absorb_succ, hblk]
      have HX := Lib.hid hnext
      obtain ⟨V0, hV0⟩ : ∃ V0, Sha.absorb F j = V0 := ⟨_, rfl⟩
      rw [hV0] at hS hst
      have HV0 := Lib.hid hV0
      clear hc hblk hnext hV0
      go_wp2_with fail
      refine (plan_any wr b (64 * nb) (64 * j) blk (by omega) (by omega) hbd HC.out).mono ?_
      rintro e w4 ⟨rfl, hM4⟩
      have hB4 := hM4.blk hB (fun h => h)
      have hS4 := hM4.blk hS (fun h => h)
      have hR4 := hM4.blk hR (fun h => h)
      have hM4' := hM.then hM4
      have hlw : (Sha.wcells (Sha.sched blk 64)).length = 64 := by rw [Sha.wcells, List.length_map, Sha.length_sched]
      clear HC hbd hB hS hR hM hM4
      go_upto_region 7 with (refine wpList_store_new rfl 81 (.tmp 6) (.tmp 33) rfl 81 _ (Sha.wcells (Sha.sched blk 64)) rfl rfl (by rw [size_w64, hlw]) (by rw [hlw]; rfl) (Sha.one_w _) ?_; intro w5 hW5 hM5 hs5)
      have hB5 := hM5.blk hB4 (fun h => h)
      have hS5 := hM5.blk hS4 (fun h => h)
      have hR5 := hM5.blk hR4 (fun h => h)
      have hM5' := hM4'.then hM5
      have hSW : ST < w4.heap.size := hS4.lt
      generalize w4.heap.size = WB at *
      clear hB4 hS4 hR4 hM4' hM5 hlw
      have s0 : w5.cell? ⟨ST, 0, none⟩ = some (.int .u32 V0.a) := hS5.cell rfl
      have s1 : w5.cell? ⟨ST, 1, none⟩ = some (.int .u32 V0.b) := hS5.cell rfl
      have s2 : w5.cell? ⟨ST, 2, none⟩ = some (.int .u32 V0.c) := hS5.cell rfl
      have s3 : w5.cell? ⟨ST, 3, none⟩ = some (.int .u32 V0.d) := hS5.cell rfl
      have s4 : w5.cell? ⟨ST, 4, none⟩ = some (.int .u32 V0.e) := hS5.cell rfl
      have s5 : w5.cell? ⟨ST, 5, none⟩ = some (.int .u32 V0.f) := hS5.cell rfl
      have s6 : w5.cell? ⟨ST, 6, none⟩ = some (.int .u32 V0.g) := hS5.cell rfl
      have s7 : w5.cell? ⟨ST, 7, none⟩ = some (.int .u32 V0.h) := hS5.cell rfl
      go_quiet (fail)
      clear s0 s1 s2 s3 s4 s5 s6 s7
      obtain ⟨w6, hw6, hB6, hS6, hR6, hW6, hM6⟩ : ∃ w6, w5.drewN nq = w6 ∧ Blk w6 b (Sha.bcells F) 5 ∧ Blk w6 ST (Sha.wcells V0.list) 77 ∧ Blk w6 w.heap.size (Sha.bcells (Sha.zeros 32)) 36 ∧ Blk w6 WB (Sha.wcells (Sha.sched blk 64)) 81 ∧ Mod none_ w w6 := ⟨_, rfl, hB5.drewN _, hS5.drewN _, hR5.drewN _, hW5.drewN _, hM5'.drewN _⟩
      rw [hw6]
      clear hw6 hB5 hS5 hR5 hW5 hM5' hs5
      go_wp2_with fail
      have hwsb : ∀ k, 0 ≤ Sha.g (Sha.sched blk 64) k ∧ Sha.g (Sha.sched blk 64) k ≤ 4294967295 := fun k => Sha.sched_bd blk 64 k
      have hwsl : (Sha.sched blk 64).length = 64 := Sha.length_sched _ _
      obtain ⟨WS, hWS⟩ : ∃ WS, Sha.sched blk 64 = WS := ⟨_, rfl⟩
      rw [hWS] at hW6 hwsb hwsl
      have HWS := Lib.hid hWS
      clear hWS
      obtain ⟨wo, rfl⟩ : ∃ wo : World, wo = wr := ⟨_, rfl⟩
      go_loopw [7, 8, 9, 10, 11, 12, 13, 14, 15] (fun a b_ c d e f g h i wq => ∃ k : Nat, k ≤ 64 ∧ ∃ V, Sha.steps V0 WS k = V ∧ a = .int .u32 V.a ∧ b_ = .int .u32 V.b ∧ c = .int .u32 V.c ∧ d = .int .u32 V.d ∧ e = .int .u32 V.e ∧ f = .int .u32 V.f ∧ g = .int .u32 V.g ∧ h = .int .u32 V.h ∧ i = .int .i64 k ∧ Blk wq b (Sha.bcells F) 5 ∧ Blk wq ST (Sha.wcells V0.list) 77 ∧ Blk wq w.heap.size (Sha.bcells (Sha.zeros 32)) 36 ∧ Blk wq WB (Sha.wcells WS) 81 ∧ Mod none_ w wq) (fun _ _ _ _ _ _ _ _ i _ => 64 - (intOf i).toNat)
      case atStart => exact ⟨0, by omega, V0, Sha.steps_zero _ _, rfl, rfl, rfl, rfl, rfl, rfl, rfl, rfl, rfl, hB6, hS6, hR6, hW6, hM6⟩
      case round =>
        clear hB6 hS6 hR6 hW6 hM6
        obtain ⟨k, hk, V, hVe, rfl, rfl, rfl, rfl, rfl, rfl, rfl, rfl, rfl, hB, hS, hR, hW, hM⟩ := hrel
        have hVok := Sha.steps_ok hst WS k
        rw [hVe] at hVok
        have HVE := Lib.hid hVe
        clear hVe
        by_cases hlt2 : k < 64
        · obtain ⟨hua, hub, huc, hud, hue, huf, hug, huh⟩ := V.ok_iff.1 hVok
          have hbK := (show 0 ≤ Sha.g Sha.K k ∧ Sha.g Sha.K k ≤ 4294967295 from Sha.K_bd k)
          have hbW := hwsb k
          have qK : wr.cell? ⟨2, k, none⟩ = some (.int .u32 (Sha.g Sha.K k)) := (HTT.out wr hM).2 k hlt2
          have qW : wr.cell? ⟨WB, k, none⟩ = some (.int .u32 (Sha.g WS k)) := hW.cell (Sha.get_wcells _ _ (by omega))
          go_wp2
          go_quiet ((go_at_call 44; refine Calls.quiet_of (turn_i _ _ _ ?_ ?_ ?_ ?_) <;> omega))
          go_wp2_with (go_at_call 44; refine (turn_i _ _ _ (by omega) (by omega) (by omega) (by omega)).mono ?_; rintro e w' ⟨rfl, q, rfl⟩)
          go_roundw
          case rel =>
            refine ⟨k + 1, by omega, Sha.step V (Sha.g Sha.K k) (Sha.g WS k), by rw [Sha.steps_succ, HVE.out], ?_, rfl, rfl, rfl, ?_, rfl, rfl, rfl, by go_num, (hB.drewN _), (hS.drewN _), (hR.drewN _), (hW.drewN _), (hM.drewN _)⟩
            · simp [Sha.step, Sha.tx, Sha.ty, Sha.bs1, Sha.bs0, Sha.ch, Sha.maj, Sha.inv, Sha.xor, Sha.and, show (if IntKind.u32.signed = true then (-1 : Int) else IntKind.u32.max) = IntKind.u32.max from rfl]
            · simp [Sha.step, Sha.tx, Sha.ty, Sha.bs1, Sha.bs0, Sha.ch, Sha.maj, Sha.inv, Sha.xor, Sha.and, show (if IntKind.u32.signed = true then (-1 : Int) else IntKind.u32.max) = IntKind.u32.max from rfl]
          case measure => simp [intOf]; omega
        · have hVe64 : V = Sha.steps V0 WS 64 := by rw [← HVE.out, show k = 64 by omega]
          have hmix : Sha.plus V0 V = Sha.mix V0 blk := by rw [hVe64, ← HWS.out, Sha.mix_eq]
          have HMX := Lib.hid hmix
          clear hVe64 hmix
          go_upto_region 15 with fail
          obtain ⟨w7, hw7, hN7, hM7⟩ : ∃ w7, wr.alloc (.cells (Sha.wcells V.list).toArray 77) = w7 ∧ Blk w7 wr.heap.size (Sha.wcells V.list) 77 ∧ Mod none_ wr w7 := ⟨_, rfl, Blk.new _ _ _, (Mod.refl _ _).alloc _⟩
          change Code.wp _ _ _ _ (wr.alloc (.cells (Sha.wcells V.list).toArray 77))
          rw [hw7]
          have hS7 := hM7.blk hS (fun h => h)
          have hB7 := hM7.blk hB (fun h => h)
          have hR7 := hM7.blk hR (fun h => h)
          have hM7' := hM.then hM7
          have hSN : ST < wr.heap.size := hS.lt
          have hBN : b < wr.heap.size := hB.lt
          generalize wr.heap.size = NB at *
          clear hS hB hR hW hM hM7 HWS hwsb hwsl hw7
          go_wp2_with fail
          go_loopw [19] (fun i wq => ∃ k : Nat, k ≤ 8 ∧ i = .int .i64 k ∧ Blk wq ST (Sha.wcells (Sha.part V0 V k)) 77 ∧ Blk wq NB (Sha.wcells V.list) 77 ∧ Blk wq b (Sha.bcells F) 5 ∧ Blk wq w.heap.size (Sha.bcells (Sha.zeros 32)) 36 ∧ Mod none_ w wq) (fun i _ => 8 - (intOf i).toNat)
          case atStart => exact ⟨0, by omega, rfl, hS7.cs (by rw [Sha.part_zero]), hN7, hB7, hR7, hM7'⟩
          case round =>
            clear hS7 hN7 hB7 hR7 hM7'
            obtain ⟨k, hk, rfl, hS, hN, hB, hR, hM⟩ := hrel
            by_cases hlt3 : k < 8
            · have b1 := Sha.V.bd hst k
              have b2 := Sha.V.bd hVok k
              have q1 : wr.cell? ⟨ST, k, none⟩ = some (.int .u32 (Sha.g V0.list k)) := hS.cell (by rw [Sha.get_wcells _ _ (by rw [Sha.length_part _ _ _ hk]; exact hlt3), Sha.g_part _ _ _ hlt3])
              have q2 : wr.cell? ⟨NB, k, none⟩ = some (.int .u32 (Sha.g V.list k)) := hN.cell (Sha.get_wcells _ _ (by simp [Sha.V.list]; omega))
              have f1 : wr.frozen? ⟨ST, k, none⟩ = false := hS.frozen k
              go_wp2
              go_region
              go_wp2
              go_roundw
              case rel =>
                exact ⟨k + 1, by omega, by go_num, (hS.set k _).cs (by rw [Sha.wcells, ← List.map_set, ← Sha.add32_eq, Sha.set_part _ _ _ hlt3]; rfl), hN.set_other (by simp; omega) _, hB.set_other (by simp; omega) _, hR.set_other (by simp; omega) _, (hM.setCell (by simp; omega) _).drew⟩
              case measure => simp [intOf]; omega
            · have hS' : Blk wr ST (Sha.wcells (Sha.absorb F (j + 1)).list) 77 := by
                have e : k = 8 := by omega
                rw [e, Sha.part_eight, HMX.out, ← HV0.out, ← HX.out] at hS; exact hS
              clear hS hN
              go_wp2
              go_roundw
              case rel => exact ⟨j + 1, by omega, by go_num, hB, hS', hR, hM⟩
              case measure => simp [intOf]; omega
    · have hj' : j = nb := by omega
      have hst : Sha.V.ok (Sha.absorb F j) := Sha.absorb_ok F j
      obtain ⟨V, hV⟩ : ∃ V, Sha.absorb F j = V := ⟨_, rfl⟩
      have hsha : Sha.out V = Sha.sha t := by rw [Sha.sha_eq, HF.out, HNB.out, ← hj', hV]
      rw [hV] at hS hst
      have HSH := Lib.hid hsha
      clear hV hsha
      go_upto_region 20 with fail
      obtain ⟨w8, hw8, hO8, hM8⟩ : ∃ w8, wr.alloc (.cells (Sha.bcells (Sha.zeros 32)).toArray 36) = w8 ∧ Blk w8 wr.heap.size (Sha.bcells (Sha.zeros 32)) 36 ∧ Mod none_ wr w8 := ⟨_, rfl, Blk.new _ _ _, (Mod.refl _ _).alloc _⟩
      change Code.wp _ _ _ _ (wr.alloc (.cells (Sha.bcells (Sha.zeros 32)).toArray 36))
      rw [hw8]
      have hS8 := hM8.blk hS (fun h => h)
      have hR8 := hM8.blk hR (fun h => h)
      have hM8' := hM.then hM8
      have hSO : ST < wr.heap.size := hS.lt
      generalize wr.heap.size = O at *
      clear hS hR hM hM8 hw8 hB HTT HF HNB HN HFL hby
      go_wp2_with fail
      go_loopw [21] (fun i wq => ∃ k : Nat, k ≤ 32 ∧ i = .int .i64 k ∧ Blk wq O (Sha.bcells (Sha.fill (Sha.out V) k)) 36 ∧ Blk wq ST (Sha.wcells V.list) 77 ∧ Blk wq w.heap.size (Sha.bcells (Sha.zeros 32)) 36 ∧ Mod none_ w wq) (fun i _ => 32 - (intOf i).toNat)
      case atStart => exact ⟨0, by omega, rfl, hO8.cs (by rw [Sha.fill_zero, Sha.length_out]), hS8, hR8, hM8'⟩
      case round =>
        clear hO8 hS8 hR8 hM8'
        obtain ⟨k, hk, rfl, hO, hS, hR, hM⟩ := hrel
        by_cases hlt4 : k < 32
        · have b1 := Sha.V.bd hst (k / 4)
          have q0 : wr.cell? ⟨O, k, none⟩ = some (.int .u8 0) := hO.cell (by rw [Sha.bcells, List.getElem?_map, Sha.get_fill _ _ _ (Nat.le_refl _) (by rw [Sha.length_out]; exact hlt4)]; rfl)
          have f0 : wr.frozen? ⟨O, k, none⟩ = false := hO.frozen k
          have q1 : wr.cell? ⟨ST, k / 4, none⟩ = some (.int .u32 (Sha.g V.list (k / 4))) := hS.cell (Sha.get_wcells _ _ (by simp [Sha.V.list]; omega))
          go_wp2
          go_roundw
          case rel => exact ⟨k + 1, by omega, by go_num, (hO.set k _).cs (Sha.set_fill_b _ _ (by rw [Sha.length_out]; exact hlt4) _ (Sha.g_out' V k hlt4).symm), hS.set_other (by simp; omega) _, hR.set_other (by simp; omega) _, hM.setCell (by simp; omega) _⟩
          case measure => simp [intOf]; omega
        · have hO' : Blk wr O (Sha.bcells (Sha.sha t)) 36 := by
            have e : k = (Sha.out V).length := by rw [Sha.length_out]; omega
            rw [e, Sha.fill_all, HSH.out] at hO; exact hO
          have hl32 : (Sha.bcells (Sha.sha t)).length = 32 := by rw [Sha.bcells, List.length_map, Sha.length_sha]
          clear hO hS HSH
          go_wp2_with (first | (refine wpList_load_blk rfl 36 (.tmp 20) rfl O rfl 36 (Sha.bcells (Sha.sha t)) _ hO' under_b32 rfl (by rw [size_b32, hl32]) ?_) | (refine wpList_store_blk rfl 36 (.tmp 2) (.tmp 151) rfl w.heap.size (Sha.bcells (Sha.sha t)) rfl rfl 36 _ hR (by rw [size_b32, hl32]) (by rw [hl32]; rfl) (Sha.one_b _) ?_; intro w9 hB9 hM9 hs9))
          refine bodyPost_ret (results_cell_row rfl _ w9 w.heap.size 36 (Sha.bcells (Sha.sha t)).toArray (0, 0) _ rfl hB9 under_b32 rfl (by rw [size_b32, List.size_toArray, hl32])) rfl ⟨rfl, hM.trans hM9 (fun k hk h => absurd hk (by rw [show k = w.heap.size from h]; omega))⟩
end Go.Proofs.YtlndgnlkfhlekaaDoor
