/- SHA walks: New, Sum, Of. -/
import Derived.Test.YtlndgnlkfhlekaaDoorShaW
import Derived.Test.YtlndgnlkfhlekaaDoorBase2
import Derived.Deep.DeepCutAuto
namespace Go.Proofs.YtlndgnlkfhlekaaDoor
open Go.RowKit

theorem under_hash : Tryd.prog.underlying 79 = some (.struct (((Tryd.prog.underlying 79).map fun | .struct f => f | _ => #[]).getD #[])) := by kernel_rfl
theorem size_hash : (Tryd.prog.info? 79).map (·.size) = some 74 := by kernel_rfl
theorem zero_hash : ∃ Z : Array Value, Z.size = 74 ∧ ∀ w, (zeroValue 79).run Tryd.prog w = .ok (.agg Z) w := by
  refine ⟨_, ?_, (zero_of_info (P := Tryd.prog) (t := 79) (v := .agg (Sha.hcells ⟨0,0,0,0,0,0,0,0⟩ (Sha.zeros 64) 0 0).toArray) (n := 74) (by kernel_rfl)).1⟩
  rfl

theorem zero_hash_lit : ∀ w, (zeroValue 79).run Tryd.prog w = .ok (.agg #[.int .u32 0, .int .u32 0, .int .u32 0, .int .u32 0, .int .u32 0, .int .u32 0, .int .u32 0, .int .u32 0, .int .u8 0, .int .u8 0, .int .u8 0, .int .u8 0, .int .u8 0, .int .u8 0, .int .u8 0, .int .u8 0, .int .u8 0, .int .u8 0, .int .u8 0, .int .u8 0, .int .u8 0, .int .u8 0, .int .u8 0, .int .u8 0, .int .u8 0, .int .u8 0, .int .u8 0, .int .u8 0, .int .u8 0, .int .u8 0, .int .u8 0, .int .u8 0, .int .u8 0, .int .u8 0, .int .u8 0, .int .u8 0, .int .u8 0, .int .u8 0, .int .u8 0, .int .u8 0, .int .u8 0, .int .u8 0, .int .u8 0, .int .u8 0, .int .u8 0, .int .u8 0, .int .u8 0, .int .u8 0, .int .u8 0, .int .u8 0, .int .u8 0, .int .u8 0, .int .u8 0, .int .u8 0, .int .u8 0, .int .u8 0, .int .u8 0, .int .u8 0, .int .u8 0, .int .u8 0, .int .u8 0, .int .u8 0, .int .u8 0, .int .u8 0, .int .u8 0, .int .u8 0, .int .u8 0, .int .u8 0, .int .u8 0, .int .u8 0, .int .u8 0, .int .u8 0, .int .i64 0, .int .u64 0]) w := (zero_of_info (n := 74) (by kernel_rfl)).1

theorem under_u32a : Tryd.prog.underlying 77 = some (.array 8 76) := by kernel_rfl
theorem size_u32a : (Tryd.prog.info? 77).map (·.size) = some 8 := by kernel_rfl
theorem under_u32 : Tryd.prog.underlying 76 = some (.int .u32) := by kernel_rfl
theorem under_b32 : Tryd.prog.underlying 36 = some (.array 32 5) := by kernel_rfl
theorem size_b32 : (Tryd.prog.info? 36).map (·.size) = some 32 := by kernel_rfl

theorem new_any (w : World) : Calls Tryd.prog 35 #[] w fun e w' => e = .returned (.pointer (some ⟨w.heap.size, 0, none⟩)) ∧ Mod none_ w w' ∧ HashAt w' w.heap.size [] 0 79 ∧ w'.heap.size = w.heap.size + 1 := by
  have hz := zero_hash_lit
  go_enter Tryd.func35, Tryd.ntmps35
  go_wp2
  go_ret
  refine ⟨rfl, (Mod.refl _ _).alloc _, ⟨Sha.init, Sha.zeros 64, 0, Sha.holds_nil, ?_⟩, by simp⟩
  exact Blk.new w (Sha.hcells Sha.init (Sha.zeros 64) 0 0) _

set_option maxHeartbeats 2000000 in
set_option maxRecDepth 100000 in
theorem sum_any (w : World) (b : Nat) (t : List Int) (T : TypeId) (hH : HashAt w b t ((t.length : Int) % 18446744073709551616) T) (hK : Rounds w) (_hbK : b ≠ 0) :
    Calls Tryd.prog 37 #[.pointer (some ⟨b, 0, none⟩)] w fun e w' => e = .returned (.agg (Sha.bcells (Sha.sha t)).toArray) ∧ Mod none_ w w' := by
  obtain ⟨v, blk, a, hh, hB⟩ := hH
  have hG := hK 0 (by omega)
  have hGl := World.block_lt_of_cell? _ _ hG
  obtain ⟨Z, hZs, hZ⟩ := zero_hash
  obtain ⟨N, hN⟩ : ∃ N, ((t.length : Int) % 18446744073709551616) = N := ⟨_, rfl⟩
  rw [hN] at hB
  have HNN := Lib.hid hN
  clear hN
  have hlen : (Sha.hcells v blk (a : Int) N).length = 74 := by have := hh.len; simp [Sha.hcells, Sha.hl, Sha.wcells, Sha.bcells, Sha.V.list]; omega
  have hone : ∀ x ∈ Sha.hcells v blk (a : Int) N, x.oneCell' = true := by
    intro x hx
    simp only [Sha.hcells, Sha.hl, List.mem_append] at hx
    rcases hx with hx | hx | hx
    · exact Sha.one_w _ _ hx
    · exact Sha.one_b _ _ hx
    · simp at hx; rcases hx with rfl | rfl <;> rfl
  have HL := Lib.hid hlen; have HO := Lib.hid hone; have HZS := Lib.hid hZs
  clear hlen hone hZs hG
  go_enter Tryd.func37, Tryd.ntmps37
  go_upto_region 1 with fail
  have hR0 : Blk (w.alloc _) w.heap.size (Sha.bcells (Sha.zeros 32)) 36 := Blk.new w (Sha.bcells (Sha.zeros 32)) _
  have hM0 : Mod none_ w (w.alloc (.cells (Sha.bcells (Sha.zeros 32)).toArray 36)) := (Mod.refl _ _).alloc _
  have hB0 : Blk (w.alloc (.cells (Sha.bcells (Sha.zeros 32)).toArray 36)) b (Sha.hcells v blk (a : Int) N) T := hB.alloc _
  have hs0 : w.heap.size < (w.alloc (.cells (Sha.bcells (Sha.zeros 32)).toArray 36)).heap.size := by simp
  have hw0 : ∃ w0, w.alloc (.cells (Sha.bcells (Sha.zeros 32)).toArray 36) = w0 := ⟨_, rfl⟩
  obtain ⟨w0, hw0⟩ := hw0
  rw [hw0] at hR0 hM0 hB0 hs0
  have e0 : w.alloc (.cells #[.int .u8 0, .int .u8 0, .int .u8 0, .int .u8 0, .int .u8 0, .int .u8 0, .int .u8 0, .int .u8 0, .int .u8 0, .int .u8 0, .int .u8 0, .int .u8 0, .int .u8 0, .int .u8 0, .int .u8 0, .int .u8 0, .int .u8 0, .int .u8 0, .int .u8 0, .int .u8 0, .int .u8 0, .int .u8 0, .int .u8 0, .int .u8 0, .int .u8 0, .int .u8 0, .int .u8 0, .int .u8 0, .int .u8 0, .int .u8 0, .int .u8 0, .int .u8 0] 36) = w0 := hw0
  rw [e0]
  clear e0 hw0
  go_upto_region 2 with (first | (refine wpList_load_blk rfl 79 (.tmp 13) rfl b rfl T (Sha.hcells v blk (a : Int) N) _ hB0 under_hash rfl (by rw [size_hash, HL.out]) ?_) | (refine wpList_store_new rfl 79 (.tmp 3) (.tmp 14) rfl 79 Z (Sha.hcells v blk (a : Int) N) rfl rfl (by rw [size_hash, HL.out]) (by rw [HL.out, HZS.out]) HO.out ?_; intro w1 hB1 hM1 hs1))
  have hR1 : Blk w1 w.heap.size (Sha.bcells (Sha.zeros 32)) 36 := hM1.blk hR0 (fun h => h)
  have hM1' : Mod none_ w w1 := hM0.trans hM1 (fun _ _ h => h)
  clear hM1 hM0 hR0 hB0 hZ HZS hB HL HO
  have q73 : w1.cell? ⟨w0.heap.size, 73, none⟩ = some (.int .u64 N) := hB1.cell (Sha.get_h_n v blk a N hh.len)
  generalize w0.heap.size = G at *
  go_upto_region 4 with (refine wpList_store_new rfl 68 (.tmp 5) (.tmp 18) rfl 68 (Sha.bcells (Sha.zeros 64)).toArray (Sha.bcells (128 :: Sha.zeros 63)) rfl rfl rfl rfl (Sha.one_b _) ?_; intro w2 hB2 hM2 hs2)
  have hR2 : Blk w2 w.heap.size (Sha.bcells (Sha.zeros 32)) 36 := hM2.blk hR1 (fun h => h)
  have hG2 : Blk w2 G (Sha.hcells v blk (a : Int) N) 79 := hM2.blk hB1 (fun h => h)
  have hM2' : Mod none_ w w2 := hM1'.trans hM2 (fun _ _ h => h)
  have q72 : w2.cell? ⟨G, 72, none⟩ = some (.int .i64 a) := hG2.cell (Sha.get_h_at v blk a N hh.len)
  clear hM2 hM1' hR1 hB1 q73
  have ha64 := hh.lt
  obtain ⟨L, hL⟩ : ∃ L, IntKind.u64.wrap (N * 8) = L := ⟨_, rfl⟩
  rw [hL]
  have HLn := Lib.hid hL
  have hLb : 0 ≤ L ∧ L ≤ 18446744073709551615 := by rw [← hL]; simp [IntKind.wrap, IntKind.bits, IntKind.signed]; omega
  clear hL
  generalize w1.heap.size = D at *
  go_upto_if 23 with fail
  go_cut [6] (fun s6 wx => ∃ r : Nat, s6 = .int .i64 r ∧ r = (if a < 56 then 56 - a else 120 - a) ∧ wx = w2)
  case first =>
    by_cases ha : a < 56
    · go_wp2
      go_meet
      case rel => exact ⟨56 - a, by go_num, by rw [if_pos ha], rfl⟩
    · go_wp2
      go_meet
      case rel => exact ⟨120 - a, by go_num, by rw [if_neg ha], rfl⟩
  case rest =>
    obtain ⟨r, rfl, hr, rfl⟩ := hcut
    have hr1 := Sha.room_le a ha64
    have hr' : r = Sha.room a := hr
    clear hr
    rw [← hr'] at hr1
    have hfl := Sha.length_first a ha64
    rw [← hr'] at hfl
    have hsl := fun wx => sliceAt_h (P := Tryd.prog) 68 5 64 under_blk size_u8 D 0 r (r : Int) rfl hr1.2 wx
    have HR := Lib.hid hr'; have HFL := Lib.hid hfl
    clear hr' hfl
    have hpc : ∀ j, j < r → wc.cell? ⟨D, 0 + j, none⟩ = some (.int .u8 (Sha.g (Sha.first a) j)) := by
      intro j hj
      refine hB2.cell ?_
      have : (Sha.first a)[j]? = (128 :: Sha.zeros 63)[j]? := by rw [Sha.first, List.getElem?_take, if_pos (by rw [← HR.out]; exact hj)]
      rw [Sha.bcells, List.getElem?_map, Nat.zero_add, Sha.g, this, List.getElem?_eq_getElem (by simp [Sha.zeros]; omega)]; rfl
    have HPC := Lib.hid hpc
    clear hpc
    go_wp2_with fail
    refine (write_n wc G t (Sha.first a) N _ r HFL.out ⟨v, blk, a, hh, hG2⟩ (hK.mod hM2' (fun h => h)) (by omega) (some ⟨D, 0, none⟩) D 0 64 (fun _ => rfl) (by omega) hr1.2 HPC.out (Sha.bytes_first a) (by omega)).mono ?_
    rintro e w3 ⟨rfl, hM3, hH3⟩
    have hR3 : Blk w3 w.heap.size (Sha.bcells (Sha.zeros 32)) 36 := hM3.blk hR2 (not_only (by omega))
    have hM3' : Mod none_ w w3 := hM2'.trans hM3 (fun k hk h => absurd hk (by rw [show k = G from h]; omega))
    have hG3 : G < w3.heap.size := Nat.lt_of_lt_of_le (by omega) hM3.size
    clear hM3 hM2' hR2 hG2 hB2 hsl HPC q72 hs2
    go_upto_region 9 with fail
    obtain ⟨w4, hw4, hE4, hM4, hs4⟩ : ∃ w4, w3.alloc (.cells (Sha.bcells (Sha.zeros 8)).toArray 66) = w4 ∧ Blk w4 w3.heap.size (Sha.bcells (Sha.zeros 8)) 66 ∧ Mod none_ w3 w4 ∧ w3.heap.size < w4.heap.size := ⟨_, rfl, Blk.new _ _ _, (Mod.refl _ _).alloc _, by simp⟩
    change Code.wp _ _ _ _ (w3.alloc (.cells (Sha.bcells (Sha.zeros 8)).toArray 66))
    rw [hw4]
    clear hw4
    have hR4 : Blk w4 w.heap.size (Sha.bcells (Sha.zeros 32)) 36 := hM4.blk hR3 (fun h => h)
    have hM4' : Mod none_ w w4 := hM3'.trans hM4 (fun _ _ h => h)
    have hH4 : HashAt w4 G (t ++ Sha.first a) ((N + r) % 18446744073709551616) 79 := by
      obtain ⟨v', blk', a', h1, h2⟩ := hH3
      exact ⟨v', blk', a', h1, hM4.blk h2 (fun h => h)⟩
    clear hM4 hM3' hR3 hH3
    generalize w3.heap.size = E at *
    go_wp2
    go_loopw [29] (fun i wr => ∃ k : Nat, k ≤ 8 ∧ i = .int .i64 k ∧ Blk wr E (Sha.bcells (Sha.fill (Sha.be L) k)) 66 ∧ Mod (only E) w4 wr) (fun i _ => 8 - (intOf i).toNat)
    case atStart => exact ⟨0, by omega, rfl, hE4, Mod.refl _ _⟩
    case round =>
      clear hE4
      obtain ⟨k, hk, rfl, hE, hM⟩ := hrel
      by_cases hlt : k < 8
      · have q0 : wr.cell? ⟨E, k, none⟩ = some (.int .u8 0) := hE.cell (by rw [Sha.bcells, List.getElem?_map, Sha.get_fill _ _ _ (Nat.le_refl _) hlt]; rfl)
        have f0 : wr.frozen? ⟨E, k, none⟩ = false := hE.frozen k
        go_wp2
        go_roundw
        case rel => exact ⟨k + 1, by omega, by go_num, (hE.set k _).cs (Sha.set_fill_b _ _ hlt _ (Sha.g_be L k hlt).symm), hM.setCell (fun _ => only_self E) _⟩
        case measure => simp [intOf]; omega
      · have hE' : Blk wr E (Sha.bcells (Sha.be L)) 66 := by
          have e : k = (Sha.be L).length := by rw [Sha.length_be]; omega
          rw [e, Sha.fill_all] at hE; exact hE
        have hH5 : HashAt wr G (t ++ Sha.first a) ((N + r) % 18446744073709551616) 79 := by
          obtain ⟨v', blk', a', h1, h2⟩ := hH4
          exact ⟨v', blk', a', h1, hM.blk h2 (not_only (by omega))⟩
        have hR5 := hM.blk hR4 (not_only (by omega))
        have hM5 : Mod none_ w wr := hM4'.trans hM (fun k hk h => absurd hk (by rw [show k = E from h]; omega))
        have hs5 : E < wr.heap.size := hE'.lt
        have hpc : ∀ j, j < 8 → wr.cell? ⟨E, 0 + j, none⟩ = some (.int .u8 (Sha.g (Sha.be L) j)) := by
          intro j hj
          refine hE'.cell ?_
          rw [Sha.bcells, List.getElem?_map, Nat.zero_add, Sha.g, List.getElem?_eq_getElem hj]; rfl
        have HPC := Lib.hid hpc
        clear hpc hE hE' hH4 hR4 hM4' hM hs4
        go_wp2_with fail
        refine (write_n wr G (t ++ Sha.first a) (Sha.be L) _ _ 8 rfl hH5 (hK.mod hM5 (fun h => h)) (by omega) (some ⟨E, 0, none⟩) E 0 8 (fun _ => rfl) (by omega) (by omega) HPC.out (Sha.bytes_be L) (by omega)).mono ?_
        rintro e w6 ⟨rfl, hM6, v6, blk6, a6, hh6, hB6⟩
        have hR6 := hM6.blk hR5 (not_only (by omega))
        have hM6' : Mod none_ w w6 := hM5.trans hM6 (fun k hk h => absurd hk (by rw [show k = G from h]; omega))
        have hG6 : G < w6.heap.size := Nat.lt_of_lt_of_le (by omega) hM6.size
        have hv6 : v6 = Sha.absorb (t ++ Sha.first a ++ Sha.be L) ((t ++ Sha.first a ++ Sha.be L).length / 64) := hh6.v
        have HV6 := Lib.hid hv6
        have hok6 := hh6.ok
        clear hM6 hM5 hR5 hH5 HPC hv6 hh6 hs5
        go_upto_region 16 with fail
        obtain ⟨w7, hw7, hO7, hM7, hs7⟩ : ∃ w7, w6.alloc (.cells (Sha.bcells (Sha.zeros 32)).toArray 36) = w7 ∧ Blk w7 w6.heap.size (Sha.bcells (Sha.zeros 32)) 36 ∧ Mod none_ w6 w7 ∧ w6.heap.size < w7.heap.size := ⟨_, rfl, Blk.new _ _ _, (Mod.refl _ _).alloc _, by simp⟩
        change Code.wp _ _ _ _ (w6.alloc (.cells (Sha.bcells (Sha.zeros 32)).toArray 36))
        rw [hw7]
        clear hw7
        have hR7 := hM7.blk hR6 (fun h => h)
        have hM7' : Mod none_ w w7 := hM6'.trans hM7 (fun _ _ h => h)
        have hB7 := hM7.blk hB6 (fun h => h)
        clear hM7 hM6' hR6 hB6
        generalize w6.heap.size = O at *
        have hra : w7.rangeAt G 0 (Sha.wcells v6.list) := by
          intro j x hj
          refine hB7.cell ?_
          rw [Nat.zero_add, Sha.hcells, Sha.hl, List.getElem?_append_left (List.getElem?_eq_some_iff.1 hj).1]; exact hj
        have HRA := Lib.hid hra
        clear hra
        go_wp2_with (refine wpList_load_mid rfl 77 (.tmp 43) rfl G 0 rfl (Sha.wcells v6.list) _ HRA.out under_u32a rfl size_u32a ?_)
        go_loopw [45] (fun i wq => ∃ k : Nat, k ≤ 8 ∧ i = .int .i64 k ∧ Blk wq O (Sha.bcells (Sha.fill (Sha.out v6) (4 * k))) 36 ∧ Mod (only O) w7 wq) (fun i _ => 8 - (intOf i).toNat)
        case atStart => exact ⟨0, by omega, rfl, hO7.cs (by rw [Nat.mul_zero, Sha.fill_zero, Sha.length_out]), Mod.refl _ _⟩
        case round =>
          clear hO7
          obtain ⟨k, hk, rfl, hO, hM⟩ := hrel
          by_cases hlt : k < 8
          · have hix := fun wx => index_arr (P := Tryd.prog) 77 76 8 _ under_u32a size_u32 under_u32 rfl (Sha.wcells v6.list) k hlt (.int .u32 (Sha.g v6.list k)) (Sha.get_wcells _ _ hlt) wx
            have hb := Sha.V.bd hok6 k
            have q0 : wr.cell? ⟨O, 4 * k, none⟩ = some (.int .u8 0) := hO.cell (by rw [Sha.bcells, List.getElem?_map, Sha.get_fill _ _ _ (by omega) (by rw [Sha.length_out]; omega)]; rfl)
            have q1 : wr.cell? ⟨O, 4 * k + 1, none⟩ = some (.int .u8 0) := hO.cell (by rw [Sha.bcells, List.getElem?_map, Sha.get_fill _ _ _ (by omega) (by rw [Sha.length_out]; omega)]; rfl)
            have q2 : wr.cell? ⟨O, 4 * k + 2, none⟩ = some (.int .u8 0) := hO.cell (by rw [Sha.bcells, List.getElem?_map, Sha.get_fill _ _ _ (by omega) (by rw [Sha.length_out]; omega)]; rfl)
            have q3 : wr.cell? ⟨O, 4 * k + 3, none⟩ = some (.int .u8 0) := hO.cell (by rw [Sha.bcells, List.getElem?_map, Sha.get_fill _ _ _ (by omega) (by rw [Sha.length_out]; omega)]; rfl)
            have f0 : wr.frozen? ⟨O, 4 * k, none⟩ = false := hO.frozen _
            have f1 : wr.frozen? ⟨O, 4 * k + 1, none⟩ = false := hO.frozen _
            have f2 : wr.frozen? ⟨O, 4 * k + 2, none⟩ = false := hO.frozen _
            have f3 : wr.frozen? ⟨O, 4 * k + 3, none⟩ = false := hO.frozen _
            go_wp2
            go_roundw
            case rel =>
              obtain ⟨g0, g1, g2, g3⟩ := Sha.g_out v6 k hlt
              refine ⟨k + 1, by omega, by go_num, ((((hO.set (4 * k) _).set (4 * k + 1) _).set (4 * k + 2) _).set (4 * k + 3) _).cs ?_, (((hM.setCell (fun _ => only_self O) _).setCell (fun _ => only_self O) _).setCell (fun _ => only_self O) _).setCell (fun _ => only_self O) _⟩
              have hl := Sha.length_out v6
              rw [Sha.set_fill_b _ _ (by omega) _ (by rw [g0]; omega), Sha.set_fill_b _ _ (by omega) _ g1.symm, Sha.set_fill_b _ _ (by omega) _ g2.symm, Sha.set_fill_b _ _ (by omega) _ g3.symm]
              rfl
            case measure => simp [intOf]; omega
          · have hO' : Blk wr O (Sha.bcells (Sha.out v6)) 36 := by
              have e : 4 * k = (Sha.out v6).length := by rw [Sha.length_out]; omega
              rw [e, Sha.fill_all] at hO; exact hO
            have hR8 := hM.blk hR7 (not_only (by omega))
            have hM8 : Mod none_ w wr := hM7'.trans hM (fun k hk h => absurd hk (by rw [show k = O from h]; omega))
            have hres : Sha.out v6 = Sha.sha t := by
              have ht : t.length % 64 = a := hh.pos.symm
              have hLe : L = (t.length : Int) * 8 % 18446744073709551616 := by
                rw [← HLn.out, ← HNN.out]; simp [IntKind.wrap, IntKind.bits, IntKind.signed]; omega
              rw [Sha.sha_eq, Sha.tail, ht, ← hLe, HV6.out, List.append_assoc]
            rw [hres] at hO'
            clear hM hO hres
            go_wp2_with (first | (refine wpList_load_blk rfl 36 (.tmp 9) rfl O rfl 36 (Sha.bcells (Sha.sha t)) _ hO' under_b32 rfl (by rw [size_b32, Sha.bcells, List.length_map, Sha.length_sha]) ?_) | (refine wpList_store_blk rfl 36 (.tmp 2) (.tmp 76) rfl w.heap.size (Sha.bcells (Sha.sha t)) rfl rfl 36 _ hR8 (by rw [size_b32, Sha.bcells, List.length_map, Sha.length_sha]) (by rw [Sha.bcells, Sha.bcells, List.length_map, List.length_map, Sha.length_sha]; rfl) (Sha.one_b _) ?_; intro w9 hB9 hM9 hs9))
            refine bodyPost_ret (results_cell_row rfl _ w9 w.heap.size 36 (Sha.bcells (Sha.sha t)).toArray (0, 0) _ rfl hB9 under_b32 rfl (by rw [size_b32, List.size_toArray, Sha.bcells, List.length_map, Sha.length_sha])) rfl ⟨rfl, hM8.trans hM9 (fun k hk h => absurd hk (by rw [show k = w.heap.size from h]; omega))⟩
end Go.Proofs.YtlndgnlkfhlekaaDoor
