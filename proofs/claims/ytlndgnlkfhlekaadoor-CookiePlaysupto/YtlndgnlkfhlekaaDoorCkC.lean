/- cookie.bake: the walk. -/
import Derived.Test.YtlndgnlkfhlekaaDoorCkB
namespace Go.Proofs.YtlndgnlkfhlekaaDoor
open Go.RowKit

namespace Ck
def beRow (e : Int) (m : Nat) : List Int := (Sha.be e).take m ++ Sha.zeros (8 - m)
theorem beRow_zero (e : Int) : beRow e 0 = Sha.zeros 8 := by simp [beRow]
theorem beRow_all (e : Int) : beRow e 8 = Sha.be e := by simp [beRow, Sha.be, Sha.zeros]
theorem length_beRow (e : Int) (m : Nat) (h : m ≤ 8) : (beRow e m).length = 8 := by simp [beRow, Sha.zeros, Sha.length_be]; omega
theorem beRow_set (e : Int) (m : Nat) (h : m < 8) : (beRow e m).set m (e / 2 ^ (56 - 8 * m) % 256) = beRow e (m + 1) := by
  have : m = 0 ∨ m = 1 ∨ m = 2 ∨ m = 3 ∨ m = 4 ∨ m = 5 ∨ m = 6 ∨ m = 7 := by omega
  rcases this with rfl | rfl | rfl | rfl | rfl | rfl | rfl | rfl <;> simp [beRow, Sha.be, Sha.zeros]
end Ck
attribute [irreducible] Ck.beRow

set_option maxHeartbeats 2000000 in
set_option maxRecDepth 100000 in
theorem bake_any (w : World) (hK : Rounds w) (s a b : ByteArray) (e : Int) (he : 0 ≤ e ∧ e < 18446744073709551616) (hs : s.size = 32) (ha : Fits a) (hb : Fits b) :
    Calls Tryd.prog 26 #[.agg (Sha.bcells (num s)).toArray, .string a, .string b, .int .u64 e] w fun r w' => r = .returned (.agg (Sha.bcells (num (Ck.ck s a b e))).toArray) ∧ Mod none_ w w' := by
  have hl : (Sha.bcells (num s)).length = 32 := by rw [Sha.bcells, List.length_map, length_num, hs]
  go_enter Tryd.func26, Tryd.ntmps26
  go_upto_region 2 with fail
  obtain ⟨w1, hw1, hS1, hR1, hN1, hM1⟩ : ∃ w1, ((w.alloc (.cells (Sha.bcells (num s)).toArray 37)).alloc (.cells (Sha.bcells (Sha.zeros 32)).toArray 37)).alloc (.cells (Sha.bcells (Sha.zeros 8)).toArray 66) = w1 ∧
      Blk w1 w.heap.size (Sha.bcells (num s)) 37 ∧ Blk w1 (w.heap.size + 1) (Sha.bcells (Sha.zeros 32)) 37 ∧ Blk w1 (w.heap.size + 1 + 1) (Sha.bcells (Sha.zeros 8)) 66 ∧ Mod none_ w w1 :=
    ⟨_, rfl, ((Blk.new _ _ _).alloc _).alloc _, (Blk.newA2 w (.cells (Sha.bcells (num s)).toArray 37) (Sha.bcells (Sha.zeros 32)).toArray 37).alloc _, by simpa using Blk.newA2 (w.alloc (.cells (Sha.bcells (num s)).toArray 37)) (.cells (Sha.bcells (Sha.zeros 32)).toArray 37) (Sha.bcells (Sha.zeros 8)).toArray 66, (((Mod.refl _ _).alloc _).alloc _).alloc _⟩
  change Code.wp _ _ _ _ (((w.alloc (.cells (Sha.bcells (num s)).toArray 37)).alloc (.cells (Sha.bcells (Sha.zeros 32)).toArray 37)).alloc (.cells (Sha.bcells (Sha.zeros 8)).toArray 66))
  rw [hw1]
  rw [← Ck.beRow_zero e] at hN1
  clear hw1
  obtain ⟨B, hB⟩ : ∃ B, w.heap.size = B := ⟨_, rfl⟩
  have hBw : w.heap.size ≤ B := by omega
  rw [hB] at hS1 hR1 hN1 ⊢
  go_wp2_with fail
  go_loopw [11] (fun i wr => ∃ m : Nat, m ≤ 8 ∧ i = .int .i64 m ∧ Blk wr (B + 1 + 1) (Sha.bcells (Ck.beRow e m)) 66 ∧ Blk wr B (Sha.bcells (num s)) 37 ∧ Blk wr (B + 1) (Sha.bcells (Sha.zeros 32)) 37 ∧ Mod none_ w wr) (fun i _ => 8 - (intOf i).toNat)
  case atStart => exact ⟨0, by omega, rfl, hN1, hS1, hR1, hM1⟩
  case round =>
    clear hN1 hS1 hR1 hM1
    obtain ⟨m, hm, rfl, hN, hS, hR, hM⟩ := hrel
    by_cases hlt : m < 8
    · have hmi : (m : Int) < 8 := by omega
      have f1 : wr.frozen? ⟨B + 1 + 1, m, none⟩ = false := hN.frozen m
      have q1 : wr.cell? ⟨B + 1 + 1, m, none⟩ = some (.int .u8 (Sha.g (Ck.beRow e m) m)) := hN.cell (bcells_get _ _ (by rw [Ck.length_beRow _ _ hm]; exact hlt))
      have hset := Ck.beRow_set e m hlt
      obtain ⟨y, hy⟩ : ∃ y : Nat, 56 - 8 * m = y := ⟨_, rfl⟩
      rw [hy] at hset
      have hy0 : y ≤ 56 := by omega
      have e1 : IntKind.i64.wrap (8 * (m : Int)) = 8 * (m : Int) := by rw [IntKind.wrap_i64]; omega
      have e2 : IntKind.i64.wrap (56 - 8 * (m : Int)) = (y : Int) := by rw [IntKind.wrap_i64]; omega
      have HSET := Lib.hid hset
      clear hset hy
      go_upto_region 6 with fail
      have hN2 : Blk (wr.setCell ⟨B + 1 + 1, m, none⟩ (.int .u8 (e / 2 ^ y % 256))) (B + 1 + 1) (Sha.bcells (Ck.beRow e (m + 1))) 66 := (hN.set m _).cs (by rw [bcells_set, HSET.out])
      have hS2 := hS.set_other (a := ⟨B + 1 + 1, m, none⟩) (by show B ≠ B + 1 + 1; omega) (.int .u8 (e / 2 ^ y % 256))
      have hR2 := hR.set_other (a := ⟨B + 1 + 1, m, none⟩) (by show B + 1 ≠ B + 1 + 1; omega) (.int .u8 (e / 2 ^ y % 256))
      have hM2 := hM.setCell (p := ⟨B + 1 + 1, m, none⟩) (fun h => by have : B + 1 + 1 < w.heap.size := h; omega) (.int .u8 (e / 2 ^ y % 256))
      clear hN hS hR hM HSET f1 q1
      go_wp2
      go_roundw
      case rel => exact ⟨m + 1, by omega, by go_num, hN2, hS2, hR2, hM2⟩
      case measure => simp [intOf]; omega
    · have h8 : m = 8 := by omega
      subst h8
      rw [Ck.beRow_all] at hN
      have hKw := hK.mod hM (fun h => h)
      have hsl := fun b wx => sliceAt_whole (P := Tryd.prog) 37 5 32 under_sec size_u8 b wx
      have hsl2 := fun b wx => sliceAt_whole (P := Tryd.prog) 66 5 8 under_s8 size_u8 b wx
      have hc1 : ∀ wq : World, Mod (only (B + 1)) wr wq → (convert 63 9 (.slice (some ⟨B, 0, none⟩) 32 32)).run Tryd.prog wq = .ok (.string s) wq := fun wq h => by
        have := str_any wq _ _ _ ((bytes_arr hS (by rw [length_num, hs]) (bytes_num s) (by decide) (B := B + 1) (by omega)).mod h (fun k hk e => by have : k = B + 1 := e; omega))
        rw [strOf_num] at this; exact this
      have hc2 : ∀ wq : World, Mod (only (B + 1)) wr wq → (convert 63 9 (.slice (some ⟨B + 1 + 1, 0, none⟩) 8 8)).run Tryd.prog wq = .ok (.string (Ck.be e)) wq := fun wq h => by
        have := str_any wq _ _ _ (bytes_arr (h.blk hN (not_only (by omega))) (Sha.length_be _) (Sha.bytes_be _) (by decide) (h.blk hN (not_only (by omega))).lt)
        unfold Ck.be; exact this
      go_upto_region 7 with fail
      have hd : ∀ q : World, (wr.alloc (.cells #[.string a, .string b, .string (Ck.be e)] 9)).drew = q → Calls Tryd.prog 17 #[.string s, .string Ck.cookieB, .slice (some ⟨wr.heap.size, 0, none⟩) 3 3] q fun r w' => r = .returned (.string (Ck.ck s a b e)) ∧ Mod none_ wr w' := by
        rintro q rfl
        have hst := ((three_strs wr a b (Ck.be e) 9).mod (Mod.refl none_ _).drew (fun _ _ h => h))
        refine (derive_s _ (hKw.mod ((Mod.refl none_ wr).alloc _).drew (fun h => h)) s Ck.cookieB (some ⟨wr.heap.size, 0, none⟩) 3 3 [a, b, Ck.be e] (hst.mono (by simp)) (fits32 hs) fits_cookie (by
          intro p hp
          simp only [List.mem_cons, List.not_mem_nil, or_false] at hp
          rcases hp with rfl | rfl | rfl
          · exact ha
          · exact hb
          · exact fits_be _) (by simp)).mono ?_
        rintro r w' ⟨rfl, hN⟩
        exact ⟨by unfold Ck.ck; rfl, (((Mod.refl none_ wr).alloc _).drew).then hN⟩
      have ho := fun q : World => ckof_any q (Ck.ck s a b e) (Ck.size_ck s a b e)
      have hlR : (Sha.bcells (num (Ck.ck s a b e))).length = 32 := by rw [Sha.bcells, List.length_map, length_num, Ck.size_ck]
      have hone := Sha.one_b (num (Ck.ck s a b e))
      have hsz := size_sec
      have HD := Lib.hid hd; have HO := Lib.hid ho
      clear hd ho
      have hm0 : Mod (only (B + 1)) wr wr := Mod.refl _ _
      go_region_held3 (fun w' => Mod (only (B + 1)) wr w') (first | ((repeat (first | assumption | exact Mod.refl _ _ | refine Mod.drew ?_ | refine Mod.alloc ?_ _)); done))
        (first | (go_at_call 17; refine (HD.out _ rfl).mono ?_; rintro r w7 ⟨rfl, hN7⟩; have hm7 : Mod (only (B + 1)) wr w7 := hN7.mono (fun _ _ h => h.elim)) | (go_at_call 21; refine (HO.out _).mono ?_; rintro r w8 ⟨rfl, hN8⟩; have hN9 := hN7.then hN8; have hR8 := hN9.blk hR (fun h => h); have hth : w8.there (B + 1) 0 32 := hR8.there (by simp [Sha.bcells, Sha.zeros]); have hm8 : Mod (only (B + 1)) wr w8 := hN9.mono (fun _ _ h => h.elim); have hm9 : Mod (only (B + 1)) wr (w8.setCells (B + 1) 0 (Sha.bcells (num (Ck.ck s a b e)))) := hm8.trans (Mod.setCells _ _ _ _) (fun _ _ h => h)))
      go_wp2_with fail
      have hB9 : Blk (w8.setCells (B + 1) 0 (Sha.bcells (num (Ck.ck s a b e)))) (B + 1) (Sha.bcells (num (Ck.ck s a b e))) 37 :=
        (Blk.setCells (Sha.bcells (num (Ck.ck s a b e))) 0 _ _ hR8 (by rw [hlR]; simp [Sha.bcells, Sha.zeros])).cs (by rw [hlR]; simp [Sha.bcells, Sha.zeros])
      exact bodyPost_ret (results_cell_row rfl _ _ (B + 1) 37 (Sha.bcells (num (Ck.ck s a b e))).toArray (0, 0) _ rfl hB9 under_sec rfl (by rw [size_sec, List.size_toArray, hlR])) rfl ⟨rfl, hM.trans hm9 (fun k hk h => absurd hk (by rw [show k = B + 1 from h]; omega))⟩
end Go.Proofs.YtlndgnlkfhlekaaDoor
