/- pack's Writer: Number. -/
import Derived.Test.YtcmbklofbemclaaPkB
namespace Go.Proofs.Ytcmbklofbemclaa
open Go.RowKit

theorem sized_b (w : World) (k : Int) (β : Bool) (hβ : decide (1 ≤ k ∧ k ≤ 8) = β) : Calls Try.prog 37 #[.int .i64 k] w fun en w' => en = .returned (.bool β) ∧ w' = w := by
  by_cases h1 : 1 ≤ k
  · by_cases h2 : k ≤ 8
    · obtain rfl : β = true := by rw [← hβ]; exact decide_eq_true ⟨h1, h2⟩
      clear hβ
      go_enter Try.func37, Try.ntmps37
      go_wp2
      go_ret
      exact ⟨rfl, rfl⟩
    · obtain rfl : β = false := by rw [← hβ]; exact decide_eq_false (fun h => h2 h.2)
      clear hβ
      go_enter Try.func37, Try.ntmps37
      go_wp2
      go_ret
      exact ⟨rfl, rfl⟩
  · obtain rfl : β = false := by rw [← hβ]; exact decide_eq_false (fun h => h1 h.1)
    clear hβ
    go_enter Try.func37, Try.ntmps37
    go_wp2
    go_ret
    exact ⟨rfl, rfl⟩

namespace Pk
/-- does the number fit into so many bytes? -/
def fits (x k : Int) : Bool := decide (1 ≤ k ∧ k ≤ 8 ∧ (k < 8 → x / 2 ^ (8 * k.toNat) = 0))
/-- its bytes, the highest first -/
def digs (x : Int) (n : Nat) : List Int := (List.range n).map fun j => x / 2 ^ (8 * (n - 1 - j)) % 256
/-- the array as Number fills it, from behind -/
def drow (x : Int) (n i : Nat) : List Int := (List.range 8).map fun j => if n - i ≤ j ∧ j < n then x / 2 ^ (8 * (n - 1 - j)) % 256 else 0
theorem length_digs (x : Int) (n : Nat) : (digs x n).length = n := by simp [digs]
theorem length_drow (x : Int) (n i : Nat) : (drow x n i).length = 8 := by simp [drow]
theorem bytes_digs (x : Int) (n : Nat) : Sha.bytes (digs x n) := by
  intro y hy
  simp only [digs, List.mem_map] at hy
  obtain ⟨j, _, rfl⟩ := hy
  omega
theorem bytes_drow (x : Int) (n i : Nat) : Sha.bytes (drow x n i) := by
  intro y hy
  simp only [drow, List.mem_map] at hy
  obtain ⟨j, _, rfl⟩ := hy
  split <;> omega
theorem drow_zero (x : Int) (n : Nat) : drow x n 0 = Sha.zeros 8 := by
  have h : ∀ j, (if n - 0 ≤ j ∧ j < n then x / 2 ^ (8 * (n - 1 - j)) % 256 else (0 : Int)) = 0 := fun j => by rw [if_neg (by omega)]
  rw [drow]
  simp only [h, List.map_const', List.length_range]
  rfl
theorem drow_set (x : Int) (n i m : Nat) (hi : i < n) (hm : m = n - 1 - i) : (drow x n i).set m (x / 2 ^ (8 * i) % 256) = drow x n (i + 1) := by
  apply List.ext_getElem
  · simp [drow]
  · intro j h1 h2
    simp only [drow, List.getElem_set, List.getElem_map, List.getElem_range]
    by_cases hj : m = j
    · rw [if_pos hj, if_pos (by omega), show n - 1 - j = i by omega]
    · rw [if_neg hj]
      by_cases hk : n - i ≤ j ∧ j < n
      · rw [if_pos hk, if_pos (by omega)]
      · rw [if_neg hk, if_neg (by omega)]
theorem drow_take (x : Int) (n : Nat) (hn : n ≤ 8) : (drow x n n).take n = digs x n := by
  apply List.ext_getElem
  · simp [drow, digs]; omega
  · intro j h1 h2
    have hj : j < n := by simpa [digs] using h2
    simp only [drow, digs, List.getElem_take, List.getElem_map, List.getElem_range]
    rw [if_pos (by omega)]
end Pk
attribute [irreducible] Pk.drow Pk.digs

theorem under_b8a : Try.prog.underlying 61 = some (.array 8 5) := by kernel_rfl
/-- the first bytes of an array's row -/
theorem bytes_arr_to {w : World} {b : Nat} {l : List Int} {T : TypeId} {n c : Nat} (h : Blk w b (Sha.bcells l) T) (hn : n ≤ l.length) (hc : n ≤ c) (hb : Sha.bytes l) (hl : n ≤ 140737488355328) {B : Nat} (hB : b < B) : BytesAt w B (.slice (some ⟨b, 0, none⟩) n c) (l.take n) := by
  have hlt : (l.take n).length = n := by rw [List.length_take]; omega
  refine ⟨Sha.bytes_take hb _, by omega, _, _, by rw [hlt], by omega, (fun h => by cases h), fun _ => ⟨b, 0, rfl, hB, fun j hj => ?_⟩⟩
  have hj' : j < n := by omega
  rw [Nat.zero_add, blk_byte h (by omega), Sha.g, Sha.g, List.getElem?_take, if_pos hj']

set_option maxHeartbeats 2000000 in
set_option maxRecDepth 100000 in
theorem w_number (w : World) (base G V : Nat) (out : Value) (t : List Int) (e : Int) (x k : Int) (h : WrAt w base G V out t e) (hl : t.length + 8 ≤ 140737488355328) (hb : base ≤ w.heap.size) :
    Calls Try.prog 12 #[.pointer (some ⟨G, 0, none⟩), .int .u64 x, .int .i64 k] w fun en w' => en = .returned (.tuple #[]) ∧ WrTo w w' base G V out (Pk.put t e (Pk.fits x k) (Pk.digs x k.toNat)) := by
  by_cases hf : Pk.fits x k = true
  · have hf2 := hf
    rw [Pk.fits, decide_eq_true_iff] at hf2
    obtain ⟨hk1, hk8, hk⟩ := hf2
    obtain ⟨n, rfl⟩ : ∃ n : Nat, k = n := ⟨k.toNat, by omega⟩
    rw [Int.toNat_natCast] at hk ⊢
    have hd : decide (1 ≤ (n : Int) ∧ (n : Int) ≤ 8) = true := decide_eq_true ⟨hk1, hk8⟩
    have hn8 : n ≤ 8 := by omega
    have hn1 : 1 ≤ n := by omega
    have hlB := Pk.length_digs x n
    have hbB := Pk.bytes_digs x n
    obtain ⟨S, hS⟩ : ∃ S, strOf (Pk.digs x n) = S := ⟨_, rfl⟩
    have hnS : num S = Pk.digs x n := by rw [← hS, num_strOf _ hbB]
    have hzS : S.size = n := by rw [← hS, size_strOf, hlB]
    have HNS := Lib.hid hnS; have HS := Lib.hid hS; have HF := Lib.hid hf; have HH := Lib.hid h; have HD := Lib.hid hd
    clear hnS hS hf h hbB hd
    go_enter Try.func12, Try.ntmps12
    go_wp2_with fail
    refine (sized_b w _ _ HD.out).mono ?_
    rintro en w1 ⟨rfl, rfl⟩
    have hm : wrap64 (8 * (n : Int)) = ((8 * n : Nat) : Int) := by unfold wrap64; omega
    have hcase : ((n : Int) < 8 ∧ x / 2 ^ (8 * n) = 0) ∨ ¬ (n : Int) < 8 := by
      by_cases h8 : (n : Int) < 8
      · exact Or.inl ⟨h8, hk h8⟩
      · exact Or.inr h8
    clear hk
    rcases hcase with ⟨h8, hx0⟩ | h8
    all_goals (
      go_upto_region 3 with fail
      obtain ⟨w2, hw2, hB2, hM2⟩ : ∃ w2, w1.alloc (.cells (Sha.bcells (Sha.zeros 8)).toArray 61) = w2 ∧ Blk w2 w1.heap.size (Sha.bcells (Sha.zeros 8)) 61 ∧ Mod none_ w1 w2 := ⟨_, rfl, Blk.new _ _ _, (Mod.refl _ _).alloc _⟩
      change Code.wp _ _ _ _ (w1.alloc (.cells (Sha.bcells (Sha.zeros 8)).toArray 61))
      rw [hw2]
      rw [← Pk.drow_zero x n] at hB2
      obtain ⟨B, hBe⟩ : ∃ B, w1.heap.size = B := ⟨_, rfl⟩
      rw [hBe] at hB2 ⊢
      clear hw2 HD hm h8
      go_wp2_with fail
      go_loopw [25] (fun i wr => ∃ j : Nat, j ≤ n ∧ i = .int .i64 j ∧ Blk wr B (Sha.bcells (Pk.drow x n j)) 61 ∧ Mod none_ w1 wr) (fun i _ => n - (intOf i).toNat)
      case atStart => exact ⟨0, by omega, rfl, hB2, hM2⟩
      case round =>
        clear hB2 hM2
        obtain ⟨j, hj, rfl, hB, hM⟩ := hrel
        by_cases hlt : j < n
        · obtain ⟨m, hm⟩ : ∃ m : Nat, m = n - 1 - j := ⟨_, rfl⟩
          have hmi : (n : Int) - 1 - (j : Int) = (m : Int) := by omega
          have hm8 : (m : Int) < 8 := by omega
          have hji : (j : Int) < (n : Int) := by omega
          have hlr := Pk.length_drow x n j
          obtain ⟨u, hu⟩ : ∃ u, wr.cell? ⟨B, m, none⟩ = some u := ⟨_, hB.cell (by rw [Sha.bcells, List.getElem?_map, List.getElem?_eq_getElem (by omega)]; rfl)⟩
          have fu : wr.frozen? ⟨B, m, none⟩ = false := hB.frozen m
          have hset : (Sha.bcells (Pk.drow x n j)).set m (.int .u8 (x / 2 ^ (8 * j) % 256)) = Sha.bcells (Pk.drow x n (j + 1)) := by rw [bcells_set, Pk.drow_set x n j m hlt hm]
          have HSET := Lib.hid hset
          clear hset hlr hm
          go_wp2_with fail
          go_roundw
          case rel => exact ⟨j + 1, by omega, by go_num, (hB.set m _).cs HSET.out, hM.setCell (fun h => by have : B < w1.heap.size := h; omega) _⟩
          case measure => simp [intOf]; omega
        · have hjn : j = n := by omega
          subst hjn
          have hji : ¬ (j : Int) < (j : Int) := by omega
          have hHr := HH.out.mod hM (fun h => h) (fun h => h) (fun _ _ h => h)
          have hbb := bytes_arr_to (B := wr.heap.size) (c := 8) hB (by rw [Pk.length_drow]; exact hn8) hn8 (Pk.bytes_drow _ _ _) (by omega) hB.lt
          rw [Pk.drow_take x j hn8] at hbb
          have hcv := fun q => str_any (wr.drewN q) _ _ _ (hbb.mod ((Mod.refl none_ wr).drewN q) (fun _ _ h => h))
          have hcv1 := str_any wr.drew _ _ _ (hbb.mod ((Mod.refl none_ wr).drew) (fun _ _ h => h))
          rw [HS.out] at hcv1
          have hsl := fun wx => sliceAt_h (P := Try.prog) 61 5 8 under_b8a size_u8 B 0 j (j : Int) rfl hn8 wx
          have hbr : base ≤ wr.heap.size := Nat.le_trans hb hM.size
          clear hcv hbb hB
          by_cases he : e = 0
          · subst he
            have q2 : wr.cell? ⟨G, 2, none⟩ = some (layOf V 0) := hHr.row.cell rfl
            rw [layOf, if_pos rfl] at q2
            have HC := Lib.hid (lay_any wr.drew base G V out t S (hHr.mod ((Mod.refl none_ wr).drew) (fun h => h) (fun h => h) (fun _ _ h => h)) (by omega) hbr)
            clear hHr
            go_upto_region 8 with fail
            go_region_law (first | (go_simp; go_at_call 36; refine HC.out.mono ?_; rintro en w' ⟨rfl, hMl, hWl⟩))
            all_goals go_end0
            all_goals exact ⟨rfl, by rw [HF.out, put_ok, ← HNS.out]; exact WrTo.after (hM.drew) ⟨hMl, hWl⟩⟩
          · have q2 : wr.cell? ⟨G, 2, none⟩ = some (layOf V e) := hHr.row.cell rfl
            rw [layOf, if_neg he] at q2
            have HR := Lib.hid hHr
            clear hHr
            go_upto_region 8 with fail
            go_region_law (first | (go_simp; go_at_call 48; refine (nop_any _ S).mono ?_; rintro en w' ⟨rfl, hwe⟩))
            all_goals go_end0
            all_goals exact ⟨rfl, by rw [HF.out, put_err _ _ _ he]; exact WrTo.after hM (WrTo.refl HR.out (Mod.refl _ _).drew)⟩)
  · have hp : Pk.put t e (Pk.fits x k) (Pk.digs x k.toNat) = (t, if e = 0 then 51 else e) := by rw [Pk.put, if_neg hf]
    have HC := Lib.hid (fail_any w base G V out t e h 51 (by decide))
    have HP := Lib.hid hp
    have HH := Lib.hid h
    clear h hp
    by_cases hk : 1 ≤ k ∧ k ≤ 8
    · have hxk : k < 8 ∧ x / 2 ^ (8 * k.toNat) ≠ 0 := by
        rw [Pk.fits, decide_eq_true_iff] at hf
        by_cases h1 : k < 8
        · exact ⟨h1, fun h2 => hf ⟨hk.1, hk.2, fun _ => h2⟩⟩
        · exact absurd ⟨hk.1, hk.2, fun h => absurd h h1⟩ hf
      have hd : decide (1 ≤ k ∧ k ≤ 8) = true := decide_eq_true hk
      obtain ⟨n, rfl⟩ : ∃ n : Nat, k = n := ⟨k.toNat, by omega⟩
      rw [Int.toNat_natCast] at hxk
      have hn8 : n < 8 := by omega
      have hm : wrap64 (8 * (n : Int)) = ((8 * n : Nat) : Int) := by unfold wrap64; omega
      have hx2 := hxk.2
      have hk8 := hxk.1
      go_enter Try.func12, Try.ntmps12
      go_wp2_with fail
      refine (sized_b w _ _ hd).mono ?_
      rintro en w1 ⟨rfl, rfl⟩
      go_wp2_with fail
      refine HC.out.mono ?_
      rintro en w2 ⟨rfl, hM, hW⟩
      go_wp2_with fail
      refine bodyPost_ret (results_none rfl _ _ _) rfl ?_
      exact ⟨rfl, by rw [HP.out]; exact ⟨hM.mono (fun b _ h => Or.inl h), _, hW, fun b hb => Or.inl hb⟩⟩
    · have hd : decide (1 ≤ k ∧ k ≤ 8) = false := decide_eq_false hk
      go_enter Try.func12, Try.ntmps12
      go_wp2_with fail
      refine (sized_b w _ _ hd).mono ?_
      rintro en w1 ⟨rfl, rfl⟩
      go_wp2_with fail
      refine HC.out.mono ?_
      rintro en w2 ⟨rfl, hM, hW⟩
      go_wp2_with fail
      refine bodyPost_ret (results_none rfl _ _ _) rfl ?_
      exact ⟨rfl, by rw [HP.out]; exact ⟨hM.mono (fun b _ h => Or.inl h), _, hW, fun b hb => Or.inl hb⟩⟩
end Go.Proofs.Ytcmbklofbemclaa
