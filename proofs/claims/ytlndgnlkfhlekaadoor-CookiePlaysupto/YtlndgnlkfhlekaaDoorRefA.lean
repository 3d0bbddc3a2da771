/- The reference of chapter 1: laid. -/
import Derived.Test.YtlndgnlkfhlekaaDoorShaC
namespace Go.Proofs.YtlndgnlkfhlekaaDoor
open Go.RowKit
namespace Sha
/-- the length of what Sum works on -/
theorem tail_eq (t : List Int) : tail t = 128 :: (zeros (room (t.length % 64) - 1) ++ be ((t.length : Int) * 8 % 18446744073709551616)) := by
  have h := room_le (t.length % 64) (by omega)
  unfold tail first
  obtain ⟨r, hr⟩ : ∃ r, room (t.length % 64) = r + 1 := ⟨_, (by omega : _ = (room (t.length % 64) - 1) + 1)⟩
  rw [hr, List.take_succ_cons, Nat.add_sub_cancel, List.cons_append]
  congr 2
  rw [zeros, List.take_replicate, zeros]; congr 1; omega
theorem length_tail (t : List Int) : t.length + (tail t).length = (t.length + 9 + 63) / 64 * 64 := by
  have h := room_le (t.length % 64) (by omega)
  rw [tail_eq]
  simp only [List.length_cons, List.length_append, length_be, zeros, List.length_replicate]
  unfold room at *
  split <;> omega
theorem bytes_zeros (n : Nat) : bytes (zeros n) := fun x hx => by rw [List.eq_of_mem_replicate hx]; decide
theorem bytes_tail (t : List Int) : bytes (tail t) := bytes_append (bytes_first _) (bytes_be _)
/-- the text laid out, k of its numbers there -/
theorem set_row (a : List Int) (x : Int) (m n : Nat) (h : n = a.length) : (bcells (a ++ zeros (m + 1))).set n (.int .u8 x) = bcells (a ++ [x] ++ zeros m) := by
  rw [bcells, ← List.map_set, h]
  congr 1
  simp [zeros, List.replicate_succ]
/-- the last k of eight bytes laid, from behind -/
def behind (L : Int) (k : Nat) : List Int := zeros (8 - k) ++ (be L).drop (8 - k)
theorem behind_zero (L : Int) : behind L 0 = zeros 8 := by simp [behind, be]
theorem behind_all (L : Int) : behind L 8 = be L := by simp [behind, zeros]
theorem length_behind (L : Int) (k : Nat) : (behind L k).length = 8 := by simp [behind, zeros, length_be]
theorem set_behind (L : Int) (k : Nat) (h : k < 8) (a : List Int) (i : Nat) (hi : i = a.length + (7 - k)) (x : Int) (hx : x = L / 2 ^ (8 * k) % 256) :
    (bcells (a ++ behind L k)).set i (.int .u8 x) = bcells (a ++ behind L (k + 1)) := by
  rw [bcells, ← List.map_set, hi, List.set_append_right _ _ (by omega), Nat.add_sub_cancel_left, hx]
  congr 2
  rcases below8 h with rfl | rfl | rfl | rfl | rfl | rfl | rfl | rfl <;> simp [behind, zeros, be, List.replicate_succ]
end Sha

theorem blk_byte {w : World} {b : Nat} {l : List Int} {T : TypeId} (h : Blk w b (Sha.bcells l) T) {i : Nat} (hi : i < l.length) : w.cell? ⟨b, i, none⟩ = some (.int .u8 (Sha.g l i)) :=
  h.cell (by rw [Sha.bcells, List.getElem?_map, Sha.g, List.getElem?_eq_getElem hi]; rfl)

theorem wpList_make_bytes {ops : Array Oper} {rest : List Oper} {o : Oper} {a : Act} {w : World} {Q : Exit → Act → World → Prop} (hgd : o.guard = none) (l c : Operand)
    (ho : o.op = .makeSlice 63 l c) (n : Nat) (hl : a.eval l = .int .i64 (n : Int)) (hc : a.eval c = .int .i64 (n : Int)) (hn : n ≤ 281474976710656)
    (h : ∀ w', Blk w' w.heap.size (Sha.bcells (Sha.zeros n)) 5 → Mod none_ w w' → w'.heap.size = w.heap.size + 1 → wpList Tryd.prog ops Q rest (a.put o.dst (.slice (some ⟨w.heap.size, 0, none⟩) n n)) w') : wpList Tryd.prog ops Q (o :: rest) a w := by
  refine wpList_plain hgd fun K hK' => ?_
  obtain ⟨i, hi, hz0, hz1, hz2⟩ := info_parts info_b8
  have hr := run_make (P := Tryd.prog) w 63 5 i (.int .u8 0) under_b28 hi hz0 .i64 .i64 n n (by omega) (Int.le_refl _) (by rw [hz2]; omega) (by omega)
  unfold Oper.wp
  simp [execOp, ho, hl, hc, hr, Result.andThen]
  refine hK' _ _ (h _ ?_ ((Mod.refl _ _).alloc _) (by simp))
  have e : madeCells (Value.int .u8 0).cells (n * i.size) = (Sha.bcells (Sha.zeros n)).toArray := by
    rw [hz1, Nat.mul_one, Sha.bcells, Sha.zeros, List.map_replicate]
    apply Array.ext
    · simp [madeCells]
    · intro j h1 h2; simp [madeCells, Value.cells, Nat.mod_one]
  rw [e]
  exact Blk.new _ _ _

set_option maxHeartbeats 1000000 in
set_option maxRecDepth 100000 in
theorem laid_any (w : World) (v : Value) (t : List Int) (h : BytesAt w w.heap.size v t) (hl : t.length ≤ 70368744177664) :
    Calls Tryd.prog 42 #[v] w fun e w' => ∃ n b, e = .returned (.slice (some ⟨b, 0, none⟩) n n) ∧ n = (t ++ Sha.tail t).length ∧ Blk w' b (Sha.bcells (t ++ Sha.tail t)) 5 ∧ w.heap.size ≤ b ∧ Mod none_ w w' := by
  obtain ⟨h1, h2, sa, c, rfl, h4, h0, h5⟩ := h
  have htl := Sha.length_tail t
  generalize hn : t.length = n at *
  go_enter Tryd.func42, Tryd.ntmps42
  have HN := Lib.hid hn
  have HTL := Lib.hid htl
  have H5 := Lib.hid h5
  clear hn htl h5
  obtain ⟨N, hN⟩ : ∃ N : Nat, (N : Int) = ((n : Int) + 9 + 63) / 64 * 64 := ⟨(n + 9 + 63) / 64 * 64, by omega⟩
  have hNb : N ≤ 281474976710656 := by omega
  have HNN := Lib.hid hN
  clear hN
  go_upto_region 3 with (rw [← HNN.out]; refine wpList_make_bytes rfl _ _ rfl N rfl rfl hNb ?_; intro w1 hB1 hM1 hs1)
  have hNn : n + 9 ≤ N := by have := HNN.out; omega
  have hTN : n + (Sha.tail t).length = N := by have := HTL.out; have := HNN.out; omega
  have hNlo : N < n + 73 := by have := HNN.out; omega
  have HTN := Lib.hid hTN
  clear hTN HTL HNN
  generalize hB : w.heap.size = B at *
  obtain rfl : B = w.heap.size := hB.symm
  clear hB
  go_wp2_with fail
  go_loopw [5] (fun i wr => ∃ k : Nat, k ≤ n ∧ i = .int .i64 k ∧ Blk wr w.heap.size (Sha.bcells (t.take k ++ Sha.zeros (N - k))) 5 ∧ Mod none_ w wr) (fun i _ => n - (intOf i).toNat)
  case atStart => exact ⟨0, by omega, rfl, hB1, hM1⟩
  case round =>
    clear hB1 hM1 hs1 w1
    obtain ⟨k, hk, rfl, hB, hM⟩ := hrel
    by_cases hlt : k < n
    · obtain ⟨pb, po, rfl, hpb, hc⟩ := H5.out (by omega)
      have htk : (t.take k).length = k := by have := HN.out; rw [List.length_take]; omega
      have q0 : wr.cell? ⟨pb, po + k, none⟩ = some (.int .u8 (Sha.g t k)) := hM.cellS (hc k hlt) (fun h => h)
      have q1 : wr.cell? ⟨w.heap.size, k, none⟩ = some (.int .u8 0) := hB.cell (by rw [Sha.bcells, List.getElem?_map, List.getElem?_append_right (by omega), htk, Nat.sub_self, Sha.zeros, List.getElem?_replicate, if_pos (by omega)]; rfl)
      have f1 : wr.frozen? ⟨w.heap.size, k, none⟩ = false := hB.frozen k
      have hnext : (Sha.bcells (t.take k ++ Sha.zeros (N - k))).set k (.int .u8 (Sha.g t k)) = Sha.bcells (t.take (k + 1) ++ Sha.zeros (N - (k + 1))) := by
        have := HN.out
        rw [show N - k = N - (k + 1) + 1 by omega, Sha.set_row _ _ _ _ htk.symm, List.take_add_one, List.getElem?_eq_getElem (by omega), Sha.g, List.getElem?_eq_getElem (by omega)]
        rfl
      have HX := Lib.hid hnext
      clear hnext hc htk
      go_wp2
      go_roundw
      case rel => exact ⟨k + 1, by omega, by go_num, (hB.set k _).cs HX.out, hM.setCell (fun h => absurd h (by simp)) _⟩
      case measure => simp [intOf]; omega
    · have hkn : k = n := by omega
      have htk : t.take k = t := by have := HN.out; rw [List.take_of_length_le (by omega)]
      rw [htk] at hB
      have q1 : wr.cell? ⟨w.heap.size, n, none⟩ = some (.int .u8 0) := hB.cell (by have := HN.out; rw [Sha.bcells, List.getElem?_map, List.getElem?_append_right (by omega), Sha.zeros, List.getElem?_replicate, if_pos (by omega)]; rfl)
      have f1 : wr.frozen? ⟨w.heap.size, n, none⟩ = false := hB.frozen n
      have hB2 := hB.set n (.int .u8 128)
      rw [show N - k = (N - n - 9) + 8 + 1 by omega, Sha.set_row t 128 _ n HN.out.symm, show Sha.zeros (N - n - 9 + 8) = Sha.zeros (N - n - 9) ++ Sha.behind ((n : Int) * 8) 0 by rw [Sha.behind_zero, Sha.zeros, Sha.zeros, Sha.zeros, List.replicate_append_replicate], ← List.append_assoc] at hB2
      have hM2 : Mod none_ w (wr.setCell ⟨w.heap.size, n, none⟩ (.int .u8 128)) := hM.setCell (fun h => absurd h (by simp)) _
      generalize hA : t ++ [128] ++ Sha.zeros (N - n - 9) = A at *
      have hAl : A.length = N - 8 := by have := HN.out; rw [← hA]; simp [Sha.zeros]; omega
      have HA := Lib.hid hA
      clear hB hM htk hA
      go_wp2
      generalize wr.setCell ⟨w.heap.size, n, none⟩ (.int .u8 128) = w2 at *
      go_loopw [7] (fun i wr => ∃ k : Nat, k ≤ 8 ∧ i = .int .i64 k ∧ Blk wr w.heap.size (Sha.bcells (A ++ Sha.behind ((n : Int) * 8) k)) 5 ∧ Mod none_ w wr) (fun i _ => 8 - (intOf i).toNat)
      case atStart => exact ⟨0, by omega, rfl, hB2, hM2⟩
      case round =>
        clear hB2 hM2 q1 f1
        obtain ⟨k2, hk2, rfl, hB, hM⟩ := hrel
        by_cases hlt2 : k2 < 8
        · have q1 : wr.cell? ⟨w.heap.size, N - 1 - k2, none⟩ = some (.int .u8 _) := blk_byte hB (by rw [List.length_append, Sha.length_behind]; omega)
          have f1 : wr.frozen? ⟨w.heap.size, N - 1 - k2, none⟩ = false := hB.frozen _
          have hnext := fun x hx => Sha.set_behind ((n : Int) * 8) k2 hlt2 A (N - 1 - k2) (by omega) x hx
          have HX := Lib.hid hnext
          clear hnext
          go_wp2
          go_roundw
          case rel => exact ⟨k2 + 1, by omega, by go_num, (hB.set _ _).cs (HX.out _ rfl), hM.setCell (fun h => absurd h (by simp)) _⟩
          case measure => simp [intOf]; omega
        · have hAB : A ++ Sha.behind ((n : Int) * 8) k2 = t ++ Sha.tail t := by
            have e1 := HN.out; have e2 := HTN.out
            rw [Sha.tail_eq] at e2 ⊢
            simp only [List.length_cons, List.length_append, Sha.length_be, Sha.zeros, List.length_replicate] at e2
            rw [show k2 = 8 by omega, Sha.behind_all, ← HA.out, e1, show ((n : Int) * 8 % 18446744073709551616) = n * 8 by omega]
            rw [e1] at e2
            rw [show Sha.room (n % 64) - 1 = N - n - 9 by omega]
            simp
          rw [hAB] at hB
          have hlen : N = (t ++ Sha.tail t).length := by have e1 := HN.out; have e2 := HTN.out; rw [List.length_append]; omega
          have HL := Lib.hid hlen
          clear hAB hlen
          go_wp2
          go_ret
          exact ⟨N, _, rfl, HL.out, hB, Nat.le_refl _, hM⟩
end Go.Proofs.YtlndgnlkfhlekaaDoor
