/- Boards: the document's Spawns: the walk. -/
import Derived.Test.YtinjlkceplhibaaDoorBdRa
import Derived.Test.YtinjlkceplhibaaDoorBdS
namespace Go.Proofs.YtinjlkceplhibaaDoor
open Go.RowKit

/-- .. its spawns perhaps none -/
structure RBrdM (w : World) (b W H : Nat) (E : List Int) : Prop where
  w3 : 3 ≤ W ∧ W ≤ 64
  h3 : 3 ≤ H ∧ H ≤ 64
  len : E.length = W * H
  mem : ∃ m cap vs rest, Blk w b [.slice (some ⟨m, 0, none⟩) H cap] 94 ∧ Blk w m (vs ++ rest) 88 ∧ vs.length = H ∧ H ≤ cap ∧ ∀ y v, vs[y]? = some v → Line w v W (Bd.row W E y)
theorem RBrd.toM {w : World} {b W H : Nat} {E : List Int} (h : RBrd w b W H E) : RBrdM w b W H E := ⟨⟨h.fine.w3, h.fine.w64⟩, ⟨h.fine.h3, h.fine.h64⟩, h.fine.len, h.mem⟩
theorem RBrdM.none {w w' : World} {b W H : Nat} {E : List Int} (h : RBrdM w b W H E) (hM : Mod none_ w w') : RBrdM w' b W H E := by
  obtain ⟨m, cap, vs, rest, h1, h2, h3, h4, h5⟩ := h.mem
  exact ⟨h.w3, h.h3, h.len, m, cap, vs, rest, hM.blk h1 (fun h => h), hM.blk h2 (fun h => h), h3, h4, fun y v hy => (h5 y v hy).mod hM (fun _ _ h => h)⟩
theorem RBrdM.at {w : World} {b W H : Nat} {E : List Int} (h : RBrdM w b W H E) {y x : Nat} (hy : y < H) (hx : x < W) : ∃ e, E[y * W + x]? = some e ∧ RAt w b W H y x e := by
  obtain ⟨m, cap, vs, rest, h1, h2, h3, h4, h5⟩ := h.mem
  obtain ⟨v, hv⟩ : ∃ v, vs[y]? = some v := ⟨_, List.getElem?_eq_getElem (by omega)⟩
  obtain ⟨g, c, r, rfl, h6, h7⟩ := h5 y v hv
  have hxy : y * W + x < W * H := by
    have h4 : (y + 1) * W ≤ H * W := Nat.mul_le_mul_right W (by omega)
    rw [Nat.succ_mul, Nat.mul_comm H W] at h4
    omega
  obtain ⟨e, he⟩ : ∃ e, E[y * W + x]? = some e := ⟨_, List.getElem?_eq_getElem (by rw [h.len]; exact hxy)⟩
  refine ⟨e, he, m, cap, g, c, h1.cell rfl, h2.cell ?_, h6.cell (i32s_at (by rw [Bd.row_at hx]; exact he) r), h4, h7⟩
  rw [List.getElem?_append_left (by omega)]
  exact hv
set_option maxHeartbeats 1000000 in
theorem rspawns_any (w : World) {b W H : Nat} {E : List Int} (h : RBrdM w b W H E) :
    Calls Tryd.prog 55 #[.pointer (some ⟨b, 0, none⟩)] w fun e w' => ∃ v, e = .returned v ∧ OwnV w' w.heap.size v (Bd.spawns W E) ∧ Mod none_ w w' := by
  have hw := h.w3; have hh := h.h3
  have hn4 : W * H ≤ 4096 := Nat.mul_le_mul hw.2 hh.2
  have hl := h.len
  have hat := fun (q : World) (hM : Mod none_ w q) (y x : Nat) (hy : y < H) (hx : x < W) => (h.none hM).at hy hx
  have hyx : ∀ y x, y < H → x ≤ W → y * W + x ≤ W * H := fun y x hy hx => by
    have h4 : (y + 1) * W ≤ H * W := Nat.mul_le_mul_right W (by omega)
    rw [Nat.succ_mul, Nat.mul_comm H W] at h4
    omega
  have HA := Lib.hid hat; have HL := Lib.hid hl; have HYX := Lib.hid hyx
  clear h hat hl hyx
  go_enter Tryd.func55, Tryd.ntmps55
  go_wp2
  go_loopw [3, 4] (fun v t wr => ∃ y : Nat, t = .int .i64 y ∧ y ≤ H ∧ OwnV wr w.heap.size v (Bd.spawnsFrom W 0 (E.take (y * W))) ∧ Mod none_ w wr) (fun _ t _ => H - (intOf t).toNat)
  case atStart => exact ⟨0, rfl, by omega, by rw [Nat.zero_mul]; exact Row.nil _ _ _ _, Mod.refl _ _⟩
  case round =>
    obtain ⟨y, rfl, hy, hv, hM⟩ := hrel
    have HV := Lib.hid hv; have HM := Lib.hid hM
    clear hv hM
    by_cases hyH : y < H
    · obtain ⟨e, _, m, cap, g, c, q0, q1, q2, k1, k2⟩ := HA.out _ HM.out y 0 hyH (by omega)
      have hyH' : (y : Int) < (H : Int) := by omega
      obtain ⟨wo, rfl⟩ : ∃ wo : World, wo = wr := ⟨_, rfl⟩
      go_wp2_with fail
      clear q0 q1 q2
      go_loopw [3, 5] (fun v t wz => ∃ x : Nat, t = .int .i64 x ∧ x ≤ W ∧ OwnV wz w.heap.size v (Bd.spawnsFrom W 0 (E.take (y * W + x))) ∧ Mod none_ w wz) (fun _ t _ => W - (intOf t).toNat)
      case atStart => exact ⟨0, rfl, by omega, HV.out, HM.out⟩
      case round =>
        obtain ⟨x, rfl, hx, hv, hM⟩ := hrel
        have HV := Lib.hid hv; have HM := Lib.hid hM
        clear hv hM
        by_cases hxW : x < W
        · obtain ⟨c, hc, m, cap, g, c', q0, q1, q2, k1, k2⟩ := HA.out _ HM.out y x hyH hxW
          have hxW' : (x : Int) < (W : Int) := by omega
          have hsn := Bd.spawnsFrom_snoc W (E.take (y * W + x)) c 0
          have ht : E.take (y * W + x + 1) = E.take (y * W + x) ++ [c] := by rw [List.take_add_one, hc]; rfl
          rw [← ht] at hsn
          have hlt : (E.take (y * W + x)).length = y * W + x := by rw [List.length_take, HL.out]; have := HYX.out y x hyH hx; omega
          rw [hlt, Nat.zero_add] at hsn
          have hsl : (Bd.spawnsFrom W 0 (E.take (y * W + x))).length ≤ 4096 := by
            rw [Bd.spawnsFrom_length]
            have := List.count_le_length (a := (83 : Int)) (l := E.take (y * W + x))
            have := HYX.out y x hyH hx
            omega
          have hmid : Bd.mid W (y * W + x) = ((x : Int) * 524288 + 262144, (y : Int) * 524288 + 262144) := by
            unfold Bd.mid
            have e1 : (y * W + x) % W = x := by rw [Nat.mul_comm, Nat.mul_add_mod]; exact Nat.mod_eq_of_lt hxW
            have e2 : (y * W + x) / W = y := by rw [Nat.mul_comm, Nat.mul_add_div (by omega), Nat.div_eq_of_lt hxW, Nat.add_zero]
            rw [e1, e2]
          rw [hmid] at hsn
          have HSN := Lib.hid hsn
          clear hsn hc ht hlt hmid
          by_cases h83 : c = 83
          · subst h83
            have hsn2 := HSN.out
            rw [if_pos rfl] at hsn2
            have HSN2 := Lib.hid hsn2
            have hBn : Blk (wr.alloc (.cells #[.int .i64 ((x : Int) * 524288 + 262144), .int .i64 ((y : Int) * 524288 + 262144)] 23)) wr.heap.size [.int .i64 ((x : Int) * 524288 + 262144), .int .i64 ((y : Int) * 524288 + 262144)] 23 := Blk.new wr _ _
            have HBN := Lib.hid hBn
            clear hsn2 hBn
            go_wp2_with (at_builtin; refine wpList_append_v rfl (.tmp 38) (.tmp 46) rfl w.heap.size _ _ rfl (Row.none HV.out ((Mod.refl none_ wr).alloc _)) ((x : Int) * 524288 + 262144, (y : Int) * 524288 + 262144) wr.heap.size rfl HBN.out (by omega) (by have := HM.out.size; simp; omega) ?_; intro v2 w2 hv2 hg2; have HV2 := Lib.hid hv2; have HG2 := Lib.hid hg2; clear hv2 hg2)
            have hM2 : Mod none_ w w2 := (HM.out.then ((Mod.refl none_ wr).alloc _)).trans (Mod.grownBy (S := fun b => _ = some b) HG2.out (fun j _ e => e)) (fun b hb e => by have := Row.own_ge HV.out e; omega)
            have hv2 := HV2.out
            rw [← HSN2.out] at hv2
            go_roundw
            case rel => exact ⟨x + 1, by go_num, by omega, hv2, hM2⟩
            case measure => simp [intOf]; omega
          · have e83 : (c == 83) = false := by simp [h83]
            have HC := Lib.hid h83
            clear h83
            go_wp2
            have hv2 := HV.out
            have hsn2 := HSN.out
            rw [if_neg HC.out, List.append_nil] at hsn2
            rw [← hsn2] at hv2
            go_roundw
            case rel => exact ⟨x + 1, by go_num, by omega, hv2, HM.out⟩
            case measure => simp [intOf]; omega
        · obtain ⟨e, _, m, cap, g, c, q0, q1, q2, k1, k2⟩ := HA.out _ HM.out y 0 hyH (by omega)
          have hxW' : ¬ (x : Int) < (W : Int) := by omega
          have exW : x = W := by omega
          have hv := HV.out
          rw [exW, ← Nat.succ_mul] at hv
          have HV2 := Lib.hid hv
          clear exW hv
          go_wp2
          go_roundw
          case rel => exact ⟨y + 1, by go_num, by omega, HV2.out, HM.out⟩
          case measure => simp [intOf]; omega
    · obtain ⟨e, _, m, cap, g, c, q0, q1, q2, k1, k2⟩ := HA.out _ HM.out 0 0 (by omega) (by omega)
      have hyH' : ¬ (y : Int) < (H : Int) := by omega
      go_wp2
      go_ret
      refine ⟨_, rfl, ?_, HM.out⟩
      have hv := HV.out
      rw [List.take_of_length_le (by rw [HL.out, show y = H by omega, Nat.mul_comm]; exact Nat.le_refl _)] at hv
      exact hv
end Go.Proofs.YtinjlkceplhibaaDoor
