/- Boards: Spawns: the walk. -/
import Derived.Test.YtinjlkceplhibaaDoorBdR
import Derived.Deep.RegionHeld3
namespace Bd
theorem spawnsFrom_snoc (W : Nat) (E : List Int) (c : Int) : ∀ i, spawnsFrom W i (E ++ [c]) = spawnsFrom W i E ++ (if c = 83 then [mid W (i + E.length)] else []) := by
  induction E with
  | nil => intro i; simp [spawnsFrom, mid]
  | cons d r ih =>
    intro i
    rw [List.cons_append, spawnsFrom, ih, spawnsFrom]
    have e : i + (d :: r).length = i + 1 + r.length := by simp; omega
    rw [e]
    split <;> simp
end Bd
namespace Go.Proofs.YtinjlkceplhibaaDoor
open Go.RowKit

/-- a board in memory, its rim perhaps not closed yet -/
structure BrdM (w : World) (b g W H n : Nat) (E : List Int) : Prop where
  w3 : 3 ≤ W ∧ W ≤ 64
  h3 : 3 ≤ H ∧ H ≤ 64
  wh : n = W * H
  len : E.length = n
  mem : ∃ cap rest, Blk w b [.int .i64 W, .int .i64 H, .slice (some ⟨g, 0, none⟩) n cap] 90 ∧ Blk w g (i32s E ++ rest) 21 ∧ n ≤ cap
theorem BrdP.toM {w : World} {b W H : Nat} {E : List Int} (h : BrdP w b W H E) : ∃ g, BrdM w b g W H (W * H) E := by
  obtain ⟨g, cap, rest, h1, h2, h3⟩ := h.mem
  exact ⟨g, ⟨h.fine.w3, h.fine.w64⟩, ⟨h.fine.h3, h.fine.h64⟩, rfl, h.fine.len, cap, rest, h1, h2, h3⟩
set_option maxHeartbeats 2000000 in
theorem spawns_any (w : World) {b g W H n : Nat} {E : List Int} (h : BrdM w b g W H n E) :
    Calls Tryd.prog 42 #[.pointer (some ⟨b, 0, none⟩)] w fun e w' => ∃ v, e = .returned v ∧ OwnV w' w.heap.size v (Bd.spawns W E) ∧ Mod none_ w w' := by
  obtain ⟨cap, rest, h1, h2, h3⟩ := h.mem
  have hw := h.w3; have hh := h.h3; have hn := h.wh; have hl := h.len
  have hn4 : n ≤ 4096 := by rw [hn]; exact Nat.mul_le_mul hw.2 hh.2
  have q0 := h1.cell (j := 0) rfl
  have q2 := h1.cell (j := 2) rfl
  have HN := Lib.hid hn; have HL := Lib.hid hl; have HG := Lib.hid h2; have Q0 := Lib.hid q0
  clear h h1 h2 hn hl
  go_enter Tryd.func42, Tryd.ntmps42
  go_wp2
  go_loopw [3, 11] (fun v t wr => ∃ i : Nat, t = .int .i64 i ∧ i ≤ n ∧ OwnV wr w.heap.size v (Bd.spawnsFrom W 0 (E.take i)) ∧ Mod none_ w wr) (fun _ t _ => n - (intOf t).toNat)
  case atStart => exact ⟨0, rfl, by omega, Row.nil _ _ _ _, Mod.refl _ _⟩
  case round =>
    obtain ⟨i, rfl, hi, hv, hM⟩ := hrel
    replace q0 := hM.cellS q0 (fun h => h)
    replace q2 := hM.cellS q2 (fun h => h)
    by_cases hin : i < n
    · have hin' : (i : Int) < (n : Int) := by omega
      obtain ⟨c, hc⟩ : ∃ c, E[i]? = some c := ⟨_, List.getElem?_eq_getElem (by rw [HL.out]; exact hin)⟩
      have qi := (hM.blk HG.out (fun h => h)).cell (i32s_at hc rest)
      have hsn := Bd.spawnsFrom_snoc W (E.take i) c 0
      have ht : E.take (i + 1) = E.take i ++ [c] := by rw [List.take_add_one, hc]; rfl
      rw [← ht] at hsn
      have hlt : (E.take i).length = i := by rw [List.length_take, HL.out]; omega
      rw [hlt, Nat.zero_add] at hsn
      have hsl : (Bd.spawnsFrom W 0 (E.take i)).length ≤ 4096 := by
        rw [Bd.spawnsFrom_length]
        have := List.count_le_length (a := (83 : Int)) (l := E.take i)
        omega
      have HV := Lib.hid hv; have HM := Lib.hid hM; have HSN := Lib.hid hsn
      clear hv hM hsn hc ht hlt
      by_cases h83 : c = 83
      · have e83 : (c == 83) = true := by simp [h83]
        have HC := Lib.hid h83
        clear h83
        obtain ⟨x, hx⟩ : ∃ x : Nat, i % W = x := ⟨_, rfl⟩
        obtain ⟨y, hy⟩ : ∃ y : Nat, i / W = y := ⟨_, rfl⟩
        have hm : Int.tmod (i : Int) (W : Int) = (x : Int) := by rw [← hx]; rfl
        have hd : Int.tdiv (i : Int) (W : Int) = (y : Int) := by rw [← hy]; rfl
        have hxW : x < W := by rw [← hx]; exact Nat.mod_lt _ (by omega)
        have hyH : y < H := by rw [← hy, Nat.div_lt_iff_lt_mul (by omega), Nat.mul_comm]; rw [HN.out] at hin; exact hin
        have hmid : Bd.mid W i = ((x : Int) * 524288 + 262144, (y : Int) * 524288 + 262144) := by unfold Bd.mid; rw [hx, hy]
        have HMID := Lib.hid hmid
        clear hx hy hmid
        have hw0 : ¬ (W : Int) = 0 := by omega
        go_upto_region 6 with fail
        have hw0n : ¬ W = 0 := by omega
        have ex : IntKind.i64.wrap (x : Int) = (x : Int) := by rw [IntKind.wrap_i64]; omega
        have ey : IntKind.i64.wrap (y : Int) = (y : Int) := by rw [IntKind.wrap_i64]; omega
        have em1 : IntKind.i64.wrap ((x : Int) * 524288) = (x : Int) * 524288 := by rw [IntKind.wrap_i64]; omega
        have em2 : IntKind.i64.wrap ((y : Int) * 524288) = (y : Int) * 524288 := by rw [IntKind.wrap_i64]; omega
        have ea1 : IntKind.i64.wrap ((x : Int) * 524288 + 262144) = (x : Int) * 524288 + 262144 := by rw [IntKind.wrap_i64]; omega
        have ea2 : IntKind.i64.wrap ((y : Int) * 524288 + 262144) = (y : Int) * 524288 + 262144 := by rw [IntKind.wrap_i64]; omega
        refine wp_region_noPanic ?_
        refine wp_region_held_drew (S := fun w' => w'.cell? ⟨b, 0, none⟩ = some (.int .i64 W)) (by kernel_rfl) q0 (fun hHeld => ?_)
        clear hHeld
        refine wpAnyH_take (i := 0) (v := ?_) (by simp only [List.getElem?_toArray, List.getElem?_cons_zero]; rfl) (by kernel_rfl) (by kernel_rfl) (by kernel_rfl) (fun _ _ _ h => h) (Or.inl ⟨by rfl, ?_⟩) q0 ?_
        rotate_left
        · (intro wq hSw; go_simp; all_goals with_reducible rfl)
        try simp only [Act.put, List.setIfInBounds_toArray, List.set_cons_zero, List.set_cons_succ]
        refine wpAnyH_take (i := 1) (v := ?_) (by simp only [List.getElem?_toArray, List.getElem?_cons_zero, List.getElem?_cons_succ]; rfl) (by kernel_rfl) (by kernel_rfl) (by kernel_rfl) (fun _ _ _ h => h) (Or.inl ⟨by rfl, ?_⟩) q0 ?_
        rotate_left
        · (intro wq hSw; go_simp; all_goals with_reducible rfl)
        try simp only [Act.put, List.setIfInBounds_toArray, List.set_cons_zero, List.set_cons_succ]
        refine wpAnyH_take (i := 2) (v := ?_) (by simp only [List.getElem?_toArray, List.getElem?_cons_zero, List.getElem?_cons_succ]; rfl) (by kernel_rfl) (by kernel_rfl) (by kernel_rfl) (fun _ _ _ h => h) (Or.inl ⟨by rfl, ?_⟩) q0 ?_
        rotate_left
        · (intro wq hSw; go_simp; all_goals with_reducible rfl)
        try simp only [Act.put, List.setIfInBounds_toArray, List.set_cons_zero, List.set_cons_succ]
        refine wpAnyH_take (i := 3) (v := ?_) (by simp only [List.getElem?_toArray, List.getElem?_cons_zero, List.getElem?_cons_succ]; rfl) (by kernel_rfl) (by kernel_rfl) (by kernel_rfl) (fun _ _ _ h => h) (Or.inl ⟨by rfl, ?_⟩) q0 ?_
        rotate_left
        · (intro wq hSw; go_simp; all_goals with_reducible rfl)
        try simp only [Act.put, List.setIfInBounds_toArray, List.set_cons_zero, List.set_cons_succ]
        refine wpAnyH_take (i := 4) (v := ?_) (by simp only [List.getElem?_toArray, List.getElem?_cons_zero, List.getElem?_cons_succ]; rfl) (by kernel_rfl) (by kernel_rfl) (by kernel_rfl) (fun _ _ _ h => h) (Or.inl ⟨by rfl, ?_⟩) q0 ?_
        rotate_left
        · (intro wq hSw; go_simp; all_goals with_reducible rfl)
        try simp only [Act.put, List.setIfInBounds_toArray, List.set_cons_zero, List.set_cons_succ]
        refine wpAnyH_take (i := 5) (v := ?_) (by simp only [List.getElem?_toArray, List.getElem?_cons_zero, List.getElem?_cons_succ]; rfl) (by kernel_rfl) (by kernel_rfl) (by kernel_rfl) (fun _ _ _ h => h) (Or.inl ⟨by rfl, ?_⟩) q0 ?_
        rotate_left
        · (intro wq hSw; go_simp; all_goals with_reducible rfl)
        try simp only [Act.put, List.setIfInBounds_toArray, List.set_cons_zero, List.set_cons_succ]
        refine wpAnyH_take (i := 6) (v := ?_) (by simp only [List.getElem?_toArray, List.getElem?_cons_zero, List.getElem?_cons_succ]; rfl) (by kernel_rfl) (by kernel_rfl) (by kernel_rfl) (fun _ _ _ h => h) (Or.inl ⟨by rfl, ?_⟩) q0 ?_
        rotate_left
        · (intro wq hSw; go_simp; all_goals with_reducible rfl)
        try simp only [Act.put, List.setIfInBounds_toArray, List.set_cons_zero, List.set_cons_succ]
        refine wpAnyH_take (i := 7) (v := ?_) (by simp only [List.getElem?_toArray, List.getElem?_cons_zero, List.getElem?_cons_succ]; rfl) (by kernel_rfl) (by kernel_rfl) (by kernel_rfl) (fun _ _ _ h => h) (Or.inl ⟨by rfl, ?_⟩) q0 ?_
        rotate_left
        · (intro wq hSw; go_simp; all_goals with_reducible rfl)
        try simp only [Act.put, List.setIfInBounds_toArray, List.set_cons_zero, List.set_cons_succ]
        refine wpAnyH_take (i := 8) (v := ?_) (by simp only [List.getElem?_toArray, List.getElem?_cons_zero, List.getElem?_cons_succ]; rfl) (by kernel_rfl) (by kernel_rfl) (by kernel_rfl) (fun _ _ _ h => h) (Or.inl ⟨by rfl, ?_⟩) q0 ?_
        rotate_left
        · (intro wq hSw; go_simp; all_goals with_reducible rfl)
        try simp only [Act.put, List.setIfInBounds_toArray, List.set_cons_zero, List.set_cons_succ]
        refine wpAnyH_take (i := 9) (v := ?_) (by simp only [List.getElem?_toArray, List.getElem?_cons_zero, List.getElem?_cons_succ]; rfl) (by kernel_rfl) (by kernel_rfl) (by kernel_rfl) (fun _ _ _ h => h) (Or.inl ⟨by rfl, ?_⟩) q0 ?_
        rotate_left
        · (intro wq hSw; go_simp; all_goals with_reducible rfl)
        try simp only [Act.put, List.setIfInBounds_toArray, List.set_cons_zero, List.set_cons_succ]
        refine wpAnyH_take (i := 10) (v := ?_) (by simp only [List.getElem?_toArray, List.getElem?_cons_zero, List.getElem?_cons_succ]; rfl) (by kernel_rfl) (by kernel_rfl) (by kernel_rfl) (fun _ _ _ h => h) (Or.inl ⟨by rfl, ?_⟩) q0 ?_
        rotate_left
        · (intro wq hSw; go_simp; all_goals with_reducible rfl)
        try simp only [Act.put, List.setIfInBounds_toArray, List.set_cons_zero, List.set_cons_succ]
        refine wpAnyH_take (i := 11) (v := ?_) (by simp only [List.getElem?_toArray, List.getElem?_cons_zero, List.getElem?_cons_succ]; rfl) (by kernel_rfl) (by kernel_rfl) (by kernel_rfl) (fun _ _ _ h => h) (Or.inl ⟨by rfl, ?_⟩) q0 ?_
        rotate_left
        · (intro wq hSw; go_simp; all_goals with_reducible rfl)
        try simp only [Act.put, List.setIfInBounds_toArray, List.set_cons_zero, List.set_cons_succ]
        refine wpAnyH_take (i := 12) (v := ?_) (by simp only [List.getElem?_toArray, List.getElem?_cons_zero, List.getElem?_cons_succ]; rfl) (by kernel_rfl) (by kernel_rfl) (by kernel_rfl) (fun _ _ _ h => h) (Or.inl ⟨by rfl, ?_⟩) q0 ?_
        rotate_left
        · (intro wq hSw; go_simp; all_goals with_reducible rfl)
        try simp only [Act.put, List.setIfInBounds_toArray, List.set_cons_zero, List.set_cons_succ]
        refine wpAnyH_take (i := 13) (v := ?_) (by simp only [List.getElem?_toArray, List.getElem?_cons_zero, List.getElem?_cons_succ]; rfl) (by kernel_rfl) (by kernel_rfl) (by kernel_rfl) (fun _ _ _ h => h) (Or.inl ⟨by rfl, ?_⟩) q0 ?_
        rotate_left
        · (intro wq hSw; go_simp; all_goals with_reducible rfl)
        try simp only [Act.put, List.setIfInBounds_toArray, List.set_cons_zero, List.set_cons_succ]
        refine wpAnyH_take (i := 14) (v := ?_) (by simp only [List.getElem?_toArray, List.getElem?_cons_zero, List.getElem?_cons_succ]; rfl) (by kernel_rfl) (by kernel_rfl) (by kernel_rfl) (fun _ _ _ h => h) (Or.inl ⟨by rfl, ?_⟩) q0 ?_
        rotate_left
        · (intro wq hSw; go_simp; all_goals with_reducible rfl)
        try simp only [Act.put, List.setIfInBounds_toArray, List.set_cons_zero, List.set_cons_succ]
        refine wpAnyH_take (i := 15) (v := ?_) (by simp only [List.getElem?_toArray, List.getElem?_cons_zero, List.getElem?_cons_succ]; rfl) (by kernel_rfl) (by kernel_rfl) (by kernel_rfl) (fun _ _ _ h => h) (Or.inl ⟨by rfl, ?_⟩) q0 ?_
        rotate_left
        · (intro wq hSw; go_simp; all_goals with_reducible rfl)
        try simp only [Act.put, List.setIfInBounds_toArray, List.set_cons_zero, List.set_cons_succ]
        refine wpAnyH_take (i := 16) (v := ?_) (by simp only [List.getElem?_toArray, List.getElem?_cons_zero, List.getElem?_cons_succ]; rfl) (by kernel_rfl) (by kernel_rfl) (by kernel_rfl) (fun _ _ _ h => h) (Or.inl ⟨by rfl, ?_⟩) q0 ?_
        rotate_left
        · (intro wq hSw; go_simp; all_goals with_reducible rfl)
        try simp only [Act.put, List.setIfInBounds_toArray, List.set_cons_zero, List.set_cons_succ]
        refine wpAnyH_take (i := 17) (v := ?_) (by simp only [List.getElem?_toArray, List.getElem?_cons_zero, List.getElem?_cons_succ]; rfl) (by kernel_rfl) (by kernel_rfl) (by kernel_rfl) (fun _ _ _ h => h) (Or.inl ⟨by rfl, ?_⟩) q0 ?_
        rotate_left
        · (intro wq hSw; go_simp; all_goals with_reducible rfl)
        try simp only [Act.put, List.setIfInBounds_toArray, List.set_cons_zero, List.set_cons_succ]
        refine wpAnyH_ready (rs := [18]) (by kernel_rfl) (by simp) ?_
        refine AllReadyH.cons (by simp only [List.getElem?_toArray, List.getElem?_cons_zero, List.getElem?_cons_succ]; rfl) (fun K hK => ?_) AllReadyH.nil
        go_simp
        have hBn : Blk (wr.drew.alloc (.cells #[.int .i64 ((x : Int) * 524288 + 262144), .int .i64 ((y : Int) * 524288 + 262144)] 23)) wr.heap.size [.int .i64 ((x : Int) * 524288 + 262144), .int .i64 ((y : Int) * 524288 + 262144)] 23 := Blk.new wr.drew _ _
        have hMn : Mod none_ wr (wr.drew.alloc (.cells #[.int .i64 ((x : Int) * 524288 + 262144), .int .i64 ((y : Int) * 524288 + 262144)] 23)) := ((Mod.refl none_ wr).drew).alloc _
        have q5 := hMn.cellS q0 (fun h => h)
        refine hK.out _ _ q5 (fun _ => ?_)
        clear hK K
        try simp only [Act.put, List.setIfInBounds_toArray, List.set_cons_zero, List.set_cons_succ]
        refine wpAnyH_ready (rs := [19]) (by kernel_rfl) (by simp) ?_
        refine AllReadyH.cons (by simp only [List.getElem?_toArray, List.getElem?_cons_zero, List.getElem?_cons_succ]; rfl) (fun K hK => ?_) AllReadyH.nil
        rw [if_pos (by rfl)]
        refine wp_append_v (.tmp 18) (.tmp 36) rfl w.heap.size _ _ rfl (Row.none HV.out hMn) ((x : Int) * 524288 + 262144, (y : Int) * 524288 + 262144) wr.heap.size rfl hBn (by omega) (Nat.le_trans HM.out.size hMn.size) ?_
        intro v2 w2 hv2 hg2
        have hM2 : Mod none_ w w2 := (HM.out.then hMn).trans (Mod.grownBy (S := fun b => _ = some b) hg2 (fun j _ e => e)) (fun b hb e => by have := Row.own_ge HV.out e; omega)
        have q6 := hM2.cellS Q0.out (fun h => h)
        refine hK.out _ _ q6 (fun _ => ?_)
        clear hK K
        try simp only [Act.put, List.setIfInBounds_toArray, List.set_cons_zero, List.set_cons_succ]
        refine wpAnyH_take (i := 20) (v := ?_) (by simp only [List.getElem?_toArray, List.getElem?_cons_zero, List.getElem?_cons_succ]; rfl) (by kernel_rfl) (by kernel_rfl) (by kernel_rfl) (fun _ _ _ h => h) (Or.inl ⟨by rfl, ?_⟩) q6 ?_
        rotate_left
        · (intro wq hSw; go_simp; all_goals with_reducible rfl)
        try simp only [Act.put, List.setIfInBounds_toArray, List.set_cons_zero, List.set_cons_succ]
        refine wpAnyH_done (by kernel_rfl) ?_ _
        refine NoPanic.normal ?_
        have hsn2 := HSN.out
        rw [if_pos HC.out, HMID.out] at hsn2
        rw [← hsn2] at hv2
        have HV2 := Lib.hid hv2; have HM2 := Lib.hid hM2
        clear hv2 hM2 hsn2 hg2 hBn hMn
        go_wp2
        go_roundw
        case rel => exact ⟨i + 1, by go_num, by omega, HV2.out, HM2.out⟩
        case measure => simp [intOf]; omega
      · have e83 : (c == 83) = false := by simp [h83]
        have HC := Lib.hid h83
        clear h83
        go_wp2
        have hv2 := HV.out
        have hsn2 := HSN.out
        rw [if_neg HC.out, List.append_nil] at hsn2
        rw [← hsn2] at hv2
        go_roundw
        case rel => exact ⟨i + 1, by go_num, by omega, hv2, HM.out⟩
        case measure => simp [intOf]; omega
    · have hin' : ¬ (i : Int) < (n : Int) := by omega
      go_wp2
      go_ret
      refine ⟨_, rfl, ?_, hM⟩
      rw [List.take_of_length_le (by rw [HL.out]; omega)] at hv
      exact hv
end Go.Proofs.YtinjlkceplhibaaDoor
