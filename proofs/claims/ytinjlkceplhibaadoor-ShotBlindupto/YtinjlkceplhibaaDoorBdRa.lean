/- Boards: the document's board in memory; Size, Cell, At, Solid: the walks. -/
import Derived.Test.YtinjlkceplhibaaDoorBdQ
namespace Bd
theorem row_at {W : Nat} {E : List Int} {y x : Nat} (hx : x < W) : (row W E y)[x]? = E[y * W + x]? := by
  unfold row
  rw [List.getElem?_take, if_pos hx, List.getElem?_drop]
end Bd
namespace Go.Proofs.YtinjlkceplhibaaDoor
open Go.RowKit

/-- one line of the document's board, in memory -/
def Line (w : World) (v : Value) (W : Nat) (l : List Int) : Prop := ∃ g c rest, v = .slice (some ⟨g, 0, none⟩) W c ∧ Blk w g (i32s l ++ rest) 21 ∧ W ≤ c
/-- the document's board in memory -/
structure RBrd (w : World) (b W H : Nat) (E : List Int) : Prop where
  fine : Bd.Fine W H E
  mem : ∃ m cap vs rest, Blk w b [.slice (some ⟨m, 0, none⟩) H cap] 94 ∧ Blk w m (vs ++ rest) 88 ∧ vs.length = H ∧ H ≤ cap ∧ ∀ y v, vs[y]? = some v → Line w v W (Bd.row W E y)
theorem Line.mod {w w' : World} {v : Value} {W : Nat} {l : List Int} {S : Nat → Prop} (h : Line w v W l) (hM : Mod S w w') (hS : ∀ k, k < w.heap.size → ¬ S k) : Line w' v W l := by
  obtain ⟨g, c, rest, h1, h2, h3⟩ := h
  exact ⟨g, c, rest, h1, hM.blk h2 (hS _ h2.lt), h3⟩
theorem RBrd.mod {w w' : World} {b W H : Nat} {E : List Int} {S : Nat → Prop} (h : RBrd w b W H E) (hM : Mod S w w') (hS : ∀ k, k < w.heap.size → ¬ S k) : RBrd w' b W H E := by
  obtain ⟨m, cap, vs, rest, h1, h2, h3, h4, h5⟩ := h.mem
  exact ⟨h.fine, m, cap, vs, rest, hM.blk h1 (hS _ h1.lt), hM.blk h2 (hS _ h2.lt), h3, h4, fun y v hy => (h5 y v hy).mod hM hS⟩
theorem RBrd.none {w w' : World} {b W H : Nat} {E : List Int} (h : RBrd w b W H E) (hM : Mod none_ w w') : RBrd w' b W H E := h.mod hM (fun _ _ h => h)
/-- the cells that a reading of cell (x, y) meets -/
structure RAt (w : World) (b W H : Nat) (y x : Nat) (e : Int) : Prop where
  mem : ∃ m cap g c, w.cell? ⟨b, 0, none⟩ = some (.slice (some ⟨m, 0, none⟩) H cap) ∧ w.cell? ⟨m, y, none⟩ = some (.slice (some ⟨g, 0, none⟩) W c) ∧ w.cell? ⟨g, x, none⟩ = some (.int .i32 e) ∧ H ≤ cap ∧ W ≤ c
theorem RBrd.at {w : World} {b W H : Nat} {E : List Int} (h : RBrd w b W H E) {y x : Nat} (hy : y < H) (hx : x < W) : ∃ e, E[y * W + x]? = some e ∧ RAt w b W H y x e := by
  obtain ⟨m, cap, vs, rest, h1, h2, h3, h4, h5⟩ := h.mem
  obtain ⟨v, hv⟩ : ∃ v, vs[y]? = some v := ⟨_, List.getElem?_eq_getElem (by omega)⟩
  obtain ⟨g, c, r, rfl, h6, h7⟩ := h5 y v hv
  have hxy : y * W + x < W * H := by
    have h4 : (y + 1) * W ≤ H * W := Nat.mul_le_mul_right W (by omega)
    rw [Nat.succ_mul, Nat.mul_comm H W] at h4
    omega
  obtain ⟨e, he⟩ : ∃ e, E[y * W + x]? = some e := ⟨_, List.getElem?_eq_getElem (by rw [h.fine.len]; exact hxy)⟩
  refine ⟨e, he, m, cap, g, c, h1.cell rfl, h2.cell ?_, h6.cell (i32s_at (by rw [Bd.row_at hx]; exact he) r), h4, h7⟩
  rw [List.getElem?_append_left (by omega)]
  exact hv
theorem rsize_any (w : World) {b W H : Nat} {E : List Int} (h : RBrd w b W H E) : Calls Tryd.prog 96 #[.pointer (some ⟨b, 0, none⟩)] w fun e w' => e = .returned (.tuple #[.int .i64 W, .int .i64 H]) ∧ Mod none_ w w' := by
  have hf := h.fine
  obtain ⟨e, _, m, cap, g, c, q0, q1, q2, k1, k2⟩ := h.at (y := 0) (x := 0) (by have := hf.h3; omega) (by have := hf.w3; omega)
  have hH : 0 < H := by have := hf.h3; omega
  have hH' : (0 : Int) < (H : Int) := by omega
  clear h q2 hf
  go_enter Tryd.func96, Tryd.ntmps96
  go_wp2
  go_quiet (fail)
  go_wp2
  go_ret2
  exact ⟨rfl, (Mod.refl _ _).drewN _⟩
theorem rcell_any (w : World) {b W H : Nat} {E : List Int} (h : RBrd w b W H E) (x y : Int) : Calls Tryd.prog 105 #[.pointer (some ⟨b, 0, none⟩), .int .i64 x, .int .i64 y] w fun e w' => e = .returned (.int .i32 (Bd.cellOf W H E x y)) ∧ Mod none_ w w' := by
  have hs := rsize_any w h
  have HS := Lib.hid hs
  clear hs
  by_cases ho : x < 0 ∨ y < 0 ∨ (W : Int) ≤ x ∨ (H : Int) ≤ y
  · rw [Bd.cellOf_out ho]
    clear h
    go_enter Tryd.func105, Tryd.ntmps105
    go_wp2_with fail
    refine HS.out.mono ?_
    rintro r w1 ⟨rfl, hM⟩
    have HM := Lib.hid hM
    clear hM
    by_cases c1 : x < 0
    · go_wp2; go_ret; exact ⟨rfl, HM.out⟩
    · by_cases c2 : y < 0
      · go_wp2; go_ret; exact ⟨rfl, HM.out⟩
      · by_cases c3 : (W : Int) ≤ x
        · go_wp2; go_ret; exact ⟨rfl, HM.out⟩
        · have c4 : (H : Int) ≤ y := by omega
          go_wp2; go_ret; exact ⟨rfl, HM.out⟩
  · have hf := h.fine
    obtain ⟨x, rfl⟩ : ∃ n : Nat, x = n := ⟨x.toNat, by omega⟩
    obtain ⟨y, rfl⟩ : ∃ n : Nat, y = n := ⟨y.toNat, by omega⟩
    have hc := fun q (hM : Mod none_ w q) => (h.none hM).at (y := y) (x := x) (by omega) (by omega)
    have hw64 := hf.w64; have hh64 := hf.h64
    obtain ⟨e, he, _⟩ := h.at (y := y) (x := x) (by omega) (by omega)
    have hce : Bd.cellOf W H E x y = e := by
      unfold Bd.cellOf
      rw [if_neg ho]
      have : ((y : Int) * (W : Int) + (x : Int)).toNat = y * W + x := by
        have : (y : Int) * (W : Int) = ((y * W : Nat) : Int) := by rw [Int.natCast_mul]
        rw [this]; omega
      rw [this, he]; rfl
    rw [hce]
    have hca : ∀ q, Mod none_ w q → RAt q b W H y x e := fun q hM => by
      obtain ⟨e', he', h⟩ := hc q hM
      obtain rfl : e = e' := Option.some.inj (he.symm.trans he')
      exact h
    have HC := Lib.hid hca
    have c1 : ¬ (x : Int) < 0 := by omega
    have c2 : ¬ (y : Int) < 0 := by omega
    have c3 : ¬ (W : Int) ≤ x := by omega
    have c4 : ¬ (H : Int) ≤ y := by omega
    clear h hc hca he hce hf ho
    go_enter Tryd.func105, Tryd.ntmps105
    go_wp2_with fail
    refine HS.out.mono ?_
    rintro r w1 ⟨rfl, hM⟩
    obtain ⟨m, cap, g, c, q0, q1, q2, k1, k2⟩ := HC.out w1 hM
    have HM := Lib.hid hM
    clear hM
    go_wp2
    go_ret
    exact ⟨rfl, HM.out⟩
theorem floor_any (w : World) (a : Int) (ha : Bd.I64 a) : Calls Tryd.prog 106 #[.int .i64 a] w fun e w' => e = .returned (.int .i64 (Bd.num a)) ∧ w' = w := by
  have hf := tdiv_floor a
  have hb : -17592186044416 ≤ a / 524288 ∧ a / 524288 ≤ 17592186044416 := by unfold Bd.I64 at ha; omega
  have hn : Bd.num a = a / 524288 := rfl
  generalize Bd.num a = m at *
  go_enter Tryd.func106, Tryd.ntmps106
  go_wp2
  · rename_i hc
    rw [if_pos hc] at hf
    go_ret
    exact ⟨ret_int (by omega), rfl⟩
  · rename_i hc
    rw [if_neg (by omega)] at hf
    go_ret
    exact ⟨ret_int (by omega), rfl⟩
theorem rat_any (w : World) {b W H : Nat} {E : List Int} (h : RBrd w b W H E) (px py : Int) (hx : Bd.I64 px) (hy : Bd.I64 py) : Calls Tryd.prog 84 #[.pointer (some ⟨b, 0, none⟩), .agg #[.int .i64 px, .int .i64 py]] w fun e w' => e = .returned (.int .i32 (Bd.atOf W H E px py)) ∧ Mod none_ w w' := by
  have HB := Lib.hid h
  clear h
  have hr : Bd.atOf W H E px py = Bd.cellOf W H E (Bd.num px) (Bd.num py) := rfl
  have hc := fun (q : World) (hM : Mod none_ w q) => rcell_any q (HB.out.none hM) (Bd.num px) (Bd.num py)
  rw [← hr] at hc
  generalize Bd.atOf W H E px py = R at *
  have HC := Lib.hid hc
  clear hc hr
  go_enter Tryd.func84, Tryd.ntmps84
  go_upto_region 1 with fail
  obtain ⟨w1, hw1⟩ : ∃ w1, w.alloc (.cells #[.int .i64 px, .int .i64 py] 23) = w1 := ⟨_, rfl⟩
  have hM1 : Mod none_ w w1 := hw1 ▸ (Mod.refl none_ w).alloc _
  have hB1 : Blk w1 w.heap.size [.int .i64 px, .int .i64 py] 23 := hw1 ▸ Blk.new w _ _
  rw [hw1]
  have p0 := hB1.cell (j := 0) rfl
  have p1 := hB1.cell (j := 1) rfl
  generalize w.heap.size = Z at *
  have q0 := p0; have q1 := p1
  have HM1 := Lib.hid hM1
  have hm0 := Mod.refl none_ w1
  clear hM1 hB1 hw1
  go_region_held3 (fun w' => w'.cell? ⟨Z, 0, none⟩ = some (.int .i64 px) ∧ w'.cell? ⟨Z, 1, none⟩ = some (.int .i64 py) ∧ Mod none_ w1 w')
    (first | ((refine ⟨Mod.cellS (S := none_) (w := w1) ?_ q0 (fun h => h), Mod.cellS (S := none_) (w := w1) ?_ q1 (fun h => h), ?_⟩ <;> (repeat (first | assumption | exact Mod.refl _ _ | refine Mod.drew ?_))); done))
    (first | (go_at_call 106; refine (floor_any _ _ (by assumption)).mono ?_; rintro r wz ⟨rfl, rfl⟩) | (go_at_call 105; refine (HC.out _ (HM1.out.then (by repeat (first | assumption | exact Mod.refl _ _ | refine Mod.drew ?_)))).mono ?_; rintro r w5 ⟨rfl, hN5⟩; have hM5 : Mod none_ w1 w5 := Mod.then (by repeat (first | assumption | exact Mod.refl _ _ | refine Mod.drew ?_)) hN5))
  go_wp2
  go_ret
  exact ⟨rfl, HM1.out.then hM5⟩
theorem rsolid_any (w : World) {b W H : Nat} {E : List Int} (h : RBrd w b W H E) (px py : Int) (hx : Bd.I64 px) (hy : Bd.I64 py) : Calls Tryd.prog 57 #[.pointer (some ⟨b, 0, none⟩), .agg #[.int .i64 px, .int .i64 py]] w fun e w' => e = .returned (.bool (decide (Bd.atOf W H E px py = 35))) ∧ Mod none_ w w' := by
  have hc := fun (q : World) (hM : Mod none_ w q) => rat_any q (h.none hM) px py hx hy
  have HC := Lib.hid hc
  clear hc h hx hy
  generalize Bd.atOf W H E px py = R at *
  have he : (R == 35) = decide (R = 35) := rfl
  go_enter Tryd.func57, Tryd.ntmps57
  go_upto_region 1 with fail
  obtain ⟨w1, hw1⟩ : ∃ w1, w.alloc (.cells #[.int .i64 px, .int .i64 py] 23) = w1 := ⟨_, rfl⟩
  have hM1 : Mod none_ w w1 := hw1 ▸ (Mod.refl none_ w).alloc _
  have hB1 : Blk w1 w.heap.size [.int .i64 px, .int .i64 py] 23 := hw1 ▸ Blk.new w _ _
  rw [hw1]
  have p0 := hB1.cell (j := 0) rfl
  have p1 := hB1.cell (j := 1) rfl
  generalize w.heap.size = Z at *
  have HM1 := Lib.hid hM1
  clear hM1 hB1 hw1
  go_wp2_with (go_at_call 84; refine (HC.out _ HM1.out).mono ?_; rintro r w2 ⟨rfl, hM2⟩)
  go_ret
  exact ⟨ret_bool (by simp), HM1.out.then hM2⟩
theorem edges_any (w : World) (a half : Int) (ha : Bd.I64 a) (hh : Bd.I64 half) : Calls Tryd.prog 97 #[.int .i64 a, .int .i64 half] w fun e w' => e = .returned (.tuple #[.int .i64 (Bd.rfirst a half), .int .i64 (Bd.rlast a half)]) ∧ w' = w := by
  obtain ⟨f, hf⟩ : ∃ f, Bd.rfirst a half = f := ⟨_, rfl⟩
  obtain ⟨l, hl⟩ : ∃ f, Bd.rlast a half = f := ⟨_, rfl⟩
  rw [hf, hl]
  unfold Bd.rfirst at hf
  unfold Bd.rlast at hl
  by_cases h0 : half < 1
  · rw [if_pos h0] at hf hl
    have HF := Lib.hid hf; have HLa := Lib.hid hl
    clear hf hl
    unfold Bd.I64 at ha hh
    go_enter Tryd.func97, Tryd.ntmps97
    go_wp2_with (go_at_call 106; refine (floor_any _ _ (by unfold Bd.I64; omega)).mono ?_; rintro r wz ⟨rfl, rfl⟩)
    go_ret2
    rw [← HF.out, ← HLa.out]
    exact ⟨rfl, rfl⟩
  · rw [if_neg h0] at hf hl
    have hb1 : -1099511627776 ≤ Bd.far a ∧ Bd.far a ≤ 1099511627776 := by unfold Bd.far; split <;> (try split) <;> omega
    have hb2 : 1 ≤ Bd.half' half ∧ Bd.half' half ≤ 4398046511104 := by unfold Bd.half'; split <;> omega
    obtain ⟨fa, hfa⟩ : ∃ f, Bd.far a = f := ⟨_, rfl⟩
    obtain ⟨fh, hfh⟩ : ∃ f, Bd.half' half = f := ⟨_, rfl⟩
    rw [hfa] at hf hl hb1
    rw [hfh] at hf hl hb2
    unfold Bd.far at hfa
    unfold Bd.half' at hfh
    have HF := Lib.hid hf; have HLa := Lib.hid hl; have HFA := Lib.hid hfa; have HFH := Lib.hid hfh
    clear hf hl hfa hfh
    unfold Bd.I64 at ha hh
    go_enter Tryd.func97, Tryd.ntmps97
    go_wp2_with (go_at_call 106; refine (floor_any _ _ (by unfold Bd.I64; omega)).mono ?_; rintro r wz ⟨rfl, rfl⟩)
    all_goals (go_ret2; refine ⟨?_, rfl⟩; have a1 := HFA.out; have a2 := HFH.out; rw [← HF.out, ← HLa.out, ← a1, ← a2]; clear a1 a2 HF HLa HFA HFH; repeat' split)
    all_goals first | rfl | (exfalso; omega)
/-- .. -/
theorem rblocked_any (w : World) {b W H : Nat} {E : List Int} (h : RBrd w b W H E) (px py half : Int) (hx : Bd.I64 px) (hy : Bd.I64 py) (hh : Bd.I64 half) : Calls Tryd.prog 72 #[.pointer (some ⟨b, 0, none⟩), .agg #[.int .i64 px, .int .i64 py], .int .i64 half] w fun e w' => Tells e (Bd.Blocked W H E px py half) ∧ Mod none_ w w' := by
  have hf := h.fine
  have hB := Bd.blocked_alike (E := E) hx hy hh ⟨hf.w3, hf.w64⟩ ⟨hf.h3, hf.h64⟩
  have hs := fun (q : World) (hM : Mod none_ w q) => rsize_any q (h.none hM)
  have hex := fun q : World => edges_any q px half hx hh
  have hey := fun q : World => edges_any q py half hy hh
  have hbd : ∀ a, Bd.I64 a → -20000000000000 ≤ Bd.rfirst a half ∧ Bd.rlast a half ≤ 20000000000000 := by
    intro a ha
    unfold Bd.rfirst Bd.rlast Bd.num Bd.far Bd.half' Bd.I64 at *
    constructor
    · repeat' split
      all_goals omega
    · repeat' split
      all_goals omega
  have hbx := hbd px hx
  have hby := hbd py hy
  have hlx := Bd.rfirst_le_rlast px half
  have hly := Bd.rfirst_le_rlast py half
  have hat := fun (q : World) (hM : Mod none_ w q) (x y : Nat) (hy : y < H) (hx : x < W) => (h.none hM).at hy hx
  have hce : ∀ (x y : Nat) e, y < H → x < W → E[y * W + x]? = some e → Bd.cellOf W H E x y = e := by
    intro x y e hy hx he
    unfold Bd.cellOf
    rw [if_neg (by omega)]
    have : ((y : Int) * (W : Int) + (x : Int)).toNat = y * W + x := by
      have : (y : Int) * (W : Int) = ((y * W : Nat) : Int) := by rw [Int.natCast_mul]
      rw [this]; omega
    rw [this, he]; rfl
  have hcell : ∀ (q : World) (hM : Mod none_ w q) (x y : Nat), y < H → x < W → RAt q b W H y x (Bd.cellOf W H E x y) := by
    intro q hM x y hy hx
    obtain ⟨e, he, h⟩ := hat q hM x y hy hx
    rw [hce x y e hy hx he]
    exact h
  unfold Bd.RBlocked at hB
  have hw64 := hf.w64; have hh64 := hf.h64
  generalize Bd.rfirst px half = L at *
  generalize Bd.rlast px half = R at *
  generalize Bd.rfirst py half = T at *
  generalize Bd.rlast py half = D at *
  have HS := Lib.hid hs; have HEX := Lib.hid hex; have HEY := Lib.hid hey; have HBl := Lib.hid hB; have HC := Lib.hid hcell
  clear hbd hs hex hey hB hf hat hce hcell h
  go_enter Tryd.func72, Tryd.ntmps72
  go_upto_region 1 with fail
  obtain ⟨w1, hw1⟩ : ∃ w1, w.alloc (.cells #[.int .i64 px, .int .i64 py] 23) = w1 := ⟨_, rfl⟩
  have hM1 : Mod none_ w w1 := hw1 ▸ (Mod.refl none_ w).alloc _
  have hB1 : Blk w1 w.heap.size [.int .i64 px, .int .i64 py] 23 := hw1 ▸ Blk.new w _ _
  rw [hw1]
  have p0 := hB1.cell (j := 0) rfl
  have p1 := hB1.cell (j := 1) rfl
  generalize w.heap.size = Z at *
  have HM1 := Lib.hid hM1
  clear hM1 hB1 hw1
  go_wp2_with fail
  refine (HS.out _ HM1.out).mono ?_
  rintro r w2 ⟨rfl, hM2⟩
  replace p0 := hM2.cellS p0 (fun h => h)
  replace p1 := hM2.cellS p1 (fun h => h)
  have HM2 := Lib.hid (HM1.out.then hM2)
  clear hM2 HM1
  go_upto_region 3 with (go_at_call 97; refine (HEX.out _).mono ?_; rintro r wz ⟨rfl, rfl⟩)
  go_upto_region 4 with (go_at_call 97; refine (HEY.out _).mono ?_; rintro r wz ⟨rfl, rfl⟩)
  by_cases ho : L < 0 ∨ T < 0 ∨ (W : Int) ≤ R ∨ (H : Int) ≤ D
  · have hyes : Bd.Blocked W H E px py half := HBl.out.2 (by rcases ho with h | h | h | h <;> simp [h])
    have HY := Lib.hid hyes
    clear hyes
    by_cases c1 : L < 0
    · clear ho; go_wp2; go_ret; exact ⟨Tells.yes HY.out rfl, HM2.out⟩
    · by_cases c2 : T < 0
      · clear ho; go_wp2; go_ret; exact ⟨Tells.yes HY.out rfl, HM2.out⟩
      · by_cases c3 : (W : Int) ≤ R
        · clear ho; go_wp2; go_ret; exact ⟨Tells.yes HY.out rfl, HM2.out⟩
        · have c4 : (H : Int) ≤ D := by omega
          clear ho; go_wp2; go_ret; exact ⟨Tells.yes HY.out rfl, HM2.out⟩
  · have c1 : ¬ L < 0 := by omega
    have c2 : ¬ T < 0 := by omega
    have c3 : ¬ (W : Int) ≤ R := by omega
    have c4 : ¬ (H : Int) ≤ D := by omega
    have hb2 : Bd.Blocked W H E px py half ↔ Bd.Wall W H E L R T D := ⟨fun h => by rcases HBl.out.1 h with h | h | h | h | h; exact absurd h c1; exact absurd h c2; exact absurd h c3; exact absurd h c4; exact h, fun h => HBl.out.2 (Or.inr (Or.inr (Or.inr (Or.inr h))))⟩
    have HB2 := Lib.hid hb2
    obtain ⟨L, rfl⟩ : ∃ n : Nat, L = n := ⟨L.toNat, by omega⟩
    obtain ⟨T, rfl⟩ : ∃ n : Nat, T = n := ⟨T.toNat, by omega⟩
    clear ho hb2 HBl
    go_wp2_with fail
    go_loopw [13] (fun v wr => ∃ y : Nat, v = .int .i64 y ∧ T ≤ y ∧ (y : Int) ≤ D + 1 ∧ (∀ y' : Nat, T ≤ y' → y' < y → ∀ x : Nat, L ≤ x → (x : Int) ≤ R → Bd.cellOf W H E x y' ≠ 35) ∧ Mod none_ w wr) (fun v _ => (D + 1 - intOf v).toNat)
    case atStart => exact ⟨T, rfl, by omega, by omega, fun y' h1 h2 => by omega, HM2.out⟩
    case round =>
      obtain ⟨y, rfl, hy1, hy2, hno, hM⟩ := hrel
      have HN := Lib.hid hno; have HM := Lib.hid hM
      clear hno hM HM2
      by_cases hyD : (y : Int) ≤ D
      · obtain ⟨wo, rfl⟩ : ∃ wo : World, wo = wr := ⟨_, rfl⟩
        go_wp2_with fail
        go_loopw [14] (fun v wz => ∃ x : Nat, v = .int .i64 x ∧ L ≤ x ∧ (x : Int) ≤ R + 1 ∧ (∀ x' : Nat, L ≤ x' → x' < x → Bd.cellOf W H E x' y ≠ 35) ∧ Mod none_ w wz) (fun v _ => (R + 1 - intOf v).toNat)
        case atStart => exact ⟨L, rfl, by omega, by omega, fun x' h1 h2 => by omega, HM.out⟩
        case round =>
          obtain ⟨x, rfl, hx1, hx2, hnx, hMz⟩ := hrel
          have HNX := Lib.hid hnx; have HMZ := Lib.hid hMz
          clear hnx hMz
          by_cases hxR : (x : Int) ≤ R
          · obtain ⟨m, cap, g, c, q0, q1, q2, k1, k2⟩ := HC.out _ HMZ.out x y (by omega) (by omega)
            have hyH : y < H := by omega
            have hxW : x < W := by omega
            have hyH' : (y : Int) < (H : Int) := by omega
            have hxW' : (x : Int) < (W : Int) := by omega
            obtain ⟨v, hv⟩ : ∃ v, Bd.cellOf W H E x y = v := ⟨_, rfl⟩
            rw [hv] at q2
            have HV := Lib.hid hv
            clear hv
            by_cases h35 : v = 35
            · subst h35
              have HY := Lib.hid (HB2.out.2 ⟨x, y, ⟨by omega, hxR⟩, ⟨by omega, hyD⟩, HV.out⟩)
              go_wp2_with fail
              go_ret
              exact ⟨Tells.yes HY.out rfl, HMZ.out⟩
            · have e35 : (v == 35) = false := by simpa using h35
              have HW := Lib.hid h35
              clear h35
              go_wp2_with fail
              go_roundw
              case rel =>
                refine ⟨x + 1, by go_num, by omega, by omega, fun x' h1 h2 => ?_, HMZ.out⟩
                by_cases hxx : x' < x
                · exact HNX.out x' h1 hxx
                · obtain rfl : x' = x := by omega
                  rw [HV.out]; exact HW.out
              case measure => simp [intOf]; omega
          · go_wp2_with fail
            go_roundw
            case rel =>
              refine ⟨y + 1, by go_num, by omega, by omega, fun y' h1 h2 x h3 h4 => ?_, HMZ.out⟩
              by_cases hyy : y' < y
              · exact HN.out y' h1 hyy x h3 h4
              · obtain rfl : y' = y := by omega
                exact HNX.out x h3 (by omega)
            case measure => simp [intOf]; omega
      · go_wp2_with fail
        go_ret
        refine ⟨Tells.no (fun h => ?_) rfl, HM.out⟩
        obtain ⟨x, y', hx', hy', hc⟩ := HB2.out.1 h
        have := HN.out y'.toNat (by omega) (by omega) x.toNat (by omega) (by omega)
        rw [show ((y'.toNat : Nat) : Int) = y' by omega, show ((x.toNat : Nat) : Int) = x by omega] at this
        exact this hc
end Go.Proofs.YtinjlkceplhibaaDoor
