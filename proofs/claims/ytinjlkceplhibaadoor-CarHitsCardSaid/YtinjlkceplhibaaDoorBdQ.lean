/- Boards: At, Solid, Blocked: the walks. -/
import Derived.Test.YtinjlkceplhibaaDoorBdP
import Derived.Deep.DeepCutAuto
import Derived.Deep.RegionHeld3
import Derived.Deep.CutBlock
import Derived.StillTailTactics
namespace Go.Proofs.YtinjlkceplhibaaDoor
open Go.RowKit

theorem at_any (w : World) {b W H : Nat} {E : List Int} (h : BrdP w b W H E) (px py : Int) (hx : Bd.I64 px) (hy : Bd.I64 py) : Calls Tryd.prog 63 #[.pointer (some ⟨b, 0, none⟩), .agg #[.int .i64 px, .int .i64 py]] w fun e w' => e = .returned (.int .i32 (Bd.atOf W H E px py)) ∧ Mod none_ w w' := by
  have HB := Lib.hid h
  clear h
  have hr : Bd.atOf W H E px py = Bd.cellOf W H E (Bd.num px) (Bd.num py) := rfl
  have hc := fun (q : World) (hM : Mod none_ w q) => cellat_any q (HB.out.none hM) (Bd.num px) (Bd.num py)
  rw [← hr] at hc
  generalize Bd.atOf W H E px py = R at *
  have HC := Lib.hid hc
  clear hc hr
  go_enter Tryd.func63, Tryd.ntmps63
  go_upto_region 1 with fail
  obtain ⟨w1, hw1⟩ : ∃ w1, w.alloc (.cells #[.int .i64 px, .int .i64 py] 23) = w1 := ⟨_, rfl⟩
  have hM1 : Mod none_ w w1 := hw1 ▸ (Mod.refl none_ w).alloc _
  have hB1 : Blk w1 w.heap.size [.int .i64 px, .int .i64 py] 23 := hw1 ▸ Blk.new w _ _
  rw [hw1]
  have p0 := hB1.cell (j := 0) rfl
  have p1 := hB1.cell (j := 1) rfl
  generalize w.heap.size = Z at *
  have q0 := p0; have q1 := p1
  have HM1 := Lib.hid hM1
  have hm0 := Mod.refl none_ w1
  clear hM1 hB1 hw1
  go_region_held3 (fun w' => w'.cell? ⟨Z, 0, none⟩ = some (.int .i64 px) ∧ w'.cell? ⟨Z, 1, none⟩ = some (.int .i64 py) ∧ Mod none_ w1 w')
    (first | ((refine ⟨Mod.cellS (S := none_) (w := w1) ?_ q0 (fun h => h), Mod.cellS (S := none_) (w := w1) ?_ q1 (fun h => h), ?_⟩ <;> (repeat (first | assumption | exact Mod.refl _ _ | refine Mod.drew ?_))); done))
    (first | (go_at_call 91; refine (number_any _ _ (by assumption)).mono ?_; rintro r wz ⟨rfl, rfl⟩) | (go_at_call 82; refine (HC.out _ (HM1.out.then (by repeat (first | assumption | exact Mod.refl _ _ | refine Mod.drew ?_)))).mono ?_; rintro r w5 ⟨rfl, hN5⟩; have hM5 : Mod none_ w1 w5 := Mod.then (by repeat (first | assumption | exact Mod.refl _ _ | refine Mod.drew ?_)) hN5))
  go_wp2
  go_ret
  exact ⟨rfl, HM1.out.then hM5⟩
theorem solid_any (w : World) {b W H : Nat} {E : List Int} (h : BrdP w b W H E) (px py : Int) (hx : Bd.I64 px) (hy : Bd.I64 py) : Calls Tryd.prog 28 #[.pointer (some ⟨b, 0, none⟩), .agg #[.int .i64 px, .int .i64 py]] w fun e w' => e = .returned (.bool (decide (Bd.atOf W H E px py = 35))) ∧ Mod none_ w w' := by
  have hc := fun (q : World) (hM : Mod none_ w q) => at_any q (h.none hM) px py hx hy
  have HC := Lib.hid hc
  clear hc h hx hy
  generalize Bd.atOf W H E px py = R at *
  have he : (R == 35) = decide (R = 35) := rfl
  go_enter Tryd.func28, Tryd.ntmps28
  go_upto_region 1 with fail
  obtain ⟨w1, hw1⟩ : ∃ w1, w.alloc (.cells #[.int .i64 px, .int .i64 py] 23) = w1 := ⟨_, rfl⟩
  have hM1 : Mod none_ w w1 := hw1 ▸ (Mod.refl none_ w).alloc _
  have hB1 : Blk w1 w.heap.size [.int .i64 px, .int .i64 py] 23 := hw1 ▸ Blk.new w _ _
  rw [hw1]
  have p0 := hB1.cell (j := 0) rfl
  have p1 := hB1.cell (j := 1) rfl
  generalize w.heap.size = Z at *
  have HM1 := Lib.hid hM1
  clear hM1 hB1 hw1
  go_wp2_with (go_at_call 63; refine (HC.out _ HM1.out).mono ?_; rintro r w2 ⟨rfl, hM2⟩)
  go_ret
  exact ⟨ret_bool (by simp), HM1.out.then hM2⟩

/-- a call tells whether something is so -/
def Tells (e : Ending) (p : Prop) : Prop := ∃ r : Bool, e = .returned (.bool r) ∧ (r = true ↔ p)
theorem Tells.yes {e : Ending} {p : Prop} (h : p) (he : e = .returned (.bool true)) : Tells e p := ⟨true, he, fun _ => h, fun _ => rfl⟩
theorem Tells.no {e : Ending} {p : Prop} (h : ¬ p) (he : e = .returned (.bool false)) : Tells e p := ⟨false, he, (fun h => by cases h), fun k => absurd k h⟩
set_option maxHeartbeats 1000000 in
theorem blocked_any (w : World) {b W H : Nat} {E : List Int} (h : BrdP w b W H E) (px py half : Int) (hx : Bd.I64 px) (hy : Bd.I64 py) (hh : Bd.I64 half) : Calls Tryd.prog 36 #[.pointer (some ⟨b, 0, none⟩), .agg #[.int .i64 px, .int .i64 py], .int .i64 half] w fun e w' => Tells e (Bd.Blocked W H E px py half) ∧ Mod none_ w w' := by
  have hf := h.fine
  obtain ⟨g, cap, rest, h1, h2, h3⟩ := h.mem
  have b0 := h1.cell (j := 0) rfl
  have b1 := h1.cell (j := 1) rfl
  have hbl := h1.lt
  have hc := fun (q : World) (hM : Mod none_ w q) (x y : Int) => cellat_any q (h.none hM) x y
  have hsx := fun q : World => span_any q px half W hx hh hf.w64
  have hsy := fun q : World => span_any q py half H hy hh hf.h64
  have hbd : ∀ a (n : Nat), n ≤ 64 → -1 ≤ Bd.first a half n ∧ Bd.last a half n ≤ 65 := by
    intro a n hn
    unfold Bd.first Bd.last Bd.num Bd.clip
    constructor
    · repeat' split
      all_goals omega
    · repeat' split
      all_goals omega
  have hbx := hbd px W hf.w64
  have hby := hbd py H hf.h64
  have hlx := Bd.first_le_last (half := half) W hx
  have hly := Bd.first_le_last (half := half) H hy
  have hB : Bd.Blocked W H E px py half ↔ Bd.Wall W H E (Bd.first px half W) (Bd.last px half W) (Bd.first py half H) (Bd.last py half H) := Iff.rfl
  generalize Bd.first px half W = L at *
  generalize Bd.last px half W = R at *
  generalize Bd.first py half H = T at *
  generalize Bd.last py half H = D at *
  have HC := Lib.hid hc; have HSX := Lib.hid hsx; have HSY := Lib.hid hsy; have HBl := Lib.hid hB
  clear hbd h h1 h2 h3 hc hsx hsy hB hf
  go_enter Tryd.func36, Tryd.ntmps36
  go_upto_region 1 with fail
  obtain ⟨w1, hw1⟩ : ∃ w1, w.alloc (.cells #[.int .i64 px, .int .i64 py] 23) = w1 := ⟨_, rfl⟩
  have hM1 : Mod none_ w w1 := hw1 ▸ (Mod.refl none_ w).alloc _
  have hB1 : Blk w1 w.heap.size [.int .i64 px, .int .i64 py] 23 := hw1 ▸ Blk.new w _ _
  rw [hw1]
  have p0 := hB1.cell (j := 0) rfl
  have p1 := hB1.cell (j := 1) rfl
  replace b0 := hM1.cellS b0 (fun h => h)
  replace b1 := hM1.cellS b1 (fun h => h)
  generalize w.heap.size = Z at *
  have q0 := p0; have q1 := p1; have c0 := b0; have c1 := b1
  have HM1 := Lib.hid hM1
  have hm0 := Mod.refl none_ w1
  clear hM1 hB1 hw1
  go_region_held3 (fun w' => w'.cell? ⟨Z, 0, none⟩ = some (.int .i64 px) ∧ w'.cell? ⟨b, 0, none⟩ = some (.int .i64 W) ∧ Mod none_ w1 w')
    (first | ((refine ⟨Mod.cellS (S := none_) (w := w1) ?_ q0 (fun h => h), Mod.cellS (S := none_) (w := w1) ?_ c0 (fun h => h), ?_⟩ <;> (repeat (first | assumption | exact Mod.refl _ _ | refine Mod.drew ?_))); done))
    (first | (go_at_call 81; refine (HSX.out _).mono ?_; rintro r wz ⟨rfl, rfl⟩))
  obtain ⟨w2, hw2, hM2⟩ : ∃ w2, w1.drew = w2 ∧ Mod none_ w1 w2 := ⟨_, rfl, (Mod.refl _ _).drew⟩
  rw [hw2]
  replace q1 := hM2.cellS q1 (fun h => h); replace c1 := hM2.cellS c1 (fun h => h)
  have d1 := q1; have e1 := c1
  have HM2 := Lib.hid (HM1.out.then hM2)
  have hm2 := Mod.refl none_ w2
  clear hM2 hw2 p0 p1 b0 b1 q0 c0 HM1 hm0
  go_upto_region 2 with fail
  go_region_held3 (fun w' => w'.cell? ⟨Z, 1, none⟩ = some (.int .i64 py) ∧ w'.cell? ⟨b, 1, none⟩ = some (.int .i64 H) ∧ Mod none_ w2 w')
    (first | ((refine ⟨Mod.cellS (S := none_) (w := w2) ?_ d1 (fun h => h), Mod.cellS (S := none_) (w := w2) ?_ e1 (fun h => h), ?_⟩ <;> (repeat (first | assumption | exact Mod.refl _ _ | refine Mod.drew ?_))); done))
    (first | (go_at_call 81; refine (HSY.out _).mono ?_; rintro r wz ⟨rfl, rfl⟩))
  obtain ⟨w3, hw3, hM3⟩ : ∃ w3, w2.drew = w3 ∧ Mod none_ w2 w3 := ⟨_, rfl, (Mod.refl _ _).drew⟩
  rw [hw3]
  have HM3 := Lib.hid (HM2.out.then hM3)
  clear hM3 hw3 q1 c1 d1 e1 hm2 HSX HSY HM2
  go_wp2_with fail
  go_loopw [11] (fun v wr => ∃ y : Int, v = .int .i64 y ∧ T ≤ y ∧ y ≤ D + 1 ∧ (∀ y', T ≤ y' → y' < y → ∀ x, L ≤ x → x ≤ R → Bd.cellOf W H E x y' ≠ 35) ∧ Mod none_ w wr) (fun v _ => (D + 1 - intOf v).toNat)
  case atStart => exact ⟨T, rfl, by omega, by omega, fun y' h1 h2 => by omega, HM3.out⟩
  case round =>
    obtain ⟨y, rfl, hy1, hy2, hno, hM⟩ := hrel
    have HN := Lib.hid hno; have HM := Lib.hid hM
    clear hno hM
    by_cases hyD : y ≤ D
    · obtain ⟨wo, rfl⟩ : ∃ wo : World, wo = wr := ⟨_, rfl⟩
      go_wp2_with fail
      go_loopw [12] (fun v wz => ∃ x : Int, v = .int .i64 x ∧ L ≤ x ∧ x ≤ R + 1 ∧ (∀ x', L ≤ x' → x' < x → Bd.cellOf W H E x' y ≠ 35) ∧ Mod none_ w wz) (fun v _ => (R + 1 - intOf v).toNat)
      case atStart => exact ⟨L, rfl, by omega, by omega, fun x' h1 h2 => by omega, HM.out⟩
      case round =>
        obtain ⟨x, rfl, hx1, hx2, hnx, hMz⟩ := hrel
        have HNX := Lib.hid hnx; have HMZ := Lib.hid hMz
        clear hnx hMz
        by_cases hxR : x ≤ R
        · go_wp2_with fail
          refine (HC.out _ HMZ.out x y).mono ?_
          rintro r w5 ⟨rfl, hM5⟩
          have HM5 := Lib.hid (HMZ.out.then hM5)
          obtain ⟨v, hv⟩ : ∃ v, Bd.cellOf W H E x y = v := ⟨_, rfl⟩
          rw [hv]
          have HV := Lib.hid hv
          clear hM5 hv
          by_cases h35 : v = 35
          · subst h35
            go_wp2_with fail
            go_ret
            exact ⟨Tells.yes (HBl.out.2 ⟨x, y, ⟨hx1, hxR⟩, ⟨hy1, hyD⟩, HV.out⟩) rfl, HM5.out⟩
          · have e35 : (v == 35) = false := by simpa using h35
            have HW := Lib.hid h35
            clear h35
            go_wp2_with fail
            go_roundw
            case rel =>
              refine ⟨x + 1, rfl, by omega, by omega, fun x' h1 h2 => ?_, HM5.out⟩
              by_cases hxx : x' < x
              · exact HNX.out x' h1 hxx
              · obtain rfl : x' = x := by omega
                rw [HV.out]; exact HW.out
            case measure => simp [intOf]; omega
        · go_wp2_with fail
          go_roundw
          case rel =>
            refine ⟨y + 1, rfl, by omega, by omega, fun y' h1 h2 x h3 h4 => ?_, HMZ.out⟩
            by_cases hyy : y' < y
            · exact HN.out y' h1 hyy x h3 h4
            · obtain rfl : y' = y := by omega
              exact HNX.out x h3 (by omega)
          case measure => simp [intOf]; omega
    · go_wp2_with fail
      go_ret
      refine ⟨Tells.no (fun h => ?_) rfl, HM.out⟩
      obtain ⟨x, y', hx', hy', hc⟩ := HBl.out.1 h
      exact absurd hc (HN.out y' hy'.1 (by omega) x hx'.1 hx'.2)
end Go.Proofs.YtinjlkceplhibaaDoor
