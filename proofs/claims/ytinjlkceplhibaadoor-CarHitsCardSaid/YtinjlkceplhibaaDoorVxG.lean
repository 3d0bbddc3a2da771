/- The document's sines and places: the walks. -/
import Derived.Test.YtinjlkceplhibaaDoorVxF
namespace Go.Proofs.YtinjlkceplhibaaDoor
open Go.RowKit

theorem sines_any (w : World) : Calls Tryd.prog 108 #[] w fun e w' => (∃ g, e = .returned (.slice (some ⟨g, 0, none⟩) 65 65) ∧ ∀ i, i < 65 → w'.cell? ⟨g, i, none⟩ = some (.int .i64 (sine i))) ∧ Mod none_ w w' := by
  go_enter Tryd.func108, Tryd.ntmps108
  go_wp2
  go_ret
  refine ⟨⟨w.heap.size, rfl, fun i hi => ?_⟩, (Mod.refl none_ w).alloc _⟩
  have hB := Blk.new w (sineTab.map (Value.int .i64)) 2
  have h := hB.cell (j := i) (v := .int .i64 (sine i)) (by
    have hl : sineTab.length = 65 := rfl
    rw [List.getElem?_map, List.getElem?_eq_getElem (by omega)]
    unfold sine
    rw [List.getD_eq_getElem?_getD, List.getElem?_eq_getElem (by omega)]
    rfl)
  exact h
theorem r3sinH_any (w : World) (h : Int) (m : Nat) (hm : m < 128) (hh : h = m) (r : Int) (hr : sinH m = r) : Calls Tryd.prog 88 #[.int .i64 h] w fun e w' => e = .returned (.int .i64 r) ∧ Mod none_ w w' := by
  subst hh
  have e1 : Int.tmod (m : Int) 256 = (m : Int) := by rw [Vx.tmod_pos (by omega)]; omega
  have c1 : ¬ (m : Int) < 0 := by omega
  have c2 : ¬ (128 : Int) ≤ (m : Int) := by omega
  by_cases h64 : 64 < m
  · have h64' : (64 : Int) < (m : Int) := by omega
    obtain ⟨j, hj⟩ : ∃ j : Nat, j = 128 - m := ⟨_, rfl⟩
    rw [sinH, if_pos h64, ← hj] at hr
    have HJ : (128 : Int) - (m : Int) = (j : Int) := by omega
    have hj0 : (0 : Int) ≤ (j : Int) := by omega
    have hj1 : (j : Int) < 65 := by omega
    have hj2 : j < 65 := by omega
    have HR := Lib.hid hr
    clear hr hj
    go_enter Tryd.func88, Tryd.ntmps88
    go_wp2_with fail
    refine (sines_any _).mono ?_
    rintro e w1 ⟨⟨g, rfl, hc⟩, hM⟩
    have hcj := hc j hj2
    rw [HR.out] at hcj
    have HM := Lib.hid hM
    clear hc hM
    go_wp2_with fail
    go_ret
    exact ⟨rfl, HM.out⟩
  · have h64' : ¬ (64 : Int) < (m : Int) := by omega
    rw [sinH, if_neg h64] at hr
    have hj1 : (m : Int) < 65 := by omega
    have hj2 : m < 65 := by omega
    have HR := Lib.hid hr
    clear hr
    go_enter Tryd.func88, Tryd.ntmps88
    go_wp2_with fail
    refine (sines_any _).mono ?_
    rintro e w1 ⟨⟨g, rfl, hc⟩, hM⟩
    have hcj := hc m hj2
    rw [HR.out] at hcj
    have HM := Lib.hid hM
    clear hc hM
    go_wp2_with fail
    go_ret
    exact ⟨rfl, HM.out⟩
theorem r3sin_any (w : World) (h : Int) : Calls Tryd.prog 88 #[.int .i64 h] w fun e w' => e = .returned (.int .i64 (sinT h)) ∧ Mod none_ w w' := by
  obtain ⟨m, hm⟩ : ∃ m : Nat, h % 256 = (m : Int) := ⟨(h % 256).toNat, by omega⟩
  have hm2 : m < 256 := by omega
  have hs : sinT h = sinN m := by rw [sinT, hm]; rfl
  rw [hs]
  obtain ⟨t, ht⟩ : ∃ t, Int.tmod h 256 = t := ⟨_, rfl⟩
  have htm : (t < 0 ∧ t + 256 = (m : Int)) ∨ (¬ t < 0 ∧ t = (m : Int)) := by
    have h1 := Int.lt_tmod_of_pos h (by decide : (0 : Int) < 256)
    have h2 := Int.tmod_lt_of_pos h (by decide : (0 : Int) < 256)
    have h3 := Int.mul_tdiv_add_tmod h 256
    rw [ht] at h1 h2 h3
    generalize Int.tdiv h 256 = q at *
    omega
  clear hs hm
  by_cases hg : 128 ≤ m
  · have hn : sinN m = - sinH (m - 128) := by rw [sinN, if_pos hg]
    have hb := sinH_bd (m - 128)
    have hc := fun q : World => r3sinH_any q ((m : Int) - 128) (m - 128) (by omega) (by omega) _ rfl
    rw [hn]
    generalize sinH (m - 128) = v at *
    have hg' : (128 : Int) ≤ (m : Int) := by omega
    have HC := Lib.hid hc
    clear hc hn
    rcases htm with ⟨c1, c2⟩ | ⟨c1, c2⟩
    · go_enter Tryd.func88, Tryd.ntmps88
      go_wp2_with fail
      refine (HC.out _).mono ?_
      rintro e w1 ⟨rfl, hM⟩
      have HM := Lib.hid hM
      clear hM
      go_wp2_with fail
      go_ret
      exact ⟨rfl, HM.out⟩
    · subst c2
      go_enter Tryd.func88, Tryd.ntmps88
      go_wp2_with fail
      refine (HC.out _).mono ?_
      rintro e w1 ⟨rfl, hM⟩
      have HM := Lib.hid hM
      clear hM
      go_wp2_with fail
      go_ret
      exact ⟨rfl, HM.out⟩
  · have hn : sinN m = sinH m := by rw [sinN, if_neg hg]
    have hg' : ¬ (128 : Int) ≤ (m : Int) := by omega
    rw [hn]
    by_cases h64 : 64 < m
    · have h64' : (64 : Int) < (m : Int) := by omega
      obtain ⟨j, hj⟩ : ∃ j : Nat, j = 128 - m := ⟨_, rfl⟩
      have hr : sinH m = sine j := by rw [sinH, if_pos h64, ← hj]
      rw [hr]
      have HJ : (128 : Int) - (m : Int) = (j : Int) := by omega
      have hj0 : (0 : Int) ≤ (j : Int) := by omega
      have hj1 : (j : Int) < 65 := by omega
      have hj2 : j < 65 := by omega
      clear hr hj hn
      rcases htm with ⟨c1, c2⟩ | ⟨c1, c2⟩
      · go_enter Tryd.func88, Tryd.ntmps88
        go_wp2_with fail
        refine (sines_any _).mono ?_
        rintro e w1 ⟨⟨g, rfl, hc⟩, hM⟩
        have hcj := hc j hj2
        have HM := Lib.hid hM
        clear hc hM
        go_wp2_with fail
        go_ret
        exact ⟨rfl, HM.out⟩
      · subst c2
        go_enter Tryd.func88, Tryd.ntmps88
        go_wp2_with fail
        refine (sines_any _).mono ?_
        rintro e w1 ⟨⟨g, rfl, hc⟩, hM⟩
        have hcj := hc j hj2
        have HM := Lib.hid hM
        clear hc hM
        go_wp2_with fail
        go_ret
        exact ⟨rfl, HM.out⟩
    · have h64' : ¬ (64 : Int) < (m : Int) := by omega
      have hr : sinH m = sine m := by rw [sinH, if_neg h64]
      rw [hr]
      have hj1 : (m : Int) < 65 := by omega
      have hj2 : m < 65 := by omega
      clear hr hn
      rcases htm with ⟨c1, c2⟩ | ⟨c1, c2⟩
      · go_enter Tryd.func88, Tryd.ntmps88
        go_wp2_with fail
        refine (sines_any _).mono ?_
        rintro e w1 ⟨⟨g, rfl, hc⟩, hM⟩
        have hcj := hc m hj2
        have HM := Lib.hid hM
        clear hc hM
        go_wp2_with fail
        go_ret
        exact ⟨rfl, HM.out⟩
      · subst c2
        go_enter Tryd.func88, Tryd.ntmps88
        go_wp2_with fail
        refine (sines_any _).mono ?_
        rintro e w1 ⟨⟨g, rfl, hc⟩, hM⟩
        have hcj := hc m hj2
        have HM := Lib.hid hM
        clear hc hM
        go_wp2_with fail
        go_ret
        exact ⟨rfl, HM.out⟩
theorem r3cos_any (w : World) (h : Int) : Calls Tryd.prog 87 #[.int .i64 h] w fun e w' => e = .returned (.int .i64 (sinT (h + 64))) ∧ Mod none_ w w' := by
  obtain ⟨t, ht⟩ : ∃ t, Int.tmod h 256 = t := ⟨_, rfl⟩
  have h1 := Int.lt_tmod_of_pos h (by decide : (0 : Int) < 256)
  have h2 := Int.tmod_lt_of_pos h (by decide : (0 : Int) < 256)
  have h3 := Int.mul_tdiv_add_tmod h 256
  rw [ht] at h1 h2 h3
  have hc := fun q : World => r3sin_any q (t + 64)
  have hs : sinT (t + 64) = sinT (h + 64) := by
    unfold sinT
    generalize Int.tdiv h 256 = q at *
    congr 2
    omega
  simp only [hs] at hc
  generalize sinT (h + 64) = v at *
  have hw : IntKind.i64.wrap (t + 64) = t + 64 := wrap_in _ (by unfold Bd.I64; omega)
  have HC := Lib.hid hc
  clear hc hs h1 h2 h3
  go_enter Tryd.func87, Tryd.ntmps87
  go_wp2_with fail
  refine (HC.out _).mono ?_
  rintro e w1 ⟨rfl, hM⟩
  have HM := Lib.hid hM
  clear hM
  go_wp2_with fail
  go_ret
  exact ⟨rfl, HM.out⟩
end Go.Proofs.YtinjlkceplhibaaDoor
