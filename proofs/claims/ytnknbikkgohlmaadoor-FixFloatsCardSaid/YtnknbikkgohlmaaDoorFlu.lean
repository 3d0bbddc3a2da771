/- FixFloats: Of, the program's and the document's: the walks. -/
import Derived.Test.YtnknbikkgohlmaaDoorFlt
namespace Go.Proofs.YtnknbikkgohlmaaDoor
open Go.RowKit Go.Proofs.YtnknbikkgohlmaaDoorW.PrintWords Go.Proofs.YtnknbikkgohlmaaDoor.VFixB Go.Proofs.YtnknbikkgohlmaaDoor.Flt Ieee

theorem toIntVal_of {k : FloatKind} {p : Nat} {R : Int} (h : Datum.toInt .zero (k.format.read p) = some R) (h1 : -1099511627776 ≤ R) (h2 : R ≤ 1099511627776) : floatToIntVal k p .i64 = some R := by
  unfold floatToIntVal
  show (match Datum.toInt .zero (k.format.read p) with | some n => _ | none => _) = _
  rw [h]
  have e1 : IntKind.i64.min = -9223372036854775808 := by decide
  have e2 : IntKind.i64.max = 9223372036854775807 := by decide
  simp only [e1, e2]
  rw [if_pos (by omega)]
theorem mod_drew (w : World) : Mod none_ w w.drew := (Mod.refl _ _).drew

set_option maxHeartbeats 1000000 in
set_option maxRecDepth 100000 in
theorem of_all (b : Nat) (w : World) : Calls Tryd.prog 48 #[.float .f32 b] w fun e w' => e = .returned (.int .i64 (ofv b)) ∧ Mod none_ w w' := by
  rcases single_read b with ⟨s, m, e, h, h1, h2, h3, h4⟩ | ⟨s, h⟩ | ⟨s, t, h⟩
  · obtain ⟨d, p, K, P, hd, hp, hr, hP, hs⟩ := prog_num b s m e h h1 h2 h3
    rw [ofv_num h, ← hs]
    have ht := told_num bnd64 hr hP
    have c1 : (FloatKind.f64.format.order p p != some .eq) = false := by show (double.order p p != _) = _; rw [order_refl double p s K P hr]; rfl
    have hc1 := fun wx : World => run_convert_float_float (P := Tryd.prog) wx 64 97 .f32 .f64 b d (by rw [Tryd.underlying64]; rfl) Tryd.underlying97 hd
    have hm := fun wx : World => run_float_arith (P := Tryd.prog) wx .mul 97 .f64 _ _ p hp
    generalize ansX 1200 s (scale 1200 K P) = R at *
    clear h hd hp hr hP hs h1 h2 h3 h4
    rcases ht with ⟨g1, rfl⟩ | ⟨g1, g2, rfl⟩ | ⟨g1, g2, hR, b1, b2⟩
    · have c2 : (FloatKind.f64.format.order p 4787326403894837248 == some .gt || FloatKind.f64.format.order p 4787326403894837248 == some .eq) = true := g1
      clear g1
      go_enter Tryd.func48, Tryd.ntmps48
      go_wp2
      go_ret
      exact ⟨rfl, Mod.refl _ _⟩
    · have c2 : (FloatKind.f64.format.order p 4787326403894837248 == some .gt || FloatKind.f64.format.order p 4787326403894837248 == some .eq) = false := g1
      have c3 : (FloatKind.f64.format.order p 14010698440749613056 == some .lt || FloatKind.f64.format.order p 14010698440749613056 == some .eq) = true := g2
      clear g1 g2
      go_enter Tryd.func48, Tryd.ntmps48
      go_wp2
      go_ret
      exact ⟨rfl, Mod.refl _ _⟩
    · have c2 : (FloatKind.f64.format.order p 4787326403894837248 == some .gt || FloatKind.f64.format.order p 4787326403894837248 == some .eq) = false := g1
      have c3 : (FloatKind.f64.format.order p 14010698440749613056 == some .lt || FloatKind.f64.format.order p 14010698440749613056 == some .eq) = false := g2
      have hi := toIntVal_of (k := .f64) hR b1 b2
      have hc2 := fun wx : World => run_convert_float_int (P := Tryd.prog) wx 97 2 .f64 .i64 p R (by rw [Tryd.underlying97]; rfl) Tryd.underlying2 hi
      clear g1 g2 hR b1 b2 hi
      go_enter Tryd.func48, Tryd.ntmps48
      go_wp2
      go_ret
      exact ⟨rfl, Mod.refl _ _⟩
  · obtain ⟨i1, i2, _⟩ := inf_bits h
    obtain ⟨t1, t2, t3, _, _⟩ := inf_told s
    rw [ofv_inf h]
    have hc1 := fun wx : World => run_convert_float_float (P := Tryd.prog) wx 64 97 .f32 .f64 b _ (by rw [Tryd.underlying64]; rfl) Tryd.underlying97 i1
    have hm := fun wx : World => run_float_arith (P := Tryd.prog) wx .mul 97 .f64 _ _ _ i2
    have c1 : (FloatKind.f64.format.order (double.write (.infinity s)) (double.write (.infinity s)) != some .eq) = false := by show (double.order _ _ != _) = _; rw [t1]; rfl
    have c2 : (FloatKind.f64.format.order (double.write (.infinity s)) 4787326403894837248 == some .gt || FloatKind.f64.format.order (double.write (.infinity s)) 4787326403894837248 == some .eq) = !s := t2
    have c3 : (FloatKind.f64.format.order (double.write (.infinity s)) 14010698440749613056 == some .lt || FloatKind.f64.format.order (double.write (.infinity s)) 14010698440749613056 == some .eq) = s := t3
    generalize double.write (.infinity s) = p at *
    clear h i1 i2 t1 t2 t3
    cases s
    · go_enter Tryd.func48, Tryd.ntmps48
      go_wp2
      go_ret
      exact ⟨rfl, Mod.refl _ _⟩
    · go_enter Tryd.func48, Tryd.ntmps48
      go_wp2
      go_ret
      exact ⟨rfl, Mod.refl _ _⟩
  · rw [ofv_nan h]
    have hc1 := fun wx : World => run_nan_conv (P := Tryd.prog) wx 64 97 b s t (by rw [Tryd.underlying64]; rfl) Tryd.underlying97 h
    have hc2 := hc1 w
    have hm := run_nan_arith (P := Tryd.prog) w.drew .mul (Or.inr rfl) 97 .f64 (nanAt (.nanConv .f64 b) w) 4679240012837945344 (mul_nan (nanC64 b w) _)
    have c1 : (FloatKind.f64.format.order (nanAt (.nanBits .f64 (nanAt (.nanConv .f64 b) w) 4679240012837945344) w.drew) (nanAt (.nanBits .f64 (nanAt (.nanConv .f64 b) w) 4679240012837945344) w.drew) != some .eq) = true := by
      show (double.order _ _ != _) = _
      rw [order_nan (nan64 _ _ _)]
      rfl
    generalize nanAt (.nanBits .f64 (nanAt (.nanConv .f64 b) w) 4679240012837945344) w.drew = q at *
    generalize nanAt (.nanConv .f64 b) w = p at *
    clear hc1 h
    go_enter Tryd.func48, Tryd.ntmps48
    go_wp2
    go_ret
    exact ⟨rfl, (mod_drew w).then (mod_drew _)⟩
set_option maxHeartbeats 1000000 in
set_option maxRecDepth 100000 in
theorem rof_all (b : Nat) (w : World) : Calls Tryd.prog 49 #[.float .f32 b] w fun e w' => e = .returned (.int .i64 (ofv b)) ∧ Mod none_ w w' := by
  rcases single_read b with ⟨s, m, e, h, h1, h2, h3, h4⟩ | ⟨s, h⟩ | ⟨s, t, h⟩
  · obtain ⟨p, hp, hr⟩ := ref_num b s m e h h1 h2 h3 h4
    have c0 : (FloatKind.f32.format.order b b != some .eq) = false := by show (single.order b b != _) = _; rw [order_refl single b s m e h]; rfl
    have hm := fun wx : World => run_float_arith (P := Tryd.prog) wx .mul 64 .f32 _ _ p hp
    rw [ofv_num h]
    rcases hr with ⟨K, P, hr, hP, hs⟩ | ⟨hr, hs⟩
    · rw [← hs]
      have ht := told_num bnd32 hr hP
      generalize ansX 1200 s (scale 1200 K P) = R at *
      clear h hp hr hP hs h1 h2 h3 h4
      rcases ht with ⟨g1, rfl⟩ | ⟨g1, g2, rfl⟩ | ⟨g1, g2, hR, b1, b2⟩
      · have c2 : (FloatKind.f32.format.order p 1400897536 == some .gt || FloatKind.f32.format.order p 1400897536 == some .eq) = true := g1
        clear g1
        go_enter Tryd.func49, Tryd.ntmps49
        go_wp2
        go_ret
        exact ⟨rfl, Mod.refl _ _⟩
      · have c2 : (FloatKind.f32.format.order p 1400897536 == some .gt || FloatKind.f32.format.order p 1400897536 == some .eq) = false := g1
        have c3 : (FloatKind.f32.format.order p 3548381184 == some .lt || FloatKind.f32.format.order p 3548381184 == some .eq) = true := g2
        clear g1 g2
        go_enter Tryd.func49, Tryd.ntmps49
        go_wp2
        go_ret
        exact ⟨rfl, Mod.refl _ _⟩
      · have c2 : (FloatKind.f32.format.order p 1400897536 == some .gt || FloatKind.f32.format.order p 1400897536 == some .eq) = false := g1
        have c3 : (FloatKind.f32.format.order p 3548381184 == some .lt || FloatKind.f32.format.order p 3548381184 == some .eq) = false := g2
        have hi := toIntVal_of (k := .f32) hR b1 b2
        have hc2 := fun wx : World => run_convert_float_int (P := Tryd.prog) wx 64 2 .f32 .i64 p R (by rw [Tryd.underlying64]; rfl) Tryd.underlying2 hi
        clear g1 g2 hR b1 b2 hi
        go_enter Tryd.func49, Tryd.ntmps49
        go_wp2
        go_ret
        exact ⟨rfl, Mod.refl _ _⟩
    · obtain ⟨_, _, _, t4, t5⟩ := inf_told s
      have hq := order_of_inf hr
      rw [← hq 1400897536] at t4
      rw [← hq 3548381184] at t5
      have c2 : (FloatKind.f32.format.order p 1400897536 == some .gt || FloatKind.f32.format.order p 1400897536 == some .eq) = !s := t4
      have c3 : (FloatKind.f32.format.order p 3548381184 == some .lt || FloatKind.f32.format.order p 3548381184 == some .eq) = s := t5
      have hR : ansX 1200 s (scale 1200 m (e + 16)) = if s then -1099511627776 else 1099511627776 := by unfold ansX; rw [if_pos hs]
      rw [hR]
      clear h hp hr hs h1 h2 h3 h4 hq t4 t5 hR
      cases s
      · go_enter Tryd.func49, Tryd.ntmps49
        go_wp2
        go_ret
        exact ⟨rfl, Mod.refl _ _⟩
      · go_enter Tryd.func49, Tryd.ntmps49
        go_wp2
        go_ret
        exact ⟨rfl, Mod.refl _ _⟩
  · obtain ⟨_, _, i3⟩ := inf_bits h
    obtain ⟨_, _, _, t4, t5⟩ := inf_told s
    have c0 : (FloatKind.f32.format.order b b != some .eq) = false := by show (single.order b b != _) = _; rw [order_inf single b s h]; rfl
    rw [ofv_inf h]
    have hm := fun wx : World => run_float_arith (P := Tryd.prog) wx .mul 64 .f32 _ _ _ i3
    have c2 : (FloatKind.f32.format.order (single.write (.infinity s)) 1400897536 == some .gt || FloatKind.f32.format.order (single.write (.infinity s)) 1400897536 == some .eq) = !s := t4
    have c3 : (FloatKind.f32.format.order (single.write (.infinity s)) 3548381184 == some .lt || FloatKind.f32.format.order (single.write (.infinity s)) 3548381184 == some .eq) = s := t5
    generalize single.write (.infinity s) = p at *
    clear h i3 t4 t5
    cases s
    · go_enter Tryd.func49, Tryd.ntmps49
      go_wp2
      go_ret
      exact ⟨rfl, Mod.refl _ _⟩
    · go_enter Tryd.func49, Tryd.ntmps49
      go_wp2
      go_ret
      exact ⟨rfl, Mod.refl _ _⟩
  · rw [ofv_nan h]
    have c0 : (FloatKind.f32.format.order b b != some .eq) = true := by show (single.order b b != _) = _; rw [order_nan ⟨_, _, h⟩]; rfl
    clear h
    go_enter Tryd.func49, Tryd.ntmps49
    go_wp2
    go_ret
    exact ⟨rfl, Mod.refl _ _⟩
end Go.Proofs.YtnknbikkgohlmaaDoor
