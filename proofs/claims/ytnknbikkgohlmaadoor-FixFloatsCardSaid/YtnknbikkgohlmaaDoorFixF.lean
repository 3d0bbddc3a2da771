/- joustlaw03's fixed: the walk. -/
import Derived.Test.YtnknbikkgohlmaaDoorFixE
import Derived.Laws.FloatArith
namespace Go.Proofs.YtnknbikkgohlmaaDoor
open Go.RowKit Go.Proofs.YtnknbikkgohlmaaDoorW.PrintWords Go.Proofs.YtnknbikkgohlmaaDoor.VFixB

set_option maxRecDepth 100000 in
theorem float_any (a : Int) (r : Nat) (hr : floatBits .quo .f32 (floatOfInt .f32 a) 1199570944 = some r) (w : World) : Calls Tryd.prog 45 #[.int .i64 a] w fun e w' => e = .returned (.float .f32 r) ∧ w' = w := by
  have hq := fun wx : World => run_float_arith (P := Tryd.prog) wx .quo 64 .f32 _ _ r hr
  have hc := fun wx : World => run_convert_int_float (P := Tryd.prog) wx 2 64 .i64 .f32 a (by rw [Tryd.underlying2]; rfl) Tryd.underlying64
  generalize floatOfInt .f32 a = z at *
  clear hr
  go_enter Tryd.func45, Tryd.ntmps45
  go_wp2
  go_ret
  exact ⟨rfl, rfl⟩
theorem half_neg : floatBits .quo .f32 (floatOfInt .f32 (-32768)) 1199570944 = some 3204448256 := by decide +kernel

set_option maxRecDepth 100000 in
theorem of_any (b d p : Nat) (n : Int) (h1 : floatToFloatBits .f32 b .f64 = some d) (h2 : floatBits .mul .f64 d 4679240012837945344 = some p) (h3 : FloatKind.f64.format.order p p = some .eq)
    (h4 : FloatKind.f64.format.order p 4787326403894837248 = some .lt) (h5 : FloatKind.f64.format.order p 14010698440749613056 = some .gt) (h6 : floatToIntVal .f64 p .i64 = some n) (w : World) :
    Calls Tryd.prog 48 #[.float .f32 b] w fun e w' => e = .returned (.int .i64 n) ∧ w' = w := by
  have hc1 := fun wx : World => run_convert_float_float (P := Tryd.prog) wx 64 97 .f32 .f64 b d (by rw [Tryd.underlying64]; rfl) Tryd.underlying97 h1
  have hm := fun wx : World => run_float_arith (P := Tryd.prog) wx .mul 97 .f64 _ _ p h2
  have hc2 := fun wx : World => run_convert_float_int (P := Tryd.prog) wx 97 2 .f64 .i64 p n (by rw [Tryd.underlying97]; rfl) Tryd.underlying2 h6
  have c1 : (FloatKind.f64.format.order p p != some .eq) = false := by rw [h3]; rfl
  have c2 : (FloatKind.f64.format.order p 4787326403894837248 == some .gt || FloatKind.f64.format.order p 4787326403894837248 == some .eq) = false := by rw [h4]; rfl
  have c3 : (FloatKind.f64.format.order p 14010698440749613056 == some .lt || FloatKind.f64.format.order p 14010698440749613056 == some .eq) = false := by rw [h5]; rfl
  clear h1 h2 h3 h4 h5 h6
  go_enter Tryd.func48, Tryd.ntmps48
  go_wp2
  go_ret
  exact ⟨rfl, rfl⟩
theorem of_15 (w : World) : Calls Tryd.prog 48 #[.float .f32 1069547520] w fun e w' => e = .returned (.int .i64 98304) ∧ w' = w :=
  of_any 1069547520 4609434218613702656 4681491812651630592 98304 (by decide +kernel) (by decide +kernel) (by decide +kernel) (by decide +kernel) (by decide +kernel) (by decide +kernel) w
theorem Below.then {w w1 w2 : World} (h : Below w.heap.size w w1) (k : Below w1.heap.size w1 w2) : Below w.heap.size w w2 := h.trans (k.mono h.size)
theorem Below.drawn {w w1 w2 : World} (h : Below w.heap.size w w1) (k : Drawn0 w1 w2) : Below w.heap.size w w2 := by
  obtain ⟨⟨n, rfl⟩⟩ := k
  exact ⟨h.os, h.tape, h.output, h.size, h.block⟩
set_option maxHeartbeats 1000000 in
theorem fixed_any (w : World) (hG : Sines w) : Calls Tryd.prog 30 #[] w fun e w' => e = .returned (.bool true) ∧ Below w.heap.size w w' := by
  have HG := Lib.hid hG
  clear hG
  have c1 : (FloatKind.f32.format.order 3204448256 3204448256 == some .eq) = true := by decide +kernel
  have H0 := Lib.hid (Below.refl w.heap.size w)
  go_enter Tryd.func30, Tryd.ntmps30
  go_wp2_with fail
  refine (fix_Clamp.calls 5 0 3 3 _ (by decide +kernel)).mono ?_
  rintro e w1 ⟨rfl, hb⟩
  have H1 := Lib.hid (Below.then H0.out hb)
  clear hb
  go_wp2_with fail
  refine (fix_Add.calls 9 3 (-5) (-2) _ (by decide +kernel)).mono ?_
  rintro e w2 ⟨rfl, hb⟩
  have H2 := Lib.hid (Below.then H1.out hb)
  clear hb
  go_wp2_with fail
  refine (fix_Mul.calls 98304 98304 147456 _ (by decide +kernel)).mono ?_
  rintro e w3 ⟨rfl, hb⟩
  have H3 := Lib.hid (Below.then H2.out hb)
  clear hb
  go_wp2_with fail
  refine (fix_Mul.calls (-1) 1 (-1) _ (by decide +kernel)).mono ?_
  rintro e w4 ⟨rfl, hb⟩
  have H4 := Lib.hid (Below.then H3.out hb)
  clear hb
  go_wp2_with fail
  refine (fix_Div.calls 40 (-1) 3 (-21846) _ (by decide +kernel)).mono ?_
  rintro e w5 ⟨rfl, hb⟩
  have H5 := Lib.hid (Below.then H4.out hb)
  clear hb
  go_wp2_with fail
  refine (fix_Root.calls 50 131072 92681 _ (by decide +kernel)).mono ?_
  rintro e w6 ⟨rfl, hb⟩
  have H6 := Lib.hid (Below.drawn H5.out hb)
  clear hb
  go_wp2_with fail
  refine (fix_Sin.calls 0 32 46341 _ (by decide +kernel) (HG.out.below H6.out)).mono ?_
  rintro e w7 ⟨rfl, hb⟩
  have H7 := Lib.hid (Below.drawn H6.out hb)
  clear hb
  go_wp2_with fail
  refine (fix_Cos.calls 0 1 65516 _ (by decide +kernel) (HG.out.below H7.out)).mono ?_
  rintro e w8 ⟨rfl, hb⟩
  have H8 := Lib.hid (Below.drawn H7.out hb)
  clear hb
  go_wp2_with fail
  refine (float_any (-32768) 3204448256 half_neg _).mono ?_
  rintro e w9 ⟨rfl, rfl⟩
  go_wp2_with fail
  refine (of_15 _).mono ?_
  rintro e w9 ⟨rfl, rfl⟩
  go_wp2_with fail
  go_ret
  exact ⟨rfl, H8.out⟩
def joustlaw03_fixed.f : Option Bool := some true
theorem joustlaw03_fixed.calls (r : Bool) (w : World) (h : joustlaw03_fixed.f = some r) (hG : Sines w) : Calls Tryd.prog 30 #[] w fun e w' => e = .returned (.bool r) ∧ Below w.heap.size w w' := by
  obtain rfl : true = r := Option.some.inj h
  exact fixed_any w hG
end Go.Proofs.YtnknbikkgohlmaaDoor
