/- FixFloats: the law's walk. -/
import Derived.Test.YtnknbikkgohlmaaDoorFlu
namespace Go.Proofs.YtnknbikkgohlmaaDoor
open Go.RowKit Go.Proofs.YtnknbikkgohlmaaDoorW.PrintWords Go.Proofs.YtnknbikkgohlmaaDoor.VFixB Go.Proofs.YtnknbikkgohlmaaDoor.Flt Ieee

set_option maxRecDepth 100000 in
theorem rfloat_any (a : Int) (r : Nat) (hr : floatBits .quo .f32 (floatOfInt .f32 a) 1199570944 = some r) (w : World) : Calls Tryd.prog 47 #[.int .i64 a] w fun e w' => e = .returned (.float .f32 r) ∧ w' = w := by
  have hq := fun wx : World => run_float_arith (P := Tryd.prog) wx .quo 64 .f32 _ _ r hr
  have hc := fun wx : World => run_convert_int_float (P := Tryd.prog) wx 2 64 .i64 .f32 a (by rw [Tryd.underlying2]; rfl) Tryd.underlying64
  generalize floatOfInt .f32 a = z at *
  clear hr
  go_enter Tryd.func47, Tryd.ntmps47
  go_wp2
  go_ret
  exact ⟨rfl, rfl⟩
set_option maxRecDepth 100000 in
theorem alike_any (r : Nat) (w : World) : Calls Tryd.prog 46 #[.float .f32 r, .float .f32 r] w fun e w' => e = .returned (.bool true) ∧ w' = w := by
  have h : FloatKind.f32.format.order r r = some .eq ∨ FloatKind.f32.format.order r r = none := by
    rcases single_read r with ⟨s, m, e, h, _⟩ | ⟨s, h⟩ | ⟨s, t, h⟩
    · exact Or.inl (order_refl single r s m e h)
    · exact Or.inl (order_inf single r s h)
    · exact Or.inr (order_nan ⟨_, _, h⟩ r)
  rcases h with h | h
  · have c1 : (FloatKind.f32.format.order r r == some .eq) = true := by rw [h]; rfl
    clear h
    go_enter Tryd.func46, Tryd.ntmps46
    go_wp2
    go_ret
    exact ⟨rfl, rfl⟩
  · have c1 : (FloatKind.f32.format.order r r == some .eq) = false := by rw [h]; rfl
    have c2 : (FloatKind.f32.format.order r r != some .eq) = true := by rw [h]; rfl
    clear h
    go_enter Tryd.func46, Tryd.ntmps46
    go_wp2
    go_ret
    exact ⟨rfl, rfl⟩
theorem f16 : floatBits .quo .f32 (floatOfInt .f32 16777216) 1199570944 = some 1132462080 := by decide +kernel
set_option maxHeartbeats 2000000 in
set_option maxRecDepth 100000 in
theorem fixFloats_any (w : World) (hG : Sines w) (a : Int) (f : Nat) : Calls Tryd.prog 11 #[.int .i64 a, .float .f32 f] w fun e w' => e = .returned (.bool true) ∧ Mod none_ w w' := by
  have HG := Lib.hid hG
  clear hG
  obtain ⟨r, hr⟩ := float_some a
  obtain ⟨n, hn⟩ : ∃ n, a.tmod 16777217 = n := ⟨_, rfl⟩
  have hn1 : -16777216 ≤ n ∧ n ≤ 16777216 := by
    have h1 := Int.tmod_lt_of_pos a (b := 16777217) (by decide)
    have h2 := Int.lt_tmod_of_pos a (b := 16777217) (by decide)
    omega
  obtain ⟨rn, hrn⟩ := float_some n
  have hbn := back n hn1.1 hn1.2 rn hrn
  have hb16 := back 16777216 (by decide) (by decide) 1132462080 f16
  have h1 := fun q : World => float_any a r hr q
  have h2 := fun q : World => rfloat_any a r hr q
  have h3 := fun q : World => alike_any r q
  have h4 := fun q : World => of_all f q
  have h5 := fun q : World => rof_all f q
  have h6 := fun q : World => of_all r q
  have h7 := fun q : World => rof_all r q
  have h8 := fun q : World => float_any n rn hrn q
  have h9 := fun q : World => of_all rn q
  have h10 := fun q : World => float_any 16777216 1132462080 f16 q
  have h11 := fun q : World => of_all 1132462080 q
  rw [hbn] at h9
  rw [hb16] at h11
  have hs : (∃ r0, floatBits .sub .f32 f f = some r0 ∧ ofv r0 = 0) ∨ floatBits .sub .f32 f f = none := (self_sub f).symm
  generalize ofv f = F at h4 h5
  generalize ofv r = R at h6 h7
  have H1 := Lib.hid h1; have H2 := Lib.hid h2; have H3 := Lib.hid h3; have H4 := Lib.hid h4; have H5 := Lib.hid h5; have H6 := Lib.hid h6; have H7 := Lib.hid h7; have H8 := Lib.hid h8; have H9 := Lib.hid h9; have H10 := Lib.hid h10; have H11 := Lib.hid h11
  have HS := Lib.hid hs
  have HNN := Lib.hid hn
  have e1 : (F != F) = false := by simp
  have e2 : (R != R) = false := by simp
  have e3 : (n == n) = true := by simp
  clear h1 h2 h3 h4 h5 h6 h7 h8 h9 h10 h11 hs hn hr hrn hbn hb16 hn1
  go_enter Tryd.func11, Tryd.ntmps11
  go_upto_region 3 with (go_at_call 30; refine (fixed_any _ HG.out).mono ?_; rintro e w1 ⟨rfl, hb⟩; have HM1 := Lib.hid (show Mod none_ w w1 from Mod.of_below hb); clear hb)
  go_upto_region 4 with (go_at_call 45; refine (H1.out _).mono ?_; rintro e q ⟨rfl, hq⟩; subst hq)
  go_upto_region 6 with (first | (go_at_call 47; refine (H2.out _).mono ?_; rintro e q ⟨rfl, hq⟩; subst hq) | (go_at_call 46; refine (H3.out _).mono ?_; rintro e q ⟨rfl, hq⟩; subst hq) |
    (go_at_call 48; clear H3; refine (H4.out _).mono ?_; rintro e w2 ⟨rfl, hM⟩; have HM2 := Lib.hid (HM1.out.then hM); clear hM H4) | (go_at_call 49; refine (H5.out _).mono ?_; rintro e w3 ⟨rfl, hM⟩; have HM3 := Lib.hid (HM2.out.then hM); clear hM H5) |
    (go_at_call 48; refine (H6.out _).mono ?_; rintro e w4 ⟨rfl, hM⟩; have HM4 := Lib.hid (HM3.out.then hM); clear hM H6) | (go_at_call 49; refine (H7.out _).mono ?_; rintro e w5 ⟨rfl, hM⟩; have HM5 := Lib.hid (HM4.out.then hM); clear hM H7))
  go_upto_region 7 with fail
  rw [HNN.out]
  rcases HS.out with ⟨r0, h0, hv⟩ | h0
  · have hsub := fun wx : World => run_float_arith (P := Tryd.prog) wx .sub 64 .f32 _ _ r0 h0
    have h12 := fun q : World => of_all r0 q
    rw [hv] at h12
    have H12 := Lib.hid h12
    clear h0 hv h12 HS
    go_wp2_with (first | (go_at_call 45; refine (H8.out _).mono ?_; rintro e q ⟨rfl, hq⟩; subst hq; clear H8) | (go_at_call 48; refine (H9.out _).mono ?_; rintro e w6 ⟨rfl, hM⟩; have HM6 := Lib.hid (HM5.out.then hM); clear hM H9) |
      (go_at_call 45; refine (H10.out _).mono ?_; rintro e q ⟨rfl, hq⟩; subst hq; clear H10) | (go_at_call 48; refine (H11.out _).mono ?_; rintro e w7 ⟨rfl, hM⟩; have HM7 := Lib.hid (HM6.out.then hM); clear hM H11) |
      (go_at_call 48; refine (H12.out _).mono ?_; rintro e w8 ⟨rfl, hM⟩; have HM8 := Lib.hid (HM7.out.then hM); clear hM H12))
    go_ret
    exact ⟨rfl, HM8.out⟩
  · have hsub := fun wx : World => run_nan_arith (P := Tryd.prog) wx .sub (Or.inl rfl) 64 .f32 _ _ h0
    have h12 := fun q q' : World => of_all (nanAt (.nanBits .f32 f f) q) q'
    have hv : ∀ q : World, ofv (nanAt (.nanBits .f32 f f) q) = 0 := fun q => by
      obtain ⟨s, t, h⟩ := nan32 f f q
      exact ofv_nan h
    simp only [hv] at h12
    have H12 := Lib.hid h12
    clear h0 hv h12 HS
    go_wp2_with (first | (go_at_call 45; refine (H8.out _).mono ?_; rintro e q ⟨rfl, hq⟩; subst hq; clear H8) | (go_at_call 48; refine (H9.out _).mono ?_; rintro e w6 ⟨rfl, hM⟩; have HM6 := Lib.hid (HM5.out.then hM); clear hM H9) |
      (go_at_call 45; refine (H10.out _).mono ?_; rintro e q ⟨rfl, hq⟩; subst hq; clear H10) | (go_at_call 48; refine (H11.out _).mono ?_; rintro e w7 ⟨rfl, hM⟩; have HM7 := Lib.hid (HM6.out.then hM); clear hM H11) |
      (go_at_call 48; refine (H12.out _ _).mono ?_; rintro e w8 ⟨rfl, hM⟩; have HM8 := Lib.hid ((HM7.out.then (mod_drew _)).then hM); clear hM H12))
    go_ret
    exact ⟨rfl, HM8.out⟩
end Go.Proofs.YtnknbikkgohlmaaDoor
namespace Go.Proofs.YtnknbikkgohlmaaDoor
open Go.ChangeShapes Go.WideShapes
/-- a float32 among the arguments -/
theorem open_f32 {P : Program} {H : Type} {enc : TypeId × Value → H} {w : World} {base : Nat} {spare : Nat → Bool} {held : Bool} {r : Reach} {b0 : Nat} {t : TypeId} {v : Value} {d : DataW H} {ps : List MemPlace} (ht : P.underlying t = some (.float .f32)) (hval : Value.okWide P w r b0 t v) (hd : DataW.Trod enc P w base spare held t v d ps) :
    ∃ n, v = .float .f32 n ∧ d = .lit (.float .f32 n) ∧ ps = [] := by
  obtain ⟨n, rfl⟩ : ∃ n, v = .float .f32 n := by
    simp only [Value.okWide, ht, Cell.okWide] at hval
    cases v <;> simp_all [Cell.ok]
  obtain ⟨fuel, hf⟩ := hd
  refine ⟨n, rfl, ?_⟩
  cases fuel with
  | zero => simp [DataW.trod] at hf
  | succ k =>
    unfold DataW.trod at hf
    rw [ht] at hf
    simp [Value.cells] at hf
    exact ⟨hf.2.1.symm, hf.2.2⟩
end Go.Proofs.YtnknbikkgohlmaaDoor
