/- fix: products; sines: the walks. -/
import Derived.Test.YtinjlkceplhibaaDoorVxB
import Derived.Shelf.Bits.Mul64
namespace Go.Proofs.YtinjlkceplhibaaDoor
open Go.RowKit

theorem mul64_any (w : World) (x y : Nat) (hx : x < 18446744073709551616) (hy : y < 18446744073709551616) :
    Calls Tryd.prog 114 #[.int .u64 x, .int .u64 y] w fun e w' => e = .returned (.tuple #[.int .u64 ((x * y / 18446744073709551616 : Nat) : Int), .int .u64 ((x * y % 18446744073709551616 : Nat) : Int)]) ∧ w' = w := by
  obtain ⟨bd, bt, bw, hhi⟩ := Lib.mul64_hi x y hx hy
  have ba := Lib.half_mul_le (a := x / 4294967296) (b := y / 4294967296) (by omega) (by omega)
  have bb := Lib.half_mul_le (a := x / 4294967296) (b := y % 4294967296) (by omega) (by omega)
  have bc := Lib.half_mul_le (a := x % 4294967296) (b := y / 4294967296) (by omega) (by omega)
  have ba' : x / 4294967296 * (y / 4294967296) < 18446744073709551616 := by omega
  have bb' : x / 4294967296 * (y % 4294967296) < 18446744073709551616 := by omega
  have bc' : x % 4294967296 * (y / 4294967296) < 18446744073709551616 := by omega
  have bh1 : x / 4294967296 * (y / 4294967296) + (x / 4294967296 * (y % 4294967296) + x % 4294967296 * (y % 4294967296) / 4294967296) / 4294967296 < 18446744073709551616 := by omega
  have bh : x / 4294967296 * (y / 4294967296) + (x / 4294967296 * (y % 4294967296) + x % 4294967296 * (y % 4294967296) / 4294967296) / 4294967296 + ((x / 4294967296 * (y % 4294967296) + x % 4294967296 * (y % 4294967296) / 4294967296) % 4294967296 + x % 4294967296 * (y / 4294967296)) / 4294967296 < 18446744073709551616 := by omega
  go_enter Tryd.func114, Tryd.ntmps114
  go_wp2
  simp only [Mul64.maskN x hx, Mul64.maskN y hy, Mul64.divN, Mul64.mulN, Mul64.addN, Mul64.wrapN _ bd, Mul64.wrapN _ bb', Mul64.wrapN _ bt, Mul64.maskN _ bt, Mul64.wrapN _ bc', Mul64.wrapN _ bw, Mul64.wrapN _ ba', Mul64.wrapN _ bh1, Mul64.wrapN _ bh, Mul64.wrapM (x * y)]
  rw [hhi]
  go_ret2
  exact ⟨rfl, rfl⟩
theorem sgn_big {q : Int} (n c : Bool) (h : 2199023255552 < q) : Vx.sgn n q c = Vx.sgn n 2199023255552 c := by
  unfold Vx.sgn Vx.lim
  cases n <;> cases c <;> simp only [if_true, if_false, Bool.false_eq_true] <;> (repeat' split) <;> omega
theorem signed_any (w : World) (q : Int) (n c : Bool) (hq : 0 ≤ q ∧ q < 18446744073709551616) : Calls Tryd.prog 116 #[.int .u64 q, .bool n, .bool c] w fun e w' => e = .returned (.int .i64 (Vx.sgn n q c)) ∧ w' = w := by
  have hc := fun (q : World) (x : Int) => fbounded_any q x
  have HC := Lib.hid hc
  clear hc
  by_cases hb : 2199023255552 < q
  · rw [sgn_big n c hb]
    cases n with
    | false =>
      go_enter Tryd.func116, Tryd.ntmps116
      go_wp2_with (go_at_call 112; refine (HC.out _ _).mono ?_; rintro r wz ⟨rfl, rfl⟩)
      go_ret
      exact ⟨ret_int (by unfold Vx.sgn Vx.lim; simp), rfl⟩
    | true =>
      cases c with
      | false =>
        go_enter Tryd.func116, Tryd.ntmps116
        go_wp2_with (go_at_call 112; refine (HC.out _ _).mono ?_; rintro r wz ⟨rfl, rfl⟩)
        go_ret
        exact ⟨ret_int (by unfold Vx.sgn Vx.lim; simp), rfl⟩
      | true =>
        go_enter Tryd.func116, Tryd.ntmps116
        go_wp2_with (go_at_call 112; refine (HC.out _ _).mono ?_; rintro r wz ⟨rfl, rfl⟩)
        go_ret
        exact ⟨ret_int (by unfold Vx.sgn Vx.lim; simp), rfl⟩
  · have e1 : IntKind.i64.wrap q = q := wrap_in _ (by unfold Bd.I64; omega)
    have e2 : IntKind.u64.wrap (q + 1) = q + 1 := u64_in (by omega)
    have e3 : IntKind.i64.wrap (q + 1) = q + 1 := wrap_in _ (by unfold Bd.I64; omega)
    have e4 : IntKind.i64.wrap (-q) = -q := wrap_in _ (by unfold Bd.I64; omega)
    have e5 : IntKind.i64.wrap (-(q + 1)) = -(q + 1) := wrap_in _ (by unfold Bd.I64; omega)
    cases n with
    | false =>
      go_enter Tryd.func116, Tryd.ntmps116
      go_wp2_with (go_at_call 112; refine (HC.out _ _).mono ?_; rintro r wz ⟨rfl, rfl⟩)
      go_ret
      exact ⟨ret_int (by unfold Vx.sgn; simp), rfl⟩
    | true =>
      cases c with
      | false =>
        go_enter Tryd.func116, Tryd.ntmps116
        go_wp2_with (go_at_call 112; refine (HC.out _ _).mono ?_; rintro r wz ⟨rfl, rfl⟩)
        go_ret
        exact ⟨ret_int (by unfold Vx.sgn; simp), rfl⟩
      | true =>
        go_enter Tryd.func116, Tryd.ntmps116
        go_wp2_with (go_at_call 112; refine (HC.out _ _).mono ?_; rintro r wz ⟨rfl, rfl⟩)
        go_ret
        exact ⟨ret_int (by unfold Vx.sgn; simp), rfl⟩
set_option maxRecDepth 100000 in
theorem fmul_any (w : World) (a b : Int) (ha : Bd.I64 a) (hb : Bd.I64 b) : Calls Tryd.prog 111 #[.int .i64 a, .int .i64 b] w fun e w' => e = .returned (.int .i64 (Vx.mulV a b)) ∧ w' = w := by
  have m1 := Vx.mag_bd ha
  have m2 := Vx.mag_bd hb
  have hsz := fun (q : World) => fsize_any q a ha
  have hsz2 := fun (q : World) => fsize_any q b hb
  obtain ⟨X, hX⟩ : ∃ X : Nat, Vx.mag a = X := ⟨(Vx.mag a).toNat, by omega⟩
  obtain ⟨Y, hY⟩ : ∃ Y : Nat, Vx.mag b = Y := ⟨(Vx.mag b).toNat, by omega⟩
  rw [hX] at m1
  rw [hY] at m2
  simp only [hX] at hsz
  simp only [hY] at hsz2
  have hmul := fun (q : World) => mul64_any q X Y (by omega) (by omega)
  have hPb : X * Y ≤ 9223372036854775808 * 9223372036854775808 := Nat.mul_le_mul (by omega) (by omega)
  obtain ⟨P0, n0, hP0, hmg, hsg⟩ := Vx.sgn_mul a b
  have hP : P0 = ((X * Y : Nat) : Int) := by
    rw [← hmg, ← Vx.mag_mul, hX, hY, Int.natCast_mul]
  obtain ⟨P, hPP⟩ : ∃ P : Nat, X * Y = P := ⟨_, rfl⟩
  simp only [hPP] at hmul hP hPb
  obtain ⟨sg, hs⟩ : ∃ sg : Bool, (!(decide (a < 0)) == (decide (b < 0))) = sg := ⟨_, rfl⟩
  have hs' : ((decide (a < 0)) != (decide (b < 0))) = sg := hs
  rw [hs'] at hsg
  clear hs'
  obtain ⟨R, hR⟩ : ∃ R, Vx.mulV a b = R := ⟨_, rfl⟩
  rw [hR]
  have hRv : R = Vx.lim (a * b / 65536) := hR.symm
  have hsi := fun (q : World) (x : Int) (n c : Bool) (hx : 0 ≤ x ∧ x < 18446744073709551616) => signed_any q x n c hx
  have HSZ := Lib.hid hsz; have HSZ2 := Lib.hid hsz2; have HMUL := Lib.hid hmul; have HSG := Lib.hid hsg; have HP := Lib.hid hP; have HR := Lib.hid hRv; have HSI := Lib.hid hsi
  clear hsz hsz2 hmul hsg hP hRv hsi hR hX hY hPP m1 m2 hmg hP0
  by_cases hbig : 65536 ≤ P / 18446744073709551616
  · obtain ⟨hi, hhi⟩ : ∃ hi : Nat, P / 18446744073709551616 = hi := ⟨_, rfl⟩
    obtain ⟨lo, hlo⟩ : ∃ lo : Nat, P % 18446744073709551616 = lo := ⟨_, rfl⟩
    simp only [hhi, hlo] at HMUL
    rw [hhi] at hbig
    have hbig' : (65536 : Int) ≤ (hi : Int) := by omega
    have HHI := Lib.hid hhi
    have e1 : Go.bits .or .u64 18446462598732840960 281474976710655 = 18446744073709551615 := by decide
    have e2 : (Go.bits .and .u64 18446744073709551615 65535 != 0) = true := by decide
    clear hhi hlo
    go_enter Tryd.func111, Tryd.ntmps111
    go_wp2_with (first | (go_at_call 115; (with_reducible refine (HSZ.out _).mono ?_); rintro r wz ⟨rfl, rfl⟩) | (go_at_call 115; (with_reducible refine (HSZ2.out _).mono ?_); rintro r wz ⟨rfl, rfl⟩) | (go_at_call 114; refine (HMUL.out _).mono ?_; rintro r wz ⟨rfl, rfl⟩))
    refine (HSI.out _ _ _ _ (by omega)).mono ?_
    rintro r wz ⟨rfl, rfl⟩
    go_wp2_with fail
    go_ret
    refine ⟨ret_int ?_, rfl⟩
    rw [HR.out]
    have h1 := HSG.out; have h2 := HP.out; have h3 := HHI.out
    rcases h1 with ⟨h4, h5⟩ | ⟨h4, h5⟩ <;> rw [h4, h5] <;> unfold Vx.sgn Vx.lim <;> simp only [if_true, if_false, Bool.false_eq_true] <;> (repeat' split) <;> omega
  · obtain ⟨hi, hhi⟩ : ∃ hi : Int, ((P / 18446744073709551616 : Nat) : Int) = hi := ⟨_, rfl⟩
    obtain ⟨lo, hlo⟩ : ∃ lo : Int, ((P % 18446744073709551616 : Nat) : Int) = lo := ⟨_, rfl⟩
    have hm2 := HMUL.out
    simp only [hhi, hlo] at hm2
    have HM2 := Lib.hid hm2
    have hbig' : ¬ (65536 : Int) ≤ hi := by omega
    have hi0 : 0 ≤ hi := by omega
    have hlo0 : 0 ≤ lo ∧ lo < 18446744073709551616 := by omega
    have HPL := Lib.hid (And.intro hhi hlo)
    have eh : IntKind.u64.wrap (hi * 281474976710656) = hi * 281474976710656 := u64_in (by omega)
    have eo : Go.bits .or .u64 (hi * 281474976710656) (lo / 65536) = hi * 281474976710656 + lo / 65536 := Vx.or_add 48 (by decide) (by omega) (by omega) (by omega)
    have ea : Go.bits .and .u64 lo 65535 = lo % 65536 := Vx.and16 (by omega)
    have HLO := Lib.hid hlo0; have HPB := Lib.hid hPb
    clear hhi hlo hlo0 hPb hbig hm2 HMUL
    go_enter Tryd.func111, Tryd.ntmps111
    go_wp2_with (first | (go_at_call 115; (with_reducible refine (HSZ.out _).mono ?_); rintro r wz ⟨rfl, rfl⟩) | (go_at_call 115; (with_reducible refine (HSZ2.out _).mono ?_); rintro r wz ⟨rfl, rfl⟩) | (go_at_call 114; refine (HM2.out _).mono ?_; rintro r wz ⟨rfl, rfl⟩))
    refine (HSI.out _ _ _ _ (by have := HLO.out; omega)).mono ?_
    rintro r wz ⟨rfl, rfl⟩
    go_wp2_with fail
    go_ret
    refine ⟨ret_int ?_, rfl⟩
    rw [HR.out, Vx.bne0]
    have h1 := HSG.out; have h2 := HP.out; have h3 := HPL.out.1; have h6 := HPL.out.2; have h7 := HLO.out
    clear eh eo ea
    rcases h1 with ⟨h4, h5⟩ | ⟨h4, h5⟩ <;> rw [h4, h5] <;> unfold Vx.sgn Vx.lim <;> simp only [if_true, if_false, Bool.false_eq_true, decide_eq_true_eq] <;> (repeat' split) <;> omega
theorem fsinH_any (h : Int) (m : Nat) (hm : m < 128) (ha : Go.bits .and .i64 h 255 = (m : Int)) (w : World) (hG : Sines w) (r : Int) (hr : sinH m = r) :
    Calls Tryd.prog 60 #[.int .i64 h] w fun e w' => e = .returned (.int .i64 r) ∧ w' = w := by
  have hg : ¬ (128 : Int) ≤ (m : Int) := by omega
  by_cases h64 : 64 < m
  · have h64' : (64 : Int) < (m : Int) := by omega
    obtain ⟨j, hj⟩ : ∃ j : Nat, j = 128 - m := ⟨_, rfl⟩
    have hc := hG j (by omega)
    rw [sinH, if_pos h64, ← hj] at hr
    rw [hr] at hc
    have HJ : (128 : Int) - (m : Int) = (j : Int) := by omega
    have hj0 : (0 : Int) ≤ (j : Int) := by omega
    have hj1 : (j : Int) < 65 := by omega
    clear hr hG hj
    go_enter Tryd.func60, Tryd.ntmps60
    go_wp2_with fail
    go_ret
    exact ⟨rfl, rfl⟩
  · have h64' : ¬ (64 : Int) < (m : Int) := by omega
    have hc := hG m (by omega)
    rw [sinH, if_neg h64] at hr
    rw [hr] at hc
    have hj0 : (0 : Int) ≤ (m : Int) := by omega
    have hj1 : (m : Int) < 65 := by omega
    clear hr hG
    go_enter Tryd.func60, Tryd.ntmps60
    go_wp2_with fail
    go_ret
    exact ⟨rfl, rfl⟩
theorem fsin_any (w : World) (hG : Sines w) (a0 : Int) : Calls Tryd.prog 60 #[.int .i64 a0] w fun e w' => e = .returned (.int .i64 (sinT a0)) ∧ w' = w := by
  obtain ⟨m, hm⟩ : ∃ m : Nat, a0 % 256 = (m : Int) := ⟨(a0 % 256).toNat, by omega⟩
  have ha : Go.bits .and .i64 a0 255 = (m : Int) := by rw [and255, hm]
  have hs : sinT a0 = sinN m := by rw [sinT, hm]; rfl
  rw [hs]
  clear hs
  by_cases hg : 128 ≤ m
  · have hg' : (128 : Int) ≤ (m : Int) := by omega
    have hmm : m < 256 := by omega
    have hb := sinH_bd (m - 128)
    have HC := Lib.hid (fun wx (hx : Sines wx) => fsinH_any ((m : Int) - 128) (m - 128) (by omega) (by rw [and255]; omega) wx hx _ rfl)
    have hn : sinN m = - sinH (m - 128) := by rw [sinN, if_pos hg]
    rw [hn]
    generalize sinH (m - 128) = v at *
    have HG := Lib.hid hG
    clear hG hn hm
    go_enter Tryd.func60, Tryd.ntmps60
    go_wp2_with fail
    refine (HC.out _ HG.out).mono ?_
    rintro e w1 ⟨rfl, rfl⟩
    go_wp2_with fail
    go_ret
    exact ⟨rfl, rfl⟩
  · have hn : sinN m = sinH m := by rw [sinN, if_neg hg]
    exact fsinH_any a0 m (by omega) ha w hG _ hn.symm
theorem sinT_add (h k : Int) : sinT (h % 256 + k) = sinT (h + k) := by unfold sinT; congr 2; omega
theorem fcos_any (w : World) (hG : Sines w) (h : Int) : Calls Tryd.prog 59 #[.int .i64 h] w fun e w' => e = .returned (.int .i64 (sinT (h + 64))) ∧ w' = w := by
  have hc := fun q (hq : Sines q) => fsin_any q hq (h % 256 + 64)
  simp only [sinT_add] at hc
  have ha := and255 h
  have hw : IntKind.i64.wrap (h % 256 + 64) = h % 256 + 64 := wrap_in _ (by unfold Bd.I64; omega)
  generalize sinT (h + 64) = v at *
  have HC := Lib.hid hc; have HG := Lib.hid hG
  clear hc hG
  go_enter Tryd.func59, Tryd.ntmps59
  go_wp2_with (go_at_call 60; refine (HC.out _ HG.out).mono ?_; rintro r wz ⟨rfl, rfl⟩)
  go_ret
  exact ⟨rfl, rfl⟩
end Go.Proofs.YtinjlkceplhibaaDoor
