/- The document's products and sines: the walks. -/
import Derived.Test.YtinjlkceplhibaaDoorVxE
namespace Go.Proofs.YtinjlkceplhibaaDoor
open Go.RowKit

set_option maxHeartbeats 1000000 in
theorem product_any (w : World) (x y : Int) (hx : 0 ≤ x ∧ x < 18446744073709551616) (hy : 0 ≤ y ∧ y < 18446744073709551616) :
    Calls Tryd.prog 110 #[.int .u64 x, .int .u64 y] w fun e w' => e = .returned (.tuple #[.int .u64 (x * y / 18446744073709551616), .int .u64 (x * y % 18446744073709551616)]) ∧ w' = w := by
  obtain ⟨x1, e1⟩ : ∃ a, Int.tdiv x 4294967296 = a := ⟨_, rfl⟩
  obtain ⟨x0, e2⟩ : ∃ a, Int.tmod x 4294967296 = a := ⟨_, rfl⟩
  obtain ⟨y1, e3⟩ : ∃ a, Int.tdiv y 4294967296 = a := ⟨_, rfl⟩
  obtain ⟨y0, e4⟩ : ∃ a, Int.tmod y 4294967296 = a := ⟨_, rfl⟩
  have b1 : x = x1 * 4294967296 + x0 ∧ (0 ≤ x1 ∧ x1 ≤ 4294967295) ∧ (0 ≤ x0 ∧ x0 ≤ 4294967295) := by rw [← e1, ← e2, Vx.tdiv_pos hx.1, Vx.tmod_pos hx.1]; omega
  have b2 : y = y1 * 4294967296 + y0 ∧ (0 ≤ y1 ∧ y1 ≤ 4294967295) ∧ (0 ≤ y0 ∧ y0 ≤ 4294967295) := by rw [← e3, ← e4, Vx.tdiv_pos hy.1, Vx.tmod_pos hy.1]; omega
  have p11 := Vx.mul_bd b1.2.1 b2.2.1
  have p10 := Vx.mul_bd b1.2.1 b2.2.2
  have p01 := Vx.mul_bd b1.2.2 b2.2.1
  have p00 := Vx.mul_bd b1.2.2 b2.2.2
  have hp : x * y = (x1 * y1) * 18446744073709551616 + (x1 * y0 + x0 * y1) * 4294967296 + x0 * y0 := by rw [b1.1, b2.1]; grind
  rw [hp]
  clear hp
  obtain ⟨L, hL⟩ : ∃ a, x0 * y0 = a := ⟨_, rfl⟩
  obtain ⟨M1, hM1⟩ : ∃ a, x1 * y0 = a := ⟨_, rfl⟩
  obtain ⟨N1, hN1⟩ : ∃ a, x0 * y1 = a := ⟨_, rfl⟩
  obtain ⟨H1, hH1⟩ : ∃ a, x1 * y1 = a := ⟨_, rfl⟩
  rw [hL] at p00
  rw [hM1] at p10
  rw [hN1] at p01
  rw [hH1] at p11
  have e5 : IntKind.u64.wrap (x0 * y0) = L := by rw [hL]; exact u64_in (by omega)
  have e6 : IntKind.u64.wrap (x1 * y0) = M1 := by rw [hM1]; exact u64_in (by omega)
  have e10 : IntKind.u64.wrap (x0 * y1) = N1 := by rw [hN1]; exact u64_in (by omega)
  have e14 : IntKind.u64.wrap (x1 * y1) = H1 := by rw [hH1]; exact u64_in (by omega)
  rw [hL, hM1, hN1, hH1]
  have w1 : IntKind.u64.wrap x1 = x1 := u64_in (by omega)
  have w2 : IntKind.u64.wrap y1 = y1 := u64_in (by omega)
  clear hL hM1 hN1 hH1 b1 b2 hx hy
  obtain ⟨L1, e7⟩ : ∃ a, Int.tdiv L 4294967296 = a := ⟨_, rfl⟩
  obtain ⟨L0, e8⟩ : ∃ a, Int.tmod L 4294967296 = a := ⟨_, rfl⟩
  have b3 : L1 = L / 4294967296 ∧ L0 = L % 4294967296 := by rw [← e7, ← e8, Vx.tdiv_pos p00.1, Vx.tmod_pos p00.1]; exact ⟨rfl, rfl⟩
  have w3 : IntKind.u64.wrap L1 = L1 := u64_in (by omega)
  obtain ⟨M, hM⟩ : ∃ a, M1 + L1 = a := ⟨_, rfl⟩
  have e9 : IntKind.u64.wrap (M1 + L1) = M := by rw [hM]; exact u64_in (by omega)
  obtain ⟨Mh, e12⟩ : ∃ a, Int.tdiv M 4294967296 = a := ⟨_, rfl⟩
  obtain ⟨M0, e11⟩ : ∃ a, Int.tmod M 4294967296 = a := ⟨_, rfl⟩
  have b4 : Mh = M / 4294967296 ∧ M0 = M % 4294967296 := by rw [← e12, ← e11, Vx.tdiv_pos (a := M) (by omega), Vx.tmod_pos (a := M) (by omega)]; exact ⟨rfl, rfl⟩
  have w4 : IntKind.u64.wrap Mh = Mh := u64_in (by omega)
  obtain ⟨N, hN⟩ : ∃ a, N1 + M0 = a := ⟨_, rfl⟩
  have e13 : IntKind.u64.wrap (N1 + M0) = N := by rw [hN]; exact u64_in (by omega)
  obtain ⟨N2, e16⟩ : ∃ a, Int.tdiv N 4294967296 = a := ⟨_, rfl⟩
  have b5 : N2 = N / 4294967296 := by rw [← e16, Vx.tdiv_pos (a := N) (by omega)]
  have w5 : IntKind.u64.wrap N2 = N2 := u64_in (by omega)
  obtain ⟨H2, hH2⟩ : ∃ a, H1 + Mh = a := ⟨_, rfl⟩
  have e15 : IntKind.u64.wrap (H1 + Mh) = H2 := by rw [hH2]; exact u64_in (by omega)
  obtain ⟨HH, hHH⟩ : ∃ a, H2 + N2 = a := ⟨_, rfl⟩
  have e17 : IntKind.u64.wrap (H2 + N2) = HH := by rw [hHH]; exact u64_in (by omega)
  obtain ⟨Nw, e18⟩ : ∃ a, IntKind.u64.wrap (N * 4294967296) = a := ⟨_, rfl⟩
  obtain ⟨LO, e19⟩ : ∃ a, IntKind.u64.wrap (Nw + L0) = a := ⟨_, rfl⟩
  have r1 : (H1 * 18446744073709551616 + (M1 + N1) * 4294967296 + L) / 18446744073709551616 = HH := by omega
  have r2 : (H1 * 18446744073709551616 + (M1 + N1) * 4294967296 + L) % 18446744073709551616 = LO := by
    rw [← e19, ← e18, IntKind.wrap_u64, IntKind.wrap_u64]
    omega
  rw [r1, r2]
  clear r1 r2 hHH hH2 hN hM b3 b4 b5 p00 p01 p10 p11
  go_enter Tryd.func110, Tryd.ntmps110
  go_wp2
  go_ret2
  exact ⟨rfl, rfl⟩
set_option maxHeartbeats 1000000 in
theorem r3mul_any (w : World) (a b : Int) (ha : Bd.I64 a) (hb : Bd.I64 b) : Calls Tryd.prog 93 #[.int .i64 a, .int .i64 b] w fun e w' => e = .returned (.int .i64 (Vx.mulV a b)) ∧ w' = w := by
  have m1 := Vx.mag_bd ha
  have m2 := Vx.mag_bd hb
  have hsz := fun (q : World) => r3size_any q a ha
  have hsz2 := fun (q : World) => r3size_any q b hb
  have hmul := fun (q : World) => product_any q (Vx.mag a) (Vx.mag b) (by omega) (by omega)
  have m3 := Vx.mul_bd m1 m2
  rw [Vx.mag_mul] at m3
  simp only [Vx.mag_mul] at hmul
  obtain ⟨P, _, hP0, hmg, hsg⟩ := Vx.sgn_mul a b
  rw [hmg] at m3
  simp only [hmg] at hmul
  generalize Vx.mag a = X at *
  generalize Vx.mag b = Y at *
  obtain ⟨sg, hs⟩ : ∃ sg : Bool, (!(decide (a < 0)) == (decide (b < 0))) = sg := ⟨_, rfl⟩
  have hs' : ((decide (a < 0)) != (decide (b < 0))) = sg := hs
  rw [hs'] at hsg
  clear hs'
  obtain ⟨hi, hhi⟩ : ∃ h, P / 18446744073709551616 = h := ⟨_, rfl⟩
  obtain ⟨lo, hlo⟩ : ∃ h, P % 18446744073709551616 = h := ⟨_, rfl⟩
  simp only [hhi, hlo] at hmul
  obtain ⟨q, e1⟩ : ∃ q, Int.tdiv lo 65536 = q := ⟨_, rfl⟩
  obtain ⟨m, e2⟩ : ∃ q, Int.tmod lo 65536 = q := ⟨_, rfl⟩
  have hql : q = lo / 65536 ∧ m = lo % 65536 := by rw [← e1, ← e2, Vx.tdiv_pos (a := lo) (by omega), Vx.tmod_pos (a := lo) (by omega)]; exact ⟨rfl, rfl⟩
  have w1 : IntKind.u64.wrap q = q := u64_in (by omega)
  obtain ⟨R, hR⟩ : ∃ R, Vx.mulV a b = R := ⟨_, rfl⟩
  rw [hR]
  have hRv : R = Vx.lim (a * b / 65536) := hR.symm
  have hbo := fun (q : World) (n : Bool) (x : Int) (hx : 0 ≤ x ∧ x < 18446744073709551616) => r3bounded_any q n x hx
  have HSZ := Lib.hid hsz; have HSZ2 := Lib.hid hsz2; have HMUL := Lib.hid hmul; have HSG := Lib.hid hsg; have HR := Lib.hid hRv; have HBO := Lib.hid hbo; have HPL := Lib.hid (And.intro hhi hlo); have HQL := Lib.hid hql; have HM3 := Lib.hid m3
  by_cases hbig : 65536 ≤ hi
  · have hfin : ∀ y, (y = if sg then Vx.lim (-1099511627777) else Vx.lim 1099511627777) → y = R := by
      intro y hy
      rw [hy, hRv]
      rcases hsg with ⟨h4, h5⟩ | ⟨h4, h5⟩ <;> rw [h4, h5] <;> unfold Vx.lim <;> simp only [if_true, if_false, Bool.false_eq_true] <;> (repeat' split) <;> omega
    have hb2 := fun q : World => (r3bounded_any q sg 1099511627777 (by decide)).mono (fun e w' h => And.intro (show e = .returned (.int .i64 R) by rw [h.1]; exact ret_int (hfin _ rfl)) h.2)
    have HB2 := Lib.hid hb2
    clear hsz hsz2 hmul hsg hR hRv hbo hmg hP0 hql m1 m2 m3 hhi hlo hb2 hfin
    go_enter Tryd.func93, Tryd.ntmps93
    go_wp2_with (first | (go_at_call 94; (with_reducible refine (HSZ.out _).mono ?_); rintro r wz ⟨rfl, rfl⟩) | (go_at_call 94; (with_reducible refine (HSZ2.out _).mono ?_); rintro r wz ⟨rfl, rfl⟩) | (go_at_call 110; refine (HMUL.out _).mono ?_; rintro r wz ⟨rfl, rfl⟩) | (go_at_call 95; refine (HB2.out _).mono ?_; rintro r wz ⟨rfl, rfl⟩))
    go_ret
    exact ⟨rfl, rfl⟩
  · obtain ⟨hw, e3⟩ : ∃ q, IntKind.u64.wrap (hi * 281474976710656) = q := ⟨_, rfl⟩
    have h3 : hw = hi * 281474976710656 := by rw [← e3]; exact u64_in (by omega)
    obtain ⟨n, e4⟩ : ∃ n, IntKind.u64.wrap (hw + q) = n := ⟨_, rfl⟩
    have h4 : n = hi * 281474976710656 + lo / 65536 := by rw [← e4, h3, hql.1]; exact u64_in (by omega)
    clear hsz hsz2 hmul hR hbo
    -- what is bounded at the end: min(n, Max), one more where a part was cut off below 0
    have key : ∀ z, z = (if sg = true ∧ m ≠ 0 then (if 1099511627776 < n then 1099511627776 else n) + 1 else (if 1099511627776 < n then 1099511627776 else n)) → (if sg then Vx.lim (-z) else Vx.lim z) = R := by
      intro z hz
      rw [hz, hRv]
      have h7 : m = lo % 65536 := hql.2
      rcases hsg with ⟨g4, g5⟩ | ⟨g4, g5⟩ <;> rw [g4, g5] <;> unfold Vx.lim <;> simp only [if_true, if_false, Bool.false_eq_true, true_and, false_and, ne_eq] <;> (repeat' split) <;> omega
    have KEY := Lib.hid key
    have hn0 : 0 ≤ n ∧ n < 18446744073709551616 := by omega
    have HN0 := Lib.hid hn0
    have hm0 : 0 ≤ m ∧ m < 65536 := by omega
    clear hsg hRv hmg hP0 hql m1 m2 m3 hhi hlo key h3 h4 hn0
    have hb3 : ∀ (q : World) z, z = (if sg = true ∧ m ≠ 0 then (if 1099511627776 < n then 1099511627776 else n) + 1 else (if 1099511627776 < n then 1099511627776 else n)) → Calls Tryd.prog 95 #[.bool sg, .int .u64 z] q fun e w' => e = .returned (.int .i64 R) ∧ w' = q := fun q z hz =>
      (r3bounded_any q sg z (by have := HN0.out; rw [hz]; (repeat' split) <;> omega)).mono (fun e w' h => And.intro (by rw [h.1]; exact ret_int (KEY.out z hz)) h.2)
    have HB3 := Lib.hid hb3
    clear hb3 HBO
    have e5 : 1099511627776 + 1 = (1099511627777 : Int) := rfl
    by_cases c1 : 1099511627776 < n
    · cases sg with
      | false =>
        go_enter Tryd.func93, Tryd.ntmps93
        go_wp2_with (first | (go_at_call 94; (with_reducible refine (HSZ.out _).mono ?_); rintro r wz ⟨rfl, rfl⟩) | (go_at_call 94; (with_reducible refine (HSZ2.out _).mono ?_); rintro r wz ⟨rfl, rfl⟩) | (go_at_call 110; refine (HMUL.out _).mono ?_; rintro r wz ⟨rfl, rfl⟩) | (go_at_call 95; refine (HB3.out _ _ (by first | (have := C2.out; simp [*]; done) | (simp [*]; done) | (simp; omega) | (have := C2.out; simp [*]; omega))).mono ?_; rintro r wz ⟨rfl, rfl⟩))
        go_ret
        exact ⟨rfl, rfl⟩
      | true =>
        by_cases c2 : m = 0
        · have c3 : (m != 0) = false := by simp [c2]
          have C2 := Lib.hid c2
          clear c2
          go_enter Tryd.func93, Tryd.ntmps93
          go_wp2_with (first | (go_at_call 94; (with_reducible refine (HSZ.out _).mono ?_); rintro r wz ⟨rfl, rfl⟩) | (go_at_call 94; (with_reducible refine (HSZ2.out _).mono ?_); rintro r wz ⟨rfl, rfl⟩) | (go_at_call 110; refine (HMUL.out _).mono ?_; rintro r wz ⟨rfl, rfl⟩) | (go_at_call 95; refine (HB3.out _ _ (by first | (have := C2.out; simp [*]; done) | (simp [*]; done) | (simp; omega) | (have := C2.out; simp [*]; omega))).mono ?_; rintro r wz ⟨rfl, rfl⟩))
          go_ret
          exact ⟨rfl, rfl⟩
        · have c3 : (m != 0) = true := by simp [c2]
          have C2 := Lib.hid c2
          clear c2
          go_enter Tryd.func93, Tryd.ntmps93
          go_wp2_with (first | (go_at_call 94; (with_reducible refine (HSZ.out _).mono ?_); rintro r wz ⟨rfl, rfl⟩) | (go_at_call 94; (with_reducible refine (HSZ2.out _).mono ?_); rintro r wz ⟨rfl, rfl⟩) | (go_at_call 110; refine (HMUL.out _).mono ?_; rintro r wz ⟨rfl, rfl⟩) | (go_at_call 95; refine (HB3.out _ _ (by first | (have := C2.out; simp [*]; done) | (simp [*]; done) | (simp; omega) | (have := C2.out; simp [*]; omega))).mono ?_; rintro r wz ⟨rfl, rfl⟩))
          go_ret
          exact ⟨rfl, rfl⟩
    · cases sg with
      | false =>
        go_enter Tryd.func93, Tryd.ntmps93
        go_wp2_with (first | (go_at_call 94; (with_reducible refine (HSZ.out _).mono ?_); rintro r wz ⟨rfl, rfl⟩) | (go_at_call 94; (with_reducible refine (HSZ2.out _).mono ?_); rintro r wz ⟨rfl, rfl⟩) | (go_at_call 110; refine (HMUL.out _).mono ?_; rintro r wz ⟨rfl, rfl⟩) | (go_at_call 95; refine (HB3.out _ _ (by first | (have := C2.out; simp [*]; done) | (simp [*]; done) | (simp; omega) | (have := C2.out; simp [*]; omega))).mono ?_; rintro r wz ⟨rfl, rfl⟩))
        go_ret
        exact ⟨rfl, rfl⟩
      | true =>
        by_cases c2 : m = 0
        · have c3 : (m != 0) = false := by simp [c2]
          have C2 := Lib.hid c2
          clear c2
          go_enter Tryd.func93, Tryd.ntmps93
          go_wp2_with (first | (go_at_call 94; (with_reducible refine (HSZ.out _).mono ?_); rintro r wz ⟨rfl, rfl⟩) | (go_at_call 94; (with_reducible refine (HSZ2.out _).mono ?_); rintro r wz ⟨rfl, rfl⟩) | (go_at_call 110; refine (HMUL.out _).mono ?_; rintro r wz ⟨rfl, rfl⟩) | (go_at_call 95; refine (HB3.out _ _ (by first | (have := C2.out; simp [*]; done) | (simp [*]; done) | (simp; omega) | (have := C2.out; simp [*]; omega))).mono ?_; rintro r wz ⟨rfl, rfl⟩))
          go_ret
          exact ⟨rfl, rfl⟩
        · have c3 : (m != 0) = true := by simp [c2]
          have e6 : IntKind.u64.wrap (n + 1) = n + 1 := u64_in (by have := HN0.out; omega)
          have C2 := Lib.hid c2
          clear c2
          go_enter Tryd.func93, Tryd.ntmps93
          go_wp2_with (first | (go_at_call 94; (with_reducible refine (HSZ.out _).mono ?_); rintro r wz ⟨rfl, rfl⟩) | (go_at_call 94; (with_reducible refine (HSZ2.out _).mono ?_); rintro r wz ⟨rfl, rfl⟩) | (go_at_call 110; refine (HMUL.out _).mono ?_; rintro r wz ⟨rfl, rfl⟩) | (go_at_call 95; refine (HB3.out _ _ (by first | (have := C2.out; simp [*]; done) | (simp [*]; done) | (simp; omega) | (have := C2.out; simp [*]; omega))).mono ?_; rintro r wz ⟨rfl, rfl⟩))
          go_ret
          exact ⟨rfl, rfl⟩
end Go.Proofs.YtinjlkceplhibaaDoor
