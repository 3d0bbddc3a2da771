/- FixExact: the walk. -/
import Derived.Test.YtnknbikkgohlmaaDoorFixF
import Derived.Test.YtnknbikkgohlmaaDoorSinL
namespace Go.Proofs.YtnknbikkgohlmaaDoor.FixM
open Go.RowKit Go.Proofs.YtnknbikkgohlmaaDoor Go.Proofs.YtnknbikkgohlmaaDoor.VFixB Go.Proofs.YtnknbikkgohlmaaDoorW.PrintWords Go.Proofs.YtnknbikkgohlmaaDoorW.PrintLast Go.Proofs.YtnknbikkgohlmaaDoorW.PrintMore

theorem i64_wf {a : Int} (h : (Lit.int .i64 a).wf = true) : I64 a := by
  simp [Lit.wf, IntKind.min, IntKind.max, IntKind.signed, IntKind.bits] at h
  exact h
def clampV (x lo hi : Int) : Int := if hi < (if x < lo then lo else x) then hi else (if x < lo then lo else x)
theorem clamp_eq (x lo hi : Int) : fix_Clamp.f x lo hi = some (clampV x lo hi) := by
  unfold fix_Clamp.f mn mx clampV
  congr 1
  repeat' split
  all_goals omega
theorem rclamp_any (x lo hi : Int) : joustref03_Clamp.f x lo hi = some (clampV x lo hi) := by
  unfold joustref03_Clamp.f clampV
  split <;> split <;> first | rfl | (split <;> first | rfl | omega) | omega
theorem roots (k : Nat) (hk : 42 ≤ k) {a : Int} (ha : I64 a) : ∃ R, fix_Root.f k a = some R ∧ joustref03_Root.f k a = some R := by
  obtain ⟨R, h1, _, h2⟩ := root_eq k hk ha
  obtain ⟨S, h3, h4⟩ := rroot_eq k hk ha
  refine ⟨R, h1, ?_⟩
  have : S = R := by
    rcases h2 with ⟨a1, rfl⟩ | ⟨a1, h2⟩ <;> rcases h4 with ⟨a2, rfl⟩ | ⟨a2, h4⟩
    · rfl
    · omega
    · omega
    · exact IsRoot.uniq h4 h2
  rw [h3, this]
end Go.Proofs.YtnknbikkgohlmaaDoor.FixM
namespace Go.Proofs.YtnknbikkgohlmaaDoor
open Go.RowKit Go.Proofs.YtnknbikkgohlmaaDoorW.PrintWords Go.Proofs.YtnknbikkgohlmaaDoor.VFixB
namespace FixX
theorem clamp_c (x y z : Int) (w : World) : Calls Tryd.prog 39 #[.int .i64 x, .int .i64 y, .int .i64 z] w fun e w' => e = .returned (.int .i64 (FixM.clampV x y z)) ∧ Below w.heap.size w w' :=
  fix_Clamp.calls x y z _ w (FixM.clamp_eq x y z)
theorem rclamp_c (x y z : Int) (w : World) : Calls Tryd.prog 40 #[.int .i64 x, .int .i64 y, .int .i64 z] w fun e w' => e = .returned (.int .i64 (FixM.clampV x y z)) ∧ Below w.heap.size w w' :=
  (joustref03_Clamp.calls x y z _ w (FixM.rclamp_any x y z)).mono fun _ _ ⟨h, d⟩ => ⟨h, Below.drawn (Below.refl _ _) d⟩
theorem root_c (x : Int) (hx : FixM.I64 x) : ∃ R, (∀ w : World, Calls Tryd.prog 31 #[.int .i64 x] w fun e w' => e = .returned (.int .i64 R) ∧ Below w.heap.size w w') ∧
    ∀ w : World, Calls Tryd.prog 32 #[.int .i64 x] w fun e w' => e = .returned (.int .i64 R) ∧ Below w.heap.size w w' := by
  obtain ⟨R, h1, h2⟩ := FixM.roots 42 (by omega) hx
  exact ⟨R, fun w => (fix_Root.calls 42 x R w h1).mono fun _ _ ⟨h, d⟩ => ⟨h, Below.drawn (Below.refl _ _) d⟩,
    fun w => (joustref03_Root.calls 42 x R w h2).mono fun _ _ ⟨h, d⟩ => ⟨h, Below.drawn (Below.refl _ _) d⟩⟩
theorem add_c (x y : Int) (hx : FixM.I64 x) (hy : FixM.I64 y) (w : World) : Calls Tryd.prog 33 #[.int .i64 x, .int .i64 y] w fun e w' => e = .returned (.int .i64 (FixM.lim (x + y))) ∧ Below w.heap.size w w' :=
  fix_Add.calls 9 x y _ w (FixM.add_eq 8 hx hy)
theorem radd_c (x y : Int) (hx : FixM.I64 x) (hy : FixM.I64 y) (w : World) : Calls Tryd.prog 34 #[.int .i64 x, .int .i64 y] w fun e w' => e = .returned (.int .i64 (FixM.lim (x + y))) ∧ Below w.heap.size w w' :=
  (joustref03_Add.calls 9 x y _ w (FixM.radd_eq 8 hx hy)).mono fun _ _ ⟨h, d⟩ => ⟨h, Below.drawn (Below.refl _ _) d⟩
theorem mul_c (x y : Int) (hx : FixM.I64 x) (hy : FixM.I64 y) (w : World) : Calls Tryd.prog 35 #[.int .i64 x, .int .i64 y] w fun e w' => e = .returned (.int .i64 (FixM.mulV x y)) ∧ Below w.heap.size w w' :=
  fix_Mul.calls x y _ w (FixM.mul_eq hx hy)
theorem rmul_c (x y : Int) (hx : FixM.I64 x) (hy : FixM.I64 y) (w : World) : Calls Tryd.prog 36 #[.int .i64 x, .int .i64 y] w fun e w' => e = .returned (.int .i64 (FixM.mulV x y)) ∧ Below w.heap.size w w' :=
  (joustref03_Mul.calls x y _ w (FixM.rmul_eq hx hy)).mono fun _ _ ⟨h, d⟩ => ⟨h, Below.drawn (Below.refl _ _) d⟩
theorem div_c (x y : Int) (hx : FixM.I64 x) (hy : FixM.I64 y) (w : World) : Calls Tryd.prog 37 #[.int .i64 x, .int .i64 y] w fun e w' => e = .returned (.int .i64 (FixM.divV x y)) ∧ Below w.heap.size w w' :=
  fix_Div.calls 16 x y _ w (FixM.div_eq 16 (by omega) hx hy)
theorem rdiv_c (x y : Int) (hx : FixM.I64 x) (hy : FixM.I64 y) (w : World) : Calls Tryd.prog 38 #[.int .i64 x, .int .i64 y] w fun e w' => e = .returned (.int .i64 (FixM.divV x y)) ∧ Below w.heap.size w w' :=
  (joustref03_Div.calls 300 x y _ w (FixM.rdiv_eq 300 (by omega) hx hy)).mono fun _ _ ⟨h, d⟩ => ⟨h, Below.drawn (Below.refl _ _) d⟩
end FixX
set_option maxHeartbeats 2000000 in
set_option maxRecDepth 100000 in
theorem fixExact_any (w : World) (hG : Sines w) (a b c : Int) (ha : FixM.I64 a) (hb : FixM.I64 b) (hc : FixM.I64 c) :
    Calls Tryd.prog 9 #[.int .i64 a, .int .i64 b, .int .i64 c] w fun e w' => e = .returned (.bool true) ∧ Below w.heap.size w w' := by
  have HG := Lib.hid hG
  clear hG
  go_enter Tryd.func9, Tryd.ntmps9
  go_wp2_with fail
  refine (fixed_any _ HG.out).mono ?_
  rintro e w1 ⟨rfl, hb1⟩
  go_wp2_with fail
  have hB0 := Blk.newA w1 #[.int .i64 a, .int .i64 b, .int .i64 c] 58
  have hM0 : Mod none_ w (w1.alloc (.cells #[.int .i64 a, .int .i64 b, .int .i64 c] 58)) := (Mod.of_below hb1).alloc _
  have hBw : w.heap.size ≤ w1.heap.size := hb1.size
  obtain ⟨B, hBe⟩ : ∃ B, w1.heap.size = B := ⟨_, rfl⟩
  rw [hBe] at hB0 hBw ⊢
  clear hb1
  obtain ⟨cs, hcs⟩ : ∃ cs : List Value, (#[.int .i64 a, .int .i64 b, .int .i64 c] : Array Value).toList = cs := ⟨_, rfl⟩
  rw [hcs] at hB0
  have hget : ∀ n : Nat, n < 3 → ∃ x, cs[n]? = some (.int .i64 x) ∧ FixM.I64 x := by
    subst hcs
    intro n hn
    have : n = 0 ∨ n = 1 ∨ n = 2 := by omega
    rcases this with rfl | rfl | rfl
    · exact ⟨a, rfl, ha⟩
    · exact ⟨b, rfl, hb⟩
    · exact ⟨c, rfl, hc⟩
  have HG3 := Lib.hid hget
  clear hget hcs ha hb hc
  go_loopw [8] (fun i wr => ∃ n : Nat, n ≤ 3 ∧ i = .int .i64 n ∧ Blk wr B cs 58 ∧ Mod none_ w wr) (fun i _ => 3 - (intOf i).toNat)
  case atStart => exact ⟨0, by omega, rfl, hB0, hM0⟩
  case round =>
    clear hB0 hM0 hBe
    obtain ⟨n, hn, rfl, hB, hM⟩ := hrel
    by_cases hlt : n < 3
    · have hni : (n : Int) < 3 := by omega
      obtain ⟨x, hx, hx64⟩ := HG3.out n hlt
      have q1 : wr.cell? ⟨B, n, none⟩ = some (.int .i64 x) := hB.cell hx
      have qd := q1
      obtain ⟨R, hr1, hr2⟩ := FixX.root_c x hx64
      have HR1 := Lib.hid hr1; have HR2 := Lib.hid hr2; have HB := Lib.hid hB; have HM := Lib.hid hM
      clear hr1 hr2 hB hM
      have hM0 := Mod.refl none_ wr
      go_upto_region 7 with fail
      go_region_held3 (fun w' => w'.cell? ⟨B, n, none⟩ = some (.int .i64 x) ∧ Mod none_ wr w')
        (first | ((refine ⟨Mod.cellS (S := none_) (w := wr) ?_ qd (fun h => h), ?_⟩ <;> (repeat (first | assumption | refine Mod.drew ?_))); done))
        (first | (go_at_call 31; refine (HR1.out _).mono ?_; rintro e w' ⟨rfl, hN⟩; have hN' : Mod none_ wr w' := Mod.then (by repeat (first | assumption | refine Mod.drew ?_)) (Mod.of_below hN); clear hN)
                    | (go_at_call 32; refine (HR2.out _).mono ?_; rintro e w' ⟨rfl, hN⟩; have hN' : Mod none_ wr w' := Mod.then (by repeat (first | assumption | refine Mod.drew ?_)) (Mod.of_below hN); clear hN))
      all_goals (have hRR : (R != R) = false := bne_self_eq_false _; go_wp2_with fail)
      obtain ⟨wo, rfl⟩ : ∃ wo : World, wo = wr := ⟨_, rfl⟩
      go_loopw [9] (fun i wz => ∃ m : Nat, m ≤ 3 ∧ i = .int .i64 m ∧ Mod none_ wo wz) (fun i _ => 3 - (intOf i).toNat)
      case atStart => exact ⟨0, by omega, rfl, by repeat (first | assumption | refine Mod.drew ?_)⟩
      case round =>
        clear hM0 q1 qd HR1 HR2 hRR
        obtain ⟨m, hm, rfl, hZ⟩ := hrel
        by_cases hmt : m < 3
        · have hmi : (m : Int) < 3 := by omega
          obtain ⟨y, hy, hy64⟩ := HG3.out m hmt
          have q1 : wr.cell? ⟨B, n, none⟩ = some (.int .i64 x) := hZ.cellS (HB.out.cell hx) (fun h => h)
          have q2 : wr.cell? ⟨B, m, none⟩ = some (.int .i64 y) := hZ.cellS (HB.out.cell hy) (fun h => h)
          have HZ := Lib.hid hZ
          clear hZ
          obtain ⟨V0, hV0⟩ : ∃ V, FixM.lim (x + y) = V := ⟨_, rfl⟩
          have A0 := FixX.add_c x y hx64 hy64; have B0 := FixX.radd_c x y hx64 hy64
          rw [hV0] at A0 B0
          have HA0 := Lib.hid A0; have HB0 := Lib.hid B0
          clear A0 B0 hV0
          obtain ⟨V1, hV1⟩ : ∃ V, FixM.mulV x y = V := ⟨_, rfl⟩
          have A1 := FixX.mul_c x y hx64 hy64; have B1 := FixX.rmul_c x y hx64 hy64
          rw [hV1] at A1 B1
          have HA1 := Lib.hid A1; have HB1 := Lib.hid B1
          clear A1 B1 hV1
          obtain ⟨V2, hV2⟩ : ∃ V, FixM.divV x y = V := ⟨_, rfl⟩
          have A2 := FixX.div_c x y hx64 hy64; have B2 := FixX.rdiv_c x y hx64 hy64
          rw [hV2] at A2 B2
          have HA2 := Lib.hid A2; have HB2 := Lib.hid B2
          clear A2 B2 hV2
          go_wp2_with fail
          refine (HA0.out _).mono ?_
          rintro e wA0 ⟨rfl, hN⟩
          have hZA0 := Mod.then (HZ.out) (Mod.of_below hN)
          clear hN
          go_wp2_with fail
          refine (HB0.out _).mono ?_
          rintro e wB0 ⟨rfl, hN⟩
          have hZB0 := Mod.then (hZA0) (Mod.of_below hN)
          clear hN
          go_wp2_with fail
          refine (HA1.out _).mono ?_
          rintro e wA1 ⟨rfl, hN⟩
          have hZA1 := Mod.then (hZB0) (Mod.of_below hN)
          clear hN
          go_wp2_with fail
          refine (HB1.out _).mono ?_
          rintro e wB1 ⟨rfl, hN⟩
          have hZB1 := Mod.then (hZA1) (Mod.of_below hN)
          clear hN
          go_wp2_with fail
          refine (HA2.out _).mono ?_
          rintro e wA2 ⟨rfl, hN⟩
          have hZA2 := Mod.then (hZB1) (Mod.of_below hN)
          clear hN
          go_wp2_with fail
          refine (HB2.out _).mono ?_
          rintro e wB2 ⟨rfl, hN⟩
          have hZB2 := Mod.then (hZA2) (Mod.of_below hN)
          clear hN
          go_wp2_with fail
          have hZZ := hZB2
          clear hZA0 hZB0 hZA1 hZB1 hZA2 hZB2 HA0 HB0 HA1 HB1 HA2 HB2 HZ q1 q2
          obtain ⟨wp, rfl⟩ : ∃ wp : World, wp = wB2 := ⟨_, rfl⟩
          go_loopw [12] (fun i wz => ∃ l : Nat, l ≤ 3 ∧ i = .int .i64 l ∧ Mod none_ wo wz) (fun i _ => 3 - (intOf i).toNat)
          case atStart => exact ⟨0, by omega, rfl, hZZ⟩
          case round =>
            clear hZZ
            obtain ⟨l, hl, rfl, hZ⟩ := hrel
            by_cases hlt3 : l < 3
            · have hli : (l : Int) < 3 := by omega
              obtain ⟨z, hz, hz64⟩ := HG3.out l hlt3
              have q3 : wr.cell? ⟨B, l, none⟩ = some (.int .i64 z) := hZ.cellS (HB.out.cell hz) (fun h => h)
              have qe := q3
              obtain ⟨V, hV⟩ : ∃ V, FixM.clampV x y z = V := ⟨_, rfl⟩
              have hk1 := FixX.clamp_c x y z; have hk2 := FixX.rclamp_c x y z
              rw [hV] at hk1 hk2
              have HK1 := Lib.hid hk1; have HK2 := Lib.hid hk2; have HZ := Lib.hid hZ
              have hVV : (V != V) = false := bne_self_eq_false _
              have hM3 := Mod.refl none_ wr
              clear hk1 hk2 hZ hV
              go_upto_region 19 with fail
              go_region_held3 (fun w' => w'.cell? ⟨B, l, none⟩ = some (.int .i64 z) ∧ Mod none_ wr w')
                (first | ((refine ⟨Mod.cellS (S := none_) (w := wr) ?_ qe (fun h => h), ?_⟩ <;> (repeat (first | assumption | refine Mod.drew ?_))); done))
                (first | (go_at_call 39; refine (HK1.out _).mono ?_; rintro e w' ⟨rfl, hN⟩; have hN' : Mod none_ wr w' := Mod.then (by repeat (first | assumption | refine Mod.drew ?_)) (Mod.of_below hN); clear hN)
                       | (go_at_call 40; refine (HK2.out _).mono ?_; rintro e w' ⟨rfl, hN⟩; have hN' : Mod none_ wr w' := Mod.then (by repeat (first | assumption | refine Mod.drew ?_)) (Mod.of_below hN); clear hN))
              go_wp2_with fail
              go_roundw
              case rel => exact ⟨l + 1, by omega, by go_num, HZ.out.then (by repeat (first | assumption | refine Mod.drew ?_))⟩
              case measure => simp [intOf]; omega
            · have hli : ¬ (l : Int) < 3 := by omega
              go_wp2_with fail
              go_roundw
              case rel => exact ⟨m + 1, by omega, by go_num, hZ⟩
              case measure => simp [intOf]; omega
        · have hmi : ¬ (m : Int) < 3 := by omega
          go_wp2_with fail
          go_roundw
          case rel => exact ⟨n + 1, by omega, by go_num, hZ.blk HB.out (fun h => h), HM.out.then hZ⟩
          case measure => simp [intOf]; omega
    · have hni : ¬ (n : Int) < 3 := by omega
      go_wp2_with fail
      go_ret
      exact ⟨rfl, hM.below⟩
theorem fixExact_m (W : World) (hG : Sines W) (a b c : Int) (ha : FixM.I64 a) (hb : FixM.I64 b) (hc : FixM.I64 c) :
    Calls Tryd.prog 9 #[.int .i64 a, .int .i64 b, .int .i64 c] W fun e W' => e = .returned (.bool true) ∧ Mod none_ W W' :=
  (fixExact_any W hG a b c ha hb hc).mono fun _ _ ⟨he, hd⟩ => ⟨he, Mod.of_below hd⟩
end Go.Proofs.YtnknbikkgohlmaaDoor
