/- BoardSpawns: the law's walk. -/
import Derived.Test.YtlndgnlkfhlekaaBdW
namespace Bd
/-- a number within m, by the rest -/
def kept (x m : Int) : Int := Int.tmod x (m + 1)
theorem kept_bd (x : Int) {m : Int} (h : 0 ≤ m) : -m ≤ kept x m ∧ kept x m ≤ m := by
  have h1 := Int.tmod_lt_of_pos x (show 0 < m + 1 by omega)
  have h2 := Int.lt_tmod_of_pos x (show 0 < m + 1 by omega)
  unfold kept
  omega
theorem count_snoc (E : List Int) {i : Nat} {e : Int} (h : E[i]? = some e) : (E.take (i + 1)).count 83 = (E.take i).count 83 + (if e = 83 then 1 else 0) := by
  rw [List.take_add_one, h, List.count_append]
  simp [List.count_cons]
/-- a spawn's box -/
theorem mid_free {W H : Nat} {E : List Int} (hf : Fine W H E) {j : Nat} (hj : E[j]? = some 83) {half : Int} (hh : -262144 ≤ half ∧ half ≤ 262144) : ¬ Blocked W H E (mid W j).1 (mid W j).2 half := by
  have hjl := (List.getElem?_eq_some_iff.1 hj).1
  have hW : 0 < W := by have := hf.w3; omega
  have hm := Nat.mod_lt j hW
  have hd : j / W < H := by rw [Nat.div_lt_iff_lt_mul hW, Nat.mul_comm, ← hf.len]; exact hjl
  have hc := cellOf_at hf.len hj
  have hw := hf.w64; have hhh := hf.h64; have hw3 := hf.w3; have hh3 := hf.h3
  have e1 : (mid W j).1 = ((j % W : Nat) : Int) * 524288 + 262144 := rfl
  have e2 : (mid W j).2 = ((j / W : Nat) : Int) * 524288 + 262144 := rfl
  rw [e1, e2]
  generalize j % W = x at *
  generalize j / W = y at *
  by_cases h1 : half < 1
  · rw [blocked_point (by unfold I64; omega) (by unfold I64; omega) h1 (by unfold I64; omega) ⟨hw3, hw⟩ ⟨hh3, hhh⟩]
    unfold atOf
    have n1 : num ((x : Int) * 524288 + 262144) = x := by unfold num; omega
    have n2 : num ((y : Int) * 524288 + 262144) = y := by unfold num; omega
    rw [n1, n2, hc]
    decide
  · rw [blocked_near (by omega) (by omega) (by omega) ⟨hw3, hw⟩ ⟨hh3, hhh⟩]
    rintro ⟨a, b, ha, hb, h⟩
    have n1 : num ((x : Int) * 524288 + 262144 - half) = x := by unfold num; omega
    have n2 : num ((x : Int) * 524288 + 262144 + half - 1) = x := by unfold num; omega
    have n3 : num ((y : Int) * 524288 + 262144 - half) = y := by unfold num; omega
    have n4 : num ((y : Int) * 524288 + 262144 + half - 1) = y := by unfold num; omega
    rw [n1, n2] at ha
    rw [n3, n4] at hb
    obtain rfl : a = x := by omega
    obtain rfl : b = y := by omega
    rw [hc] at h
    exact absurd h (by decide)
theorem mid_wide {W H : Nat} {E : List Int} (hf : Fine W H E) {j : Nat} (hj : E[j]? = some 83) : Blocked W H E (mid W j).1 (mid W j).2 33554432 := by
  have hjl := (List.getElem?_eq_some_iff.1 hj).1
  have hW : 0 < W := by have := hf.w3; omega
  have hm := Nat.mod_lt j hW
  have hd : j / W < H := by rw [Nat.div_lt_iff_lt_mul hW, Nat.mul_comm, ← hf.len]; exact hjl
  have hw := hf.w64; have hhh := hf.h64; have hw3 := hf.w3; have hh3 := hf.h3
  have e1 : (mid W j).1 = ((j % W : Nat) : Int) * 524288 + 262144 := rfl
  have e2 : (mid W j).2 = ((j / W : Nat) : Int) * 524288 + 262144 := rfl
  rw [e1, e2]
  generalize j % W = x at *
  generalize j / W = y at *
  rw [blocked_near (by omega) (by omega) (by omega) ⟨hw3, hw⟩ ⟨hh3, hhh⟩]
  refine ⟨num ((x : Int) * 524288 + 262144 - 33554432), num ((y : Int) * 524288 + 262144 - 33554432), ⟨Int.le_refl _, num_mono (by omega)⟩, ⟨Int.le_refl _, num_mono (by omega)⟩, cellOf_out (Or.inl ?_)⟩
  unfold num; omega
theorem mid_at {W H : Nat} {E : List Int} (hf : Fine W H E) {j : Nat} (hj : E[j]? = some 83) : atOf W H E (mid W j).1 (mid W j).2 = 83 := by
  have hc := cellOf_at hf.len hj
  unfold atOf
  have n1 : num (mid W j).1 = ((j % W : Nat) : Int) := by unfold num mid; dsimp only; omega
  have n2 : num (mid W j).2 = ((j / W : Nat) : Int) := by unfold num mid; dsimp only; omega
  rw [n1, n2, hc]
theorem mid_bd {W H : Nat} {E : List Int} (hf : Fine W H E) {j : Nat} (hj : E[j]? = some 83) : (0 ≤ (mid W j).1 ∧ (mid W j).1 ≤ 34000000 ∧ Int.tmod (mid W j).1 524288 = 262144) ∧ (0 ≤ (mid W j).2 ∧ (mid W j).2 ≤ 34000000 ∧ Int.tmod (mid W j).2 524288 = 262144) := by
  have hjl := (List.getElem?_eq_some_iff.1 hj).1
  have hW : 0 < W := by have := hf.w3; omega
  have hm := Nat.mod_lt j hW
  have hd : j / W < H := by rw [Nat.div_lt_iff_lt_mul hW, Nat.mul_comm, ← hf.len]; exact hjl
  have hw := hf.w64; have hhh := hf.h64
  unfold mid
  dsimp only
  generalize j % W = x at *
  generalize j / W = y at *
  rw [Int.tmod_eq_emod_of_nonneg (by omega), Int.tmod_eq_emod_of_nonneg (by omega)]
  omega
theorem spawns_get {W : Nat} {E : List Int} {i : Nat} (hi : i < (spawns W E).length) : ∃ j, E[j]? = some 83 ∧ (spawns W E)[i]? = some (mid W j) := by
  obtain ⟨p, hp⟩ : ∃ p, (spawns W E)[i]? = some p := ⟨_, List.getElem?_eq_getElem hi⟩
  obtain ⟨j, h1, h2⟩ := spawnsFrom_mem W E 0 p (List.mem_of_getElem? hp)
  rw [Nat.zero_add] at h2
  exact ⟨j, h1, by rw [hp, h2]⟩
theorem spawns_ahead {W H : Nat} {E : List Int} (hf : Fine W H E) {i : Nat} {p q : Int × Int} (h1 : (spawns W E)[i]? = some p) (h2 : (spawns W E)[i + 1]? = some q) : ahead p q := by
  have hs := spawnsFrom_sorted W (by have := hf.w3; omega) E 0
  have hs : (spawns W E).Pairwise ahead := hs
  obtain ⟨l1, e1⟩ := List.getElem?_eq_some_iff.1 h1
  obtain ⟨l2, e2⟩ := List.getElem?_eq_some_iff.1 h2
  have := List.pairwise_iff_getElem.1 hs i (i + 1) l1 l2 (by omega)
  rw [e1, e2] at this
  exact this
end Bd
namespace Go.Proofs.Ytlndgnlkfhlekaa
open Go.RowKit

theorem kept_any (w : World) (x m : Int) (hm : 0 ≤ m ∧ m < 9223372036854775807) : Calls Try.prog 26 #[.int .i64 x, .int .i64 m] w fun e w' => e = .returned (.int .i64 (Bd.kept x m)) ∧ w = w' := by
  have hk := Bd.kept_bd x hm.1
  have e1 : Int.tmod x (m + 1) = Bd.kept x m := rfl
  generalize Bd.kept x m = k at *
  have e2 : IntKind.i64.wrap (m + 1) = m + 1 := by rw [IntKind.wrap_i64]; omega
  have e3 : IntKind.i64.wrap k = k := by rw [IntKind.wrap_i64]; omega
  have e4 : ¬ m + 1 = 0 := by omega
  go_enter Try.func26, Try.ntmps26
  go_wp2
  go_ret
  exact ⟨rfl, rfl⟩
theorem vcells_at {l : List (Int × Int)} {i : Nat} {p : Int × Int} (h : l[i]? = some p) (rest : List Value) : (vcells l ++ rest)[i * 2]? = some (.int .i64 p.1) ∧ (vcells l ++ rest)[i * 2 + 1]? = some (.int .i64 p.2) := by
  induction l generalizing i with
  | nil => simp at h
  | cons q r ih =>
    have e : vcells (q :: r) = .int .i64 q.1 :: .int .i64 q.2 :: vcells r := by simp [vcells]
    cases i with
    | zero =>
      obtain rfl : q = p := by simpa using h
      rw [e]
      exact ⟨rfl, rfl⟩
    | succ i =>
      have := ih (i := i) (by simpa using h)
      rw [e, show (i + 1) * 2 = i * 2 + 1 + 1 by omega]
      simpa using this
set_option maxHeartbeats 4000000 in
set_option maxRecDepth 100000 in
theorem boardSpawns_any (w : World) (s : ByteArray) (hs : s.size ≤ 9223372036854775807) (half : Int) :
    Calls Try.prog 7 #[.string s, .int .i64 half] w fun e w' => e = .returned (.bool true) ∧ Mod none_ w w' := by
  obtain ⟨RR, hRR⟩ : ∃ RR, Bd.read (Bd.runes s) = RR := ⟨_, rfl⟩
  go_enter Try.func7, Try.ntmps7
  go_wp2_with fail
  refine (alive14_any w).mono ?_
  rintro r w1 ⟨rfl, hM1⟩
  have hp := parse_any w1 s hs
  rw [hRR] at hp
  have HP := Lib.hid hp; have HM1 := Lib.hid hM1
  clear hp hM1 hRR
  go_wp2_with fail
  refine HP.out.mono ?_
  rintro r w2 ⟨hpp, hM2⟩
  have HM2 := Lib.hid (HM1.out.then hM2)
  clear hM2 HP
  cases RR with
  | bad =>
    obtain rfl := hpp
    go_wp2
    go_ret
    exact ⟨rfl, HM2.out⟩
  | place =>
    obtain rfl := hpp
    go_wp2
    go_ret
    exact ⟨rfl, HM2.out⟩
  | board W H E =>
    obtain ⟨b, rfl, hb, hB⟩ := hpp
    have hF := hB.fine
    have HB := Lib.hid hB; have HF := Lib.hid hF
    have hw64 := hF.w64; have hh64 := hF.h64
    clear hB hF
    go_wp2_with fail
    refine (size_any w2 HB.out).mono ?_
    rintro r w3 ⟨rfl, hM3⟩
    have HB3 := Lib.hid (HB.out.none hM3); have HM3 := Lib.hid (HM2.out.then hM3)
    clear hM3
    go_upto_block 0 with fail
    go_cut [9] (fun u wx => u = .int .i64 ((E.count 83 : Nat) : Int) ∧ Mod none_ w3 wx)
    case first =>
      go_wp2
      go_loopw [9, 10] (fun u t wr => ∃ y : Nat, t = .int .i64 y ∧ y ≤ H ∧ u = .int .i64 (((E.take (y * W)).count 83 : Nat) : Int) ∧ Mod none_ w3 wr) (fun _ t _ => H - (intOf t).toNat)
      case atStart => exact ⟨0, rfl, by omega, by simp, Mod.refl _ _⟩
      case round =>
        obtain ⟨y, rfl, hy, rfl, hM⟩ := hrel
        have HM := Lib.hid hM
        clear hM
        have hcy : (E.take (y * W)).count 83 ≤ 4096 := Nat.le_trans List.count_le_length (by rw [List.length_take, HF.out.len]; have : W * H ≤ 64 * 64 := Nat.mul_le_mul hw64 hh64; omega)
        by_cases hyH : y < H
        · have hyi : (y : Int) < (H : Int) := by omega
          have hc0 : E.take (y * W) = E.take (y * W + 0) := rfl
          rw [hc0]
          go_wp2
          go_loopw [9, 11] (fun u t wz => ∃ x : Nat, t = .int .i64 x ∧ x ≤ W ∧ u = .int .i64 (((E.take (y * W + x)).count 83 : Nat) : Int) ∧ Mod none_ w3 wz) (fun _ t _ => W - (intOf t).toNat)
          case atStart => exact ⟨0, rfl, by omega, rfl, HM.out⟩
          case round =>
            obtain ⟨x, rfl, hx, rfl, hMz⟩ := hrel
            have HMz := Lib.hid hMz
            clear hMz
            by_cases hxW : x < W
            · have hxi : (x : Int) < (W : Int) := by omega
              have hxy : y * W + x < W * H := by
                have h4 : (y + 1) * W ≤ H * W := Nat.mul_le_mul_right W (by omega)
                rw [Nat.succ_mul, Nat.mul_comm H W] at h4
                omega
              obtain ⟨e, he⟩ : ∃ e, E[y * W + x]? = some e := ⟨_, List.getElem?_eq_getElem (by rw [HF.out.len]; exact hxy)⟩
              have hce : Bd.cellOf W H E x y = e := by
                unfold Bd.cellOf
                rw [if_neg (by omega)]
                have : ((y : Int) * (W : Int) + (x : Int)).toNat = y * W + x := by
                  have : (y : Int) * (W : Int) = ((y * W : Nat) : Int) := by rw [Int.natCast_mul]
                  rw [this]; omega
                rw [this, he]; rfl
              have hcl := cellat_any _ (HB3.out.none HMz.out) (x : Int) (y : Int)
              rw [hce] at hcl
              have hsn := Bd.count_snoc E he
              have hcx : (E.take (y * W + x)).count 83 ≤ 4096 := Nat.le_trans List.count_le_length (by rw [List.length_take, HF.out.len]; have : W * H ≤ 64 * 64 := Nat.mul_le_mul hw64 hh64; omega)
              have hnx : y * W + x + 1 = y * W + (x + 1) := by omega
              rw [hnx] at hsn
              obtain ⟨c, hc⟩ : ∃ c, (E.take (y * W + x)).count 83 = c := ⟨_, rfl⟩
              rw [hc] at hsn hcx ⊢
              have HCL := Lib.hid hcl; have HSN := Lib.hid hsn
              clear hcl hsn hc hce he hnx hxy
              go_wp2_with fail
              refine HCL.out.mono ?_
              rintro r w5 ⟨rfl, hM5⟩
              have HM5 := Lib.hid (HMz.out.then hM5)
              clear hM5
              by_cases h83 : e = 83
              · have e83 : (e == 83) = true := by simp [h83]
                have hsn2 := HSN.out
                rw [if_pos h83] at hsn2
                have HSN2 := Lib.hid hsn2
                clear h83 hsn2
                go_wp2
                go_roundw
                case rel => exact ⟨x + 1, by go_num, by omega, by rw [HSN2.out]; go_num, HM5.out⟩
                case measure => simp [intOf]; omega
              · have e83 : (e == 83) = false := by simp [h83]
                have hsn2 : (E.take (y * W + (x + 1))).count 83 = c := by have := HSN.out; rw [if_neg h83] at this; omega
                have HSN2 := Lib.hid hsn2
                clear h83 hsn2
                go_wp2
                go_roundw
                case rel => exact ⟨x + 1, by go_num, by omega, by rw [HSN2.out], HM5.out⟩
                case measure => simp [intOf]; omega
            · have hxi : ¬ (x : Int) < (W : Int) := by omega
              obtain rfl : x = W := by omega
              have hnx : y * x + x = (y + 1) * x := by rw [Nat.succ_mul]
              rw [hnx]
              go_wp2
              go_roundw
              case rel => exact ⟨y + 1, by go_num, by omega, rfl, HMz.out⟩
              case measure => simp [intOf]; omega
        · have hyi : ¬ (y : Int) < (H : Int) := by omega
          obtain rfl : y = H := by omega
          rw [List.take_of_length_le (by rw [HF.out.len, Nat.mul_comm]; exact Nat.le_refl _)]
          go_wp2
          go_meet
          exact ⟨rfl, HM.out⟩
    case rest =>
      obtain ⟨rfl, hM4⟩ := hcut
      have hB4 := HB3.out.none hM4
      obtain ⟨g, hbm⟩ := hB4.toM
      have hsp := spawns_any wc hbm
      have HB4 := Lib.hid hB4; have HM4 := Lib.hid (HM3.out.then hM4); have HSP := Lib.hid hsp
      clear hM4 hbm hsp hB4
      have hcn : (Bd.spawns W E).length = E.count 83 := Bd.spawnsFrom_length W E 0
      rw [← hcn]
      have HCN := Lib.hid hcn
      go_wp2_with fail
      refine HSP.out.mono ?_
      rintro r w6 ⟨v, rfl, hv, hM6⟩
      obtain ⟨n, hn⟩ : ∃ n, (Bd.spawns W E).length = n := ⟨_, rfl⟩
      have hn0 : 0 < n := by
        rw [← hn]
        exact List.length_pos_iff.2 HF.out.some
      have hn4 : n ≤ 4096 := by rw [← hn, HCN.out]; exact Nat.le_trans List.count_le_length (by rw [HF.out.len]; exact Nat.mul_le_mul hw64 hh64)
      unfold OwnV at hv
      rw [hn] at hv
      obtain ⟨gv, cv, restv, rfl, hgv, hBv, hcv⟩ := Row.blk hv hn0
      rw [hn]
      have HB6 := Lib.hid (HB4.out.none hM6); have HM6 := Lib.hid (HM4.out.then hM6); have HBv := Lib.hid hBv; have HN := Lib.hid hn
      clear hM6 hv hBv hn HSP HCN hcv
      have hkb := Bd.kept_bd half (show (0 : Int) ≤ 262144 by decide)
      have hka := kept_any w6 half 262144 (by decide)
      obtain ⟨k, hk⟩ : ∃ k, Bd.kept half 262144 = k := ⟨_, rfl⟩
      rw [hk] at hka hkb
      have HKA := Lib.hid hka
      clear hka hk
      go_wp2_with fail
      refine HKA.out.mono ?_
      rintro r wk ⟨rfl, rfl⟩
      go_wp2_with fail
      go_loopw [13] (fun u wr => ∃ i : Nat, u = .int .i64 i ∧ i ≤ n ∧ Mod none_ w6 wr) (fun u _ => n - (intOf u).toNat)
      case atStart => exact ⟨0, rfl, by omega, Mod.refl _ _⟩
      case round =>
        obtain ⟨i, rfl, hi, hM⟩ := hrel
        have HM := Lib.hid hM
        clear hM
        by_cases hin : i < n
        · have hini : (i : Int) < (n : Int) := by omega
          obtain ⟨j, hj, hgj⟩ := Bd.spawns_get (show i < (Bd.spawns W E).length by rw [HN.out]; exact hin)
          have hbd := Bd.mid_bd HF.out hj
          have hat := Bd.mid_at HF.out hj
          have hfr : ∀ q, -262144 ≤ q ∧ q ≤ 262144 → ¬ Bd.Blocked W H E (Bd.mid W j).1 (Bd.mid W j).2 q := fun q hq => Bd.mid_free HF.out hj hq
          have hwd := Bd.mid_wide HF.out hj
          have hBr := HM.out.blk HBv.out (fun h => h)
          obtain ⟨hx0, hy0⟩ := vcells_at hgj restv
          have p0 := hBr.cell hx0
          have p1 := hBr.cell hy0
          -- the one ahead
          have hprev : ∀ i', i = i' + 1 → ∃ X' Y' : Int, Mod none_ w6 wr ∧ wr.cell? ⟨gv, i' * 2, none⟩ = some (.int .i64 X') ∧ wr.cell? ⟨gv, i' * 2 + 1, none⟩ = some (.int .i64 Y') ∧ (Y' < (Bd.mid W j).2 ∨ Y' = (Bd.mid W j).2 ∧ X' < (Bd.mid W j).1) := fun i' e => by
            obtain ⟨j', hj', hg'⟩ := Bd.spawns_get (show i' < (Bd.spawns W E).length by rw [HN.out]; omega)
            obtain ⟨h1, h2⟩ := vcells_at hg' restv
            subst e
            exact ⟨_, _, HM.out, hBr.cell h1, hBr.cell h2, Bd.spawns_ahead HF.out hg' hgj⟩
          obtain ⟨X, hX⟩ : ∃ X, (Bd.mid W j).1 = X := ⟨_, rfl⟩
          obtain ⟨Y, hY⟩ : ∃ Y, (Bd.mid W j).2 = Y := ⟨_, rfl⟩
          rw [hX, hY] at hbd hat hwd
          simp only [hX, hY] at hfr hprev
          rw [hX] at p0
          rw [hY] at p1
          obtain ⟨⟨x1, x2, x3⟩, y1, y2, y3⟩ := hbd
          have ca : ∀ q, Mod none_ wr q → Calls Try.prog 19 #[.pointer (some ⟨b, 0, none⟩), .agg #[.int .i64 X, .int .i64 Y]] q fun r w' => r = .returned (.int .i32 83) ∧ Mod none_ wr w' := fun q hM => (at_any q (HB6.out.none (HM.out.then hM)) X Y (by unfold Bd.I64; omega) (by unfold Bd.I64; omega)).mono (by rintro r w' ⟨rfl, hN⟩; exact ⟨by rw [hat], hM.then hN⟩)
          have cb : ∀ q h, (-262144 ≤ h ∧ h ≤ 262144) → Mod none_ wr q → Calls Try.prog 23 #[.pointer (some ⟨b, 0, none⟩), .agg #[.int .i64 X, .int .i64 Y], .int .i64 h] q fun r w' => r = .returned (.bool false) ∧ Mod none_ wr w' := fun q h hh hM => (blocked_any q (HB6.out.none (HM.out.then hM)) X Y h (by unfold Bd.I64; omega) (by unfold Bd.I64; omega) (by unfold Bd.I64; omega)).mono (by
            rintro r w' ⟨⟨t, rfl, ht⟩, hN⟩
            cases t with
            | false => exact ⟨rfl, hM.then hN⟩
            | true => exact absurd (ht.1 rfl) (hfr h hh))
          have cw : ∀ q, Mod none_ wr q → Calls Try.prog 23 #[.pointer (some ⟨b, 0, none⟩), .agg #[.int .i64 X, .int .i64 Y], .int .i64 33554432] q fun r w' => r = .returned (.bool true) ∧ Mod none_ wr w' := fun q hM => (blocked_any q (HB6.out.none (HM.out.then hM)) X Y 33554432 (by unfold Bd.I64; omega) (by unfold Bd.I64; omega) (by unfold Bd.I64; decide)).mono (by
            rintro r w' ⟨⟨t, rfl, ht⟩, hN⟩
            rw [ht.2 hwd]
            exact ⟨rfl, hM.then hN⟩)
          have CA := Lib.hid ca; have CB := Lib.hid cb; have CW := Lib.hid cw; have HPV := Lib.hid hprev
          have p0' := p0; have p1' := p1
          have e1 : (Int.tmod X 524288 != 262144) = false := by rw [x3]; rfl
          have e2 : (Int.tmod Y 524288 != 262144) = false := by rw [y3]; rfl
          clear ca cb cw hprev hfr hwd hat hX hY hgj hj hx0 hy0 hBr x1 x2 y1 y2 e1 e2
          go_upto_region 23 with fail
          go_wp2_with fail
          refine (CA.out _ (Mod.refl _ _)).mono ?_
          rintro r wa ⟨rfl, hN1⟩
          have p2 := hN1.cellS p0' (fun h => h); have p3 := hN1.cellS p1' (fun h => h)
          have HN1 := Lib.hid hN1
          clear hN1 p0 p1
          go_wp2_with fail
          refine (CB.out _ k hkb HN1.out).mono ?_
          rintro r wb ⟨rfl, hN2⟩
          have p4 := hN2.cellS p0' (fun h => h); have p5 := hN2.cellS p1' (fun h => h)
          have HN2 := Lib.hid hN2
          clear hN2 p2 p3
          go_wp2_with fail
          refine (CB.out _ 262144 (by decide) HN2.out).mono ?_
          rintro r wc' ⟨rfl, hN3⟩
          have p6 := hN3.cellS p0' (fun h => h); have p7 := hN3.cellS p1' (fun h => h)
          have HN3 := Lib.hid hN3
          clear hN3 p4 p5
          go_wp2_with fail
          refine (CW.out _ HN3.out).mono ?_
          rintro r wd ⟨rfl, hN4⟩
          have p8 := hN4.cellS p0' (fun h => h); have p9 := hN4.cellS p1' (fun h => h)
          have HN4 := Lib.hid hN4
          clear hN4 p6 p7 CA CB CW
          go_upto_region 25 with fail
          by_cases hi0 : i = 0
          · subst hi0
            go_quiet (fail)
            go_wp2
            go_roundw
            case rel => exact ⟨1, by go_num, by omega, (HM.out.then HN4.out).drewN _⟩
            case measure => simp [intOf]; omega
          · obtain ⟨i', hii⟩ : ∃ i', i = i' + 1 := ⟨i - 1, by omega⟩
            obtain ⟨X', Y', _, c0, c1, ho⟩ := HPV.out i' hii
            have r0 := HN4.out.cellS c0 (fun h => h); have r1 := HN4.out.cellS c1 (fun h => h)
            have g0 : 0 < i := by omega
            have s1 : IntKind.i64.wrap ((i : Int) - 1) = (i' : Int) := by rw [IntKind.wrap_i64]; omega
            have l0 : (0 : Int) ≤ (i' : Int) := by omega
            have l1 : (i' : Int) < (n : Int) := by omega
            have l2 : i' < n := by omega
            clear c0 c1 HPV p0' p1' hii hi0
            rcases ho with ho | ⟨ho, ho2⟩
            · have d1 : decide (Y < Y') = false := by simp; omega
              have d2 : (Y == Y') = false := by simp; omega
              clear ho
              go_quiet (fail)
              go_wp2
              go_roundw
              case rel => exact ⟨i + 1, by go_num, by omega, (HM.out.then HN4.out).drewN _⟩
              case measure => simp [intOf]; omega
            · subst ho
              have d1 : decide (Y' < Y') = false := by simp
              have d3 : decide (X ≤ X') = false := by simp; omega
              clear ho2
              go_quiet (fail)
              go_wp2
              go_roundw
              case rel => exact ⟨i + 1, by go_num, by omega, (HM.out.then HN4.out).drewN _⟩
              case measure => simp [intOf]; omega
        · have hini : ¬ (i : Int) < (n : Int) := by omega
          go_wp2
          go_ret
          exact ⟨rfl, HM6.out.then HM.out⟩
end Go.Proofs.Ytlndgnlkfhlekaa
