/- PackNumbers: the law's walk. -/
import Derived.Test.YtcmbklofbemclaaPkBl
import Derived.Deep.DeepCutAuto
import Derived.Deep.CutBlock
namespace Go.Proofs.Ytcmbklofbemclaa
open Go.RowKit

theorem power_any (w : World) (n : Nat) (hn : n ≤ 7) : Calls Try.prog 22 #[.int .i64 (n : Int)] w fun e w' => e = .returned (.int .u64 ((256 ^ n : Nat) : Int)) ∧ w' = w := by
  go_enter Try.func22, Try.ntmps22
  go_wp2
  go_loopw [3, 4] (fun p i wr => ∃ j : Nat, j ≤ n ∧ i = .int .i64 j ∧ p = .int .u64 ((256 ^ j : Nat) : Int) ∧ wr = w) (fun _ i _ => n - (intOf i).toNat)
  case atStart => exact ⟨0, by omega, rfl, rfl, rfl⟩
  case round =>
    obtain ⟨j, hj, rfl, rfl, rfl⟩ := hrel
    by_cases hlt : j < n
    · have hji : (j : Int) < (n : Int) := by omega
      have hp : 256 ^ j ≤ 256 ^ 6 := Nat.pow_le_pow_right (by decide) (by omega)
      have he : ((256 ^ (j + 1) : Nat) : Int) = ((256 ^ j : Nat) : Int) * 256 := by rw [Nat.pow_succ]; omega
      have HE := Lib.hid he
      clear he
      generalize 256 ^ j = P at *
      have hP : P ≤ 281474976710656 := hp
      clear hp
      go_wp2
      go_roundw
      case rel => exact ⟨j + 1, by omega, by go_num, by rw [HE.out], trivial⟩
      case measure => simp [intOf]; omega
    · have hjn : j = n := by omega
      subst hjn
      have hji : ¬ (j : Int) < (j : Int) := by omega
      go_wp2
      go_ret
      exact ⟨rfl, rfl⟩

theorem power_q (w : World) (n : Nat) (hn : n ≤ 7) (r : Nat) : Calls Try.prog 22 #[.int .i64 (n : Int)] (w.drewN r) fun e w' => e = .returned (.int .u64 ((256 ^ n : Nat) : Int)) ∧ ∃ m, w' = w.drewN m :=
  (power_any (w.drewN r) n hn).mono fun _ _ ⟨he, hw⟩ => ⟨he, r, hw⟩
/-- where a fitting number's byte stands -/
theorem digs_at (u n : Nat) (S : ByteArray) (hn : num S = Pk.digs (u : Int) n) (k m : Nat) (hk : k < n) (hm : m = n - 1 - k) (hjs : k < S.size) : ((S[k]'hjs).toNat : Int) = ((u / 256 ^ m % 256 : Nat) : Int) := by
  have h1 : (num S)[k]? = some ((S[k]'hjs).toNat : Int) := by
    rw [num, nums, List.getElem?_map, Array.getElem?_toList, Array.getElem?_eq_getElem hjs]; rfl
  rw [hn] at h1
  have h2 : (Pk.digs (u : Int) n)[k]? = some ((u : Int) / 2 ^ (8 * (n - 1 - k)) % 256) := by
    unfold Pk.digs; rw [List.getElem?_map, List.getElem?_range (by omega)]; rfl
  rw [h2, Rd.pow256, ← hm] at h1
  have h3 := Option.some.inj h1
  rw [← h3]; omega
theorem fits_one (u n : Nat) (h1 : 1 ≤ n) (h8 : n ≤ 8) : Pk.fits (u : Int) (n : Int) = decide (n = 8 ∨ u < 256 ^ n) := by
  unfold Pk.fits
  rw [Int.toNat_natCast, Rd.pow256]
  have hp : 0 < 256 ^ n := Nat.pow_pos (by decide)
  generalize 256 ^ n = P at *
  have he : ((u : Int) / (P : Int) = 0) ↔ u < P := by
    rw [← Int.natCast_ediv]
    constructor
    · intro h; have h2 : u / P = 0 := by omega
      exact (Nat.div_eq_zero_iff.mp h2).resolve_left (by omega)
    · intro h; rw [Nat.div_eq_of_lt h]; rfl
  apply decide_eq_decide.mpr
  constructor
  · rintro ⟨-, -, h⟩
    by_cases h8' : n = 8
    · exact Or.inl h8'
    · exact Or.inr (he.mp (h (by omega)))
  · intro h
    exact ⟨by omega, by omega, fun hl => he.mpr (by omega)⟩
/-- what Done answers behind one number -/
theorem done_put {w w3 : World} {G : Nat} {o : Value} {β : Bool} {l : List Int} (hl : l.length ≤ 8) (h : WB w w3 G o (Pk.put [] 0 β l).1 (Pk.put [] 0 β l).2) :
    ∃ (S : ByteArray) (E : Int), ((β = true ∧ E = 0 ∧ S = strOf l) ∨ (β = false ∧ E = 51 ∧ S = ByteArray.empty)) ∧ Calls Try.prog 20 #[.pointer (some ⟨G, 0, none⟩)] w3 fun e w' => e = .returned (.tuple #[.string S, .int .i64 E]) ∧ Mod none_ w3 w' := by
  cases β with
  | true =>
    rw [put_ok, List.nil_append] at h
    have hd := w_done w3 w.heap.size G _ o _ 0 h.prog (show l.length ≤ _ by omega)
    rw [if_pos rfl] at hd
    exact ⟨strOf l, 0, Or.inl ⟨rfl, rfl, rfl⟩, hd⟩
  | false =>
    rw [put_no] at h
    exact ⟨ByteArray.empty, 51, Or.inr ⟨rfl, rfl, rfl⟩, w_doneR w3 w.heap.size G _ o _ 51 h.prog (by simp) _ rfl⟩
theorem low_law (y n : Nat) (hn1 : 1 ≤ n) (hn8 : n ≤ 8) (L : Nat) (hL : L = if n < 8 then y % 256 ^ n else y) : Pk.fits (L : Int) (n : Int) = true ∧ Pk.digs (L : Int) n = Pk.digs (y : Int) n := by
  have hp : 256 ^ n = 2 ^ (8 * n) := by rw [Nat.pow_mul]
  by_cases h : n < 8
  · rw [if_pos h, hp] at hL
    subst hL
    exact ⟨Pk.fits_mod y n hn1 hn8, Pk.digs_mod y n⟩
  · rw [if_neg h] at hL
    subst hL
    have : n = 8 := by omega
    subst this
    exact ⟨by rw [Pk.fits]; exact decide_eq_true ⟨by decide, by decide, fun h => absurd h (by decide)⟩, rfl⟩
set_option maxHeartbeats 2000000 in
set_option maxRecDepth 100000 in
theorem packNumbers_any (w : World) (u : Nat) (hu : u < 18446744073709551616) (x : Int) (z : Int) :
    Calls Try.prog 4 #[.int .u64 (u : Int), .int .i64 x, .int .i64 z] w fun e w' => e = .returned (.bool true) ∧ Mod none_ w w' := by
  go_enter Try.func4, Try.ntmps4
  go_wp2_with fail
  refine (alive5_any w).mono ?_
  rintro e w1 ⟨rfl, hM1⟩
  go_wp2_with fail
  refine (new_writer w1 w.heap.size hM1.size).mono ?_
  rintro e w2 ⟨rfl, hM2, h2, hs2⟩
  have hb : WB w w2 w1.heap.size (.slice none 0 0) [] 0 := ⟨h2, hM1.then hM2⟩
  have HB := Lib.hid hb
  generalize w1.heap.size = G at *
  clear hb h2 hM1 hM2 hs2
  obtain ⟨n, hn1, hn8, hne⟩ : ∃ n : Nat, 1 ≤ n ∧ n ≤ 8 ∧ wrap64 (1 + wrap64 ((IntKind.u64.wrap z).tmod 8)) = (n : Int) := by
    have h1 : IntKind.u64.wrap z = z % 18446744073709551616 := IntKind.wrap_u64 z
    have h2 : 0 ≤ z % 18446744073709551616 := Int.emod_nonneg _ (by decide)
    rw [h1, Int.tmod_eq_emod_of_nonneg h2]
    exact ⟨(1 + z % 18446744073709551616 % 8).toNat, by omega, by omega, by unfold wrap64; omega⟩
  go_wp2_with fail
  clear hne
  refine (w_number _ w.heap.size G _ _ [] 0 u n HB.out.prog (by decide) HB.out.size).mono ?_
  rintro e w3 ⟨rfl, hT⟩
  obtain ⟨o3, hB3⟩ := HB.out.step hT
  have HB3 := Lib.hid hB3
  clear hB3 hT HB
  rw [fits_one u n hn1 hn8] at HB3
  obtain ⟨β, hβ⟩ : ∃ β, decide (n = 8 ∨ u < 256 ^ n) = β := ⟨_, rfl⟩
  rw [hβ] at HB3
  obtain ⟨S, E, hS, hd⟩ : ∃ (S : ByteArray) (E : Int), ((β = true ∧ E = 0 ∧ S.size = n ∧ num S = Pk.digs (u : Int) n) ∨ (β = false ∧ E = 51 ∧ S = ByteArray.empty)) ∧ Calls Try.prog 20 #[.pointer (some ⟨G, 0, none⟩)] w3 fun e w' => e = .returned (.tuple #[.string S, .int .i64 E]) ∧ Mod none_ w3 w' := by
    cases β with
    | true =>
      rw [put_ok, List.nil_append, Int.toNat_natCast] at HB3
      have hd := w_done w3 w.heap.size G _ o3 _ 0 HB3.out.prog (by rw [Pk.length_digs]; omega)
      rw [if_pos rfl] at hd
      exact ⟨strOf (Pk.digs (u : Int) n), 0, Or.inl ⟨rfl, rfl, by rw [size_strOf, Pk.length_digs], num_strOf _ (Pk.bytes_digs (u : Int) n)⟩, hd⟩
    | false =>
      rw [put_no] at HB3
      exact ⟨ByteArray.empty, 51, Or.inr ⟨rfl, rfl, rfl⟩, w_doneR w3 w.heap.size G _ o3 _ 51 HB3.out.prog (by simp) _ rfl⟩
  have HD := Lib.hid hd
  have HS := Lib.hid hS
  have HM3 := Lib.hid HB3.out.mod
  have HBe := Lib.hid hβ
  clear hd hS HB3 hβ
  go_wp2_with fail
  refine HD.out.mono ?_
  rintro e w4 ⟨rfl, hM4⟩
  have HM := Lib.hid (HM3.out.trans hM4 (fun _ _ h => h))
  clear hM4 HM3 HD
  go_upto_region 7 with fail
  go_cut [2, 10] (fun s2 s wx => s2 = .int .i64 (n : Int) ∧ s = .bool β ∧ Mod none_ w wx)
  case first =>
    by_cases h8 : n = 8
    · have c8 : ((n : Int) == 8) = true := by rw [h8]; rfl
      have hb : β = true := by rw [← HBe.out, decide_eq_true (Or.inl h8)]
      subst hb
      go_wp2_with fail
      go_meet
      exact ⟨by rw [h8]; rfl, rfl, HM.out⟩
    · have c8 : ((n : Int) == 8) = false := by rw [beq_eq_false_iff_ne]; omega
      go_wp2_with fail
      refine (power_any w4 n (by omega)).mono ?_
      rintro e w5 ⟨rfl, hw5⟩
      have hm5 : Mod none_ w w5 := by rw [hw5]; exact HM.out
      clear hw5
      obtain ⟨P, hP⟩ : ∃ P, 256 ^ n = P := ⟨_, rfl⟩
      have HBe' := HBe.out
      rw [hP] at HBe' ⊢
      clear hP HS HBe
      have cb : decide (u < P) = β := by rw [← HBe']; exact decide_eq_decide.mpr (by omega)
      go_wp2_with fail
      go_meet
      exact ⟨rfl, rfl, hm5⟩
  case rest =>
    obtain ⟨rfl, rfl, hMc⟩ := hcut
    have HMc := Lib.hid hMc
    clear hMc HM
    rcases HS.out with ⟨rfl, rfl, hsz, hnum⟩ | ⟨rfl, rfl, rfl⟩
    · clear HS
      have HN := Lib.hid hnum
      clear hnum
      have c1 : ((S.size : Int) != (n : Int)) = false := by rw [hsz]; simp
      go_upto_block 0 with fail
      go_cut [11] (fun _ wx => Mod none_ w wx)
      case first =>
        go_wp2_with fail
        go_loopw [11] (fun i wr => ∃ k : Nat, k ≤ n ∧ i = .int .i64 k ∧ Mod none_ w wr) (fun i _ => n - (intOf i).toNat)
        case atStart => exact ⟨0, by omega, rfl, HMc.out⟩
        case round =>
          clear HMc HBe
          obtain ⟨k, hk, rfl, hM⟩ := hrel
          have HM := Lib.hid hM
          clear hM
          by_cases hlt : k < n
          · have hji : (k : Int) < (n : Int) := by omega
            have hjs : k < S.size := by omega
            obtain ⟨m, hm⟩ : ∃ m : Nat, m = n - 1 - k := ⟨_, rfl⟩
            have hP := power_q wr m (by omega)
            have e1 : IntKind.i64.wrap ((n : Int) - 1) = (n : Int) - 1 := by rw [IntKind.wrap_i64]; omega
            have e2 : IntKind.i64.wrap ((n : Int) - 1 - (k : Int)) = (m : Int) := by rw [IntKind.wrap_i64]; omega
            have hb := digs_at u n S HN.out k m hlt hm hjs
            have hpos : 0 < 256 ^ m := Nat.pow_pos (by decide)
            generalize 256 ^ m = P at *
            have hPz : ¬ (P : Int) = 0 := by omega
            have hq : (IntKind.u64.wrap ((S[k]'hjs).toNat : Int) != (IntKind.u64.wrap ((u : Int) / (P : Int))).tmod 256) = false := by
              have hlt2 : u / P < 18446744073709551616 := Nat.lt_of_le_of_lt (Nat.div_le_self _ _) hu
              rw [IntKind.wrap_u64, IntKind.wrap_u64, hb, ← Int.natCast_ediv, bne_eq_false_iff_eq]
              generalize u / P = q at *
              rw [Int.tmod_eq_emod_of_nonneg (by omega)]
              omega
            have hki : ¬ ((k : Int) < 0) := by omega
            have HQ := Lib.hid hq
            clear hm HN hq hb
            go_upto_region 13 with fail
            clear hu c1
            go_big_quiet ((go_at_call 22; exact hP _))
            have hq2 := HQ.out
            go_wp2_with fail
            go_roundw
            case rel => exact ⟨k + 1, by omega, by go_num, HM.out.drewN nq⟩
            case measure => simp [intOf]; omega
          · have hkn : k = n := by omega
            subst hkn
            have hji : ¬ ((k : Int) < (k : Int)) := by omega
            go_wp2_with fail
            go_meet
            exact HM.out
      case rest =>
        have HMt := Lib.hid hcut
        clear HMc hcut HN hsz c1 HBe
        go_upto_region 15 with fail
        go_wp2_with fail
        refine (new_writer wc w.heap.size HMt.out.size).mono ?_
        rintro e w5 ⟨rfl, hM5, h5, hs5⟩
        have hb5 : WB w w5 wc.heap.size (.slice none 0 0) [] 0 := ⟨h5, HMt.out.then hM5⟩
        have HB5 := Lib.hid hb5
        generalize wc.heap.size = G2 at *
        clear hb5 h5 hM5 hs5 HMt
        go_wp2_with fail
        refine (w_signed _ w.heap.size G2 _ _ [] 0 x n HB5.out.prog (by decide) HB5.out.size).mono ?_
        rintro e w6 ⟨rfl, hT⟩
        obtain ⟨o6, hB6⟩ := HB5.out.step hT
        clear hT HB5
        obtain ⟨γ, hγ⟩ : ∃ γ, Pk.sfits x n = γ := ⟨_, rfl⟩
        rw [hγ, Int.toNat_natCast] at hB6
        obtain ⟨S2, E2, hS2, hd2⟩ := done_put (by rw [Pk.length_digs]; omega) hB6
        have HD2 := Lib.hid hd2
        have HS2 := Lib.hid hS2
        have HM6 := Lib.hid hB6.mod
        have HG := Lib.hid hγ
        clear hd2 hS2 hB6 hγ
        go_wp2_with fail
        refine HD2.out.mono ?_
        rintro e w7 ⟨rfl, hM7⟩
        have HM7 := Lib.hid (HM6.out.trans hM7 (fun _ _ h => h))
        clear hM7 HM6 HD2
        go_upto_region 19 with fail
        obtain ⟨hv, hhv⟩ : ∃ hv : Int, wrap64 (2 ^ (8 * n - 1)) = hv := ⟨_, rfl⟩
        rw [hhv]
        have HV := Lib.hid hhv
        clear hhv
        go_cut [2, 10] (fun s2 s wx => s2 = .int .i64 (n : Int) ∧ s = .bool γ ∧ wx = w7)
        case first =>
          by_cases h8 : n = 8
          · have c8 : ((n : Int) == 8) = true := by rw [h8]; rfl
            have hb : γ = true := by rw [← HG.out, h8, Pk.sfits]; exact decide_eq_true ⟨by decide, by decide, fun h => absurd h (by decide)⟩
            subst hb
            clear HV HG HS2 HM7
            go_wp2_with fail
            go_meet
            exact ⟨by rw [h8] <;> rfl, rfl, rfl⟩
          · have c8 : ((n : Int) == 8) = false := by rw [beq_eq_false_iff_ne]; omega
            obtain ⟨Bd, hBd, hB1, hB2⟩ : ∃ Bd : Int, (2 : Int) ^ (8 * n - 1) = Bd ∧ 1 ≤ Bd ∧ Bd ≤ 36028797018963968 := by
              have : n = 1 ∨ n = 2 ∨ n = 3 ∨ n = 4 ∨ n = 5 ∨ n = 6 ∨ n = 7 := by omega
              rcases this with rfl | rfl | rfl | rfl | rfl | rfl | rfl <;> exact ⟨_, rfl, by decide, by decide⟩
            have hvB : hv = Bd := by rw [← HV.out, hBd]; unfold wrap64; omega
            have hsf : decide (-Bd ≤ x ∧ x < Bd) = γ := by
              rw [← HG.out, Pk.sfits, Int.toNat_natCast, hBd]
              exact decide_eq_decide.2 ⟨fun h => ⟨by omega, by omega, fun _ => h⟩, fun h => h.2.2 (by omega)⟩
            clear HV HG HS2 HM7 hBd
            subst hvB
            have hnB : wrap64 (-hv) = -hv := by unfold wrap64; omega
            have hnB2 : IntKind.i64.wrap (-hv) = -hv := by rw [IntKind.wrap_i64]; omega
            by_cases h1 : -hv ≤ x
            · have d1 : decide (x ≥ -hv) = true := decide_eq_true h1
              have d2 : decide (x < hv) = γ := by rw [← hsf]; exact decide_eq_decide.2 ⟨fun h => ⟨h1, h⟩, fun h => h.2⟩
              clear hsf
              go_wp2_with fail
              go_meet
              exact ⟨rfl, by rw [← d2], rfl⟩
            · have d1 : decide (x ≥ -hv) = false := decide_eq_false h1
              have hg : γ = false := by rw [← hsf]; exact decide_eq_false (fun h => h1 h.1)
              subst hg
              go_wp2_with fail
              go_meet
              exact ⟨rfl, rfl, rfl⟩
        case rest =>
          obtain ⟨rfl, rfl, rfl⟩ := hcut
          have HMw := HM7
          clear HM7 HV HG
          rcases HS2.out with ⟨rfl, rfl, hS⟩ | ⟨rfl, rfl, rfl⟩
          · have HSS := Lib.hid hS
            clear HS2 hS
            obtain ⟨y, hy, hyl⟩ : ∃ y : Nat, x % 18446744073709551616 = (y : Int) ∧ y < 18446744073709551616 := ⟨(x % 18446744073709551616).toNat, by omega, by omega⟩
            rw [hy] at HSS
            have hyw : IntKind.u64.wrap x = (y : Int) := by rw [IntKind.wrap_u64, hy]
            clear hy
            go_wp2_with fail
            refine (new_writer wc w.heap.size HMw.out.size).mono ?_
            rintro e w8 ⟨rfl, hM8, h8w, hs8⟩
            have hb8 : WB w w8 wc.heap.size (.slice none 0 0) [] 0 := ⟨h8w, HMw.out.then hM8⟩
            have HB8 := Lib.hid hb8
            generalize wc.heap.size = G3 at *
            clear hb8 h8w hM8 hs8 HMw
            go_upto_if 121 with fail
            obtain ⟨L, hL⟩ : ∃ L : Nat, L = if n < 8 then y % 256 ^ n else y := ⟨_, rfl⟩
            obtain ⟨hfL, hdL⟩ := low_law y n hn1 hn8 L hL
            have HL := Lib.hid hL
            have HF := Lib.hid hfL
            have HDL := Lib.hid hdL
            clear hL hfL hdL
            go_cut [15] (fun s wx => s = .int .u64 (L : Int) ∧ wx = w8)
            case first =>
              by_cases hn : n < 8
              · have hni : (n : Int) < 8 := by omega
                go_wp2_with fail
                refine (power_any w8 n (by omega)).mono ?_
                rintro e w9 ⟨rfl, hw9⟩
                subst hw9
                have hpos : 0 < 256 ^ n := Nat.pow_pos (by decide)
                have hL2 := HL.out
                rw [if_pos hn] at hL2
                clear HL HF HDL
                generalize 256 ^ n = P at *
                have hPz : ¬ (P : Int) = 0 := by omega
                go_wp2_with fail
                go_meet
                exact ⟨by rw [hL2, Int.natCast_emod], rfl⟩
              · have hni : ¬ (n : Int) < 8 := by omega
                have hL2 := HL.out
                rw [if_neg hn] at hL2
                clear HL HF HDL
                go_wp2_with fail
                go_meet
                exact ⟨by rw [hL2], rfl⟩
            case rest =>
              obtain ⟨rfl, rfl⟩ := hcut
              clear HL
              go_wp2_with fail
              refine (w_number wc w.heap.size G3 _ _ [] 0 (L : Int) n HB8.out.prog (by decide) HB8.out.size).mono ?_
              rintro e w10 ⟨rfl, hT⟩
              obtain ⟨o10, hB10⟩ := HB8.out.step hT
              clear hT HB8
              rw [HF.out, put_ok, List.nil_append, Int.toNat_natCast, HDL.out] at hB10
              have hd := w_done w10 w.heap.size G3 _ o10 _ 0 hB10.prog (by rw [Pk.length_digs]; omega)
              rw [if_pos rfl, ← HSS.out] at hd
              have HD3 := Lib.hid hd
              have HM10 := Lib.hid hB10.mod
              clear hd hB10 HF HDL HSS hyw
              go_wp2_with fail
              refine HD3.out.mono ?_
              rintro e w11 ⟨rfl, hM11⟩
              have HM11 := Lib.hid (HM10.out.trans hM11 (fun _ _ h => h))
              clear hM11 HM10 HD3
              go_wp2_with fail
              go_ret
              exact ⟨rfl, HM11.out⟩
          · clear HS2
            go_wp2_with fail
            go_ret
            exact ⟨rfl, HMw.out⟩
    · clear HS
      go_upto_block 0 with fail
      go_cut [11] (fun _ wx => Mod none_ w wx)
      case first =>
        go_wp2_with fail
        go_loopw [11] (fun i wr => i = .int .i64 0 ∧ Mod none_ w wr) (fun i _ => 0)
        case atStart => exact ⟨rfl, HMc.out⟩
        case round =>
          clear HMc HBe
          obtain ⟨rfl, hM⟩ := hrel
          have HM := Lib.hid hM
          clear hM
          have hz : (ByteArray.empty.size : Int) = 0 := rfl
          go_wp2_with fail
          go_meet
          exact HM.out
      case rest =>
        have HMt := Lib.hid hcut
        clear HMc hcut HBe
        go_upto_region 15 with fail
        go_wp2_with fail
        refine (new_writer wc w.heap.size HMt.out.size).mono ?_
        rintro e w5 ⟨rfl, hM5, h5, hs5⟩
        have hb5 : WB w w5 wc.heap.size (.slice none 0 0) [] 0 := ⟨h5, HMt.out.then hM5⟩
        have HB5 := Lib.hid hb5
        generalize wc.heap.size = G2 at *
        clear hb5 h5 hM5 hs5 HMt
        go_wp2_with fail
        refine (w_signed _ w.heap.size G2 _ _ [] 0 x n HB5.out.prog (by decide) HB5.out.size).mono ?_
        rintro e w6 ⟨rfl, hT⟩
        obtain ⟨o6, hB6⟩ := HB5.out.step hT
        clear hT HB5
        obtain ⟨γ, hγ⟩ : ∃ γ, Pk.sfits x n = γ := ⟨_, rfl⟩
        rw [hγ, Int.toNat_natCast] at hB6
        obtain ⟨S2, E2, hS2, hd2⟩ := done_put (by rw [Pk.length_digs]; omega) hB6
        have HD2 := Lib.hid hd2
        have HS2 := Lib.hid hS2
        have HM6 := Lib.hid hB6.mod
        have HG := Lib.hid hγ
        clear hd2 hS2 hB6 hγ
        go_wp2_with fail
        refine HD2.out.mono ?_
        rintro e w7 ⟨rfl, hM7⟩
        have HM7 := Lib.hid (HM6.out.trans hM7 (fun _ _ h => h))
        clear hM7 HM6 HD2
        go_upto_region 19 with fail
        obtain ⟨hv, hhv⟩ : ∃ hv : Int, wrap64 (2 ^ (8 * n - 1)) = hv := ⟨_, rfl⟩
        rw [hhv]
        have HV := Lib.hid hhv
        clear hhv
        go_cut [2, 10] (fun s2 s wx => s2 = .int .i64 (n : Int) ∧ s = .bool γ ∧ wx = w7)
        case first =>
          by_cases h8 : n = 8
          · have c8 : ((n : Int) == 8) = true := by rw [h8]; rfl
            have hb : γ = true := by rw [← HG.out, h8, Pk.sfits]; exact decide_eq_true ⟨by decide, by decide, fun h => absurd h (by decide)⟩
            subst hb
            clear HV HG HS2 HM7
            go_wp2_with fail
            go_meet
            exact ⟨by rw [h8] <;> rfl, rfl, rfl⟩
          · have c8 : ((n : Int) == 8) = false := by rw [beq_eq_false_iff_ne]; omega
            obtain ⟨Bd, hBd, hB1, hB2⟩ : ∃ Bd : Int, (2 : Int) ^ (8 * n - 1) = Bd ∧ 1 ≤ Bd ∧ Bd ≤ 36028797018963968 := by
              have : n = 1 ∨ n = 2 ∨ n = 3 ∨ n = 4 ∨ n = 5 ∨ n = 6 ∨ n = 7 := by omega
              rcases this with rfl | rfl | rfl | rfl | rfl | rfl | rfl <;> exact ⟨_, rfl, by decide, by decide⟩
            have hvB : hv = Bd := by rw [← HV.out, hBd]; unfold wrap64; omega
            have hsf : decide (-Bd ≤ x ∧ x < Bd) = γ := by
              rw [← HG.out, Pk.sfits, Int.toNat_natCast, hBd]
              exact decide_eq_decide.2 ⟨fun h => ⟨by omega, by omega, fun _ => h⟩, fun h => h.2.2 (by omega)⟩
            clear HV HG HS2 HM7 hBd
            subst hvB
            have hnB : wrap64 (-hv) = -hv := by unfold wrap64; omega
            have hnB2 : IntKind.i64.wrap (-hv) = -hv := by rw [IntKind.wrap_i64]; omega
            by_cases h1 : -hv ≤ x
            · have d1 : decide (x ≥ -hv) = true := decide_eq_true h1
              have d2 : decide (x < hv) = γ := by rw [← hsf]; exact decide_eq_decide.2 ⟨fun h => ⟨h1, h⟩, fun h => h.2⟩
              clear hsf
              go_wp2_with fail
              go_meet
              exact ⟨rfl, by rw [← d2], rfl⟩
            · have d1 : decide (x ≥ -hv) = false := decide_eq_false h1
              have hg : γ = false := by rw [← hsf]; exact decide_eq_false (fun h => h1 h.1)
              subst hg
              go_wp2_with fail
              go_meet
              exact ⟨rfl, rfl, rfl⟩
        case rest =>
          obtain ⟨rfl, rfl, rfl⟩ := hcut
          have HMw := HM7
          clear HM7 HV HG
          rcases HS2.out with ⟨rfl, rfl, hS⟩ | ⟨rfl, rfl, rfl⟩
          · have HSS := Lib.hid hS
            clear HS2 hS
            obtain ⟨y, hy, hyl⟩ : ∃ y : Nat, x % 18446744073709551616 = (y : Int) ∧ y < 18446744073709551616 := ⟨(x % 18446744073709551616).toNat, by omega, by omega⟩
            rw [hy] at HSS
            have hyw : IntKind.u64.wrap x = (y : Int) := by rw [IntKind.wrap_u64, hy]
            clear hy
            go_wp2_with fail
            refine (new_writer wc w.heap.size HMw.out.size).mono ?_
            rintro e w8 ⟨rfl, hM8, h8w, hs8⟩
            have hb8 : WB w w8 wc.heap.size (.slice none 0 0) [] 0 := ⟨h8w, HMw.out.then hM8⟩
            have HB8 := Lib.hid hb8
            generalize wc.heap.size = G3 at *
            clear hb8 h8w hM8 hs8 HMw
            go_upto_if 121 with fail
            obtain ⟨L, hL⟩ : ∃ L : Nat, L = if n < 8 then y % 256 ^ n else y := ⟨_, rfl⟩
            obtain ⟨hfL, hdL⟩ := low_law y n hn1 hn8 L hL
            have HL := Lib.hid hL
            have HF := Lib.hid hfL
            have HDL := Lib.hid hdL
            clear hL hfL hdL
            go_cut [15] (fun s wx => s = .int .u64 (L : Int) ∧ wx = w8)
            case first =>
              by_cases hn : n < 8
              · have hni : (n : Int) < 8 := by omega
                go_wp2_with fail
                refine (power_any w8 n (by omega)).mono ?_
                rintro e w9 ⟨rfl, hw9⟩
                subst hw9
                have hpos : 0 < 256 ^ n := Nat.pow_pos (by decide)
                have hL2 := HL.out
                rw [if_pos hn] at hL2
                clear HL HF HDL
                generalize 256 ^ n = P at *
                have hPz : ¬ (P : Int) = 0 := by omega
                go_wp2_with fail
                go_meet
                exact ⟨by rw [hL2, Int.natCast_emod], rfl⟩
              · have hni : ¬ (n : Int) < 8 := by omega
                have hL2 := HL.out
                rw [if_neg hn] at hL2
                clear HL HF HDL
                go_wp2_with fail
                go_meet
                exact ⟨by rw [hL2], rfl⟩
            case rest =>
              obtain ⟨rfl, rfl⟩ := hcut
              clear HL
              go_wp2_with fail
              refine (w_number wc w.heap.size G3 _ _ [] 0 (L : Int) n HB8.out.prog (by decide) HB8.out.size).mono ?_
              rintro e w10 ⟨rfl, hT⟩
              obtain ⟨o10, hB10⟩ := HB8.out.step hT
              clear hT HB8
              rw [HF.out, put_ok, List.nil_append, Int.toNat_natCast, HDL.out] at hB10
              have hd := w_done w10 w.heap.size G3 _ o10 _ 0 hB10.prog (by rw [Pk.length_digs]; omega)
              rw [if_pos rfl, ← HSS.out] at hd
              have HD3 := Lib.hid hd
              have HM10 := Lib.hid hB10.mod
              clear hd hB10 HF HDL HSS hyw
              go_wp2_with fail
              refine HD3.out.mono ?_
              rintro e w11 ⟨rfl, hM11⟩
              have HM11 := Lib.hid (HM10.out.trans hM11 (fun _ _ h => h))
              clear hM11 HM10 HD3
              go_wp2_with fail
              go_ret
              exact ⟨rfl, HM11.out⟩
          · clear HS2
            go_wp2_with fail
            go_ret
            exact ⟨rfl, HMw.out⟩
end Go.Proofs.Ytcmbklofbemclaa
