/- Boards: the small functions of numbers, and those that read a board: the walks. -/
import Derived.Test.YtinjlkceplhibaaDoorBdE
import Derived.Test.YtinjlkceplhibaaDoorBase3
namespace Go.Proofs.YtinjlkceplhibaaDoor
open Go.RowKit

theorem tdiv_floor (a : Int) : (if Int.tmod a 524288 < 0 then Int.tdiv a 524288 - 1 else Int.tdiv a 524288) = a / 524288 := by
  have h1 := Int.tmod_add_mul_tdiv a 524288
  have h2 : a < 0 → Int.tmod a 524288 ≤ 0 := fun h => by
    have h3 := Int.tmod_nonneg 524288 (show 0 ≤ -a by omega)
    rw [Int.neg_tmod] at h3
    omega
  have h3 : 0 ≤ a → 0 ≤ Int.tmod a 524288 := fun h => Int.tmod_nonneg _ h
  have h4 := Int.tmod_lt_of_pos a (show (0 : Int) < 524288 by decide)
  have h5 := Int.lt_tmod_of_pos a (show (0 : Int) < 524288 by decide)
  generalize Int.tmod a 524288 = r at *
  generalize Int.tdiv a 524288 = q at *
  split <;> omega

theorem number_any (w : World) (a : Int) (ha : Bd.I64 a) : Calls Tryd.prog 91 #[.int .i64 a] w fun e w' => e = .returned (.int .i64 (Bd.num a)) ∧ w' = w := by
  have hf := tdiv_floor a
  have hb : -17592186044416 ≤ a / 524288 ∧ a / 524288 ≤ 17592186044416 := by unfold Bd.I64 at ha; omega
  have hn : Bd.num a = a / 524288 := rfl
  generalize Bd.num a = m at *
  go_enter Tryd.func91, Tryd.ntmps91
  go_wp2
  · rename_i hc
    rw [if_pos hc] at hf
    go_ret
    exact ⟨ret_int (by omega), rfl⟩
  · rename_i hc
    rw [if_neg (by omega)] at hf
    go_ret
    exact ⟨ret_int (by omega), rfl⟩
theorem cellf_any (w : World) (c : Int) : Calls Tryd.prog 52 #[.int .i32 c] w fun e w' => e = .returned (.int .i32 (Bd.kind c)) ∧ w' = w := by
  obtain ⟨k, hk⟩ : ∃ k, Bd.kind c = k := ⟨_, rfl⟩
  rw [hk]
  unfold Bd.kind at hk
  go_enter Tryd.func52, Tryd.ntmps52
  by_cases h1 : c = 35
  · subst h1; go_wp2; go_ret; exact ⟨ret_int (by simpa using hk), rfl⟩
  by_cases h2 : c = 9608
  · subst h2; go_wp2; go_ret; exact ⟨ret_int (by simpa using hk), rfl⟩
  by_cases h3 : c = 46
  · subst h3; go_wp2; go_ret; exact ⟨ret_int (by simpa using hk), rfl⟩
  by_cases h4 : c = 32
  · subst h4; go_wp2; go_ret; exact ⟨ret_int (by simpa using hk), rfl⟩
  by_cases h5 : c = 83
  · subst h5; go_wp2; go_ret; exact ⟨ret_int (by simpa using hk), rfl⟩
  by_cases h6 : c = 69
  · subst h6; go_wp2; go_ret; exact ⟨ret_int (by simpa using hk), rfl⟩
  by_cases h7 : c = 65
  · subst h7; go_wp2; go_ret; exact ⟨ret_int (by simpa using hk), rfl⟩
  have e1 : (c == 35) = false := by simpa using h1
  have e2 : (c == 9608) = false := by simpa using h2
  have e3 : (c == 46) = false := by simpa using h3
  have e4 : (c == 32) = false := by simpa using h4
  have e5 : (c == 83) = false := by simpa using h5
  have e6 : (c == 69) = false := by simpa using h6
  have e7 : (c == 65) = false := by simpa using h7
  simp only [h1, h2, h3, h4, h5, h6, h7, or_self, if_false] at hk
  clear h1 h2 h3 h4 h5 h6 h7
  go_wp2
  go_ret
  exact ⟨ret_int hk, rfl⟩
theorem below_any (w : World) (a n : Int) (ha : Bd.I64 a) (hn : 0 ≤ n ∧ n ≤ 9223372036854775807) : Calls Tryd.prog 102 #[.int .i64 a, .int .i64 n] w fun e w' => e = .returned (.int .i64 (if -9223372036854775808 ≤ a - n then a - n else -9223372036854775808)) ∧ w' = w := by
  unfold Bd.I64 at ha
  by_cases h : -9223372036854775808 ≤ a - n
  · rw [if_pos h]
    have e : IntKind.i64.wrap (a - n) = a - n := by rw [IntKind.wrap_i64]; omega
    go_enter Tryd.func102, Tryd.ntmps102
    go_wp2
    go_ret
    exact ⟨rfl, rfl⟩
  · rw [if_neg h]
    have e : IntKind.i64.wrap (a - n) = a - n + 18446744073709551616 := by rw [IntKind.wrap_i64]; omega
    go_enter Tryd.func102, Tryd.ntmps102
    go_wp2
    go_ret
    exact ⟨rfl, rfl⟩
theorem above_any (w : World) (a n : Int) (ha : Bd.I64 a) (hn : 0 ≤ n ∧ n ≤ 9223372036854775807) : Calls Tryd.prog 103 #[.int .i64 a, .int .i64 n] w fun e w' => e = .returned (.int .i64 (if a + n ≤ 9223372036854775807 then a + n else 9223372036854775807)) ∧ w' = w := by
  unfold Bd.I64 at ha
  by_cases h : a + n ≤ 9223372036854775807
  · rw [if_pos h]
    have e : IntKind.i64.wrap (a + n) = a + n := by rw [IntKind.wrap_i64]; omega
    go_enter Tryd.func103, Tryd.ntmps103
    go_wp2
    go_ret
    exact ⟨rfl, rfl⟩
  · rw [if_neg h]
    have e : IntKind.i64.wrap (a + n) = a + n - 18446744073709551616 := by rw [IntKind.wrap_i64]; omega
    go_enter Tryd.func103, Tryd.ntmps103
    go_wp2
    go_ret
    exact ⟨rfl, rfl⟩
theorem num_bd {a : Int} (ha : Bd.I64 a) : -17592186044416 ≤ Bd.num a ∧ Bd.num a ≤ 17592186044416 := by unfold Bd.I64 at ha; unfold Bd.num; omega
theorem lo_bd {a half : Int} (ha : Bd.I64 a) (hh : Bd.I64 half) : Bd.I64 (Bd.lo a half) := by
  unfold Bd.I64 Bd.lo at *
  repeat' split
  all_goals omega
theorem hi_bd {a half : Int} (ha : Bd.I64 a) (hh : Bd.I64 half) : Bd.I64 (Bd.hi a half) := by
  unfold Bd.I64 Bd.hi at *
  repeat' split
  all_goals omega
set_option maxHeartbeats 1000000 in
theorem span_any (w : World) (a half : Int) (n : Nat) (ha : Bd.I64 a) (hh : Bd.I64 half) (hn : n ≤ 64) : Calls Tryd.prog 81 #[.int .i64 a, .int .i64 half, .int .i64 n] w fun e w' => e = .returned (.tuple #[.int .i64 (Bd.first a half n), .int .i64 (Bd.last a half n)]) ∧ w' = w := by
  have hL := lo_bd ha hh
  have hU := hi_bd ha hh
  obtain ⟨f, hf⟩ : ∃ f, Bd.first a half n = f := ⟨_, rfl⟩
  obtain ⟨l, hl⟩ : ∃ f, Bd.last a half n = f := ⟨_, rfl⟩
  rw [hf, hl]
  unfold Bd.first at hf
  unfold Bd.last at hl
  by_cases h0 : 0 < half
  · have hb := fun q : World => below_any q a half ha (by unfold Bd.I64 at hh; omega)
    have hu := fun q : World => above_any q a (half - 1) ha (by unfold Bd.I64 at hh; omega)
    have e1 : (if -9223372036854775808 ≤ a - half then a - half else -9223372036854775808) = Bd.lo a half := by unfold Bd.lo; rw [if_pos h0]
    have e2 : (if a + (half - 1) ≤ 9223372036854775807 then a + (half - 1) else 9223372036854775807) = Bd.hi a half := by unfold Bd.hi; rw [if_pos h0]
    simp only [e1] at hb
    simp only [e2] at hu
    clear e1 e2
    generalize Bd.lo a half = L at *
    generalize Bd.hi a half = U at *
    have HB := Lib.hid hb; have HU := Lib.hid hu; have HF := Lib.hid hf; have HLa := Lib.hid hl
    clear hb hu hf hl
    unfold Bd.I64 at ha hh hL hU
    go_enter Tryd.func81, Tryd.ntmps81
    go_wp2_with (first | (go_at_call 102; refine (HB.out _).mono ?_; rintro r wz ⟨rfl, rfl⟩) | (go_at_call 103; refine (HU.out _).mono ?_; rintro r wz ⟨rfl, rfl⟩) | (go_at_call 91; refine (number_any _ _ (by unfold Bd.I64; omega)).mono ?_; rintro r wz ⟨rfl, rfl⟩))
    all_goals (go_ret2; rw [← HF.out, ← HLa.out]; unfold Bd.clip; refine ⟨?_, rfl⟩; repeat' split)
    all_goals first | rfl | (exfalso; omega)
  · have e1 : Bd.lo a half = a := by unfold Bd.lo; rw [if_neg h0]
    have e2 : Bd.hi a half = a := by unfold Bd.hi; rw [if_neg h0]
    rw [e1] at hf
    rw [e2] at hl
    have HF := Lib.hid hf; have HLa := Lib.hid hl
    clear hf hl hL hU e1 e2
    unfold Bd.I64 at ha hh
    go_enter Tryd.func81, Tryd.ntmps81
    go_wp2_with (go_at_call 91; refine (number_any _ _ (by unfold Bd.I64; omega)).mono ?_; rintro r wz ⟨rfl, rfl⟩)
    all_goals (go_ret2; rw [← HF.out, ← HLa.out]; unfold Bd.clip; refine ⟨?_, rfl⟩; repeat' split)
    all_goals first | rfl | (exfalso; omega)

def i32s (l : List Int) : List Value := l.map fun x => .int .i32 x
theorem i32s_at {l : List Int} {k : Nat} {x : Int} (h : l[k]? = some x) (rest : List Value) : (i32s l ++ rest)[k]? = some (.int .i32 x) := by
  have hl := (List.getElem?_eq_some_iff.1 h).1
  rw [List.getElem?_append_left (by simpa [i32s] using hl), i32s, List.getElem?_map, h]
  rfl
/-- a board in memory -/
structure BrdP (w : World) (b : Nat) (W H : Nat) (E : List Int) : Prop where
  fine : Bd.Fine W H E
  mem : ∃ g cap rest, Blk w b [.int .i64 W, .int .i64 H, .slice (some ⟨g, 0, none⟩) (W * H : Nat) cap] 90 ∧ Blk w g (i32s E ++ rest) 21 ∧ W * H ≤ cap
theorem BrdP.mod {w w' : World} {b W H : Nat} {E : List Int} {S : Nat → Prop} (h : BrdP w b W H E) (hM : Mod S w w') (hS : ∀ k, k < w.heap.size → ¬ S k) : BrdP w' b W H E := by
  obtain ⟨g, cap, rest, h1, h2, h3⟩ := h.mem
  exact ⟨h.fine, g, cap, rest, hM.blk h1 (hS _ h1.lt), hM.blk h2 (hS _ h2.lt), h3⟩
theorem BrdP.none {w w' : World} {b W H : Nat} {E : List Int} (h : BrdP w b W H E) (hM : Mod none_ w w') : BrdP w' b W H E := h.mod hM (fun _ _ h => h)
theorem cellat_any (w : World) {b W H : Nat} {E : List Int} (h : BrdP w b W H E) (x y : Int) : Calls Tryd.prog 82 #[.pointer (some ⟨b, 0, none⟩), .int .i64 x, .int .i64 y] w fun e w' => e = .returned (.int .i32 (Bd.cellOf W H E x y)) ∧ Mod none_ w w' := by
  obtain ⟨g, cap, rest, h1, h2, h3⟩ := h.mem
  have q0 := h1.cell (j := 0) rfl
  have q1 := h1.cell (j := 1) rfl
  have q2 := h1.cell (j := 2) rfl
  by_cases ho : x < 0 ∨ y < 0 ∨ (W : Int) ≤ x ∨ (H : Int) ≤ y
  · rw [Bd.cellOf_out ho]
    clear h h1 h2 h3 q2
    go_enter Tryd.func82, Tryd.ntmps82
    by_cases c1 : x < 0
    · go_wp2; go_ret; exact ⟨rfl, Mod.refl _ _⟩
    · by_cases c2 : y < 0
      · go_wp2; go_ret; exact ⟨rfl, Mod.refl _ _⟩
      · by_cases c3 : (W : Int) ≤ x
        · go_wp2; go_ret; exact ⟨rfl, Mod.refl _ _⟩
        · have c4 : (H : Int) ≤ y := by omega
          go_wp2; go_ret; exact ⟨rfl, Mod.refl _ _⟩
  · have hf := h.fine
    obtain ⟨x, rfl⟩ : ∃ n : Nat, x = n := ⟨x.toNat, by omega⟩
    obtain ⟨y, rfl⟩ : ∃ n : Nat, y = n := ⟨y.toNat, by omega⟩
    have hxy : y * W + x < W * H := by
      have h4 : (y + 1) * W ≤ H * W := Nat.mul_le_mul_right W (by omega)
      rw [Nat.succ_mul, Nat.mul_comm H W] at h4
      omega
    have hwh : W * H ≤ 4096 := Nat.mul_le_mul hf.w64 hf.h64
    obtain ⟨e, he⟩ : ∃ e, E[y * W + x]? = some e := ⟨_, List.getElem?_eq_getElem (by rw [hf.len]; exact hxy)⟩
    have qe := h2.cell (i32s_at he rest)
    have hce : Bd.cellOf W H E x y = e := by
      unfold Bd.cellOf
      rw [if_neg ho]
      have : ((y : Int) * (W : Int) + (x : Int)).toNat = y * W + x := by
        have : (y : Int) * (W : Int) = ((y * W : Nat) : Int) := by rw [Int.natCast_mul]
        rw [this]; omega
      rw [this, he]; rfl
    have hp : (y : Int) * (W : Int) = ((y * W : Nat) : Int) := by rw [Int.natCast_mul]
    have hw3 := hf.w3
    obtain ⟨p, hpp⟩ : ∃ p, y * W = p := ⟨_, rfl⟩
    obtain ⟨n, hn⟩ : ∃ p, W * H = p := ⟨_, rfl⟩
    rw [hce]
    rw [hn] at q2 hxy hwh h3
    rw [hpp] at hxy hp qe
    have c1 : ¬ (x : Int) < 0 := by omega
    have c2 : ¬ (y : Int) < 0 := by omega
    have c3 : ¬ (W : Int) ≤ x := by omega
    have c4 : ¬ (H : Int) ≤ y := by omega
    have em : IntKind.i64.wrap ((y : Int) * (W : Int)) = (p : Int) := by rw [hp, IntKind.wrap_i64]; omega
    have ea : IntKind.i64.wrap ((p : Int) + (x : Int)) = ((p + x : Nat) : Int) := by rw [IntKind.wrap_i64]; omega
    clear h h1 h2 hce he hp hpp hn hf ho
    go_enter Tryd.func82, Tryd.ntmps82
    go_wp2
    go_quiet (fail)
    go_wp2
    go_ret
    exact ⟨rfl, (Mod.refl _ _).drewN _⟩
end Go.Proofs.YtinjlkceplhibaaDoor
