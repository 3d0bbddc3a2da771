/- FixTurns: plain. -/
import Derived.Test.YtnknbikkgohlmaaDoorFixQ
import Derived.Test.YtnknbikkgohlmaaDoorVFixTurnsx3
namespace Go.Proofs.YtnknbikkgohlmaaDoor.FixM
open Go.RowKit Go.Proofs.YtnknbikkgohlmaaDoor Go.Proofs.YtnknbikkgohlmaaDoor.VFixB Go.Proofs.YtnknbikkgohlmaaDoorW.PrintWords Go.Proofs.YtnknbikkgohlmaaDoorW.PrintLast Go.Proofs.YtnknbikkgohlmaaDoorW.PrintMore

theorem sines_list : joustref03_sines.f = some sineTab := rfl
theorem rd_tab (i : Nat) (_h : i < 65) : rd sineTab (i : Int) = sine i := by
  unfold rd sine
  rw [List.getD_eq_getElem?_getD, List.getD_eq_getElem?_getD]
  simp
theorem rsin_j0 (k m : Nat) (hm : m < 128) : joustref03_Sin.j0 (k + 1) (m : Int) = some (sinH m) := by
  rw [joustref03_Sin.j0, if_neg (by omega), sines_list]
  simp only [Option.bind_some]
  have hl : sineTab.length = 65 := rfl
  unfold sinH
  by_cases h : 64 < m
  · have hw : wrap64 (128 - (m : Int)) = ((128 - m : Nat) : Int) := by unfold wrap64; omega
    rw [if_pos (by omega), hw, if_pos (by omega), if_pos (by omega), rd_tab _ (by omega), if_pos h]
  · rw [if_neg (by omega), if_pos (by omega), if_pos (by omega), rd_tab _ (by omega), if_neg h]
theorem rsin_eq (k : Nat) (hk : 4 ≤ k) {h : Int} (_hh : I64 h) : joustref03_Sin.f k h = some (sinT h) := by
  obtain ⟨k, rfl⟩ : ∃ m, k = m + 1 + 1 + 1 + 1 := ⟨k - 4, by omega⟩
  obtain ⟨m, hm⟩ : ∃ m : Nat, h % 256 = (m : Int) := ⟨(h % 256).toNat, by omega⟩
  have hs : sinT h = sinN m := by unfold sinT; rw [hm]; rfl
  have hm2 : m < 256 := by omega
  have key : joustref03_Sin.j0 (k + 1 + 1 + 1) (m : Int) = some (sinN m) := by
    unfold sinN
    by_cases h1 : 128 ≤ m
    · have hb := sinH_bd (m - 128)
      have hw : wrap64 ((m : Int) - 128) = ((m - 128 : Nat) : Int) := by unfold wrap64; omega
      have ht : Int.tmod ((m - 128 : Nat) : Int) 256 = ((m - 128 : Nat) : Int) := by rw [tmod_pos (by omega)]; omega
      rw [if_pos h1, joustref03_Sin.j0, if_pos (by omega), hw, joustref03_Sin.f, ht, if_neg (by omega), rsin_j0 k _ (by omega)]
      simp only [Option.bind_some]
      rw [w64_self (by unfold I64; omega)]
    · rw [if_neg h1, rsin_j0 _ m (by omega)]
  rw [hs, joustref03_Sin.f]
  have ht := Int.tmod_eq_emod (a := h) (b := 256)
  have hw2 : (Int.tmod h 256 < 0 ∧ wrap64 (Int.tmod h 256 + 256) = (m : Int)) ∨ (¬ Int.tmod h 256 < 0 ∧ Int.tmod h 256 = (m : Int)) := by
    have h1 := Int.lt_tmod_of_pos h (by decide : (0 : Int) < 256)
    have h2 := Int.tmod_lt_of_pos h (by decide : (0 : Int) < 256)
    have h3 := Int.mul_tdiv_add_tmod h 256
    unfold wrap64
    omega
  rcases hw2 with ⟨h1, h2⟩ | ⟨h1, h2⟩
  · rw [if_pos h1, h2]; exact key
  · rw [if_neg h1, h2]; exact key
theorem sinT_add (h k : Int) : sinT (h % 256 + k) = sinT (h + k) := by unfold sinT; congr 2; omega
theorem cos_eq (k : Nat) (h : Int) : fix_Cos.f k h = some (sinT (h + 64)) := by
  unfold fix_Cos.f fix_Sin.f
  rw [and255]
  have : wrap64 (h % 256 + 64) = h % 256 + 64 := by unfold wrap64; omega
  rw [this, sinT_add]; rfl
theorem rcos_eq (k : Nat) (hk : 4 ≤ k) {h : Int} (_hh : I64 h) : joustref03_Cos.f k h = some (sinT (h + 64)) := by
  unfold joustref03_Cos.f
  have h1 := Int.lt_tmod_of_pos h (by decide : (0 : Int) < 256)
  have h2 := Int.tmod_lt_of_pos h (by decide : (0 : Int) < 256)
  have h3 := Int.mul_tdiv_add_tmod h 256
  have hw : wrap64 (Int.tmod h 256 + 64) = Int.tmod h 256 + 64 := by unfold wrap64; omega
  rw [hw, rsin_eq k hk (by unfold I64; omega)]
  have : sinT (Int.tmod h 256 + 64) = sinT (h + 64) := by unfold sinT; congr 2; omega
  rw [this]; rfl
/-- what the table has, heading by heading -/
def turnOk (i : Nat) : Bool :=
  let s := sinT (i : Int); let c := sinT ((i : Int) + 64)
  decide (s * s + c * c - 4294967296 ≤ 131072) && decide (-131072 ≤ s * s + c * c - 4294967296) && decide (sinT ((i : Int) + 128) = -s) && decide (sinT (128 - (i : Int)) = s) && decide (sinT (-(i : Int) + 64) = c)
theorem turns_ok : (List.range 256).all turnOk = true := by decide +kernel
theorem j2_ok (k : Nat) (i s c : Int) (hA : fix_Sin.f k (wrap64 (i + 128)) = some (-s)) (hB : fix_Sin.f k (wrap64 (128 - i)) = some s) (hC : fix_Cos.f k (wrap64 (-i)) = some c) (bs : -65536 ≤ s ∧ s ≤ 65536)
    (hn : VFixTurns.joustlaw03_FixTurns.l0 k (wrap64 (i + 1)) = some true) : VFixTurns.joustlaw03_FixTurns.j2 (k + 1) i s c false = some true := by
  rw [VFixTurns.joustlaw03_FixTurns.j2, if_neg (by decide), hA, hB, hC]
  simp only [Option.bind_some]
  rw [w64_self (n := -s) (by unfold I64; omega)]
  simp only [if_true]
  rw [if_neg (by omega), if_neg (by omega)]
  exact hn
theorem turn_facts (i : Nat) (hi : i < 256) : ∃ s c : Int, sinT (i : Int) = s ∧ sinT ((i : Int) + 64) = c ∧ sinT ((i : Int) + 128) = -s ∧ sinT (128 - (i : Int)) = s ∧ sinT (-(i : Int) + 64) = c ∧ (-65536 ≤ s ∧ s ≤ 65536) ∧ (-65536 ≤ c ∧ c ≤ 65536) ∧ s * s + c * c - 4294967296 ≤ 131072 ∧ -131072 ≤ s * s + c * c - 4294967296 := by
  have hok := List.all_eq_true.1 turns_ok i (List.mem_range.2 hi)
  have b1 := sinT_bd (i : Int)
  have b2 := sinT_bd ((i : Int) + 64)
  unfold turnOk at hok
  simp only [Bool.and_eq_true, decide_eq_true_eq] at hok
  obtain ⟨⟨⟨⟨o1, o2⟩, o3⟩, o4⟩, o5⟩ := hok
  exact ⟨_, _, rfl, rfl, o3, o4, o5, b1, b2, o1, o2⟩
theorem turn_wraps (i : Nat) (hi : i < 256) : wrap64 ((i : Int) + 128) = (i : Int) + 128 ∧ wrap64 (128 - (i : Int)) = 128 - (i : Int) ∧ wrap64 (-(i : Int)) = -(i : Int) ∧ wrap64 ((i : Int) + 1) = ((i + 1 : Nat) : Int) := by unfold wrap64; omega
theorem turns_loop : ∀ (d k : Nat) (i : Nat), i + d = 256 → 3 * d + 10 ≤ k → VFixTurns.joustlaw03_FixTurns.l0 k (i : Int) = some true := by
  intro d
  induction d with
  | zero =>
    intro k i hi hk
    obtain ⟨k, rfl⟩ : ∃ m, k = m + 1 := ⟨k - 1, by omega⟩
    rw [VFixTurns.joustlaw03_FixTurns.l0, if_neg (by omega)]
  | succ d ih =>
    intro k i hi hk
    obtain ⟨k, rfl⟩ : ∃ m, k = m + 1 + 1 := ⟨k - 2, by omega⟩
    have hnext := ih k (i + 1) (by omega) (by omega)
    have ii : I64 (i : Int) := by unfold I64; omega
    obtain ⟨w1, w2, w3, w4⟩ := turn_wraps i (by omega)
    obtain ⟨s, c, es, ec, e1, e2, e3, bs, bc, o1, o2⟩ := turn_facts i (by omega)
    have hA : fix_Sin.f k (wrap64 ((i : Int) + 128)) = some (-s) := by rw [w1, fix_Sin.f, e1]
    have hB : fix_Sin.f k (wrap64 (128 - (i : Int))) = some s := by rw [w2, fix_Sin.f, e2]
    have hC : fix_Cos.f k (wrap64 (-(i : Int))) = some c := by rw [w3, cos_eq, e3]
    have hj := j2_ok k (i : Int) s c hA hB hC bs (by rw [w4]; exact hnext)
    have hS : fix_Sin.f (k + 1) (i : Int) = some s := by rw [fix_Sin.f, es]
    have hCc : fix_Cos.f (k + 1) (i : Int) = some c := by rw [cos_eq, ec]
    have hrS : joustref03_Sin.f (k + 1) (i : Int) = some s := by rw [rsin_eq _ (by omega) ii, es]
    have hrC : joustref03_Cos.f (k + 1) (i : Int) = some c := by rw [rcos_eq _ (by omega) ii, ec]
    clear es ec e1 e2 e3 hA hB hC hnext ih w1 w2 w3 w4
    have hlt : (i : Int) < 256 := by omega
    rw [VFixTurns.joustlaw03_FixTurns.l0, if_pos hlt, hS, hCc, hrS, hrC]
    clear hS hCc hrS hrC hlt hi hk ii
    simp only [Option.bind_some, if_true]
    have m1 := mul_abs (m := 65537) (x := s) (y := s) (by omega) (by omega)
    have m2 := mul_abs (m := 65537) (x := c) (y := c) (by omega) (by omega)
    generalize s * s = p at *
    generalize c * c = q at *
    rw [w64_self (n := p) (by unfold I64; omega), w64_self (n := q) (by unfold I64; omega), w64_self (n := p + q) (by unfold I64; omega), w64_self (n := p + q - 4294967296) (by unfold I64; omega)]
    rw [if_neg (by omega), decide_eq_false (by omega)]
    exact hj
theorem fixTurns : VFixTurns.joustlaw03_FixTurns.Pure := by
  intro h hh
  have hh := i64_wf hh
  obtain ⟨m, hm⟩ : ∃ m : Nat, 1000 ≤ m := ⟨1000, Nat.le_refl _⟩
  have hl := turns_loop 256 m 0 (by decide) (by omega)
  have e1 : ((0 : Nat) : Int) = 0 := rfl
  rw [e1] at hl
  refine ⟨m + 1, ?_⟩
  unfold VFixTurns.joustlaw03_FixTurns.f joustlaw03_fixed.f
  rw [cos_eq, rsin_eq _ (by omega) hh, rcos_eq _ (by omega) hh]
  unfold fix_Sin.f
  simp only [Option.bind_some, if_true, bne_self_eq_false]
  rw [VFixTurns.joustlaw03_FixTurns.j0, if_neg (by decide)]
  exact hl
end Go.Proofs.YtnknbikkgohlmaaDoor.FixM
