/- PackApart: the law's walk. -/
import Derived.Test.YtcmbklofbemclaaPkAp
namespace Go.Proofs.Ytcmbklofbemclaa
open Go.RowKit

theorem len_weight : ∀ l : List PkOp, l.length ≤ Pk.weight l := by
  intro l
  induction l with
  | nil => simp [Pk.weight]
  | cons x a ih => simp only [List.length_cons, Pk.weight]; omega
theorem take_more (l : List PkOp) (k : Nat) (h : l.length ≤ k) : (l.take (k + 1)) = l.take k := by
  rw [List.take_of_length_le h, List.take_of_length_le (by omega)]
theorem fold_len (l : List PkOp) (k : Nat) {r : List Int × Int} (h : r = (l.take k).foldl Pk.step ([], 0)) : r.1.length ≤ Pk.weight (l.take k) := by
  subst h
  have := run_len (l.take k) ([], 0)
  simpa using this
/-- an element's cells, in a later world -/
theorem op_cells {w wr : World} {lb at_ : Nat} {ok ou oi os : Value} {ob : Value} (hM : Mod none_ w wr) (hc : ∀ f v, [ok, ou, oi, os, ob][f]? = some v → w.cell? ⟨lb, at_ + f, none⟩ = some v) :
    wr.cell? ⟨lb, at_, none⟩ = some ok ∧ wr.cell? ⟨lb, at_ + 1, none⟩ = some ou ∧ wr.cell? ⟨lb, at_ + 2, none⟩ = some oi ∧ wr.cell? ⟨lb, at_ + 3, none⟩ = some os ∧ wr.cell? ⟨lb, at_ + 4, none⟩ = some ob :=
  ⟨hM.cellS (hc 0 _ rfl) (fun h => h), hM.cellS (hc 1 _ rfl) (fun h => h), hM.cellS (hc 2 _ rfl) (fun h => h), hM.cellS (hc 3 _ rfl) (fun h => h), hM.cellS (hc 4 _ rfl) (fun h => h)⟩

theorem done_size (R : List Int × Int) (hl : R.1.length ≤ 70368744177664) (S : ByteArray) (hS : (if R.2 = 0 then strOf R.1 else ⟨#[]⟩) = S) : S.size ≤ 70368744177664 := by
  subst hS
  by_cases h : R.2 = 0
  · rw [if_pos h, size_strOf]; exact hl
  · rw [if_neg h]; exact Nat.zero_le _
set_option maxHeartbeats 20000000 in
set_option maxRecDepth 100000 in
theorem packApart_any (w : World) (sa : Option Addr) (n c : Nat) (one : List PkOp) (hp : OpsAt w w.heap.size sa n one) (hl : Pk.weight one ≤ 70368744177664)
    (sb : Option Addr) (n2 c2 : Nat) (two : List PkOp) (hp2 : OpsAt w w.heap.size sb n2 two) (hl2 : Pk.weight two ≤ 70368744177664) :
    Calls Try.prog 9 #[.slice sa n c, .slice sb n2 c2] w fun e w' => e = .returned (.bool true) ∧ Mod none_ w w' := by
  have hn48 : n ≤ 70368744177664 := by have := len_weight one; rw [hp.1] at this; omega
  have hn248 : n2 ≤ 70368744177664 := by have := len_weight two; rw [hp2.1] at this; omega
  have HP := Lib.hid hp; have HL := Lib.hid hl; have HP2 := Lib.hid hp2; have HL2 := Lib.hid hl2
  clear hp hl hp2 hl2
  go_enter Try.func9, Try.ntmps9
  go_wp2_with fail
  refine (alive5_any w).mono ?_
  rintro e w1 ⟨rfl, hM1⟩
  have H0 := Lib.hid (Wrs.zero hM1)
  clear hM1
  go_wp2_with fail
  refine H0.out.new.mono ?_
  rintro e w2 ⟨xa, rfl, hA⟩
  have HA := Lib.hid hA
  clear H0 hA
  go_wp2_with fail
  refine HA.out.new.mono ?_
  rintro e w3 ⟨xb, rfl, hA⟩
  have HB := Lib.hid hA
  clear HA hA
  go_wp2_with fail
  refine HB.out.new.mono ?_
  rintro e w4 ⟨xc, rfl, hA⟩
  have HC := Lib.hid hA
  clear HB hA
  go_wp2_with fail
  refine HC.out.new.mono ?_
  rintro e w5 ⟨xd, rfl, hA⟩
  obtain ⟨G, te, hW, rfl, rfl, rfl, rfl, ht⟩ : ∃ (G : Nat → Nat) (te : Nat → List Int × Int), Wrs w w5 4 G te ∧ xa = G 0 ∧ xb = G 1 ∧ xc = G 2 ∧ xd = G 3 ∧ ((te 0 = ([], 0) ∧ te 1 = ([], 0)) ∧ te 2 = ([], 0) ∧ te 3 = ([], 0)) :=
    ⟨_, _, hA, by simp [up], by simp [up], by simp [up], by simp [up], by simp [up]⟩
  have HW := Lib.hid hW
  have HT := Lib.hid ht
  clear hA HC hW ht
  go_upto_block 0 with fail
  go_cut [9] (fun _ wx => ∃ te, Wrs w wx 4 G te ∧ Hid (te 0 = one.foldl Pk.step ([], 0) ∧ te 2 = te 0 ∧ te 1 = two.foldl Pk.step ([], 0) ∧ te 3 = ([], 0)))
  case first =>
    go_wp2_with fail
    go_loopw [9] (fun i wr => ∃ (k : Nat) (te : Nat → List Int × Int), k ≤ n + n2 ∧ i = .int .i64 k ∧ Wrs w wr 4 G te ∧ Hid (te 0 = (one.take k).foldl Pk.step ([], 0) ∧ te 2 = te 0 ∧ te 1 = (two.take k).foldl Pk.step ([], 0) ∧ te 3 = ([], 0))) (fun i _ => n + n2 - (intOf i).toNat)
    case atStart => exact ⟨0, te, by omega, rfl, HW.out, Lib.hid ⟨HT.out.1.1, by rw [HT.out.2.1, HT.out.1.1], HT.out.1.2, HT.out.2.2⟩⟩
    case round =>
      clear HW HT
      obtain ⟨k, te1, hk, rfl, hW, HF⟩ := hrel
      have HW := Lib.hid hW
      clear hW
      by_cases h1 : k < n
      · have hi1 : (k : Int) < (n : Int) := by omega
        obtain ⟨hol1, -, hoc1⟩ := HP.out
        obtain ⟨lb1, lo1, rfl, hlb1, hcc1⟩ := hoc1 (by omega)
        obtain ⟨o1, ho1⟩ : ∃ o, one[k]? = some o := ⟨_, List.getElem?_eq_getElem (by omega)⟩
        have hc1 := hcc1 k o1 ho1
        have hwa1 := Pk.weight_take one k o1 ho1
        have hwb1 := Pk.weight_le one (k + 1)
        have hwc1 := HL.out
        have hfo1 := foldl_take one k o1 ho1 ([], 0)
        obtain ⟨ok1, ou1, oi1, os1, ob1⟩ := o1
        have hwd1 : Pk.weight (one.take k) + (8 + ob1.size) ≤ 70368744177664 := by simp only at hwa1; omega
        have HCE1 := Lib.hid hc1; have HFO1 := Lib.hid hfo1
        clear hcc1 hoc1 hol1 ho1 hc1 hfo1 hwa1 hwb1 hwc1
        by_cases h2 : k < n2
        · have hi2 : (k : Int) < (n2 : Int) := by omega
          obtain ⟨hol2, -, hoc2⟩ := HP2.out
          obtain ⟨lb2, lo2, rfl, hlb2, hcc2⟩ := hoc2 (by omega)
          obtain ⟨o2, ho2⟩ : ∃ o, two[k]? = some o := ⟨_, List.getElem?_eq_getElem (by omega)⟩
          have hc2 := hcc2 k o2 ho2
          have hwa2 := Pk.weight_take two k o2 ho2
          have hwb2 := Pk.weight_le two (k + 1)
          have hwc2 := HL2.out
          have hfo2 := foldl_take two k o2 ho2 ([], 0)
          obtain ⟨ok2, ou2, oi2, os2, ob2⟩ := o2
          have hwd2 : Pk.weight (two.take k) + (8 + ob2.size) ≤ 70368744177664 := by simp only at hwa2; omega
          have HCE2 := Lib.hid hc2; have HFO2 := Lib.hid hfo2
          clear hcc2 hoc2 hol2 ho2 hc2 hfo2 hwa2 hwb2 hwc2
          have hlen_ : (te1 0).1.length + (8 + ob1.size) ≤ 140737488355328 := by
            have := fold_len one k HF.out.1
            omega
          have HC_ := Lib.hid (HW.out.lay1 0 (by omega) ⟨ok1, ou1, oi1, os1, ob1⟩ hlen_)
          clear hlen_
          obtain ⟨q0, q1, q2, q3, q4⟩ := op_cells HW.out.mod HCE1.out
          go_wp2_with fail
          refine HC_.out.mono ?_
          rintro en wa ⟨rfl, hA⟩
          have HWa := Lib.hid hA
          clear HC_ hA q0 q1 q2 q3 q4 HW
          have hlen_ : ((up te1 0 (Pk.step (te1 0) ⟨ok1, ou1, oi1, os1, ob1⟩)) 2).1.length + (8 + ob1.size) ≤ 140737488355328 := by
            have := fold_len one k HF.out.1
            rw [up_ne _ _ _ (by decide), HF.out.2.1]
            omega
          have HC_ := Lib.hid (HWa.out.lay1 2 (by omega) ⟨ok1, ou1, oi1, os1, ob1⟩ hlen_)
          clear hlen_
          obtain ⟨q0, q1, q2, q3, q4⟩ := op_cells HWa.out.mod HCE1.out
          go_wp2_with fail
          refine HC_.out.mono ?_
          rintro en wc ⟨rfl, hA⟩
          have HWc := Lib.hid hA
          clear HC_ hA q0 q1 q2 q3 q4 HWa
          have hlen_ : ((up (up te1 0 (Pk.step (te1 0) ⟨ok1, ou1, oi1, os1, ob1⟩)) 2 (Pk.step ((up te1 0 (Pk.step (te1 0) ⟨ok1, ou1, oi1, os1, ob1⟩)) 2) ⟨ok1, ou1, oi1, os1, ob1⟩)) 1).1.length + (8 + ob2.size) ≤ 140737488355328 := by
            have := fold_len two k HF.out.2.2.1
            rw [up_ne _ _ _ (by decide), up_ne _ _ _ (by decide)]
            omega
          have HC_ := Lib.hid (HWc.out.lay1 1 (by omega) ⟨ok2, ou2, oi2, os2, ob2⟩ hlen_)
          clear hlen_
          obtain ⟨q0, q1, q2, q3, q4⟩ := op_cells HWc.out.mod HCE2.out
          go_wp2_with fail
          refine HC_.out.mono ?_
          rintro en wb ⟨rfl, hA⟩
          have HWb := Lib.hid hA
          clear HC_ hA q0 q1 q2 q3 q4 HWc
          have hkn2 : k + 1 ≤ n + n2 := by omega
          clear h1 h2
          go_wp2_with fail
          go_roundw
          case rel =>
            refine ⟨k + 1, _, hkn2, by go_num, HWb.out, Lib.hid ⟨?_, ?_, ?_, ?_⟩⟩
            · simp only [up, reduceIte, Nat.reduceEqDiff]; rw [HFO1.out, HF.out.1]
            · simp only [up, reduceIte, Nat.reduceEqDiff]; rw [HF.out.2.1]
            · simp only [up, reduceIte, Nat.reduceEqDiff]; rw [HFO2.out, HF.out.2.2.1]
            · simp only [up, reduceIte, Nat.reduceEqDiff]; exact HF.out.2.2.2
          case measure => simp [intOf]; omega
        · have hi2 : ¬ (k : Int) < (n2 : Int) := by omega
          have ht2 := take_more two k (by rw [HP2.out.1]; omega)
          have HT2 := Lib.hid ht2
          clear ht2
          have hlen_ : (te1 0).1.length + (8 + ob1.size) ≤ 140737488355328 := by
            have := fold_len one k HF.out.1
            omega
          have HC_ := Lib.hid (HW.out.lay1 0 (by omega) ⟨ok1, ou1, oi1, os1, ob1⟩ hlen_)
          clear hlen_
          obtain ⟨q0, q1, q2, q3, q4⟩ := op_cells HW.out.mod HCE1.out
          go_wp2_with fail
          refine HC_.out.mono ?_
          rintro en wa ⟨rfl, hA⟩
          have HWa := Lib.hid hA
          clear HC_ hA q0 q1 q2 q3 q4 HW
          have hlen_ : ((up te1 0 (Pk.step (te1 0) ⟨ok1, ou1, oi1, os1, ob1⟩)) 2).1.length + (8 + ob1.size) ≤ 140737488355328 := by
            have := fold_len one k HF.out.1
            rw [up_ne _ _ _ (by decide), HF.out.2.1]
            omega
          have HC_ := Lib.hid (HWa.out.lay1 2 (by omega) ⟨ok1, ou1, oi1, os1, ob1⟩ hlen_)
          clear hlen_
          obtain ⟨q0, q1, q2, q3, q4⟩ := op_cells HWa.out.mod HCE1.out
          go_wp2_with fail
          refine HC_.out.mono ?_
          rintro en wc ⟨rfl, hA⟩
          have HWc := Lib.hid hA
          clear HC_ hA q0 q1 q2 q3 q4 HWa
          have hkn2 : k + 1 ≤ n + n2 := by omega
          clear h1 h2
          go_wp2_with fail
          go_roundw
          case rel =>
            refine ⟨k + 1, _, hkn2, by go_num, HWc.out, Lib.hid ⟨?_, ?_, ?_, ?_⟩⟩
            · simp only [up, reduceIte, Nat.reduceEqDiff]; rw [HFO1.out, HF.out.1]
            · simp only [up, reduceIte, Nat.reduceEqDiff]; rw [HF.out.2.1]
            · simp only [up, reduceIte, Nat.reduceEqDiff]; rw [HT2.out]; exact HF.out.2.2.1
            · simp only [up, reduceIte, Nat.reduceEqDiff]; exact HF.out.2.2.2
          case measure => simp [intOf]; omega
      · have hi1 : ¬ (k : Int) < (n : Int) := by omega
        by_cases h2 : k < n2
        · have hi2 : (k : Int) < (n2 : Int) := by omega
          have ht1 := take_more one k (by rw [HP.out.1]; omega)
          have HT1 := Lib.hid ht1
          clear ht1
          obtain ⟨hol2, -, hoc2⟩ := HP2.out
          obtain ⟨lb2, lo2, rfl, hlb2, hcc2⟩ := hoc2 (by omega)
          obtain ⟨o2, ho2⟩ : ∃ o, two[k]? = some o := ⟨_, List.getElem?_eq_getElem (by omega)⟩
          have hc2 := hcc2 k o2 ho2
          have hwa2 := Pk.weight_take two k o2 ho2
          have hwb2 := Pk.weight_le two (k + 1)
          have hwc2 := HL2.out
          have hfo2 := foldl_take two k o2 ho2 ([], 0)
          obtain ⟨ok2, ou2, oi2, os2, ob2⟩ := o2
          have hwd2 : Pk.weight (two.take k) + (8 + ob2.size) ≤ 70368744177664 := by simp only at hwa2; omega
          have HCE2 := Lib.hid hc2; have HFO2 := Lib.hid hfo2
          clear hcc2 hoc2 hol2 ho2 hc2 hfo2 hwa2 hwb2 hwc2
          have hlen_ : (te1 1).1.length + (8 + ob2.size) ≤ 140737488355328 := by
            have := fold_len two k HF.out.2.2.1
            omega
          have HC_ := Lib.hid (HW.out.lay1 1 (by omega) ⟨ok2, ou2, oi2, os2, ob2⟩ hlen_)
          clear hlen_
          obtain ⟨q0, q1, q2, q3, q4⟩ := op_cells HW.out.mod HCE2.out
          go_wp2_with fail
          refine HC_.out.mono ?_
          rintro en wb ⟨rfl, hA⟩
          have HWb := Lib.hid hA
          clear HC_ hA q0 q1 q2 q3 q4 HW
          have hkn2 : k + 1 ≤ n + n2 := by omega
          clear h1 h2
          go_wp2_with fail
          go_roundw
          case rel =>
            refine ⟨k + 1, _, hkn2, by go_num, HWb.out, Lib.hid ⟨?_, ?_, ?_, ?_⟩⟩
            · simp only [up, reduceIte, Nat.reduceEqDiff]; rw [HT1.out]; exact HF.out.1
            · simp only [up, reduceIte, Nat.reduceEqDiff]; exact HF.out.2.1
            · simp only [up, reduceIte]; rw [HFO2.out, HF.out.2.2.1]
            · simp only [up, reduceIte, Nat.reduceEqDiff]; exact HF.out.2.2.2
          case measure => simp [intOf]; omega
        · have hi2 : ¬ (k : Int) < (n2 : Int) := by omega
          have e1 : one.take k = one := List.take_of_length_le (by rw [HP.out.1]; omega)
          have e2 : two.take k = two := List.take_of_length_le (by rw [HP2.out.1]; omega)
          have hf := HF.out
          rw [e1, e2] at hf
          have HF2 := Lib.hid hf
          clear hf HF e1 e2
          go_wp2_with fail
          go_meet
          exact ⟨te1, HW.out, HF2⟩
  case rest =>
    obtain ⟨te2, hW, HF⟩ := hcut
    have HW2 := Lib.hid hW
    clear hW HW HT
    go_upto_block 2 with fail
    obtain ⟨R1, hR1⟩ : ∃ R1, one.foldl Pk.step ([], 0) = R1 := ⟨_, rfl⟩
    have hf := HF.out
    rw [hR1] at hf
    have HF2 := Lib.hid hf
    have hlR1 : R1.1.length ≤ 70368744177664 := by have := run_len one ([], 0); have := HL.out; rw [hR1] at *; simp at *; omega
    clear hf HF hR1
    go_cut [10] (fun _ wx => ∃ te, Wrs w wx 4 G te ∧ Hid (te 0 = R1 ∧ te 2 = R1 ∧ te 1 = two.foldl Pk.step ([], 0) ∧ te 3 = two.foldl Pk.step ([], 0)))
    case first =>
      go_wp2_with fail
      go_loopw [10] (fun i wr => ∃ (k : Nat) (te : Nat → List Int × Int), k ≤ n2 ∧ i = .int .i64 k ∧ Wrs w wr 4 G te ∧ Hid (te 0 = R1 ∧ te 2 = R1 ∧ te 1 = two.foldl Pk.step ([], 0) ∧ te 3 = (two.take k).foldl Pk.step ([], 0))) (fun i _ => n2 - (intOf i).toNat)
      case atStart => exact ⟨0, te2, by omega, rfl, HW2.out, Lib.hid ⟨HF2.out.1, by rw [HF2.out.2.1, HF2.out.1], HF2.out.2.2.1, HF2.out.2.2.2⟩⟩
      case round =>
        clear HW2 HF2
        obtain ⟨k, te1, hk, rfl, hW, HF⟩ := hrel
        have HW := Lib.hid hW
        clear hW
        by_cases h2 : k < n2
        · have hi2 : (k : Int) < (n2 : Int) := by omega
          obtain ⟨hol2, -, hoc2⟩ := HP2.out
          obtain ⟨lb2, lo2, rfl, hlb2, hcc2⟩ := hoc2 (by omega)
          obtain ⟨o2, ho2⟩ : ∃ o, two[k]? = some o := ⟨_, List.getElem?_eq_getElem (by omega)⟩
          have hc2 := hcc2 k o2 ho2
          have hwa2 := Pk.weight_take two k o2 ho2
          have hwb2 := Pk.weight_le two (k + 1)
          have hwc2 := HL2.out
          have hfo2 := foldl_take two k o2 ho2 ([], 0)
          obtain ⟨ok2, ou2, oi2, os2, ob2⟩ := o2
          have hwd2 : Pk.weight (two.take k) + (8 + ob2.size) ≤ 70368744177664 := by simp only at hwa2; omega
          have HCE2 := Lib.hid hc2; have HFO2 := Lib.hid hfo2
          clear hcc2 hoc2 hol2 ho2 hc2 hfo2 hwa2 hwb2 hwc2
          have hlen_ : (te1 3).1.length + (8 + ob2.size) ≤ 140737488355328 := by
            have := fold_len two k HF.out.2.2.2
            omega
          have HC_ := Lib.hid (HW.out.lay1 3 (by omega) ⟨ok2, ou2, oi2, os2, ob2⟩ hlen_)
          clear hlen_
          obtain ⟨q0, q1, q2, q3, q4⟩ := op_cells HW.out.mod HCE2.out
          go_wp2_with fail
          refine HC_.out.mono ?_
          rintro en wb ⟨rfl, hA⟩
          have HWb := Lib.hid hA
          clear HC_ hA q0 q1 q2 q3 q4 HW
          have hkn2 : k + 1 ≤ n2 := by omega
          clear h2
          go_wp2_with fail
          go_roundw
          case rel =>
            refine ⟨k + 1, _, hkn2, by go_num, HWb.out, Lib.hid ⟨?_, ?_, ?_, ?_⟩⟩
            · simp only [up, reduceIte, Nat.reduceEqDiff]; exact HF.out.1
            · simp only [up, reduceIte, Nat.reduceEqDiff]; exact HF.out.2.1
            · simp only [up, reduceIte, Nat.reduceEqDiff]; exact HF.out.2.2.1
            · simp only [up, reduceIte]; rw [HFO2.out, HF.out.2.2.2]
          case measure => simp [intOf]; omega
        · have hi2 : ¬ (k : Int) < (n2 : Int) := by omega
          have e2 : two.take k = two := List.take_of_length_le (by rw [HP2.out.1]; omega)
          have hf := HF.out
          rw [e2] at hf
          have HF2 := Lib.hid hf
          clear hf HF e2
          go_wp2_with fail
          go_meet
          exact ⟨te1, HW.out, HF2⟩
    case rest =>
      obtain ⟨te3, hW, HF⟩ := hcut
      have HW3 := Lib.hid hW
      obtain ⟨R2, hR2⟩ : ∃ R2, two.foldl Pk.step ([], 0) = R2 := ⟨_, rfl⟩
      have hf := HF.out
      rw [hR2] at hf
      have HF3 := Lib.hid hf
      have hlR2 : R2.1.length ≤ 70368744177664 := by have := run_len two ([], 0); have := HL2.out; rw [hR2] at *; simp at *; omega
      clear hf HF hR2 hW HW2 HF2
      have done_of : ∀ {wx : World} (h : Wrs w wx 4 G te3) (i : Nat) (hi : i < 4) (R : List Int × Int) (hR : te3 i = R) (hl : R.1.length ≤ 70368744177664) (S : ByteArray) (hS : (if R.2 = 0 then strOf R.1 else ⟨#[]⟩) = S), Calls Try.prog 20 #[.pointer (some ⟨G i, 0, none⟩)] wx fun e w' => e = .returned (.tuple #[.string S, .int .i64 R.2]) ∧ Wrs w w' 4 G te3 := by
        intro wx h i hi R hR hl S hS
        subst hR hS
        exact h.done i hi (by omega)
      obtain ⟨S, hS⟩ : ∃ S, (if R1.2 = 0 then strOf R1.1 else ⟨#[]⟩) = S := ⟨_, rfl⟩
      obtain ⟨T, hT⟩ : ∃ T, (if R2.2 = 0 then strOf R2.1 else ⟨#[]⟩) = T := ⟨_, rfl⟩
      have hSz := done_size R1 hlR1 S hS
      have hTz := done_size R2 hlR2 T hT
      have D0 := Lib.hid (fun (wx : World) (h : Wrs w wx 4 G te3) => done_of h 0 (by omega) R1 HF3.out.1 hlR1 S hS)
      have D1 := Lib.hid (fun (wx : World) (h : Wrs w wx 4 G te3) => done_of h 1 (by omega) R2 HF3.out.2.2.1 hlR2 T hT)
      have D2 := Lib.hid (fun (wx : World) (h : Wrs w wx 4 G te3) => done_of h 2 (by omega) R1 HF3.out.2.1 hlR1 S hS)
      have D3 := Lib.hid (fun (wx : World) (h : Wrs w wx 4 G te3) => done_of h 3 (by omega) R2 HF3.out.2.2.2 hlR2 T hT)
      obtain ⟨E1, hE1⟩ : ∃ E1, R1.2 = E1 := ⟨_, rfl⟩
      obtain ⟨E2, hE2⟩ : ∃ E2, R2.2 = E2 := ⟨_, rfl⟩
      rw [hE1] at D0 D2
      rw [hE2] at D1 D3
      clear done_of hS hT hlR1 hlR2 HF3 hE1 hE2
      go_wp2_with fail
      refine (D0.out _ HW3.out).mono ?_
      rintro e wa ⟨rfl, hW⟩
      have HWa := Lib.hid hW
      clear hW HW3 D0
      go_wp2_with fail
      refine (D1.out _ HWa.out).mono ?_
      rintro e wb ⟨rfl, hW⟩
      have HWb := Lib.hid hW
      clear hW HWa D1
      go_wp2_with fail
      refine (D2.out _ HWb.out).mono ?_
      rintro e wc ⟨rfl, hW⟩
      have HWc := Lib.hid hW
      clear hW HWb D2
      go_wp2_with fail
      refine (D3.out _ HWc.out).mono ?_
      rintro e wd ⟨rfl, hW⟩
      have HM := Lib.hid hW.mod
      clear hW HWc D3
      go_wp2_with fail
      refine (new_reader wd S).mono ?_
      rintro e we ⟨rfl, hM3, h3, hs3⟩
      have hMe := HM.out.then hM3
      have hX : w.heap.size ≤ wd.heap.size := HM.out.size
      have hx3 := h3.row.lt
      have H3 := Lib.hid h3; have HMe := Lib.hid hMe
      generalize wd.heap.size = X at *
      clear h3 hM3 hs3 hMe HM
      go_wp2_with fail
      refine (new_reader we T).mono ?_
      rintro e wf ⟨rfl, hM4, h4, hs4⟩
      have hrr : RR w wf X we.heap.size ((num S).drop 0) ((num T).drop 0) := ⟨H3.out.mod hM4 (fun h => h), h4, HMe.out.then hM4, ⟨hX, HMe.out.size⟩, by omega⟩
      have HR := Lib.hid hrr
      clear hM4 h4 hs4 hrr H3 HMe hx3
      generalize we.heap.size = Y at *
      go_upto_block 4 with fail
      go_cut [21] (fun _ wx => ∃ k, S.size ≤ k ∧ T.size ≤ k ∧ RR w wx X Y ((num S).drop k) ((num T).drop k))
      case first =>
        go_wp2_with fail
        go_loopw [21] (fun i wr => ∃ k : Nat, k ≤ S.size + T.size ∧ i = .int .i64 k ∧ RR w wr X Y ((num S).drop k) ((num T).drop k)) (fun i _ => S.size + T.size - (intOf i).toNat)
        case atStart => exact ⟨0, by omega, rfl, HR.out⟩
        case round =>
          clear HR
          obtain ⟨k, hk, rfl, hR⟩ := hrel
          have HR := Lib.hid hR
          clear hR
          by_cases h1 : k < S.size
          · have HSl1 := fun wx => slice_at S k h1 wx
            obtain ⟨P1, hP1⟩ : ∃ P1, S.extract k (k + 1) = P1 := ⟨_, rfl⟩
            have CL1 := Lib.hid (fun wx (h : RdAt wx X ((num S).drop k) 0) => left_at wx X S k h1 h _ rfl)
            have CB1 := Lib.hid (fun wx (h : RdAt wx X ((num S).drop k) 0) => piece_at wx X S k h1 h)
            rw [hP1] at HSl1 CB1
            have eL1 : IntKind.i64.wrap ((S.size : Int) - (k : Int)) = (S.size : Int) - (k : Int) := by rw [IntKind.wrap_i64]; omega
            have hi1 : (k : Int) < (S.size : Int) := by omega
            clear hP1
            have eK1 : IntKind.i64.wrap ((k : Int) + 1) = (k : Int) + 1 := by rw [IntKind.wrap_i64]; omega
            by_cases h2 : k < T.size
            · have HSl2 := fun wx => slice_at T k h2 wx
              obtain ⟨P2, hP2⟩ : ∃ P2, T.extract k (k + 1) = P2 := ⟨_, rfl⟩
              have CL2 := Lib.hid (fun wx (h : RdAt wx Y ((num T).drop k) 0) => left_at wx Y T k h2 h _ rfl)
              have CB2 := Lib.hid (fun wx (h : RdAt wx Y ((num T).drop k) 0) => piece_at wx Y T k h2 h)
              rw [hP2] at HSl2 CB2
              have eL2 : IntKind.i64.wrap ((T.size : Int) - (k : Int)) = (T.size : Int) - (k : Int) := by rw [IntKind.wrap_i64]; omega
              have hi2 : (k : Int) < (T.size : Int) := by omega
              clear hP2
              go_upto_region 27 with fail
              refine wp_region_noPanic ?_
              refine wp_region_held_drew (S := fun _ => True) (by kernel_rfl) trivial (fun hHeld => ?_)
              clear hHeld
              have HRX := Lib.hid HR.out.drew
              refine wpAnyH_take (i := 0) (v := ?_) (by simp only [List.getElem?_toArray, List.getElem?_cons_zero]; rfl) (by kernel_rfl) (by kernel_rfl) (by kernel_rfl) (fun _ _ _ h => h) (Or.inl ⟨by rfl, ?_⟩) trivial ?_
              rotate_left
              · (intro wq hSw; go_simp; all_goals with_reducible rfl)
              try simp only [Act.put, List.setIfInBounds_toArray, List.set_cons_zero, List.set_cons_succ]
              refine wpAnyH_take (i := 1) (v := ?_) (by simp only [List.getElem?_toArray, List.getElem?_cons_zero, List.getElem?_cons_succ]; rfl) (by kernel_rfl) (by kernel_rfl) (by kernel_rfl) (fun _ _ _ h => h) (Or.inl ⟨by rfl, ?_⟩) trivial ?_
              rotate_left
              · (intro wq hSw; go_simp; all_goals with_reducible rfl)
              try simp only [Act.put, List.setIfInBounds_toArray, List.set_cons_zero, List.set_cons_succ]
              refine wpAnyH_take (i := 2) (v := ?_) (by simp only [List.getElem?_toArray, List.getElem?_cons_zero, List.getElem?_cons_succ]; rfl) (by kernel_rfl) (by kernel_rfl) (by kernel_rfl) (fun _ _ _ h => h) (Or.inl ⟨by rfl, ?_⟩) trivial ?_
              rotate_left
              · (intro wq hSw; go_simp; all_goals with_reducible rfl)
              try simp only [Act.put, List.setIfInBounds_toArray, List.set_cons_zero, List.set_cons_succ]
              refine wpAnyH_take (i := 3) (v := ?_) (by simp only [List.getElem?_toArray, List.getElem?_cons_zero, List.getElem?_cons_succ]; rfl) (by kernel_rfl) (by kernel_rfl) (by kernel_rfl) (fun _ _ _ h => h) (Or.inl ⟨by rfl, ?_⟩) trivial ?_
              rotate_left
              · (intro wq hSw; go_simp; all_goals with_reducible rfl)
              try simp only [Act.put, List.setIfInBounds_toArray, List.set_cons_zero, List.set_cons_succ]
              refine wpAnyH_take (i := 4) (v := ?_) (by simp only [List.getElem?_toArray, List.getElem?_cons_zero, List.getElem?_cons_succ]; rfl) (by kernel_rfl) (by kernel_rfl) (by kernel_rfl) (fun _ _ _ h => h) (Or.inl ⟨by rfl, ?_⟩) trivial ?_
              rotate_left
              · (intro wq hSw; go_simp; all_goals with_reducible rfl)
              try simp only [Act.put, List.setIfInBounds_toArray, List.set_cons_zero, List.set_cons_succ]
              refine wpAnyH_take (i := 5) (v := ?_) (by simp only [List.getElem?_toArray, List.getElem?_cons_zero, List.getElem?_cons_succ]; rfl) (by kernel_rfl) (by kernel_rfl) (by kernel_rfl) (fun _ _ _ h => h) (Or.inl ⟨by rfl, ?_⟩) trivial ?_
              rotate_left
              · (intro wq hSw; go_simp; all_goals with_reducible rfl)
              try simp only [Act.put, List.setIfInBounds_toArray, List.set_cons_zero, List.set_cons_succ]
              refine wpAnyH_take (i := 7) (v := ?_) (by simp only [List.getElem?_toArray, List.getElem?_cons_zero, List.getElem?_cons_succ]; rfl) (by kernel_rfl) (by kernel_rfl) (by kernel_rfl) (fun _ _ _ h => h) (Or.inl ⟨by rfl, ?_⟩) trivial ?_
              rotate_left
              · (intro wq hSw; go_simp; all_goals with_reducible rfl)
              try simp only [Act.put, List.setIfInBounds_toArray, List.set_cons_zero, List.set_cons_succ]
              refine wpAnyH_take (i := 8) (v := ?_) (by simp only [List.getElem?_toArray, List.getElem?_cons_zero, List.getElem?_cons_succ]; rfl) (by kernel_rfl) (by kernel_rfl) (by kernel_rfl) (fun _ _ _ h => h) (Or.inl ⟨by rfl, ?_⟩) trivial ?_
              rotate_left
              · (intro wq hSw; go_simp; all_goals with_reducible rfl)
              try simp only [Act.put, List.setIfInBounds_toArray, List.set_cons_zero, List.set_cons_succ]
              refine wpAnyH_take (i := 9) (v := ?_) (by simp only [List.getElem?_toArray, List.getElem?_cons_zero, List.getElem?_cons_succ]; rfl) (by kernel_rfl) (by kernel_rfl) (by kernel_rfl) (fun _ _ _ h => h) (Or.inl ⟨by rfl, ?_⟩) trivial ?_
              rotate_left
              · (intro wq hSw; go_simp; all_goals with_reducible rfl)
              try simp only [Act.put, List.setIfInBounds_toArray, List.set_cons_zero, List.set_cons_succ]
              refine wpAnyH_take (i := 10) (v := ?_) (by simp only [List.getElem?_toArray, List.getElem?_cons_zero, List.getElem?_cons_succ]; rfl) (by kernel_rfl) (by kernel_rfl) (by kernel_rfl) (fun _ _ _ h => h) (Or.inl ⟨by rfl, ?_⟩) trivial ?_
              rotate_left
              · (intro wq hSw; go_simp; all_goals with_reducible rfl)
              try simp only [Act.put, List.setIfInBounds_toArray, List.set_cons_zero, List.set_cons_succ]
              refine wpAnyH_ready (rs := [6]) (by kernel_rfl) (by simp) ?_
              refine AllReadyH.cons (by simp only [List.getElem?_toArray, List.getElem?_cons_zero, List.getElem?_cons_succ]; rfl) (fun K hK => ?_) AllReadyH.nil
              go_simp
              (go_at_call 25; refine (CL1.out _ HRX.out.x).mono ?_; rintro en w9 ⟨rfl, rfl⟩)
              go_wp2_with fail
              refine hK.out _ _ trivial (fun _ => ?_)
              clear hK K
              try simp only [Act.put, List.setIfInBounds_toArray, List.set_cons_zero, List.set_cons_succ]
              refine wpAnyH_take (i := 11) (v := ?_) (by simp only [List.getElem?_toArray, List.getElem?_cons_zero, List.getElem?_cons_succ]; rfl) (by kernel_rfl) (by kernel_rfl) (by kernel_rfl) (fun _ _ _ h => h) (Or.inl ⟨by rfl, ?_⟩) trivial ?_
              rotate_left
              · (intro wq hSw; go_simp; all_goals with_reducible rfl)
              try simp only [Act.put, List.setIfInBounds_toArray, List.set_cons_zero, List.set_cons_succ]
              refine wpAnyH_take (i := 12) (v := ?_) (by simp only [List.getElem?_toArray, List.getElem?_cons_zero, List.getElem?_cons_succ]; rfl) (by kernel_rfl) (by kernel_rfl) (by kernel_rfl) (fun _ _ _ h => h) (Or.inl ⟨by rfl, ?_⟩) trivial ?_
              rotate_left
              · (intro wq hSw; go_simp; all_goals with_reducible rfl)
              try simp only [Act.put, List.setIfInBounds_toArray, List.set_cons_zero, List.set_cons_succ]
              refine wpAnyH_take (i := 13) (v := ?_) (by simp only [List.getElem?_toArray, List.getElem?_cons_zero, List.getElem?_cons_succ]; rfl) (by kernel_rfl) (by kernel_rfl) (by kernel_rfl) (fun _ _ _ h => h) (Or.inl ⟨by rfl, ?_⟩) trivial ?_
              rotate_left
              · (intro wq hSw; go_simp; all_goals with_reducible rfl)
              try simp only [Act.put, List.setIfInBounds_toArray, List.set_cons_zero, List.set_cons_succ]
              refine wpAnyH_take (i := 15) (v := ?_) (by simp only [List.getElem?_toArray, List.getElem?_cons_zero, List.getElem?_cons_succ]; rfl) (by kernel_rfl) (by kernel_rfl) (by kernel_rfl) (fun _ _ _ h => h) (Or.inl ⟨by rfl, ?_⟩) trivial ?_
              rotate_left
              · (intro wq hSw; go_simp; all_goals with_reducible rfl)
              try simp only [Act.put, List.setIfInBounds_toArray, List.set_cons_zero, List.set_cons_succ]
              refine wpAnyH_take (i := 16) (v := ?_) (by simp only [List.getElem?_toArray, List.getElem?_cons_zero, List.getElem?_cons_succ]; rfl) (by kernel_rfl) (by kernel_rfl) (by kernel_rfl) (fun _ _ _ h => h) (Or.inl ⟨by rfl, ?_⟩) trivial ?_
              rotate_left
              · (intro wq hSw; go_simp; all_goals with_reducible rfl)
              try simp only [Act.put, List.setIfInBounds_toArray, List.set_cons_zero, List.set_cons_succ]
              refine wpAnyH_take (i := 17) (v := ?_) (by simp only [List.getElem?_toArray, List.getElem?_cons_zero, List.getElem?_cons_succ]; rfl) (by kernel_rfl) (by kernel_rfl) (by kernel_rfl) (fun _ _ _ h => h) (Or.inl ⟨by rfl, ?_⟩) trivial ?_
              rotate_left
              · (intro wq hSw; go_simp; all_goals with_reducible rfl)
              try simp only [Act.put, List.setIfInBounds_toArray, List.set_cons_zero, List.set_cons_succ]
              refine wpAnyH_take (i := 18) (v := ?_) (by simp only [List.getElem?_toArray, List.getElem?_cons_zero, List.getElem?_cons_succ]; rfl) (by kernel_rfl) (by kernel_rfl) (by kernel_rfl) (fun _ _ _ h => h) (Or.inl ⟨by rfl, ?_⟩) trivial ?_
              rotate_left
              · (intro wq hSw; go_simp; all_goals with_reducible rfl)
              try simp only [Act.put, List.setIfInBounds_toArray, List.set_cons_zero, List.set_cons_succ]
              refine wpAnyH_take (i := 19) (v := ?_) (by simp only [List.getElem?_toArray, List.getElem?_cons_zero, List.getElem?_cons_succ]; rfl) (by kernel_rfl) (by kernel_rfl) (by kernel_rfl) (fun _ _ _ h => h) (Or.inl ⟨by rfl, ?_⟩) trivial ?_
              rotate_left
              · (intro wq hSw; go_simp; all_goals with_reducible rfl)
              try simp only [Act.put, List.setIfInBounds_toArray, List.set_cons_zero, List.set_cons_succ]
              refine wpAnyH_ready (rs := [14]) (by kernel_rfl) (by simp) ?_
              refine AllReadyH.cons (by simp only [List.getElem?_toArray, List.getElem?_cons_zero, List.getElem?_cons_succ]; rfl) (fun K hK => ?_) AllReadyH.nil
              go_simp
              (go_at_call 34; refine (CB1.out _ HRX.out.x).mono ?_; rintro en w9 ⟨rfl, hT9⟩; have HX := Lib.hid (HRX.out.readX hT9); clear hT9)
              go_wp2_with fail
              refine hK.out _ _ trivial (fun _ => ?_)
              clear hK K
              try simp only [Act.put, List.setIfInBounds_toArray, List.set_cons_zero, List.set_cons_succ]
              refine wpAnyH_take (i := 20) (v := ?_) (by simp only [List.getElem?_toArray, List.getElem?_cons_zero, List.getElem?_cons_succ]; rfl) (by kernel_rfl) (by kernel_rfl) (by kernel_rfl) (fun _ _ _ h => h) (Or.inl ⟨by rfl, ?_⟩) trivial ?_
              rotate_left
              · (intro wq hSw; go_simp; all_goals with_reducible rfl)
              try simp only [Act.put, List.setIfInBounds_toArray, List.set_cons_zero, List.set_cons_succ]
              refine wpAnyH_take (i := 21) (v := ?_) (by simp only [List.getElem?_toArray, List.getElem?_cons_zero, List.getElem?_cons_succ]; rfl) (by kernel_rfl) (by kernel_rfl) (by kernel_rfl) (fun _ _ _ h => h) (Or.inl ⟨by rfl, ?_⟩) trivial ?_
              rotate_left
              · (intro wq hSw; go_simp; all_goals with_reducible rfl)
              try simp only [Act.put, List.setIfInBounds_toArray, List.set_cons_zero, List.set_cons_succ]
              refine wpAnyH_take (i := 22) (v := ?_) (by simp only [List.getElem?_toArray, List.getElem?_cons_zero, List.getElem?_cons_succ]; rfl) (by kernel_rfl) (by kernel_rfl) (by kernel_rfl) (fun _ _ _ h => h) (Or.inl ⟨by rfl, ?_⟩) trivial ?_
              rotate_left
              · (intro wq hSw; go_simp; all_goals with_reducible rfl)
              try simp only [Act.put, List.setIfInBounds_toArray, List.set_cons_zero, List.set_cons_succ]
              refine wpAnyH_take (i := 23) (v := ?_) (by simp only [List.getElem?_toArray, List.getElem?_cons_zero, List.getElem?_cons_succ]; rfl) (by kernel_rfl) (by kernel_rfl) (by kernel_rfl) (fun _ _ _ h => h) (Or.inl ⟨by rfl, ?_⟩) trivial ?_
              rotate_left
              · (intro wq hSw; go_simp; all_goals with_reducible rfl)
              try simp only [Act.put, List.setIfInBounds_toArray, List.set_cons_zero, List.set_cons_succ]
              refine wpAnyH_take (i := 24) (v := ?_) (by simp only [List.getElem?_toArray, List.getElem?_cons_zero, List.getElem?_cons_succ]; rfl) (by kernel_rfl) (by kernel_rfl) (by kernel_rfl) (fun _ _ _ h => h) (Or.inl ⟨by rfl, ?_⟩) trivial ?_
              rotate_left
              · (intro wq hSw; go_simp; all_goals with_reducible rfl)
              try simp only [Act.put, List.setIfInBounds_toArray, List.set_cons_zero, List.set_cons_succ]
              refine wpAnyH_take (i := 25) (v := ?_) (by simp only [List.getElem?_toArray, List.getElem?_cons_zero, List.getElem?_cons_succ]; rfl) (by kernel_rfl) (by kernel_rfl) (by kernel_rfl) (fun _ _ _ h => h) (Or.inl ⟨by rfl, ?_⟩) trivial ?_
              rotate_left
              · (intro wq hSw; go_simp; all_goals with_reducible rfl)
              try simp only [Act.put, List.setIfInBounds_toArray, List.set_cons_zero, List.set_cons_succ]
              refine wpAnyH_take (i := 26) (v := ?_) (by simp only [List.getElem?_toArray, List.getElem?_cons_zero, List.getElem?_cons_succ]; rfl) (by kernel_rfl) (by kernel_rfl) (by kernel_rfl) (fun _ _ _ h => h) (Or.inl ⟨by rfl, ?_⟩) trivial ?_
              rotate_left
              · (intro wq hSw; go_simp; all_goals with_reducible rfl)
              try simp only [Act.put, List.setIfInBounds_toArray, List.set_cons_zero, List.set_cons_succ]
              refine wpAnyH_take (i := 27) (v := ?_) (by simp only [List.getElem?_toArray, List.getElem?_cons_zero, List.getElem?_cons_succ]; rfl) (by kernel_rfl) (by kernel_rfl) (by kernel_rfl) (fun _ _ _ h => h) (Or.inl ⟨by rfl, ?_⟩) trivial ?_
              rotate_left
              · (intro wq hSw; go_simp; all_goals with_reducible rfl)
              try simp only [Act.put, List.setIfInBounds_toArray, List.set_cons_zero, List.set_cons_succ]
              refine wpAnyH_take (i := 28) (v := ?_) (by simp only [List.getElem?_toArray, List.getElem?_cons_zero, List.getElem?_cons_succ]; rfl) (by kernel_rfl) (by kernel_rfl) (by kernel_rfl) (fun _ _ _ h => h) (Or.inl ⟨by rfl, ?_⟩) trivial ?_
              rotate_left
              · (intro wq hSw; go_simp; all_goals with_reducible rfl)
              try simp only [Act.put, List.setIfInBounds_toArray, List.set_cons_zero, List.set_cons_succ]
              refine wpAnyH_take (i := 29) (v := ?_) (by simp only [List.getElem?_toArray, List.getElem?_cons_zero, List.getElem?_cons_succ]; rfl) (by kernel_rfl) (by kernel_rfl) (by kernel_rfl) (fun _ _ _ h => h) (Or.inl ⟨by rfl, ?_⟩) trivial ?_
              rotate_left
              · (intro wq hSw; go_simp; all_goals with_reducible rfl)
              try simp only [Act.put, List.setIfInBounds_toArray, List.set_cons_zero, List.set_cons_succ]
              refine wpAnyH_take (i := 31) (v := ?_) (by simp only [List.getElem?_toArray, List.getElem?_cons_zero, List.getElem?_cons_succ]; rfl) (by kernel_rfl) (by kernel_rfl) (by kernel_rfl) (fun _ _ _ h => h) (Or.inl ⟨by rfl, ?_⟩) trivial ?_
              rotate_left
              · (intro wq hSw; go_simp; all_goals with_reducible rfl)
              try simp only [Act.put, List.setIfInBounds_toArray, List.set_cons_zero, List.set_cons_succ]
              refine wpAnyH_take (i := 32) (v := ?_) (by simp only [List.getElem?_toArray, List.getElem?_cons_zero, List.getElem?_cons_succ]; rfl) (by kernel_rfl) (by kernel_rfl) (by kernel_rfl) (fun _ _ _ h => h) (Or.inl ⟨by rfl, ?_⟩) trivial ?_
              rotate_left
              · (intro wq hSw; go_simp; all_goals with_reducible rfl)
              try simp only [Act.put, List.setIfInBounds_toArray, List.set_cons_zero, List.set_cons_succ]
              refine wpAnyH_take (i := 33) (v := ?_) (by simp only [List.getElem?_toArray, List.getElem?_cons_zero, List.getElem?_cons_succ]; rfl) (by kernel_rfl) (by kernel_rfl) (by kernel_rfl) (fun _ _ _ h => h) (Or.inl ⟨by rfl, ?_⟩) trivial ?_
              rotate_left
              · (intro wq hSw; go_simp; all_goals with_reducible rfl)
              try simp only [Act.put, List.setIfInBounds_toArray, List.set_cons_zero, List.set_cons_succ]
              refine wpAnyH_take (i := 34) (v := ?_) (by simp only [List.getElem?_toArray, List.getElem?_cons_zero, List.getElem?_cons_succ]; rfl) (by kernel_rfl) (by kernel_rfl) (by kernel_rfl) (fun _ _ _ h => h) (Or.inl ⟨by rfl, ?_⟩) trivial ?_
              rotate_left
              · (intro wq hSw; go_simp; all_goals with_reducible rfl)
              try simp only [Act.put, List.setIfInBounds_toArray, List.set_cons_zero, List.set_cons_succ]
              refine wpAnyH_ready (rs := [30]) (by kernel_rfl) (by simp) ?_
              refine AllReadyH.cons (by simp only [List.getElem?_toArray, List.getElem?_cons_zero, List.getElem?_cons_succ]; rfl) (fun K hK => ?_) AllReadyH.nil
              go_simp
              (go_at_call 25; refine (CL2.out _ HX.out.y).mono ?_; rintro en w10 ⟨rfl, rfl⟩)
              go_wp2_with fail
              refine hK.out _ _ trivial (fun _ => ?_)
              clear hK K
              try simp only [Act.put, List.setIfInBounds_toArray, List.set_cons_zero, List.set_cons_succ]
              refine wpAnyH_take (i := 35) (v := ?_) (by simp only [List.getElem?_toArray, List.getElem?_cons_zero, List.getElem?_cons_succ]; rfl) (by kernel_rfl) (by kernel_rfl) (by kernel_rfl) (fun _ _ _ h => h) (Or.inl ⟨by rfl, ?_⟩) trivial ?_
              rotate_left
              · (intro wq hSw; go_simp; all_goals with_reducible rfl)
              try simp only [Act.put, List.setIfInBounds_toArray, List.set_cons_zero, List.set_cons_succ]
              refine wpAnyH_take (i := 36) (v := ?_) (by simp only [List.getElem?_toArray, List.getElem?_cons_zero, List.getElem?_cons_succ]; rfl) (by kernel_rfl) (by kernel_rfl) (by kernel_rfl) (fun _ _ _ h => h) (Or.inl ⟨by rfl, ?_⟩) trivial ?_
              rotate_left
              · (intro wq hSw; go_simp; all_goals with_reducible rfl)
              try simp only [Act.put, List.setIfInBounds_toArray, List.set_cons_zero, List.set_cons_succ]
              refine wpAnyH_take (i := 37) (v := ?_) (by simp only [List.getElem?_toArray, List.getElem?_cons_zero, List.getElem?_cons_succ]; rfl) (by kernel_rfl) (by kernel_rfl) (by kernel_rfl) (fun _ _ _ h => h) (Or.inl ⟨by rfl, ?_⟩) trivial ?_
              rotate_left
              · (intro wq hSw; go_simp; all_goals with_reducible rfl)
              try simp only [Act.put, List.setIfInBounds_toArray, List.set_cons_zero, List.set_cons_succ]
              refine wpAnyH_take (i := 39) (v := ?_) (by simp only [List.getElem?_toArray, List.getElem?_cons_zero, List.getElem?_cons_succ]; rfl) (by kernel_rfl) (by kernel_rfl) (by kernel_rfl) (fun _ _ _ h => h) (Or.inl ⟨by rfl, ?_⟩) trivial ?_
              rotate_left
              · (intro wq hSw; go_simp; all_goals with_reducible rfl)
              try simp only [Act.put, List.setIfInBounds_toArray, List.set_cons_zero, List.set_cons_succ]
              refine wpAnyH_take (i := 40) (v := ?_) (by simp only [List.getElem?_toArray, List.getElem?_cons_zero, List.getElem?_cons_succ]; rfl) (by kernel_rfl) (by kernel_rfl) (by kernel_rfl) (fun _ _ _ h => h) (Or.inl ⟨by rfl, ?_⟩) trivial ?_
              rotate_left
              · (intro wq hSw; go_simp; all_goals with_reducible rfl)
              try simp only [Act.put, List.setIfInBounds_toArray, List.set_cons_zero, List.set_cons_succ]
              refine wpAnyH_take (i := 41) (v := ?_) (by simp only [List.getElem?_toArray, List.getElem?_cons_zero, List.getElem?_cons_succ]; rfl) (by kernel_rfl) (by kernel_rfl) (by kernel_rfl) (fun _ _ _ h => h) (Or.inl ⟨by rfl, ?_⟩) trivial ?_
              rotate_left
              · (intro wq hSw; go_simp; all_goals with_reducible rfl)
              try simp only [Act.put, List.setIfInBounds_toArray, List.set_cons_zero, List.set_cons_succ]
              refine wpAnyH_take (i := 42) (v := ?_) (by simp only [List.getElem?_toArray, List.getElem?_cons_zero, List.getElem?_cons_succ]; rfl) (by kernel_rfl) (by kernel_rfl) (by kernel_rfl) (fun _ _ _ h => h) (Or.inl ⟨by rfl, ?_⟩) trivial ?_
              rotate_left
              · (intro wq hSw; go_simp; all_goals with_reducible rfl)
              try simp only [Act.put, List.setIfInBounds_toArray, List.set_cons_zero, List.set_cons_succ]
              refine wpAnyH_take (i := 43) (v := ?_) (by simp only [List.getElem?_toArray, List.getElem?_cons_zero, List.getElem?_cons_succ]; rfl) (by kernel_rfl) (by kernel_rfl) (by kernel_rfl) (fun _ _ _ h => h) (Or.inl ⟨by rfl, ?_⟩) trivial ?_
              rotate_left
              · (intro wq hSw; go_simp; all_goals with_reducible rfl)
              try simp only [Act.put, List.setIfInBounds_toArray, List.set_cons_zero, List.set_cons_succ]
              refine wpAnyH_ready (rs := [38]) (by kernel_rfl) (by simp) ?_
              refine AllReadyH.cons (by simp only [List.getElem?_toArray, List.getElem?_cons_zero, List.getElem?_cons_succ]; rfl) (fun K hK => ?_) AllReadyH.nil
              go_simp
              (go_at_call 34; refine (CB2.out _ HX.out.y).mono ?_; rintro en w10 ⟨rfl, hT9⟩; have HZ := Lib.hid (HX.out.readY hT9); clear hT9)
              go_wp2_with fail
              refine hK.out _ _ trivial (fun _ => ?_)
              clear hK K
              try simp only [Act.put, List.setIfInBounds_toArray, List.set_cons_zero, List.set_cons_succ]
              refine wpAnyH_take (i := 44) (v := ?_) (by simp only [List.getElem?_toArray, List.getElem?_cons_zero, List.getElem?_cons_succ]; rfl) (by kernel_rfl) (by kernel_rfl) (by kernel_rfl) (fun _ _ _ h => h) (Or.inl ⟨by rfl, ?_⟩) trivial ?_
              rotate_left
              · (intro wq hSw; go_simp; all_goals with_reducible rfl)
              try simp only [Act.put, List.setIfInBounds_toArray, List.set_cons_zero, List.set_cons_succ]
              refine wpAnyH_take (i := 45) (v := ?_) (by simp only [List.getElem?_toArray, List.getElem?_cons_zero, List.getElem?_cons_succ]; rfl) (by kernel_rfl) (by kernel_rfl) (by kernel_rfl) (fun _ _ _ h => h) (Or.inl ⟨by rfl, ?_⟩) trivial ?_
              rotate_left
              · (intro wq hSw; go_simp; all_goals with_reducible rfl)
              try simp only [Act.put, List.setIfInBounds_toArray, List.set_cons_zero, List.set_cons_succ]
              refine wpAnyH_take (i := 46) (v := ?_) (by simp only [List.getElem?_toArray, List.getElem?_cons_zero, List.getElem?_cons_succ]; rfl) (by kernel_rfl) (by kernel_rfl) (by kernel_rfl) (fun _ _ _ h => h) (Or.inl ⟨by rfl, ?_⟩) trivial ?_
              rotate_left
              · (intro wq hSw; go_simp; all_goals with_reducible rfl)
              try simp only [Act.put, List.setIfInBounds_toArray, List.set_cons_zero, List.set_cons_succ]
              refine wpAnyH_take (i := 47) (v := ?_) (by simp only [List.getElem?_toArray, List.getElem?_cons_zero, List.getElem?_cons_succ]; rfl) (by kernel_rfl) (by kernel_rfl) (by kernel_rfl) (fun _ _ _ h => h) (Or.inl ⟨by rfl, ?_⟩) trivial ?_
              rotate_left
              · (intro wq hSw; go_simp; all_goals with_reducible rfl)
              try simp only [Act.put, List.setIfInBounds_toArray, List.set_cons_zero, List.set_cons_succ]
              refine wpAnyH_done (by kernel_rfl) ?_ _
              refine NoPanic.normal ?_
              have hk1 : k + 1 ≤ S.size + T.size := by omega
              clear h1 h2
              go_wp2_with fail
              go_roundw
              case rel => exact ⟨k + 1, hk1, by go_num, by exact HZ.out⟩
              case measure => simp [intOf]; omega
            · have hi2 : ¬ (k : Int) < (T.size : Int) := by omega
              have hd2 : decide ((k : Int) < (T.size : Int)) = false := decide_eq_false hi2
              have hdn2 : decide (k < T.size) = false := decide_eq_false h2
              have hdm2 := drop_more T k (by omega)
              have HDM2 := Lib.hid hdm2
              clear hdm2
              go_upto_region 27 with fail
              refine wp_region_noPanic ?_
              refine wp_region_held_drew (S := fun _ => True) (by kernel_rfl) trivial (fun hHeld => ?_)
              clear hHeld
              have HRX := Lib.hid HR.out.drew
              refine wpAnyH_take (i := 0) (v := ?_) (by simp only [List.getElem?_toArray, List.getElem?_cons_zero]; rfl) (by kernel_rfl) (by kernel_rfl) (by kernel_rfl) (fun _ _ _ h => h) (Or.inl ⟨by rfl, ?_⟩) trivial ?_
              rotate_left
              · (intro wq hSw; go_simp; all_goals with_reducible rfl)
              try simp only [Act.put, List.setIfInBounds_toArray, List.set_cons_zero, List.set_cons_succ]
              refine wpAnyH_take (i := 1) (v := ?_) (by simp only [List.getElem?_toArray, List.getElem?_cons_zero, List.getElem?_cons_succ]; rfl) (by kernel_rfl) (by kernel_rfl) (by kernel_rfl) (fun _ _ _ h => h) (Or.inl ⟨by rfl, ?_⟩) trivial ?_
              rotate_left
              · (intro wq hSw; go_simp; all_goals with_reducible rfl)
              try simp only [Act.put, List.setIfInBounds_toArray, List.set_cons_zero, List.set_cons_succ]
              refine wpAnyH_take (i := 2) (v := ?_) (by simp only [List.getElem?_toArray, List.getElem?_cons_zero, List.getElem?_cons_succ]; rfl) (by kernel_rfl) (by kernel_rfl) (by kernel_rfl) (fun _ _ _ h => h) (Or.inl ⟨by rfl, ?_⟩) trivial ?_
              rotate_left
              · (intro wq hSw; go_simp; all_goals with_reducible rfl)
              try simp only [Act.put, List.setIfInBounds_toArray, List.set_cons_zero, List.set_cons_succ]
              refine wpAnyH_take (i := 3) (v := ?_) (by simp only [List.getElem?_toArray, List.getElem?_cons_zero, List.getElem?_cons_succ]; rfl) (by kernel_rfl) (by kernel_rfl) (by kernel_rfl) (fun _ _ _ h => h) (Or.inl ⟨by rfl, ?_⟩) trivial ?_
              rotate_left
              · (intro wq hSw; go_simp; all_goals with_reducible rfl)
              try simp only [Act.put, List.setIfInBounds_toArray, List.set_cons_zero, List.set_cons_succ]
              refine wpAnyH_take (i := 4) (v := ?_) (by simp only [List.getElem?_toArray, List.getElem?_cons_zero, List.getElem?_cons_succ]; rfl) (by kernel_rfl) (by kernel_rfl) (by kernel_rfl) (fun _ _ _ h => h) (Or.inl ⟨by rfl, ?_⟩) trivial ?_
              rotate_left
              · (intro wq hSw; go_simp; all_goals with_reducible rfl)
              try simp only [Act.put, List.setIfInBounds_toArray, List.set_cons_zero, List.set_cons_succ]
              refine wpAnyH_take (i := 5) (v := ?_) (by simp only [List.getElem?_toArray, List.getElem?_cons_zero, List.getElem?_cons_succ]; rfl) (by kernel_rfl) (by kernel_rfl) (by kernel_rfl) (fun _ _ _ h => h) (Or.inl ⟨by rfl, ?_⟩) trivial ?_
              rotate_left
              · (intro wq hSw; go_simp; all_goals with_reducible rfl)
              try simp only [Act.put, List.setIfInBounds_toArray, List.set_cons_zero, List.set_cons_succ]
              refine wpAnyH_take (i := 7) (v := ?_) (by simp only [List.getElem?_toArray, List.getElem?_cons_zero, List.getElem?_cons_succ]; rfl) (by kernel_rfl) (by kernel_rfl) (by kernel_rfl) (fun _ _ _ h => h) (Or.inl ⟨by rfl, ?_⟩) trivial ?_
              rotate_left
              · (intro wq hSw; go_simp; all_goals with_reducible rfl)
              try simp only [Act.put, List.setIfInBounds_toArray, List.set_cons_zero, List.set_cons_succ]
              refine wpAnyH_take (i := 8) (v := ?_) (by simp only [List.getElem?_toArray, List.getElem?_cons_zero, List.getElem?_cons_succ]; rfl) (by kernel_rfl) (by kernel_rfl) (by kernel_rfl) (fun _ _ _ h => h) (Or.inl ⟨by rfl, ?_⟩) trivial ?_
              rotate_left
              · (intro wq hSw; go_simp; all_goals with_reducible rfl)
              try simp only [Act.put, List.setIfInBounds_toArray, List.set_cons_zero, List.set_cons_succ]
              refine wpAnyH_take (i := 9) (v := ?_) (by simp only [List.getElem?_toArray, List.getElem?_cons_zero, List.getElem?_cons_succ]; rfl) (by kernel_rfl) (by kernel_rfl) (by kernel_rfl) (fun _ _ _ h => h) (Or.inl ⟨by rfl, ?_⟩) trivial ?_
              rotate_left
              · (intro wq hSw; go_simp; all_goals with_reducible rfl)
              try simp only [Act.put, List.setIfInBounds_toArray, List.set_cons_zero, List.set_cons_succ]
              refine wpAnyH_take (i := 10) (v := ?_) (by simp only [List.getElem?_toArray, List.getElem?_cons_zero, List.getElem?_cons_succ]; rfl) (by kernel_rfl) (by kernel_rfl) (by kernel_rfl) (fun _ _ _ h => h) (Or.inl ⟨by rfl, ?_⟩) trivial ?_
              rotate_left
              · (intro wq hSw; go_simp; all_goals with_reducible rfl)
              try simp only [Act.put, List.setIfInBounds_toArray, List.set_cons_zero, List.set_cons_succ]
              refine wpAnyH_ready (rs := [6]) (by kernel_rfl) (by simp) ?_
              refine AllReadyH.cons (by simp only [List.getElem?_toArray, List.getElem?_cons_zero, List.getElem?_cons_succ]; rfl) (fun K hK => ?_) AllReadyH.nil
              go_simp
              (go_at_call 25; refine (CL1.out _ HRX.out.x).mono ?_; rintro en w9 ⟨rfl, rfl⟩)
              go_wp2_with fail
              refine hK.out _ _ trivial (fun _ => ?_)
              clear hK K
              try simp only [Act.put, List.setIfInBounds_toArray, List.set_cons_zero, List.set_cons_succ]
              refine wpAnyH_take (i := 11) (v := ?_) (by simp only [List.getElem?_toArray, List.getElem?_cons_zero, List.getElem?_cons_succ]; rfl) (by kernel_rfl) (by kernel_rfl) (by kernel_rfl) (fun _ _ _ h => h) (Or.inl ⟨by rfl, ?_⟩) trivial ?_
              rotate_left
              · (intro wq hSw; go_simp; all_goals with_reducible rfl)
              try simp only [Act.put, List.setIfInBounds_toArray, List.set_cons_zero, List.set_cons_succ]
              refine wpAnyH_take (i := 12) (v := ?_) (by simp only [List.getElem?_toArray, List.getElem?_cons_zero, List.getElem?_cons_succ]; rfl) (by kernel_rfl) (by kernel_rfl) (by kernel_rfl) (fun _ _ _ h => h) (Or.inl ⟨by rfl, ?_⟩) trivial ?_
              rotate_left
              · (intro wq hSw; go_simp; all_goals with_reducible rfl)
              try simp only [Act.put, List.setIfInBounds_toArray, List.set_cons_zero, List.set_cons_succ]
              refine wpAnyH_take (i := 13) (v := ?_) (by simp only [List.getElem?_toArray, List.getElem?_cons_zero, List.getElem?_cons_succ]; rfl) (by kernel_rfl) (by kernel_rfl) (by kernel_rfl) (fun _ _ _ h => h) (Or.inl ⟨by rfl, ?_⟩) trivial ?_
              rotate_left
              · (intro wq hSw; go_simp; all_goals with_reducible rfl)
              try simp only [Act.put, List.setIfInBounds_toArray, List.set_cons_zero, List.set_cons_succ]
              refine wpAnyH_take (i := 15) (v := ?_) (by simp only [List.getElem?_toArray, List.getElem?_cons_zero, List.getElem?_cons_succ]; rfl) (by kernel_rfl) (by kernel_rfl) (by kernel_rfl) (fun _ _ _ h => h) (Or.inl ⟨by rfl, ?_⟩) trivial ?_
              rotate_left
              · (intro wq hSw; go_simp; all_goals with_reducible rfl)
              try simp only [Act.put, List.setIfInBounds_toArray, List.set_cons_zero, List.set_cons_succ]
              refine wpAnyH_take (i := 16) (v := ?_) (by simp only [List.getElem?_toArray, List.getElem?_cons_zero, List.getElem?_cons_succ]; rfl) (by kernel_rfl) (by kernel_rfl) (by kernel_rfl) (fun _ _ _ h => h) (Or.inl ⟨by rfl, ?_⟩) trivial ?_
              rotate_left
              · (intro wq hSw; go_simp; all_goals with_reducible rfl)
              try simp only [Act.put, List.setIfInBounds_toArray, List.set_cons_zero, List.set_cons_succ]
              refine wpAnyH_take (i := 17) (v := ?_) (by simp only [List.getElem?_toArray, List.getElem?_cons_zero, List.getElem?_cons_succ]; rfl) (by kernel_rfl) (by kernel_rfl) (by kernel_rfl) (fun _ _ _ h => h) (Or.inl ⟨by rfl, ?_⟩) trivial ?_
              rotate_left
              · (intro wq hSw; go_simp; all_goals with_reducible rfl)
              try simp only [Act.put, List.setIfInBounds_toArray, List.set_cons_zero, List.set_cons_succ]
              refine wpAnyH_take (i := 18) (v := ?_) (by simp only [List.getElem?_toArray, List.getElem?_cons_zero, List.getElem?_cons_succ]; rfl) (by kernel_rfl) (by kernel_rfl) (by kernel_rfl) (fun _ _ _ h => h) (Or.inl ⟨by rfl, ?_⟩) trivial ?_
              rotate_left
              · (intro wq hSw; go_simp; all_goals with_reducible rfl)
              try simp only [Act.put, List.setIfInBounds_toArray, List.set_cons_zero, List.set_cons_succ]
              refine wpAnyH_take (i := 19) (v := ?_) (by simp only [List.getElem?_toArray, List.getElem?_cons_zero, List.getElem?_cons_succ]; rfl) (by kernel_rfl) (by kernel_rfl) (by kernel_rfl) (fun _ _ _ h => h) (Or.inl ⟨by rfl, ?_⟩) trivial ?_
              rotate_left
              · (intro wq hSw; go_simp; all_goals with_reducible rfl)
              try simp only [Act.put, List.setIfInBounds_toArray, List.set_cons_zero, List.set_cons_succ]
              refine wpAnyH_ready (rs := [14]) (by kernel_rfl) (by simp) ?_
              refine AllReadyH.cons (by simp only [List.getElem?_toArray, List.getElem?_cons_zero, List.getElem?_cons_succ]; rfl) (fun K hK => ?_) AllReadyH.nil
              go_simp
              (go_at_call 34; refine (CB1.out _ HRX.out.x).mono ?_; rintro en w9 ⟨rfl, hT9⟩; have HX := Lib.hid (HRX.out.readX hT9); clear hT9)
              go_wp2_with fail
              refine hK.out _ _ trivial (fun _ => ?_)
              clear hK K
              try simp only [Act.put, List.setIfInBounds_toArray, List.set_cons_zero, List.set_cons_succ]
              refine wpAnyH_take (i := 20) (v := ?_) (by simp only [List.getElem?_toArray, List.getElem?_cons_zero, List.getElem?_cons_succ]; rfl) (by kernel_rfl) (by kernel_rfl) (by kernel_rfl) (fun _ _ _ h => h) (Or.inl ⟨by rfl, ?_⟩) trivial ?_
              rotate_left
              · (intro wq hSw; go_simp; all_goals with_reducible rfl)
              try simp only [Act.put, List.setIfInBounds_toArray, List.set_cons_zero, List.set_cons_succ]
              refine wpAnyH_take (i := 21) (v := ?_) (by simp only [List.getElem?_toArray, List.getElem?_cons_zero, List.getElem?_cons_succ]; rfl) (by kernel_rfl) (by kernel_rfl) (by kernel_rfl) (fun _ _ _ h => h) (Or.inl ⟨by rfl, ?_⟩) trivial ?_
              rotate_left
              · (intro wq hSw; go_simp; all_goals with_reducible rfl)
              try simp only [Act.put, List.setIfInBounds_toArray, List.set_cons_zero, List.set_cons_succ]
              refine wpAnyH_take (i := 22) (v := ?_) (by simp only [List.getElem?_toArray, List.getElem?_cons_zero, List.getElem?_cons_succ]; rfl) (by kernel_rfl) (by kernel_rfl) (by kernel_rfl) (fun _ _ _ h => h) (Or.inl ⟨by rfl, ?_⟩) trivial ?_
              rotate_left
              · (intro wq hSw; go_simp; all_goals with_reducible rfl)
              try simp only [Act.put, List.setIfInBounds_toArray, List.set_cons_zero, List.set_cons_succ]
              refine wpAnyH_take (i := 23) (v := ?_) (by simp only [List.getElem?_toArray, List.getElem?_cons_zero, List.getElem?_cons_succ]; rfl) (by kernel_rfl) (by kernel_rfl) (by kernel_rfl) (fun _ _ _ h => h) (Or.inl ⟨by rfl, ?_⟩) trivial ?_
              rotate_left
              · (intro wq hSw; go_simp; all_goals with_reducible rfl)
              try simp only [Act.put, List.setIfInBounds_toArray, List.set_cons_zero, List.set_cons_succ]
              refine wpAnyH_take (i := 24) (v := ?_) (by simp only [List.getElem?_toArray, List.getElem?_cons_zero, List.getElem?_cons_succ]; rfl) (by kernel_rfl) (by kernel_rfl) (by kernel_rfl) (fun _ _ _ h => h) (Or.inl ⟨by rfl, ?_⟩) trivial ?_
              rotate_left
              · (intro wq hSw; go_simp; all_goals with_reducible rfl)
              try simp only [Act.put, List.setIfInBounds_toArray, List.set_cons_zero, List.set_cons_succ]
              refine wpAnyH_take (i := 25) (v := ?_) (by simp only [List.getElem?_toArray, List.getElem?_cons_zero, List.getElem?_cons_succ]; rfl) (by kernel_rfl) (by kernel_rfl) (by kernel_rfl) (fun _ _ _ h => h) (Or.inl ⟨by rfl, ?_⟩) trivial ?_
              rotate_left
              · (intro wq hSw; go_simp; all_goals with_reducible rfl)
              try simp only [Act.put, List.setIfInBounds_toArray, List.set_cons_zero, List.set_cons_succ]
              refine wpAnyH_take (i := 26) (v := ?_) (by simp only [List.getElem?_toArray, List.getElem?_cons_zero, List.getElem?_cons_succ]; rfl) (by kernel_rfl) (by kernel_rfl) (by kernel_rfl) (fun _ _ _ h => h) (Or.inl ⟨by rfl, ?_⟩) trivial ?_
              rotate_left
              · (intro wq hSw; go_simp; all_goals with_reducible rfl)
              try simp only [Act.put, List.setIfInBounds_toArray, List.set_cons_zero, List.set_cons_succ]
              refine wpAnyH_take (i := 27) (v := ?_) (by simp only [List.getElem?_toArray, List.getElem?_cons_zero, List.getElem?_cons_succ]; rfl) (by kernel_rfl) (by kernel_rfl) (by kernel_rfl) (fun _ _ _ h => h) (Or.inl ⟨by rfl, ?_⟩) trivial ?_
              rotate_left
              · (intro wq hSw; go_simp; all_goals with_reducible rfl)
              try simp only [Act.put, List.setIfInBounds_toArray, List.set_cons_zero, List.set_cons_succ]
              refine wpAnyH_take (i := 28) (v := ?_) (by simp only [List.getElem?_toArray, List.getElem?_cons_zero, List.getElem?_cons_succ]; rfl) (by kernel_rfl) (by kernel_rfl) (by kernel_rfl) (fun _ _ _ h => h) (Or.inl ⟨by rfl, ?_⟩) trivial ?_
              rotate_left
              · (intro wq hSw; go_simp; all_goals with_reducible rfl)
              try simp only [Act.put, List.setIfInBounds_toArray, List.set_cons_zero, List.set_cons_succ]
              refine wpAnyH_take (i := 29) (by simp only [List.getElem?_toArray, List.getElem?_cons_zero, List.getElem?_cons_succ]; rfl) (by kernel_rfl) (by kernel_rfl) (by kernel_rfl) (fun _ _ _ h => h) (Or.inr ⟨by rfl, rfl⟩) trivial ?_
              try simp only [Act.put, List.setIfInBounds_toArray, List.set_cons_zero, List.set_cons_succ]
              refine wpAnyH_take (i := 31) (by simp only [List.getElem?_toArray, List.getElem?_cons_zero, List.getElem?_cons_succ]; rfl) (by kernel_rfl) (by kernel_rfl) (by kernel_rfl) (fun _ _ _ h => h) (Or.inr ⟨by rfl, rfl⟩) trivial ?_
              try simp only [Act.put, List.setIfInBounds_toArray, List.set_cons_zero, List.set_cons_succ]
              refine wpAnyH_take (i := 32) (by simp only [List.getElem?_toArray, List.getElem?_cons_zero, List.getElem?_cons_succ]; rfl) (by kernel_rfl) (by kernel_rfl) (by kernel_rfl) (fun _ _ _ h => h) (Or.inr ⟨by rfl, rfl⟩) trivial ?_
              try simp only [Act.put, List.setIfInBounds_toArray, List.set_cons_zero, List.set_cons_succ]
              refine wpAnyH_take (i := 33) (by simp only [List.getElem?_toArray, List.getElem?_cons_zero, List.getElem?_cons_succ]; rfl) (by kernel_rfl) (by kernel_rfl) (by kernel_rfl) (fun _ _ _ h => h) (Or.inr ⟨by rfl, rfl⟩) trivial ?_
              try simp only [Act.put, List.setIfInBounds_toArray, List.set_cons_zero, List.set_cons_succ]
              refine wpAnyH_take (i := 34) (by simp only [List.getElem?_toArray, List.getElem?_cons_zero, List.getElem?_cons_succ]; rfl) (by kernel_rfl) (by kernel_rfl) (by kernel_rfl) (fun _ _ _ h => h) (Or.inr ⟨by rfl, rfl⟩) trivial ?_
              try simp only [Act.put, List.setIfInBounds_toArray, List.set_cons_zero, List.set_cons_succ]
              refine wpAnyH_take (i := 30) (by simp only [List.getElem?_toArray, List.getElem?_cons_zero, List.getElem?_cons_succ]; rfl) (by kernel_rfl) (by kernel_rfl) (by kernel_rfl) (fun _ _ _ h => h) (Or.inr ⟨by rfl, rfl⟩) trivial ?_
              try simp only [Act.put, List.setIfInBounds_toArray, List.set_cons_zero, List.set_cons_succ]
              refine wpAnyH_take (i := 35) (by simp only [List.getElem?_toArray, List.getElem?_cons_zero, List.getElem?_cons_succ]; rfl) (by kernel_rfl) (by kernel_rfl) (by kernel_rfl) (fun _ _ _ h => h) (Or.inr ⟨by rfl, rfl⟩) trivial ?_
              try simp only [Act.put, List.setIfInBounds_toArray, List.set_cons_zero, List.set_cons_succ]
              refine wpAnyH_take (i := 36) (by simp only [List.getElem?_toArray, List.getElem?_cons_zero, List.getElem?_cons_succ]; rfl) (by kernel_rfl) (by kernel_rfl) (by kernel_rfl) (fun _ _ _ h => h) (Or.inr ⟨by rfl, rfl⟩) trivial ?_
              try simp only [Act.put, List.setIfInBounds_toArray, List.set_cons_zero, List.set_cons_succ]
              refine wpAnyH_take (i := 37) (by simp only [List.getElem?_toArray, List.getElem?_cons_zero, List.getElem?_cons_succ]; rfl) (by kernel_rfl) (by kernel_rfl) (by kernel_rfl) (fun _ _ _ h => h) (Or.inr ⟨by rfl, rfl⟩) trivial ?_
              try simp only [Act.put, List.setIfInBounds_toArray, List.set_cons_zero, List.set_cons_succ]
              refine wpAnyH_take (i := 39) (by simp only [List.getElem?_toArray, List.getElem?_cons_zero, List.getElem?_cons_succ]; rfl) (by kernel_rfl) (by kernel_rfl) (by kernel_rfl) (fun _ _ _ h => h) (Or.inr ⟨by rfl, rfl⟩) trivial ?_
              try simp only [Act.put, List.setIfInBounds_toArray, List.set_cons_zero, List.set_cons_succ]
              refine wpAnyH_take (i := 40) (by simp only [List.getElem?_toArray, List.getElem?_cons_zero, List.getElem?_cons_succ]; rfl) (by kernel_rfl) (by kernel_rfl) (by kernel_rfl) (fun _ _ _ h => h) (Or.inr ⟨by rfl, rfl⟩) trivial ?_
              try simp only [Act.put, List.setIfInBounds_toArray, List.set_cons_zero, List.set_cons_succ]
              refine wpAnyH_take (i := 41) (by simp only [List.getElem?_toArray, List.getElem?_cons_zero, List.getElem?_cons_succ]; rfl) (by kernel_rfl) (by kernel_rfl) (by kernel_rfl) (fun _ _ _ h => h) (Or.inr ⟨by rfl, rfl⟩) trivial ?_
              try simp only [Act.put, List.setIfInBounds_toArray, List.set_cons_zero, List.set_cons_succ]
              refine wpAnyH_take (i := 42) (by simp only [List.getElem?_toArray, List.getElem?_cons_zero, List.getElem?_cons_succ]; rfl) (by kernel_rfl) (by kernel_rfl) (by kernel_rfl) (fun _ _ _ h => h) (Or.inr ⟨by rfl, rfl⟩) trivial ?_
              try simp only [Act.put, List.setIfInBounds_toArray, List.set_cons_zero, List.set_cons_succ]
              refine wpAnyH_take (i := 43) (by simp only [List.getElem?_toArray, List.getElem?_cons_zero, List.getElem?_cons_succ]; rfl) (by kernel_rfl) (by kernel_rfl) (by kernel_rfl) (fun _ _ _ h => h) (Or.inr ⟨by rfl, rfl⟩) trivial ?_
              try simp only [Act.put, List.setIfInBounds_toArray, List.set_cons_zero, List.set_cons_succ]
              refine wpAnyH_take (i := 38) (by simp only [List.getElem?_toArray, List.getElem?_cons_zero, List.getElem?_cons_succ]; rfl) (by kernel_rfl) (by kernel_rfl) (by kernel_rfl) (fun _ _ _ h => h) (Or.inr ⟨by rfl, rfl⟩) trivial ?_
              try simp only [Act.put, List.setIfInBounds_toArray, List.set_cons_zero, List.set_cons_succ]
              refine wpAnyH_take (i := 44) (by simp only [List.getElem?_toArray, List.getElem?_cons_zero, List.getElem?_cons_succ]; rfl) (by kernel_rfl) (by kernel_rfl) (by kernel_rfl) (fun _ _ _ h => h) (Or.inr ⟨by rfl, rfl⟩) trivial ?_
              try simp only [Act.put, List.setIfInBounds_toArray, List.set_cons_zero, List.set_cons_succ]
              refine wpAnyH_take (i := 45) (by simp only [List.getElem?_toArray, List.getElem?_cons_zero, List.getElem?_cons_succ]; rfl) (by kernel_rfl) (by kernel_rfl) (by kernel_rfl) (fun _ _ _ h => h) (Or.inr ⟨by rfl, rfl⟩) trivial ?_
              try simp only [Act.put, List.setIfInBounds_toArray, List.set_cons_zero, List.set_cons_succ]
              refine wpAnyH_take (i := 46) (v := ?_) (by simp only [List.getElem?_toArray, List.getElem?_cons_zero, List.getElem?_cons_succ]; rfl) (by kernel_rfl) (by kernel_rfl) (by kernel_rfl) (fun _ _ _ h => h) (Or.inl ⟨by rfl, ?_⟩) trivial ?_
              rotate_left
              · (intro wq hSw; go_simp; all_goals with_reducible rfl)
              try simp only [Act.put, List.setIfInBounds_toArray, List.set_cons_zero, List.set_cons_succ]
              refine wpAnyH_take (i := 47) (v := ?_) (by simp only [List.getElem?_toArray, List.getElem?_cons_zero, List.getElem?_cons_succ]; rfl) (by kernel_rfl) (by kernel_rfl) (by kernel_rfl) (fun _ _ _ h => h) (Or.inl ⟨by rfl, ?_⟩) trivial ?_
              rotate_left
              · (intro wq hSw; go_simp; all_goals with_reducible rfl)
              try simp only [Act.put, List.setIfInBounds_toArray, List.set_cons_zero, List.set_cons_succ]
              refine wpAnyH_done (by kernel_rfl) ?_ _
              refine NoPanic.normal ?_
              have hk1 : k + 1 ≤ S.size + T.size := by omega
              clear h1 h2
              go_wp2_with fail
              go_roundw
              case rel => exact ⟨k + 1, hk1, by go_num, by rw [HDM2.out]; exact HX.out⟩
              case measure => simp [intOf]; omega
          · have hi1 : ¬ (k : Int) < (S.size : Int) := by omega
            have hd1 : decide ((k : Int) < (S.size : Int)) = false := decide_eq_false hi1
            have hdn1 : decide (k < S.size) = false := decide_eq_false h1
            have hdm1 := drop_more S k (by omega)
            have HDM1 := Lib.hid hdm1
            clear hdm1
            by_cases h2 : k < T.size
            · have HSl2 := fun wx => slice_at T k h2 wx
              obtain ⟨P2, hP2⟩ : ∃ P2, T.extract k (k + 1) = P2 := ⟨_, rfl⟩
              have CL2 := Lib.hid (fun wx (h : RdAt wx Y ((num T).drop k) 0) => left_at wx Y T k h2 h _ rfl)
              have CB2 := Lib.hid (fun wx (h : RdAt wx Y ((num T).drop k) 0) => piece_at wx Y T k h2 h)
              rw [hP2] at HSl2 CB2
              have eL2 : IntKind.i64.wrap ((T.size : Int) - (k : Int)) = (T.size : Int) - (k : Int) := by rw [IntKind.wrap_i64]; omega
              have hi2 : (k : Int) < (T.size : Int) := by omega
              clear hP2
              have eK1 : IntKind.i64.wrap ((k : Int) + 1) = (k : Int) + 1 := by rw [IntKind.wrap_i64]; omega
              go_upto_region 27 with fail
              refine wp_region_noPanic ?_
              refine wp_region_held_drew (S := fun _ => True) (by kernel_rfl) trivial (fun hHeld => ?_)
              clear hHeld
              have HRX := Lib.hid HR.out.drew
              refine wpAnyH_take (i := 0) (v := ?_) (by simp only [List.getElem?_toArray, List.getElem?_cons_zero]; rfl) (by kernel_rfl) (by kernel_rfl) (by kernel_rfl) (fun _ _ _ h => h) (Or.inl ⟨by rfl, ?_⟩) trivial ?_
              rotate_left
              · (intro wq hSw; go_simp; all_goals with_reducible rfl)
              try simp only [Act.put, List.setIfInBounds_toArray, List.set_cons_zero, List.set_cons_succ]
              refine wpAnyH_take (i := 1) (v := ?_) (by simp only [List.getElem?_toArray, List.getElem?_cons_zero, List.getElem?_cons_succ]; rfl) (by kernel_rfl) (by kernel_rfl) (by kernel_rfl) (fun _ _ _ h => h) (Or.inl ⟨by rfl, ?_⟩) trivial ?_
              rotate_left
              · (intro wq hSw; go_simp; all_goals with_reducible rfl)
              try simp only [Act.put, List.setIfInBounds_toArray, List.set_cons_zero, List.set_cons_succ]
              refine wpAnyH_take (i := 2) (v := ?_) (by simp only [List.getElem?_toArray, List.getElem?_cons_zero, List.getElem?_cons_succ]; rfl) (by kernel_rfl) (by kernel_rfl) (by kernel_rfl) (fun _ _ _ h => h) (Or.inl ⟨by rfl, ?_⟩) trivial ?_
              rotate_left
              · (intro wq hSw; go_simp; all_goals with_reducible rfl)
              try simp only [Act.put, List.setIfInBounds_toArray, List.set_cons_zero, List.set_cons_succ]
              refine wpAnyH_take (i := 3) (v := ?_) (by simp only [List.getElem?_toArray, List.getElem?_cons_zero, List.getElem?_cons_succ]; rfl) (by kernel_rfl) (by kernel_rfl) (by kernel_rfl) (fun _ _ _ h => h) (Or.inl ⟨by rfl, ?_⟩) trivial ?_
              rotate_left
              · (intro wq hSw; go_simp; all_goals with_reducible rfl)
              try simp only [Act.put, List.setIfInBounds_toArray, List.set_cons_zero, List.set_cons_succ]
              refine wpAnyH_take (i := 4) (v := ?_) (by simp only [List.getElem?_toArray, List.getElem?_cons_zero, List.getElem?_cons_succ]; rfl) (by kernel_rfl) (by kernel_rfl) (by kernel_rfl) (fun _ _ _ h => h) (Or.inl ⟨by rfl, ?_⟩) trivial ?_
              rotate_left
              · (intro wq hSw; go_simp; all_goals with_reducible rfl)
              try simp only [Act.put, List.setIfInBounds_toArray, List.set_cons_zero, List.set_cons_succ]
              refine wpAnyH_take (i := 5) (by simp only [List.getElem?_toArray, List.getElem?_cons_zero, List.getElem?_cons_succ]; rfl) (by kernel_rfl) (by kernel_rfl) (by kernel_rfl) (fun _ _ _ h => h) (Or.inr ⟨by rfl, rfl⟩) trivial ?_
              try simp only [Act.put, List.setIfInBounds_toArray, List.set_cons_zero, List.set_cons_succ]
              refine wpAnyH_take (i := 7) (by simp only [List.getElem?_toArray, List.getElem?_cons_zero, List.getElem?_cons_succ]; rfl) (by kernel_rfl) (by kernel_rfl) (by kernel_rfl) (fun _ _ _ h => h) (Or.inr ⟨by rfl, rfl⟩) trivial ?_
              try simp only [Act.put, List.setIfInBounds_toArray, List.set_cons_zero, List.set_cons_succ]
              refine wpAnyH_take (i := 8) (by simp only [List.getElem?_toArray, List.getElem?_cons_zero, List.getElem?_cons_succ]; rfl) (by kernel_rfl) (by kernel_rfl) (by kernel_rfl) (fun _ _ _ h => h) (Or.inr ⟨by rfl, rfl⟩) trivial ?_
              try simp only [Act.put, List.setIfInBounds_toArray, List.set_cons_zero, List.set_cons_succ]
              refine wpAnyH_take (i := 9) (by simp only [List.getElem?_toArray, List.getElem?_cons_zero, List.getElem?_cons_succ]; rfl) (by kernel_rfl) (by kernel_rfl) (by kernel_rfl) (fun _ _ _ h => h) (Or.inr ⟨by rfl, rfl⟩) trivial ?_
              try simp only [Act.put, List.setIfInBounds_toArray, List.set_cons_zero, List.set_cons_succ]
              refine wpAnyH_take (i := 10) (by simp only [List.getElem?_toArray, List.getElem?_cons_zero, List.getElem?_cons_succ]; rfl) (by kernel_rfl) (by kernel_rfl) (by kernel_rfl) (fun _ _ _ h => h) (Or.inr ⟨by rfl, rfl⟩) trivial ?_
              try simp only [Act.put, List.setIfInBounds_toArray, List.set_cons_zero, List.set_cons_succ]
              refine wpAnyH_take (i := 6) (by simp only [List.getElem?_toArray, List.getElem?_cons_zero, List.getElem?_cons_succ]; rfl) (by kernel_rfl) (by kernel_rfl) (by kernel_rfl) (fun _ _ _ h => h) (Or.inr ⟨by rfl, rfl⟩) trivial ?_
              try simp only [Act.put, List.setIfInBounds_toArray, List.set_cons_zero, List.set_cons_succ]
              refine wpAnyH_take (i := 11) (by simp only [List.getElem?_toArray, List.getElem?_cons_zero, List.getElem?_cons_succ]; rfl) (by kernel_rfl) (by kernel_rfl) (by kernel_rfl) (fun _ _ _ h => h) (Or.inr ⟨by rfl, rfl⟩) trivial ?_
              try simp only [Act.put, List.setIfInBounds_toArray, List.set_cons_zero, List.set_cons_succ]
              refine wpAnyH_take (i := 12) (by simp only [List.getElem?_toArray, List.getElem?_cons_zero, List.getElem?_cons_succ]; rfl) (by kernel_rfl) (by kernel_rfl) (by kernel_rfl) (fun _ _ _ h => h) (Or.inr ⟨by rfl, rfl⟩) trivial ?_
              try simp only [Act.put, List.setIfInBounds_toArray, List.set_cons_zero, List.set_cons_succ]
              refine wpAnyH_take (i := 13) (by simp only [List.getElem?_toArray, List.getElem?_cons_zero, List.getElem?_cons_succ]; rfl) (by kernel_rfl) (by kernel_rfl) (by kernel_rfl) (fun _ _ _ h => h) (Or.inr ⟨by rfl, rfl⟩) trivial ?_
              try simp only [Act.put, List.setIfInBounds_toArray, List.set_cons_zero, List.set_cons_succ]
              refine wpAnyH_take (i := 15) (by simp only [List.getElem?_toArray, List.getElem?_cons_zero, List.getElem?_cons_succ]; rfl) (by kernel_rfl) (by kernel_rfl) (by kernel_rfl) (fun _ _ _ h => h) (Or.inr ⟨by rfl, rfl⟩) trivial ?_
              try simp only [Act.put, List.setIfInBounds_toArray, List.set_cons_zero, List.set_cons_succ]
              refine wpAnyH_take (i := 16) (by simp only [List.getElem?_toArray, List.getElem?_cons_zero, List.getElem?_cons_succ]; rfl) (by kernel_rfl) (by kernel_rfl) (by kernel_rfl) (fun _ _ _ h => h) (Or.inr ⟨by rfl, rfl⟩) trivial ?_
              try simp only [Act.put, List.setIfInBounds_toArray, List.set_cons_zero, List.set_cons_succ]
              refine wpAnyH_take (i := 17) (by simp only [List.getElem?_toArray, List.getElem?_cons_zero, List.getElem?_cons_succ]; rfl) (by kernel_rfl) (by kernel_rfl) (by kernel_rfl) (fun _ _ _ h => h) (Or.inr ⟨by rfl, rfl⟩) trivial ?_
              try simp only [Act.put, List.setIfInBounds_toArray, List.set_cons_zero, List.set_cons_succ]
              refine wpAnyH_take (i := 18) (by simp only [List.getElem?_toArray, List.getElem?_cons_zero, List.getElem?_cons_succ]; rfl) (by kernel_rfl) (by kernel_rfl) (by kernel_rfl) (fun _ _ _ h => h) (Or.inr ⟨by rfl, rfl⟩) trivial ?_
              try simp only [Act.put, List.setIfInBounds_toArray, List.set_cons_zero, List.set_cons_succ]
              refine wpAnyH_take (i := 19) (by simp only [List.getElem?_toArray, List.getElem?_cons_zero, List.getElem?_cons_succ]; rfl) (by kernel_rfl) (by kernel_rfl) (by kernel_rfl) (fun _ _ _ h => h) (Or.inr ⟨by rfl, rfl⟩) trivial ?_
              try simp only [Act.put, List.setIfInBounds_toArray, List.set_cons_zero, List.set_cons_succ]
              refine wpAnyH_take (i := 14) (by simp only [List.getElem?_toArray, List.getElem?_cons_zero, List.getElem?_cons_succ]; rfl) (by kernel_rfl) (by kernel_rfl) (by kernel_rfl) (fun _ _ _ h => h) (Or.inr ⟨by rfl, rfl⟩) trivial ?_
              try simp only [Act.put, List.setIfInBounds_toArray, List.set_cons_zero, List.set_cons_succ]
              refine wpAnyH_take (i := 20) (by simp only [List.getElem?_toArray, List.getElem?_cons_zero, List.getElem?_cons_succ]; rfl) (by kernel_rfl) (by kernel_rfl) (by kernel_rfl) (fun _ _ _ h => h) (Or.inr ⟨by rfl, rfl⟩) trivial ?_
              try simp only [Act.put, List.setIfInBounds_toArray, List.set_cons_zero, List.set_cons_succ]
              refine wpAnyH_take (i := 21) (by simp only [List.getElem?_toArray, List.getElem?_cons_zero, List.getElem?_cons_succ]; rfl) (by kernel_rfl) (by kernel_rfl) (by kernel_rfl) (fun _ _ _ h => h) (Or.inr ⟨by rfl, rfl⟩) trivial ?_
              try simp only [Act.put, List.setIfInBounds_toArray, List.set_cons_zero, List.set_cons_succ]
              refine wpAnyH_take (i := 22) (v := ?_) (by simp only [List.getElem?_toArray, List.getElem?_cons_zero, List.getElem?_cons_succ]; rfl) (by kernel_rfl) (by kernel_rfl) (by kernel_rfl) (fun _ _ _ h => h) (Or.inl ⟨by rfl, ?_⟩) trivial ?_
              rotate_left
              · (intro wq hSw; go_simp; all_goals with_reducible rfl)
              try simp only [Act.put, List.setIfInBounds_toArray, List.set_cons_zero, List.set_cons_succ]
              refine wpAnyH_take (i := 23) (v := ?_) (by simp only [List.getElem?_toArray, List.getElem?_cons_zero, List.getElem?_cons_succ]; rfl) (by kernel_rfl) (by kernel_rfl) (by kernel_rfl) (fun _ _ _ h => h) (Or.inl ⟨by rfl, ?_⟩) trivial ?_
              rotate_left
              · (intro wq hSw; go_simp; all_goals with_reducible rfl)
              try simp only [Act.put, List.setIfInBounds_toArray, List.set_cons_zero, List.set_cons_succ]
              refine wpAnyH_take (i := 24) (v := ?_) (by simp only [List.getElem?_toArray, List.getElem?_cons_zero, List.getElem?_cons_succ]; rfl) (by kernel_rfl) (by kernel_rfl) (by kernel_rfl) (fun _ _ _ h => h) (Or.inl ⟨by rfl, ?_⟩) trivial ?_
              rotate_left
              · (intro wq hSw; go_simp; all_goals with_reducible rfl)
              try simp only [Act.put, List.setIfInBounds_toArray, List.set_cons_zero, List.set_cons_succ]
              refine wpAnyH_take (i := 25) (v := ?_) (by simp only [List.getElem?_toArray, List.getElem?_cons_zero, List.getElem?_cons_succ]; rfl) (by kernel_rfl) (by kernel_rfl) (by kernel_rfl) (fun _ _ _ h => h) (Or.inl ⟨by rfl, ?_⟩) trivial ?_
              rotate_left
              · (intro wq hSw; go_simp; all_goals with_reducible rfl)
              try simp only [Act.put, List.setIfInBounds_toArray, List.set_cons_zero, List.set_cons_succ]
              refine wpAnyH_take (i := 26) (v := ?_) (by simp only [List.getElem?_toArray, List.getElem?_cons_zero, List.getElem?_cons_succ]; rfl) (by kernel_rfl) (by kernel_rfl) (by kernel_rfl) (fun _ _ _ h => h) (Or.inl ⟨by rfl, ?_⟩) trivial ?_
              rotate_left
              · (intro wq hSw; go_simp; all_goals with_reducible rfl)
              try simp only [Act.put, List.setIfInBounds_toArray, List.set_cons_zero, List.set_cons_succ]
              refine wpAnyH_take (i := 27) (v := ?_) (by simp only [List.getElem?_toArray, List.getElem?_cons_zero, List.getElem?_cons_succ]; rfl) (by kernel_rfl) (by kernel_rfl) (by kernel_rfl) (fun _ _ _ h => h) (Or.inl ⟨by rfl, ?_⟩) trivial ?_
              rotate_left
              · (intro wq hSw; go_simp; all_goals with_reducible rfl)
              try simp only [Act.put, List.setIfInBounds_toArray, List.set_cons_zero, List.set_cons_succ]
              refine wpAnyH_take (i := 28) (v := ?_) (by simp only [List.getElem?_toArray, List.getElem?_cons_zero, List.getElem?_cons_succ]; rfl) (by kernel_rfl) (by kernel_rfl) (by kernel_rfl) (fun _ _ _ h => h) (Or.inl ⟨by rfl, ?_⟩) trivial ?_
              rotate_left
              · (intro wq hSw; go_simp; all_goals with_reducible rfl)
              try simp only [Act.put, List.setIfInBounds_toArray, List.set_cons_zero, List.set_cons_succ]
              refine wpAnyH_take (i := 29) (v := ?_) (by simp only [List.getElem?_toArray, List.getElem?_cons_zero, List.getElem?_cons_succ]; rfl) (by kernel_rfl) (by kernel_rfl) (by kernel_rfl) (fun _ _ _ h => h) (Or.inl ⟨by rfl, ?_⟩) trivial ?_
              rotate_left
              · (intro wq hSw; go_simp; all_goals with_reducible rfl)
              try simp only [Act.put, List.setIfInBounds_toArray, List.set_cons_zero, List.set_cons_succ]
              refine wpAnyH_take (i := 31) (v := ?_) (by simp only [List.getElem?_toArray, List.getElem?_cons_zero, List.getElem?_cons_succ]; rfl) (by kernel_rfl) (by kernel_rfl) (by kernel_rfl) (fun _ _ _ h => h) (Or.inl ⟨by rfl, ?_⟩) trivial ?_
              rotate_left
              · (intro wq hSw; go_simp; all_goals with_reducible rfl)
              try simp only [Act.put, List.setIfInBounds_toArray, List.set_cons_zero, List.set_cons_succ]
              refine wpAnyH_take (i := 32) (v := ?_) (by simp only [List.getElem?_toArray, List.getElem?_cons_zero, List.getElem?_cons_succ]; rfl) (by kernel_rfl) (by kernel_rfl) (by kernel_rfl) (fun _ _ _ h => h) (Or.inl ⟨by rfl, ?_⟩) trivial ?_
              rotate_left
              · (intro wq hSw; go_simp; all_goals with_reducible rfl)
              try simp only [Act.put, List.setIfInBounds_toArray, List.set_cons_zero, List.set_cons_succ]
              refine wpAnyH_take (i := 33) (v := ?_) (by simp only [List.getElem?_toArray, List.getElem?_cons_zero, List.getElem?_cons_succ]; rfl) (by kernel_rfl) (by kernel_rfl) (by kernel_rfl) (fun _ _ _ h => h) (Or.inl ⟨by rfl, ?_⟩) trivial ?_
              rotate_left
              · (intro wq hSw; go_simp; all_goals with_reducible rfl)
              try simp only [Act.put, List.setIfInBounds_toArray, List.set_cons_zero, List.set_cons_succ]
              refine wpAnyH_take (i := 34) (v := ?_) (by simp only [List.getElem?_toArray, List.getElem?_cons_zero, List.getElem?_cons_succ]; rfl) (by kernel_rfl) (by kernel_rfl) (by kernel_rfl) (fun _ _ _ h => h) (Or.inl ⟨by rfl, ?_⟩) trivial ?_
              rotate_left
              · (intro wq hSw; go_simp; all_goals with_reducible rfl)
              try simp only [Act.put, List.setIfInBounds_toArray, List.set_cons_zero, List.set_cons_succ]
              refine wpAnyH_ready (rs := [30]) (by kernel_rfl) (by simp) ?_
              refine AllReadyH.cons (by simp only [List.getElem?_toArray, List.getElem?_cons_zero, List.getElem?_cons_succ]; rfl) (fun K hK => ?_) AllReadyH.nil
              go_simp
              (go_at_call 25; refine (CL2.out _ HRX.out.y).mono ?_; rintro en w10 ⟨rfl, rfl⟩)
              go_wp2_with fail
              refine hK.out _ _ trivial (fun _ => ?_)
              clear hK K
              try simp only [Act.put, List.setIfInBounds_toArray, List.set_cons_zero, List.set_cons_succ]
              refine wpAnyH_take (i := 35) (v := ?_) (by simp only [List.getElem?_toArray, List.getElem?_cons_zero, List.getElem?_cons_succ]; rfl) (by kernel_rfl) (by kernel_rfl) (by kernel_rfl) (fun _ _ _ h => h) (Or.inl ⟨by rfl, ?_⟩) trivial ?_
              rotate_left
              · (intro wq hSw; go_simp; all_goals with_reducible rfl)
              try simp only [Act.put, List.setIfInBounds_toArray, List.set_cons_zero, List.set_cons_succ]
              refine wpAnyH_take (i := 36) (v := ?_) (by simp only [List.getElem?_toArray, List.getElem?_cons_zero, List.getElem?_cons_succ]; rfl) (by kernel_rfl) (by kernel_rfl) (by kernel_rfl) (fun _ _ _ h => h) (Or.inl ⟨by rfl, ?_⟩) trivial ?_
              rotate_left
              · (intro wq hSw; go_simp; all_goals with_reducible rfl)
              try simp only [Act.put, List.setIfInBounds_toArray, List.set_cons_zero, List.set_cons_succ]
              refine wpAnyH_take (i := 37) (v := ?_) (by simp only [List.getElem?_toArray, List.getElem?_cons_zero, List.getElem?_cons_succ]; rfl) (by kernel_rfl) (by kernel_rfl) (by kernel_rfl) (fun _ _ _ h => h) (Or.inl ⟨by rfl, ?_⟩) trivial ?_
              rotate_left
              · (intro wq hSw; go_simp; all_goals with_reducible rfl)
              try simp only [Act.put, List.setIfInBounds_toArray, List.set_cons_zero, List.set_cons_succ]
              refine wpAnyH_take (i := 39) (v := ?_) (by simp only [List.getElem?_toArray, List.getElem?_cons_zero, List.getElem?_cons_succ]; rfl) (by kernel_rfl) (by kernel_rfl) (by kernel_rfl) (fun _ _ _ h => h) (Or.inl ⟨by rfl, ?_⟩) trivial ?_
              rotate_left
              · (intro wq hSw; go_simp; all_goals with_reducible rfl)
              try simp only [Act.put, List.setIfInBounds_toArray, List.set_cons_zero, List.set_cons_succ]
              refine wpAnyH_take (i := 40) (v := ?_) (by simp only [List.getElem?_toArray, List.getElem?_cons_zero, List.getElem?_cons_succ]; rfl) (by kernel_rfl) (by kernel_rfl) (by kernel_rfl) (fun _ _ _ h => h) (Or.inl ⟨by rfl, ?_⟩) trivial ?_
              rotate_left
              · (intro wq hSw; go_simp; all_goals with_reducible rfl)
              try simp only [Act.put, List.setIfInBounds_toArray, List.set_cons_zero, List.set_cons_succ]
              refine wpAnyH_take (i := 41) (v := ?_) (by simp only [List.getElem?_toArray, List.getElem?_cons_zero, List.getElem?_cons_succ]; rfl) (by kernel_rfl) (by kernel_rfl) (by kernel_rfl) (fun _ _ _ h => h) (Or.inl ⟨by rfl, ?_⟩) trivial ?_
              rotate_left
              · (intro wq hSw; go_simp; all_goals with_reducible rfl)
              try simp only [Act.put, List.setIfInBounds_toArray, List.set_cons_zero, List.set_cons_succ]
              refine wpAnyH_take (i := 42) (v := ?_) (by simp only [List.getElem?_toArray, List.getElem?_cons_zero, List.getElem?_cons_succ]; rfl) (by kernel_rfl) (by kernel_rfl) (by kernel_rfl) (fun _ _ _ h => h) (Or.inl ⟨by rfl, ?_⟩) trivial ?_
              rotate_left
              · (intro wq hSw; go_simp; all_goals with_reducible rfl)
              try simp only [Act.put, List.setIfInBounds_toArray, List.set_cons_zero, List.set_cons_succ]
              refine wpAnyH_take (i := 43) (v := ?_) (by simp only [List.getElem?_toArray, List.getElem?_cons_zero, List.getElem?_cons_succ]; rfl) (by kernel_rfl) (by kernel_rfl) (by kernel_rfl) (fun _ _ _ h => h) (Or.inl ⟨by rfl, ?_⟩) trivial ?_
              rotate_left
              · (intro wq hSw; go_simp; all_goals with_reducible rfl)
              try simp only [Act.put, List.setIfInBounds_toArray, List.set_cons_zero, List.set_cons_succ]
              refine wpAnyH_ready (rs := [38]) (by kernel_rfl) (by simp) ?_
              refine AllReadyH.cons (by simp only [List.getElem?_toArray, List.getElem?_cons_zero, List.getElem?_cons_succ]; rfl) (fun K hK => ?_) AllReadyH.nil
              go_simp
              (go_at_call 34; refine (CB2.out _ HRX.out.y).mono ?_; rintro en w10 ⟨rfl, hT9⟩; have HZ := Lib.hid (HRX.out.readY hT9); clear hT9)
              go_wp2_with fail
              refine hK.out _ _ trivial (fun _ => ?_)
              clear hK K
              try simp only [Act.put, List.setIfInBounds_toArray, List.set_cons_zero, List.set_cons_succ]
              refine wpAnyH_take (i := 44) (v := ?_) (by simp only [List.getElem?_toArray, List.getElem?_cons_zero, List.getElem?_cons_succ]; rfl) (by kernel_rfl) (by kernel_rfl) (by kernel_rfl) (fun _ _ _ h => h) (Or.inl ⟨by rfl, ?_⟩) trivial ?_
              rotate_left
              · (intro wq hSw; go_simp; all_goals with_reducible rfl)
              try simp only [Act.put, List.setIfInBounds_toArray, List.set_cons_zero, List.set_cons_succ]
              refine wpAnyH_take (i := 45) (v := ?_) (by simp only [List.getElem?_toArray, List.getElem?_cons_zero, List.getElem?_cons_succ]; rfl) (by kernel_rfl) (by kernel_rfl) (by kernel_rfl) (fun _ _ _ h => h) (Or.inl ⟨by rfl, ?_⟩) trivial ?_
              rotate_left
              · (intro wq hSw; go_simp; all_goals with_reducible rfl)
              try simp only [Act.put, List.setIfInBounds_toArray, List.set_cons_zero, List.set_cons_succ]
              refine wpAnyH_take (i := 46) (v := ?_) (by simp only [List.getElem?_toArray, List.getElem?_cons_zero, List.getElem?_cons_succ]; rfl) (by kernel_rfl) (by kernel_rfl) (by kernel_rfl) (fun _ _ _ h => h) (Or.inl ⟨by rfl, ?_⟩) trivial ?_
              rotate_left
              · (intro wq hSw; go_simp; all_goals with_reducible rfl)
              try simp only [Act.put, List.setIfInBounds_toArray, List.set_cons_zero, List.set_cons_succ]
              refine wpAnyH_take (i := 47) (v := ?_) (by simp only [List.getElem?_toArray, List.getElem?_cons_zero, List.getElem?_cons_succ]; rfl) (by kernel_rfl) (by kernel_rfl) (by kernel_rfl) (fun _ _ _ h => h) (Or.inl ⟨by rfl, ?_⟩) trivial ?_
              rotate_left
              · (intro wq hSw; go_simp; all_goals with_reducible rfl)
              try simp only [Act.put, List.setIfInBounds_toArray, List.set_cons_zero, List.set_cons_succ]
              refine wpAnyH_done (by kernel_rfl) ?_ _
              refine NoPanic.normal ?_
              have hk1 : k + 1 ≤ S.size + T.size := by omega
              clear h1 h2
              go_wp2_with fail
              go_roundw
              case rel => exact ⟨k + 1, hk1, by go_num, by rw [HDM1.out]; exact HZ.out⟩
              case measure => simp [intOf]; omega
            · have hi2 : ¬ (k : Int) < (T.size : Int) := by omega
              have hd2 : decide ((k : Int) < (T.size : Int)) = false := decide_eq_false hi2
              have hdn2 : decide (k < T.size) = false := decide_eq_false h2
              have hdm2 := drop_more T k (by omega)
              have HDM2 := Lib.hid hdm2
              clear hdm2
              go_wp2_with fail
              go_meet
              exact ⟨k, by omega, by omega, HR.out⟩
      case rest =>
        obtain ⟨k, hk1, hk2, hR⟩ := hcut
        have HR2 := Lib.hid hR
        clear HR hR
        go_wp2_with fail
        refine (done_at wc X S k hk1 HR2.out.x).mono ?_
        rintro e wg ⟨rfl, hwg⟩
        subst hwg
        go_wp2_with fail
        refine (done_at _ Y T k hk2 HR2.out.y).mono ?_
        rintro e wg ⟨rfl, hwg⟩
        subst hwg
        go_wp2_with fail
        go_ret
        exact ⟨rfl, HR2.out.mod⟩
end Go.Proofs.Ytcmbklofbemclaa
