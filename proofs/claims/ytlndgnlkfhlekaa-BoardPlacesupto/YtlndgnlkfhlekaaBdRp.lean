/- Boards: the document's Print: the walk. -/
import Derived.Test.YtlndgnlkfhlekaaBdRa
import Derived.Test.YtlndgnlkfhlekaaBdV
import Derived.Laws.Cover4
namespace Go.Proofs.Ytlndgnlkfhlekaa
open Go.RowKit

theorem under_str : Try.prog.underlying 9 = some .string := by kernel_rfl
theorem under_i32 : Try.prog.underlying 21 = some (.int .i32) := by kernel_rfl
theorem text_app (a b : List Int) : (⟨(Bd.bytes a).toArray⟩ : ByteArray) ++ ⟨(Bd.bytes b).toArray⟩ = ⟨(Bd.bytes (a ++ b)).toArray⟩ := by
  rw [Bd.bytes_app]
  ext1
  simp
theorem cell_rune {e : Int} (h : Bd.isCell e) : runesBytes [e] = ⟨(Bd.bytes [e]).toArray⟩ := by
  rcases h with rfl | rfl | rfl | rfl | rfl <;> decide +kernel
theorem one_rune (w : World) (W g x c : Nat) (e : Int) (hx : x < c) (he : w.cell? ⟨g, x, none⟩ = some (.int .i32 e)) :
    (∀ wq, (Instr.slice 53 (.slice (some ⟨g, 0, none⟩) W c) (some (.int .i64 (x : Int))) (some (.int .i64 ((x : Int) + 1))) none).run Try.prog wq = .ok (.slice (some ⟨g, x, none⟩) 1 (c - x)) wq) ∧
    (convert 53 9 (.slice (some ⟨g, x, none⟩) 1 (c - x))).run Try.prog w = .ok (.string (runesBytes [e])) w := by
  constructor
  · intro wq
    have hel : Try.prog.elem 53 = 21 := by kernel_rfl
    rw [run_slice_lh wq 53 (some ⟨g, 0, none⟩) W c (by rw [hel]; exact under_i32s) .i64 .i64 x ((x : Int) + 1) (by omega) (by omega) (by omega), hel]
    have hz : (sizeOf 21).run Try.prog wq = .ok 1 wq := by kernel_rfl
    rw [hz]
    have e1 : ((x : Int) + 1).toNat = x + 1 := by omega
    have e2 : ¬ c = x := by omega
    simp only [Result.andThen, sliced, Int.toNat_natCast, e1, Nat.mul_one, if_neg e2, Option.map_some]
    have e3 : (⟨g, 0, none⟩ : Addr).add x = ⟨g, x, none⟩ := by unfold Addr.add; split <;> simp_all
    have e4 : x + 1 - x = 1 := by omega
    rw [e3, e4]
  · have := run_convert_runes w 53 9 21 ⟨g, x, none⟩ 1 (c - x) [e] (Nat.le_refl _) under_i32s under_i32 under_str (by
      intro j hj
      match j, hj with
      | 0, _ => unfold Addr.add; exact he
      | j + 1, hj => simp at hj)
    exact this
set_option maxHeartbeats 1000000 in
theorem rprint_any (w : World) {b W H : Nat} {E : List Int} (h : RBrd w b W H E) :
    Calls Try.prog 14 #[.pointer (some ⟨b, 0, none⟩)] w fun e w' => e = .returned (.string (Bd.text W H E)) ∧ Mod none_ w w' := by
  have hf := h.fine
  have hw3 := hf.w3; have hw := hf.w64; have hh3 := hf.h3; have hh := hf.h64
  have hat := fun (q : World) (hM : Mod none_ w q) (y x : Nat) (hy : y < H) (hx : x < W) => (h.none hM).at hy hx
  have hsz : ∀ y x, y ≤ H → x ≤ W → (⟨(Bd.bytes (Bd.acc W H E y x)).toArray⟩ : ByteArray).size ≤ 5000 := by
    intro y x hy hx
    have h1 := Bd.acc_len (E := E) hf.len y x hy hx
    have h2 : y * (W + 1) ≤ 64 * 65 := Nat.mul_le_mul (by omega) (by omega)
    have h3 : (⟨(Bd.bytes (Bd.acc W H E y x)).toArray⟩ : ByteArray).size = (Bd.acc W H E y x).length := by
      show (Bd.bytes (Bd.acc W H E y x)).toArray.size = _
      simp [Bd.bytes]
    omega
  have HA := Lib.hid hat; have HF := Lib.hid hf; have HSZ := Lib.hid hsz
  clear h hat hf hsz
  go_enter Try.func14, Try.ntmps14
  go_wp2
  go_loopw [3, 4] (fun v t wr => ∃ y : Nat, t = .int .i64 y ∧ y ≤ H ∧ v = .string ⟨(Bd.bytes (Bd.acc W H E y 0)).toArray⟩ ∧ Mod none_ w wr) (fun _ t _ => H - (intOf t).toNat)
  case atStart => exact ⟨0, rfl, by omega, by rw [Bd.acc_zero]; rfl, Mod.refl _ _⟩
  case round =>
    obtain ⟨y, rfl, hy, rfl, hM⟩ := hrel
    have HM := Lib.hid hM
    clear hM
    by_cases hyH : y < H
    · obtain ⟨e, _, m, cap, g, c, q0, q1, q2, k1, k2⟩ := HA.out _ HM.out y 0 hyH (by omega)
      have hyH' : (y : Int) < (H : Int) := by omega
      obtain ⟨wo, rfl⟩ : ∃ wo : World, wo = wr := ⟨_, rfl⟩
      go_wp2_with fail
      clear q0 q1 q2
      go_loopw [3, 5] (fun v t wz => ∃ x : Nat, t = .int .i64 x ∧ x ≤ W ∧ v = .string ⟨(Bd.bytes (Bd.acc W H E y x)).toArray⟩ ∧ Mod none_ w wz) (fun _ t _ => W - (intOf t).toNat)
      case atStart => exact ⟨0, rfl, by omega, rfl, HM.out⟩
      case round =>
        obtain ⟨x, rfl, hx, rfl, hM⟩ := hrel
        have HM := Lib.hid hM
        clear hM
        by_cases hxW : x < W
        · obtain ⟨e, he, m, cap, g, c', q0, q1, q2, k1, k2⟩ := HA.out _ HM.out y x hyH hxW
          have hxW' : (x : Int) < (W : Int) := by omega
          have hc := HF.out.cell e (List.mem_of_getElem? he)
          obtain ⟨r1, r2⟩ := one_rune wr W g x c' e (by omega) q2
          rw [cell_rune hc] at r2
          have hst := Bd.acc_step (H := H) hxW he
          have HST := Lib.hid hst
          clear hc he hst
          obtain ⟨A, hA⟩ : ∃ A, (⟨(Bd.bytes (Bd.acc W H E y x)).toArray⟩ : ByteArray) = A := ⟨_, rfl⟩
          obtain ⟨A2, hA2⟩ : ∃ A, (⟨(Bd.bytes [e]).toArray⟩ : ByteArray) = A := ⟨_, rfl⟩
          have hz1 : A.size ≤ 5000 := by rw [← hA]; exact HSZ.out y x (by omega) hx
          have hz2 : A2.size = 1 := by rw [← hA2]; rfl
          have hz : A.size + A2.size ≤ 9223372036854775807 := by omega
          rw [hA2] at r2
          simp only [hA]
          clear hz1 hz2
          have H1 := Lib.hid hA; have H2 := Lib.hid hA2
          clear hA hA2
          go_wp2_with fail
          go_roundw
          case rel => exact ⟨x + 1, by go_num, by omega, by rw [← H1.out, ← H2.out, HST.out, text_app], HM.out⟩
          case measure => simp [intOf]; omega
        · obtain ⟨e, _, m, cap, g, c, q0, q1, q2, k1, k2⟩ := HA.out _ HM.out y 0 hyH (by omega)
          have hxW' : ¬ (x : Int) < (W : Int) := by omega
          have EXW := Lib.hid (show x = W by omega)
          have hst := Bd.acc_line (E := E) hyH HF.out.len
          have HST := Lib.hid hst
          clear hst
          obtain ⟨A, hA⟩ : ∃ A, (⟨(Bd.bytes (Bd.acc W H E y x)).toArray⟩ : ByteArray) = A := ⟨_, rfl⟩
          have hz1 : A.size ≤ 5000 := by rw [← hA]; exact HSZ.out y x (by omega) hx
          have hz : A.size + 1 ≤ 9223372036854775807 := by omega
          simp only [hA]
          have H1 := Lib.hid hA
          clear hA hz1
          go_wp2_with fail
          go_roundw
          case rel => exact ⟨y + 1, by go_num, by omega, by rw [← H1.out, EXW.out, HST.out, ← text_app]; rfl, HM.out⟩
          case measure => simp [intOf]; omega
    · obtain ⟨e, _, m, cap, g, c, q0, q1, q2, k1, k2⟩ := HA.out _ HM.out 0 0 (by omega) (by omega)
      have hyH' : ¬ (y : Int) < (H : Int) := by omega
      go_wp2
      go_ret
      exact ⟨ret_str (by unfold Bd.text; rw [show y = H by omega, Bd.acc_all]), HM.out⟩
end Go.Proofs.Ytlndgnlkfhlekaa
