/- Boards: Print: the walk. -/
import Derived.Test.YtlndgnlkfhlekaaBdU
namespace Bd
/-- runes below 128 as bytes -/
def bytes (l : List Int) : List UInt8 := l.map fun x => UInt8.ofNat x.toNat
def text (W H : Nat) (E : List Int) : ByteArray := ⟨(bytes (txt W H E)).toArray⟩
/-- what is printed, as far as cell x of line y -/
def acc (W H : Nat) (E : List Int) (y x : Nat) : List Int := ((rows W H E).take y).flatMap (fun l => l ++ [10]) ++ (row W E y).take x
theorem acc_zero (W H : Nat) (E : List Int) : acc W H E 0 0 = [] := by simp [acc]
theorem row_get {W : Nat} {E : List Int} {y x : Nat} (hx : x < W) : (row W E y)[x]? = E[y * W + x]? := by
  unfold row
  rw [List.getElem?_take, if_pos hx, List.getElem?_drop]
theorem acc_step {W H : Nat} {E : List Int} {y x : Nat} {e : Int} (hx : x < W) (he : E[y * W + x]? = some e) : acc W H E y (x + 1) = acc W H E y x ++ [e] := by
  unfold acc
  rw [List.take_add_one, row_get hx, he, List.append_assoc]
  rfl
theorem acc_line {W H : Nat} {E : List Int} {y : Nat} (hy : y < H) (hl : E.length = W * H) : acc W H E (y + 1) 0 = acc W H E y W ++ [10] := by
  unfold acc
  have h1 : (rows W H E)[y]? = some (row W E y) := by unfold rows; rw [List.getElem?_map, List.getElem?_range hy]; rfl
  have h2 : (row W E y).length = W := rows_len hl _ (List.mem_of_getElem? h1)
  rw [List.take_add_one, h1, List.flatMap_append, List.take_zero, List.append_nil, List.take_of_length_le (Nat.le_of_eq h2)]
  simp
theorem acc_all (W H : Nat) (E : List Int) : acc W H E H 0 = txt W H E := by
  unfold acc txt
  rw [List.take_of_length_le (by simp [rows])]
  simp
theorem acc_len {W H : Nat} {E : List Int} (hl : E.length = W * H) : ∀ y x, y ≤ H → x ≤ W → (acc W H E y x).length ≤ y * (W + 1) + x := by
  intro y
  induction y with
  | zero => intro x _ hx; unfold acc; simp; omega
  | succ y ih =>
    intro x hy hx
    have h0 : (acc W H E (y + 1) x).length ≤ (acc W H E (y + 1) 0).length + x := by
      unfold acc
      simp only [List.length_append, List.take_zero, List.length_nil, List.length_take]
      omega
    have h1 := ih W (by omega) (Nat.le_refl _)
    have h2 := acc_line (E := E) (show y < H by omega) hl
    rw [h2, List.length_append] at h0
    simp only [List.length_cons, List.length_nil] at h0
    rw [Nat.succ_mul]
    omega
theorem bytes_app (a b : List Int) : bytes (a ++ b) = bytes a ++ bytes b := by simp [bytes]
theorem cell_byte {e : Int} (h : isCell e) : (e : Int) = ((UInt8.ofNat e.toNat).toNat : Int) ∧ (UInt8.ofNat e.toNat).toNat < 128 := by
  rcases h with rfl | rfl | rfl | rfl | rfl <;> decide
theorem txt_ne {W H : Nat} {E : List Int} (h : Fine W H E) : bytes (txt W H E) ≠ [] := by
  intro e
  have h1 : (bytes (txt W H E)).length = 0 := by rw [e]; rfl
  have h2 : txt W H E = acc W H E H 0 := (acc_all W H E).symm
  have h3 := h.h3
  obtain ⟨y, rfl⟩ : ∃ y, H = y + 1 := ⟨H - 1, by omega⟩
  rw [h2, acc_line (by omega) h.len, bytes_app, List.length_append] at h1
  simp [bytes] at h1
end Bd
namespace Go.Proofs.Ytlndgnlkfhlekaa
open Go.RowKit

set_option maxHeartbeats 2000000 in
set_option maxRecDepth 100000 in
theorem print_any (w : World) {b W H : Nat} {E : List Int} (h : BrdP w b W H E) :
    Calls Try.prog 13 #[.pointer (some ⟨b, 0, none⟩)] w fun e w' => e = .returned (.string (Bd.text W H E)) ∧ Mod none_ w w' := by
  have hf := h.fine
  obtain ⟨g, cap, rest, h1, h2, h3⟩ := h.mem
  have q0 := h1.cell (j := 0) rfl
  have q1 := h1.cell (j := 1) rfl
  have hbl := h1.lt
  have hw64 := hf.w64; have hh64 := hf.h64
  have hc := fun (q : World) (hM : Mod none_ w q) (x y : Int) => cellat_any q (h.none hM) x y
  have HC := Lib.hid hc; have HF := Lib.hid hf
  clear h h1 h2 h3 hc hf
  go_enter Try.func13, Try.ntmps13
  go_upto_region 2 with fail
  obtain ⟨w1, hw1⟩ : ∃ w1, w.alloc (.cells #[.pointer none, .slice none 0 0] 62) = w1 := ⟨_, rfl⟩
  have hM1 : Mod none_ w w1 := hw1 ▸ (Mod.refl none_ w).alloc _
  have hB1 : Blk w1 w.heap.size [.pointer none, .slice none 0 0] 62 := hw1 ▸ Blk.new w _ _
  rw [hw1]
  obtain ⟨Z, hZ⟩ : ∃ Z, w.heap.size = Z := ⟨_, rfl⟩
  have hP1 : Bld w1 Z Z (.pointer none) (.slice none 0 0) (Bd.bytes (Bd.acc W H E 0 0)) := ⟨hZ ▸ hB1, by rw [Bd.acc_zero]; exact Row.nil _ _ _ _, Or.inl rfl⟩
  simp only [hZ]
  have HZ := Lib.hid hZ; have HP1 := Lib.hid hP1; have HM1 := Lib.hid hM1
  have r0 := hM1.cellS q0 (fun h => h)
  have r1 := hM1.cellS q1 (fun h => h)
  have Q0 := Lib.hid q0
  clear hP1 hM1 hB1 hw1 hZ q0 q1 hbl
  go_wp2
  go_loopw [10] (fun u wr => ∃ y : Nat, u = .int .i64 y ∧ y ≤ H ∧ (∃ p v, Bld wr Z Z p v (Bd.bytes (Bd.acc W H E y 0))) ∧ Mod none_ w wr) (fun u _ => H - (intOf u).toNat)
  case atStart => exact ⟨0, rfl, by omega, ⟨_, _, HP1.out⟩, HM1.out⟩
  case round =>
    obtain ⟨y, rfl, hy, ⟨p, v, hB⟩, hM⟩ := hrel
    clear HP1
    have hZs := hM.size
    have HB := Lib.hid hB; have HM := Lib.hid hM
    by_cases hyH : y < H
    · have hyi : (y : Int) < (H : Int) := by omega
      have s0 := hM.cellS Q0.out (fun h => h)
      clear hB hM
      go_upto_block 2 with fail
      go_cut [] (fun wx => (∃ p v, Bld wx Z Z p v (Bd.bytes (Bd.acc W H E y W))) ∧ Mod none_ w wx)
      case first =>
        go_wp2
        go_loopw [17] (fun u wz => ∃ x : Nat, u = .int .i64 x ∧ x ≤ W ∧ (∃ p v, Bld wz Z Z p v (Bd.bytes (Bd.acc W H E y x))) ∧ Mod none_ w wz) (fun u _ => W - (intOf u).toNat)
        case atStart => exact ⟨0, rfl, by omega, ⟨_, _, HB.out⟩, HM.out⟩
        case round =>
          obtain ⟨x, rfl, hx, ⟨p, v, hBz⟩, hMz⟩ := hrel
          have HBz := Lib.hid hBz; have HMz := Lib.hid hMz
          clear hBz hMz
          by_cases hxW : x < W
          · have hxi : (x : Int) < (W : Int) := by omega
            have hxy : y * W + x < W * H := by
              have h4 : (y + 1) * W ≤ H * W := Nat.mul_le_mul_right W (by omega)
              rw [Nat.succ_mul, Nat.mul_comm H W] at h4
              omega
            obtain ⟨e, he⟩ : ∃ e, E[y * W + x]? = some e := ⟨_, List.getElem?_eq_getElem (by rw [HF.out.len]; exact hxy)⟩
            have hce : Bd.cellOf W H E x y = e := by
              unfold Bd.cellOf
              rw [if_neg (by omega)]
              have : ((y : Int) * (W : Int) + (x : Int)).toNat = y * W + x := by
                have : (y : Int) * (W : Int) = ((y * W : Nat) : Int) := by rw [Int.natCast_mul]
                rw [this]; omega
              rw [this, he]; rfl
            have hcl := HC.out _ HMz.out (x : Int) (y : Int)
            rw [hce] at hcl
            obtain ⟨hek, hk⟩ := Bd.cell_byte (HF.out.cell e (List.mem_of_getElem? he))
            have hst := Bd.acc_step (H := H) hxW he
            have hlen := Bd.acc_len HF.out.len y x hy hx
            have hl5 : (Bd.bytes (Bd.acc W H E y x)).length ≤ 100000 := by
              unfold Bd.bytes
              rw [List.length_map]
              have : y * (W + 1) ≤ 64 * 65 := Nat.mul_le_mul (by omega) (by omega)
              omega
            have hb1 : Bd.bytes (Bd.acc W H E y (x + 1)) = Bd.bytes (Bd.acc W H E y x) ++ [UInt8.ofNat e.toNat] := by rw [hst, Bd.bytes_app]; rfl
            obtain ⟨k, hkk⟩ : ∃ k, UInt8.ofNat e.toNat = k := ⟨_, rfl⟩
            rw [hkk] at hb1 hek hk
            rw [hek] at hcl
            have HCL := Lib.hid hcl; have HB1 := Lib.hid hb1; have HL5 := Lib.hid hl5
            clear hcl hst hlen hek hkk hce he hl5 hb1
            go_wp2_with fail
            refine HCL.out.mono ?_
            rintro r w5 ⟨rfl, hM5⟩
            have hwr := writeRune_any w5 Z Z p v _ k hk (HBz.out.none hM5) HL5.out (Nat.le_trans (Nat.le_of_eq HZ.out.symm) (HMz.out.then hM5).size)
            have HWR := Lib.hid hwr; have HM5 := Lib.hid (HMz.out.then hM5)
            have hbs : ∀ q, bldS Z v q → ¬ q < w.heap.size := fun q e => by
              rcases e with e | e
              · have := HZ.out; omega
              · have := Row.own_ge HBz.out.own e; have := HZ.out; omega
            have HBS := Lib.hid hbs
            clear hwr hM5 hbs
            go_wp2_with fail
            refine HWR.out.mono ?_
            rintro r w6 ⟨⟨n, rfl⟩, v6, hB6, hM6⟩
            have hM6w : Mod none_ w w6 := HM5.out.trans hM6 (fun q hq e => HBS.out q e hq)
            rw [← HB1.out] at hB6
            have HB6 := Lib.hid hB6; have HM6 := Lib.hid hM6w
            clear hB6 hM6 hM6w
            go_wp2
            go_roundw
            case rel => exact ⟨x + 1, by go_num, by omega, ⟨_, _, HB6.out⟩, HM6.out⟩
            case measure => simp [intOf]; omega
          · have hxi : ¬ (x : Int) < (W : Int) := by omega
            obtain rfl : x = W := by omega
            go_wp2
            go_meet
            exact ⟨⟨_, _, HBz.out⟩, HMz.out⟩
      case rest =>
        obtain ⟨⟨p2, v2, hB2⟩, hM2⟩ := hcut
        have hlen := Bd.acc_len HF.out.len y W hy (Nat.le_refl _)
        have hl5 : (Bd.bytes (Bd.acc W H E y W)).length ≤ 100000 := by
          unfold Bd.bytes
          rw [List.length_map]
          have : y * (W + 1) ≤ 64 * 65 := Nat.mul_le_mul (by omega) (by omega)
          omega
        have hb1 : Bd.bytes (Bd.acc W H E (y + 1) 0) = Bd.bytes (Bd.acc W H E y W) ++ [10] := by rw [Bd.acc_line hyH HF.out.len, Bd.bytes_app]; rfl
        have hwb := writeByte_any wc Z Z p2 v2 _ 10 hB2 hl5 (Nat.le_trans (Nat.le_of_eq HZ.out.symm) hM2.size)
        have hbs : ∀ q, bldS Z v2 q → ¬ q < w.heap.size := fun q e => by
          rcases e with e | e
          · have := HZ.out; omega
          · have := Row.own_ge hB2.own e; have := HZ.out; omega
        have HWB := Lib.hid hwb; have HB1 := Lib.hid hb1; have HBS := Lib.hid hbs; have HM2 := Lib.hid hM2
        clear hwb hb1 hbs hM2 hB2 hlen hl5 HB HM
        go_wp2_with fail
        refine HWB.out.mono ?_
        rintro r w6 ⟨rfl, v6, hB6, hM6⟩
        have hM6w : Mod none_ w w6 := HM2.out.trans hM6 (fun q hq e => HBS.out q e hq)
        rw [← HB1.out] at hB6
        have HB6 := Lib.hid hB6; have HM6 := Lib.hid hM6w
        clear hB6 hM6 hM6w
        go_wp2
        go_roundw
        case rel => exact ⟨y + 1, by go_num, by omega, ⟨_, _, HB6.out⟩, HM6.out⟩
        case measure => simp [intOf]; omega
    · have hyi : ¬ (y : Int) < (H : Int) := by omega
      obtain rfl : y = H := by omega
      have hst := string_any wr Z Z p v _ hB (by rw [Bd.acc_all]; exact Bd.txt_ne HF.out)
      rw [Bd.acc_all] at hst
      have hbs : ∀ q, bldS Z v q → ¬ q < w.heap.size := fun q e => by
        rcases e with e | e
        · have := HZ.out; omega
        · have := Row.own_ge hB.own e; have := HZ.out; omega
      have HST := Lib.hid hst; have HBS := Lib.hid hbs
      clear hst hbs hB hM HB
      go_wp2_with fail
      refine HST.out.mono ?_
      rintro r w6 ⟨rfl, hM6⟩
      go_wp2
      go_ret
      exact ⟨rfl, HM.out.trans hM6 (fun q hq e => HBS.out q e hq)⟩
end Go.Proofs.Ytlndgnlkfhlekaa
