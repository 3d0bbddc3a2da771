/- mac.Same: the walk. -/
import Derived.Test.YtheamejbfopdaaaDoorMacA
import Derived.Laws.Bits64
namespace Go.Proofs.YtheamejbfopdaaaDoor
open Go.RowKit

theorem wrap_u8 (n : Int) : IntKind.u8.wrap n = n % 256 := by simp [IntKind.wrap, IntKind.bits, IntKind.signed]
theorem bits_xor_nat8 (a b : Nat) (ha : a < 256) (hb : b < 256) : bits .xor .u8 (a : Int) (b : Int) = ((a ^^^ b : Nat) : Int) := by
  have hx : a ^^^ b < 2 ^ 8 := Nat.xor_lt_two_pow (by omega) (by omega)
  have h1 : (BitVec.ofInt 8 (a : Int)).toNat = a := by rw [BitVec.ofInt_natCast, BitVec.toNat_ofNat]; exact Nat.mod_eq_of_lt (by omega)
  have h2 : (BitVec.ofInt 8 (b : Int)).toNat = b := by rw [BitVec.ofInt_natCast, BitVec.toNat_ofNat]; exact Nat.mod_eq_of_lt (by omega)
  show IntKind.u8.wrap ((BitVec.ofInt 8 (a : Int) ^^^ BitVec.ofInt 8 (b : Int)).toNat : Int) = _
  rw [BitVec.toNat_xor, h1, h2, wrap_u8]
  omega
theorem bits_or_nat8 (a b : Nat) (ha : a < 256) (hb : b < 256) : bits .or .u8 (a : Int) (b : Int) = ((a ||| b : Nat) : Int) := by
  have hx : a ||| b < 2 ^ 8 := Nat.or_lt_two_pow (by omega) (by omega)
  have h1 : (BitVec.ofInt 8 (a : Int)).toNat = a := by rw [BitVec.ofInt_natCast, BitVec.toNat_ofNat]; exact Nat.mod_eq_of_lt (by omega)
  have h2 : (BitVec.ofInt 8 (b : Int)).toNat = b := by rw [BitVec.ofInt_natCast, BitVec.toNat_ofNat]; exact Nat.mod_eq_of_lt (by omega)
  show IntKind.u8.wrap ((BitVec.ofInt 8 (a : Int) ||| BitVec.ofInt 8 (b : Int)).toNat : Int) = _
  rw [BitVec.toNat_or, h1, h2, wrap_u8]
  omega
theorem xor_zero (a b : Nat) : a ^^^ b = 0 ↔ a = b := by
  constructor
  · intro h
    have h2 : a ^^^ b ^^^ b = 0 ^^^ b := by rw [h]
    rwa [Nat.xor_assoc, Nat.xor_self, Nat.xor_zero, Nat.zero_xor] at h2
  · rintro rfl; exact Nat.xor_self a
theorem or_zero' (a b : Nat) : a ||| b = 0 ↔ a = 0 ∧ b = 0 := by
  constructor
  · intro h
    have h1 : a ≤ a ||| b := Nat.left_le_or
    have h2 : b ≤ a ||| b := Nat.right_le_or
    omega
  · rintro ⟨rfl, rfl⟩; rfl
/-- the difference stays zero just if the two bytes are alike -/
theorem dif_zero (d a b : Nat) (hd : d < 256) (ha : a < 256) (hb : b < 256) : ∃ e : Nat, e < 256 ∧ bits .or .u8 (d : Int) (bits .xor .u8 (a : Int) (b : Int)) = (e : Int) ∧ (e = 0 ↔ d = 0 ∧ a = b) := by
  have hx : a ^^^ b < 2 ^ 8 := Nat.xor_lt_two_pow (by omega) (by omega)
  refine ⟨d ||| (a ^^^ b), Nat.or_lt_two_pow (n := 8) (by omega) hx, ?_, ?_⟩
  · rw [bits_xor_nat8 a b ha hb, bits_or_nat8 _ _ hd (by omega)]
  · rw [or_zero', xor_zero]
theorem toList_eq_num (a b : ByteArray) : (a.toList == b.toList) = decide (a = b) := by
  rw [ByteArray.toList_eq, ByteArray.toList_eq]
  by_cases h : a = b
  · subst h; simp
  · have : ¬ a.data = b.data := fun e => h (ByteArray.ext e)
    simp [h, this]

set_option maxHeartbeats 1000000 in
theorem same_any (w : World) (a b : ByteArray) (ha : a.size ≤ 140737488355328) : Calls Tryd.prog 28 #[.string a, .string b] w fun e w' => e = .returned (.bool (decide (a = b))) ∧ ∃ q, w' = w.drewN q := by
  go_enter Tryd.func28, Tryd.ntmps28
  by_cases hs : a.size = b.size
  · have hn : ¬ ((a.size : Int) ≠ (b.size : Int)) := by omega
    have hn2 : (a.size : Int) = (b.size : Int) := by omega
    go_wp2_with fail
    go_loopw [5, 14] (fun d i wr => ∃ k : Nat, k ≤ a.size ∧ i = .int .i64 k ∧ (∃ e : Nat, e < 256 ∧ d = .int .u8 e ∧ (e = 0 ↔ ∀ j, j < k → a.data[j]? = b.data[j]?)) ∧ ∃ q, wr = w.drewN q) (fun _ i _ => a.size - (intOf i).toNat)
    case atStart => exact ⟨0, by omega, rfl, ⟨0, by omega, rfl, by simp⟩, 0, rfl⟩
    case round =>
      obtain ⟨k, hk, rfl, ⟨e, he, rfl, hek⟩, q, rfl⟩ := hrel
      by_cases hlt : k < a.size
      · have hka : (k : Int) < (a.size : Int) := by omega
        have hkb : (k : Int) < (b.size : Int) := by omega
        go_wp2_with fail
        go_quiet (fail)
        have hkb' : k < b.size := by omega
        obtain ⟨e2, he2, heq, hez⟩ := dif_zero e (a[k]'hlt).toNat (b[k]'hkb').toNat he (UInt8.toNat_lt _) (UInt8.toNat_lt _)
        rw [heq]
        have hz : e2 = 0 ↔ ∀ j, j < k + 1 → a.data[j]? = b.data[j]? := by
          rw [hez, hek]
          have h3 : (a[k]'hlt).toNat = (b[k]'hkb').toNat ↔ a.data[k]? = b.data[k]? := by
            have e1 : a.data[k]? = some (a[k]'hlt) := Array.getElem?_eq_getElem _
            have e2 : b.data[k]? = some (b[k]'hkb') := Array.getElem?_eq_getElem _
            rw [e1, e2, Option.some.injEq, UInt8.toNat_inj]
          rw [h3]
          constructor
          · rintro ⟨h4, h5⟩ j hj
            by_cases hjk : j = k
            · subst hjk; exact h5
            · exact h4 j (by omega)
          · intro h4
            exact ⟨fun j hj => h4 j (by omega), h4 k (by omega)⟩
        clear hez hek heq
        go_wp2_with fail
        go_roundw
        case rel => exact ⟨k + 1, by omega, by go_num, ⟨e2, he2, rfl, hz⟩, _, rfl⟩
        case measure => simp [intOf]; omega
      · have hka : ¬ (k : Int) < (a.size : Int) := by omega
        have hd : decide (a = b) = ((e : Int) == 0) := by
          have h1 : a = b ↔ e = 0 := by
            rw [hek]
            constructor
            · rintro rfl j _; rfl
            · intro h
              apply ByteArray.ext
              apply Array.ext_getElem?
              intro j
              by_cases hj : j < k
              · exact h j hj
              · have e1 : a.data.size = a.size := rfl
                have e2 : b.data.size = b.size := rfl
                rw [Array.getElem?_eq_none (by omega), Array.getElem?_eq_none (by omega)]
          by_cases h : e = 0
          · rw [decide_eq_true (h1.2 h), h]; rfl
          · rw [decide_eq_false (fun x => h (h1.1 x))]; simp [h]
        have HD := Lib.hid hd
        clear hd hek
        go_wp2_with fail
        go_ret
        exact ⟨by rw [HD.out]; rfl, _, rfl⟩
  · have hn : (a.size : Int) ≠ (b.size : Int) := by omega
    have hd : decide (a = b) = false := decide_eq_false (fun h => hs (by rw [h]))
    rw [hd]
    go_wp2_with fail
    go_ret
    exact ⟨rfl, 0, rfl⟩
end Go.Proofs.YtheamejbfopdaaaDoor
