/- pack's Reader: Number. -/
import Derived.Test.YtcmbklofbemclaaPkX
namespace Go.Proofs.Ytcmbklofbemclaa
open Go.RowKit

namespace Rd
/-- a number out of its bytes, the highest first -/
def val (l : List Int) : Nat := l.foldl (fun a b => a * 256 + b.toNat) 0
theorem val_snoc (l : List Int) (b : Int) : val (l ++ [b]) = val l * 256 + b.toNat := by simp [val]
theorem val_take (l : List Int) (j : Nat) (b : Int) (h : l[j]? = some b) : val (l.take (j + 1)) = val (l.take j) * 256 + b.toNat := by
  rw [List.take_add_one, h, ← val_snoc]; rfl
theorem val_lt (l : List Int) (h : Sha.bytes l) : val l < 256 ^ l.length := by
  have : ∀ n, ∀ l : List Int, l.length = n → Sha.bytes l → val l < 256 ^ n := by
    intro n
    induction n with
    | zero => intro l hl _; rw [List.eq_nil_of_length_eq_zero hl]; decide
    | succ n ih =>
      intro l hl hb
      obtain ⟨l', b, rfl⟩ : ∃ l' b, l = l' ++ [b] := by
        rcases List.eq_nil_or_concat l with rfl | ⟨l', b, h⟩
        · simp at hl
        · exact ⟨l', b, by simpa using h⟩
      have h1 := ih l' (by simpa using hl) (fun x hx => hb x (by simp [hx]))
      have h2 := hb b (by simp)
      rw [val_snoc, Nat.pow_succ]
      omega
  exact this _ l rfl h
theorem or_step (X b : Nat) (hX : X < 72057594037927936) (hb : b < 256) : bits .or .u64 ((X : Int) * 256) (IntKind.u64.wrap (b : Int)) = ((X * 256 + b : Nat) : Int) := by
  have e1 : (X : Int) * 256 = ((X * 256 : Nat) : Int) := by omega
  have e2 : IntKind.u64.wrap (b : Int) = (b : Int) := by rw [IntKind.wrap_u64]; omega
  have h1 : (BitVec.ofInt 64 ((X * 256 : Nat) : Int)).toNat = X * 256 := by rw [BitVec.ofInt_natCast, BitVec.toNat_ofNat]; exact Nat.mod_eq_of_lt (by omega)
  have h2 : (BitVec.ofInt 64 (b : Int)).toNat = b := by rw [BitVec.ofInt_natCast, BitVec.toNat_ofNat]; exact Nat.mod_eq_of_lt (by omega)
  have h3 : X * 256 ||| b = X * 256 + b := by
    have := Nat.two_pow_add_eq_or_of_lt (i := 8) (b := b) (by omega) X
    rw [show (2 : Nat) ^ 8 = 256 by decide, Nat.mul_comm] at this
    exact this.symm
  rw [e1, e2]
  show IntKind.u64.wrap ((BitVec.ofInt 64 ((X * 256 : Nat) : Int) ||| BitVec.ofInt 64 (b : Int)).toNat : Int) = _
  rw [BitVec.toNat_or, h1, h2, h3, IntKind.wrap_u64]
  omega
/-- what a Reader answers to Number, and holds then -/
def number (t : List Int) (e k : Int) : Nat × (List Int × Int) := if 1 ≤ k ∧ k ≤ 8 then (val (take t e k.toNat).1, (take t e k.toNat).2) else (0, if e = 0 then ([], 51) else (t, e))
end Rd

set_option maxHeartbeats 2000000 in
theorem rd_number (w : World) (G : Nat) (t : List Int) (e : Int) (k : Int) (h : RdAt w G t e) (v : Int) (hv : ((Rd.number t e k).1 : Int) = v) :
    Calls Try.prog 32 #[.pointer (some ⟨G, 0, none⟩), .int .i64 k] w fun en w' => en = .returned (.int .u64 v) ∧ RdTo w w' G (Rd.number t e k).2 := by
  by_cases hk : 1 ≤ k ∧ k ≤ 8
  · have hd := Lib.hid (show decide (1 ≤ k ∧ k ≤ 8) = true from decide_eq_true hk)
    obtain ⟨n, rfl⟩ : ∃ n : Nat, k = n := ⟨k.toNat, by omega⟩
    have hnum : Rd.number t e n = (Rd.val (Rd.take t e n).1, (Rd.take t e n).2) := by rw [Rd.number, if_pos hk, Int.toNat_natCast]
    rw [hnum] at hv
    obtain ⟨l, hl⟩ : ∃ l, (Rd.take t e n).1 = l := ⟨_, rfl⟩
    have hn8 : n ≤ 8 := by omega
    have hll : l.length ≤ 8 := by
      rw [← hl, Rd.take]
      split
      · split
        · rw [List.length_take]; omega
        · simp
      · simp
    have hlb : Sha.bytes l := by
      rw [← hl, Rd.take]
      split
      · split
        · exact Sha.bytes_take h.byt _
        · exact fun x hx => by simp at hx
      · exact fun x hx => by simp at hx
    rw [hl] at hv
    have HNUM := Lib.hid hnum
    clear hnum hk
    have q2 : w.cell? ⟨G, 2, none⟩ = some (takeOf G e) := h.row.cell rfl
    go_enter Try.func32, Try.ntmps32
    go_wp2_with fail
    refine (sized_b w _ _ hd.out).mono ?_
    rintro en w1 ⟨rfl, rfl⟩
    go_upto_region 4 with fail
    go_cut [5, 6] (fun s b wx => s = .string (strOf l) ∧ (∃ β, b = .bool β) ∧ RdTo w1 wx G (Rd.take t e n).2)
    case first =>
      by_cases he : e = 0
      · subst he
        rw [takeOf, if_pos rfl] at q2
        have HN := Lib.hid (next_any w1 G t n h (by omega) (strOf l) (by rw [hl]) _ rfl)
        clear h hl hv hlb hll
        go_wp2_with fail
        refine HN.out.mono ?_
        rintro en w2 ⟨rfl, h2⟩
        go_wp2_with fail
        go_meet
        case rel => exact ⟨rfl, ⟨_, rfl⟩, h2⟩
      · rw [takeOf, if_neg he] at q2
        have hte : Rd.take t e n = ([], (t, e)) := by rw [Rd.take, if_neg he]
        rw [hte] at hl
        obtain rfl : [] = l := hl
        have HT := Lib.hid hte; have HH := Lib.hid h
        clear h hte hv
        go_wp2_with fail
        refine (none_any w1 G n).mono ?_
        rintro en w2 ⟨rfl, rfl⟩
        go_wp2_with fail
        go_meet
        case rel => exact ⟨rfl, ⟨_, rfl⟩, by rw [HT.out]; exact ⟨Mod.refl _ _, HH.out⟩⟩
    case rest =>
      obtain ⟨rfl, ⟨β, rfl⟩, hR⟩ := hcut
      have hsz := size_strOf l
      have hns := num_strOf l hlb
      obtain ⟨S, hS⟩ : ∃ S, strOf l = S := ⟨_, rfl⟩
      rw [hS] at hsz hns ⊢
      have hg : ∀ i, i < S.size → ∀ h2 : i < S.size, l[i]? = some ((S[i]'h2).toNat : Int) := fun i h h2 => by
        rw [← hns, num, nums, List.getElem?_map]
        have : S.data.toList[i]? = some (S[i]'h2) := by rw [Array.getElem?_toList]; exact Array.getElem?_eq_getElem _
        rw [this]; rfl
      have HG := Lib.hid hg; have HV := Lib.hid hv; have HR := Lib.hid hR
      clear hg hv hR hS hns hl q2 h
      go_wp2_with fail
      go_loopw [7, 25] (fun xv i wr => ∃ j : Nat, j ≤ l.length ∧ i = .int .i64 j ∧ xv = .int .u64 ((Rd.val (l.take j) : Nat) : Int) ∧ wr = wc) (fun _ i _ => l.length - (intOf i).toNat)
      case atStart => exact ⟨0, by omega, rfl, rfl, rfl⟩
      case round =>
        obtain ⟨j, hj, rfl, rfl, rfl⟩ := hrel
        by_cases hlt : j < l.length
        · have hji : (j : Int) < (S.size : Int) := by omega
          have hjs : j < S.size := by omega
          have hgj := HG.out j hjs hjs
          have hnx := Rd.val_take l j _ hgj
          have hvb := Rd.val_lt (l.take j) (Sha.bytes_take hlb j)
          have hX : Rd.val (l.take j) < 72057594037927936 := by
            refine Nat.lt_of_lt_of_le hvb ?_
            have : (l.take j).length ≤ 7 := by rw [List.length_take]; omega
            exact Nat.le_trans (Nat.pow_le_pow_right (by decide) this) (by decide)
          have hor := Rd.or_step (Rd.val (l.take j)) ((S[j]'hjs).toNat) hX (UInt8.toNat_lt _)
          have HNX := Lib.hid hnx; have HOR := Lib.hid hor
          clear hgj hnx hvb hor
          generalize Rd.val (l.take j) = X at *
          go_wp2_with fail
          go_roundw
          case rel => exact ⟨j + 1, by omega, by go_num, by rw [HOR.out, HNX.out]; rfl, trivial⟩
          case measure => simp [intOf]; omega
        · have hjn : j = l.length := by omega
          have hji : ¬ (j : Int) < (S.size : Int) := by omega
          rw [List.take_of_length_le (by omega)]
          have HVV := HV.out
          go_wp2_with fail
          go_ret
          exact ⟨by rw [← HVV]; rfl, by rw [HNUM.out]; exact HR.out⟩
  · have hd := Lib.hid (show decide (1 ≤ k ∧ k ≤ 8) = false from decide_eq_false hk)
    have hnum : Rd.number t e k = (0, if e = 0 then ([], 51) else (t, e)) := by rw [Rd.number, if_neg hk]
    rw [hnum] at hv
    obtain rfl : v = 0 := hv.symm
    have HNUM := Lib.hid hnum; have HC := Lib.hid (rd_fail w G t e h 51 (by decide))
    clear hnum hk h hv
    go_enter Try.func32, Try.ntmps32
    go_wp2_with fail
    refine (sized_b w _ _ hd.out).mono ?_
    rintro en w1 ⟨rfl, rfl⟩
    go_wp2_with fail
    refine HC.out.mono ?_
    rintro en w2 ⟨rfl, h2⟩
    go_wp2_with fail
    go_ret
    exact ⟨rfl, by rw [HNUM.out]; exact h2⟩
end Go.Proofs.Ytcmbklofbemclaa
