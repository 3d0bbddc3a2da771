/- The reference's Reader: bytes, Number, Signed, Bytes, Text, Rest, Left, Done; pack's Reader: Bytes. -/
import Derived.Test.YtcmbklofbemclaaPkZ
namespace Go.Proofs.Ytcmbklofbemclaa
open Go.RowKit

/-- block R is a reference's Reader with t left; the first error is e -/
structure QdAt (w : World) (R : Nat) (t : List Int) (e : Int) : Prop where
  row : ∃ t', Blk w R [.string (strOf t'), .int .i64 e] 45 ∧ t'.length ≤ 9223372036854775807 ∧ (e = 0 → t' = t)
  byt : Sha.bytes t
  dead : e ≠ 0 → t = []
theorem QdAt.mod {S : Nat → Prop} {w w' : World} {R : Nat} {t : List Int} {e : Int} (h : QdAt w R t e) (hM : Mod S w w') (hR : ¬ S R) : QdAt w' R t e := by
  obtain ⟨t', h1, h3, h2⟩ := h.row
  exact ⟨⟨t', hM.blk h1 hR, h3, h2⟩, h.byt, h.dead⟩
def QdTo (w w' : World) (R : Nat) (r : List Int × Int) : Prop := Mod (only R) w w' ∧ QdAt w' R r.1 r.2

namespace Rd
/-- what a Reader gives of n bytes, if asked rightly -/
def ask (t : List Int) (e : Int) (n : Int) (odd : Bool) : List Int × (List Int × Int) := if odd then ([], if e = 0 then ([], 51) else (t, e)) else take t e n.toNat
theorem take_byt (t : List Int) (e : Int) (n : Nat) (h : Sha.bytes t) : Sha.bytes (take t e n).1 := by
  rw [take]
  split
  · split
    · exact Sha.bytes_take h _
    · exact fun x hx => by simp at hx
  · exact fun x hx => by simp at hx
theorem take_len (t : List Int) (e : Int) (n : Nat) : (take t e n).1.length = 0 ∨ (e = 0 ∧ (take t e n).1.length = n ∧ (take t e n).2.2 = 0) := by
  rw [take]
  split
  · split
    · right; rename_i h1 h2; exact ⟨h1, by rw [List.length_take]; omega, rfl⟩
    · left; rfl
  · left; rfl
theorem number_ask (t : List Int) (e k : Int) : number t e k = (val (ask t e k (!decide (1 ≤ k ∧ k ≤ 8))).1, (ask t e k (!decide (1 ≤ k ∧ k ≤ 8))).2) := by
  by_cases hk : 1 ≤ k ∧ k ≤ 8
  · rw [number, if_pos hk, ask, decide_eq_true hk]; rfl
  · rw [number, if_neg hk, ask, decide_eq_false hk]; rfl
end Rd

set_option maxHeartbeats 1000000 in
theorem q_bytes (w : World) (R : Nat) (t : List Int) (e : Int) (n : Int) (odd : Bool) (hn : odd = false → 0 ≤ n) (hn2 : n ≤ 9223372036854775807) (h : QdAt w R t e) (r : ByteArray) (hr : strOf (Rd.ask t e n odd).1 = r) :
    Calls Try.prog 46 #[.pointer (some ⟨R, 0, none⟩), .int .i64 n, .bool odd] w fun en w' => en = .returned (.string r) ∧ QdTo w w' R (Rd.ask t e n odd).2 := by
  obtain ⟨⟨t', hb, htl, ht⟩, hbyt, hdead⟩ := h
  have q0 : w.cell? ⟨R, 0, none⟩ = some (.string (strOf t')) := hb.cell rfl
  have q1 : w.cell? ⟨R, 1, none⟩ = some (.int .i64 e) := hb.cell rfl
  have f0 : w.frozen? ⟨R, 0, none⟩ = false := hb.frozen 0
  have f1 : w.frozen? ⟨R, 1, none⟩ = false := hb.frozen 1
  by_cases he : e = 0
  · subst he
    obtain rfl := ht rfl
    have hsz := size_strOf t'
    cases odd with
    | true =>
      obtain rfl : r = ⟨#[]⟩ := by rw [← hr]; rfl
      have HR : Hid (QdTo w (w.setCell ⟨R, 1, none⟩ (.int .i64 51)) R (Rd.ask t' 0 n true).2) := Lib.hid ⟨(Mod.refl _ _).setCell (fun _ => only_self R) _, ⟨t', (hb.set 1 _).cs rfl, htl, fun h => by cases h⟩, fun x hx => by simp [Rd.ask] at hx, fun _ => rfl⟩
      clear hb hr hsz hn
      generalize strOf t' = S at *
      go_enter Try.func46, Try.ntmps46
      go_wp2_with fail
      go_ret
      exact ⟨rfl, HR.out⟩
    | false =>
      obtain ⟨m, rfl⟩ : ∃ m : Nat, n = m := ⟨n.toNat, by have := hn rfl; omega⟩
      by_cases hnl : m ≤ t'.length
      · have hg : ¬ ((strOf t').size : Int) < (m : Int) := by rw [hsz]; omega
        have hrt : Rd.ask t' 0 m false = (t'.take m, (t'.drop m, 0)) := by simp [Rd.ask, Rd.take, hnl]
        rw [hrt] at hr
        have hs1 : ∀ wx, (Instr.slice 9 (.string (strOf t')) none (some (.int .i64 (m : Int))) none).run Try.prog wx = .ok (.string r) wx := fun wx => by
          rw [run_slice_string_h _ _ _ under_str _ _ (by omega) (by rw [hsz]; omega), Int.toNat_natCast, extract_to, hr]
        obtain ⟨D, hD⟩ : ∃ D, strOf (t'.drop m) = D := ⟨_, rfl⟩
        have hs2 : ∀ wx, (Instr.slice 9 (.string (strOf t')) (some (.int .i64 (m : Int))) none none).run Try.prog wx = .ok (.string D) wx := fun wx => by
          rw [run_slice_string_l _ _ _ under_str _ _ (by omega) (by rw [hsz]; omega), Int.toNat_natCast, extract_from, hD]
        have hR : QdTo w (w.setCell ⟨R, 0, none⟩ (.string D)) R (Rd.ask t' 0 m false).2 := by
          rw [hrt]
          exact ⟨(Mod.refl _ _).setCell (fun _ => only_self R) _, ⟨t'.drop m, (hb.set 0 _).cs (by rw [hD]; rfl), by rw [List.length_drop]; omega, fun _ => rfl⟩, Sha.bytes_drop hbyt m, fun h => absurd rfl h⟩
        have HR := Lib.hid hR
        clear hR hb hsz hrt hr hD hn
        generalize strOf t' = S at *
        go_enter Try.func46, Try.ntmps46
        go_wp2_with fail
        go_ret
        exact ⟨rfl, HR.out⟩
      · have hg : ((strOf t').size : Int) < (m : Int) := by rw [hsz]; omega
        have hrt : Rd.ask t' 0 m false = ([], ([], 50)) := by simp [Rd.ask, Rd.take, hnl]
        rw [hrt] at hr
        obtain rfl : r = ⟨#[]⟩ := by rw [← hr]; rfl
        have HR : Hid (QdTo w (w.setCell ⟨R, 1, none⟩ (.int .i64 50)) R (Rd.ask t' 0 m false).2) := by
          rw [hrt]
          exact Lib.hid ⟨(Mod.refl _ _).setCell (fun _ => only_self R) _, ⟨t', (hb.set 1 _).cs rfl, htl, fun h => by cases h⟩, fun x hx => by simp at hx, fun _ => rfl⟩
        clear hb hsz hrt hr hn
        generalize strOf t' = S at *
        go_enter Try.func46, Try.ntmps46
        go_wp2_with fail
        go_ret
        exact ⟨rfl, HR.out⟩
  · have he' : (e == 0) = false := by simpa using he
    have he2 : (e != 0) = true := by simpa using he
    have hrt : Rd.ask t e n odd = ([], (t, e)) := by
      cases odd
      · simp [Rd.ask, Rd.take, he]
      · simp [Rd.ask, he]
    rw [hrt] at hr
    obtain rfl : r = ⟨#[]⟩ := by rw [← hr]; rfl
    have HR : Hid (QdTo w w R (Rd.ask t e n odd).2) := by
      rw [hrt]
      exact Lib.hid ⟨Mod.refl _ _, ⟨t', hb, htl, fun h => absurd h he⟩, hbyt, hdead⟩
    clear hb hrt hr hn ht hdead
    generalize strOf t' = S at *
    go_enter Try.func46, Try.ntmps46
    go_wp2_with fail
    go_ret
    exact ⟨rfl, HR.out⟩
end Go.Proofs.Ytcmbklofbemclaa
