/- pack's Writer: Bytes, Done. -/
import Derived.Test.YtcmbklofbemclaaPkW
namespace Go.Proofs.Ytcmbklofbemclaa
open Go.RowKit

namespace Pk
/-- what a Writer holds behind a call that lays b, or fails -/
def put (t : List Int) (e : Int) (ok : Bool) (b : List Int) : List Int × Int := if ok then (if e = 0 then (t ++ b, 0) else (t, e)) else (t, if e = 0 then 51 else e)
end Pk
/-- what a call of a Writer leaves -/
def WrTo (w w' : World) (base G V : Nat) (out : Value) (r : List Int × Int) : Prop :=
  Mod (fun b => b = G ∨ out.ownBlock = some b) w w' ∧ ∃ out', WrAt w' base G V out' r.1 r.2 ∧ (∀ b, out'.ownBlock = some b → out.ownBlock = some b ∨ w.heap.size ≤ b)
theorem WrTo.refl {w w' : World} {base G V : Nat} {out : Value} {t : List Int} {e : Int} (h : WrAt w base G V out t e) (hM : Mod none_ w w') : WrTo w w' base G V out (t, e) :=
  ⟨hM.mono (fun _ _ h => h.elim), out, h.mod hM (fun h => h) (fun h => h) (fun _ _ h => h), fun _ hb => Or.inl hb⟩

theorem WrTo.after {w w1 w' : World} {base G V : Nat} {out : Value} {r : List Int × Int} (hM : Mod none_ w w1) (h : WrTo w1 w' base G V out r) : WrTo w w' base G V out r := by
  obtain ⟨h1, out', h2, h3⟩ := h
  exact ⟨(hM.mono (fun _ _ h => h.elim)).trans h1 (fun _ _ h => h), out', h2, fun b hb => (h3 b hb).imp id (fun h => Nat.le_trans hM.size h)⟩
theorem put_ok (t : List Int) (b : List Int) : Pk.put t 0 true b = (t ++ b, 0) := by simp [Pk.put]
theorem put_err (t : List Int) (e : Int) (b : List Int) (he : e ≠ 0) : Pk.put t e true b = (t, e) := by rw [Pk.put, if_pos rfl, if_neg he]
theorem put_no (t : List Int) (e : Int) (b : List Int) : Pk.put t e false b = (t, if e = 0 then 51 else e) := by simp [Pk.put]

theorem nop_any (w : World) (s : ByteArray) : Calls Try.prog 48 #[.string s] w fun en w' => en = .returned (.tuple #[]) ∧ w' = w := by
  go_enter Try.func48, Try.ntmps48
  go_wp2
  go_end0
  exact ⟨rfl, rfl⟩

set_option maxHeartbeats 1000000 in
theorem w_bytes (w : World) (base G V : Nat) (out : Value) (t : List Int) (e : Int) (s : ByteArray) (h : WrAt w base G V out t e) (hl : t.length + s.size ≤ 140737488355328) (hb : base ≤ w.heap.size) :
    Calls Try.prog 16 #[.pointer (some ⟨G, 0, none⟩), .string s] w fun en w' => en = .returned (.tuple #[]) ∧ WrTo w w' base G V out (Pk.put t e true (num s)) := by
  have q2 : w.cell? ⟨G, 2, none⟩ = some (layOf V e) := h.row.cell rfl
  by_cases he : e = 0
  · subst he
    rw [layOf, if_pos rfl] at q2
    have HC := Lib.hid (lay_any w base G V out t s h hl hb)
    clear h
    go_enter Try.func16, Try.ntmps16
    go_wp2_with fail
    refine HC.out.mono ?_
    rintro en w' ⟨rfl, hM, hW⟩
    clear HC
    go_wp2_with fail
    go_end0
    exact ⟨rfl, hM, hW⟩
  · rw [layOf, if_neg he] at q2
    have hp : Pk.put t e true (num s) = (t, e) := by rw [Pk.put, if_pos rfl, if_neg he]
    have HP := Lib.hid hp; have HH := Lib.hid h
    clear hp h
    go_enter Try.func16, Try.ntmps16
    go_wp2_with fail
    refine (nop_any w s).mono ?_
    rintro en w' ⟨rfl, rfl⟩
    go_wp2_with fail
    go_end0
    exact ⟨rfl, by rw [HP.out]; exact WrTo.refl HH.out (Mod.refl _ _)⟩

set_option maxHeartbeats 1000000 in
theorem w_done (w : World) (base G V : Nat) (out : Value) (t : List Int) (e : Int) (h : WrAt w base G V out t e) (hl : t.length ≤ 140737488355328) :
    Calls Try.prog 20 #[.pointer (some ⟨G, 0, none⟩)] w fun en w' => en = .returned (.tuple #[.string (if e = 0 then strOf t else ⟨#[]⟩), .int .i64 e]) ∧ Mod none_ w w' := by
  have q1 : w.cell? ⟨G, 1, none⟩ = some (.int .i64 e) := h.row.cell rfl
  have q0 : w.cell? ⟨G, 0, none⟩ = some out := h.row.cell rfl
  by_cases he : e = 0
  · subst he
    have hcv := str_any w _ _ _ (h.own.bytes h.byt hl)
    clear h
    go_enter Try.func20, Try.ntmps20
    go_wp2_with fail
    go_ret2
    exact ⟨by simp, Mod.refl _ _⟩
  · have he' : (e == 0) = false := by simpa using he
    clear h
    go_enter Try.func20, Try.ntmps20
    go_wp2_with fail
    go_quiet (fail)
    go_wp2_with fail
    go_ret2
    exact ⟨rfl, (Mod.refl _ _).drewN _⟩
end Go.Proofs.Ytcmbklofbemclaa
