/- One call of a Writer, by its kind. -/
import Derived.Test.YtcmbklofbemclaaPkRf
import Derived.Test.YtcmbklofbemclaaPkL
namespace Go.Proofs.Ytcmbklofbemclaa
open Go.RowKit

namespace Pk
/-- is the call taken? -/
def oks (o : PkOp) : Bool := if o.kind = 1 then fits (o.u : Int) o.size else if o.kind = 2 then sfits o.i o.size else if o.kind = 3 then true else if o.kind = 4 then decide (o.s.size ≤ 255) else true
/-- its bytes -/
def bts (o : PkOp) : List Int := if o.kind = 1 then digs (o.u : Int) o.size.toNat else if o.kind = 2 then digs (o.i % 18446744073709551616) o.size.toNat else if o.kind = 3 then num o.s else if o.kind = 4 then (o.s.size : Int) :: num o.s else []
/-- what a Writer holds behind it -/
def step (r : List Int × Int) (o : PkOp) : List Int × Int := put r.1 r.2 (oks o) (bts o)
theorem bts_len (o : PkOp) (h : oks o = true) : (bts o).length ≤ 8 + o.s.size := by
  unfold oks at h
  unfold bts
  split
  · rename_i k; rw [if_pos k] at h; rw [length_digs]; simp [fits] at h; omega
  · rename_i k1; rw [if_neg k1] at h
    split
    · rename_i k; rw [if_pos k] at h; rw [length_digs]; simp [sfits] at h; omega
    · split
      · rw [length_num]; omega
      · split
        · rw [List.length_cons, length_num]; omega
        · simp
theorem step_len (t : List Int) (e : Int) (o : PkOp) : (step (t, e) o).1.length ≤ t.length + (8 + o.s.size) := put_len8 t e (oks o) (bts o) _ (bts_len o)
theorem step1 (t : List Int) (e : Int) (o : PkOp) (h : o.kind = 1) : step (t, e) o = put t e (fits (o.u : Int) o.size) (digs (o.u : Int) o.size.toNat) := by simp [step, oks, bts, h]
theorem step2 (t : List Int) (e : Int) (o : PkOp) (h : o.kind = 2) : step (t, e) o = put t e (sfits o.i o.size) (digs (o.i % 18446744073709551616) o.size.toNat) := by simp [step, oks, bts, h]
theorem step3 (t : List Int) (e : Int) (o : PkOp) (h : o.kind = 3) : step (t, e) o = put t e true (num o.s) := by simp [step, oks, bts, h]
theorem step4 (t : List Int) (e : Int) (o : PkOp) (h : o.kind = 4) : step (t, e) o = put t e (decide (o.s.size ≤ 255)) ((o.s.size : Int) :: num o.s) := by simp [step, oks, bts, h]
theorem step5 (t : List Int) (e : Int) (o : PkOp) (h1 : o.kind ≠ 1) (h2 : o.kind ≠ 2) (h3 : o.kind ≠ 3) (h4 : o.kind ≠ 4) : step (t, e) o = (t, e) := by
  simp only [step, oks, bts, h1, h2, h3, h4, if_false, put]
  by_cases he : e = 0 <;> simp [he]
end Pk

set_option maxHeartbeats 2000000 in
theorem lay_op (w : World) (base G V : Nat) (out : Value) (t : List Int) (e : Int) (o : PkOp) (h : WrAt w base G V out t e) (hl : t.length + (8 + o.s.size) ≤ 140737488355328) (hb : base ≤ w.heap.size) :
    Calls Try.prog 31 #[.pointer (some ⟨G, 0, none⟩), .agg o.cells.toArray] w fun en w' => en = .returned (.tuple #[]) ∧ WrTo w w' base G V out (Pk.step (t, e) o) := by
  have hs1 := Lib.hid (Pk.step1 t e o); have hs2 := Lib.hid (Pk.step2 t e o); have hs3 := Lib.hid (Pk.step3 t e o); have hs4 := Lib.hid (Pk.step4 t e o); have hs5 := Lib.hid (Pk.step5 t e o)
  obtain ⟨R, hR⟩ : ∃ R, Pk.step (t, e) o = R := ⟨_, rfl⟩
  rw [hR] at hs1 hs2 hs3 hs4 hs5 ⊢
  clear hR
  obtain ⟨ok, ou, oi, os, ob⟩ := o
  simp only at hl hs1 hs2 hs3 hs4 hs5
  have hM := (Mod.refl none_ w).alloc (.cells #[.int .i64 ok, .int .u64 ou, .int .i64 oi, .int .i64 os, .string ob] 32)
  have hbl := (Blk.newA w #[.int .i64 ok, .int .u64 ou, .int .i64 oi, .int .i64 os, .string ob] 32).cs rfl
  have hh := h.mod hM (fun h => h) (fun h => h) (fun _ _ h => h)
  have HH := Lib.hid hh; have HM := Lib.hid hM; have HB := Lib.hid (Nat.le_trans hb hM.size)
  show Calls Try.prog 31 #[.pointer (some ⟨G, 0, none⟩), .agg #[.int .i64 ok, .int .u64 ou, .int .i64 oi, .int .i64 os, .string ob]] w _
  have q1 : (w.alloc (.cells #[.int .i64 ok, .int .u64 ou, .int .i64 oi, .int .i64 os, .string ob] 32)).cell? ⟨w.heap.size, 1, none⟩ = some (.int .u64 ou) := hbl.cell rfl
  have q2 : (w.alloc (.cells #[.int .i64 ok, .int .u64 ou, .int .i64 oi, .int .i64 os, .string ob] 32)).cell? ⟨w.heap.size, 2, none⟩ = some (.int .i64 oi) := hbl.cell rfl
  have q3 : (w.alloc (.cells #[.int .i64 ok, .int .u64 ou, .int .i64 oi, .int .i64 os, .string ob] 32)).cell? ⟨w.heap.size, 3, none⟩ = some (.int .i64 os) := hbl.cell rfl
  have q4 : (w.alloc (.cells #[.int .i64 ok, .int .u64 ou, .int .i64 oi, .int .i64 os, .string ob] 32)).cell? ⟨w.heap.size, 4, none⟩ = some (.string ob) := hbl.cell rfl
  clear hM hh hbl h
  by_cases k1 : ok = 1
  · subst k1
    have HS := Lib.hid (hs1.out rfl)
    clear hs1 hs2 hs3 hs4 hs5
    go_enter Try.func31, Try.ntmps31
    go_wp2_with fail
    refine (w_number _ base G V out t e ou os HH.out (by omega) HB.out).mono ?_
    rintro en w1 ⟨rfl, hT⟩
    go_wp2_with fail
    go_end0
    exact ⟨rfl, by rw [HS.out]; exact hT.after HM.out⟩
  by_cases k2 : ok = 2
  · subst k2
    have HS := Lib.hid (hs2.out rfl)
    clear hs1 hs2 hs3 hs4 hs5
    go_enter Try.func31, Try.ntmps31
    go_wp2_with fail
    refine (w_signed _ base G V out t e oi os HH.out (by omega) HB.out).mono ?_
    rintro en w1 ⟨rfl, hT⟩
    go_wp2_with fail
    go_end0
    exact ⟨rfl, by rw [HS.out]; exact hT.after HM.out⟩
  by_cases k3 : ok = 3
  · subst k3
    have HS := Lib.hid (hs3.out rfl)
    clear hs1 hs2 hs3 hs4 hs5
    go_enter Try.func31, Try.ntmps31
    go_wp2_with fail
    refine (w_bytes _ base G V out t e ob HH.out (by omega) HB.out).mono ?_
    rintro en w1 ⟨rfl, hT⟩
    go_wp2_with fail
    go_end0
    exact ⟨rfl, by rw [HS.out]; exact hT.after HM.out⟩
  by_cases k4 : ok = 4
  · subst k4
    have HS := Lib.hid (hs4.out rfl)
    clear hs1 hs2 hs3 hs4 hs5
    go_enter Try.func31, Try.ntmps31
    go_wp2_with fail
    refine (w_text _ base G V out t e ob HH.out (by omega) HB.out).mono ?_
    rintro en w1 ⟨rfl, hT⟩
    go_wp2_with fail
    go_end0
    exact ⟨rfl, by rw [HS.out]; exact hT.after HM.out⟩
  have HS := Lib.hid (hs5.out k1 k2 k3 k4)
  clear hs1 hs2 hs3 hs4 hs5
  go_enter Try.func31, Try.ntmps31
  go_wp2_with fail
  go_end0
  exact ⟨rfl, by rw [HS.out]; exact (WrTo.refl HH.out (Mod.refl none_ _)).after HM.out⟩
end Go.Proofs.Ytcmbklofbemclaa
