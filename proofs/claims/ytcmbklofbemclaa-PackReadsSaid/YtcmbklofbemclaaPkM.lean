/- PackReads: both Readers side by side; the law's walk. -/
import Derived.Test.YtcmbklofbemclaaPkRf
import Derived.Test.YtcmbklofbemclaaPkL
namespace Go.Proofs.Ytcmbklofbemclaa
open Go.RowKit

/-- both Readers hold the same, apart from one another -/
structure RQ (w0 w : World) (G R : Nat) (t : List Int) (e : Int) : Prop where
  prog : RdAt w G t e
  ref : QdAt w R t e
  mod : Mod none_ w0 w
  low : w0.heap.size ≤ G ∧ w0.heap.size ≤ R
  ne : G ≠ R
theorem RQ.ref1 {w0 w w1 : World} {G R : Nat} {t : List Int} {e : Int} {r : List Int × Int} (h : RQ w0 w G R t e) (h1 : RdTo w w1 G r) : QdAt w1 R t e := h.ref.mod h1.1 (fun e => h.ne e.symm)
theorem RQ.step {w0 w w1 w2 : World} {G R : Nat} {t : List Int} {e : Int} {r : List Int × Int} (h : RQ w0 w G R t e) (h1 : RdTo w w1 G r) (h2 : QdTo w1 w2 R r) : RQ w0 w2 G R r.1 r.2 :=
  ⟨h1.2.mod h2.1 h.ne, h2.2, (h.mod.trans h1.1 (fun b hb e => by have : b = G := e; have := h.low; omega)).trans h2.1 (fun b hb e => by have : b = R := e; have := h.low; omega), h.low, h.ne⟩
theorem RQ.grow {w0 w w1 : World} {G R : Nat} {t : List Int} {e : Int} (h : RQ w0 w G R t e) (hM : Mod none_ w w1) : RQ w0 w1 G R t e :=
  ⟨h.prog.mod hM (fun h => h), h.ref.mod hM (fun h => h), h.mod.then hM, h.low, h.ne⟩

theorem RQ.drew1 {w0 w : World} {G R : Nat} {t : List Int} {e : Int} (h : RQ w0 w G R t e) : RQ w0 w.drew G R t e := h.grow ((Mod.refl none_ w).drew)

set_option maxHeartbeats 2000000 in
theorem takes_any (w0 w : World) (G R : Nat) (t : List Int) (e : Int) (h : RQ w0 w G R t e) (o : PkOp) (ho : o.size ≤ 9223372036854775807) :
    Calls Try.prog 24 #[.pointer (some ⟨G, 0, none⟩), .pointer (some ⟨R, 0, none⟩), .agg o.cells.toArray] w fun en w' => en = .returned (.bool true) ∧ ∃ t' e', RQ w0 w' G R t' e' := by
  obtain ⟨ok, ou, oi, os, ob⟩ := o
  simp only at ho
  have hM := (Mod.refl none_ w).alloc (.cells #[.int .i64 ok, .int .u64 ou, .int .i64 oi, .int .i64 os, .string ob] 32)
  have hbl := (Blk.newA w #[.int .i64 ok, .int .u64 ou, .int .i64 oi, .int .i64 os, .string ob] 32).cs rfl
  have hf : w.heap.size ≠ G ∧ w.heap.size ≠ R := ⟨by have := h.prog.row.lt; omega, by obtain ⟨t', h1, _⟩ := h.ref.row; have := h1.lt; omega⟩
  have hh := h.grow hM
  have HH := Lib.hid hh; have HBL := Lib.hid hbl; have HF := Lib.hid hf
  clear hM h hbl hh hf
  show Calls Try.prog 24 #[.pointer (some ⟨G, 0, none⟩), .pointer (some ⟨R, 0, none⟩), .agg #[.int .i64 ok, .int .u64 ou, .int .i64 oi, .int .i64 os, .string ob]] w _
  have q3 : (w.alloc (.cells #[.int .i64 ok, .int .u64 ou, .int .i64 oi, .int .i64 os, .string ob] 32)).cell? ⟨w.heap.size, 3, none⟩ = some (.int .i64 os) := HBL.out.cell rfl
  by_cases k1 : ok = 1
  · subst k1
    go_enter Try.func24, Try.ntmps24
    go_upto_region 3 with fail
    generalize hwl : w.alloc (.cells #[.int .i64 1, .int .u64 ou, .int .i64 oi, .int .i64 os, .string ob] 32) = wl at *
    generalize w.heap.size = B at *
    obtain ⟨v, hv⟩ : ∃ v, ((Rd.number t e os).1 : Int) = v := ⟨_, rfl⟩
    have HV := Lib.hid hv
    have hM0 := Mod.refl none_ wl
    clear hv hwl
    go_region_held3 (fun w' => w'.cell? ⟨B, 3, none⟩ = some (.int .i64 os))
      (first | (simp [*]; done))
      (first | (go_at_call 32; refine (rd_number _ G t e os (HH.out.prog.mod (S := none_) (by repeat (first | assumption | refine Mod.drew ?_)) (fun h => h)) v HV.out).mono ?_; rintro en w1 ⟨rfl, hT1⟩; have q3' : w1.cell? ⟨B, 3, none⟩ = some (.int .i64 os) := (hT1.1.blk (HBL.out.drew) HF.out.1).cell rfl; have hr1 := HH.out.drew1.ref1 hT1)
             | (go_at_call 42; refine (q_number _ R t e os ho (by assumption) v HV.out).mono ?_; rintro en w2 ⟨rfl, hT2⟩; have q3'' : w2.cell? ⟨B, 3, none⟩ = some (.int .i64 os) := (hT2.1.blk (hT1.1.blk (HBL.out.drew) HF.out.1) HF.out.2).cell rfl))
    all_goals (go_wp2_with fail)
    all_goals go_ret
    all_goals exact ⟨rfl, _, _, HH.out.drew1.step hT1 hT2⟩
  by_cases k2 : ok = 2
  · subst k2
    go_enter Try.func24, Try.ntmps24
    go_upto_region 5 with fail
    generalize hwl : w.alloc (.cells #[.int .i64 2, .int .u64 ou, .int .i64 oi, .int .i64 os, .string ob] 32) = wl at *
    generalize w.heap.size = B at *
    obtain ⟨v, hv⟩ : ∃ v, (Rd.signed t e os).1 = v := ⟨_, rfl⟩
    have HV := Lib.hid hv
    have hM0 := Mod.refl none_ wl
    clear hv hwl
    go_region_held3 (fun w' => w'.cell? ⟨B, 3, none⟩ = some (.int .i64 os))
      (first | (simp [*]; done))
      (first | (go_at_call 33; refine (rd_signed _ G t e os (HH.out.prog.mod (S := none_) (by repeat (first | assumption | refine Mod.drew ?_)) (fun h => h)) v HV.out).mono ?_; rintro en w1 ⟨rfl, hT1⟩; have q3' : w1.cell? ⟨B, 3, none⟩ = some (.int .i64 os) := (hT1.1.blk (HBL.out.drew) HF.out.1).cell rfl; have hr1 := HH.out.drew1.ref1 hT1)
             | (go_at_call 43; refine (q_signed _ R t e os ho (by assumption) v HV.out).mono ?_; rintro en w2 ⟨rfl, hT2⟩; have q3'' : w2.cell? ⟨B, 3, none⟩ = some (.int .i64 os) := (hT2.1.blk (hT1.1.blk (HBL.out.drew) HF.out.1) HF.out.2).cell rfl))
    all_goals (go_wp2_with fail)
    all_goals go_ret
    all_goals exact ⟨rfl, _, _, HH.out.drew1.step hT1 hT2⟩
  by_cases k3 : ok = 3
  · subst k3
    go_enter Try.func24, Try.ntmps24
    go_upto_region 7 with fail
    generalize hwl : w.alloc (.cells #[.int .i64 3, .int .u64 ou, .int .i64 oi, .int .i64 os, .string ob] 32) = wl at *
    generalize w.heap.size = B at *
    obtain ⟨v, hv⟩ : ∃ v, strOf (Rd.ask t e os (decide (os < 0))).1 = v := ⟨_, rfl⟩
    have HV := Lib.hid hv
    have hM0 := Mod.refl none_ wl
    clear hv hwl
    go_region_held3 (fun w' => w'.cell? ⟨B, 3, none⟩ = some (.int .i64 os))
      (first | (simp [*]; done))
      (first | (go_at_call 34; refine (rd_bytes _ G t e os ho (HH.out.prog.mod (S := none_) (by repeat (first | assumption | refine Mod.drew ?_)) (fun h => h)) v HV.out).mono ?_; rintro en w1 ⟨rfl, hT1⟩; have q3' : w1.cell? ⟨B, 3, none⟩ = some (.int .i64 os) := (hT1.1.blk (HBL.out.drew) HF.out.1).cell rfl; have hr1 := HH.out.drew1.ref1 hT1)
             | (go_at_call 44; refine (q_bytes2 _ R t e os ho (by assumption) v HV.out).mono ?_; rintro en w2 ⟨rfl, hT2⟩; have q3'' : w2.cell? ⟨B, 3, none⟩ = some (.int .i64 os) := (hT2.1.blk (hT1.1.blk (HBL.out.drew) HF.out.1) HF.out.2).cell rfl))
    all_goals (go_wp2_with fail)
    all_goals go_ret
    all_goals exact ⟨rfl, _, _, HH.out.drew1.step hT1 hT2⟩
  have HH' := HH.out
  have HQ := Lib.hid HH'
  clear HH'
  by_cases k4 : ok = 4
  · subst k4
    obtain ⟨v, hv⟩ : ∃ v, strOf (Rd.text t e).1 = v := ⟨_, rfl⟩
    have HV := Lib.hid hv
    clear hv
    go_enter Try.func24, Try.ntmps24
    go_wp2_with fail
    refine (rd_text _ G t e HQ.out.prog v HV.out).mono ?_
    rintro en w1 ⟨rfl, hT1⟩
    have hr1 := HQ.out.ref1 hT1
    have HT1 := Lib.hid hT1
    clear hT1
    go_wp2_with fail
    refine (q_text _ R t e hr1 v HV.out).mono ?_
    rintro en w2 ⟨rfl, hT2⟩
    go_wp2_with fail
    go_ret
    exact ⟨rfl, _, _, HQ.out.step HT1.out hT2⟩
  by_cases k6 : ok = 6
  · subst k6
    go_enter Try.func24, Try.ntmps24
    go_wp2_with fail
    refine (rd_left _ G t e HQ.out.prog).mono ?_
    rintro en w1 ⟨rfl, rfl⟩
    go_wp2_with fail
    refine (q_left _ R t e HQ.out.ref).mono ?_
    rintro en w2 ⟨rfl, rfl⟩
    go_wp2_with fail
    go_ret
    exact ⟨rfl, _, _, HQ.out⟩
  by_cases k7 : ok = 7
  · subst k7
    obtain ⟨v, hv⟩ : ∃ v, strOf t = v := ⟨_, rfl⟩
    have HV := Lib.hid hv
    clear hv
    go_enter Try.func24, Try.ntmps24
    go_wp2_with fail
    refine (rd_rest _ G t e HQ.out.prog v HV.out).mono ?_
    rintro en w1 ⟨rfl, hT1⟩
    have hr1 := HQ.out.ref1 hT1
    have HT1 := Lib.hid hT1
    clear hT1
    go_wp2_with fail
    refine (q_rest _ R t e hr1 v HV.out).mono ?_
    rintro en w2 ⟨rfl, hT2⟩
    go_wp2_with fail
    go_ret
    exact ⟨rfl, _, _, HQ.out.step HT1.out hT2⟩
  obtain ⟨v, hv⟩ : ∃ v, (if e = 0 ∧ t ≠ [] then 51 else e) = v := ⟨_, rfl⟩
  have HV := Lib.hid hv
  clear hv
  go_enter Try.func24, Try.ntmps24
  go_wp2_with fail
  refine (rd_done _ G t e HQ.out.prog v HV.out).mono ?_
  rintro en w1 ⟨rfl, rfl⟩
  go_wp2_with fail
  refine (q_done _ R t e HQ.out.ref v HV.out).mono ?_
  rintro en w2 ⟨rfl, rfl⟩
  go_wp2_with fail
  go_ret
  exact ⟨rfl, _, _, HQ.out⟩
end Go.Proofs.Ytcmbklofbemclaa
