/- PackBack: the law's walk. -/
import Derived.Test.YtcmbklofbemclaaPkBk
namespace Go.Proofs.Ytcmbklofbemclaa
open Go.RowKit

/-- one Writer of the call's own, all else as it was -/
structure WB (w0 w : World) (G : Nat) (out : Value) (t : List Int) (e : Int) : Prop where
  prog : WrAt w w0.heap.size G (G + 1) out t e
  mod : Mod none_ w0 w
theorem WB.step {w0 w w1 : World} {G : Nat} {out : Value} {t : List Int} {e : Int} {r : List Int × Int} (h : WB w0 w G out t e) (h1 : WrTo w w1 w0.heap.size G (G + 1) out r) : ∃ out', WB w0 w1 G out' r.1 r.2 := by
  obtain ⟨hM1, out', hW, _⟩ := h1
  refine ⟨out', hW, h.mod.trans hM1 (fun b hb e => ?_)⟩
  rcases e with e | e
  · have := h.prog.low.1; omega
  · have := h.prog.own.own_ge e; omega
theorem WB.grow {w0 w w1 : World} {G : Nat} {out : Value} {t : List Int} {e : Int} (h : WB w0 w G out t e) (hM : Mod none_ w w1) : WB w0 w1 G out t e :=
  ⟨h.prog.mod hM (fun h => h) (fun h => h) (fun _ _ h => h), h.mod.then hM⟩
theorem WB.size {w0 w : World} {G : Nat} {out : Value} {t : List Int} {e : Int} (h : WB w0 w G out t e) : w0.heap.size ≤ w.heap.size := h.mod.size
/-- one Reader of the call's own -/
structure RB (w0 w : World) (G : Nat) (t : List Int) (e : Int) : Prop where
  prog : RdAt w G t e
  mod : Mod none_ w0 w
  low : w0.heap.size ≤ G
theorem RB.step {w0 w w1 : World} {G : Nat} {t : List Int} {e : Int} {r : List Int × Int} (h : RB w0 w G t e) (h1 : RdTo w w1 G r) : RB w0 w1 G r.1 r.2 :=
  ⟨h1.2, h.mod.trans h1.1 (fun b hb e => by have : b = G := e; have := h.low; omega), h.low⟩
theorem RB.grow {w0 w w1 : World} {G : Nat} {t : List Int} {e : Int} (h : RB w0 w G t e) (hM : Mod none_ w w1) : RB w0 w1 G t e :=
  ⟨h.prog.mod hM (fun h => h), h.mod.then hM, h.low⟩

theorem foldl_take (ops : List PkOp) (k : Nat) (o : PkOp) (h : ops[k]? = some o) (r : List Int × Int) : (ops.take (k + 1)).foldl Pk.step r = Pk.step ((ops.take k).foldl Pk.step r) o := by
  rw [List.take_add_one, h, List.foldl_append]; rfl

theorem rb_number {w wr : World} {R : Nat} {o : PkOp} {r : List Int} (h : RB w wr R (Pk.bts o ++ r) 0) (hk : o.kind = 1) (hu : o.u < 18446744073709551616) (ho : Pk.oks o = true) :
    Calls Try.prog 32 #[.pointer (some ⟨R, 0, none⟩), .int .i64 o.size] wr fun en w' => en = .returned (.int .u64 (o.u : Int)) ∧ Mod (only R) wr w' ∧ RB w w' R r 0 := by
  have hf : Pk.fits (o.u : Int) o.size = true := by simpa [Pk.oks, hk] using ho
  have hb : Pk.bts o = Pk.digs (o.u : Int) o.size.toNat := by simp [Pk.bts, hk]
  have hn := Rd.number_back o.u o.size r hu hf
  rw [← hb] at hn
  refine (rd_number wr R _ 0 o.size h.prog (o.u : Int) (by rw [hn])).mono ?_
  rintro en w' ⟨rfl, hT⟩
  have := h.step hT
  rw [hn] at this
  exact ⟨rfl, hT.1, this⟩
theorem rb_signed {w wr : World} {R : Nat} {o : PkOp} {r : List Int} (h : RB w wr R (Pk.bts o ++ r) 0) (hk : o.kind = 2) (hi : -9223372036854775808 ≤ o.i ∧ o.i ≤ 9223372036854775807) (ho : Pk.oks o = true) :
    Calls Try.prog 33 #[.pointer (some ⟨R, 0, none⟩), .int .i64 o.size] wr fun en w' => en = .returned (.int .i64 o.i) ∧ Mod (only R) wr w' ∧ RB w w' R r 0 := by
  have hf : Pk.sfits o.i o.size = true := by simpa [Pk.oks, hk] using ho
  have hb : Pk.bts o = Pk.digs (o.i % 18446744073709551616) o.size.toNat := by simp [Pk.bts, hk]
  have hn := Rd.signed_back o.i o.size r hi hf
  rw [← hb] at hn
  refine (rd_signed wr R _ 0 o.size h.prog o.i (by rw [hn])).mono ?_
  rintro en w' ⟨rfl, hT⟩
  have := h.step hT
  rw [hn] at this
  exact ⟨rfl, hT.1, this⟩
theorem rb_bytes {w wr : World} {R : Nat} {o : PkOp} {r : List Int} (h : RB w wr R (Pk.bts o ++ r) 0) (hk : o.kind = 3) (hs : o.s.size ≤ 9223372036854775807) :
    Calls Try.prog 34 #[.pointer (some ⟨R, 0, none⟩), .int .i64 (o.s.size : Int)] wr fun en w' => en = .returned (.string o.s) ∧ Mod (only R) wr w' ∧ RB w w' R r 0 := by
  have hb : Pk.bts o = num o.s := by simp [Pk.bts, hk]
  have hn := Rd.ask_back o.s r
  have h0 : decide ((o.s.size : Int) < 0) = false := decide_eq_false (by omega)
  rw [← hb, ← h0] at hn
  refine (rd_bytes wr R _ 0 (o.s.size : Int) (by omega) h.prog o.s (by rw [hn, hb, strOf_num])).mono ?_
  rintro en w' ⟨rfl, hT⟩
  have := h.step hT
  rw [hn] at this
  exact ⟨rfl, hT.1, this⟩
theorem rb_text {w wr : World} {R : Nat} {o : PkOp} {r : List Int} (h : RB w wr R (Pk.bts o ++ r) 0) (hk : o.kind = 4) :
    Calls Try.prog 35 #[.pointer (some ⟨R, 0, none⟩)] wr fun en w' => en = .returned (.string o.s) ∧ Mod (only R) wr w' ∧ RB w w' R r 0 := by
  have hb : Pk.bts o = (o.s.size : Int) :: num o.s := by simp [Pk.bts, hk]
  have hn := Rd.text_back o.s r
  rw [← hb] at hn
  refine (rd_text wr R _ 0 h.prog o.s (by rw [hn]; exact strOf_num _)).mono ?_
  rintro en w' ⟨rfl, hT⟩
  have := h.step hT
  rw [hn] at this
  exact ⟨rfl, hT.1, this⟩
theorem rb_none {w wr : World} {R : Nat} {o : PkOp} {r : List Int} (h : RB w wr R (Pk.bts o ++ r) 0) (h1 : o.kind ≠ 1) (h2 : o.kind ≠ 2) (h3 : o.kind ≠ 3) (h4 : o.kind ≠ 4) : RB w wr R r 0 := by
  have hb : Pk.bts o = [] := by simp [Pk.bts, h1, h2, h3, h4]
  rw [hb] at h
  exact h
theorem RB.drew {w wr : World} {R : Nat} {t : List Int} {e : Int} (h : RB w wr R t e) : RB w wr.drew R t e := h.grow ((Mod.refl none_ _).drew)

set_option maxHeartbeats 2000000 in
set_option maxRecDepth 100000 in
theorem packBack_any (w : World) (sa : Option Addr) (n c : Nat) (ops : List PkOp) (hp : OpsAt w w.heap.size sa n ops) (hl : Pk.weight ops ≤ 70368744177664) (hi : ∀ o ∈ ops, -9223372036854775808 ≤ o.i ∧ o.i ≤ 9223372036854775807) (hsz : ∀ o ∈ ops, o.s.size ≤ 9223372036854775807) :
    Calls Try.prog 6 #[.slice sa n c] w fun e w' => e = .returned (.bool true) ∧ Mod none_ w w' := by
  have hn48 : n ≤ 70368744177664 := by
    have : ∀ l : List PkOp, l.length ≤ Pk.weight l := by
      intro l
      induction l with
      | nil => simp [Pk.weight]
      | cons x a ih => simp only [List.length_cons, Pk.weight]; omega
    have := this ops
    rw [hp.1] at this
    omega
  have HP := Lib.hid hp; have HL := Lib.hid hl; have HI := Lib.hid hi; have HSZ := Lib.hid hsz
  clear hp hl hi hsz
  go_enter Try.func6, Try.ntmps6
  go_wp2_with fail
  refine (alive5_any w).mono ?_
  rintro e w1 ⟨rfl, hM1⟩
  go_wp2_with fail
  refine (new_writer w1 w.heap.size hM1.size).mono ?_
  rintro e w2 ⟨rfl, hM2, h2, hs2⟩
  have hb : WB w w2 w1.heap.size (.slice none 0 0) [] 0 := ⟨h2, hM1.then hM2⟩
  have HB := Lib.hid hb
  generalize w1.heap.size = G at *
  clear hb h2 hM1 hM2 hs2
  go_wp2_with fail
  go_loopw [4] (fun i wr => ∃ (k : Nat) (out : Value) (t : List Int) (e : Int), k ≤ n ∧ i = .int .i64 k ∧ WB w wr G out t e ∧ Hid ((ops.take k).foldl Pk.step ([], 0) = (t, e)) ∧ t.length ≤ Pk.weight (ops.take k)) (fun i _ => n - (intOf i).toNat)
  case atStart => exact ⟨0, _, _, _, by omega, rfl, HB.out, Lib.hid rfl, by simp⟩
  case round =>
    clear HB
    obtain ⟨k, out, t, e, hk, rfl, hB, HF, ht⟩ := hrel
    have hwk := Pk.weight_le ops k
    have hwl := HL.out
    by_cases hlt : k < n
    · obtain ⟨hol, hou, hoc⟩ := HP.out
      obtain ⟨lb, lo, rfl, hlb, hcc⟩ := hoc (by omega)
      obtain ⟨o, ho⟩ : ∃ o, ops[k]? = some o := ⟨_, List.getElem?_eq_getElem (by omega)⟩
      have hc := hcc k o ho
      have hwk1 := Pk.weight_take ops k o ho
      have hwk2 := Pk.weight_le ops (k + 1)
      have hfo := foldl_take ops k o ho ([], 0)
      rw [HF.out] at hfo
      have hsl := Pk.step_len t e o
      have HC := Lib.hid (lay_op wr w.heap.size G (G + 1) out t e o hB.prog (by omega) hB.size)
      obtain ⟨ok, ou, oi, os, ob⟩ := o
      have q0 : wr.cell? ⟨lb, lo + k * 5, none⟩ = some (.int .i64 ok) := hB.mod.cellS (hc 0 _ rfl) (fun h => h)
      have q1 : wr.cell? ⟨lb, lo + k * 5 + 1, none⟩ = some (.int .u64 ou) := hB.mod.cellS (hc 1 _ rfl) (fun h => h)
      have q2 : wr.cell? ⟨lb, lo + k * 5 + 2, none⟩ = some (.int .i64 oi) := hB.mod.cellS (hc 2 _ rfl) (fun h => h)
      have q3 : wr.cell? ⟨lb, lo + k * 5 + 3, none⟩ = some (.int .i64 os) := hB.mod.cellS (hc 3 _ rfl) (fun h => h)
      have q4 : wr.cell? ⟨lb, lo + k * 5 + 4, none⟩ = some (.string ob) := hB.mod.cellS (hc 4 _ rfl) (fun h => h)
      have hki : (k : Int) < (n : Int) := by omega
      have hlen : (Pk.step (t, e) ⟨ok, ou, oi, os, ob⟩).1.length ≤ Pk.weight (ops.take (k + 1)) := by
        simp only at hwk1 hsl
        omega
      have HB := Lib.hid hB; have HFO := Lib.hid hfo; have HLN := Lib.hid hlen
      clear hc hcc hoc hou ho hol hB hwk1 hfo HF hsl hlen
      go_wp2_with fail
      refine HC.out.mono ?_
      rintro en wa ⟨rfl, hT⟩
      obtain ⟨out2, hB2⟩ := HB.out.step hT
      have HB2 := Lib.hid hB2
      clear HC hT hB2
      go_wp2_with fail
      go_roundw
      case rel => exact ⟨k + 1, out2, _, _, by omega, by go_num, HB2.out, Lib.hid HFO.out, HLN.out⟩
      case measure => simp [intOf]; omega
    · have hkn : k = n := by omega
      subst hkn
      have hHl : t.length ≤ 140737488355328 := by omega
      have HBB := Lib.hid hB
      clear hB
      have hki : ¬ (k : Int) < (k : Int) := by omega
      have hall : ops.take k = ops := by rw [List.take_of_length_le]; rw [HP.out.1]; omega
      rw [hall] at HF
      have hrun := Pk.run_e ops []
      rw [HF.out, List.nil_append] at hrun
      clear hall HF
      rcases hrun with he | ⟨he, hok⟩
      · have he' : e = 51 := he
        subst he'
        clear he
        go_wp2_with fail
        refine (w_done wr w.heap.size G (G + 1) out t 51 HBB.out.prog hHl).mono ?_
        rintro en wa ⟨rfl, hMa⟩
        have e0 : (if (51 : Int) = 0 then strOf t else ⟨#[]⟩) = (⟨#[]⟩ : ByteArray) := rfl
        rw [e0]
        clear e0
        have hB2 := HBB.out.grow hMa
        have HB2 := Lib.hid hB2
        clear hB2 hMa
        go_wp2_with fail
        go_ret
        exact ⟨rfl, HB2.out.mod⟩
      · obtain ⟨rfl, rfl⟩ : t = ops.flatMap Pk.bts ∧ e = 0 := by simpa using he
        have HOK := Lib.hid hok
        clear he hok
        go_wp2_with fail
        refine (w_done wr w.heap.size G (G + 1) out _ 0 HBB.out.prog hHl).mono ?_
        rintro en wa ⟨rfl, hMa⟩
        rw [if_pos rfl]
        have hnum := num_strOf (ops.flatMap Pk.bts) HBB.out.prog.byt
        obtain ⟨S, hS⟩ : ∃ S, strOf (ops.flatMap Pk.bts) = S := ⟨_, rfl⟩
        rw [hS] at hnum ⊢
        have hB2 := HBB.out.mod.then hMa
        have HM := Lib.hid hB2; have HN := Lib.hid hnum
        clear hB2 hMa HBB hS hnum
        go_wp2_with fail
        refine (new_reader wa S).mono ?_
        rintro en w3 ⟨rfl, hM3, h3, hs3⟩
        rw [HN.out] at h3
        have hR : RB w w3 wa.heap.size (ops.flatMap Pk.bts) 0 := ⟨h3, HM.out.then hM3, HM.out.size⟩
        have HR := Lib.hid hR
        generalize wa.heap.size = R at *
        clear hR h3 hM3 hs3 HN HM
        go_wp2_with fail
        have hnn := hn48
        go_loopw [8] (fun i wr => ∃ (j : Nat), j ≤ k ∧ i = .int .i64 j ∧ RB w wr R ((ops.drop j).flatMap Pk.bts) 0) (fun i _ => k - (intOf i).toNat)
        case atStart => exact ⟨0, by omega, rfl, HR.out⟩
        case round =>
          clear HR
          obtain ⟨j, hj, rfl, hB⟩ := hrel
          by_cases hlt : j < k
          · obtain ⟨hol, hou, hoc⟩ := HP.out
            obtain ⟨lb, lo, rfl, hlb, hcc⟩ := hoc (by omega)
            obtain ⟨o, ho⟩ : ∃ o, ops[j]? = some o := ⟨_, List.getElem?_eq_getElem (by omega)⟩
            have hc := hcc j o ho
            have hmem := List.mem_of_getElem? ho
            have hdr : ops.drop j = o :: ops.drop (j + 1) := by
              have hjl : j < ops.length := (List.getElem?_eq_some_iff.1 ho).1
              have hje : ops[j] = o := (List.getElem?_eq_some_iff.1 ho).2
              rw [← hje]; exact List.drop_eq_getElem_cons hjl
            rw [hdr, List.flatMap_cons] at hB
            have hM := (Mod.refl none_ wr).alloc (.cells o.cells.toArray 32)
            have hbl := (Blk.newA wr o.cells.toArray 32)
            have hf : wr.heap.size ≠ R := by have := hB.prog.row.lt; omega
            have hRL := hB.grow hM
            have HOK1 := Lib.hid (HOK.out o hmem); have HOI := Lib.hid (HI.out o hmem); have HOU := Lib.hid (hou o hmem); have HOS := Lib.hid (HSZ.out o hmem)
            obtain ⟨rr, hrr⟩ : ∃ rr, (ops.drop (j + 1)).flatMap Pk.bts = rr := ⟨_, rfl⟩
            rw [hrr] at hB hRL
            have HRR := Lib.hid hrr
            clear hrr
            obtain ⟨ok, ou, oi, os, ob⟩ := o
            have hbl : Blk (wr.alloc (.cells #[.int .i64 ok, .int .u64 ou, .int .i64 oi, .int .i64 os, .string ob] 32)) wr.heap.size [.int .i64 ok, .int .u64 ou, .int .i64 oi, .int .i64 os, .string ob] 32 := hbl
            have hRL : RB w (wr.alloc (.cells #[.int .i64 ok, .int .u64 ou, .int .i64 oi, .int .i64 os, .string ob] 32)) R (Pk.bts ⟨ok, ou, oi, os, ob⟩ ++ rr) 0 := hRL
            have q0 : wr.cell? ⟨lb, lo + j * 5, none⟩ = some (.int .i64 ok) := hB.mod.cellS (hc 0 _ rfl) (fun h => h)
            have q1 : wr.cell? ⟨lb, lo + j * 5 + 1, none⟩ = some (.int .u64 ou) := hB.mod.cellS (hc 1 _ rfl) (fun h => h)
            have q2 : wr.cell? ⟨lb, lo + j * 5 + 2, none⟩ = some (.int .i64 oi) := hB.mod.cellS (hc 2 _ rfl) (fun h => h)
            have q3 : wr.cell? ⟨lb, lo + j * 5 + 3, none⟩ = some (.int .i64 os) := hB.mod.cellS (hc 3 _ rfl) (fun h => h)
            have q4 : wr.cell? ⟨lb, lo + j * 5 + 4, none⟩ = some (.string ob) := hB.mod.cellS (hc 4 _ rfl) (fun h => h)
            have hji : (j : Int) < (k : Int) := by omega
            have HBL := Lib.hid hbl; have HF := Lib.hid hf; have HRL := Lib.hid hRL
            clear hc hcc hoc hou ho hol hB hdr hmem hM hbl hf hRL
            by_cases k1 : ok = 1
            · subst k1
              go_upto_region 19 with fail
              generalize wr.alloc (.cells #[.int .i64 1, .int .u64 ou, .int .i64 oi, .int .i64 os, .string ob] 32) = wl at *
              generalize wr.heap.size = B at *
              have p1 : wl.cell? ⟨B, 1, none⟩ = some (.int .u64 ou) := HBL.out.cell rfl
              have p2 : wl.cell? ⟨B, 2, none⟩ = some (.int .i64 oi) := HBL.out.cell rfl
              have p3 : wl.cell? ⟨B, 3, none⟩ = some (.int .i64 os) := HBL.out.cell rfl
              have p4 : wl.cell? ⟨B, 4, none⟩ = some (.string ob) := HBL.out.cell rfl
              have hM0 := Mod.refl none_ wl
              go_region_held3 (fun w' => w'.cell? ⟨B, 3, none⟩ = some (.int .i64 os) ∧ w'.cell? ⟨B, 1, none⟩ = some (.int .u64 ou))
                (first | (simp [*]; done))
                (first | (go_at_call 32; refine (rb_number HRL.out.drew (o := ⟨1, ou, oi, os, ob⟩) rfl HOU.out HOK1.out).mono ?_; rintro en w9 ⟨rfl, hM9, hR9⟩; have p3' : w9.cell? ⟨B, 3, none⟩ = some (.int .i64 os) := (hM9.blk (HBL.out.drew) HF.out).cell rfl; have p1' : w9.cell? ⟨B, 1, none⟩ = some (.int .u64 ou) := (hM9.blk (HBL.out.drew) HF.out).cell rfl))
              all_goals (go_wp2_with fail)
              all_goals go_roundw
              all_goals first
                | exact ⟨j + 1, by omega, by go_num, by rw [HRR.out]; exact hR9⟩
                | (simp [intOf]; omega)
            by_cases k2 : ok = 2
            · subst k2
              go_upto_region 21 with fail
              generalize wr.alloc (.cells #[.int .i64 2, .int .u64 ou, .int .i64 oi, .int .i64 os, .string ob] 32) = wl at *
              generalize wr.heap.size = B at *
              have p1 : wl.cell? ⟨B, 1, none⟩ = some (.int .u64 ou) := HBL.out.cell rfl
              have p2 : wl.cell? ⟨B, 2, none⟩ = some (.int .i64 oi) := HBL.out.cell rfl
              have p3 : wl.cell? ⟨B, 3, none⟩ = some (.int .i64 os) := HBL.out.cell rfl
              have p4 : wl.cell? ⟨B, 4, none⟩ = some (.string ob) := HBL.out.cell rfl
              have hM0 := Mod.refl none_ wl
              go_region_held3 (fun w' => w'.cell? ⟨B, 3, none⟩ = some (.int .i64 os) ∧ w'.cell? ⟨B, 2, none⟩ = some (.int .i64 oi))
                (first | (simp [*]; done))
                (first | (go_at_call 33; refine (rb_signed HRL.out.drew (o := ⟨2, ou, oi, os, ob⟩) rfl HOI.out HOK1.out).mono ?_; rintro en w9 ⟨rfl, hM9, hR9⟩; have p3' : w9.cell? ⟨B, 3, none⟩ = some (.int .i64 os) := (hM9.blk (HBL.out.drew) HF.out).cell rfl; have p2' : w9.cell? ⟨B, 2, none⟩ = some (.int .i64 oi) := (hM9.blk (HBL.out.drew) HF.out).cell rfl))
              all_goals (go_wp2_with fail)
              all_goals go_roundw
              all_goals first
                | exact ⟨j + 1, by omega, by go_num, by rw [HRR.out]; exact hR9⟩
                | (simp [intOf]; omega)
            by_cases k3 : ok = 3
            · subst k3
              go_upto_region 23 with fail
              generalize wr.alloc (.cells #[.int .i64 3, .int .u64 ou, .int .i64 oi, .int .i64 os, .string ob] 32) = wl at *
              generalize wr.heap.size = B at *
              have p1 : wl.cell? ⟨B, 1, none⟩ = some (.int .u64 ou) := HBL.out.cell rfl
              have p2 : wl.cell? ⟨B, 2, none⟩ = some (.int .i64 oi) := HBL.out.cell rfl
              have p3 : wl.cell? ⟨B, 3, none⟩ = some (.int .i64 os) := HBL.out.cell rfl
              have p4 : wl.cell? ⟨B, 4, none⟩ = some (.string ob) := HBL.out.cell rfl
              have hM0 := Mod.refl none_ wl
              go_region_held3 (fun w' => w'.cell? ⟨B, 4, none⟩ = some (.string ob))
                (first | (simp [*]; done))
                (first | (go_at_call 34; refine (rb_bytes HRL.out.drew (o := ⟨3, ou, oi, os, ob⟩) rfl HOS.out).mono ?_; rintro en w9 ⟨rfl, hM9, hR9⟩; have p4' : w9.cell? ⟨B, 4, none⟩ = some (.string ob) := (hM9.blk (HBL.out.drew) HF.out).cell rfl))
              all_goals (go_wp2_with fail)
              all_goals go_roundw
              all_goals first
                | exact ⟨j + 1, by omega, by go_num, by rw [HRR.out]; exact hR9⟩
                | (simp [intOf]; omega)
            by_cases k4 : ok = 4
            · subst k4
              go_upto_region 25 with fail
              generalize wr.alloc (.cells #[.int .i64 4, .int .u64 ou, .int .i64 oi, .int .i64 os, .string ob] 32) = wl at *
              generalize wr.heap.size = B at *
              have p1 : wl.cell? ⟨B, 1, none⟩ = some (.int .u64 ou) := HBL.out.cell rfl
              have p2 : wl.cell? ⟨B, 2, none⟩ = some (.int .i64 oi) := HBL.out.cell rfl
              have p3 : wl.cell? ⟨B, 3, none⟩ = some (.int .i64 os) := HBL.out.cell rfl
              have p4 : wl.cell? ⟨B, 4, none⟩ = some (.string ob) := HBL.out.cell rfl
              have hM0 := Mod.refl none_ wl
              go_region_held3 (fun w' => w'.cell? ⟨B, 4, none⟩ = some (.string ob))
                (first | (simp [*]; done))
                (first | (go_at_call 35; refine (rb_text HRL.out.drew (o := ⟨4, ou, oi, os, ob⟩) rfl).mono ?_; rintro en w9 ⟨rfl, hM9, hR9⟩; have p4' : w9.cell? ⟨B, 4, none⟩ = some (.string ob) := (hM9.blk (HBL.out.drew) HF.out).cell rfl))
              all_goals (go_wp2_with fail)
              all_goals go_roundw
              all_goals first
                | exact ⟨j + 1, by omega, by go_num, by rw [HRR.out]; exact hR9⟩
                | (simp [intOf]; omega)
            have HX := Lib.hid (rb_none HRL.out k1 k2 k3 k4)
            go_wp2_with fail
            go_roundw
            case rel => exact ⟨j + 1, by omega, by go_num, by rw [HRR.out]; exact HX.out⟩
            case measure => simp [intOf]; omega
          · have hjn : j = k := by omega
            subst hjn
            have hji : ¬ (j : Int) < (j : Int) := by omega
            have hall : ops.drop j = [] := by rw [List.drop_eq_nil_of_le]; rw [HP.out.1]; omega
            rw [hall, List.flatMap_nil] at hB
            have HX := Lib.hid hB
            clear hB hall
            go_wp2_with fail
            refine (rd_done _ R [] 0 HX.out.prog 0 (by simp)).mono ?_
            rintro en w9 ⟨rfl, rfl⟩
            go_wp2_with fail
            refine (rd_left _ R [] 0 HX.out.prog).mono ?_
            rintro en w9 ⟨rfl, rfl⟩
            go_wp2_with fail
            go_ret
            exact ⟨rfl, HX.out.mod⟩
end Go.Proofs.Ytcmbklofbemclaa
