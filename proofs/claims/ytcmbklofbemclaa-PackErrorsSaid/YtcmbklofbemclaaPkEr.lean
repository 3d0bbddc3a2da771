/- PackErrors: behind the first error. -/
import Derived.Test.YtcmbklofbemclaaPkFl
namespace Go.Proofs.Ytcmbklofbemclaa
open Go.RowKit

theorem put_dead2 (t : List Int) (ok : Bool) (b : List Int) : Pk.put t 51 ok b = (t, 51) := put_dead t 51 ok b (by decide)
theorem step_dead (t : List Int) (o : PkOp) : Pk.step (t, 51) o = (t, 51) := Pk.step_51 t o

theorem w_bytes_dead (w : World) (base G V : Nat) (out : Value) (t : List Int) (s : ByteArray) (h : WrAt w base G V out t 51) :
    Calls Try.prog 16 #[.pointer (some ⟨G, 0, none⟩), .string s] w fun en w' => en = .returned (.tuple #[]) ∧ WrTo w w' base G V out (t, 51) := by
  have q2 : w.cell? ⟨G, 2, none⟩ = some (layOf V 51) := h.row.cell rfl
  rw [layOf, if_neg (by decide)] at q2
  have HH := Lib.hid h
  clear h
  go_enter Try.func16, Try.ntmps16
  go_wp2_with fail
  refine (nop_any w s).mono ?_
  rintro en w' ⟨rfl, rfl⟩
  go_wp2_with fail
  go_end0
  exact ⟨rfl, WrTo.refl HH.out (Mod.refl _ _)⟩
theorem w_text_long (w : World) (base G V : Nat) (out : Value) (t : List Int) (s : ByteArray) (h : WrAt w base G V out t 51) (hs : 255 < s.size) :
    Calls Try.prog 18 #[.pointer (some ⟨G, 0, none⟩), .string s] w fun en w' => en = .returned (.tuple #[]) ∧ WrTo w w' base G V out (t, 51) := by
  have hi : (255 : Int) < (s.size : Int) := by omega
  have HC := Lib.hid (fail_any w base G V out t 51 h 51 (by decide))
  clear h
  go_enter Try.func18, Try.ntmps18
  go_wp2_with fail
  refine HC.out.mono ?_
  rintro en w2 ⟨rfl, hM, hW⟩
  rw [if_neg (by decide)] at hW
  go_wp2_with fail
  refine bodyPost_ret (results_none rfl _ _ _) rfl ?_
  exact ⟨rfl, hM.mono (fun _ _ h => Or.inl h), _, hW, fun _ hb => Or.inl hb⟩

set_option maxHeartbeats 2000000 in
theorem lay_dead (w : World) (base G V : Nat) (out : Value) (t : List Int) (o : PkOp) (h : WrAt w base G V out t 51) (hl : t.length + 300 ≤ 140737488355328) (hb : base ≤ w.heap.size) :
    Calls Try.prog 31 #[.pointer (some ⟨G, 0, none⟩), .agg o.cells.toArray] w fun en w' => en = .returned (.tuple #[]) ∧ WrTo w w' base G V out (t, 51) := by
  obtain ⟨ok, ou, oi, os, ob⟩ := o
  have hM := (Mod.refl none_ w).alloc (.cells #[.int .i64 ok, .int .u64 ou, .int .i64 oi, .int .i64 os, .string ob] 32)
  have hbl := (Blk.newA w #[.int .i64 ok, .int .u64 ou, .int .i64 oi, .int .i64 os, .string ob] 32).cs rfl
  have hh := h.mod hM (fun h => h) (fun h => h) (fun _ _ h => h)
  have HH := Lib.hid hh; have HM := Lib.hid hM; have HB := Lib.hid (Nat.le_trans hb hM.size)
  show Calls Try.prog 31 #[.pointer (some ⟨G, 0, none⟩), .agg #[.int .i64 ok, .int .u64 ou, .int .i64 oi, .int .i64 os, .string ob]] w _
  have q1 : (w.alloc (.cells #[.int .i64 ok, .int .u64 ou, .int .i64 oi, .int .i64 os, .string ob] 32)).cell? ⟨w.heap.size, 1, none⟩ = some (.int .u64 ou) := hbl.cell rfl
  have q2 : (w.alloc (.cells #[.int .i64 ok, .int .u64 ou, .int .i64 oi, .int .i64 os, .string ob] 32)).cell? ⟨w.heap.size, 2, none⟩ = some (.int .i64 oi) := hbl.cell rfl
  have q3 : (w.alloc (.cells #[.int .i64 ok, .int .u64 ou, .int .i64 oi, .int .i64 os, .string ob] 32)).cell? ⟨w.heap.size, 3, none⟩ = some (.int .i64 os) := hbl.cell rfl
  have q4 : (w.alloc (.cells #[.int .i64 ok, .int .u64 ou, .int .i64 oi, .int .i64 os, .string ob] 32)).cell? ⟨w.heap.size, 4, none⟩ = some (.string ob) := hbl.cell rfl
  clear hM hh hbl h
  by_cases k1 : ok = 1
  · subst k1
    go_enter Try.func31, Try.ntmps31
    go_wp2_with fail
    refine (w_number _ base G V out t 51 ou os HH.out (by omega) HB.out).mono ?_
    rintro en w1 ⟨rfl, hT⟩
    rw [put_dead2] at hT
    go_wp2_with fail
    go_end0
    exact ⟨rfl, hT.after HM.out⟩
  by_cases k2 : ok = 2
  · subst k2
    go_enter Try.func31, Try.ntmps31
    go_wp2_with fail
    refine (w_signed _ base G V out t 51 oi os HH.out (by omega) HB.out).mono ?_
    rintro en w1 ⟨rfl, hT⟩
    rw [put_dead2] at hT
    go_wp2_with fail
    go_end0
    exact ⟨rfl, hT.after HM.out⟩
  by_cases k3 : ok = 3
  · subst k3
    go_enter Try.func31, Try.ntmps31
    go_wp2_with fail
    refine (w_bytes_dead _ base G V out t ob HH.out).mono ?_
    rintro en w1 ⟨rfl, hT⟩
    go_wp2_with fail
    go_end0
    exact ⟨rfl, hT.after HM.out⟩
  by_cases k4 : ok = 4
  · subst k4
    by_cases hs : 255 < ob.size
    · go_enter Try.func31, Try.ntmps31
      go_wp2_with fail
      refine (w_text_long _ base G V out t ob HH.out hs).mono ?_
      rintro en w1 ⟨rfl, hT⟩
      go_wp2_with fail
      go_end0
      exact ⟨rfl, hT.after HM.out⟩
    · go_enter Try.func31, Try.ntmps31
      go_wp2_with fail
      refine (w_text _ base G V out t 51 ob HH.out (by omega) HB.out).mono ?_
      rintro en w1 ⟨rfl, hT⟩
      rw [put_dead2] at hT
      go_wp2_with fail
      go_end0
      exact ⟨rfl, hT.after HM.out⟩
  go_enter Try.func31, Try.ntmps31
  go_wp2_with fail
  go_end0
  exact ⟨rfl, (WrTo.refl HH.out (Mod.refl none_ _)).after HM.out⟩

theorem lay_dead' (w : World) (base G V : Nat) (out : Value) (t : List Int) (ok : Int) (ou : Nat) (oi os : Int) (ob : ByteArray) (h : WrAt w base G V out t 51) (hl : t.length + 300 ≤ 140737488355328) (hb : base ≤ w.heap.size) :
    Calls Try.prog 31 #[.pointer (some ⟨G, 0, none⟩), .agg #[.int .i64 ok, .int .u64 ou, .int .i64 oi, .int .i64 os, .string ob]] w fun en w' => en = .returned (.tuple #[]) ∧ WrTo w w' base G V out (t, 51) :=
  lay_dead w base G V out t ⟨ok, ou, oi, os, ob⟩ h hl hb
theorem num_dead (e k : Int) (he : e ≠ 0) : Rd.number [] e k = (0, ([], e)) := by
  rw [Rd.number, Rd.take, if_neg he, if_neg he]
  split <;> rfl
theorem sig_dead (e k : Int) (he : e ≠ 0) : Rd.signed [] e k = (0, ([], e)) := by
  rw [Rd.signed, num_dead e k he]
  simp only [if_neg he]
theorem ask_dead (e k : Int) (odd : Bool) (he : e ≠ 0) : Rd.ask [] e k odd = ([], ([], e)) := by
  rw [Rd.ask, Rd.take, if_neg he, if_neg he]
  cases odd <;> rfl
theorem text_dead (e : Int) (he : e ≠ 0) : Rd.text [] e = ([], ([], e)) := by
  rw [Rd.text, num_dead e 1 he, Rd.take, if_neg he]

set_option maxHeartbeats 2000000 in
set_option maxRecDepth 100000 in
theorem packErrors_any (w : World) (s : ByteArray) (hs : s.size ≤ 140737488351232) (sa : Option Addr) (n c : Nat) (hn : n ≤ 9223372036854775807) (ops : List PkOp) (hp : OpsAt w w.heap.size sa n ops) (hz : ∀ o ∈ ops, o.size ≤ 9223372036854775807) (bad : Int) :
    Calls Try.prog 8 #[.string s, .slice sa n c, .int .i64 bad] w fun e w' => e = .returned (.bool true) ∧ Mod none_ w w' := by
  have HP := Lib.hid hp; have HZ := Lib.hid hz
  clear hp hz
  by_cases hb : bad.tmod 2 = 0
  · have hbm : bad.tmod 2 = 0 := hb
    clear hb
    go_enter Try.func8, Try.ntmps8
    go_wp2_with fail
    refine (alive5_any w).mono ?_
    rintro e w1 ⟨rfl, hM1⟩
    go_wp2_with fail
    refine (new_writer w1 w.heap.size hM1.size).mono ?_
    rintro e w2 ⟨rfl, hM2, h2, hs2⟩
    have hM2' := hM1.then hM2
    generalize w1.heap.size = G at *
    clear hM1 hM2
    go_wp2_with fail
    refine (new_reader w2 s).mono ?_
    rintro e w3 ⟨rfl, hM3, h3, hs3⟩
    have hR : w2.heap.size = G + 2 := hs2
    have hb : FB w w3 G w2.heap.size (.slice none 0 0) [] 0 (num s) 0 := ⟨h2.mod hM3 (fun h => h) (fun h => h) (fun _ _ h => h), h3, hM2'.then hM3, hM2'.size, ⟨by omega, by omega⟩, fun b hb => by cases hb⟩
    have HB := Lib.hid hb
    generalize w2.heap.size = R at *
    clear hb h3 hM3 hs3 h2 hM2' hs2
    subst hR
    have hl0 : ([] : List Int).length + s.size ≤ 140737488355328 := by simp; omega
    go_wp2_with fail
    refine (w_bytes _ w.heap.size G _ _ [] 0 s HB.out.wr hl0 HB.out.mod.size).mono ?_
    rintro e w4 ⟨rfl, hT4⟩
    rw [put_ok, List.nil_append] at hT4
    obtain ⟨o4, hB4⟩ := HB.out.write hT4
    have HB4 := Lib.hid hB4
    clear hB4 hT4 HB hl0
    have hl4 : (num s).length + 8 ≤ 140737488355328 := by rw [length_num]; omega
    have HL4 := Lib.hid hl4
    clear hl4
    go_wp2_with fail
    refine (w_number _ w.heap.size G _ _ (num s) 0 1 9 HB4.out.wr HL4.out HB4.out.mod.size).mono ?_
    rintro e w5 ⟨rfl, hT5⟩
    rw [show Pk.put (num s) 0 (Pk.fits 1 9) (Pk.digs 1 (9 : Int).toNat) = (num s, 51) from rfl] at hT5
    obtain ⟨o5, hB5⟩ := HB4.out.write hT5
    have HB5 := Lib.hid hB5
    clear hB5 hT5 HB4
    have hask : Rd.ask (num s) 0 ((s.size : Int) + 1) (decide (((s.size : Int) + 1) < 0)) = ([], ([], 50)) := by
      rw [decide_eq_false (by omega), Rd.ask, if_neg (by simp), Rd.take, if_pos rfl, if_neg (by rw [length_num]; omega)]
    have hc := rd_bytes w5 (G + 2) (num s) 0 ((s.size : Int) + 1) (by omega) HB5.out.rd ⟨#[]⟩ (by rw [hask]; rfl)
    rw [hask] at hc
    have HC := Lib.hid hc
    clear hc hask
    go_wp2_with fail
    refine HC.out.mono ?_
    rintro e w6 ⟨rfl, hT6⟩
    have HB6 := Lib.hid (HB5.out.read hT6)
    clear hT6 HC HB5
    go_wp2_with fail
    refine (rd_done _ (G + 2) [] 50 HB6.out.rd 50 (by simp)).mono ?_
    rintro e w7 ⟨rfl, rfl⟩
    go_wp2_with fail
    go_loopw [10] (fun i wr => ∃ (k : Nat) (out : Value), k ≤ n ∧ i = .int .i64 k ∧ FB w wr G (G + 2) out (num s) 51 [] 50) (fun i _ => n - (intOf i).toNat)
    case atStart => exact ⟨0, _, by omega, rfl, HB6.out⟩
    case round =>
      clear HB6
      obtain ⟨k, out, hk, rfl, hB⟩ := hrel
      by_cases hlt : k < n
      · obtain ⟨hol, hou, hoc⟩ := HP.out
        obtain ⟨lb, lo, rfl, hlb, hcc⟩ := hoc (by omega)
        obtain ⟨o, ho⟩ : ∃ o, ops[k]? = some o := ⟨_, List.getElem?_eq_getElem (by omega)⟩
        have hc := hcc k o ho
        have hoz := HZ.out o (List.mem_of_getElem? ho)
        obtain ⟨ok, ou, oi, os, ob⟩ := o
        simp only at hoz
        have q0 : wr.cell? ⟨lb, lo + k * 5, none⟩ = some (.int .i64 ok) := hB.mod.cellS (hc 0 _ rfl) (fun h => h)
        have q1 : wr.cell? ⟨lb, lo + k * 5 + 1, none⟩ = some (.int .u64 ou) := hB.mod.cellS (hc 1 _ rfl) (fun h => h)
        have q2 : wr.cell? ⟨lb, lo + k * 5 + 2, none⟩ = some (.int .i64 oi) := hB.mod.cellS (hc 2 _ rfl) (fun h => h)
        have q3 : wr.cell? ⟨lb, lo + k * 5 + 3, none⟩ = some (.int .i64 os) := hB.mod.cellS (hc 3 _ rfl) (fun h => h)
        have q4 : wr.cell? ⟨lb, lo + k * 5 + 4, none⟩ = some (.string ob) := hB.mod.cellS (hc 4 _ rfl) (fun h => h)
        have hki : (k : Int) < (n : Int) := by omega
        have HB := Lib.hid hB
        have hbl := (Blk.newA wr #[.int .i64 ok, .int .u64 ou, .int .i64 oi, .int .i64 os, .string ob] 32)
        have hbl : Blk (wr.alloc (.cells #[.int .i64 ok, .int .u64 ou, .int .i64 oi, .int .i64 os, .string ob] 32)) wr.heap.size [.int .i64 ok, .int .u64 ou, .int .i64 oi, .int .i64 os, .string ob] 32 := hbl
        have hff : wr.heap.size ≠ G + 2 ∧ wr.heap.size ≠ G ∧ out.ownBlock ≠ some wr.heap.size := ⟨by have := hB.rd.row.lt; omega, by have := hB.wr.row.lt; omega, fun e => by have := hB.wr.own.own_lt e; omega⟩
        have HBL := Lib.hid hbl; have HFR := Lib.hid hff
        have HC := Lib.hid (fun wx (hx : FB w wx G (G + 2) out (num s) 51 [] 50) => lay_dead' wx w.heap.size G (G + 1) out (num s) ok ou oi os ob hx.wr (by rw [length_num]; omega) hx.mod.size)
        have HAL := Lib.hid (hB.grow ((Mod.refl none_ wr).alloc (.cells #[.int .i64 ok, .int .u64 ou, .int .i64 oi, .int .i64 os, .string ob] 32)))
        clear hc hcc hoc hou ho hol hB hbl hff
        go_wp2_with fail
        refine (HC.out _ HAL.out).mono ?_
        rintro en wa ⟨rfl, hTa⟩
        have hblA := hTa.1.blk HBL.out (by rintro (e | e); exact HFR.out.2.1 e; exact HFR.out.2.2 e)
        obtain ⟨outa, hBa⟩ := HAL.out.write hTa
        have HBL2 := Lib.hid hblA
        clear hblA
        have HBa := Lib.hid hBa
        clear hBa hTa HC
        have hn := rd_number wa (G + 2) [] 50 os HBa.out.rd 0 (by rw [num_dead _ _ (by decide)]; try rfl)
        rw [num_dead _ _ (by decide)] at hn
        have HN0 := Lib.hid hn
        have p3 : wa.cell? ⟨wr.heap.size, 3, none⟩ = some (.int .i64 os) := HBL2.out.cell rfl
        clear hn
        go_wp2_with fail
        refine HN0.out.mono ?_
        rintro en wb0 ⟨rfl, hTT⟩
        have HBLb0 := Lib.hid (hTT.1.blk HBL2.out HFR.out.1)
        have HBb0 := Lib.hid (HBa.out.read hTT)
        clear hTT p3 HN0
        have hn := rd_signed wb0 (G + 2) [] 50 os HBb0.out.rd 0 (by rw [sig_dead _ _ (by decide)]; try rfl)
        rw [sig_dead _ _ (by decide)] at hn
        have HN1 := Lib.hid hn
        have p3 : wb0.cell? ⟨wr.heap.size, 3, none⟩ = some (.int .i64 os) := HBLb0.out.cell rfl
        clear hn
        go_wp2_with fail
        refine HN1.out.mono ?_
        rintro en wb1 ⟨rfl, hTT⟩
        have HBLb1 := Lib.hid (hTT.1.blk HBLb0.out HFR.out.1)
        have HBb1 := Lib.hid (HBb0.out.read hTT)
        clear hTT p3 HN1
        have hn := rd_bytes wb1 (G + 2) [] 50 os hoz HBb1.out.rd ⟨#[]⟩ (by rw [ask_dead _ _ _ (by decide)]; try rfl)
        rw [ask_dead _ _ _ (by decide)] at hn
        have HN2 := Lib.hid hn
        have p3 : wb1.cell? ⟨wr.heap.size, 3, none⟩ = some (.int .i64 os) := HBLb1.out.cell rfl
        clear hn
        go_wp2_with fail
        refine HN2.out.mono ?_
        rintro en wb2 ⟨rfl, hTT⟩
        have HBLb2 := Lib.hid (hTT.1.blk HBLb1.out HFR.out.1)
        have HBb2 := Lib.hid (HBb1.out.read hTT)
        clear hTT p3 HN2
        have hn := rd_text wb2 (G + 2) [] 50 HBb2.out.rd ⟨#[]⟩ (by rw [text_dead _ (by decide)]; try rfl)
        rw [text_dead _ (by decide)] at hn
        have HN3 := Lib.hid hn
        have p3 : wb2.cell? ⟨wr.heap.size, 3, none⟩ = some (.int .i64 os) := HBLb2.out.cell rfl
        clear hn
        go_wp2_with fail
        refine HN3.out.mono ?_
        rintro en wb3 ⟨rfl, hTT⟩
        have HBLb3 := Lib.hid (hTT.1.blk HBLb2.out HFR.out.1)
        have HBb3 := Lib.hid (HBb2.out.read hTT)
        clear hTT p3 HN3
        go_wp2_with fail
        refine (rd_rest _ (G + 2) [] 50 HBb3.out.rd ⟨#[]⟩ rfl).mono ?_
        rintro en wb4 ⟨rfl, hTT⟩
        have HBb4 := Lib.hid (HBb3.out.read hTT)
        clear hTT
        go_wp2_with fail
        refine (rd_left _ (G + 2) [] 50 HBb4.out.rd).mono ?_
        rintro en wb5 ⟨rfl, rfl⟩
        go_wp2_with fail
        refine (rd_done _ (G + 2) [] 50 HBb4.out.rd 50 (by simp)).mono ?_
        rintro en wb5 ⟨rfl, rfl⟩
        go_wp2_with fail
        go_roundw
        case rel => exact ⟨k + 1, _, by omega, by go_num, HBb4.out⟩
        case measure => simp [intOf]; omega
      · have hkn : k = n := by omega
        subst hkn
        have hki : ¬ (k : Int) < (k : Int) := by omega
        have HB := Lib.hid hB
        clear hB
        have hd := w_done wr w.heap.size G _ out (num s) 51 HB.out.wr (by rw [length_num]; omega)
        rw [if_neg (by decide)] at hd
        have HD := Lib.hid hd
        clear hd
        go_wp2_with fail
        refine HD.out.mono ?_
        rintro en w8 ⟨rfl, hM8⟩
        have HM := Lib.hid (HB.out.mod.then hM8)
        clear hM8
        go_wp2_with fail
        go_ret
        exact ⟨rfl, HM.out⟩
  · have hbm : (bad.tmod 2 == 0) = false := by simpa using hb
    have hbn : ¬ bad.tmod 2 = 0 := hb
    clear hb
    go_enter Try.func8, Try.ntmps8
    go_wp2_with fail
    refine (alive5_any w).mono ?_
    rintro e w1 ⟨rfl, hM1⟩
    go_wp2_with fail
    refine (new_writer w1 w.heap.size hM1.size).mono ?_
    rintro e w2 ⟨rfl, hM2, h2, hs2⟩
    have hM2' := hM1.then hM2
    generalize w1.heap.size = G at *
    clear hM1 hM2
    go_wp2_with fail
    refine (new_reader w2 s).mono ?_
    rintro e w3 ⟨rfl, hM3, h3, hs3⟩
    have hR : w2.heap.size = G + 2 := hs2
    have hb : FB w w3 G w2.heap.size (.slice none 0 0) [] 0 (num s) 0 := ⟨h2.mod hM3 (fun h => h) (fun h => h) (fun _ _ h => h), h3, hM2'.then hM3, hM2'.size, ⟨by omega, by omega⟩, fun b hb => by cases hb⟩
    have HB := Lib.hid hb
    generalize w2.heap.size = R at *
    clear hb h3 hM3 hs3 h2 hM2' hs2
    subst hR
    have hl0 : ([] : List Int).length + s.size ≤ 140737488355328 := by simp; omega
    go_wp2_with fail
    refine (w_bytes _ w.heap.size G _ _ [] 0 s HB.out.wr hl0 HB.out.mod.size).mono ?_
    rintro e w4 ⟨rfl, hT4⟩
    rw [put_ok, List.nil_append] at hT4
    obtain ⟨o4, hB4⟩ := HB.out.write hT4
    have HB4 := Lib.hid hB4
    clear hB4 hT4 HB hl0
    have hl4 : (num s).length + 8 ≤ 140737488355328 := by rw [length_num]; omega
    have HL4 := Lib.hid hl4
    clear hl4
    go_wp2_with fail
    refine (w_signed _ w.heap.size G _ _ (num s) 0 128 1 HB4.out.wr HL4.out HB4.out.mod.size).mono ?_
    rintro e w5 ⟨rfl, hT5⟩
    rw [show Pk.put (num s) 0 (Pk.sfits 128 1) (Pk.digs (128 % 18446744073709551616) (1 : Int).toNat) = (num s, 51) from rfl] at hT5
    obtain ⟨o5, hB5⟩ := HB4.out.write hT5
    have HB5 := Lib.hid hB5
    clear hB5 hT5 HB4
    have hask : Rd.number (num s) 0 0 = (0, ([], 51)) := rfl
    have hc := rd_number w5 (G + 2) (num s) 0 0 HB5.out.rd 0 (by rw [hask]; rfl)
    rw [hask] at hc
    have HC := Lib.hid hc
    clear hc hask
    go_wp2_with fail
    refine HC.out.mono ?_
    rintro e w6 ⟨rfl, hT6⟩
    have HB6 := Lib.hid (HB5.out.read hT6)
    clear hT6 HC HB5
    go_wp2_with fail
    refine (rd_done _ (G + 2) [] 51 HB6.out.rd 51 (by simp)).mono ?_
    rintro e w7 ⟨rfl, rfl⟩
    go_wp2_with fail
    go_loopw [10] (fun i wr => ∃ (k : Nat) (out : Value), k ≤ n ∧ i = .int .i64 k ∧ FB w wr G (G + 2) out (num s) 51 [] 51) (fun i _ => n - (intOf i).toNat)
    case atStart => exact ⟨0, _, by omega, rfl, HB6.out⟩
    case round =>
      clear HB6
      obtain ⟨k, out, hk, rfl, hB⟩ := hrel
      by_cases hlt : k < n
      · obtain ⟨hol, hou, hoc⟩ := HP.out
        obtain ⟨lb, lo, rfl, hlb, hcc⟩ := hoc (by omega)
        obtain ⟨o, ho⟩ : ∃ o, ops[k]? = some o := ⟨_, List.getElem?_eq_getElem (by omega)⟩
        have hc := hcc k o ho
        have hoz := HZ.out o (List.mem_of_getElem? ho)
        obtain ⟨ok, ou, oi, os, ob⟩ := o
        simp only at hoz
        have q0 : wr.cell? ⟨lb, lo + k * 5, none⟩ = some (.int .i64 ok) := hB.mod.cellS (hc 0 _ rfl) (fun h => h)
        have q1 : wr.cell? ⟨lb, lo + k * 5 + 1, none⟩ = some (.int .u64 ou) := hB.mod.cellS (hc 1 _ rfl) (fun h => h)
        have q2 : wr.cell? ⟨lb, lo + k * 5 + 2, none⟩ = some (.int .i64 oi) := hB.mod.cellS (hc 2 _ rfl) (fun h => h)
        have q3 : wr.cell? ⟨lb, lo + k * 5 + 3, none⟩ = some (.int .i64 os) := hB.mod.cellS (hc 3 _ rfl) (fun h => h)
        have q4 : wr.cell? ⟨lb, lo + k * 5 + 4, none⟩ = some (.string ob) := hB.mod.cellS (hc 4 _ rfl) (fun h => h)
        have hki : (k : Int) < (n : Int) := by omega
        have HB := Lib.hid hB
        have hbl := (Blk.newA wr #[.int .i64 ok, .int .u64 ou, .int .i64 oi, .int .i64 os, .string ob] 32)
        have hbl : Blk (wr.alloc (.cells #[.int .i64 ok, .int .u64 ou, .int .i64 oi, .int .i64 os, .string ob] 32)) wr.heap.size [.int .i64 ok, .int .u64 ou, .int .i64 oi, .int .i64 os, .string ob] 32 := hbl
        have hff : wr.heap.size ≠ G + 2 ∧ wr.heap.size ≠ G ∧ out.ownBlock ≠ some wr.heap.size := ⟨by have := hB.rd.row.lt; omega, by have := hB.wr.row.lt; omega, fun e => by have := hB.wr.own.own_lt e; omega⟩
        have HBL := Lib.hid hbl; have HFR := Lib.hid hff
        have HC := Lib.hid (fun wx (hx : FB w wx G (G + 2) out (num s) 51 [] 51) => lay_dead' wx w.heap.size G (G + 1) out (num s) ok ou oi os ob hx.wr (by rw [length_num]; omega) hx.mod.size)
        have HAL := Lib.hid (hB.grow ((Mod.refl none_ wr).alloc (.cells #[.int .i64 ok, .int .u64 ou, .int .i64 oi, .int .i64 os, .string ob] 32)))
        clear hc hcc hoc hou ho hol hB hbl hff
        go_wp2_with fail
        refine (HC.out _ HAL.out).mono ?_
        rintro en wa ⟨rfl, hTa⟩
        have hblA := hTa.1.blk HBL.out (by rintro (e | e); exact HFR.out.2.1 e; exact HFR.out.2.2 e)
        obtain ⟨outa, hBa⟩ := HAL.out.write hTa
        have HBL2 := Lib.hid hblA
        clear hblA
        have HBa := Lib.hid hBa
        clear hBa hTa HC
        have hn := rd_number wa (G + 2) [] 51 os HBa.out.rd 0 (by rw [num_dead _ _ (by decide)]; try rfl)
        rw [num_dead _ _ (by decide)] at hn
        have HN0 := Lib.hid hn
        have p3 : wa.cell? ⟨wr.heap.size, 3, none⟩ = some (.int .i64 os) := HBL2.out.cell rfl
        clear hn
        go_wp2_with fail
        refine HN0.out.mono ?_
        rintro en wb0 ⟨rfl, hTT⟩
        have HBLb0 := Lib.hid (hTT.1.blk HBL2.out HFR.out.1)
        have HBb0 := Lib.hid (HBa.out.read hTT)
        clear hTT p3 HN0
        have hn := rd_signed wb0 (G + 2) [] 51 os HBb0.out.rd 0 (by rw [sig_dead _ _ (by decide)]; try rfl)
        rw [sig_dead _ _ (by decide)] at hn
        have HN1 := Lib.hid hn
        have p3 : wb0.cell? ⟨wr.heap.size, 3, none⟩ = some (.int .i64 os) := HBLb0.out.cell rfl
        clear hn
        go_wp2_with fail
        refine HN1.out.mono ?_
        rintro en wb1 ⟨rfl, hTT⟩
        have HBLb1 := Lib.hid (hTT.1.blk HBLb0.out HFR.out.1)
        have HBb1 := Lib.hid (HBb0.out.read hTT)
        clear hTT p3 HN1
        have hn := rd_bytes wb1 (G + 2) [] 51 os hoz HBb1.out.rd ⟨#[]⟩ (by rw [ask_dead _ _ _ (by decide)]; try rfl)
        rw [ask_dead _ _ _ (by decide)] at hn
        have HN2 := Lib.hid hn
        have p3 : wb1.cell? ⟨wr.heap.size, 3, none⟩ = some (.int .i64 os) := HBLb1.out.cell rfl
        clear hn
        go_wp2_with fail
        refine HN2.out.mono ?_
        rintro en wb2 ⟨rfl, hTT⟩
        have HBLb2 := Lib.hid (hTT.1.blk HBLb1.out HFR.out.1)
        have HBb2 := Lib.hid (HBb1.out.read hTT)
        clear hTT p3 HN2
        have hn := rd_text wb2 (G + 2) [] 51 HBb2.out.rd ⟨#[]⟩ (by rw [text_dead _ (by decide)]; try rfl)
        rw [text_dead _ (by decide)] at hn
        have HN3 := Lib.hid hn
        have p3 : wb2.cell? ⟨wr.heap.size, 3, none⟩ = some (.int .i64 os) := HBLb2.out.cell rfl
        clear hn
        go_wp2_with fail
        refine HN3.out.mono ?_
        rintro en wb3 ⟨rfl, hTT⟩
        have HBLb3 := Lib.hid (hTT.1.blk HBLb2.out HFR.out.1)
        have HBb3 := Lib.hid (HBb2.out.read hTT)
        clear hTT p3 HN3
        go_wp2_with fail
        refine (rd_rest _ (G + 2) [] 51 HBb3.out.rd ⟨#[]⟩ rfl).mono ?_
        rintro en wb4 ⟨rfl, hTT⟩
        have HBb4 := Lib.hid (HBb3.out.read hTT)
        clear hTT
        go_wp2_with fail
        refine (rd_left _ (G + 2) [] 51 HBb4.out.rd).mono ?_
        rintro en wb5 ⟨rfl, rfl⟩
        go_wp2_with fail
        refine (rd_done _ (G + 2) [] 51 HBb4.out.rd 51 (by simp)).mono ?_
        rintro en wb5 ⟨rfl, rfl⟩
        go_wp2_with fail
        go_roundw
        case rel => exact ⟨k + 1, _, by omega, by go_num, HBb4.out⟩
        case measure => simp [intOf]; omega
      · have hkn : k = n := by omega
        subst hkn
        have hki : ¬ (k : Int) < (k : Int) := by omega
        have HB := Lib.hid hB
        clear hB
        have hd := w_done wr w.heap.size G _ out (num s) 51 HB.out.wr (by rw [length_num]; omega)
        rw [if_neg (by decide)] at hd
        have HD := Lib.hid hd
        clear hd
        go_wp2_with fail
        refine HD.out.mono ?_
        rintro en w8 ⟨rfl, hM8⟩
        have HM := Lib.hid (HB.out.mod.then hM8)
        clear hM8
        go_wp2_with fail
        go_ret
        exact ⟨rfl, HM.out⟩
end Go.Proofs.Ytcmbklofbemclaa
