/- PackForm: the law's walk. -/
import Derived.Test.YtcmbklofbemclaaPkFo
namespace Go.Proofs.Ytcmbklofbemclaa
open Go.RowKit

/-- a Writer and a Reader of the call's own, apart from one another -/
structure FB (w0 w : World) (G R : Nat) (out : Value) (t : List Int) (ew : Int) (rest : List Int) (er : Int) : Prop where
  wr : WrAt w w0.heap.size G (G + 1) out t ew
  rd : RdAt w R rest er
  mod : Mod none_ w0 w
  low : w0.heap.size ≤ R
  ne : R ≠ G ∧ R ≠ G + 1
  out : ∀ b, out.ownBlock = some b → b ≠ R
theorem FB.write {w0 w w1 : World} {G R : Nat} {out : Value} {t : List Int} {ew : Int} {rest : List Int} {er : Int} {r : List Int × Int} (h : FB w0 w G R out t ew rest er) (h1 : WrTo w w1 w0.heap.size G (G + 1) out r) : ∃ out', FB w0 w1 G R out' r.1 r.2 rest er := by
  obtain ⟨hM1, out', hW, hO⟩ := h1
  have hR := h.rd.row.lt
  refine ⟨out', hW, h.rd.mod hM1 (fun e => ?_), h.mod.trans hM1 (fun b hb e => ?_), h.low, h.ne, fun b hb => ?_⟩
  · rcases e with e | e
    · exact h.ne.1 e
    · exact h.out R e rfl
  · rcases e with e | e
    · have := h.wr.low.1; omega
    · have := h.wr.own.own_ge e; omega
  · rcases hO b hb with h3 | h3
    · exact h.out b h3
    · omega
theorem FB.read {w0 w w1 : World} {G R : Nat} {out : Value} {t : List Int} {ew : Int} {rest : List Int} {er : Int} {r : List Int × Int} (h : FB w0 w G R out t ew rest er) (h1 : RdTo w w1 R r) : FB w0 w1 G R out t ew r.1 r.2 :=
  ⟨h.wr.mod h1.1 (fun e => h.ne.1 e.symm) (fun e => h.ne.2 e.symm) (fun g hg e => h.out g hg e), h1.2, h.mod.trans h1.1 (fun b hb e => by have : b = R := e; have := h.low; omega), h.low, h.ne, h.out⟩
theorem FB.grow {w0 w w1 : World} {G R : Nat} {out : Value} {t : List Int} {ew : Int} {rest : List Int} {er : Int} (h : FB w0 w G R out t ew rest er) (hM : Mod none_ w w1) : FB w0 w1 G R out t ew rest er :=
  ⟨h.wr.mod hM (fun h => h) (fun h => h) (fun _ _ h => h), h.rd.mod hM (fun h => h), h.mod.then hM, h.low, h.ne, h.out⟩
theorem FB.drew {w0 w : World} {G R : Nat} {out : Value} {t : List Int} {ew : Int} {rest : List Int} {er : Int} (h : FB w0 w G R out t ew rest er) : FB w0 w.drew G R out t ew rest er := h.grow ((Mod.refl none_ _).drew)

set_option maxHeartbeats 2000000 in
set_option maxRecDepth 100000 in
theorem packForm_any (w : World) (s : ByteArray) (hs : s.size ≤ 70368744177664) (sa : Option Addr) (n c : Nat) (hn : n ≤ 1099511627776) (ops : List PkOp) (hp : OpsAt w w.heap.size sa n ops) (hz : ∀ o ∈ ops, o.size ≤ 9223372036854775807) :
    Calls Try.prog 7 #[.string s, .slice sa n c] w fun e w' => e = .returned (.bool true) ∧ Mod none_ w w' := by
  have HP := Lib.hid hp; have HZ := Lib.hid hz
  clear hp hz
  go_enter Try.func7, Try.ntmps7
  go_wp2_with fail
  refine (alive5_any w).mono ?_
  rintro e w1 ⟨rfl, hM1⟩
  go_wp2_with fail
  refine (new_reader w1 s).mono ?_
  rintro e w2 ⟨rfl, hM2, h2, hs2⟩
  have hlow := hM1.size
  have hM2' := hM1.then hM2
  generalize w1.heap.size = R at *
  clear hM1 hM2
  go_wp2_with fail
  refine (new_writer w2 w.heap.size hM2'.size).mono ?_
  rintro e w3 ⟨rfl, hM3, h3, hs3⟩
  have hG : w2.heap.size = R + 1 := hs2
  have hb : FB w w3 w2.heap.size R (.slice none 0 0) [] 0 (num s) 0 := ⟨h3, h2.mod hM3 (fun h => h), hM2'.then hM3, hlow, ⟨by omega, by omega⟩, fun b hb => by cases hb⟩
  have hf : Form (num s) [] 0 (num s) 0 0 := ⟨fun _ => ⟨rfl, rfl⟩, Or.inl rfl, by simp, bytes_num s, fun h => absurd rfl h⟩
  have HB := Lib.hid hb; have HF := Lib.hid hf
  generalize w2.heap.size = G at *
  clear hb hf h3 hM3 hs3 h2 hM2' hs2
  subst hG
  go_wp2_with fail
  go_loopw [7] (fun i wr => ∃ (k : Nat) (out : Value) (t : List Int) (ew : Int) (rest : List Int) (er : Int), k ≤ n ∧ i = .int .i64 k ∧ FB w wr (R + 1) R out t ew rest er ∧ Form (num s) t ew rest er k) (fun i _ => n - (intOf i).toNat)
  case atStart => exact ⟨0, _, _, _, _, _, by omega, rfl, HB.out, HF.out⟩
  case round =>
    clear HB HF
    obtain ⟨k, out, t, ew, rest, er, hk, rfl, hB, hF⟩ := hrel
    have hln := hF.len
    rw [length_num] at hln
    by_cases hlt : k < n
    · obtain ⟨hol, hou, hoc⟩ := HP.out
      obtain ⟨lb, lo, rfl, hlb, hcc⟩ := hoc (by omega)
      obtain ⟨o, ho⟩ : ∃ o, ops[k]? = some o := ⟨_, List.getElem?_eq_getElem (by omega)⟩
      have hc := hcc k o ho
      have hoz := HZ.out o (List.mem_of_getElem? ho)
      obtain ⟨ok, ou, oi, os, ob⟩ := o
      simp only at hoz
      have q0 : wr.cell? ⟨lb, lo + k * 5, none⟩ = some (.int .i64 ok) := hB.mod.cellS (hc 0 _ rfl) (fun h => h)
      have q1 : wr.cell? ⟨lb, lo + k * 5 + 1, none⟩ = some (.int .u64 ou) := hB.mod.cellS (hc 1 _ rfl) (fun h => h)
      have q2 : wr.cell? ⟨lb, lo + k * 5 + 2, none⟩ = some (.int .i64 oi) := hB.mod.cellS (hc 2 _ rfl) (fun h => h)
      have q3 : wr.cell? ⟨lb, lo + k * 5 + 3, none⟩ = some (.int .i64 os) := hB.mod.cellS (hc 3 _ rfl) (fun h => h)
      have q4 : wr.cell? ⟨lb, lo + k * 5 + 4, none⟩ = some (.string ob) := hB.mod.cellS (hc 4 _ rfl) (fun h => h)
      have hki : (k : Int) < (n : Int) := by omega
      have hM := (Mod.refl none_ wr).alloc (.cells #[.int .i64 ok, .int .u64 ou, .int .i64 oi, .int .i64 os, .string ob] 32)
      have hbl := (Blk.newA wr #[.int .i64 ok, .int .u64 ou, .int .i64 oi, .int .i64 os, .string ob] 32)
      have hbl : Blk (wr.alloc (.cells #[.int .i64 ok, .int .u64 ou, .int .i64 oi, .int .i64 os, .string ob] 32)) wr.heap.size [.int .i64 ok, .int .u64 ou, .int .i64 oi, .int .i64 os, .string ob] 32 := hbl
      have hff : wr.heap.size ≠ R ∧ wr.heap.size ≠ R + 1 ∧ out.ownBlock ≠ some wr.heap.size := ⟨by have := hB.rd.row.lt; omega, by have := hB.wr.row.lt; omega, fun e => by have := hB.wr.own.own_lt e; omega⟩
      have hRL := hB.grow hM
      have HBL := Lib.hid hbl; have HFR := Lib.hid hff; have HRL := Lib.hid hRL; have HF := Lib.hid hF; have HSZ := Lib.hid hRL.mod.size
      clear hc hcc hoc hou ho hol hB hM hbl hff hRL hF
      by_cases k1 : ok = 1
      · subst k1
        have hv := HF.out.number os
        obtain ⟨v, hv0⟩ : ∃ v, (Rd.number rest er os).1 = v := ⟨_, rfl⟩
        obtain ⟨st, hst⟩ : ∃ st, (Rd.number rest er os).2 = st := ⟨_, rfl⟩
        have HC := Lib.hid (fun wx (hx : RdAt wx R rest er) => rd_number wx R rest er os hx _ rfl)
        simp only [hv0, hst] at hv HC
        have HV := Lib.hid hv
        skip
        clear hv hv0 hst
        go_upto_region 11 with fail
        generalize wr.alloc (.cells #[.int .i64 1, .int .u64 ou, .int .i64 oi, .int .i64 os, .string ob] 32) = wl at *
        generalize wr.heap.size = B at *
        have p3 : wl.cell? ⟨B, 3, none⟩ = some (.int .i64 os) := HBL.out.cell rfl
        have hsz := HSZ.out
        go_region_held3 (fun w' => w'.cell? ⟨B, 3, none⟩ = some (.int .i64 os))
          (first | (simp [*]; done))
          (first | (go_at_call 32; refine (HC.out _ HRL.out.drew.rd).mono ?_; rintro en w9 ⟨rfl, hT9⟩; have p3' : w9.cell? ⟨B, 3, none⟩ = some (.int .i64 os) := (hT9.1.blk (HBL.out.drew) HFR.out.1).cell rfl; have HB9 := Lib.hid (hT9.1.blk (HBL.out.drew) HFR.out.1); have HY := Lib.hid (HRL.out.drew.read hT9); clear hT9)
                 | (go_at_call 12; refine (w_number _ w.heap.size (R + 1) _ out t ew v os HY.out.wr (by omega) HY.out.mod.size).mono ?_; rintro en w8 ⟨rfl, hT8⟩; have HT8 := Lib.hid hT8; clear hT8; have p3'' : w8.cell? ⟨B, 3, none⟩ = some (.int .i64 os) := (HT8.out.1.blk HB9.out (by rintro (e | e); exact HFR.out.2.1 e; exact HFR.out.2.2 e)).cell rfl))
        all_goals (obtain ⟨out2, hB2⟩ := HY.out.write HT8.out)
        all_goals (have HB2 := Lib.hid hB2; clear hB2)
        all_goals (go_wp2_with fail)
        all_goals go_roundw
        all_goals first
          | exact ⟨k + 1, _, _, _, _, _, by omega, by go_num, HB2.out, HV.out⟩
          | (simp [intOf]; omega)
      by_cases k2 : ok = 2
      · subst k2
        have hv := HF.out.signed os
        obtain ⟨v, hv0⟩ : ∃ v, (Rd.signed rest er os).1 = v := ⟨_, rfl⟩
        obtain ⟨st, hst⟩ : ∃ st, (Rd.signed rest er os).2 = st := ⟨_, rfl⟩
        have HC := Lib.hid (fun wx (hx : RdAt wx R rest er) => rd_signed wx R rest er os hx _ rfl)
        simp only [hv0, hst] at hv HC
        have HV := Lib.hid hv
        skip
        clear hv hv0 hst
        go_upto_region 13 with fail
        generalize wr.alloc (.cells #[.int .i64 2, .int .u64 ou, .int .i64 oi, .int .i64 os, .string ob] 32) = wl at *
        generalize wr.heap.size = B at *
        have p3 : wl.cell? ⟨B, 3, none⟩ = some (.int .i64 os) := HBL.out.cell rfl
        have hsz := HSZ.out
        go_region_held3 (fun w' => w'.cell? ⟨B, 3, none⟩ = some (.int .i64 os))
          (first | (simp [*]; done))
          (first | (go_at_call 33; refine (HC.out _ HRL.out.drew.rd).mono ?_; rintro en w9 ⟨rfl, hT9⟩; have p3' : w9.cell? ⟨B, 3, none⟩ = some (.int .i64 os) := (hT9.1.blk (HBL.out.drew) HFR.out.1).cell rfl; have HB9 := Lib.hid (hT9.1.blk (HBL.out.drew) HFR.out.1); have HY := Lib.hid (HRL.out.drew.read hT9); clear hT9)
                 | (go_at_call 14; refine (w_signed _ w.heap.size (R + 1) _ out t ew v os HY.out.wr (by omega) HY.out.mod.size).mono ?_; rintro en w8 ⟨rfl, hT8⟩; have HT8 := Lib.hid hT8; clear hT8; have p3'' : w8.cell? ⟨B, 3, none⟩ = some (.int .i64 os) := (HT8.out.1.blk HB9.out (by rintro (e | e); exact HFR.out.2.1 e; exact HFR.out.2.2 e)).cell rfl))
        all_goals (obtain ⟨out2, hB2⟩ := HY.out.write HT8.out)
        all_goals (have HB2 := Lib.hid hB2; clear hB2)
        all_goals (go_wp2_with fail)
        all_goals go_roundw
        all_goals first
          | exact ⟨k + 1, _, _, _, _, _, by omega, by go_num, HB2.out, HV.out⟩
          | (simp [intOf]; omega)
      by_cases k3 : ok = 3
      · subst k3
        have hv := HF.out.bytes os (decide (os < 0))
        obtain ⟨v, hv0⟩ : ∃ v, strOf (Rd.ask rest er os (decide (os < 0))).1 = v := ⟨_, rfl⟩
        obtain ⟨st, hst⟩ : ∃ st, (Rd.ask rest er os (decide (os < 0))).2 = st := ⟨_, rfl⟩
        have hvl : v.size ≤ rest.length := by
          rw [← hv0, size_strOf, Rd.ask]
          split
          · simp
          · rw [Rd.take]; split
            · split
              · rw [List.length_take]; omega
              · simp
            · simp
        have HC := Lib.hid (fun wx (hx : RdAt wx R rest er) => rd_bytes wx R rest er os hoz hx _ rfl)
        simp only [hv0, hst] at hv HC
        have HV := Lib.hid hv
        clear hv hv0 hst
        go_upto_region 15 with fail
        generalize wr.alloc (.cells #[.int .i64 3, .int .u64 ou, .int .i64 oi, .int .i64 os, .string ob] 32) = wl at *
        generalize wr.heap.size = B at *
        have p3 : wl.cell? ⟨B, 3, none⟩ = some (.int .i64 os) := HBL.out.cell rfl
        go_wp2_with fail
        refine (HC.out _ HRL.out.rd).mono ?_
        rintro en w9 ⟨rfl, hT9⟩
        have HY := Lib.hid (HRL.out.read hT9)
        clear hT9
        go_wp2_with fail
        refine (w_bytes _ w.heap.size (R + 1) _ out t ew v HY.out.wr (by omega) HY.out.mod.size).mono ?_
        rintro en w8 ⟨rfl, hT8⟩
        obtain ⟨out2, hB2⟩ := HY.out.write hT8
        have HB2 := Lib.hid hB2
        clear hB2 hT8
        go_wp2_with fail
        go_roundw
        case rel => exact ⟨k + 1, _, _, _, _, _, by omega, by go_num, HB2.out, HV.out⟩
        case measure => simp [intOf]; omega
      by_cases k4 : ok = 4
      · subst k4
        have hv := HF.out.text
        have hvl : (strOf (Rd.text rest er).1).size ≤ 255 + rest.length := by
          rw [size_strOf, Rd.text, Rd.take]
          have hsm := Rd.number_small rest er HF.out.byt
          split
          · split
            · rw [List.length_take]; omega
            · simp
          · simp
        obtain ⟨v, hv0⟩ : ∃ v, strOf (Rd.text rest er).1 = v := ⟨_, rfl⟩
        obtain ⟨st, hst⟩ : ∃ st, (Rd.text rest er).2 = st := ⟨_, rfl⟩
        have HC := Lib.hid (fun wx (hx : RdAt wx R rest er) => rd_text wx R rest er hx _ rfl)
        simp only [hv0, hst] at hv HC hvl
        have HV := Lib.hid hv
        clear hv hv0 hst
        go_wp2_with fail
        refine (HC.out _ HRL.out.rd).mono ?_
        rintro en w9 ⟨rfl, hT9⟩
        have HY := Lib.hid (HRL.out.read hT9)
        clear hT9
        go_wp2_with fail
        refine (w_text _ w.heap.size (R + 1) _ out t ew v HY.out.wr (by omega) HY.out.mod.size).mono ?_
        rintro en w8 ⟨rfl, hT8⟩
        obtain ⟨out2, hB2⟩ := HY.out.write hT8
        have HB2 := Lib.hid hB2
        clear hB2 hT8
        go_wp2_with fail
        go_roundw
        case rel => exact ⟨k + 1, _, _, _, _, _, by omega, by go_num, HB2.out, HV.out⟩
        case measure => simp [intOf]; omega
      have HV := Lib.hid HF.out.none
      go_wp2_with fail
      go_roundw
      case rel => exact ⟨k + 1, _, _, _, _, _, by omega, by go_num, HRL.out, HV.out⟩
      case measure => simp [intOf]; omega
    · have hkn : k = n := by omega
      subst hkn
      have hki : ¬ (k : Int) < (k : Int) := by omega
      have HB := Lib.hid hB; have HF := Lib.hid hF
      clear hB hF
      obtain ⟨v, hv0⟩ : ∃ v, strOf rest = v := ⟨_, rfl⟩
      have hvl : v.size = rest.length := by rw [← hv0, size_strOf]
      have HVL := Lib.hid hvl; have HV0 := Lib.hid hv0
      clear hvl hv0
      go_wp2_with fail
      refine (rd_rest _ R rest er HB.out.rd v HV0.out).mono ?_
      rintro en w9 ⟨rfl, hT9⟩
      have HY := Lib.hid (HB.out.read hT9)
      clear hT9
      go_wp2_with fail
      refine (w_bytes _ w.heap.size (R + 1) _ out t ew v HY.out.wr (by have := HVL.out; omega) HY.out.mod.size).mono ?_
      rintro en w8 ⟨rfl, hT8⟩
      obtain ⟨out2, hB2⟩ := HY.out.write hT8
      have HB2 := Lib.hid hB2
      clear hB2 hT8
      by_cases he : er = 0
      · subst he
        obtain ⟨rfl, hsm⟩ := HF.out.same rfl
        have hnv : num v = rest := by rw [← HV0.out, num_strOf _ HF.out.byt]
        have hp : Pk.put t 0 true (num v) = (num s, 0) := by rw [put_ok, hnv, hsm]
        rw [hp] at HB2
        have hls : (num s).length ≤ 140737488355328 := by rw [length_num]; omega
        have hd := w_done w8 w.heap.size (R + 1) _ out2 (num s) 0 HB2.out.wr hls
        rw [if_pos rfl, strOf_num] at hd
        have HD := Lib.hid hd
        clear hsm hnv hp hls hd
        go_wp2_with fail
        refine (rd_done _ R [] 0 HB2.out.rd 0 (by simp)).mono ?_
        rintro en w7 ⟨rfl, rfl⟩
        go_wp2_with fail
        refine HD.out.mono ?_
        rintro en w7 ⟨rfl, hM7⟩
        have HM := Lib.hid (HB2.out.mod.then hM7)
        clear hM7 HD
        go_wp2_with fail
        go_ret
        exact ⟨rfl, HM.out⟩
      · rcases HF.out.err with h5 | rfl | rfl
        · exact absurd h5 he
        all_goals
          go_wp2_with fail
          refine (rd_done _ R [] _ HB2.out.rd _ rfl).mono ?_
          rintro en w7 ⟨rfl, rfl⟩
          go_wp2_with fail
          refine (rd_done _ R [] _ HB2.out.rd _ rfl).mono ?_
          rintro en w7 ⟨rfl, rfl⟩
          go_wp2_with fail
          try (refine (rd_done _ R [] _ HB2.out.rd _ rfl).mono ?_
               rintro en w7 ⟨rfl, rfl⟩
               go_wp2_with fail)
          go_ret
          exact ⟨rfl, HB2.out.mod⟩
end Go.Proofs.Ytcmbklofbemclaa
