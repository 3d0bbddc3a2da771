/- PackWrites: the law's walk. -/
import Derived.Test.YtcmbklofbemclaaPkV
namespace Go.Proofs.Ytcmbklofbemclaa
open Go.RowKit

/-- one call -/
structure PkOp where
  kind : Int
  u : Nat
  i : Int
  size : Int
  s : ByteArray
def PkOp.cells (o : PkOp) : List Value := [.int .i64 o.kind, .int .u64 o.u, .int .i64 o.i, .int .i64 o.size, .string o.s]
/-- a script among the arguments -/
def OpsAt (w : World) (B : Nat) (sa : Option Addr) (n : Nat) (ops : List PkOp) : Prop :=
  ops.length = n ∧ (∀ o ∈ ops, o.u < 18446744073709551616) ∧ (0 < n → ∃ lb lo, sa = some ⟨lb, lo, none⟩ ∧ lb < B ∧ ∀ (i : Nat) o, ops[i]? = some o → ∀ f v, o.cells[f]? = some v → w.cell? ⟨lb, lo + i * 5 + f, none⟩ = some v)
/-- how much a script lays at most -/
def Pk.weight : List PkOp → Nat
  | [] => 0
  | o :: l => 8 + o.s.size + Pk.weight l
theorem Pk.weight_take (l : List PkOp) (k : Nat) (o : PkOp) (h : l[k]? = some o) : Pk.weight (l.take (k + 1)) = Pk.weight (l.take k) + (8 + o.s.size) := by
  have ha : ∀ a b : List PkOp, Pk.weight (a ++ b) = Pk.weight a + Pk.weight b := by
    intro a b
    induction a with
    | nil => simp [Pk.weight]
    | cons x a ih => simp only [List.cons_append, Pk.weight, ih]; omega
  rw [List.take_add_one, h, ha]
  simp [Pk.weight]
theorem Pk.weight_le (l : List PkOp) (k : Nat) : Pk.weight (l.take k) ≤ Pk.weight l := by
  have ha : ∀ a b : List PkOp, Pk.weight (a ++ b) = Pk.weight a + Pk.weight b := by
    intro a b
    induction a with
    | nil => simp [Pk.weight]
    | cons x a ih => simp only [List.cons_append, Pk.weight, ih]; omega
  have := ha (l.take k) (l.drop k)
  rw [List.take_append_drop] at this
  omega
theorem Pk.put_len (t : List Int) (e : Int) (ok : Bool) (b : List Int) : (Pk.put t e ok b).1.length ≤ t.length + b.length := by
  cases ok
  · rw [put_no]; simp
  · by_cases he : e = 0
    · subst he; rw [put_ok]; simp
    · rw [put_err _ _ _ he]; simp

theorem Pk.put_len8 (t : List Int) (e : Int) (ok : Bool) (b : List Int) (m : Nat) (h : ok = true → b.length ≤ m) : (Pk.put t e ok b).1.length ≤ t.length + m := by
  cases ok
  · rw [put_no]; simp
  · have := Pk.put_len t e true b
    have := h rfl
    omega
/-- both Writers hold the same, apart from one another -/
structure Both (w0 w : World) (G V R : Nat) (out : Value) (t : List Int) (e : Int) : Prop where
  prog : WrAt w w0.heap.size G V out t e
  ref : RwAt w R t e
  mod : Mod none_ w0 w
  low : w0.heap.size ≤ R
  ne : R ≠ G ∧ R ≠ V
  out : ∀ b, out.ownBlock = some b → b ≠ R
theorem Both.step {w0 w w1 w2 : World} {G V R : Nat} {out : Value} {t : List Int} {e : Int} {r : List Int × Int} (h : Both w0 w G V R out t e) (h1 : WrTo w w1 w0.heap.size G V out r) (h2 : RwAt w1 R t e → RwTo w1 w2 R r) : ∃ out', Both w0 w2 G V R out' r.1 r.2 := by
  obtain ⟨hM1, out', hW, hO⟩ := h1
  have hR1 : RwAt w1 R t e := h.ref.mod hM1 (fun e => by rcases e with e | e; exact h.ne.1 e; exact h.out R e rfl)
  have hRl := h.ref.row.lt
  obtain ⟨hM2, hR2⟩ := h2 hR1
  have ho : ∀ b, out'.ownBlock = some b → b ≠ R := fun b hb => by
    rcases hO b hb with h3 | h3
    · exact h.out b h3
    · omega
  have hlow := h.prog.low
  refine ⟨out', hW.mod hM2 (fun e => h.ne.1 e.symm) (fun e => h.ne.2 e.symm) (fun g hg e => ho g hg e), hR2, ?_, h.low, h.ne, ho⟩
  refine (h.mod.trans hM1 (fun b hb e => ?_)).trans hM2 (fun b hb e => ?_)
  · rcases e with e | e
    · omega
    · have := h.prog.own.own_ge e; omega
  · have : b = R := e
    have := h.low; omega

/-- behind the program's half of a step -/
theorem Both.half {w0 w w1 : World} {G V R : Nat} {out : Value} {t : List Int} {e : Int} {r : List Int × Int} (h : Both w0 w G V R out t e) (h1 : WrTo w w1 w0.heap.size G V out r) {b : Nat} {cs : List Value} {T : TypeId} (hb : Blk w b cs T) (hG : b ≠ G) (ho : out.ownBlock ≠ some b) : RwAt w1 R t e ∧ Blk w1 b cs T :=
  ⟨h.ref.mod h1.1 (fun e => by rcases e with e | e; exact h.ne.1 e; exact h.out R e rfl), h1.1.blk hb (fun e => by rcases e with e | e; exact hG e; exact ho e)⟩
theorem Both.grow {w0 w w1 : World} {G V R : Nat} {out : Value} {t : List Int} {e : Int} (h : Both w0 w G V R out t e) (hM : Mod none_ w w1) : Both w0 w1 G V R out t e :=
  ⟨h.prog.mod hM (fun h => h) (fun h => h) (fun _ _ h => h), h.ref.mod hM (fun h => h), h.mod.then hM, h.low, h.ne, h.out⟩
theorem Both.fresh {w0 w : World} {G V R : Nat} {out : Value} {t : List Int} {e : Int} (h : Both w0 w G V R out t e) : w.heap.size ≠ G ∧ out.ownBlock ≠ some w.heap.size := by
  refine ⟨fun e => ?_, fun e => ?_⟩
  · have := h.prog.row.lt; omega
  · have := h.prog.own.own_lt e; omega

theorem w_doneR (w : World) (base G V : Nat) (out : Value) (t : List Int) (e : Int) (h : WrAt w base G V out t e) (hl : t.length ≤ 140737488355328) (res : ByteArray) (hr : (if e = 0 then strOf t else ⟨#[]⟩) = res) :
    Calls Try.prog 20 #[.pointer (some ⟨G, 0, none⟩)] w fun en w' => en = .returned (.tuple #[.string res, .int .i64 e]) ∧ Mod none_ w w' := by
  subst hr
  exact w_done w base G V out t e h hl
theorem r_doneR (w : World) (R : Nat) (t : List Int) (e : Int) (h : RwAt w R t e) (res : ByteArray) (hr : (if e = 0 then strOf t else ⟨#[]⟩) = res) :
    Calls Try.prog 21 #[.pointer (some ⟨R, 0, none⟩)] w fun en w' => en = .returned (.tuple #[.string res, .int .i64 e]) ∧ Mod none_ w w' := by
  subst hr
  exact r_done w R t e h

set_option maxHeartbeats 2000000 in
set_option maxRecDepth 100000 in
theorem packWrites_any (w : World) (sa : Option Addr) (n c : Nat) (ops : List PkOp) (hp : OpsAt w w.heap.size sa n ops) (hl : Pk.weight ops ≤ 70368744177664) :
    Calls Try.prog 3 #[.slice sa n c] w fun e w' => e = .returned (.bool true) ∧ Mod none_ w w' := by
  have hn48 : n ≤ 70368744177664 := by
    have : ∀ l : List PkOp, l.length ≤ Pk.weight l := by
      intro l
      induction l with
      | nil => simp [Pk.weight]
      | cons x a ih => simp only [List.length_cons, Pk.weight]; omega
    have := this ops
    rw [hp.1] at this
    omega
  have HP := Lib.hid hp; have HL := Lib.hid hl
  clear hp hl
  go_enter Try.func3, Try.ntmps3
  go_wp2_with fail
  refine (alive5_any w).mono ?_
  rintro e w1 ⟨rfl, hM1⟩
  go_wp2_with fail
  refine (new_writer w1 w.heap.size hM1.size).mono ?_
  rintro e w2 ⟨rfl, hM2, h2, hs2⟩
  have hb : Both w (w2.alloc (.cells #[.string ⟨#[]⟩, .int .i64 0] 29)) w1.heap.size (w1.heap.size + 1) w2.heap.size (.slice none 0 0) [] 0 :=
    ⟨h2.mod ((Mod.refl none_ _).alloc _) (fun h => h) (fun h => h) (fun _ _ h => h), ⟨(Blk.newA _ _ _).cs rfl, fun x hx => by simp at hx⟩, (hM1.then hM2).alloc _, (hM1.then hM2).size, ⟨by omega, by omega⟩, fun b hb => by cases hb⟩
  have HB := Lib.hid hb
  generalize w1.heap.size = G at *
  have hR : w2.heap.size = G + 2 := hs2
  clear hb h2 hM1 hM2 hs2
  go_wp2_with fail
  go_loopw [5] (fun i wr => ∃ (k : Nat) (out : Value) (t : List Int) (e : Int), k ≤ n ∧ i = .int .i64 k ∧ Both w wr G (G + 1) w2.heap.size out t e ∧ t.length ≤ Pk.weight (ops.take k)) (fun i _ => n - (intOf i).toNat)
  case atStart => exact ⟨0, _, _, _, by omega, rfl, HB.out, by simp⟩
  case round =>
    clear HB
    obtain ⟨k, out, t, e, hk, rfl, hB, ht⟩ := hrel
    generalize w2.heap.size = R at *
    subst hR
    have hwk := Pk.weight_le ops k
    have hwl := HL.out
    by_cases hlt : k < n
    · obtain ⟨hol, hou, hoc⟩ := HP.out
      obtain ⟨lb, lo, rfl, hlb, hcc⟩ := hoc (by omega)
      obtain ⟨o, ho⟩ : ∃ o, ops[k]? = some o := ⟨_, List.getElem?_eq_getElem (by omega)⟩
      have hc := hcc k o ho
      have hol2 := hou o (List.mem_of_getElem? ho)
      have hwk1 := Pk.weight_take ops k o ho
      have hwk2 := Pk.weight_le ops (k + 1)
      obtain ⟨ok, ou, oi, os, ob⟩ := o
      have q0 : wr.cell? ⟨lb, lo + k * 5, none⟩ = some (.int .i64 ok) := hB.mod.cellS (hc 0 _ rfl) (fun h => h)
      have q1 : wr.cell? ⟨lb, lo + k * 5 + 1, none⟩ = some (.int .u64 ou) := hB.mod.cellS (hc 1 _ rfl) (fun h => h)
      have q2 : wr.cell? ⟨lb, lo + k * 5 + 2, none⟩ = some (.int .i64 oi) := hB.mod.cellS (hc 2 _ rfl) (fun h => h)
      have q3 : wr.cell? ⟨lb, lo + k * 5 + 3, none⟩ = some (.int .i64 os) := hB.mod.cellS (hc 3 _ rfl) (fun h => h)
      have q4 : wr.cell? ⟨lb, lo + k * 5 + 4, none⟩ = some (.string ob) := hB.mod.cellS (hc 4 _ rfl) (fun h => h)
      have hki : (k : Int) < (n : Int) := by omega
      simp only at hol2 hwk1
      have HW := Lib.hid hwk1
      clear hc hcc hoc hou ho hol hwk1
      go_upto_region 9 with fail
      have hf := hB.fresh
      have hM := (Mod.refl none_ wr).alloc (.cells #[.int .i64 ok, .int .u64 ou, .int .i64 oi, .int .i64 os, .string ob] 32)
      have hbl := Blk.newA wr #[.int .i64 ok, .int .u64 ou, .int .i64 oi, .int .i64 os, .string ob] 32
      generalize hwl0 : wr.alloc _ = wl at *
      have hBl := hB.grow hM
      have hbl := hbl.cs rfl
      have p0 : wl.cell? ⟨wr.heap.size, 0, none⟩ = some (.int .i64 ok) := hbl.cell rfl
      have p1 : wl.cell? ⟨wr.heap.size, 1, none⟩ = some (.int .u64 ou) := hbl.cell rfl
      have p2 : wl.cell? ⟨wr.heap.size, 2, none⟩ = some (.int .i64 oi) := hbl.cell rfl
      have p3 : wl.cell? ⟨wr.heap.size, 3, none⟩ = some (.int .i64 os) := hbl.cell rfl
      have p4 : wl.cell? ⟨wr.heap.size, 4, none⟩ = some (.string ob) := hbl.cell rfl
      generalize wr.heap.size = B at *
      have hw0 := hBl.mod.size
      have HBB := Lib.hid hBl; have HBL := Lib.hid hbl; have HFR := Lib.hid hf
      clear hwl0 hbl q0 q1 q2 q3 q4 hM hf hB hBl
      by_cases k1 : ok = 1
      · subst k1
        go_wp2_with fail
        refine (w_number wl w.heap.size G (G + 1) out t e ou os HBB.out.prog (by omega) hw0).mono ?_
        rintro en wa ⟨rfl, hT⟩
        obtain ⟨hr, hba⟩ := HBB.out.half hT HBL.out HFR.out.1 HFR.out.2
        have HT := Lib.hid hT
        clear hT
        have q1 : wa.cell? ⟨B, 1, none⟩ = some (.int .u64 ou) := hba.cell rfl
        have q3 : wa.cell? ⟨B, 3, none⟩ = some (.int .i64 os) := hba.cell rfl
        clear hba
        go_wp2_with fail
        refine (r_number wa (G + 2) t e ou os hol2 hr (by omega)).mono ?_
        rintro en wb ⟨rfl, hT2⟩
        obtain ⟨out2, hB2⟩ := HBB.out.step HT.out (fun _ => hT2)
        have hlen := Pk.put_len8 t e (Pk.fits (ou : Int) os) (Pk.digs (ou : Int) os.toNat) 8 (fun h => by rw [Pk.length_digs]; simp [Pk.fits] at h; omega)
        have HB2 := Lib.hid hB2; have HLN := Lib.hid hlen
        clear hB2 hlen hT2 hr HT
        go_wp2_with fail
        go_roundw
        case rel => exact ⟨k + 1, _, _, _, by omega, by go_num, HB2.out, by have := HLN.out; have := HW.out; omega⟩
        case measure => simp [intOf]; omega
      by_cases k2 : ok = 2
      · subst k2
        go_wp2_with fail
        refine (w_signed wl w.heap.size G (G + 1) out t e oi os HBB.out.prog (by omega) hw0).mono ?_
        rintro en wa ⟨rfl, hT⟩
        obtain ⟨hr, hba⟩ := HBB.out.half hT HBL.out HFR.out.1 HFR.out.2
        have HT := Lib.hid hT
        clear hT
        have q2 : wa.cell? ⟨B, 2, none⟩ = some (.int .i64 oi) := hba.cell rfl
        have q3 : wa.cell? ⟨B, 3, none⟩ = some (.int .i64 os) := hba.cell rfl
        clear hba
        go_wp2_with fail
        refine (r_signed wa (G + 2) t e oi os hr (by omega)).mono ?_
        rintro en wb ⟨rfl, hT2⟩
        obtain ⟨out2, hB2⟩ := HBB.out.step HT.out (fun _ => hT2)
        have hlen := Pk.put_len8 t e (Pk.sfits oi os) (Pk.digs (oi % 18446744073709551616) os.toNat) 8 (fun h => by rw [Pk.length_digs]; simp [Pk.sfits] at h; omega)
        have HB2 := Lib.hid hB2; have HLN := Lib.hid hlen
        clear hB2 hlen hT2 hr HT
        go_wp2_with fail
        go_roundw
        case rel => exact ⟨k + 1, _, _, _, by omega, by go_num, HB2.out, by have := HLN.out; have := HW.out; omega⟩
        case measure => simp [intOf]; omega
      by_cases k3 : ok = 3
      · subst k3
        go_wp2_with fail
        refine (w_bytes wl w.heap.size G (G + 1) out t e ob HBB.out.prog (by have := HW.out; omega) hw0).mono ?_
        rintro en wa ⟨rfl, hT⟩
        obtain ⟨hr, hba⟩ := HBB.out.half hT HBL.out HFR.out.1 HFR.out.2
        have HT := Lib.hid hT
        clear hT
        have q4 : wa.cell? ⟨B, 4, none⟩ = some (.string ob) := hba.cell rfl
        clear hba
        go_wp2_with fail
        refine (r_bytes wa (G + 2) t e ob hr (by have := HW.out; omega)).mono ?_
        rintro en wb ⟨rfl, hT2⟩
        obtain ⟨out2, hB2⟩ := HBB.out.step HT.out (fun _ => hT2)
        have hlen := Pk.put_len8 t e true (num ob) (8 + ob.size) (fun h => by rw [length_num]; omega)
        have HB2 := Lib.hid hB2; have HLN := Lib.hid hlen
        clear hB2 hlen hT2 hr HT
        go_wp2_with fail
        go_roundw
        case rel => exact ⟨k + 1, _, _, _, by omega, by go_num, HB2.out, by have := HLN.out; have := HW.out; omega⟩
        case measure => simp [intOf]; omega
      by_cases k4 : ok = 4
      · subst k4
        go_wp2_with fail
        refine (w_text wl w.heap.size G (G + 1) out t e ob HBB.out.prog (by have := HW.out; omega) hw0).mono ?_
        rintro en wa ⟨rfl, hT⟩
        obtain ⟨hr, hba⟩ := HBB.out.half hT HBL.out HFR.out.1 HFR.out.2
        have HT := Lib.hid hT
        clear hT
        have q4 : wa.cell? ⟨B, 4, none⟩ = some (.string ob) := hba.cell rfl
        clear hba
        go_wp2_with fail
        refine (r_text wa (G + 2) t e ob hr (by have := HW.out; omega)).mono ?_
        rintro en wb ⟨rfl, hT2⟩
        obtain ⟨out2, hB2⟩ := HBB.out.step HT.out (fun _ => hT2)
        have hlen := Pk.put_len8 t e (decide (ob.size ≤ 255)) ((ob.size : Int) :: num ob) (8 + ob.size) (fun h => by rw [List.length_cons, length_num]; omega)
        have HB2 := Lib.hid hB2; have HLN := Lib.hid hlen
        clear hB2 hlen hT2 hr HT
        go_wp2_with fail
        go_roundw
        case rel => exact ⟨k + 1, _, _, _, by omega, by go_num, HB2.out, by have := HLN.out; have := HW.out; omega⟩
        case measure => simp [intOf]; omega
      obtain ⟨res, hres⟩ : ∃ res, (if e = 0 then strOf t else ⟨#[]⟩) = res := ⟨_, rfl⟩
      have HRES := Lib.hid hres
      clear hres
      go_wp2_with fail
      refine (w_doneR wl w.heap.size G (G + 1) out t e HBB.out.prog (by omega) res HRES.out).mono ?_
      rintro en wa ⟨rfl, hMa⟩
      have hBa := HBB.out.grow hMa
      go_wp2_with fail
      refine (r_doneR wa (G + 2) t e hBa.ref res HRES.out).mono ?_
      rintro en wb ⟨rfl, hMb⟩
      have hB2 := hBa.grow hMb
      have HB2 := Lib.hid hB2
      clear hB2 hBa hMa hMb
      go_wp2_with fail
      go_roundw
      case rel => exact ⟨k + 1, _, _, _, by omega, by go_num, HB2.out, by have := HW.out; omega⟩
      case measure => simp [intOf]; omega
    · have hkn : k = n := by omega
      subst hkn
      have hHl : t.length ≤ 140737488355328 := by omega
      have HBB := Lib.hid hB
      clear hB
      have hki : ¬ (k : Int) < (k : Int) := by omega
      obtain ⟨res, hres⟩ : ∃ res, (if e = 0 then strOf t else ⟨#[]⟩) = res := ⟨_, rfl⟩
      have HRES := Lib.hid hres
      clear hres
      go_wp2_with fail
      refine (w_doneR wr w.heap.size G (G + 1) out t e HBB.out.prog hHl res HRES.out).mono ?_
      rintro en wa ⟨rfl, hMa⟩
      have hBa := HBB.out.grow hMa
      go_wp2_with fail
      refine (r_doneR wa (G + 2) t e hBa.ref res HRES.out).mono ?_
      rintro en wb ⟨rfl, hMb⟩
      have hB2 := hBa.grow hMb
      have HB2 := Lib.hid hB2
      clear hB2 hBa hMa hMb
      go_wp2_with fail
      go_ret
      exact ⟨rfl, HB2.out.mod⟩
end Go.Proofs.Ytcmbklofbemclaa
