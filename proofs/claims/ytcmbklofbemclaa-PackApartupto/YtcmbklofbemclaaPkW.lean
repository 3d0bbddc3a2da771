/- pack's Writer: the walks. -/
import Derived.Test.YtcmbklofbemclaaByt2
import Derived.Deep.RegionLaw
import Derived.Deep.DeepCutAuto
import Derived.Deep.RegionHeld3
namespace Go.Proofs.Ytcmbklofbemclaa
open Go.RowKit

theorem store_func (a : Addr) (fn : Fn) (first cap : Array Value) (m : Mode) (w : World) : (store a (.func fn first cap) m).run Try.prog w = stored Try.prog w a (.func fn first cap) m := run_store Try.prog w a _ m rfl
theorem make_func (fn : Fn) (first cap : Array Value) (w : World) : (Instr.makeFunc fn first cap).run Try.prog w = .ok (.func fn first cap) w := rfl

/-- how a Writer lays: its closure, or the one that does nothing -/
def layOf (V : Nat) (e : Int) : Value := if e = 0 then .func (.func 36) #[] #[.pointer (some ⟨V, 0, none⟩)] else .func (.func 48) #[] #[]
/-- block G is a Writer, V the variable that its closure captured; out holds t; the first error is e -/
structure WrAt (w : World) (base G V : Nat) (out : Value) (t : List Int) (e : Int) : Prop where
  row : Blk w G [out, .int .i64 e, layOf V e] 58
  var : Blk w V [.pointer (some ⟨G, 0, none⟩)] 24
  own : OwnN w base out t
  byt : Sha.bytes t
  app : ∀ g, out.ownBlock = some g → g ≠ G ∧ g ≠ V
  ne : G ≠ V
  low : base ≤ G ∧ base ≤ V
theorem WrAt.mod {S : Nat → Prop} {w w' : World} {base G V : Nat} {out : Value} {t : List Int} {e : Int} (h : WrAt w base G V out t e) (hM : Mod S w w') (hG : ¬ S G) (hV : ¬ S V) (hO : ∀ g, out.ownBlock = some g → ¬ S g) : WrAt w' base G V out t e :=
  ⟨hM.blk h.row hG, hM.blk h.var hV, h.own.modO hM hO, h.byt, h.app, h.ne, h.low⟩

theorem new_writer (w : World) (base : Nat) (hb : base ≤ w.heap.size) : Calls Try.prog 11 #[] w fun e w' => e = .returned (.pointer (some ⟨w.heap.size, 0, none⟩)) ∧ Mod none_ w w' ∧ WrAt w' base w.heap.size (w.heap.size + 1) (.slice none 0 0) [] 0 ∧ w'.heap.size = w.heap.size + 2 := by
  have hmf := make_func
  have hsf := store_func
  go_enter Try.func11, Try.ntmps11
  go_wp2
  go_ret
  exact ⟨rfl, ((Mod.refl none_ w).alloc _).alloc _, ⟨(Blk.new w [Value.slice none 0 0, Value.int IntKind.i64 0, layOf (w.heap.size + 1) 0] _).alloc _, (Blk.newA2 _ _ _ _).cs rfl, ownN_nil _ _, fun x hx => (by simp at hx), fun g hg => (by cases hg), by omega, by omega, by omega⟩, by simp⟩

set_option maxHeartbeats 1000000 in
theorem fail_any (w : World) (base G V : Nat) (out : Value) (t : List Int) (e : Int) (h : WrAt w base G V out t e) (x : Int) (hx : x ≠ 0) :
    Calls Try.prog 38 #[.pointer (some ⟨G, 0, none⟩), .int .i64 x] w fun en w' => en = .returned (.tuple #[]) ∧ Mod (only G) w w' ∧ WrAt w' base G V out t (if e = 0 then x else e) := by
  have hsf := store_func
  have q1 : w.cell? ⟨G, 1, none⟩ = some (.int .i64 e) := h.row.cell rfl
  have q2 : w.cell? ⟨G, 2, none⟩ = some (layOf V e) := h.row.cell rfl
  have f1 : w.frozen? ⟨G, 1, none⟩ = false := h.row.frozen 1
  have f2 : w.frozen? ⟨G, 2, none⟩ = false := h.row.frozen 2
  go_enter Try.func38, Try.ntmps38
  by_cases he : e = 0
  · subst he
    go_wp2
    go_end0
    refine ⟨rfl, ((Mod.refl _ _).setCell (fun _ => only_self G) _).setCell (fun _ => only_self G) _, ⟨(((h.row.set 1 _).set 2 _)).cs ?_, (h.var.set_other (fun e => h.ne e.symm) _).set_other (fun e => h.ne e.symm) _, ?_, h.byt, h.app, h.ne, h.low⟩⟩
    · have e : layOf V x = .func (.func 48) #[] #[] := by rw [layOf, if_neg hx]
      rw [e]; rfl
    · have hM1 : Mod (only G) w (w.setCell ⟨G, 1, none⟩ (.int .i64 x)) := (Mod.refl _ _).setCell (fun _ => only_self G) _
      have hM2 := hM1.setCell (p := ⟨G, 2, none⟩) (fun _ => only_self G) (.func (.func 48) #[] #[])
      exact h.own.modO hM2 (fun g hg e => (h.app g hg).1 e)
  · have he' : (e == 0) = false := by simpa using he
    go_wp2
    go_end0
    exact ⟨rfl, Mod.refl _ _, by assumption⟩

set_option maxHeartbeats 1000000 in
theorem lay_any (w : World) (base G V : Nat) (out : Value) (t : List Int) (s : ByteArray) (h : WrAt w base G V out t 0) (hl : t.length + s.size ≤ 140737488355328) (hb : base ≤ w.heap.size) :
    Calls Try.prog 36 #[.string s, .pointer (some ⟨V, 0, none⟩)] w fun en w' => en = .returned (.tuple #[]) ∧ Mod (fun b => b = G ∨ out.ownBlock = some b) w w' ∧ ∃ out', WrAt w' base G V out' (t ++ num s) 0 ∧ (∀ b, out'.ownBlock = some b → out.ownBlock = some b ∨ w.heap.size ≤ b) := by
  have q0 : w.cell? ⟨G, 0, none⟩ = some out := h.row.cell rfl
  have f0 : w.frozen? ⟨G, 0, none⟩ = false := h.row.frozen 0
  have qv : w.cell? ⟨V, 0, none⟩ = some (.pointer (some ⟨G, 0, none⟩)) := h.var.cell rfl
  have HH := Lib.hid h
  clear h
  go_enter Try.func36, Try.ntmps36
  go_region_law (first | (refine step_append_N rfl (.tmp 7) (.tmp 8) rfl base out t rfl (HH.out.own.modO ((Mod.refl none_ _).drew) (fun _ _ h => h)) s rfl hl hb ?_; intro v' w' h1 h2 h3; obtain ⟨a', c', hve⟩ := h1.form; subst hve; rw [List.length_append] at h1 h3; have hr : Blk w' G [out, .int .i64 0, layOf V 0] 58 := h2.blk HH.out.row.drew (fun e => (HH.out.app G e).1 rfl); have hv : Blk w' V [.pointer (some ⟨G, 0, none⟩)] 24 := h2.blk HH.out.var.drew (fun e => (HH.out.app V e).2 rfl); have qv' : w'.cell? ⟨V, 0, none⟩ = some (.pointer (some ⟨G, 0, none⟩)) := hv.cell rfl; have q0' : w'.cell? ⟨G, 0, none⟩ = some out := hr.cell rfl; have f0' : w'.frozen? ⟨G, 0, none⟩ = false := hr.frozen 0))
  all_goals go_end0
  all_goals have hMx : Mod (fun b => b = G ∨ out.ownBlock = some b) w w' := (((Mod.refl none_ w).drew).mono (T := none_) (fun _ _ h => h.elim)).trans h2 (fun b _ e => Or.inr e)
  all_goals have hG := HH.out.row.lt
  all_goals have hV := HH.out.var.lt
  all_goals have hap : ∀ g, (Value.slice a' (t.length + (num s).length) c').ownBlock = some g → g ≠ G ∧ g ≠ V := fun g hg => (h3 g hg).elim (fun h => HH.out.app g h) (fun h => ⟨by have : w.heap.size ≤ g := h; omega, by have : w.heap.size ≤ g := h; omega⟩)
  all_goals have hn := h1.modO ((Mod.refl (only G) w').setCell (p := ⟨G, 0, none⟩) (fun _ => only_self G) (.slice a' (t.length + (num s).length) c')) (fun g hg e => (hap g hg).1 e)
  all_goals exact ⟨rfl, hMx.setCell (p := ⟨G, 0, none⟩) (fun _ => Or.inl rfl) _, _, ⟨(hr.set 0 _).cs rfl, hv.set_other (fun e => HH.out.ne e.symm) _, hn, Sha.bytes_append HH.out.byt (bytes_num s), hap, HH.out.ne, HH.out.low⟩, h3⟩
end Go.Proofs.Ytcmbklofbemclaa
