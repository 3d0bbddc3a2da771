/- Words on worlds: a block known whole (Blk), what a call may have written (Mod). -/
import Derived.Test.YtinjlkceplhibaaDoorRows
import Derived.WalkKit
import Derived.Deep.Draws
import Derived.BigQuiet
import Derived.Deep.QuietTactic
import Derived.Lib.Hide
import Derived.BigRegion
import Derived.Outline
import Derived.Laws.CopyOwn
import Derived.Deep.MidRow
import Derived.Deep.WholeRow
namespace Go.Proofs.YtinjlkceplhibaaDoor
open Go.RowKit

theorem ret_int {k : IntKind} {a b : Int} (h : a = b) : Ending.returned (.int k a) = .returned (.int k b) := by rw [h]
theorem ret_bool {a b : Bool} (h : a = b) : Ending.returned (.bool a) = .returned (.bool b) := by rw [h]
theorem ret_str {a b : ByteArray} (h : a = b) : Ending.returned (.string a) = .returned (.string b) := by rw [h]

/-- Block b is a row of cells, known whole, none of them marked. -/
def Blk (w : World) (b : Nat) (cs : List Value) (t : TypeId) : Prop := w.heap[b]? = some (.cells cs.toArray t (0, 0))

theorem Blk.cell {w : World} {b : Nat} {cs : List Value} {t : TypeId} (h : Blk w b cs t) {j : Nat} {v : Value} (hj : cs[j]? = some v) : w.cell? ⟨b, j, none⟩ = some v := by
  rw [cell_of_row w b j _ t (0, 0) h]; simpa using hj
theorem Blk.frozen {w : World} {b : Nat} {cs : List Value} {t : TypeId} (h : Blk w b cs t) (j : Nat) : w.frozen? ⟨b, j, none⟩ = false := frozen_of_row w b j _ t h
theorem Blk.lt {w : World} {b : Nat} {cs : List Value} {t : TypeId} (h : Blk w b cs t) : b < w.heap.size := by
  by_cases hlt : b < w.heap.size
  · exact hlt
  · have hn : w.heap[b]? = none := by simp; omega
    rw [Blk, hn] at h; cases h
theorem Blk.set {w : World} {b : Nat} {cs : List Value} {t : TypeId} (h : Blk w b cs t) (j : Nat) (v : Value) : Blk (w.setCell ⟨b, j, none⟩ v) b (cs.set j v) t := by
  have := heap_setCell_same w b j cs.toArray t v h
  rw [Blk, this]; simp
theorem Blk.set_other {w : World} {b : Nat} {cs : List Value} {t : TypeId} (h : Blk w b cs t) {a : Addr} (hb : b ≠ a.block) (v : Value) : Blk (w.setCell a v) b cs t := by
  rw [Blk, heap_setCell_other w a b v hb]; exact h
theorem Blk.alloc {w : World} {b : Nat} {cs : List Value} {t : TypeId} (h : Blk w b cs t) (o : Obj) : Blk (w.alloc o) b cs t := by
  rw [Blk, Below.heap_alloc w o b h.lt]; exact h
theorem Blk.drew {w : World} {b : Nat} {cs : List Value} {t : TypeId} (h : Blk w b cs t) : Blk w.drew b cs t := h
theorem Blk.drewN {w : World} {b : Nat} {cs : List Value} {t : TypeId} (h : Blk w b cs t) (n : Nat) : Blk (w.drewN n) b cs t := h
theorem Blk.new (w : World) (cs : List Value) (t : TypeId) : Blk (w.alloc (.cells cs.toArray t)) w.heap.size cs t := heap_alloc_new w _
theorem Blk.same {w w' : World} {b : Nat} {cs : List Value} {t : TypeId} (h : Blk w b cs t) (e : w'.heap[b]? = w.heap[b]?) : Blk w' b cs t := e.trans h
theorem Blk.row {w : World} {b : Nat} {cs : List Value} {t : TypeId} (h : Blk w b cs t) (ds : List Value) : Blk (w.setRow b ds.toArray) b ds t := setRow_heap w b _ _ t _ h
theorem Blk.row_other {w : World} {b : Nat} {cs : List Value} {t : TypeId} (h : Blk w b cs t) {g : Nat} (hg : b ≠ g) (ds : Array Value) : Blk (w.setRow g ds) b cs t := (setRow_other w g b ds hg).trans h
theorem Blk.cs {w : World} {b : Nat} {cs ds : List Value} {t : TypeId} (h : Blk w b cs t) (e : cs = ds) : Blk w b ds t := e ▸ h

/-- w' is w, with new blocks, draws, and writes to blocks that S allows. -/
structure Mod (S : Nat → Prop) (w w' : World) : Prop where
  os : w'.os = w.os
  tape : w'.tape = w.tape
  output : w'.output = w.output
  size : w.heap.size ≤ w'.heap.size
  block : ∀ k, k < w.heap.size → ¬ S k → w'.heap[k]? = w.heap[k]?

/-- nothing old is written -/
def none_ : Nat → Prop := fun _ => False
/-- block b alone -/
def only (b : Nat) : Nat → Prop := fun k => k = b
theorem only_self (b : Nat) : only b b := rfl
theorem not_only {a b : Nat} (h : a ≠ b) : ¬ only b a := h

variable {S T : Nat → Prop} {w w1 w2 : World}
theorem Mod.refl (S : Nat → Prop) (w : World) : Mod S w w := ⟨rfl, rfl, rfl, Nat.le_refl _, fun _ _ _ => rfl⟩
theorem Mod.trans (h : Mod S w w1) (k : Mod T w1 w2) (hT : ∀ k, k < w.heap.size → T k → S k) : Mod S w w2 :=
  ⟨k.os.trans h.os, k.tape.trans h.tape, k.output.trans h.output, Nat.le_trans h.size k.size,
   fun i hi hn => (k.block i (Nat.lt_of_lt_of_le hi h.size) (fun t => hn (hT i hi t))).trans (h.block i hi hn)⟩
theorem Mod.mono (h : Mod T w w1) (hT : ∀ k, k < w.heap.size → T k → S k) : Mod S w w1 := (Mod.refl S w).trans h hT
theorem Mod.drew (h : Mod S w w1) : Mod S w w1.drew := ⟨h.os, h.tape, h.output, h.size, h.block⟩
theorem Mod.drewN (h : Mod S w w1) (n : Nat) : Mod S w (w1.drewN n) := ⟨h.os, h.tape, h.output, h.size, h.block⟩
theorem Mod.alloc (h : Mod S w w1) (o : Obj) : Mod S w (w1.alloc o) :=
  h.trans (T := none_) ⟨rfl, rfl, rfl, by simp, fun k hk _ => Below.heap_alloc _ _ _ hk⟩ (fun _ _ t => t.elim)
theorem Mod.setCell (h : Mod S w w1) {p : Addr} (hp : p.block < w.heap.size → S p.block) (u : Value) : Mod S w (w1.setCell p u) :=
  h.trans (T := (· = p.block)) ⟨rfl, rfl, rfl, by simp [World.setCell], fun k _ hn => heap_setCell_other _ _ _ _ hn⟩ (fun k hk e => by subst e; exact hp hk)
theorem Mod.setRow (h : Mod S w w1) {g : Nat} (hp : g < w.heap.size → S g) (ds : Array Value) : Mod S w (w1.setRow g ds) :=
  h.trans (T := (· = g)) ⟨rfl, rfl, rfl, by simp [World.setRow], fun k _ hn => setRow_other _ _ _ _ hn⟩ (fun k hk e => by subst e; exact hp hk)
theorem Mod.of_same (h : w = w1) : Mod S w w1 := h ▸ Mod.refl S w
theorem Mod.blk (h : Mod S w w1) {b : Nat} {cs : List Value} {t : TypeId} (hb : Blk w b cs t) (hn : ¬ S b) : Blk w1 b cs t := hb.same (h.block b hb.lt hn)
theorem Mod.cell (h : Mod S w w1) {p : Addr} (hp : p.block < w.heap.size) (hn : ¬ S p.block) : w1.cell? p = w.cell? p := World.cell?_of_block (h.block _ hp hn)
theorem Mod.cellS (h : Mod S w w1) {p : Addr} {v : Value} (hv : w.cell? p = some v) (hn : ¬ S p.block) : w1.cell? p = some v := by
  rw [h.cell (World.block_lt_of_cell? _ _ hv) hn]; exact hv
theorem Mod.below (h : Mod none_ w w1) : Below w.heap.size w w1 := ⟨h.os, h.tape, h.output, h.size, fun k hk => h.block k hk (fun t => t)⟩
theorem Mod.of_below (h : Below w.heap.size w w1) : Mod S w w1 := ⟨h.os, h.tape, h.output, h.size, fun k hk _ => h.block k hk⟩
theorem Mod.grown (h : w.grownBy w1 none) : Mod S w w1 := ⟨h.os, h.tape, h.output, h.size, fun k hk _ => h.block k hk (by simp)⟩
theorem Mod.grownBy {r : Option Nat} (h : w.grownBy w1 r) (hr : ∀ k, k < w.heap.size → r = some k → S k) : Mod S w w1 :=
  ⟨h.os, h.tape, h.output, h.size, fun k hk hn => h.block k hk (fun e => hn (hr k hk e.symm))⟩

/-- slicing an array in memory, its elements one cell each -/
theorem sliceAt_l {P : Program} (t e : TypeId) (n : Nat) (ht : P.underlying t = some (.array n e)) (he : (P.info? e).map (·.size) = some 1) (b off l : Nat) (v : Int) (hv : v = l) (hl : l < n) (w : World) :
    (Instr.sliceAt t (.pointer (some ⟨b, off, none⟩)) (some (.int .i64 v)) none none).run P w = .ok (.slice (some ⟨b, off + l, none⟩) (n - l) (n - l)) w := by
  subst hv
  have ha : P.arrayLen t = n := by simp [Program.arrayLen, ht]
  have hel : P.elem t = e := by simp [Program.elem, ht]
  rw [run_sliceAt_array_l w t ⟨b, off, none⟩ (by rw [ha, hel]; exact ht) .i64 l (by omega) (by rw [ha]; omega), hel, ha]
  cases hq : P.info? e with
  | none => simp [hq] at he
  | some i =>
    have hs : i.size = 1 := by simpa [hq] using he
    have : ¬ n = l := by omega
    simp [sizeOf, typeInfo, hq, hs, Result.andThen, slicedAt, this, Addr.add]
    try (intro h; simp [h])
theorem sliceAt_h {P : Program} (t e : TypeId) (n : Nat) (ht : P.underlying t = some (.array n e)) (he : (P.info? e).map (·.size) = some 1) (b off h : Nat) (v : Int) (hv : v = h) (hl : h ≤ n) (w : World) :
    (Instr.sliceAt t (.pointer (some ⟨b, off, none⟩)) none (some (.int .i64 v)) none).run P w = .ok (.slice (some ⟨b, off, none⟩) h n) w := by
  subst hv
  have ha : P.arrayLen t = n := by simp [Program.arrayLen, ht]
  have hel : P.elem t = e := by simp [Program.elem, ht]
  rw [run_sliceAt_array_h w t ⟨b, off, none⟩ (by rw [ha, hel]; exact ht) .i64 h (by omega) (by rw [ha]; omega), hel, ha]
  cases hq : P.info? e with
  | none => simp [hq] at he
  | some i =>
    have hs : i.size = 1 := by simpa [hq] using he
    simp [sizeOf, typeInfo, hq, hs, Result.andThen, slicedAt, Addr.add]

theorem quiet_add {P : Program} {f : FuncId} {args : Array Value} {w : World} {a n : Nat} {v : Value}
    (h : Calls P f args (w.drewN (a + n)) fun e w' => e = .returned v ∧ ∃ m, w' = (w.drewN (a + n)).drewN m) :
    Calls P f args (w.drewN (a + n)) fun e w'' => e = .returned v ∧ ∃ m, w'' = w.drewN (a + m) :=
  h.mono fun _ _ ⟨he, m, hm⟩ => ⟨he, n + m, by rw [hm, World.drewN_drewN, Nat.add_assoc]⟩
theorem quiet_add_left {P : Program} {f : FuncId} {args : Array Value} {w : World} {a n : Nat} {v : Value}
    (h : Calls P f args (w.drewN (a + n)) fun e w' => e = .returned v ∧ w.drewN (a + n) = w') :
    Calls P f args (w.drewN (a + n)) fun e w'' => e = .returned v ∧ ∃ m, w'' = w.drewN (a + m) :=
  h.mono fun _ _ ⟨he, hm⟩ => ⟨he, n, hm.symm⟩
theorem quiet_left {P : Program} {f : FuncId} {args : Array Value} {w : World} {n : Nat} {v : Value}
    (h : Calls P f args (w.drewN n) fun e w' => e = .returned v ∧ w.drewN n = w') : Calls P f args (w.drewN n) fun e w'' => e = .returned v ∧ ∃ m, w'' = w.drewN m :=
  h.mono fun _ _ ⟨he, hm⟩ => ⟨he, n, hm.symm⟩

/-- the builtin copy as one step of a region that draws: at least one cell goes over -/
theorem step_copy_set {P : Program} {ops : Array Oper} {o : Oper} {a : Act} {w : World} {K : Act → World → Prop} {Q : Exit → Act → World → Prop} {E : Prop} (hgd : o.guard = none) (d s : Operand) (dT sT : TypeId)
    (ho : o.op = .call { callee := .builtin .copy, args := #[d, s], argTypes := #[dT, sT] }) (elem : TypeId) (hu : P.underlying dT = some (.slice elem)) (hsz : (P.info? elem).map (·.size) = some 1)
    (g off dLen dCap : Nat) (ad : Addr) (sLen sCap : Nat) (hd : a.eval d = .slice (some ⟨g, off, none⟩) dLen dCap) (hs : a.eval s = .slice (some ad) sLen sCap)
    (cur : List Value) (t : TypeId) (hg : Blk w g cur t) (cs : List Value) (hn : cs.length = Nat.min sLen dLen)
    (hsrc : ∀ j v, cs[j]? = some v → w.cell? (ad.add j) = some v) (hfit : off + cs.length ≤ cur.length) (h1 : ∀ v ∈ cs, v.oneCell' = true)
    (h : K (a.put o.dst (goInt cs.length)) (w.setRow g (splice cur off cs).toArray)) :
    if Region.wanted o (yielded ops a.tmps) = true then Oper.wp P o a w K Q else E := by
  have hw : Region.wanted o (yielded ops a.tmps) = true := by simp [Region.wanted, hgd]
  rw [if_pos hw]
  have hrun := run_copy_row (P := P) w dT sT o.type elem g off dLen dCap ad sLen sCap cur.toArray t cs hu hsz hg hn hsrc (by simpa using hfit) h1
  unfold Oper.wp
  simp [execOp, ho, resolve, invoke, builtin, hd, hs, hrun, Result.andThen]
  exact h

theorem Blk.src {w : World} {b : Nat} {cs : List Value} {t : TypeId} (h : Blk w b cs t) (off n : Nat) (j : Nat) (v : Value) (hj : ((cs.drop off).take n)[j]? = some v) : w.cell? ((⟨b, off, none⟩ : Addr).add j) = some v := by
  have e : (⟨b, off, none⟩ : Addr).add j = ⟨b, off + j, none⟩ := by unfold Addr.add; split <;> simp_all
  rw [e]
  refine h.cell ?_
  rw [List.getElem?_take] at hj
  split at hj
  · simpa using hj
  · cases hj
/-- copy between two known rows, as one step of a region that draws -/
theorem step_copy_blk {P : Program} {ops : Array Oper} {o : Oper} {a : Act} {w : World} {K : Act → World → Prop} {Q : Exit → Act → World → Prop} {E : Prop} (hgd : o.guard = none) (d s : Operand) (dT sT : TypeId)
    (ho : o.op = .call { callee := .builtin .copy, args := #[d, s], argTypes := #[dT, sT] }) (elem : TypeId) (hu : P.underlying dT = some (.slice elem)) (hsz : (P.info? elem).map (·.size) = some 1)
    (g off dLen dCap gs offs sLen sCap : Nat) (hd : a.eval d = .slice (some ⟨g, off, none⟩) dLen dCap) (hs : a.eval s = .slice (some ⟨gs, offs, none⟩) sLen sCap)
    (cur : List Value) (t : TypeId) (hg : Blk w g cur t) (curs : List Value) (ts : TypeId) (hgs : Blk w gs curs ts) (n : Nat) (hn : n = Nat.min sLen dLen)
    (hfit : off + n ≤ cur.length) (hfits : offs + n ≤ curs.length) (h1 : ∀ v ∈ curs, v.oneCell' = true)
    (h : K (a.put o.dst (goInt n)) (w.setRow g (splice cur off ((curs.drop offs).take n)).toArray)) :
    if Region.wanted o (yielded ops a.tmps) = true then Oper.wp P o a w K Q else E := by
  have hl : ((curs.drop offs).take n).length = n := by simp; omega
  refine step_copy_set hgd d s dT sT ho elem hu hsz g off dLen dCap ⟨gs, offs, none⟩ sLen sCap hd hs cur t hg ((curs.drop offs).take n) (by rw [hl, hn]) (hgs.src offs n) (by rw [hl]; exact hfit) (fun v hv => h1 v (List.mem_of_mem_drop (List.mem_of_mem_take hv))) ?_
  rw [hl]; exact h

/-- .. the number of cells under a name of its own -/
theorem step_copy_n {P : Program} {ops : Array Oper} {o : Oper} {a : Act} {w : World} {K : Act → World → Prop} {Q : Exit → Act → World → Prop} {E : Prop} (hgd : o.guard = none) (d s : Operand) (dT sT : TypeId)
    (ho : o.op = .call { callee := .builtin .copy, args := #[d, s], argTypes := #[dT, sT] }) (elem : TypeId) (hu : P.underlying dT = some (.slice elem)) (hsz : (P.info? elem).map (·.size) = some 1)
    (g off dLen dCap : Nat) (ad : Addr) (sLen sCap : Nat) (hd : a.eval d = .slice (some ⟨g, off, none⟩) dLen dCap) (hs : a.eval s = .slice (some ad) sLen sCap)
    (cur : List Value) (t : TypeId) (hg : Blk w g cur t) (cs : List Value) (n : Nat) (hcs : cs.length = n) (hn : n = Nat.min sLen dLen)
    (hsrc : ∀ j v, cs[j]? = some v → w.cell? (ad.add j) = some v) (hfit : off + n ≤ cur.length) (h1 : ∀ v ∈ cs, v.oneCell' = true)
    (h : K (a.put o.dst (goInt n)) (w.setRow g (splice cur off cs).toArray)) :
    if Region.wanted o (yielded ops a.tmps) = true then Oper.wp P o a w K Q else E := by
  subst hcs
  exact step_copy_set hgd d s dT sT ho elem hu hsz g off dLen dCap ad sLen sCap hd hs cur t hg cs hn hsrc hfit h1 h

/-- xs[k:] of a slice whose elements are one cell each -/
theorem slice_from {P : Program} (t e : TypeId) (ht : P.underlying t = some (.slice e)) (he : (P.info? e).map (·.size) = some 1) (b off n c k : Nat) (hk : k ≤ n) (hc : n ≤ c) :
    ∃ a2, (0 < n - k → a2 = some ⟨b, off + k, none⟩) ∧ ∀ w, (Instr.slice t (.slice (some ⟨b, off, none⟩) n c) (some (.int .i64 (k : Int))) none none).run P w = .ok (.slice a2 (n - k) (c - k)) w := by
  refine ⟨if c = k then some ⟨b, off, none⟩ else some ⟨b, off + k, none⟩, fun h => by rw [if_neg (by omega)], fun w => ?_⟩
  have hel : P.elem t = e := by simp [Program.elem, ht]
  rw [run_slice_l w t (some ⟨b, off, none⟩) n c (by rw [hel]; exact ht) .i64 k (by omega) (by omega), hel]
  cases hq : P.info? e with
  | none => simp [hq] at he
  | some i =>
    have hs : i.size = 1 := by simpa [hq] using he
    have hz : (sizeOf e).run P w = .ok 1 w := by simp [sizeOf, typeInfo, hq, hs]
    rw [hz]
    simp only [Result.andThen, sliced, Int.toNat_natCast, Nat.mul_one, Option.map_some]
    by_cases h0 : k = 0
    · subst h0; simp [Addr.add]
    · simp only [Addr.add, if_neg h0]
def sliceLen : Value → Nat | .slice _ n _ => n | _ => 0

/-- a whole value stored into a block known whole; the world behind it is a variable -/
theorem wpList_store_blk {P : Program} {ops : Array Oper} {rest : List Oper} {o : Oper} {a : Act} {w : World} {Q : Exit → Act → World → Prop} (hgd : o.guard = none) (ty : TypeId) (x y : Operand) (ho : o.op = .store ty x y)
    (g : Nat) (cells : List Value) (hx : a.eval x = .pointer (some ⟨g, 0, none⟩)) (hy : a.eval y = .agg cells.toArray)
    (t : TypeId) (old : List Value) (hg : Blk w g old t) (hi : (P.info? ty).map (·.size) = some cells.length)
    (hold : old.length = cells.length) (h1 : ∀ v ∈ cells, v.oneCell' = true)
    (h : ∀ w', Blk w' g cells t → Mod (only g) w w' → w'.heap.size = w.heap.size → wpList P ops Q rest (a.put o.dst undef) w') : wpList P ops Q (o :: rest) a w :=
  wpList_store_row hgd ty x y ho g cells.toArray hx hy t old.toArray hg (by simpa using hi) (by simpa using hold) (all_oneCell_toArray h1)
    (h _ (hg.row cells) ((Mod.refl _ _).setRow (fun _ => only_self g) _) (by simp))
theorem wpList_load_blk {P : Program} {ops : Array Oper} {rest : List Oper} {o : Oper} {a : Act} {w : World} {Q : Exit → Act → World → Prop} (hgd : o.guard = none) (ty : TypeId) (x : Operand) (ho : o.op = .load ty x)
    (g : Nat) (hx : a.eval x = .pointer (some ⟨g, 0, none⟩)) (t : TypeId) (cs : List Value) (d : TypeDesc) (hg : Blk w g cs t)
    (hu : P.underlying ty = some d) (hd : (match d with | .struct _ | .array _ _ => true | _ => false) = true) (hi : (P.info? ty).map (·.size) = some cs.length)
    (h : wpList P ops Q rest (a.put o.dst (.agg cs.toArray)) w) : wpList P ops Q (o :: rest) a w :=
  wpList_load_row hgd ty x ho g hx t cs.toArray (0, 0) d hg hu hd (by simpa using hi) h
/-- block made last, its cells an array of whatever spelling -/
theorem Blk.newA (w : World) (cs : Array Value) (t : TypeId) : Blk (w.alloc (.cells cs t)) w.heap.size cs.toList t := by
  have := heap_alloc_new w (.cells cs t)
  simpa [Blk] using this
theorem Blk.newA2 (w : World) (o : Obj) (cs : Array Value) (t : TypeId) : Blk ((w.alloc o).alloc (.cells cs t)) (w.heap.size + 1) cs.toList t := by
  have := heap_alloc2_new w o (.cells cs t)
  simpa [Blk] using this

/-- a whole value stored into the block that was made last -/
theorem wpList_store_new {P : Program} {ops : Array Oper} {rest : List Oper} {o : Oper} {a : Act} {w : World} {Q : Exit → Act → World → Prop} (hgd : o.guard = none) (ty : TypeId) (x y : Operand) (ho : o.op = .store ty x y)
    (t : TypeId) (old : Array Value) (cells : List Value) (hx : a.eval x = .pointer (some ⟨w.heap.size, 0, none⟩)) (hy : a.eval y = .agg cells.toArray)
    (hi : (P.info? ty).map (·.size) = some cells.length) (hold : old.size = cells.length) (h1 : ∀ v ∈ cells, v.oneCell' = true)
    (h : ∀ w', Blk w' w.heap.size cells t → Mod none_ w w' → w.heap.size < w'.heap.size → wpList P ops Q rest (a.put o.dst undef) w') : wpList P ops Q (o :: rest) a (w.alloc (.cells old t)) :=
  wpList_store_blk hgd ty x y ho w.heap.size cells hx hy t old.toList (Blk.newA _ _ _) hi (by simpa using hold) h1
    (fun w' hb hm hs => h w' hb (((Mod.refl _ _).alloc _).trans hm (fun k hk e => absurd hk (by rw [show k = w.heap.size from e]; omega))) (by rw [hs]; simp))
end Go.Proofs.YtinjlkceplhibaaDoor
