/- Rows of the call's own known by their cells (whatever is marked behind them); bytes and texts appended to them. -/
import Derived.Test.YtlndgnlkfhlekaaDoorMacHL
import Derived.ArgAppend
import Derived.Lib.AppendStr
namespace Go.Proofs.YtlndgnlkfhlekaaDoor
open Go.RowKit

/-- v is a slice of the call's own (its block from base on) that holds xs, its room not frozen -/
def OwnC (w : World) (base : Nat) (v : Value) (xs : List Int) : Prop :=
  ∃ g cap, v = .slice (some ⟨g, 0, none⟩) xs.length cap ∧ base ≤ g ∧ g < w.heap.size ∧ xs.length ≤ cap ∧ (∀ j, j < cap → (w.cell? ⟨g, j, none⟩).isSome = true ∧ w.frozen? ⟨g, j, none⟩ = false) ∧ ∀ (j : Nat) u, (Sha.bcells xs)[j]? = some u → w.cell? ⟨g, j, none⟩ = some u

theorem OwnC.modO {S : Nat → Prop} {w w' : World} {base : Nat} {v : Value} {xs : List Int} (h : OwnC w base v xs) (hM : Mod S w w') (hS : ∀ g, v.ownBlock = some g → ¬ S g) : OwnC w' base v xs := by
  obtain ⟨g, cap, rfl, h1, h2, h3, h4, h5⟩ := h
  have hg := hM.block g h2 (hS g rfl)
  refine ⟨g, cap, rfl, h1, Nat.lt_of_lt_of_le h2 hM.size, h3, fun j hj => ?_, fun j u hj => ?_⟩
  · rw [World.cell?_of_block (a := ⟨g, j, none⟩) hg, World.frozen?_of_block (a := ⟨g, j, none⟩) hg]; exact h4 j hj
  · rw [World.cell?_of_block (a := ⟨g, j, none⟩) hg]; exact h5 j u hj
theorem OwnC.own_ge {w : World} {base : Nat} {v : Value} {xs : List Int} (h : OwnC w base v xs) {b : Nat} (e : v.ownBlock = some b) : base ≤ b := by
  obtain ⟨g, cap, rfl, h1, _⟩ := h
  obtain rfl : g = b := Option.some.inj e
  exact h1
theorem OwnC.own_lt {w : World} {base : Nat} {v : Value} {xs : List Int} (h : OwnC w base v xs) {b : Nat} (e : v.ownBlock = some b) : b < w.heap.size := by
  obtain ⟨g, cap, rfl, h1, h2, _⟩ := h
  obtain rfl : g = b := Option.some.inj e
  exact h2
theorem bcells_get (xs : List Int) (j : Nat) (h : j < xs.length) : (Sha.bcells xs)[j]? = some (.int .u8 (Sha.g xs j)) := by
  rw [Sha.bcells, List.getElem?_map, Sha.g, List.getElem?_eq_getElem h]; rfl
theorem OwnC.bytes {w : World} {base : Nat} {v : Value} {xs : List Int} (h : OwnC w base v xs) (hb : Sha.bytes xs) (hl : xs.length ≤ 140737488355328) : BytesAt w w.heap.size v xs := by
  obtain ⟨g, cap, rfl, h1, h2, h3, h4, h5⟩ := h
  exact ⟨hb, hl, _, _, rfl, h3, (fun h => by cases h), fun _ => ⟨g, 0, rfl, h2, fun j hj => by rw [Nat.zero_add]; exact h5 j _ (bcells_get xs j hj)⟩⟩

theorem Mod.setCells (b : Nat) : ∀ (vs : List Value) (o : Nat) (w : World), Mod (only b) w (w.setCells b o vs)
  | [], _, w => Mod.refl _ w
  | v :: r, o, w => ((Mod.refl (only b) w).setCell (p := ⟨b, o, none⟩) (fun _ => only_self b) v).trans (Mod.setCells b r (o + 1) _) (fun _ _ h => h)
theorem size_setCells (b : Nat) : ∀ (vs : List Value) (o : Nat) (w : World), (w.setCells b o vs).heap.size = w.heap.size
  | [], _, _ => rfl
  | v :: r, o, w => by rw [World.setCells, size_setCells b r]; simp [World.setCell]

theorem ownC_room {w : World} {base g cap : Nat} {xs p : List Int} (h : OwnC w base (.slice (some ⟨g, 0, none⟩) xs.length cap) xs) (hr : xs.length + p.length ≤ cap) :
    OwnC (w.setCells g xs.length (Sha.bcells p)) base (.slice (some ⟨g, 0, none⟩) (xs.length + p.length) cap) (xs ++ p) := by
  obtain ⟨g', cap', e, h1, h2, h3, h4, h5⟩ := h
  simp at e
  obtain ⟨rfl, rfl⟩ := e
  have hl : (Sha.bcells p).length = p.length := by simp [Sha.bcells]
  have hin := World.cell?_setCells_in g (Sha.bcells p) xs.length w (fun j hj => (h4 _ (by omega)).1)
  refine ⟨g, cap, by rw [List.length_append], h1, by rw [size_setCells]; exact h2, by rw [List.length_append]; exact hr, fun j hj => ⟨?_, by rw [World.frozen?_setCells]; exact (h4 j hj).2⟩, fun j u hj => ?_⟩
  · by_cases hj2 : xs.length ≤ j ∧ j < xs.length + p.length
    · have := hin (j - xs.length) (by omega)
      rw [show xs.length + (j - xs.length) = j by omega] at this
      rw [this]; rfl
    · rw [World.cell?_setCells_out _ _ _ _ _ (fun _ _ => by show j < _ ∨ _ ≤ j; omega)]; exact (h4 j hj).1
  · have hjl : j < xs.length + p.length := by have := (List.getElem?_eq_some_iff.1 hj).1; simpa [Sha.bcells] using this
    rw [Sha.bcells, List.map_append] at hj
    by_cases hj2 : j < xs.length
    · rw [List.getElem?_append_left (by simpa using hj2)] at hj
      rw [World.cell?_setCells_out _ _ _ _ _ (fun _ _ => Or.inl hj2)]
      exact h5 j u hj
    · rw [List.getElem?_append_right (by simp; omega), List.length_map] at hj
      have := hin (j - xs.length) (by omega)
      rw [show xs.length + (j - xs.length) = j by omega] at this
      rw [this, ← hj, ← List.getElem?_eq_getElem]; rfl
theorem ownC_new (w : World) (base c : Nat) (xs p : List Int) (T : TypeId) (hc : xs.length + p.length ≤ c) (hb : base ≤ w.heap.size) :
    OwnC (w.drew.alloc (.cells ((Sha.bcells xs).toArray ++ (Sha.bcells p).toArray ++ Builtin.zeroCells (Value.int .u8 0).cells (c - (xs.length + p.length))) T)) base (.slice (some ⟨w.heap.size, 0, none⟩) (xs.length + p.length) c) (xs ++ p) := by
  have hz : (Builtin.zeroCells (Value.int .u8 0).cells (c - (xs.length + p.length))).size = c - (xs.length + p.length) := by rw [size_zeroCells]; simp [Value.cells]
  have hsz : ((Sha.bcells xs).toArray ++ (Sha.bcells p).toArray ++ Builtin.zeroCells (Value.int .u8 0).cells (c - (xs.length + p.length))).size = c := by
    simp only [Array.size_append, List.size_toArray, hz, Sha.bcells, List.length_map]; omega
  refine ⟨w.heap.size, c, by rw [List.length_append], hb, by simp, by rw [List.length_append]; exact hc, fun j hj => ?_, fun j u hj => ?_⟩
  · have e : (⟨w.heap.size, j, none⟩ : Addr) = ⟨w.drew.heap.size, j, none⟩ := rfl
    rw [e, World.cell?_alloc_new, World.frozen?_alloc_new]
    refine ⟨?_, rfl⟩
    rw [Array.getElem?_eq_getElem (by rw [hsz]; exact hj)]; rfl
  · have e : (⟨w.heap.size, j, none⟩ : Addr) = ⟨w.drew.heap.size, j, none⟩ := rfl
    rw [e, World.cell?_alloc_new, ← hj]
    have hjl : j < (Sha.bcells (xs ++ p)).length := (List.getElem?_eq_some_iff.1 hj).1
    have e2 : (Sha.bcells xs).toArray ++ (Sha.bcells p).toArray = (Sha.bcells (xs ++ p)).toArray := by simp [Sha.bcells]
    rw [e2, Array.getElem?_append_left (by simpa using hjl)]
    simp

section
variable {ops : Array Oper} {rest : List Oper} {o : Oper} {a : Act} {w : World} {Q : Exit → Act → World → Prop}
theorem wpList_append_C (hgd : o.guard = none) (s x : Operand)
    (ho : o.op = .call { callee := .builtin .append, args := #[s, x], argTypes := #[63, 63] }) (base : Nat)
    (v : Value) (xs : List Int) (hs : a.eval s = v) (hown : OwnC w base v xs) (u : Value) (p : List Int) (hx : a.eval x = u) (B : Nat) (hu : BytesAt w B u p) (hp : 0 < p.length)
    (hlen : xs.length + p.length ≤ 140737488355328) (hbase : base ≤ w.heap.size)
    (h : ∀ v' w', OwnC w' base v' (xs ++ p) → Mod (fun b => v.ownBlock = some b) w w' → wpList Tryd.prog ops Q rest (a.put o.dst v') w') : wpList Tryd.prog ops Q (o :: rest) a w := by
  refine wpList_plain hgd fun K hK => ?_
  obtain ⟨i, hi, hz0, hz1, hz2⟩ := info_parts info_b8
  obtain ⟨hb1, hb2, ad, c, rfl, hb4, hb0, hb5⟩ := hu
  obtain ⟨pb, po, rfl, h7, h8⟩ := hb5 hp
  have hl : (Sha.bcells p).length = p.length := by simp [Sha.bcells]
  have hlx : (Sha.bcells xs).length = xs.length := by simp [Sha.bcells]
  have hsrc := bytes_src (w := w) (B := B) (t := p) ⟨hb1, hb2, _, _, rfl, hb4, hb0, hb5⟩
  have hown' := hown
  obtain ⟨g, cap, rfl, h1, h2, h3, h4, h5⟩ := hown
  unfold Oper.wp execOp
  by_cases hr : xs.length + p.length ≤ cap
  · have hrun := run_append_room_cells (P := Tryd.prog) w 63 o.type 5 i under_b28 hi g 0 xs.length cap ⟨pb, po, none⟩ p.length c (Sha.bcells p) (by rw [hl, hz1, Nat.mul_one]) hsrc (Sha.one_b _) hr
      (fun j hj => by rw [hz1, Nat.mul_one, Nat.zero_add]; exact (h4 _ (by omega)).1) (fun j hj => by rw [hz1, Nat.mul_one, Nat.zero_add]; exact (h4 _ (by omega)).2)
    rw [hz1, Nat.mul_one, Nat.zero_add] at hrun
    simp only [ho, resolve, invoke, builtin, Sem.run_bind, Sem.run_pure, Result.andThen_ok, List.map_toArray, List.map_cons, List.map_nil, hs, hx, hrun]
    exact hK _ _ (h _ _ (ownC_room hown' hr) ((Mod.setCells g _ _ w).mono (fun b _ e => by rw [show b = g from e]; rfl)))
  · have hrun := run_append_grow (P := Tryd.prog) w 63 o.type 5 i (.int .u8 0) under_b28 hi hz0 ⟨g, 0, none⟩ xs.length cap (Sha.bcells xs) (by rw [hlx, hz1, Nat.mul_one]) (fun j u hj => by rw [Addr.add_mid, Nat.zero_add]; exact h5 j u hj) ⟨pb, po, none⟩ p.length c (Sha.bcells p) (by rw [hl, hz1, Nat.mul_one]) hsrc (by omega) (by omega) (by rw [hz2]; exact growslice_fits (by omega) (by omega))
    simp only [ho, resolve, invoke, builtin, Sem.run_bind, Sem.run_pure, Result.andThen_ok, List.map_toArray, List.map_cons, List.map_nil, hs, hx, hrun]
    exact hK _ _ (h _ _ (ownC_new w base _ xs p _ (grownCap_ge _ _ _ _) hbase) ((Mod.refl _ _).drew.alloc _))
theorem wpList_append_CS (hgd : o.guard = none) (s x : Operand)
    (ho : o.op = .call { callee := .builtin .append, args := #[s, x], argTypes := #[63, 9] }) (base : Nat)
    (v : Value) (xs : List Int) (hs : a.eval s = v) (hown : OwnC w base v xs) (t : ByteArray) (hx : a.eval x = .string t)
    (hlen : xs.length + t.size ≤ 140737488355328) (hbase : base ≤ w.heap.size)
    (h : ∀ v' w', OwnC w' base v' (xs ++ num t) → Mod (fun b => v.ownBlock = some b) w w' → wpList Tryd.prog ops Q rest (a.put o.dst v') w') : wpList Tryd.prog ops Q (o :: rest) a w := by
  refine wpList_plain hgd fun K hK => ?_
  obtain ⟨i, hi, hz0, hz1, hz2⟩ := info_parts info_b8
  have hp := length_num t
  have hsc : Lib.strCells t = Sha.bcells (num t) := by simp [Lib.strCells, Sha.bcells, num, nums]
  have hlx : (Sha.bcells xs).length = xs.length := by simp [Sha.bcells]
  have hl : (Sha.bcells (num t)).length = t.size := by rw [Sha.bcells, List.length_map, hp]
  have hown' := hown
  obtain ⟨g, cap, rfl, h1, h2, h3, h4, h5⟩ := hown
  unfold Oper.wp execOp
  by_cases hr : xs.length + t.size ≤ cap
  · have hf := Lib.run_firstCells_string (P := Tryd.prog) w 1 t
    have hst := run_storeCells_cells (P := Tryd.prog) g xs.length (Sha.bcells (num t)) 0 w (fun j hj => (h4 _ (by omega)).1) (fun j hj => (h4 _ (by omega)).2) (Sha.one_b _)
    rw [hsc] at hf
    have hrun : (Builtin.append_ #[63, 9] o.type #[.slice (some ⟨g, 0, none⟩) xs.length cap, .string t]).run Tryd.prog w = .ok (.slice (some ⟨g, 0, none⟩) (xs.length + t.size) cap) (w.setCells g xs.length (Sha.bcells (num t))) := by
      simp only [Nat.add_zero] at hst
      simp [Builtin.append_, run_underlying under_b28, run_underlying under_str, sizeOf, typeInfo, hi, hz1, Builtin.lenOf, hr, hf, Addr.add_lit, hst]
    simp only [ho, resolve, invoke, builtin, Sem.run_bind, Sem.run_pure, Result.andThen_ok, List.map_toArray, List.map_cons, List.map_nil, hs, hx, hrun]
    have := ownC_room hown' (p := num t) (by rw [hp]; exact hr)
    rw [hp] at this
    exact hK _ _ (h _ _ this ((Mod.setCells g _ _ w).mono (fun b _ e => by rw [show b = g from e]; rfl)))
  · have hrun := Lib.run_append_grow_string (P := Tryd.prog) w 63 9 o.type 5 i (.int .u8 0) under_b28 under_str hi hz0 ⟨g, 0, none⟩ xs.length cap (Sha.bcells xs) (by rw [hlx, hz1, Nat.mul_one]) (fun j u hj => by rw [Addr.add_mid, Nat.zero_add]; exact h5 j u hj) t (by omega) (by omega) (by rw [hz2]; exact growslice_fits (by omega) (by omega))
    rw [hsc] at hrun
    simp only [ho, resolve, invoke, builtin, Sem.run_bind, Sem.run_pure, Result.andThen_ok, List.map_toArray, List.map_cons, List.map_nil, hs, hx, hrun]
    have := ownC_new w base (grownCap w (xs.length + t.size) cap 5) xs (num t) 5 (by rw [hp]; exact grownCap_ge _ _ _ _) hbase
    rw [hp] at this
    exact hK _ _ (h _ _ this ((Mod.refl _ _).drew.alloc _))
end

/-- '[]byte(s)': a row of the call's own -/
theorem wpList_bytes_ofC {ops : Array Oper} {rest : List Oper} {o : Oper} {a : Act} {w : World} {Q : Exit → Act → World → Prop} (hgd : Region.wanted o (yielded ops a.tmps) = true) (x : Operand) (ho : o.op = .convert 9 63 x)
    (s : ByteArray) (hx : a.eval x = .string s) (base : Nat) (hbase : base ≤ w.heap.size)
    (h : ∀ v w', OwnC w' base v (num s) → Mod none_ w w' → wpList Tryd.prog ops Q rest (a.put o.dst v) w') :
    wpList Tryd.prog ops Q (o :: rest) a w := by
  refine wpList_want hgd fun K hK => ?_
  have hrun := run_bytes_of_string (P := Tryd.prog) w 9 63 5 s under_str under_b28 under_b8
  unfold Oper.wp
  simp only [execOp, ho, hx, Sem.run_bind, hrun, Result.andThen, Sem.run_pure]
  have hcap : s.size ≤ grownCap w s.size 0 5 := grownCap_ge _ _ _ _
  have hp := length_num s
  have hsz : (bytesRow s (grownCap w s.size 0 5)).size = grownCap w s.size 0 5 := by
    have h1 : (bytesRow s (grownCap w s.size 0 5)).size = s.data.size + (grownCap w s.size 0 5 - s.size) := by simp [bytesRow]
    have h2 : s.data.size = s.size := rfl
    omega
  refine hK _ _ (h _ _ ⟨w.heap.size, grownCap w s.size 0 5, by rw [hp], hbase, by simp, by rw [hp]; exact hcap, fun j hj => ?_, fun j u hj => ?_⟩ ((Mod.refl _ _).drew.alloc _))
  · have e : (⟨w.heap.size, j, none⟩ : Addr) = ⟨w.drew.heap.size, j, none⟩ := rfl
    rw [e, World.cell?_alloc_mark, World.frozen?_alloc_mark]
    refine ⟨?_, by simp [hsz]; omega⟩
    rw [Array.getElem?_eq_getElem (by rw [hsz]; exact hj)]; rfl
  · have e : (⟨w.heap.size, j, none⟩ : Addr) = ⟨w.drew.heap.size, j, none⟩ := rfl
    have hjl : j < s.size := by have := (List.getElem?_eq_some_iff.1 hj).1; simpa [Sha.bcells, hp] using this
    rw [e, World.cell?_alloc_mark, bytesRow_at s _ j hjl, ← hj, bcells_get _ _ (by rw [hp]; exact hjl), Sha.g, num, nums, List.getElem?_map, List.getElem?_eq_getElem (by simpa using hjl)]
    rfl
end Go.Proofs.YtlndgnlkfhlekaaDoor
