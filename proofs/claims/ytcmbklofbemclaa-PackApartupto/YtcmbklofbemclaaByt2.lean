/- Rows of bytes of the call's own, or nil; texts appended: which block the new slice owns. -/
import Derived.Test.YtcmbklofbemclaaByt
import Derived.ArgAppend
namespace Go.Proofs.Ytcmbklofbemclaa
open Go.RowKit

/-- v is a slice of the call's own (its block from base on) that holds xs, its room not frozen -/
def OwnC (w : World) (base : Nat) (v : Value) (xs : List Int) : Prop :=
  ∃ g cap, v = .slice (some ⟨g, 0, none⟩) xs.length cap ∧ base ≤ g ∧ g < w.heap.size ∧ xs.length ≤ cap ∧ (∀ j, j < cap → (w.cell? ⟨g, j, none⟩).isSome = true ∧ w.frozen? ⟨g, j, none⟩ = false) ∧ ∀ (j : Nat) u, (Sha.bcells xs)[j]? = some u → w.cell? ⟨g, j, none⟩ = some u
theorem OwnC.modO {S : Nat → Prop} {w w' : World} {base : Nat} {v : Value} {xs : List Int} (h : OwnC w base v xs) (hM : Mod S w w') (hS : ∀ g, v.ownBlock = some g → ¬ S g) : OwnC w' base v xs := by
  obtain ⟨g, cap, rfl, h1, h2, h3, h4, h5⟩ := h
  have hg := hM.block g h2 (hS g rfl)
  refine ⟨g, cap, rfl, h1, Nat.lt_of_lt_of_le h2 hM.size, h3, fun j hj => ?_, fun j u hj => ?_⟩
  · rw [World.cell?_of_block (a := ⟨g, j, none⟩) hg, World.frozen?_of_block (a := ⟨g, j, none⟩) hg]; exact h4 j hj
  · rw [World.cell?_of_block (a := ⟨g, j, none⟩) hg]; exact h5 j u hj
theorem OwnC.own_ge {w : World} {base : Nat} {v : Value} {xs : List Int} (h : OwnC w base v xs) {b : Nat} (e : v.ownBlock = some b) : base ≤ b := by
  obtain ⟨g, cap, rfl, h1, _⟩ := h
  obtain rfl : g = b := Option.some.inj e
  exact h1
theorem OwnC.own_lt {w : World} {base : Nat} {v : Value} {xs : List Int} (h : OwnC w base v xs) {b : Nat} (e : v.ownBlock = some b) : b < w.heap.size := by
  obtain ⟨g, cap, rfl, h1, h2, _⟩ := h
  obtain rfl : g = b := Option.some.inj e
  exact h2
theorem OwnC.bytes {w : World} {base : Nat} {v : Value} {xs : List Int} (h : OwnC w base v xs) (hb : Sha.bytes xs) (hl : xs.length ≤ 140737488355328) : BytesAt w w.heap.size v xs := by
  obtain ⟨g, cap, rfl, h1, h2, h3, h4, h5⟩ := h
  exact ⟨hb, hl, _, _, rfl, h3, (fun h => by cases h), fun _ => ⟨g, 0, rfl, h2, fun j hj => by rw [Nat.zero_add]; exact h5 j _ (bcells_get xs j hj)⟩⟩
theorem Mod.setCells (b : Nat) : ∀ (vs : List Value) (o : Nat) (w : World), Mod (only b) w (w.setCells b o vs)
  | [], _, w => Mod.refl _ w
  | v :: r, o, w => ((Mod.refl (only b) w).setCell (p := ⟨b, o, none⟩) (fun _ => only_self b) v).trans (Mod.setCells b r (o + 1) _) (fun _ _ h => h)
theorem size_setCells (b : Nat) : ∀ (vs : List Value) (o : Nat) (w : World), (w.setCells b o vs).heap.size = w.heap.size
  | [], _, _ => rfl
  | v :: r, o, w => by rw [World.setCells, size_setCells b r]; simp [World.setCell]
theorem ownC_room {w : World} {base g cap : Nat} {xs p : List Int} (h : OwnC w base (.slice (some ⟨g, 0, none⟩) xs.length cap) xs) (hr : xs.length + p.length ≤ cap) :
    OwnC (w.setCells g xs.length (Sha.bcells p)) base (.slice (some ⟨g, 0, none⟩) (xs.length + p.length) cap) (xs ++ p) := by
  obtain ⟨g', cap', e, h1, h2, h3, h4, h5⟩ := h
  simp at e
  obtain ⟨rfl, rfl⟩ := e
  have hl : (Sha.bcells p).length = p.length := by simp [Sha.bcells]
  have hin := World.cell?_setCells_in g (Sha.bcells p) xs.length w (fun j hj => (h4 _ (by omega)).1)
  refine ⟨g, cap, by rw [List.length_append], h1, by rw [size_setCells]; exact h2, by rw [List.length_append]; exact hr, fun j hj => ⟨?_, by rw [World.frozen?_setCells]; exact (h4 j hj).2⟩, fun j u hj => ?_⟩
  · by_cases hj2 : xs.length ≤ j ∧ j < xs.length + p.length
    · have := hin (j - xs.length) (by omega)
      rw [show xs.length + (j - xs.length) = j by omega] at this
      rw [this]; rfl
    · rw [World.cell?_setCells_out _ _ _ _ _ (fun _ _ => by show j < _ ∨ _ ≤ j; omega)]; exact (h4 j hj).1
  · have hjl : j < xs.length + p.length := by have := (List.getElem?_eq_some_iff.1 hj).1; simpa [Sha.bcells] using this
    rw [Sha.bcells, List.map_append] at hj
    by_cases hj2 : j < xs.length
    · rw [List.getElem?_append_left (by simpa using hj2)] at hj
      rw [World.cell?_setCells_out _ _ _ _ _ (fun _ _ => Or.inl hj2)]
      exact h5 j u hj
    · rw [List.getElem?_append_right (by simp; omega), List.length_map] at hj
      have := hin (j - xs.length) (by omega)
      rw [show xs.length + (j - xs.length) = j by omega] at this
      rw [this, ← hj, ← List.getElem?_eq_getElem]; rfl
theorem ownC_new (w : World) (base c : Nat) (xs p : List Int) (T : TypeId) (hc : xs.length + p.length ≤ c) (hb : base ≤ w.heap.size) :
    OwnC (w.drew.alloc (.cells ((Sha.bcells xs).toArray ++ (Sha.bcells p).toArray ++ Builtin.zeroCells (Value.int .u8 0).cells (c - (xs.length + p.length))) T)) base (.slice (some ⟨w.heap.size, 0, none⟩) (xs.length + p.length) c) (xs ++ p) := by
  have hz : (Builtin.zeroCells (Value.int .u8 0).cells (c - (xs.length + p.length))).size = c - (xs.length + p.length) := by rw [size_zeroCells]; simp [Value.cells]
  have hsz : ((Sha.bcells xs).toArray ++ (Sha.bcells p).toArray ++ Builtin.zeroCells (Value.int .u8 0).cells (c - (xs.length + p.length))).size = c := by
    simp only [Array.size_append, List.size_toArray, hz, Sha.bcells, List.length_map]; omega
  refine ⟨w.heap.size, c, by rw [List.length_append], hb, by simp, by rw [List.length_append]; exact hc, fun j hj => ?_, fun j u hj => ?_⟩
  · have e : (⟨w.heap.size, j, none⟩ : Addr) = ⟨w.drew.heap.size, j, none⟩ := rfl
    rw [e, World.cell?_alloc_new, World.frozen?_alloc_new]
    refine ⟨?_, rfl⟩
    rw [Array.getElem?_eq_getElem (by rw [hsz]; exact hj)]; rfl
  · have e : (⟨w.heap.size, j, none⟩ : Addr) = ⟨w.drew.heap.size, j, none⟩ := rfl
    rw [e, World.cell?_alloc_new, ← hj]
    have hjl : j < (Sha.bcells (xs ++ p)).length := (List.getElem?_eq_some_iff.1 hj).1
    have e2 : (Sha.bcells xs).toArray ++ (Sha.bcells p).toArray = (Sha.bcells (xs ++ p)).toArray := by simp [Sha.bcells]
    rw [e2, Array.getElem?_append_left (by simpa using hjl)]
    simp

/-- nil, or a row of the call's own -/
def OwnN (w : World) (base : Nat) (v : Value) (xs : List Int) : Prop := (v = .slice none 0 0 ∧ xs = []) ∨ OwnC w base v xs
theorem ownN_nil (w : World) (base : Nat) : OwnN w base (.slice none 0 0) [] := Or.inl ⟨rfl, rfl⟩
theorem OwnN.form {w : World} {base : Nat} {v : Value} {xs : List Int} (h : OwnN w base v xs) : ∃ a c, v = .slice a xs.length c := by
  rcases h with ⟨rfl, rfl⟩ | ⟨g, cap, e, _⟩
  · exact ⟨none, 0, rfl⟩
  · exact ⟨_, _, e⟩
theorem OwnN.modO {S : Nat → Prop} {w w' : World} {base : Nat} {v : Value} {xs : List Int} (h : OwnN w base v xs) (hM : Mod S w w') (hS : ∀ g, v.ownBlock = some g → ¬ S g) : OwnN w' base v xs := by
  rcases h with h | h
  · exact Or.inl h
  · exact Or.inr (h.modO hM hS)
theorem OwnN.own_ge {w : World} {base : Nat} {v : Value} {xs : List Int} (h : OwnN w base v xs) {b : Nat} (e : v.ownBlock = some b) : base ≤ b := by
  rcases h with ⟨rfl, _⟩ | h
  · cases e
  · exact h.own_ge e
theorem OwnN.own_lt {w : World} {base : Nat} {v : Value} {xs : List Int} (h : OwnN w base v xs) {b : Nat} (e : v.ownBlock = some b) : b < w.heap.size := by
  rcases h with ⟨rfl, _⟩ | h
  · cases e
  · exact h.own_lt e
theorem OwnN.bytes {w : World} {base : Nat} {v : Value} {xs : List Int} (h : OwnN w base v xs) (hb : Sha.bytes xs) (hl : xs.length ≤ 140737488355328) : BytesAt w w.heap.size v xs := by
  rcases h with ⟨rfl, rfl⟩ | h
  · exact bytes_none _ _ _ _ (fun _ => rfl)
  · exact h.bytes hb hl
theorem OwnB.toC {w : World} {base : Nat} {v : Value} {xs : List Int} (h : OwnB w base v xs) : OwnN w base v xs := by
  obtain ⟨h1, h2 | ⟨g, cap, cur, h3, h4, h5, h6, h7, h8, h9⟩⟩ := h
  · exact Or.inl ⟨h2.1, List.eq_nil_of_length_eq_zero h2.2⟩
  · refine Or.inr ⟨g, cap, h3, h4, (Array.getElem?_eq_some_iff.1 h5).1, h6, fun j hj => ⟨?_, frozen_of_row w g j cur _ h5⟩, fun j u hj => ?_⟩
    · rw [cell_of_row w g j cur _ (0, 0) h5]
      rw [Array.getElem?_eq_getElem (by omega)]; rfl
    · rw [cell_of_row w g j cur _ (0, 0) h5, ← hj, ← h9, List.getElem?_take, if_pos, Array.getElem?_toList]
      have := (List.getElem?_eq_some_iff.1 hj).1
      simpa [Sha.bcells] using this
theorem run_append_N (w : World) (ty : TypeId) (base : Nat) (v : Value) (xs : List Int) (hown : OwnN w base v xs) (t : ByteArray) (hlen : xs.length + t.size ≤ 140737488355328) (hbase : base ≤ w.heap.size) :
    ∃ v' w', (Builtin.append_ #[56, 9] ty #[v, .string t]).run Try.prog w = .ok v' w' ∧ OwnN w' base v' (xs ++ num t) ∧ Mod (fun b => v.ownBlock = some b) w w' ∧ (∀ b, v'.ownBlock = some b → v.ownBlock = some b ∨ w.heap.size ≤ b) := by
  obtain ⟨i, hi, hz0, hz1, hz2⟩ := info_parts info_b8
  have hp := length_num t
  have hsc : Lib.strCells t = Sha.bcells (num t) := by simp [Lib.strCells, Sha.bcells, num, nums]
  rcases hown with ⟨rfl, rfl⟩ | hown
  · obtain ⟨v', w', h1, h2, h3, _⟩ := Lib.run_append_own_string (P := Try.prog) w w.heap.size 56 9 ty 5 i under_b28 under_str hi hz0 hz1 hz2 (.slice none 0 0) 0 [] ⟨rfl, Or.inl ⟨rfl, rfl⟩⟩ t (by unfold maxLen; simp at hlen; omega) (by simpa using hlen) (Nat.le_refl _)
    have ho : OwnB w' w.heap.size v' (num t) := by
      unfold OwnB
      rw [hp, ← hsc]
      simpa using h2
    refine ⟨v', w', h1, ?_, Mod.grownBy h3 (fun j _ e => e), fun b hb => Or.inr (ho.own_ge hb)⟩
    rw [List.nil_append]
    rcases ho.toC with h | ⟨g, cap, e1, e2, e3⟩
    · exact Or.inl h
    · exact Or.inr ⟨g, cap, e1, by omega, e3⟩
  · have hlx : (Sha.bcells xs).length = xs.length := by simp [Sha.bcells]
    have hl : (Sha.bcells (num t)).length = t.size := by rw [Sha.bcells, List.length_map, hp]
    have hown' := hown
    obtain ⟨g, cap, rfl, h1, h2, h3, h4, h5⟩ := hown
    by_cases hr : xs.length + t.size ≤ cap
    · have hf := Lib.run_firstCells_string (P := Try.prog) w 1 t
      have hst := run_storeCells_cells (P := Try.prog) g xs.length (Sha.bcells (num t)) 0 w (fun j hj => (h4 _ (by omega)).1) (fun j hj => (h4 _ (by omega)).2) (Sha.one_b _)
      rw [hsc] at hf
      have hrun : (Builtin.append_ #[56, 9] ty #[.slice (some ⟨g, 0, none⟩) xs.length cap, .string t]).run Try.prog w = .ok (.slice (some ⟨g, 0, none⟩) (xs.length + t.size) cap) (w.setCells g xs.length (Sha.bcells (num t))) := by
        simp only [Nat.add_zero] at hst
        simp [Builtin.append_, run_underlying under_b28, run_underlying under_str, sizeOf, typeInfo, hi, hz1, Builtin.lenOf, hr, hf, Addr.add_lit, hst]
      have := ownC_room hown' (p := num t) (by rw [hp]; exact hr)
      rw [hp] at this
      exact ⟨_, _, hrun, Or.inr this, (Mod.setCells g _ _ w).mono (fun b _ e => by rw [show b = g from e]; rfl), fun b hb => Or.inl hb⟩
    · have hrun := Lib.run_append_grow_string (P := Try.prog) w 56 9 ty 5 i (.int .u8 0) under_b28 under_str hi hz0 ⟨g, 0, none⟩ xs.length cap (Sha.bcells xs) (by rw [hlx, hz1, Nat.mul_one]) (fun j u hj => by rw [Addr.add_mid, Nat.zero_add]; exact h5 j u hj) t (by omega) (by omega) (by rw [hz2]; exact growslice_fits (by omega) (by omega))
      rw [hsc] at hrun
      have := ownC_new w base (grownCap w (xs.length + t.size) cap 5) xs (num t) 5 (by rw [hp]; exact grownCap_ge _ _ _ _) hbase
      rw [hp] at this
      exact ⟨_, _, hrun, Or.inr this, (Mod.refl _ _).drew.alloc _, fun b hb => by obtain rfl : w.heap.size = b := Option.some.inj hb; exact Or.inr (Nat.le_refl _)⟩
theorem step_append_N {ops : Array Oper} {o : Oper} {a : Act} {w : World} {K : Act → World → Prop} {Q : Exit → Act → World → Prop} {E : Prop} (hgd : o.guard = none) (s x : Operand)
    (ho : o.op = .call { callee := .builtin .append, args := #[s, x], argTypes := #[56, 9] }) (base : Nat)
    (v : Value) (xs : List Int) (hs : a.eval s = v) (hown : OwnN w base v xs) (t : ByteArray) (hx : a.eval x = .string t) (hlen : xs.length + t.size ≤ 140737488355328) (hbase : base ≤ w.heap.size)
    (h : ∀ v' w', OwnN w' base v' (xs ++ num t) → Mod (fun b => v.ownBlock = some b) w w' → (∀ b, v'.ownBlock = some b → v.ownBlock = some b ∨ w.heap.size ≤ b) → K (a.put o.dst v') w') :
    if Region.wanted o (yielded ops a.tmps) = true then Oper.wp Try.prog o a w K Q else E := by
  have hw : Region.wanted o (yielded ops a.tmps) = true := by simp [Region.wanted, hgd]
  rw [if_pos hw]
  obtain ⟨v', w', hr, h2, h3, h4⟩ := run_append_N w o.type base v xs hown t hlen hbase
  unfold Oper.wp execOp
  simp only [ho, resolve, invoke, builtin, Sem.run_bind, Sem.run_pure, Result.andThen_ok, List.map_toArray, List.map_cons, List.map_nil, hs, hx, hr]
  exact h v' w' h2 h3 h4
end Go.Proofs.Ytcmbklofbemclaa
