/- Boards: the document's Parse: what the walk stands on. -/
import Derived.Test.YtinjlkceplhibaaDoorBdRb
import Derived.Test.YtinjlkceplhibaaDoorBdT
namespace Bd
theorem row_flat {W : Nat} : ∀ {K : List (List Int)} (_ : ∀ l ∈ K, l.length = W) {y : Nat} {l : List Int}, K[y]? = some l → row W K.flatten y = l := by
  intro K
  induction K with
  | nil => intro _ y l h; simp at h
  | cons k r ih =>
    intro hK y l h
    have hk : k.length = W := hK k (by simp)
    cases y with
    | zero =>
      obtain rfl := Option.some.inj h
      unfold row
      rw [Nat.zero_mul, List.drop_zero, List.flatten_cons, List.take_left' hk]
    | succ y =>
      have := ih (fun l hl => hK l (by simp [hl])) (y := y) (l := l) (by simpa using h)
      rw [← this]
      unfold row
      rw [List.flatten_cons, Nat.succ_mul, Nat.add_comm (y * W) W, ← List.drop_drop, List.drop_left' hk]
theorem row_set_same {W : Nat} {E : List Int} {y x : Nat} (hx : x < W) (v : Int) : row W (E.set (y * W + x) v) y = (row W E y).set x v := by
  apply List.ext_getElem?
  intro j
  unfold row
  rw [List.getElem?_take, List.getElem?_drop, List.getElem?_set, List.getElem?_set, List.getElem?_take, List.getElem?_drop, List.length_take, List.length_drop]
  by_cases hj : j < W
  · rw [if_pos hj]
    by_cases e : x = j
    · subst e
      by_cases hl : y * W + x < E.length
      · rw [if_pos rfl, if_pos rfl, if_pos hl, if_pos (by omega)]
      · rw [if_pos rfl, if_pos rfl, if_neg hl, if_neg (by omega)]
    · rw [if_neg (by omega), if_neg e, if_pos hj]
  · rw [if_neg hj, if_neg (by omega), if_neg hj]
theorem row_set_other {W : Nat} {E : List Int} {y y' x : Nat} (hx : x < W) (h : y ≠ y') (v : Int) : row W (E.set (y * W + x) v) y' = row W E y' := by
  apply List.ext_getElem?
  intro j
  unfold row
  rw [List.getElem?_take, List.getElem?_drop, List.getElem?_take, List.getElem?_drop]
  by_cases hj : j < W
  · rw [if_pos hj, if_pos hj, List.getElem?_set]
    rw [if_neg]
    intro e
    have h1 : y * W + x = y' * W + j := e
    rcases Nat.lt_or_gt_of_ne h with h2 | h2
    · have h3 : (y + 1) * W ≤ y' * W := Nat.mul_le_mul_right W h2
      rw [Nat.succ_mul] at h3
      omega
    · have h3 : (y' + 1) * W ≤ y * W := Nat.mul_le_mul_right W h2
      rw [Nat.succ_mul] at h3
      omega
  · rw [if_neg hj, if_neg hj]
theorem row_len {W H : Nat} {E : List Int} (h : E.length = W * H) {y : Nat} (hy : y < H) : (row W E y).length = W := by
  unfold row
  rw [List.length_take, List.length_drop, h]
  have h4 : (y + 1) * W ≤ H * W := Nat.mul_le_mul_right W hy
  rw [Nat.succ_mul, Nat.mul_comm H W] at h4
  omega
theorem rim_at {W H y x : Nat} (hx : x < W) : rim W H (y * W + x) ↔ x = 0 ∨ y = 0 ∨ x = W - 1 ∨ y = H - 1 := by
  unfold rim
  have e1 : (y * W + x) % W = x := by rw [Nat.mul_comm, Nat.mul_add_mod]; exact Nat.mod_eq_of_lt hx
  have e2 : (y * W + x) / W = y := by rw [Nat.mul_comm, Nat.mul_add_div (by omega), Nat.div_eq_of_lt hx, Nat.add_zero]
  rw [e1, e2]
theorem spl_nil (l : List Int) : spl l [] = if l = [] then [] else [l] := by rw [spl]
theorem spl_line (l r : List Int) : spl l (10 :: r) = l :: spl [] r := by rw [spl, if_pos rfl]
theorem spl_cell {c : Int} (h : c ≠ 10) (l r : List Int) : spl l (c :: r) = spl (l ++ [kind c]) r := by rw [spl, if_neg h]
theorem ok_cons {c : Int} {r : List Int} : ok (c :: r) ↔ (c = 10 ∨ kind c ≠ 0) ∧ ok r := by
  unfold ok
  constructor
  · exact fun h => ⟨h c (by simp), fun d hd => h d (by simp [hd])⟩
  · rintro ⟨h1, h2⟩ d hd
    rcases List.mem_cons.1 hd with rfl | hd
    · exact h1
    · exact h2 d hd
theorem doc_bad {cs : List Int} (h : ¬ (ok cs ∧ good (spl [] cs))) : read cs = .bad := by rw [read_doc]; unfold doc; rw [if_neg h]
theorem doc_good {cs : List Int} (h1 : ok cs) (h2 : good (spl [] cs)) : read cs = shut ((spl [] cs).headD []).length (spl [] cs).length (spl [] cs).flatten := by rw [read_doc]; unfold doc; rw [if_pos ⟨h1, h2⟩]
end Bd
namespace Go.Proofs.YtinjlkceplhibaaDoor
open Go.RowKit

theorem info_l : (Tryd.prog.info? 88).map (fun i => (i.zero, i.size, i.bytes)) = some (some (.slice none 0 0), 1, 24) := by kernel_rfl
theorem under_ls : Tryd.prog.underlying 92 = some (.slice 88) := by kernel_rfl
/-- lines, each a row of the call's own -/
structure Rows_ (wr : World) (base B : Nat) (vs : List Value) (L : List (List Int)) : Prop where
  len : vs.length = L.length
  row : ∀ (i : Nat) v l, vs[i]? = some v → L[i]? = some l → wr.ownsRow base 21 1 v l.length (i32s l) ∧ ∀ g, v.ownBlock = some g → g < B
  apart : ∀ (i j : Nat) v v', i < j → vs[i]? = some v → vs[j]? = some v' → ∀ g, v.ownBlock = some g → v'.ownBlock ≠ some g
theorem Rows_.mod {S : Nat → Prop} {w w' : World} {base B : Nat} {vs : List Value} {L : List (List Int)} (h : Rows_ w base B vs L) (hM : Mod S w w') (hS : ∀ (i : Nat) v l, vs[i]? = some v → w.ownsRow base 21 1 v l (i32s (L[i]?.getD [])) → ∀ g, v.ownBlock = some g → g < B → ¬ S g) : Rows_ w' base B vs L := by
  refine ⟨h.len, fun i v l hv hl => ⟨Row.modO (h.row i v l hv hl).1 hM (fun g hg => ?_), (h.row i v l hv hl).2⟩, h.apart⟩
  exact hS i v l.length hv (by rw [hl]; exact (h.row i v l hv hl).1) g hg ((h.row i v l hv hl).2 g hg)
theorem Rows_.none {w w' : World} {base B : Nat} {vs : List Value} {L : List (List Int)} (h : Rows_ w base B vs L) (hM : Mod none_ w w') : Rows_ w' base B vs L := h.mod hM (fun _ _ _ _ _ _ _ _ h => h)
/-- rows of unlike elements lie in unlike blocks -/
theorem own_apart {w : World} {base base' : Nat} {e e' : TypeId} {size size' n n' : Nat} {v v' : Value} {xs xs' : List Value} (h : w.ownsRow base e size v n xs) (h' : w.ownsRow base' e' size' v' n' xs') (he : e ≠ e') : ∀ g, v.ownBlock = some g → v'.ownBlock ≠ some g := by
  intro g hg hg'
  obtain ⟨_, h2 | ⟨g', cap, cur, h3, h4, h5, _⟩⟩ := h'
  · rw [h2.1] at hg'; cases hg'
  · rw [h3] at hg'
    obtain rfl : g' = g := Option.some.inj hg'
    exact own_ne h (b := g') (cs := cur.toList) (t := e') (by rw [Blk, Array.toArray_toList]; exact h5) (fun e => he e.symm) g' hg rfl
/-- one line more -/
theorem Rows_.snoc {w : World} {base B B' : Nat} {vs : List Value} {L : List (List Int)} (h : Rows_ w base B vs L) {u : Value} {l : List Int} (hu : w.ownsRow B 21 1 u l.length (i32s l)) (hb : base ≤ B) (hB : B ≤ B') (hB' : ∀ g, u.ownBlock = some g → g < B') : Rows_ w base B' (vs ++ [u]) (L ++ [l]) := by
  have hlen := h.len
  have hsplit : ∀ (i : Nat) v, (vs ++ [u])[i]? = some v → (vs[i]? = some v ∧ i < vs.length) ∨ (i = vs.length ∧ v = u) := by
    intro i v hv
    by_cases hi : i < vs.length
    · rw [List.getElem?_append_left hi] at hv
      exact Or.inl ⟨hv, hi⟩
    · rw [List.getElem?_append_right (by omega)] at hv
      have := (List.getElem?_eq_some_iff.1 hv).1
      have : i = vs.length := by simp at this; omega
      subst this
      simp at hv
      exact Or.inr ⟨rfl, hv.symm⟩
  refine ⟨by simp [hlen], ?_, ?_⟩
  · intro i v l' hv hl
    rcases hsplit i v hv with ⟨hv, hi⟩ | ⟨rfl, rfl⟩
    · rw [List.getElem?_append_left (by omega)] at hl
      exact ⟨(h.row i v l' hv hl).1, fun g hg => Nat.lt_of_lt_of_le ((h.row i v l' hv hl).2 g hg) hB⟩
    · rw [hlen, List.getElem?_append_right (Nat.le_refl _), Nat.sub_self] at hl
      obtain rfl : l = l' := Option.some.inj hl
      exact ⟨Row.base hu hb, hB'⟩
  · intro i j v v' hij hv hv' g hg hg'
    rcases hsplit j v' hv' with ⟨hv', hj⟩ | ⟨rfl, rfl⟩
    · rcases hsplit i v hv with ⟨hv, hi⟩ | ⟨rfl, rfl⟩
      · exact h.apart i j v v' hij hv hv' g hg hg'
      · omega
    · rcases hsplit i v hv with ⟨hv, hi⟩ | ⟨rfl, rfl⟩
      · obtain ⟨l', hl'⟩ : ∃ l', L[i]? = some l' := ⟨_, List.getElem?_eq_getElem (by omega)⟩
        have h1 := (h.row i v l' hv hl').2 g hg
        have h2 := Row.own_ge hu hg'
        omega
      · omega
/-- a board that the document reads: what lies in memory -/
structure RP (w wr : World) (Z B : Nat) (v : Value) (vs : List Value) (L : List (List Int)) (u : Value) (l : List Int) : Prop where
  blk : Blk wr Z [v] 94
  own : wr.ownsRow w.heap.size 88 1 v vs.length vs
  rows : Rows_ wr w.heap.size B vs L
  line : wr.ownsRow B 21 1 u l.length (i32s l)
  base : w.heap.size ≤ B ∧ B ≤ wr.heap.size
  mod : Mod none_ w wr
theorem wpList_append_r {ops : Array Oper} {rest : List Oper} {o : Oper} {a : Act} {w : World} {Q : Exit → Act → World → Prop} (hgd : o.guard = none) (s x : Operand)
    (ho : o.op = .call { callee := .builtin .append, args := #[s, x], argTypes := #[88, 88] }) (base : Nat)
    (v : Value) (l : List Int) (hs : a.eval s = v) (hown : w.ownsRow base 21 1 v l.length (i32s l)) (k : Int) (lb : Nat) (hx : a.eval x = .slice (some ⟨lb, 0, none⟩) 1 1) (hB : w.cell? ⟨lb, 0, none⟩ = some (.int .i32 k))
    (hlen : l.length + 1 ≤ 1000000000) (hbase : base ≤ w.heap.size)
    (h : ∀ v' w', w'.ownsRow base 21 1 v' (l ++ [k]).length (i32s (l ++ [k])) → w.grownBy w' v.ownBlock → wpList Tryd.prog ops Q rest (a.put o.dst v') w') : wpList Tryd.prog ops Q (o :: rest) a w := by
  obtain ⟨i, hi, hz0, hz1, hz2⟩ := info_parts' info_i32
  refine wpList_append_own w hgd s x 88 ho base 21 i _ 1 4 under_i32s hi hz0 hz1 hz2 rfl (by decide) v l.length (i32s l) hs hown ⟨lb, 0, none⟩ 1 1 [.int .i32 k] hx rfl ?_ (fun u hu => by rw [show u = Value.int .i32 k from by simpa using hu]; rfl) (by unfold maxLen; omega) (by omega) hbase ?_
  · intro j u hj
    match j, hj with
    | 0, hj => obtain rfl := Option.some.inj hj; exact hB
    | k + 1, hj => simp at hj
  · intro v' w' ho' hg _
    have e1 : i32s l ++ [.int .i32 k] = i32s (l ++ [k]) := by simp [i32s]
    rw [e1] at ho'
    exact h v' w' (by simpa using ho') hg
theorem wpList_append_l {ops : Array Oper} {rest : List Oper} {o : Oper} {a : Act} {w : World} {Q : Exit → Act → World → Prop} (hgd : o.guard = none) (s x : Operand)
    (ho : o.op = .call { callee := .builtin .append, args := #[s, x], argTypes := #[92, 92] }) (base : Nat)
    (v : Value) (l : List Value) (hs : a.eval s = v) (hown : w.ownsRow base 88 1 v l.length l) (k : Value) (hk : k.oneCell' = true) (lb : Nat) (hx : a.eval x = .slice (some ⟨lb, 0, none⟩) 1 1) (hB : w.cell? ⟨lb, 0, none⟩ = some k)
    (hlen : l.length + 1 ≤ 1000000000) (hbase : base ≤ w.heap.size)
    (h : ∀ g2 cap2 m2 w', w'.ownsRow base 88 1 (.slice (some ⟨g2, 0, none⟩) m2 cap2) m2 (l ++ [k]) → m2 = (l ++ [k]).length → w.grownBy w' v.ownBlock → wpList Tryd.prog ops Q rest (a.put o.dst (.slice (some ⟨g2, 0, none⟩) m2 cap2)) w') : wpList Tryd.prog ops Q (o :: rest) a w := by
  obtain ⟨i, hi, hz0, hz1, hz2⟩ := info_parts' info_l
  refine wpList_append_own w hgd s x 92 ho base 88 i _ 1 24 under_ls hi hz0 hz1 hz2 rfl (by decide) v l.length l hs hown ⟨lb, 0, none⟩ 1 1 [k] hx rfl ?_ (fun u hu => by rw [show u = k from by simpa using hu]; exact hk) (by unfold maxLen; omega) (by omega) hbase ?_
  · intro j u hj
    match j, hj with
    | 0, hj => obtain rfl := Option.some.inj hj; exact hB
    | k + 1, hj => simp at hj
  · intro v' w' ho' hg _
    obtain ⟨g2, cap2, rest2, rfl, _⟩ := Row.blk ho' (by omega)
    exact h g2 cap2 (l.length + 1) w' ho' (by simp) hg
/-- a board whose rim is being closed -/
structure RC (w wr : World) (Z W H m cap : Nat) (gs : List (Nat × Nat)) (E : List Int) : Prop where
  blk : Blk wr Z [.slice (some ⟨m, 0, none⟩) H cap] 94
  lines : ∃ rest, Blk wr m ((gs.map fun p => Value.slice (some ⟨p.1, 0, none⟩) W p.2) ++ rest) 88
  cap : H ≤ cap
  len : gs.length = H
  row : ∀ (y : Nat) (p : Nat × Nat), gs[y]? = some p → W ≤ p.2 ∧ w.heap.size ≤ p.1 ∧ ∃ rest, Blk wr p.1 (i32s (Bd.row W E y) ++ rest) 21
  apart : ∀ (y y' : Nat) (p p' : Nat × Nat), y ≠ y' → gs[y]? = some p → gs[y']? = some p' → p.1 ≠ p'.1
  mod : Mod none_ w wr
theorem RC.toM {w wr : World} {Z W H m cap : Nat} {gs : List (Nat × Nat)} {E : List Int} (h : RC w wr Z W H m cap gs E) (hw : 3 ≤ W ∧ W ≤ 64) (hh : 3 ≤ H ∧ H ≤ 64) (hE : E.length = W * H) : RBrdM wr Z W H E := by
  obtain ⟨rest, hl⟩ := h.lines
  refine ⟨hw, hh, hE, m, cap, _, rest, h.blk, hl, by rw [List.length_map, h.len], h.cap, fun y v hv => ?_⟩
  rw [List.getElem?_map] at hv
  cases hp : gs[y]? with
  | none => rw [hp] at hv; cases hv
  | some p =>
    rw [hp] at hv
    obtain rfl := Option.some.inj hv
    obtain ⟨h1, _, r, h2⟩ := h.row y p hp
    exact ⟨p.1, p.2, r, rfl, h2, h1⟩
/-- the cells that the closing of cell (x, y) meets -/
theorem RC.cells {w wr : World} {Z W H m cap : Nat} {gs : List (Nat × Nat)} {E : List Int} (h : RC w wr Z W H m cap gs E) (hE : E.length = W * H) {y x : Nat} (hy : y < H) (hx : x < W) :
    ∃ g c e, gs[y]? = some (g, c) ∧ wr.cell? ⟨Z, 0, none⟩ = some (.slice (some ⟨m, 0, none⟩) H cap) ∧ wr.cell? ⟨m, y, none⟩ = some (.slice (some ⟨g, 0, none⟩) W c) ∧ wr.cell? ⟨g, x, none⟩ = some (.int .i32 e) ∧ wr.frozen? ⟨g, x, none⟩ = false ∧ W ≤ c := by
  obtain ⟨rest, hl⟩ := h.lines
  obtain ⟨⟨g, c⟩, hp⟩ : ∃ p, gs[y]? = some p := ⟨_, List.getElem?_eq_getElem (by rw [h.len]; exact hy)⟩
  obtain ⟨h1, _, r, h2⟩ := h.row y (g, c) hp
  obtain ⟨e, he⟩ : ∃ e, (Bd.row W E y)[x]? = some e := ⟨_, List.getElem?_eq_getElem (by rw [Bd.row_len hE hy]; exact hx)⟩
  refine ⟨g, c, e, hp, h.blk.cell rfl, hl.cell ?_, h2.cell (i32s_at he r), h2.frozen x, h1⟩
  rw [List.getElem?_append_left (by rw [List.length_map, h.len]; exact hy), List.getElem?_map, hp]
  rfl
theorem RC.set {w wr : World} {Z W H m cap : Nat} {gs : List (Nat × Nat)} {E : List Int} (h : RC w wr Z W H m cap gs E) (hE : E.length = W * H) {y x g c : Nat} (hy : y < H) (hx : x < W) (hg : gs[y]? = some (g, c)) (k : Int) : RC w (wr.setCell ⟨g, x, none⟩ (.int .i32 k)) Z W H m cap gs (E.set (y * W + x) k) := by
  obtain ⟨rest, hl⟩ := h.lines
  obtain ⟨h1, h0, r, h2⟩ := h.row y (g, c) hg
  have hZ : Z ≠ g := fun e => by
    have hb := h.blk
    subst e
    rw [Blk, h2] at hb
    injection hb with hb
    injection hb with _ h6 _
    exact absurd h6 (by decide)
  have hm : m ≠ g := fun e => by
    subst e
    rw [Blk, h2] at hl
    injection hl with hb
    injection hb with _ h6 _
    exact absurd h6 (by decide)
  refine ⟨h.blk.set_other hZ _, ⟨rest, hl.set_other hm _⟩, h.cap, h.len, fun y' p hp => ?_, h.apart, h.mod.setCell (fun hlt => absurd hlt (by show ¬ g < _; exact Nat.not_lt.2 h0)) _⟩
  by_cases e : y' = y
  · subst e
    obtain rfl : (g, c) = p := Option.some.inj (hg.symm.trans hp)
    refine ⟨h1, h0, r, ?_⟩
    rw [Bd.row_set_same hx, ← i32s_set _ _ _ _ (by rw [Bd.row_len hE hy]; exact hx)]
    exact h2.set x _
  · obtain ⟨h3, h4, r', h5⟩ := h.row y' p hp
    refine ⟨h3, h4, r', ?_⟩
    rw [Bd.row_set_other hx (fun e' => e e'.symm)]
    exact h5.set_other (h.apart y' y p (g, c) e hp hg) _
theorem RC.of {w wr : World} {Z W H m cap B : Nat} {vs rest : List Value} {K : List (List Int)} (hB : Blk wr Z [.slice (some ⟨m, 0, none⟩) H cap] 94) (hl : Blk wr m (vs ++ rest) 88) (hcap : H ≤ cap) (hR : Rows_ wr w.heap.size B vs K) (hK : K.length = H) (hW : ∀ l ∈ K, l.length = W) (hW0 : 0 < W) (hM : Mod none_ w wr) :
    ∃ gs, RC w wr Z W H m cap gs K.flatten := by
  have hlen := hR.len
  have hv : ∀ (i : Nat) v, vs[i]? = some v → ∃ g c r l, K[i]? = some l ∧ v = .slice (some ⟨g, 0, none⟩) W c ∧ w.heap.size ≤ g ∧ Blk wr g (i32s l ++ r) 21 ∧ W ≤ c := by
    intro i v hv
    have hi := (List.getElem?_eq_some_iff.1 hv).1
    obtain ⟨l, hl'⟩ : ∃ l, K[i]? = some l := ⟨_, List.getElem?_eq_getElem (by omega)⟩
    have hlw := hW l (List.mem_of_getElem? hl')
    obtain ⟨g, c, r, h1, h2, h3, h4⟩ := Row.blk (hR.row i v l hv hl').1 (by omega)
    rw [hlw] at h1 h4
    exact ⟨g, c, r, l, hl', h1, h2, h3, h4⟩
  have hmap : ∀ (vs' : List Value), (∀ v ∈ vs', ∃ g c, v = Value.slice (some ⟨g, 0, none⟩) W c) → ∃ gs : List (Nat × Nat), vs' = gs.map fun p => Value.slice (some ⟨p.1, 0, none⟩) W p.2 := by
    intro vs'
    induction vs' with
    | nil => intro _; exact ⟨[], rfl⟩
    | cons v r ih =>
      intro h
      obtain ⟨g, c, rfl⟩ := h v (by simp)
      obtain ⟨gs, rfl⟩ := ih (fun v hv => h v (by simp [hv]))
      exact ⟨(g, c) :: gs, rfl⟩
  obtain ⟨gs, rfl⟩ := hmap vs (fun v hm => by
    obtain ⟨i, hi⟩ := List.getElem?_of_mem hm
    obtain ⟨g, c, r, l, _, h1, _⟩ := hv i v hi
    exact ⟨g, c, h1⟩)
  rw [List.length_map] at hlen
  have hat : ∀ (y : Nat) (p : Nat × Nat), gs[y]? = some p → (gs.map fun p => Value.slice (some ⟨p.1, 0, none⟩) W p.2)[y]? = some (Value.slice (some ⟨p.1, 0, none⟩) W p.2) := by
    intro y p hp
    rw [List.getElem?_map, hp]
    rfl
  refine ⟨gs, hB, ⟨rest, hl⟩, hcap, by omega, fun y p hp => ?_, fun y y' p p' hne hp hp' e => ?_, hM⟩
  · obtain ⟨g, c, r, l, h1, h2, h3, h4, h5⟩ := hv y _ (hat y p hp)
    injection h2 with h6 _ h7
    obtain rfl : p.1 = g := by injection h6 with h6; injection h6
    obtain rfl : p.2 = c := h7
    exact ⟨h5, h3, r, by rw [Bd.row_flat hW h1]; exact h4⟩
  · rcases Nat.lt_or_gt_of_ne hne with h | h
    · exact hR.apart y y' _ _ h (hat y p hp) (hat y' p' hp') p.1 rfl (by rw [e]; rfl)
    · exact hR.apart y' y _ _ h (hat y' p' hp') (hat y p hp) p'.1 rfl (by rw [← e]; rfl)
/-- what the document's Parse tells -/
def RParseP (w w' : World) (e : Ending) : Bd.Res → Prop
  | .bad => e = .returned (.tuple #[.pointer none, .int .i64 140])
  | .place => e = .returned (.tuple #[.pointer none, .int .i64 141])
  | .board W H E => ∃ b, e = .returned (.tuple #[.pointer (some ⟨b, 0, none⟩), .int .i64 0]) ∧ w.heap.size ≤ b ∧ RBrd w' b W H E
end Go.Proofs.YtinjlkceplhibaaDoor
