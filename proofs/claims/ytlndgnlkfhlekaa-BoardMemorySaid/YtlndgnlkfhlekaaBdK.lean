/- BoardMemory: lists of places in memory: read, changed, appended to. -/
import Derived.Test.YtlndgnlkfhlekaaBdX
namespace Bd
theorem spawns_small {W H : Nat} {E : List Int} (h : Fine W H E) : 0 < (spawns W E).length ∧ (spawns W E).length ≤ 4096 := by
  refine ⟨List.length_pos_iff.2 h.some, ?_⟩
  have h1 : ∀ (E : List Int) i, (spawnsFrom W i E).length ≤ E.length := by
    intro E
    induction E with
    | nil => intro i; exact Nat.le_refl _
    | cons c r ih =>
      intro i
      have := ih (i + 1)
      unfold spawnsFrom
      split <;> simp at this ⊢ <;> omega
  have h2 := h1 E 0
  have h3 : W * H ≤ 64 * 64 := Nat.mul_le_mul h.w64 h.h64
  have h4 := h.len
  unfold spawns
  omega
end Bd
namespace Go.Proofs.Ytlndgnlkfhlekaa
open Go.RowKit

/-- a list of places that begins its block -/
def Pl (w : World) (g n cap : Nat) (l : List (Int × Int)) : Prop :=
  l.length = n ∧ ∃ rest, Blk w g (vcells l ++ rest) 34 ∧ (vcells l ++ rest).length = cap * 2 ∧ n ≤ cap ∧ cap ≤ maxLen
theorem Pl.mod {S : Nat → Prop} {w w' : World} {g n cap : Nat} {l : List (Int × Int)} (h : Pl w g n cap l) (hM : Mod S w w') (hS : ¬ S g) : Pl w' g n cap l := by
  obtain ⟨h0, r, h1, h2, h3, h4⟩ := h
  exact ⟨h0, r, hM.blk h1 hS, h2, h3, h4⟩
theorem Pl.none {w w' : World} {g n cap : Nat} {l : List (Int × Int)} (h : Pl w g n cap l) (hM : Mod none_ w w') : Pl w' g n cap l := h.mod hM (fun h => h)
theorem Pl.lt {w : World} {g n cap : Nat} {l : List (Int × Int)} (h : Pl w g n cap l) : g < w.heap.size := by
  obtain ⟨_, _, h, _⟩ := h
  exact h.lt
theorem Pl.of {w : World} {base : Nat} {v : Value} {l : List (Int × Int)} (h : OwnV w base v l) (hl : 0 < l.length) : ∃ g cap, v = .slice (some ⟨g, 0, Option.none⟩) l.length cap ∧ base ≤ g ∧ Pl w g l.length cap l := by
  obtain ⟨h1, h2 | ⟨g, cap, cur, h3, h4, h5, h6, h7, h8, h9⟩⟩ := h
  · have := h2.2; omega
  · have e : vcells l ++ cur.toList.drop (l.length * 2) = cur.toList := (congrArg (· ++ cur.toList.drop (l.length * 2)) h9).symm.trans (List.take_append_drop _ _)
    refine ⟨g, cap, h3, h4, rfl, cur.toList.drop (l.length * 2), ?_, ?_, h6, h7⟩
    · rw [Blk, h5, e, Array.toArray_toList]
    · rw [e, Array.length_toList, h8]
theorem vcells_get {l : List (Int × Int)} {j : Nat} {p : Int × Int} (h : l[j]? = some p) : (vcells l)[j * 2]? = some (.int .i64 p.1) ∧ (vcells l)[j * 2 + 1]? = some (.int .i64 p.2) := by
  induction l generalizing j with
  | nil => simp at h
  | cons q r ih =>
    cases j with
    | zero => obtain rfl := Option.some.inj h; exact ⟨rfl, rfl⟩
    | succ j =>
      have := ih (j := j) h
      rw [show (j + 1) * 2 = j * 2 + 2 by omega]
      exact this
theorem vcells_set (l : List (Int × Int)) (j : Nat) (p : Int × Int) (h : j < l.length) : ((vcells l).set (j * 2) (.int .i64 p.1)).set (j * 2 + 1) (.int .i64 p.2) = vcells (l.set j p) := by
  induction l generalizing j with
  | nil => simp at h
  | cons q r ih =>
    cases j with
    | zero => rfl
    | succ j =>
      have := ih j (by simpa using h)
      rw [show (j + 1) * 2 = j * 2 + 2 by omega]
      show Value.int .i64 q.1 :: Value.int .i64 q.2 :: (((vcells r).set (j * 2) (.int .i64 p.1)).set (j * 2 + 1) (.int .i64 p.2)) = Value.int .i64 q.1 :: Value.int .i64 q.2 :: vcells (r.set j p)
      rw [this]
theorem Pl.range {w : World} {g n cap : Nat} {l : List (Int × Int)} (h : Pl w g n cap l) {j : Nat} {p : Int × Int} (hp : l[j]? = some p) : w.rangeAt g (j * 2) [.int .i64 p.1, .int .i64 p.2] := by
  obtain ⟨h0, r, h1, h2, h3, h4⟩ := h
  have hj := (List.getElem?_eq_some_iff.1 hp).1
  have hv := vcells_len l
  obtain ⟨a, b⟩ := vcells_get hp
  intro k v hk
  refine h1.cell ?_
  match k, hk with
  | 0, hk => obtain rfl := Option.some.inj hk; rw [List.getElem?_append_left (by omega)]; exact a
  | 1, hk => obtain rfl := Option.some.inj hk; rw [List.getElem?_append_left (by omega)]; exact b
  | k + 2, hk => simp at hk
theorem Pl.cells {w : World} {g n cap : Nat} {l : List (Int × Int)} (h : Pl w g n cap l) {j : Nat} {p : Int × Int} (hp : l[j]? = some p) : w.cell? ⟨g, j * 2, Option.none⟩ = some (.int .i64 p.1) ∧ w.cell? ⟨g, j * 2 + 1, Option.none⟩ = some (.int .i64 p.2) := ⟨h.range hp 0 _ rfl, h.range hp 1 _ rfl⟩
theorem Pl.frozen {w : World} {g n cap : Nat} {l : List (Int × Int)} (h : Pl w g n cap l) (j : Nat) : w.frozen? ⟨g, j, Option.none⟩ = false := by
  obtain ⟨h0, r, h1, h2, h3, h4⟩ := h
  exact h1.frozen j
theorem Pl.set {w : World} {g n cap : Nat} {l : List (Int × Int)} (h : Pl w g n cap l) {j : Nat} (hj : j < n) (p : Int × Int) : Pl ((w.setCell ⟨g, j * 2, Option.none⟩ (.int .i64 p.1)).setCell ⟨g, j * 2 + 1, Option.none⟩ (.int .i64 p.2)) g n cap (l.set j p) := by
  obtain ⟨h0, r, h1, h2, h3, h4⟩ := h
  have hv := vcells_len l
  have hv' := vcells_len (l.set j p)
  rw [List.length_set] at hv'
  refine ⟨by rw [List.length_set]; exact h0, r, ((h1.set (j * 2) _).set (j * 2 + 1) _).cs ?_, ?_, h3, h4⟩
  · rw [List.set_append, if_pos (by omega), List.set_append, if_pos (by rw [List.length_set]; omega), vcells_set l j p (by omega)]
  · rw [List.length_append] at h2 ⊢; omega
/-- append: in the list's own block, or in a new one; what was there stays -/
theorem append_pl (w : World) (ty : TypeId) {g n cap : Nat} {l : List (Int × Int)} (h : Pl w g n cap l) (a : Addr) (c : Nat) (m : List (Int × Int)) (hnews : ∀ j u, (vcells m)[j]? = some u → w.cell? (a.add j) = some u) (h63 : n + m.length ≤ 1000000) :
    ∃ g' cap' w', (Builtin.append_ #[31, 31] ty #[.slice (some ⟨g, 0, none⟩) n cap, .slice (some a) m.length c]).run Try.prog w = .ok (.slice (some ⟨g', 0, none⟩) (n + m.length) cap') w' ∧
      Pl w' g' (n + m.length) cap' (l ++ m) ∧ Pl w' g n cap l ∧ Mod (only g) w w' ∧ (g' = g ∨ g' = w.heap.size) := by
  obtain ⟨h0, r, h1, h2, h3, h4⟩ := h
  obtain ⟨i, hi, hz0, hz1, hz2⟩ := info_parts' info_vec
  have hv := vcells_len l; have hm := vcells_len m
  have hlm := vcells_len (l ++ m)
  rw [List.length_append] at hlm
  by_cases hr : n + m.length ≤ cap
  · have hrun := run_append_room (P := Try.prog) w 31 ty 34 i under_vecs hi g n cap _ h1 a m.length c (vcells m) (by rw [hm, hz1]) hnews (one_v m) hr (by rw [hz1, List.size_toArray, h2, hm]; omega)
    rw [hz1] at hrun
    have e1 : (vcells l ++ r).take (n * 2) = vcells l := by rw [← h0, ← hv]; exact List.take_left
    rw [List.toList_toArray, e1] at hrun
    refine ⟨g, cap, _, hrun, ⟨by rw [List.length_append, h0], (vcells l ++ r).drop (n * 2 + (vcells m).length), (h1.row _).cs ?_, ?_, hr, h4⟩, ⟨h0, vcells m ++ (vcells l ++ r).drop (n * 2 + (vcells m).length), (h1.row _).cs (List.append_assoc _ _ _), ?_, h3, h4⟩, (Mod.refl _ _).setRow (fun _ => only_self g) _, Or.inl rfl⟩
    · rw [vcells_app]
    · rw [vcells_app, List.length_append, List.length_append, List.length_drop, h2, hv, hm]; omega
    · rw [List.length_append, List.length_append, List.length_drop, h2, hv, hm]; omega
  · have hrun := run_append_grow (P := Try.prog) w 31 ty 34 i _ under_vecs hi hz0 ⟨g, 0, none⟩ n cap (vcells l) (by rw [hv, hz1, h0])
      (fun j v hj => by
        have e : (⟨g, 0, none⟩ : Addr).add j = ⟨g, j, none⟩ := by unfold Addr.add; split <;> simp_all
        rw [e]
        exact h1.cell (by rw [List.getElem?_append_left (List.getElem?_eq_some_iff.1 hj).1]; exact hj))
      a m.length c (vcells m) (by rw [hm, hz1]) hnews (by omega) (by omega) (growslice_fits (by omega) (by rw [hz2]; omega))
    have hge := grownCap_ge w (n + m.length) cap 34
    have hcm := grownCap_le_maxLen w (n + m.length) cap 34 (by unfold maxLen; omega)
    have e2 : ∀ X Y Z : Array Value, X ++ Y ++ Z = (X.toList ++ Y.toList ++ Z.toList).toArray := by intro X Y Z; simp
    rw [e2] at hrun
    refine ⟨w.heap.size, _, _, hrun, ⟨by rw [List.length_append, h0], (Builtin.zeroCells (Value.agg #[.int .i64 0, .int .i64 0]).cells (grownCap w (n + m.length) cap 34 - (n + m.length))).toList, (Blk.new w.drew _ _).cs ?_, ?_, hge, hcm⟩, ⟨h0, r, (h1.drew).alloc _, h2, h3, h4⟩, ((Mod.refl _ _).drew).alloc _, Or.inr rfl⟩
    · rw [List.toList_toArray, List.toList_toArray, ← vcells_app]
    · have ez : ∀ Z : Array Value, (vcells (l ++ m) ++ Z.toList).length = (l.length + m.length) * 2 + Z.size := fun Z => by rw [List.length_append, hlm]; rfl
      rw [ez, size_zeroCells]
      show (l.length + m.length) * 2 + _ * 2 = _
      omega
theorem wpList_append_pl {ops : Array Oper} {rest : List Oper} {o : Oper} {a : Act} {w : World} {Q : Exit → Act → World → Prop} (hgd : o.guard = none) (s x : Operand)
    (ho : o.op = .call { callee := .builtin .append, args := #[s, x], argTypes := #[31, 31] }) {g n cap : Nat} {l : List (Int × Int)} (hs : a.eval s = .slice (some ⟨g, 0, none⟩) n cap) (h : Pl w g n cap l)
    (ad : Addr) (m : List (Int × Int)) (k c : Nat) (hk : m.length = k) (hx : a.eval x = .slice (some ad) k c) (hnews : ∀ j u, (vcells m)[j]? = some u → w.cell? (ad.add j) = some u) (h63 : n + k ≤ 1000000)
    (hK : ∀ g' cap' w', Pl w' g' (n + k) cap' (l ++ m) → Pl w' g n cap l → Mod (only g) w w' → (g' = g ∨ g' = w.heap.size) → wpList Try.prog ops Q rest (a.put o.dst (.slice (some ⟨g', 0, none⟩) (n + k) cap')) w') : wpList Try.prog ops Q (o :: rest) a w := by
  subst hk
  refine wpList_plain hgd fun K hK' => ?_
  obtain ⟨g', cap', w', hr, h2, h3, h4, h5⟩ := append_pl w o.type h ad c m hnews h63
  unfold Oper.wp execOp
  simp only [ho, resolve, invoke, builtin, Sem.run_bind, Sem.run_pure, Result.andThen_ok, List.map_toArray, List.map_cons, List.map_nil, hs, hx, hr]
  exact hK' _ _ (hK g' cap' w' h2 h3 h4 h5)
end Go.Proofs.Ytlndgnlkfhlekaa
