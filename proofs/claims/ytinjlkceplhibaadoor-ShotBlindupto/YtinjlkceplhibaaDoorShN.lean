/- ShotBlind: the plain facts. -/
import Derived.Test.YtinjlkceplhibaaDoorCrL
import Derived.Test.YtinjlkceplhibaaDoorShI
namespace Go.Proofs.YtinjlkceplhibaaDoor
open Go.RowKit

theorem firstHit_app (s : Sh) : ∀ (A B : List Cr) (i : Nat), firstHit s i (A ++ B) = match firstHit s i A with | some k => some k | none => firstHit s (i + A.length) B := by
  intro A
  induction A with
  | nil => intro B i; rfl
  | cons c r ih =>
    intro B i
    show firstHit s i (c :: (r ++ B)) = _
    rw [firstHit, firstHit]
    by_cases h : meets s c = true
    · rw [if_pos h, if_pos h]
    · rw [if_neg h, if_neg h, ih, List.length_cons, show i + 1 + r.length = i + (r.length + 1) by omega]
/-- a list with cars laid among it that a shot does not see: which car of the first list each is -/
structure Wv (pl : Int) (C M : List Cr) (F : List Int) : Prop where
  len : M.length = F.length
  hit : ∀ s : Sh, s.player = pl → (firstHit s 0 M = none → firstHit s 0 C = none) ∧ ∀ k, firstHit s 0 M = some k → ∃ j : Nat, F[k]? = some (j : Int) ∧ firstHit s 0 C = some j
theorem Wv.nil (pl : Int) : Wv pl [] [] [] := ⟨rfl, fun s _ => ⟨fun _ => rfl, fun k h => by cases h⟩⟩
theorem firstHit_one (s : Sh) (c : Cr) (i : Nat) : firstHit s i [c] = if meets s c = true then some i else none := by
  rw [firstHit]
  rfl
theorem Wv.blind {pl : Int} {C M : List Cr} {F : List Int} (h : Wv pl C M F) {c : Cr} (hc : ∀ s : Sh, s.player = pl → meets s c = false) : Wv pl C (M ++ [c]) (F ++ [-1]) := by
  refine ⟨by rw [List.length_append, List.length_append, h.len]; rfl, fun s hs => ?_⟩
  have he : firstHit s 0 (M ++ [c]) = firstHit s 0 M := by
    rw [firstHit_app, firstHit_one, hc s hs]
    cases firstHit s 0 M <;> rfl
  rw [he]
  refine ⟨(h.hit s hs).1, fun k hk => ?_⟩
  obtain ⟨j, h1, h2⟩ := (h.hit s hs).2 k hk
  exact ⟨j, by rw [List.getElem?_append_left (List.getElem?_eq_some_iff.1 h1).1]; exact h1, h2⟩
theorem Wv.car {pl : Int} {C M : List Cr} {F : List Int} (h : Wv pl C M F) (c : Cr) : Wv pl (C ++ [c]) (M ++ [c]) (F ++ [(C.length : Int)]) := by
  refine ⟨by rw [List.length_append, List.length_append, h.len]; rfl, fun s hs => ?_⟩
  rw [firstHit_app, firstHit_app, firstHit_one, firstHit_one]
  cases hm : firstHit s 0 M with
  | none =>
    rw [(h.hit s hs).1 hm]
    by_cases hc : meets s c = true
    · rw [if_pos hc, if_pos hc]
      refine ⟨fun h => (by cases h), fun k hk => ⟨C.length, ?_, by simp⟩⟩
      obtain rfl : 0 + M.length = k := Option.some.inj hk
      rw [Nat.zero_add, h.len, List.getElem?_append_right (Nat.le_refl _), Nat.sub_self]
      rfl
    · rw [if_neg hc, if_neg hc]
      exact ⟨fun _ => rfl, fun k hk => by cases hk⟩
  | some k =>
    obtain ⟨j, h1, h2⟩ := (h.hit s hs).2 k hm
    rw [h2]
    refine ⟨fun h => (by cases h), fun k' hk => ⟨j, ?_, rfl⟩⟩
    obtain rfl : k = k' := Option.some.inj hk
    rw [List.getElem?_append_left (List.getElem?_eq_some_iff.1 h1).1]
    exact h1
/-- a flight among more cars -/
theorem flight_weave {W H : Nat} {E : List Int} {pl : Int} {C M : List Cr} {F : List Int} (hw : Wv pl C M F) : ∀ (k : Nat) (s : Sh), s.player = pl →
    (flight W H E M k s).1 = (flight W H E C k s).1 ∧ (flight W H E M k s).2.2 = (flight W H E C k s).2.2 ∧
      (((flight W H E M k s).2.1 = -1 ∧ (flight W H E C k s).2.1 = -1) ∨ ∃ a j : Nat, (flight W H E M k s).2.1 = (a : Int) ∧ F[a]? = some (j : Int) ∧ (flight W H E C k s).2.1 = (j : Int)) := by
  intro k
  induction k with
  | zero => intro s hs; exact ⟨rfl, rfl, Or.inl ⟨rfl, rfl⟩⟩
  | succ k ih =>
    intro s hs
    have hs2 : s.step.player = pl := hs
    rw [flight, flight]
    by_cases h35 : Bd.atOf W H E s.step.ax s.step.ay = 35
    · rw [if_pos h35, if_pos h35]
      exact ⟨rfl, rfl, Or.inl ⟨rfl, rfl⟩⟩
    · rw [if_neg h35, if_neg h35]
      obtain ⟨h1, h2⟩ := hw.hit s.step hs2
      cases hm : firstHit s.step 0 M with
      | none =>
        rw [h1 hm]
        exact ih s.step hs2
      | some a =>
        obtain ⟨j, h3, h4⟩ := h2 a hm
        rw [h4]
        exact ⟨rfl, rfl, Or.inr ⟨a, j, rfl, h3, rfl⟩⟩
/-- a car that a shot of player pl does not see -/
def blindB (pl : Int) (i : Nat) (c : Cr) : Cr := if i % 2 = 0 ∨ c.wait ≤ 0 then { c with player := pl } else c
theorem blind_unseen {pl : Int} {i : Nat} {c : Cr} {s : Sh} (hs : s.player = pl) : meets s (blindB pl i c) = false := by
  unfold blindB meets
  split
  · have : (({ c with player := pl } : Cr).player != s.player) = false := by simp [hs]
    rw [this]; simp
  · rename_i h
    have : decide (c.wait ≤ 0) = false := decide_eq_false (fun h2 => h (Or.inr h2))
    rw [this]; simp
/-- ints that a call owns -/
def icells (F : List Int) : List Value := F.map (Value.int .i64)
theorem info_int : (Tryd.prog.info? 3).map (fun i => (i.zero, i.size, i.bytes)) = some (some (.int .i64 0), 1, 8) := by kernel_rfl
def OwnN (w : World) (base : Nat) (v : Value) (F : List Int) : Prop := w.ownsRow base 3 1 v F.length (icells F)
theorem OwnN.none (w : World) (base : Nat) : OwnN w base (.slice Option.none 0 0) [] := World.ownsRow_nil w base _ _
theorem OwnN.mod {S : Nat → Prop} {w w' : World} {base : Nat} {v : Value} {L : List Int} (h : OwnN w base v L) (hM : Mod S w w') (hS : ∀ k, v.ownBlock = some k → ¬ S k) : OwnN w' base v L := by
  obtain ⟨h1, h2 | ⟨g, cap, cur, h3, h4, h5, h6⟩⟩ := h
  · exact ⟨h1, .inl h2⟩
  · have hg := (Array.getElem?_eq_some_iff.1 h5).1
    exact ⟨h1, .inr ⟨g, cap, cur, h3, h4, (hM.block g hg (hS g (by rw [h3]; rfl))).trans h5, h6⟩⟩
theorem OwnC.mod2 {S : Nat → Prop} {w w' : World} {base : Nat} {v : Value} {L : List Cr} (h : OwnC w base v L) (hM : Mod S w w') (hS : ∀ k, v.ownBlock = some k → ¬ S k) : OwnC w' base v L := by
  obtain ⟨h1, h2 | ⟨g, cap, cur, h3, h4, h5, h6⟩⟩ := h
  · exact ⟨h1, .inl h2⟩
  · have hg := (Array.getElem?_eq_some_iff.1 h5).1
    exact ⟨h1, .inr ⟨g, cap, cur, h3, h4, (hM.block g hg (hS g (by rw [h3]; rfl))).trans h5, h6⟩⟩
theorem ownCN_ne {w : World} {base base' : Nat} {v v' : Value} {L : List Cr} {F : List Int} (h : OwnC w base v L) (k : OwnN w base' v' F) : ∀ g, v.ownBlock = some g → v'.ownBlock ≠ some g := by
  intro g hg hg'
  obtain ⟨_, h2 | ⟨g1, cap, cur, h3, h4, h5, h6⟩⟩ := h
  · rw [h2.1] at hg; cases hg
  · obtain ⟨_, k2 | ⟨g2, cap2, cur2, k3, k4, k5, k6⟩⟩ := k
    · rw [k2.1] at hg'; cases hg'
    · rw [h3] at hg
      rw [k3] at hg'
      obtain rfl : g1 = g := by simpa [Value.ownBlock] using hg
      obtain rfl : g2 = g1 := by simpa [Value.ownBlock] using hg'
      rw [h5] at k5
      injection k5 with k5
      injection k5 with _ k5
      exact absurd k5 (by decide)
theorem wpList_append_n {ops : Array Oper} {rest : List Oper} {o : Oper} {a : Act} {w : World} {Q : Exit → Act → World → Prop} (hgd : o.guard = none) (s x : Operand)
    (ho : o.op = .call { callee := .builtin .append, args := #[s, x], argTypes := #[54, 54] }) (base : Nat) (v : Value) (F : List Int) (hs : a.eval s = v) (hown : OwnN w base v F)
    (n : Int) (lb : Nat) (hx : a.eval x = .slice (some ⟨lb, 0, none⟩) 1 1) (hB : Blk w lb [.int .i64 n] 3) (h63 : F.length + 1 ≤ 4194304) (hbase : base ≤ w.heap.size)
    (h : ∀ v' w', OwnN w' base v' (F ++ [n]) → w.grownBy w' v.ownBlock → wpList Tryd.prog ops Q rest (a.put o.dst v') w') : wpList Tryd.prog ops Q (o :: rest) a w := by
  obtain ⟨i, hi, hz0, hz1, hz2⟩ := info_parts' info_int
  refine wpList_append_own w hgd s x 54 ho base 3 i _ 1 8 Tryd.underlying54 hi hz0 hz1 hz2 rfl (by decide) v F.length (icells F) hs hown ⟨lb, 0, none⟩ 1 1 [.int .i64 n] hx rfl ?_ (by simp [Value.oneCell']) (by unfold maxLen; omega) (by omega) hbase ?_
  · intro j u hj
    match j, hj with
    | 0, hj => obtain rfl := Option.some.inj hj; exact hB.cell rfl
    | k + 1, hj => simp at hj
  · intro v' w' ho' hg _
    refine h v' w' ?_ hg
    unfold OwnN icells
    rw [List.length_append, List.map_append]
    exact ho'
theorem OwnN.lt {w : World} {base : Nat} {v : Value} {F : List Int} (h : OwnN w base v F) : ∀ k, v.ownBlock = some k → base ≤ k ∧ k < w.heap.size := World.ownsRow.lt h
theorem OwnN.at {w : World} {base : Nat} {v : Value} {F : List Int} (h : OwnN w base v F) : ∃ sa cap, v = .slice sa F.length cap ∧ (0 < F.length → ∃ g, sa = some ⟨g, 0, Option.none⟩ ∧ ∀ (i : Nat) (n : Int), F[i]? = some n → w.cell? ⟨g, i, Option.none⟩ = some (.int .i64 n)) := by
  obtain ⟨h1, ⟨rfl, h2⟩ | ⟨g, cap, cur, h3, h4, h5, h6, h7, h8, h9⟩⟩ := h
  · exact ⟨Option.none, 0, by rw [h2], fun hp => by omega⟩
  · refine ⟨_, cap, h3, fun _ => ⟨g, rfl, fun i n hn => ?_⟩⟩
    have hcc : (icells F)[i]? = some (.int .i64 n) := by rw [icells, List.getElem?_map, hn]; rfl
    rw [← h9, List.getElem?_take] at hcc
    split at hcc
    · rw [cell_of_row w g _ cur _ (0, 0) h5]
      simpa using hcc
    · cases hcc
end Go.Proofs.YtinjlkceplhibaaDoor
