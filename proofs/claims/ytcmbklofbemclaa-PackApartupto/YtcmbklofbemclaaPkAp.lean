/- PackApart: several Writers of the call's own. -/
import Derived.Test.YtcmbklofbemclaaPkBl
import Derived.Deep.DeepCutAuto
import Derived.Deep.CutBlock
namespace Go.Proofs.Ytcmbklofbemclaa
open Go.RowKit

def up {α : Type} (f : Nat → α) (i : Nat) (v : α) : Nat → α := fun j => if j = i then v else f j
theorem up_same {α : Type} (f : Nat → α) (i : Nat) (v : α) : up f i v i = v := by simp [up]
theorem up_ne {α : Type} (f : Nat → α) (i : Nat) (v : α) {j : Nat} (h : j ≠ i) : up f i v j = f j := by simp [up, h]
/-- m Writers, each with its text and its error, none of which touches another -/
structure Wrs (w0 w : World) (m : Nat) (G : Nat → Nat) (te : Nat → List Int × Int) : Prop where
  wr : ∃ o : Nat → Value, (∀ i, i < m → WrAt w w0.heap.size (G i) (G i + 1) (o i) (te i).1 (te i).2) ∧
    (∀ i j, i < m → j < m → i ≠ j → ∀ b, (o i).ownBlock = some b → b ≠ G j ∧ b ≠ G j + 1 ∧ (o j).ownBlock ≠ some b)
  ne : ∀ i j, i < m → j < m → i ≠ j → G i ≠ G j ∧ G i ≠ G j + 1
  mod : Mod none_ w0 w
theorem Wrs.grow {w0 w w1 : World} {m : Nat} {G : Nat → Nat} {te : Nat → List Int × Int} (h : Wrs w0 w m G te) (hM : Mod none_ w w1) : Wrs w0 w1 m G te := by
  obtain ⟨o, h1, h2⟩ := h.wr
  exact ⟨⟨o, fun i hi => (h1 i hi).mod hM (fun h => h) (fun h => h) (fun _ _ h => h), h2⟩, h.ne, h.mod.then hM⟩
theorem Wrs.zero {w0 w : World} (hM : Mod none_ w0 w) : Wrs w0 w 0 (fun _ => 0) (fun _ => ([], 0)) :=
  ⟨⟨fun _ => undef, fun i hi => absurd hi (by omega), fun i j hi => absurd hi (by omega)⟩, fun i j hi => absurd hi (by omega), hM⟩
theorem Wrs.new {w0 w : World} {m : Nat} {G : Nat → Nat} {te : Nat → List Int × Int} (h : Wrs w0 w m G te) :
    Calls Try.prog 11 #[] w fun e w' => ∃ x, e = .returned (.pointer (some ⟨x, 0, none⟩)) ∧ Wrs w0 w' (m + 1) (up G m x) (up te m ([], 0)) := by
  refine (new_writer w w0.heap.size h.mod.size).mono ?_
  rintro e w' ⟨rfl, hM, hW, -⟩
  obtain ⟨o, h1, h2⟩ := h.wr
  refine ⟨_, rfl, ⟨up o m (.slice none 0 0), fun i hi => ?_, fun i j hi hj hij b hb => ?_⟩, fun i j hi hj hij => ?_, h.mod.then hM⟩
  · by_cases e : i = m
    · subst e; rw [up_same, up_same, up_same]; exact hW
    · rw [up_ne _ _ _ e, up_ne _ _ _ e, up_ne _ _ _ e]
      exact (h1 i (by omega)).mod hM (fun h => h) (fun h => h) (fun _ _ h => h)
  · by_cases e : i = m
    · subst e; rw [up_same] at hb; cases hb
    · rw [up_ne _ _ _ e] at hb
      have hlt := (h1 i (by omega)).own.own_lt hb
      by_cases e2 : j = m
      · subst e2
        rw [up_same, up_same]
        exact ⟨by omega, by omega, fun h => by cases h⟩
      · rw [up_ne _ _ _ e2, up_ne _ _ _ e2]
        exact h2 i j (by omega) (by omega) hij b hb
  · by_cases e : i = m
    · subst e
      rw [up_same, up_ne _ _ _ (fun h => hij h.symm)]
      have l1 := (h1 j (by omega)).row.lt
      have l2 := (h1 j (by omega)).var.lt
      exact ⟨by omega, by omega⟩
    · by_cases e2 : j = m
      · subst e2
        rw [up_same, up_ne _ _ _ e]
        have l1 := (h1 i (by omega)).row.lt
        exact ⟨by omega, by omega⟩
      · rw [up_ne _ _ _ e, up_ne _ _ _ e2]
        exact h.ne i j (by omega) (by omega) hij
theorem Wrs.lay1 {w0 w : World} {m : Nat} {G : Nat → Nat} {te : Nat → List Int × Int} (h : Wrs w0 w m G te) (i : Nat) (hi : i < m) (o : PkOp) (hl : (te i).1.length + (8 + o.s.size) ≤ 140737488355328) :
    Calls Try.prog 31 #[.pointer (some ⟨G i, 0, none⟩), .agg o.cells.toArray] w fun e w' => e = .returned (.tuple #[]) ∧ Wrs w0 w' m G (up te i (Pk.step (te i) o)) := by
  obtain ⟨out, h1, h2⟩ := h.wr
  have hw := h1 i hi
  refine (lay_op w w0.heap.size (G i) (G i + 1) (out i) (te i).1 (te i).2 o hw hl h.mod.size).mono ?_
  rintro e w' ⟨rfl, hM, out', hW, hO⟩
  refine ⟨rfl, ⟨up out i out', fun j hj => ?_, fun j k hj hk hjk b hb => ?_⟩, h.ne, h.mod.trans hM (fun b hb e => ?_)⟩
  · by_cases e : j = i
    · subst e; rw [up_same, up_same]; exact hW
    · rw [up_ne _ _ _ e, up_ne _ _ _ e]
      have n1 := h.ne j i hj hi e
      have n2 := h.ne i j hi hj (fun h => e h.symm)
      refine (h1 j hj).mod hM ?_ ?_ ?_
      · rintro (x | x)
        · exact n1.1 x
        · exact (h2 i j hi hj (fun h => e h.symm) _ x).1 rfl
      · rintro (x | x)
        · exact n2.2 x.symm
        · exact (h2 i j hi hj (fun h => e h.symm) _ x).2.1 rfl
      · rintro g hg (x | x)
        · exact (h2 j i hj hi e g hg).1 x
        · exact (h2 j i hj hi e g hg).2.2 x
  · by_cases e : j = i
    · subst e
      rw [up_same] at hb
      rw [up_ne _ _ _ (fun h => hjk h.symm)]
      have l1 := (h1 k hk).row.lt
      have l2 := (h1 k hk).var.lt
      rcases hO b hb with x | x
      · exact h2 j k hj hk hjk b x
      · exact ⟨by omega, by omega, fun y => by have := (h1 k hk).own.own_lt y; omega⟩
    · rw [up_ne _ _ _ e] at hb
      by_cases e2 : k = i
      · subst e2
        rw [up_same]
        have q := h2 j k hj hk hjk b hb
        refine ⟨q.1, q.2.1, fun y => ?_⟩
        rcases hO b y with x | x
        · exact q.2.2 x
        · have := (h1 j hj).own.own_lt hb; omega
      · rw [up_ne _ _ _ e2]
        exact h2 j k hj hk hjk b hb
  · rcases e with e | e
    · have := hw.low.1; omega
    · have := hw.own.own_ge e; omega
theorem Wrs.done {w0 w : World} {m : Nat} {G : Nat → Nat} {te : Nat → List Int × Int} (h : Wrs w0 w m G te) (i : Nat) (hi : i < m) (hl : (te i).1.length ≤ 140737488355328) :
    Calls Try.prog 20 #[.pointer (some ⟨G i, 0, none⟩)] w fun e w' => e = .returned (.tuple #[.string (if (te i).2 = 0 then strOf (te i).1 else ⟨#[]⟩), .int .i64 (te i).2]) ∧ Wrs w0 w' m G te := by
  obtain ⟨out, h1, _⟩ := h.wr
  refine (w_done w w0.heap.size (G i) (G i + 1) (out i) (te i).1 (te i).2 (h1 i hi) hl).mono ?_
  rintro e w' ⟨rfl, hM⟩
  exact ⟨rfl, h.grow hM⟩
theorem run_len (l : List PkOp) : ∀ r : List Int × Int, (l.foldl Pk.step r).1.length ≤ r.1.length + Pk.weight l := by
  induction l with
  | nil => intro r; simp [Pk.weight]
  | cons o l ih =>
    intro r
    rw [List.foldl_cons]
    have h1 := ih (Pk.step r o)
    have h2 := Pk.step_len r.1 r.2 o
    have h3 : Pk.weight (o :: l) = (8 + o.s.size) + Pk.weight l := by simp [Pk.weight]
    have h4 : Pk.step (r.1, r.2) o = Pk.step r o := rfl
    rw [h4] at h2
    omega
/-- two Readers of the call's own -/
structure RR (w0 w : World) (X Y : Nat) (s t : List Int) : Prop where
  x : RdAt w X s 0
  y : RdAt w Y t 0
  mod : Mod none_ w0 w
  low : w0.heap.size ≤ X ∧ w0.heap.size ≤ Y
  ne : X ≠ Y
theorem RR.grow {w0 w w1 : World} {X Y : Nat} {s t : List Int} (h : RR w0 w X Y s t) (hM : Mod none_ w w1) : RR w0 w1 X Y s t :=
  ⟨h.x.mod hM (fun h => h), h.y.mod hM (fun h => h), h.mod.then hM, h.low, h.ne⟩
theorem RR.drew {w0 w : World} {X Y : Nat} {s t : List Int} (h : RR w0 w X Y s t) : RR w0 w.drew X Y s t := h.grow ((Mod.refl none_ _).drew)
theorem RR.readX {w0 w w1 : World} {X Y : Nat} {s t s' : List Int} (h : RR w0 w X Y s t) (h1 : RdTo w w1 X (s', 0)) : RR w0 w1 X Y s' t :=
  ⟨h1.2, h.y.mod h1.1 (fun e => h.ne e.symm), h.mod.trans h1.1 (fun b hb e => by have : b = X := e; have := h.low.1; omega), h.low, h.ne⟩
theorem RR.readY {w0 w w1 : World} {X Y : Nat} {s t t' : List Int} (h : RR w0 w X Y s t) (h1 : RdTo w w1 Y (t', 0)) : RR w0 w1 X Y s t' :=
  ⟨h.x.mod h1.1 (fun e => h.ne e), h1.2, h.mod.trans h1.1 (fun b hb e => by have : b = Y := e; have := h.low.2; omega), h.low, h.ne⟩
theorem piece (S : ByteArray) (k : Nat) : S.extract k (k + 1) = strOf (((num S).drop k).take 1) := by
  apply ext_data
  rw [strOf_data]
  have h1 : (S.extract k (k + 1)).data = S.data.extract k (k + 1) := by simp
  have h2 : S.data.toList = (num S).map fun n => UInt8.ofNat n.toNat := by rw [← strOf_data, strOf_num]
  rw [h1, Array.toList_extract, h2]
  simp [List.map_drop, List.map_take]
/-- the next byte of a Reader, and the same byte of the text -/
theorem piece_at (w : World) (G : Nat) (S : ByteArray) (k : Nat) (hk : k < S.size) (h : RdAt w G ((num S).drop k) 0) :
    Calls Try.prog 34 #[.pointer (some ⟨G, 0, none⟩), .int .i64 1] w fun en w' => en = .returned (.string (S.extract k (k + 1))) ∧ RdTo w w' G ((num S).drop (k + 1), 0) := by
  have hl : ((num S).drop k).length = S.size - k := by rw [List.length_drop, length_num]
  have ha : Rd.ask ((num S).drop k) 0 1 (decide ((1 : Int) < 0)) = (((num S).drop k).take 1, ((num S).drop (k + 1), 0)) := by
    rw [decide_eq_false (by decide)]
    simp only [Rd.ask, Rd.take, if_false, if_true, Bool.false_eq_true, show (1 : Int).toNat = 1 from rfl, hl]
    rw [if_pos (by omega), List.drop_drop]
  have hc := rd_bytes w G ((num S).drop k) 0 1 (by decide) h (S.extract k (k + 1)) (by rw [ha, piece])
  rw [ha] at hc
  exact hc
theorem left_at (w : World) (G : Nat) (S : ByteArray) (k : Nat) (hk : k < S.size) (h : RdAt w G ((num S).drop k) 0) (L : Int) (hL : L = (S.size : Int) - (k : Int)) :
    Calls Try.prog 25 #[.pointer (some ⟨G, 0, none⟩)] w fun en w' => en = .returned (.int .i64 L) ∧ w' = w := by
  refine (rd_left w G _ 0 h).mono ?_
  rintro en w' ⟨rfl, rfl⟩
  exact ⟨by rw [List.length_drop, length_num, hL]; congr 2; omega, rfl⟩
theorem done_at (w : World) (G : Nat) (S : ByteArray) (k : Nat) (hk : S.size ≤ k) (h : RdAt w G ((num S).drop k) 0) :
    Calls Try.prog 27 #[.pointer (some ⟨G, 0, none⟩)] w fun en w' => en = .returned (.int .i64 0) ∧ w' = w := by
  have he : (num S).drop k = [] := List.drop_eq_nil_of_le (by rw [length_num]; exact hk)
  rw [he] at h
  exact rd_done w G [] 0 h 0 (by simp)
theorem drop_more (S : ByteArray) (k : Nat) (h : S.size ≤ k) : (num S).drop (k + 1) = (num S).drop k := by
  rw [List.drop_eq_nil_of_le (by rw [length_num]; omega), List.drop_eq_nil_of_le (by rw [length_num]; exact h)]
theorem slice_at (S : ByteArray) (k : Nat) (hk : k < S.size) (wx : World) : (Instr.slice 9 (.string S) (some (.int .i64 (k : Int))) (some (.int .i64 ((k : Int) + 1))) none).run Try.prog wx = .ok (.string (S.extract k (k + 1))) wx := by
  rw [run_slice_string wx 9 S .i64 .i64 k ((k : Int) + 1) under_str (by omega) (by omega) (by omega)]
  rfl
end Go.Proofs.Ytcmbklofbemclaa
