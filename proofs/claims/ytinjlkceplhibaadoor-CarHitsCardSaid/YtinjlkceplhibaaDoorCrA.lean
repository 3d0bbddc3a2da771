/- Cars, shots: their cells; equality. -/
import Derived.Test.YtinjlkceplhibaaDoorVxH
import Derived.Laws.StructEq
namespace Go.Proofs.YtinjlkceplhibaaDoor
open Go.RowKit

/-- a car's cells -/
structure Cr where
  player : Int
  name : ByteArray
  ax : Int
  ay : Int
  sx : Int
  sy : Int
  heading : Int
  health : Int
  energy : Int
  ammo : Int
  cool : Int
  wait : Int
  spawns : Int
  score : Int
def Cr.cells (c : Cr) : List Value := [.int .i64 c.player, .string c.name, .int .i64 c.ax, .int .i64 c.ay, .int .i64 c.sx, .int .i64 c.sy, .int .i64 c.heading, .int .i64 c.health, .int .i64 c.energy, .int .i64 c.ammo, .int .i64 c.cool, .int .i64 c.wait, .int .i64 c.spawns, .int .i64 c.score]
def Cr.agg (c : Cr) : Value := .agg c.cells.toArray
/-- as Go's numbers may be -/
structure Cr.Ok (c : Cr) : Prop where
  player : Bd.I64 c.player
  name : c.name.size ≤ 9223372036854775807
  ax : Bd.I64 c.ax
  ay : Bd.I64 c.ay
  sx : Bd.I64 c.sx
  sy : Bd.I64 c.sy
  heading : Bd.I64 c.heading
  health : Bd.I64 c.health
  energy : Bd.I64 c.energy
  ammo : Bd.I64 c.ammo
  cool : Bd.I64 c.cool
  wait : Bd.I64 c.wait
  spawns : Bd.I64 c.spawns
  score : Bd.I64 c.score
/-- a shot's cells -/
structure Sh where
  id : Int
  player : Int
  ax : Int
  ay : Int
  sx : Int
  sy : Int
  left : Int
def Sh.cells (s : Sh) : List Value := [.int .i64 s.id, .int .i64 s.player, .int .i64 s.ax, .int .i64 s.ay, .int .i64 s.sx, .int .i64 s.sy, .int .i64 s.left]
def Sh.agg (s : Sh) : Value := .agg s.cells.toArray
structure Sh.Ok (s : Sh) : Prop where
  id : Bd.I64 s.id
  player : Bd.I64 s.player
  ax : Bd.I64 s.ax
  ay : Bd.I64 s.ay
  sx : Bd.I64 s.sx
  sy : Bd.I64 s.sy
  left : Bd.I64 s.left
def Cr.beq (a b : Cr) : Bool := a.player == b.player && (a.name.toList == b.name.toList && ((a.ax == b.ax && a.ay == b.ay) && ((a.sx == b.sx && a.sy == b.sy) && (a.heading == b.heading && (a.health == b.health && (a.energy == b.energy && (a.ammo == b.ammo && (a.cool == b.cool && (a.wait == b.wait && (a.spawns == b.spawns && (a.score == b.score && true)))))))))))
def Sh.beq (a b : Sh) : Bool := a.id == b.id && (a.player == b.player && ((a.ax == b.ax && a.ay == b.ay) && ((a.sx == b.sx && a.sy == b.sy) && (a.left == b.left && true))))
theorem Cr.beq_self (a : Cr) : Cr.beq a a = true := by unfold Cr.beq; simp
theorem Sh.beq_self (a : Sh) : Sh.beq a a = true := by unfold Sh.beq; simp
theorem bytes_eq {a b : ByteArray} (h : a.toList = b.toList) : a = b := by
  have h1 := ByteArray.toList_eq a
  have h2 := ByteArray.toList_eq b
  rw [h1, h2] at h
  obtain ⟨⟨x⟩⟩ := a
  obtain ⟨⟨y⟩⟩ := b
  simp at h
  rw [h]
theorem Cr.beq_iff (a b : Cr) : Cr.beq a b = true ↔ a = b := by
  constructor
  · intro h
    unfold Cr.beq at h
    simp only [Bool.and_eq_true, beq_iff_eq, and_true] at h
    obtain ⟨h1, h2, ⟨h3, h4⟩, ⟨h5, h6⟩, h7, h8, h9, h10, h11, h12, h13, h14⟩ := h
    cases a
    cases b
    simp only at h1 h2 h3 h4 h5 h6 h7 h8 h9 h10 h11 h12 h13 h14
    have := bytes_eq h2
    subst_vars
    rfl
  · rintro rfl
    exact Cr.beq_self a
theorem Sh.beq_iff (a b : Sh) : Sh.beq a b = true ↔ a = b := by
  constructor
  · intro h
    unfold Sh.beq at h
    simp only [Bool.and_eq_true, beq_iff_eq, and_true] at h
    obtain ⟨h1, h2, ⟨h3, h4⟩, ⟨h5, h6⟩, h7⟩ := h
    cases a
    cases b
    simp only at h1 h2 h3 h4 h5 h6 h7
    subst_vars
    rfl
  · rintro rfl
    exact Sh.beq_self a

/-- equality, field by field, off a list of their names, types and places -/
def eqS (d : Nat) (xs ys : Array Value) : List (String × TypeId × Nat) → Sem Bool
  | [] => pure true
  | f :: fs =>
    if f.1 ≠ "_" then do
      let a ← part f.2.1 xs f.2.2
      let b ← part f.2.1 ys f.2.2
      let r ← Op.equalIn d f.2.1 a b
      if (!r) = true then pure false else eqS d xs ys fs
    else eqS d xs ys fs
theorem eqS_of (d : Nat) (xs ys : Array Value) : ∀ fs : List Field, Op.eqFields d xs ys fs = eqS d xs ys (fs.map fun f => (f.name, f.type, f.offset))
  | [] => rfl
  | f :: fs => by
    simp only [Op.eqFields, List.map_cons, eqS, eqS_of d xs ys fs]
/-- one field -/
theorem eqS_step {P : Program} (d : Nat) (xs ys : Array Value) (n : String) (t : TypeId) (o : Nat) (fs : List (String × TypeId × Nat)) (w : World) (a b : Value) (r : Bool) (s : Bool) (hn : n ≠ "_") (h1 : (part t xs o).run P w = .ok a w) (h2 : (part t ys o).run P w = .ok b w)
    (h3 : (Op.equalIn d t a b).run P w = .ok r w) (h4 : (eqS d xs ys fs).run P w = .ok s w) : (eqS d xs ys ((n, t, o) :: fs)).run P w = .ok (r && s) w := by
  simp only [eqS, ne_eq, hn, not_false_eq_true, if_true, Sem.run_bind, h1, h2, h3, Result.andThen_ok]
  cases r
  · simp
  · simpa using h4
theorem vec_fields : (Tryd.prog.fieldsOf 23).toList.map (fun f => (f.name, f.type, f.offset)) = [("X", 2, 0), ("Y", 2, 1)] := by kernel_rfl
theorem car_fields : (Tryd.prog.fieldsOf 25).toList.map (fun f => (f.name, f.type, f.offset)) = [("Player", 3, 0), ("Name", 9, 1), ("At", 23, 2), ("Speed", 23, 4), ("Heading", 3, 6), ("Health", 3, 7), ("Energy", 3, 8), ("Ammo", 3, 9), ("Cool", 3, 10), ("Wait", 3, 11), ("Spawns", 3, 12), ("Score", 3, 13)] := by kernel_rfl
theorem shot_fields : (Tryd.prog.fieldsOf 28).toList.map (fun f => (f.name, f.type, f.offset)) = [("Id", 3, 0), ("Player", 3, 1), ("At", 23, 2), ("Speed", 23, 4), ("Left", 3, 6)] := by kernel_rfl
theorem part_int (xs : Array Value) (o : Nat) (v : Value) (h : xs[o]? = some v) (w : World) : (part 3 xs o).run Tryd.prog w = .ok v w := run_part_int 3 .i64 Tryd.underlying3 xs o v h w
theorem part_int64 (xs : Array Value) (o : Nat) (v : Value) (h : xs[o]? = some v) (w : World) : (part 2 xs o).run Tryd.prog w = .ok v w := run_part_int 2 .i64 Tryd.underlying2 xs o v h w
theorem part_str (xs : Array Value) (o : Nat) (v : Value) (h : xs[o]? = some v) (w : World) : (part 9 xs o).run Tryd.prog w = .ok v w := by
  have hagg : (isAgg 9).run Tryd.prog w = .ok false w := by kernel_rfl
  simp [part, Sem.run_bind, hagg, h]
theorem part_vec (xs : Array Value) (o : Nat) (v : Array Value) (h : xs.extract o (o + 2) = v) (w : World) : (part 23 xs o).run Tryd.prog w = .ok (.agg v) w := by
  have hagg : (isAgg 23).run Tryd.prog w = .ok true w := by kernel_rfl
  have hs : (sizeOf 23).run Tryd.prog w = .ok 2 w := by kernel_rfl
  rw [part, Sem.run_bind, hagg, Result.andThen_ok, if_pos rfl, Sem.run_bind, hs, Result.andThen_ok, h, Sem.run_pure]
theorem eqIn_vec (d : Nat) (w : World) (a b c e : Int) : (Op.equalIn (d + 1 + 1) 23 (.agg #[.int .i64 a, .int .i64 b]) (.agg #[.int .i64 c, .int .i64 e])).run Tryd.prog w = .ok (a == c && b == e) w := by
  rw [run_equalIn_agg (d := d + 1) w 23 _ _ (by kernel_rfl) (by kernel_rfl), eqS_of, vec_fields]
  have h := eqS_step (P := Tryd.prog) (d + 1) #[.int .i64 a, .int .i64 b] #[.int .i64 c, .int .i64 e] "X" 2 0 [("Y", 2, 1)] w _ _ _ _ (by decide) (part_int64 _ _ _ rfl w) (part_int64 _ _ _ rfl w) (_root_.Go.run_equalIn_int w d 2 .i64 .i64 a c Tryd.underlying2)
    (eqS_step (d + 1) _ _ "Y" 2 1 [] w _ _ _ _ (by decide) (part_int64 _ _ _ rfl w) (part_int64 _ _ _ rfl w) (_root_.Go.run_equalIn_int w d 2 .i64 .i64 b e Tryd.underlying2) rfl)
  rw [h, Bool.and_true]
theorem eqI (d : Nat) (w : World) (a b : Int) : (Op.equalIn (d + 1) 3 (.int .i64 a) (.int .i64 b)).run Tryd.prog w = .ok (a == b) w := _root_.Go.run_equalIn_int w d 3 .i64 .i64 a b Tryd.underlying3
theorem eqIn_car (w : World) (a b : Cr) : (Op.equalIn 10000 25 a.agg b.agg).run Tryd.prog w = .ok (Cr.beq a b) w := by
  unfold Cr.agg
  rw [run_equalIn_agg (d := 9999) w 25 _ _ (by kernel_rfl) (by kernel_rfl), eqS_of, car_fields]
  refine eqS_step 9999 _ _ _ _ _ _ w _ _ _ _ (by decide) (part_int _ _ _ rfl w) (part_int _ _ _ rfl w) (eqI 9998 w _ _) ?_
  refine eqS_step 9999 _ _ _ _ _ _ w _ _ _ _ (by decide) (part_str _ _ _ rfl w) (part_str _ _ _ rfl w) (run_equalIn_string w 9998 9 _ _ Tryd.underlying9) ?_
  refine eqS_step 9999 _ _ _ _ _ _ w _ _ _ _ (by decide) (part_vec _ _ _ rfl w) (part_vec _ _ _ rfl w) (eqIn_vec 9997 w _ _ _ _) ?_
  refine eqS_step 9999 _ _ _ _ _ _ w _ _ _ _ (by decide) (part_vec _ _ _ rfl w) (part_vec _ _ _ rfl w) (eqIn_vec 9997 w _ _ _ _) ?_
  refine eqS_step 9999 _ _ _ _ _ _ w _ _ _ _ (by decide) (part_int _ _ _ rfl w) (part_int _ _ _ rfl w) (eqI 9998 w _ _) ?_
  refine eqS_step 9999 _ _ _ _ _ _ w _ _ _ _ (by decide) (part_int _ _ _ rfl w) (part_int _ _ _ rfl w) (eqI 9998 w _ _) ?_
  refine eqS_step 9999 _ _ _ _ _ _ w _ _ _ _ (by decide) (part_int _ _ _ rfl w) (part_int _ _ _ rfl w) (eqI 9998 w _ _) ?_
  refine eqS_step 9999 _ _ _ _ _ _ w _ _ _ _ (by decide) (part_int _ _ _ rfl w) (part_int _ _ _ rfl w) (eqI 9998 w _ _) ?_
  refine eqS_step 9999 _ _ _ _ _ _ w _ _ _ _ (by decide) (part_int _ _ _ rfl w) (part_int _ _ _ rfl w) (eqI 9998 w _ _) ?_
  refine eqS_step 9999 _ _ _ _ _ _ w _ _ _ _ (by decide) (part_int _ _ _ rfl w) (part_int _ _ _ rfl w) (eqI 9998 w _ _) ?_
  refine eqS_step 9999 _ _ _ _ _ _ w _ _ _ _ (by decide) (part_int _ _ _ rfl w) (part_int _ _ _ rfl w) (eqI 9998 w _ _) ?_
  refine eqS_step 9999 _ _ _ _ _ _ w _ _ _ _ (by decide) (part_int _ _ _ rfl w) (part_int _ _ _ rfl w) (eqI 9998 w _ _) ?_
  rfl
theorem eqIn_shot (w : World) (a b : Sh) : (Op.equalIn 10000 28 a.agg b.agg).run Tryd.prog w = .ok (Sh.beq a b) w := by
  unfold Sh.agg
  rw [run_equalIn_agg (d := 9999) w 28 _ _ (by kernel_rfl) (by kernel_rfl), eqS_of, shot_fields]
  refine eqS_step 9999 _ _ _ _ _ _ w _ _ _ _ (by decide) (part_int _ _ _ rfl w) (part_int _ _ _ rfl w) (eqI 9998 w _ _) ?_
  refine eqS_step 9999 _ _ _ _ _ _ w _ _ _ _ (by decide) (part_int _ _ _ rfl w) (part_int _ _ _ rfl w) (eqI 9998 w _ _) ?_
  refine eqS_step 9999 _ _ _ _ _ _ w _ _ _ _ (by decide) (part_vec _ _ _ rfl w) (part_vec _ _ _ rfl w) (eqIn_vec 9997 w _ _ _ _) ?_
  refine eqS_step 9999 _ _ _ _ _ _ w _ _ _ _ (by decide) (part_vec _ _ _ rfl w) (part_vec _ _ _ rfl w) (eqIn_vec 9997 w _ _ _ _) ?_
  refine eqS_step 9999 _ _ _ _ _ _ w _ _ _ _ (by decide) (part_int _ _ _ rfl w) (part_int _ _ _ rfl w) (eqI 9998 w _ _) ?_
  rfl
theorem eqC (w : World) (a b : Cr) : (binOp .eql 25 a.agg b.agg).run Tryd.prog w = .ok (.bool (Cr.beq a b)) w := by
  have h := eqIn_car w a b
  unfold Cr.agg at h ⊢
  rw [run_eql_struct, h]
  rfl
theorem neC (w : World) (a b : Cr) : (binOp .neq 25 a.agg b.agg).run Tryd.prog w = .ok (.bool (!(Cr.beq a b))) w := by
  have h := eqIn_car w a b
  unfold Cr.agg at h ⊢
  rw [run_neq_struct, h]
  rfl
theorem eqSh (w : World) (a b : Sh) : (binOp .eql 28 a.agg b.agg).run Tryd.prog w = .ok (.bool (Sh.beq a b)) w := by
  have h := eqIn_shot w a b
  unfold Sh.agg at h ⊢
  rw [run_eql_struct, h]
  rfl
theorem neSh (w : World) (a b : Sh) : (binOp .neq 28 a.agg b.agg).run Tryd.prog w = .ok (.bool (!(Sh.beq a b))) w := by
  have h := eqIn_shot w a b
  unfold Sh.agg at h ⊢
  rw [run_neq_struct, h]
  rfl
theorem eqV (w : World) (a b c d : Int) : (binOp .eql 23 (.agg #[.int .i64 a, .int .i64 b]) (.agg #[.int .i64 c, .int .i64 d])).run Tryd.prog w = .ok (.bool (a == c && b == d)) w := by
  rw [run_eql_struct, eqIn_vec 9998]
  rfl
theorem neV (w : World) (a b c d : Int) : (binOp .neq 23 (.agg #[.int .i64 a, .int .i64 b]) (.agg #[.int .i64 c, .int .i64 d])).run Tryd.prog w = .ok (.bool (!(a == c && b == d))) w := by
  rw [run_neq_struct, eqIn_vec 9998]
  rfl
end Go.Proofs.YtinjlkceplhibaaDoor
