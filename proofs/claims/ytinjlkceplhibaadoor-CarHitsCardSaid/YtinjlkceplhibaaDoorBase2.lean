/- More words on worlds and values. -/
import Derived.Test.YtinjlkceplhibaaDoorBase
namespace Go.Proofs.YtinjlkceplhibaaDoor
open Go.RowKit

/-- an array value's element, one cell each -/
theorem index_arr {P : Program} (t e : TypeId) (n : Nat) (d : TypeDesc) (ht : P.underlying t = some (.array n e)) (he : (P.info? e).map (·.size) = some 1) (hu : P.underlying e = some d) (hd : (match d with | .struct _ | .array _ _ => true | _ => false) = false)
    (cs : List Value) (k : Nat) (hk : k < n) (v : Value) (hv : cs[k]? = some v) (w : World) :
    (Instr.index t (.agg cs.toArray) (.int .i64 (k : Int))).run P w = .ok v w := by
  cases hq : P.info? e with
  | none => simp [hq] at he
  | some i =>
    have hs : i.size = 1 := by simpa [hq] using he
    have hz : (sizeOf e).run P w = .ok 1 w := by simp [sizeOf, typeInfo, hq, hs]
    have hl : k < cs.length := (List.getElem?_eq_some_iff.1 hv).1
    have hg : cs[k] = v := (List.getElem?_eq_some_iff.1 hv).2
    have hagg : (isAgg e).run P w = .ok false w := by
      unfold isAgg
      rw [Sem.run_bind, run_underlying hu w]
      cases d <;> simp_all
    have h0 : (0 : Int) ≤ k ∧ (k : Int) < n := by omega
    simp only [Instr.index, asIntOf, Sem.run_bind, run_underlying ht, Result.andThen, Sem.run_pure]
    simp [h0, hz, hagg, part, hl, hg]

section
variable {P : Program}
theorem run_part_int (e : TypeId) (k : IntKind) (he : P.underlying e = some (.int k)) (cs : Array Value) (i : Nat) (v : Value) (hv : cs[i]? = some v) (w : World) : (part e cs i).run P w = .ok v w := by
  have hagg : (isAgg e).run P w = .ok false w := by
    unfold isAgg
    rw [Sem.run_bind, run_underlying he w]
    rfl
  simp [part, Sem.run_bind, hagg, hv]
theorem run_equalIn_int (d : Nat) (e : TypeId) (k : IntKind) (he : P.underlying e = some (.int k)) (a b : Int) (w : World) : (Op.equalIn (d + 1) e (.int k a) (.int k b)).run P w = .ok (a == b) w := by
  simp only [Op.equalIn, Sem.run_bind, run_underlying he, Result.andThen_ok]
  simp
theorem run_eq_loop (d : Nat) (e : TypeId) (k : IntKind) (he : P.underlying e = some (.int k)) (xs ys : List Int) (hl : ys.length = xs.length) (w : World) : ∀ (n s : Nat), s + n = xs.length →
    (forIn (m := Sem) (List.range' s n) ((none : Option Bool), ()) (fun i _ => do
      let a ← part e (xs.map (Value.int k)).toArray (i * 1)
      let b ← part e (ys.map (Value.int k)).toArray (i * 1)
      let r ← Op.equalIn (d + 1) e a b
      if (!r) = true then pure (ForInStep.done (some false, ())) else pure (ForInStep.yield (none, ())))).run P w = .ok (if xs.drop s = ys.drop s then none else some false, ()) w
  | 0, s, h => by
    have h1 : xs.drop s = [] := List.drop_eq_nil_of_le (by omega)
    have h2 : ys.drop s = [] := List.drop_eq_nil_of_le (by omega)
    simp [h1, h2]
  | n + 1, s, h => by
    have hx : s < xs.length := by omega
    have hy : s < ys.length := by omega
    have ih := run_eq_loop d e k he xs ys hl w n (s + 1) (by omega)
    simp only [List.range'_succ, List.forIn_cons, Sem.run_bind, Nat.mul_one]
    rw [run_part_int e k he _ s (.int k xs[s]) (by simp [hx]), Result.andThen_ok, run_part_int e k he _ s (.int k ys[s]) (by simp [hy]), Result.andThen_ok, run_equalIn_int d e k he, Result.andThen_ok]
    have e1 : xs.drop s = xs[s] :: xs.drop (s + 1) := (List.drop_eq_getElem_cons hx)
    have e2 : ys.drop s = ys[s] :: ys.drop (s + 1) := (List.drop_eq_getElem_cons hy)
    by_cases hq : xs[s] = ys[s]
    · simp only [Nat.mul_one] at ih
      rw [if_neg (by simp [hq]), Sem.run_pure, Result.andThen_ok]
      simp only []
      rw [ih]
      have : (xs.drop s = ys.drop s) = (xs.drop (s + 1) = ys.drop (s + 1)) := by rw [e1, e2, hq]; simp only [List.cons.injEq, true_and]
      simp only [this]
    · rw [if_pos (by simp [hq]), Sem.run_pure, Result.andThen_ok]
      simp only []
      rw [if_neg (by rw [e1, e2]; intro h; exact hq (List.cons.inj h).1)]
      rfl
theorem run_equalIn_ints (d : Nat) (t e : TypeId) (n : Nat) (k : IntKind) (ht : P.underlying t = some (.array n e)) (he : P.underlying e = some (.int k)) (hs : (P.info? e).map (·.size) = some 1) (xs ys : List Int) (hx : xs.length = n) (hy : ys.length = n) (w : World) :
    (Op.equalIn (d + 1 + 1) t (.agg (xs.map (Value.int k)).toArray) (.agg (ys.map (Value.int k)).toArray)).run P w = .ok (decide (xs = ys)) w := by
  have hz : (sizeOf e).run P w = .ok 1 w := by
    cases hq : P.info? e with
    | none => simp [hq] at hs
    | some i => have h1 : i.size = 1 := by simpa [hq] using hs
                simp [sizeOf, typeInfo, hq, h1]
  have hloop := run_eq_loop (P := P) d e k he xs ys (by omega) w n 0 (by omega)
  generalize hd : d + 1 = d' at *
  simp only [Op.equalIn, Sem.run_bind, run_underlying ht, Result.andThen_ok, hz]
  simp only [Std.Legacy.Range.forIn_eq_forIn_range', Std.Legacy.Range.size, Nat.sub_zero, Nat.add_one_sub_one, Nat.div_one]
  rw [hloop]
  simp only [List.drop_zero, Result.andThen_ok]
  split <;> simp_all
theorem run_neq_ints (t e : TypeId) (n : Nat) (k : IntKind) (ht : P.underlying t = some (.array n e)) (he : P.underlying e = some (.int k)) (hs : (P.info? e).map (·.size) = some 1) (xs ys : List Int) (hx : xs.length = n) (hy : ys.length = n) (w : World) :
    (binOp .neq t (.agg (xs.map (Value.int k)).toArray) (.agg (ys.map (Value.int k)).toArray)).run P w = .ok (.bool !(decide (xs = ys))) w := by
  simp only [binOp, Op.equal, Op.maxDepth, Sem.run_bind]
  rw [show (10000 : Nat) = 9998 + 1 + 1 from rfl, run_equalIn_ints 9998 t e n k ht he hs xs ys hx hy w]
  rfl
theorem run_eql_ints (t e : TypeId) (n : Nat) (k : IntKind) (ht : P.underlying t = some (.array n e)) (he : P.underlying e = some (.int k)) (hs : (P.info? e).map (·.size) = some 1) (xs ys : List Int) (hx : xs.length = n) (hy : ys.length = n) (w : World) :
    (binOp .eql t (.agg (xs.map (Value.int k)).toArray) (.agg (ys.map (Value.int k)).toArray)).run P w = .ok (.bool (decide (xs = ys))) w := by
  simp only [binOp, Op.equal, Op.maxDepth, Sem.run_bind]
  rw [show (10000 : Nat) = 9998 + 1 + 1 from rfl, run_equalIn_ints 9998 t e n k ht he hs xs ys hx hy w]
  rfl
end

/-- xs[:h] of whatever slice, one cell each -/
theorem slice_to_any {P : Program} (t e : TypeId) (ht : P.underlying t = some (.slice e)) (he : (P.info? e).map (·.size) = some 1) (sa : Option Addr) (n c h : Nat) (hh : h ≤ c) :
    ∃ a1, (a1 = none → sa = none) ∧ (∀ pb po, sa = some ⟨pb, po, none⟩ → a1 = some ⟨pb, po, none⟩) ∧ ∀ w, (Instr.slice t (.slice sa n c) none (some (.int .i64 (h : Int))) none).run P w = .ok (.slice a1 h c) w := by
  have hel : P.elem t = e := by simp [Program.elem, ht]
  refine ⟨if c = 0 then sa else sa.map (·.add 0), (fun h => by split at h <;> simp_all), fun pb po h => by subst h; split <;> simp [Addr.add], fun w => ?_⟩
  rw [run_slice_h w t sa n c (by rw [hel]; exact ht) .i64 h (by omega) (by omega), hel]
  cases hq : P.info? e with
  | none => simp [hq] at he
  | some i =>
    have hs : i.size = 1 := by simpa [hq] using he
    have hz : (sizeOf e).run P w = .ok 1 w := by simp [sizeOf, typeInfo, hq, hs]
    rw [hz]
    simp only [Result.andThen, sliced, Int.toNat_natCast, Nat.zero_mul, Nat.sub_zero]
/-- xs[k:] of whatever slice, one cell each -/
theorem slice_from_any {P : Program} (t e : TypeId) (ht : P.underlying t = some (.slice e)) (he : (P.info? e).map (·.size) = some 1) (sa : Option Addr) (n c k : Nat) (hk : k ≤ n) (hc : n ≤ c) :
    ∃ a2, (a2 = none → sa = none) ∧ (0 < n - k → ∀ pb po, sa = some ⟨pb, po, none⟩ → a2 = some ⟨pb, po + k, none⟩) ∧ ∀ w, (Instr.slice t (.slice sa n c) (some (.int .i64 (k : Int))) none none).run P w = .ok (.slice a2 (n - k) (c - k)) w := by
  have hel : P.elem t = e := by simp [Program.elem, ht]
  refine ⟨if c = k then sa else sa.map (·.add k), (fun h => by split at h <;> simp_all), fun h pb po h2 => by subst h2; rw [if_neg (by omega)]; simp only [Option.map_some, Addr.add]; split <;> simp_all, fun w => ?_⟩
  rw [run_slice_l w t sa n c (by rw [hel]; exact ht) .i64 k (by omega) (by omega), hel]
  cases hq : P.info? e with
  | none => simp [hq] at he
  | some i =>
    have hs : i.size = 1 := by simpa [hq] using he
    have hz : (sizeOf e).run P w = .ok 1 w := by simp [sizeOf, typeInfo, hq, hs]
    rw [hz]
    simp only [Result.andThen, sliced, Int.toNat_natCast, Nat.mul_one]
theorem rangeAt_mod {S : Nat → Prop} {w w' : World} {b o : Nat} {cs : List Value} (h : w.rangeAt b o cs) (hM : Mod S w w') (hS : ¬ S b) : w'.rangeAt b o cs := fun j v hj => hM.cellS (h j v hj) hS
theorem rangeAt_none {w w' : World} {b o : Nat} {cs : List Value} (h : w.rangeAt b o cs) (hM : Mod none_ w w') : w'.rangeAt b o cs := rangeAt_mod h hM (fun h => h)
theorem Mod.then {w w1 w2 : World} (h : Mod none_ w w1) (k : Mod none_ w1 w2) : Mod none_ w w2 := h.trans k (fun _ _ h => h)
end Go.Proofs.YtinjlkceplhibaaDoor
