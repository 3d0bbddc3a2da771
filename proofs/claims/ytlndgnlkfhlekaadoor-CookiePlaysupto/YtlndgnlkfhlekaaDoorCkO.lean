/- Arrays among the arguments of joustlaw10's laws, opened. -/
import Derived.Test.YtlndgnlkfhlekaaDoorStrsO
import Derived.Lib.SmallJoins
import Derived.Laws.IdiomArrays
namespace Go.Proofs.YtlndgnlkfhlekaaDoor
open Go.RowKit Go.ChangeShapes Go.WideShapes

theorem okWide_arr {P : Program} {w : World} {r : Reach} {base : Nat} {t e : TypeId} {n : Nat} {v : Value} (ht : P.underlying t = some (.array n e)) (h : Value.okWide P w r base t v) : ∃ cs, v = .agg cs ∧ cs.size = P.cellsOf t := by
  simp only [Value.okWide, ht] at h
  obtain ⟨cs, h1, h2, _⟩ := h
  exact ⟨cs, h1, h2⟩
theorem trod_array2 {H : Type} {enc : TypeId × Value → H} {P : Program} {w : World} {base : Nat} {spare : Nat → Bool} {held : Bool} {t e : TypeId} {fuel : Nat} {c0 c1 : Value} {x : DataW H × List MemPlace} (ht : P.underlying t = some (.array 2 e)) (hce : P.cellsOf e = 1)
    (h : DataW.trod enc P w base spare held fuel t [c0, c1] = some x) :
    ∃ y0 y1 n, x = (.agg [y0.1, y1.1], y0.2 ++ y1.2) ∧ DataW.trod enc P w base spare held n e [c0] = some y0 ∧ DataW.trod enc P w base spare held n e [c1] = some y1 := by
  cases fuel with
  | zero => simp [DataW.trod] at h
  | succ n =>
    unfold DataW.trod at h
    rw [ht] at h
    have r2 : List.range 2 = [0, 1] := rfl
    simp [r2, hce] at h
    obtain ⟨_, h⟩ := h
    cases h0 : DataW.trod enc P w base spare held n e [c0] with
    | none => simp [h0] at h
    | some y0 =>
      cases h1 : DataW.trod enc P w base spare held n e [c1] with
      | none => simp [h0, h1] at h
      | some y1 =>
        simp [h0, h1] at h
        exact ⟨y0, y1, n, h.symm, h0, h1⟩
theorem ints2_open {H : Type} {enc : TypeId × Value → H} {W : World} {r : Reach} {b0 : Nat} {v : Value} {d : DataW H} {ps : List MemPlace} (hval : Value.okWide Tryd.prog W r b0 54 v) (h : DataW.Trod enc Tryd.prog W 0 (fun _ => true) true 54 v d ps) :
    ∃ x y : Int, v = .agg #[.int .i64 x, .int .i64 y] := by
  obtain ⟨cs, rfl, hsz⟩ := okWide_arr Tryd.underlying54 hval
  obtain ⟨c0, c1, rfl⟩ := Joins.array2 (hsz.trans (by kernel_rfl))
  obtain ⟨fuel, hf⟩ := h
  obtain ⟨y0, y1, n, _, h0, h1⟩ := trod_array2 Tryd.underlying54 (by kernel_rfl) (by simpa [Value.cells] using hf)
  obtain ⟨a0, e0, _, _⟩ := DataW.trod_int Tryd.underlying3 h0
  obtain ⟨a1, e1, _, _⟩ := DataW.trod_int Tryd.underlying3 h1
  simp at e0 e1
  exact ⟨a0, a1, by rw [e0, e1]⟩
theorem strs4_open {H : Type} {enc : TypeId × Value → H} {W : World} {r : Reach} {b0 : Nat} {v : Value} {d : DataW H} {ps : List MemPlace} (hval : Value.okWide Tryd.prog W r b0 45 v) (h : DataW.Trod enc Tryd.prog W 0 (fun _ => true) true 45 v d ps) :
    ∃ x y z u : ByteArray, v = .agg #[.string x, .string y, .string z, .string u] ∧ d = .agg [.lit (.string x.data.toList), .lit (.string y.data.toList), .lit (.string z.data.toList), .lit (.string u.data.toList)] := by
  obtain ⟨cs, rfl, hsz⟩ := okWide_arr Tryd.underlying45 hval
  obtain ⟨c0, c1, c2, c3, rfl⟩ := Joins.array4 (hsz.trans (by kernel_rfl))
  obtain ⟨fuel, hf⟩ := h
  obtain ⟨y0, y1, y2, y3, n, hx, h0, h1, h2, h3⟩ := trod_array4 Tryd.underlying45 (by kernel_rfl) (by simpa [Value.cells] using hf)
  obtain ⟨a0, e0, q0, _⟩ := DataW.trod_string Tryd.underlying9 h0
  obtain ⟨a1, e1, q1, _⟩ := DataW.trod_string Tryd.underlying9 h1
  obtain ⟨a2, e2, q2, _⟩ := DataW.trod_string Tryd.underlying9 h2
  obtain ⟨a3, e3, q3, _⟩ := DataW.trod_string Tryd.underlying9 h3
  simp at e0 e1 e2 e3
  rw [q0, q1, q2, q3] at hx
  exact ⟨a0, a1, a2, a3, by rw [e0, e1, e2, e3], by simpa using congrArg Prod.fst hx⟩
end Go.Proofs.YtlndgnlkfhlekaaDoor
