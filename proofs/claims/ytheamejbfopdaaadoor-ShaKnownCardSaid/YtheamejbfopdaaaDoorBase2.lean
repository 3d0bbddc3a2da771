/- More words on worlds and values. -/
import Derived.Test.YtheamejbfopdaaaDoorBase
namespace Go.Proofs.YtheamejbfopdaaaDoor
open Go.RowKit

/-- an array value's element, one cell each -/
theorem index_arr {P : Program} (t e : TypeId) (n : Nat) (d : TypeDesc) (ht : P.underlying t = some (.array n e)) (he : (P.info? e).map (·.size) = some 1) (hu : P.underlying e = some d) (hd : (match d with | .struct _ | .array _ _ => true | _ => false) = false)
    (cs : List Value) (k : Nat) (hk : k < n) (v : Value) (hv : cs[k]? = some v) (w : World) :
    (Instr.index t (.agg cs.toArray) (.int .i64 (k : Int))).run P w = .ok v w := by
  cases hq : P.info? e with
  | none => simp [hq] at he
  | some i =>
    have hs : i.size = 1 := by simpa [hq] using he
    have hz : (sizeOf e).run P w = .ok 1 w := by simp [sizeOf, typeInfo, hq, hs]
    have hl : k < cs.length := (List.getElem?_eq_some_iff.1 hv).1
    have hg : cs[k] = v := (List.getElem?_eq_some_iff.1 hv).2
    have hagg : (isAgg e).run P w = .ok false w := by
      unfold isAgg
      rw [Sem.run_bind, run_underlying hu w]
      cases d <;> simp_all
    have h0 : (0 : Int) ≤ k ∧ (k : Int) < n := by omega
    simp only [Instr.index, asIntOf, Sem.run_bind, run_underlying ht, Result.andThen, Sem.run_pure]
    simp [h0, hz, hagg, part, hl, hg]
end Go.Proofs.YtheamejbfopdaaaDoor
