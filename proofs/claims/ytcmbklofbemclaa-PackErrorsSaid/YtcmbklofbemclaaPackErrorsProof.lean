/- PackErrors: behind the first error a Writer's Done is that error, whatever comes; a Reader's too, and it answers 0 and "" alone. No condition. -/
import Derived.Test.YtcmbklofbemclaaOpsO
import Derived.Test.YtcmbklofbemclaaPkEr
import Derived.Test.YtcmbklofbemclaaBase3
import Derived.ChangeMaps5
import Derived.JoinedCond
import Derived.Test.YtcmbklofbemclaaRows
import Derived.WalkKit
import Derived.ProofKit
import Derived.OpenShut
import Derived.SizedLaws
import Derived.ChangeOld
namespace Go.Proofs.Ytcmbklofbemclaa.lawPackErrors
open Go.ChangeShapes Go.WideShapes Go.ChangeAt Go.RowKit

theorem own : ownKnob Try.prog.godebug = none := by kernel_rfl

theorem contract (H : Type) (enc : TypeId × Value → H) (W : World) (base : Nat) (args : Array Value) (ds gs : List (DataW H)) (before : List MemPlace)
    (hval : ∀ (j : Nat) t v, Try.f8.params[j]? = some t → args[j]? = some v → Value.okWide Try.prog W .any base t v)
    (hW : DataW.Whole enc Try.prog Try.f8.params.toList Rows.packErrorsSpec.vars false W args.toList ds gs before) (hsz : (DataW.weightsEach Try.prog (Try.f8.params.toList ++ Rows.packErrorsSpec.plain.varTypes Try.prog) (ds ++ gs)).all (· ≤ reachBytes) = true) :
    Calls Try.prog 8 args W fun e W' => ∃ v, e = .returned v ∧ Rows.packErrorsSpec.post enc Try.prog Try.f8 false true false false W args v W' := by
  have hW' := hW
  obtain ⟨p, q, hA0, hV, rfl, hfz, hnd⟩ := hW
  obtain ⟨rfl, rfl⟩ := trodVars_none hV
  have hA := hA0
  rw [Try.params8] at hA hval
  obtain ⟨v0, vs0, d0, ds0, p0, q0, e0, rfl, rfl, h0, hA⟩ := arg_cons hA
  obtain ⟨v1, vs1, d1, ds1, p1, q1, rfl, rfl, rfl, h1, hA⟩ := arg_cons hA
  obtain ⟨v2, vs2, d2, ds2, p2, q2, rfl, rfl, rfl, h2, hA⟩ := arg_cons hA
  obtain ⟨rfl, rfl, rfl⟩ := trodAll_nil hA
  obtain rfl : args = #[v0, v1, v2] := by cases args; simp_all
  obtain ⟨a, rfl, rfl, rfl, ha⟩ := ChangeMaps.open_string Try.underlying9 (hval 0 _ v0 rfl rfl) h0
  obtain ⟨sa, n, c, O, rfl, ⟨hnc, hnm⟩, hP, hd, hO⟩ := ops_open (hval 1 _ v1 rfl rfl) h1
  obtain ⟨b, rfl, rfl, rfl, _⟩ := open_int Try.underlying3 (hval 2 _ v2 rfl rfl) h2
  have hs : a.size ≤ reachBytes := sized_string hsz (j := 0) (t := 9) rfl rfl
  have hr : reachBytes = 140737488351232 := by decide
  have hz : ∀ o ∈ (List.range n).map O, o.size ≤ 9223372036854775807 := fun o ho => by
    obtain ⟨i, hi, rfl⟩ := List.mem_map.1 ho
    have := (hO i (by have := List.mem_range.1 hi; omega)).2.2.2
    simp [Lit.wf, IntKind.min, IntKind.max, IntKind.signed, IntKind.bits] at this
    omega
  refine (packErrors_any W a (by omega) sa n c hnm _ hP hz b).mono fun e W' ⟨he, hM⟩ => ⟨_, he, ?_⟩
  exact post_true (tb := 4) (by kernel_rfl) hW' hM (by kernel_rfl) rfl rfl Try.underlying4 rfl rfl

set_option maxRecDepth 100000 in
theorem lifted (os : Os) (started : os.Started) (H : Type) (enc : TypeId × Value → H) :
    ReturnsInHanded {} Try.checked os 8 .any (Rows.packErrorsSpec.pre6 enc Try.prog Try.f8 Rows.packErrorsRow.domain false) (Rows.packErrorsSpec.post enc Try.prog Try.f8 false true false false) := by
  refine returnsInHanded_of_change_sized (C := Try.checked) own started (by kernel_rfl) Try.func8
    (ChangeSpec.witness6 (enc := enc) (C := Try.checked) false ⟨#[], #[.string ⟨#[]⟩, .slice none 0 0, .int .i64 0], []⟩ 8 (by kernel_rfl) (by kernel_rfl) (by kernel_rfl) (by kernel_rfl)) ?_
  intro W base args ds gs before hval hW _ hsz _
  exact contract H enc W base args ds gs before hval hW hsz

theorem said : Rows.PackErrorsSaid :=
  OpenClaim.holds_of_wide 8 Try.f8 rfl rfl rfl rfl rfl rfl rfl ⟨rfl, rfl, rfl, rfl, rfl⟩ rfl rfl rfl rfl rfl (by kernel_rfl) Try.func8 (by kernel_rfl)
    (of_decide_eq_true (by kernel_rfl)) (by unfold Func.isWrapper; first | (rw [if_pos (by decide +kernel)]; kernel_rfl) | (rw [if_neg (by decide +kernel)]; exact ⟨rfl, rfl⟩))
    (fun os started H enc _ => lifted os started H enc)
#print axioms said
end Go.Proofs.Ytcmbklofbemclaa.lawPackErrors
