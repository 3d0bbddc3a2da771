/- BoardMemory: two lists of spawns are each the caller's own; another board read beside it changes nothing. No condition. -/
import Derived.Test.YtlndgnlkfhlekaaBdM
import Derived.Test.YtlndgnlkfhlekaaBase3
import Derived.ChangeMaps5
import Derived.JoinedCond
import Derived.ChangeOld
import Derived.Test.YtlndgnlkfhlekaaRows
import Derived.WalkKit
import Derived.ProofKit
import Derived.OpenShut
import Derived.SizedLaws
import Derived.ChangeOld
namespace Go.Proofs.Ytlndgnlkfhlekaa.lawBoardMemory
open Go.ChangeShapes Go.WideShapes Go.ChangeAt Go.RowKit

theorem own : ownKnob Try.prog.godebug = none := by kernel_rfl

theorem contract (H : Type) (enc : TypeId × Value → H) (W : World) (base : Nat) (args : Array Value) (ds gs : List (DataW H)) (before : List MemPlace)
    (hval : ∀ (j : Nat) t v, Try.f8.params[j]? = some t → args[j]? = some v → Value.okWide Try.prog W .any base t v)
    (hW : DataW.Whole enc Try.prog Try.f8.params.toList Rows.boardMemorySpec.vars false W args.toList ds gs before) :
    Calls Try.prog 8 args W fun e W' => ∃ v, e = .returned v ∧ Rows.boardMemorySpec.post enc Try.prog Try.f8 false true false false W args v W' := by
  have hW' := hW
  obtain ⟨p, q, hA0, hV, rfl, hfz, hnd⟩ := hW
  obtain ⟨rfl, rfl⟩ := trodVars_none hV
  have hA := hA0
  rw [Try.params8] at hA hval
  obtain ⟨v0, vs0, d0, ds0, p0, q0, e0, rfl, rfl, h0, hA⟩ := arg_cons hA
  obtain ⟨v1, vs1, d1, ds1, p1, q1, rfl, rfl, rfl, h1, hA⟩ := arg_cons hA
  obtain ⟨rfl, rfl, rfl⟩ := trodAll_nil hA
  obtain rfl : args = #[v0, v1] := by cases args; simp_all
  obtain ⟨a, rfl, rfl, rfl, ha⟩ := ChangeMaps.open_string Try.underlying9 (hval 0 _ v0 rfl rfl) h0
  obtain ⟨b, rfl, rfl, rfl, hb⟩ := ChangeMaps.open_string Try.underlying9 (hval 1 _ v1 rfl rfl) h1
  refine (boardMemory_any W a b (by unfold maxLen at ha; omega) (by unfold maxLen at hb; omega)).mono fun e W' ⟨he, hM⟩ => ⟨_, he, ?_⟩
  exact post_true (tb := 4) (by kernel_rfl) hW' hM (by kernel_rfl) rfl rfl Try.underlying4 rfl rfl

set_option maxRecDepth 100000 in
theorem lifted (os : Os) (started : os.Started) (H : Type) (enc : TypeId × Value → H) :
    ReturnsInHanded {} Try.checked os 8 .any (Rows.boardMemorySpec.pre6 enc Try.prog Try.f8 Rows.boardMemoryRow.domain false) (Rows.boardMemorySpec.post enc Try.prog Try.f8 false true false false) := by
  refine returnsInHanded_of_change (C := Try.checked) own started (by kernel_rfl) Try.func8
    (ChangeSpec.witness6 (enc := enc) (C := Try.checked) false ⟨#[], #[.string ⟨#[]⟩, .string ⟨#[]⟩], []⟩ 8 (by kernel_rfl) (by kernel_rfl) (by kernel_rfl) (by kernel_rfl)) ?_
  intro W base args ds gs before hval hW _ _
  exact contract H enc W base args ds gs before hval hW

theorem said : Rows.BoardMemorySaid :=
  OpenClaim.holds_of_wide 8 Try.f8 rfl rfl rfl rfl rfl rfl rfl ⟨rfl, rfl, rfl, rfl, rfl⟩ rfl rfl rfl rfl rfl (by kernel_rfl) Try.func8 (by kernel_rfl)
    (of_decide_eq_true (by kernel_rfl)) (by unfold Func.isWrapper; first | (rw [if_pos (by decide +kernel)]; kernel_rfl) | (rw [if_neg (by decide +kernel)]; exact ⟨rfl, rfl⟩))
    (fun os started H enc _ => lifted os started H enc)
#print axioms said
end Go.Proofs.Ytlndgnlkfhlekaa.lawBoardMemory
