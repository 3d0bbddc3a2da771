/- PackBack: what is laid without an error is taken by the same calls, and a Reader is done with it; for arguments of bulk at most 1048576. -/
import Derived.Test.YtcmbklofbemclaaOpsO
import Derived.Test.YtcmbklofbemclaaPkBl
import Derived.Test.YtcmbklofbemclaaBase3
import Derived.Test.YtcmbklofbemclaaBulk
import Derived.JoinedCond
import Derived.Test.YtcmbklofbemclaaRows
import Derived.WalkKit
import Derived.ProofKit
import Derived.OpenShut
namespace Go.Proofs.Ytcmbklofbemclaa.lawPackBack
open Go.ChangeShapes Go.WideShapes Go.ChangeAt Go.RowKit

theorem own : ownKnob Try.prog.godebug = none := by kernel_rfl

theorem contract (H : Type) (enc : TypeId × Value → H) (W : World) (base : Nat) (args : Array Value) (ds gs : List (DataW H)) (before : List MemPlace)
    (hval : ∀ (j : Nat) t v, Try.f6.params[j]? = some t → args[j]? = some v → Value.okWide Try.prog W .any base t v)
    (hW : DataW.Whole enc Try.prog Try.f6.params.toList Rows.packBackSpec.vars false W args.toList ds gs before) (hk : Rows.uptoSmall H (ds ++ gs) = true) :
    Calls Try.prog 6 args W fun e W' => ∃ v, e = .returned v ∧ Rows.packBackSpec.post enc Try.prog Try.f6 false true false false W args v W' := by
  have hW' := hW
  obtain ⟨p, q, hA0, hV, rfl, hfz, hnd⟩ := hW
  obtain ⟨rfl, rfl⟩ := trodVars_none hV
  have hA := hA0
  rw [Try.params6] at hA hval
  obtain ⟨v0, vs0, d0, ds0, p0, q0, e0, rfl, rfl, h0, hA⟩ := arg_cons hA
  obtain ⟨rfl, rfl, rfl⟩ := trodAll_nil hA
  obtain rfl : args = #[v0] := by cases args; simp_all
  have hb := bulks.bound hk
  simp only [List.append_nil, Rows.uptoBulkAll] at hb
  obtain ⟨sa, n, c, O, rfl, hnc, hP, hd, hO⟩ := ops_open (hval 0 _ v0 rfl rfl) h0
  have hwt : Pk.weight ((List.range n).map O) ≤ 70368744177664 := by
    rcases hd with ⟨_, rfl⟩ | ⟨sp, rfl⟩
    · simp [Pk.weight]
    · have h1 := weight_bulk (H := H) O (List.range n)
      have h2 := bulks.slice_elems ((List.range n).map fun i => (O i).data (H := H)) sp
      omega
  have hi : ∀ o ∈ (List.range n).map O, -9223372036854775808 ≤ o.i ∧ o.i ≤ 9223372036854775807 := fun o ho => by
    obtain ⟨i, hi, rfl⟩ := List.mem_map.1 ho
    have := (hO i (by have := List.mem_range.1 hi; omega)).2.2.1
    simpa [Lit.wf, IntKind.min, IntKind.max, IntKind.signed, IntKind.bits] using this
  have hz : ∀ o ∈ (List.range n).map O, o.s.size ≤ 9223372036854775807 := fun o ho => by
    obtain ⟨i, hi, rfl⟩ := List.mem_map.1 ho
    have := (hO i (by have := List.mem_range.1 hi; omega)).1
    unfold maxLen at this
    omega
  refine (packBack_any W sa n c _ hP hwt hi hz).mono fun e W' ⟨he, hM⟩ => ⟨_, he, ?_⟩
  exact post_true (tb := 4) (by kernel_rfl) hW' hM (by kernel_rfl) rfl rfl Try.underlying4 rfl rfl

set_option maxRecDepth 100000 in
theorem lifted (os : Os) (started : os.Started) (H : Type) (enc : TypeId × Value → H) (F : Stop.Interp) :
    ReturnsInHanded {} Try.checked os 6 .any ((Rows.OpenSpec.upto Rows.packBackSpec).pre6 enc Try.prog Try.f6 Rows.packBackUptoRow.domain false) (((Rows.OpenSpec.upto Rows.packBackSpec).at F).post enc Try.prog Try.f6 false true false false) := by
  refine returnsInHanded_of_cond (C := Try.checked) (s := (Rows.OpenSpec.upto Rows.packBackSpec)) (k := Rows.uptoSmall) rfl own started (by kernel_rfl) Try.func6
    (OpenSpec.witness (enc := enc) (C := Try.checked) (s := (Rows.OpenSpec.upto Rows.packBackSpec)) (k := Rows.uptoSmall) rfl false ⟨#[], #[.slice none 0 0], []⟩ 8 (by kernel_rfl) (by kernel_rfl) (by kernel_rfl)
      (x := ([.nil], [], [])) (by kernel_rfl) rfl (by kernel_rfl)) ?_
  intro W base args ds gs before hval hW _ hk _
  exact contract H enc W base args ds gs before hval hW hk

theorem said : Rows.PackBackUptoSaid :=
  OpenClaim.holds_of_cond 6 Try.f6 rfl rfl rfl rfl rfl rfl rfl ⟨rfl, rfl, rfl, rfl, rfl⟩ rfl rfl rfl rfl rfl (by kernel_rfl) Try.func6 (by kernel_rfl)
    (of_decide_eq_true (by kernel_rfl)) (by unfold Func.isWrapper; first | (rw [if_pos (by decide +kernel)]; kernel_rfl) | (rw [if_neg (by decide +kernel)]; exact ⟨rfl, rfl⟩))
    (fun os started H enc _ F => lifted os started H enc F)
#print axioms said
end Go.Proofs.Ytcmbklofbemclaa.lawPackBack
