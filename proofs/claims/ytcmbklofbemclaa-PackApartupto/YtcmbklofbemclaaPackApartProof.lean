/- PackApart: two Writers and two Readers, called in turns, answer as each would alone; for arguments of bulk at most 1048576. -/
import Derived.Test.YtcmbklofbemclaaOpsO
import Derived.Test.YtcmbklofbemclaaPkAq
import Derived.Test.YtcmbklofbemclaaBase3
import Derived.Test.YtcmbklofbemclaaBulk
import Derived.JoinedCond
import Derived.Test.YtcmbklofbemclaaRows
import Derived.WalkKit
import Derived.ProofKit
import Derived.OpenShut
import Derived.SizedLaws
import Derived.ChangeOld
namespace Go.Proofs.Ytcmbklofbemclaa.lawPackApart
open Go.ChangeShapes Go.WideShapes Go.ChangeAt Go.RowKit

theorem own : ownKnob Try.prog.godebug = none := by kernel_rfl

theorem contract (H : Type) (enc : TypeId × Value → H) (W : World) (base : Nat) (args : Array Value) (ds gs : List (DataW H)) (before : List MemPlace)
    (hval : ∀ (j : Nat) t v, Try.f9.params[j]? = some t → args[j]? = some v → Value.okWide Try.prog W .any base t v)
    (hW : DataW.Whole enc Try.prog Try.f9.params.toList Rows.packApartSpec.vars false W args.toList ds gs before) (hk : Rows.uptoSmall H (ds ++ gs) = true) :
    Calls Try.prog 9 args W fun e W' => ∃ v, e = .returned v ∧ Rows.packApartSpec.post enc Try.prog Try.f9 false true false false W args v W' := by
  have hW' := hW
  obtain ⟨p, q, hA0, hV, rfl, hfz, hnd⟩ := hW
  obtain ⟨rfl, rfl⟩ := trodVars_none hV
  have hA := hA0
  rw [Try.params9] at hA hval
  obtain ⟨v0, vs0, d0, ds0, p0, q0, e0, rfl, rfl, h0, hA⟩ := arg_cons hA
  obtain ⟨v1, vs1, d1, ds1, p1, q1, rfl, rfl, rfl, h1, hA⟩ := arg_cons hA
  obtain ⟨rfl, rfl, rfl⟩ := trodAll_nil hA
  obtain rfl : args = #[v0, v1] := by cases args; simp_all
  have hb := bulks.bound hk
  simp only [List.append_nil, Rows.uptoBulkAll] at hb
  obtain ⟨sa, n, c, O, rfl, hnc, hP, hd, hO⟩ := ops_open (hval 0 _ v0 rfl rfl) h0
  have hwt : Pk.weight ((List.range n).map O) ≤ 70368744177664 := by
    rcases hd with ⟨_, rfl⟩ | ⟨sp, rfl⟩
    · simp [Pk.weight]
    · have h1 := weight_bulk (H := H) O (List.range n)
      have h2 := bulks.slice_elems ((List.range n).map fun i => (O i).data (H := H)) sp
      omega
  obtain ⟨sb, n2, c2, O2, rfl, hnc2, hP2, hd2, hO2⟩ := ops_open (hval 1 _ v1 rfl rfl) h1
  have hwt2 : Pk.weight ((List.range n2).map O2) ≤ 70368744177664 := by
    rcases hd2 with ⟨_, rfl⟩ | ⟨sp2, rfl⟩
    · simp [Pk.weight]
    · have h1 := weight_bulk (H := H) O2 (List.range n2)
      have h2 := bulks.slice_elems ((List.range n2).map fun i => (O2 i).data (H := H)) sp2
      omega
  refine (packApart_any W sa n c _ hP hwt sb n2 c2 _ hP2 hwt2).mono fun e W' ⟨he, hM⟩ => ⟨_, he, ?_⟩
  exact post_true (tb := 4) (by kernel_rfl) hW' hM (by kernel_rfl) rfl rfl Try.underlying4 rfl rfl

set_option maxRecDepth 100000 in
theorem lifted (os : Os) (started : os.Started) (H : Type) (enc : TypeId × Value → H) (F : Stop.Interp) :
    ReturnsInHanded {} Try.checked os 9 .any ((Rows.OpenSpec.upto Rows.packApartSpec).pre6 enc Try.prog Try.f9 Rows.packApartUptoRow.domain false) (((Rows.OpenSpec.upto Rows.packApartSpec).at F).post enc Try.prog Try.f9 false true false false) := by
  refine returnsInHanded_of_cond (C := Try.checked) (s := (Rows.OpenSpec.upto Rows.packApartSpec)) (k := Rows.uptoSmall) rfl own started (by kernel_rfl) Try.func9
    (OpenSpec.witness (enc := enc) (C := Try.checked) (s := (Rows.OpenSpec.upto Rows.packApartSpec)) (k := Rows.uptoSmall) rfl false ⟨#[], #[.slice none 0 0, .slice none 0 0], []⟩ 8 (by kernel_rfl) (by kernel_rfl) (by kernel_rfl)
      (x := ([.nil, .nil], [], [])) (by kernel_rfl) rfl (by kernel_rfl)) ?_
  intro W base args ds gs before hval hW _ hk _
  exact contract H enc W base args ds gs before hval hW hk

theorem said : Rows.PackApartUptoSaid :=
  OpenClaim.holds_of_cond 9 Try.f9 rfl rfl rfl rfl rfl rfl rfl ⟨rfl, rfl, rfl, rfl, rfl⟩ rfl rfl rfl rfl rfl (by kernel_rfl) Try.func9 (by kernel_rfl)
    (of_decide_eq_true (by kernel_rfl)) (by unfold Func.isWrapper; first | (rw [if_pos (by decide +kernel)]; kernel_rfl) | (rw [if_neg (by decide +kernel)]; exact ⟨rfl, rfl⟩))
    (fun os started H enc _ F => lifted os started H enc F)
#print axioms said
end Go.Proofs.Ytcmbklofbemclaa.lawPackApart
