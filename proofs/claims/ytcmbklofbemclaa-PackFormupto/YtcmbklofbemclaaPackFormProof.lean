/- PackForm: bytes that a Reader takes whole with some calls are just those that a Writer lays of its answers; for arguments of bulk at most 1048576. -/
import Derived.Test.YtcmbklofbemclaaOpsO
import Derived.Test.YtcmbklofbemclaaPkFl
import Derived.Test.YtcmbklofbemclaaBase3
import Derived.ChangeMaps5
import Derived.Test.YtcmbklofbemclaaBulk
import Derived.JoinedCond
import Derived.Test.YtcmbklofbemclaaRows
import Derived.WalkKit
import Derived.ProofKit
import Derived.OpenShut
namespace Go.Proofs.Ytcmbklofbemclaa.lawPackForm
open Go.ChangeShapes Go.WideShapes Go.ChangeAt Go.RowKit

theorem own : ownKnob Try.prog.godebug = none := by kernel_rfl

theorem contract (H : Type) (enc : TypeId × Value → H) (W : World) (base : Nat) (args : Array Value) (ds gs : List (DataW H)) (before : List MemPlace)
    (hval : ∀ (j : Nat) t v, Try.f7.params[j]? = some t → args[j]? = some v → Value.okWide Try.prog W .any base t v)
    (hW : DataW.Whole enc Try.prog Try.f7.params.toList Rows.packFormSpec.vars false W args.toList ds gs before) (hk : Rows.uptoSmall H (ds ++ gs) = true) :
    Calls Try.prog 7 args W fun e W' => ∃ v, e = .returned v ∧ Rows.packFormSpec.post enc Try.prog Try.f7 false true false false W args v W' := by
  have hW' := hW
  obtain ⟨p, q, hA0, hV, rfl, hfz, hnd⟩ := hW
  obtain ⟨rfl, rfl⟩ := trodVars_none hV
  have hA := hA0
  rw [Try.params7] at hA hval
  obtain ⟨v0, vs0, d0, ds0, p0, q0, e0, rfl, rfl, h0, hA⟩ := arg_cons hA
  obtain ⟨v1, vs1, d1, ds1, p1, q1, rfl, rfl, rfl, h1, hA⟩ := arg_cons hA
  obtain ⟨rfl, rfl, rfl⟩ := trodAll_nil hA
  obtain rfl : args = #[v0, v1] := by cases args; simp_all
  have hb := bulks.bound hk
  simp only [List.append_nil, Rows.uptoBulkAll] at hb
  obtain ⟨a, rfl, rfl, rfl, _⟩ := ChangeMaps.open_string Try.underlying9 (hval 0 _ v0 rfl rfl) h0
  obtain ⟨sa, n, c, O, rfl, hnc, hP, hd, hO⟩ := ops_open (hval 1 _ v1 rfl rfl) h1
  rw [bulks.string_eq] at hb
  have ha : a.data.toList.length = a.size := rfl
  have hwt : n ≤ 1099511627776 ∧ a.size ≤ 70368744177664 := by
    rcases hd with ⟨_, rfl⟩ | ⟨sp, rfl⟩
    · omega
    · have h1 := weight_bulk (H := H) O (List.range n)
      have h2 := bulks.slice_elems ((List.range n).map fun i => (O i).data (H := H)) sp
      have h3 : ∀ l : List PkOp, l.length ≤ Pk.weight l := by
        intro l
        induction l with
        | nil => simp [Pk.weight]
        | cons x a ih => simp only [List.length_cons, Pk.weight]; omega
      have h4 := h3 ((List.range n).map O)
      rw [List.length_map, List.length_range] at h4
      omega
  have hz : ∀ o ∈ (List.range n).map O, o.size ≤ 9223372036854775807 := fun o ho => by
    obtain ⟨i, hi, rfl⟩ := List.mem_map.1 ho
    have := (hO i (by have := List.mem_range.1 hi; omega)).2.2.2
    simp [Lit.wf, IntKind.min, IntKind.max, IntKind.signed, IntKind.bits] at this
    omega
  refine (packForm_any W a hwt.2 sa n c hwt.1 _ hP hz).mono fun e W' ⟨he, hM⟩ => ⟨_, he, ?_⟩
  exact post_true (tb := 4) (by kernel_rfl) hW' hM (by kernel_rfl) rfl rfl Try.underlying4 rfl rfl

set_option maxRecDepth 100000 in
theorem lifted (os : Os) (started : os.Started) (H : Type) (enc : TypeId × Value → H) (F : Stop.Interp) :
    ReturnsInHanded {} Try.checked os 7 .any ((Rows.OpenSpec.upto Rows.packFormSpec).pre6 enc Try.prog Try.f7 Rows.packFormUptoRow.domain false) (((Rows.OpenSpec.upto Rows.packFormSpec).at F).post enc Try.prog Try.f7 false true false false) := by
  refine returnsInHanded_of_cond (C := Try.checked) (s := (Rows.OpenSpec.upto Rows.packFormSpec)) (k := Rows.uptoSmall) rfl own started (by kernel_rfl) Try.func7
    (OpenSpec.witness (enc := enc) (C := Try.checked) (s := (Rows.OpenSpec.upto Rows.packFormSpec)) (k := Rows.uptoSmall) rfl false ⟨#[], #[.string ⟨#[]⟩, .slice none 0 0], []⟩ 8 (by kernel_rfl) (by kernel_rfl) (by kernel_rfl)
      (x := ([.lit (.string []), .nil], [], [])) (by kernel_rfl) rfl (by kernel_rfl)) ?_
  intro W base args ds gs before hval hW _ hk _
  exact contract H enc W base args ds gs before hval hW hk

theorem said : Rows.PackFormUptoSaid :=
  OpenClaim.holds_of_cond 7 Try.f7 rfl rfl rfl rfl rfl rfl rfl ⟨rfl, rfl, rfl, rfl, rfl⟩ rfl rfl rfl rfl rfl (by kernel_rfl) Try.func7 (by kernel_rfl)
    (of_decide_eq_true (by kernel_rfl)) (by unfold Func.isWrapper; first | (rw [if_pos (by decide +kernel)]; kernel_rfl) | (rw [if_neg (by decide +kernel)]; exact ⟨rfl, rfl⟩))
    (fun os started H enc _ F => lifted os started H enc F)
#print axioms said
end Go.Proofs.Ytcmbklofbemclaa.lawPackForm
