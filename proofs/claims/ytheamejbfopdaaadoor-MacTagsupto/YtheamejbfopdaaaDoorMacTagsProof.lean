/- MacTags: every Tag and every Derive is the document's; for arguments of bulk at most 1048576. -/
import Derived.Test.YtheamejbfopdaaaDoorMacR2
import Derived.Test.YtheamejbfopdaaaDoorStrsO
import Derived.Test.YtheamejbfopdaaaDoorShaL3
import Derived.ChangeMaps5
import Derived.Test.YtheamejbfopdaaaDoorBulk
import Derived.Test.YtheamejbfopdaaaDoorCards
import Derived.Test.YtheamejbfopdaaaDoorTie
namespace Go.Proofs.YtheamejbfopdaaaDoor.lawMacTags
open Go.ChangeShapes Go.WideShapes Go.ChangeAt Go.RowKit

theorem contract (H : Type) (enc : TypeId × Value → H) (W : World) (base : Nat) (args : Array Value) (ds gs : List (DataW H)) (before : List MemPlace)
    (hval : ∀ (j : Nat) t v, Tryd.f9.params[j]? = some t → args[j]? = some v → Value.okWide Tryd.prog W .any base t v)
    (hW : DataW.Whole enc Tryd.prog Tryd.f9.params.toList Rows.macTagsSpec.vars false W args.toList ds gs before) (hk : Rows.uptoSmall H (ds ++ gs) = true) (hL : laidMetH Tryd.prog Rows.macTagsUptoRow.laid W) :
    Calls Tryd.prog 9 args W fun e W' => ∃ v, e = .returned v ∧ Rows.macTagsSpec.post enc Tryd.prog Tryd.f9 false true false false W args v W' := by
  have hW' := hW
  obtain ⟨p, q, hA0, hV, rfl, hfz, hnd⟩ := hW
  obtain ⟨rfl, rfl⟩ := trodVars_none hV
  have hA := hA0
  rw [Tryd.params9] at hA hval
  obtain ⟨v0, vs0, d0, ds0, p0, q0, e0, rfl, rfl, h0, hA⟩ := arg_cons hA
  obtain ⟨v1, vs1, d1, ds1, p1, q1, rfl, rfl, rfl, h1, hA⟩ := arg_cons hA
  obtain ⟨v2, vs2, d2, ds2, p2, q2, rfl, rfl, rfl, h2, hA⟩ := arg_cons hA
  obtain ⟨rfl, rfl, rfl⟩ := trodAll_nil hA
  obtain rfl : args = #[v0, v1, v2] := by cases args; simp_all
  have hb := bulks.bound hk
  simp only [List.append_nil, Rows.uptoBulkAll] at hb
  obtain ⟨a, rfl, rfl, rfl, _⟩ := ChangeMaps.open_string Tryd.underlying9 (hval 0 _ v0 rfl rfl) h0
  obtain ⟨b, rfl, rfl, rfl, _⟩ := ChangeMaps.open_string Tryd.underlying9 (hval 1 _ v1 rfl rfl) h1
  obtain ⟨sa, n, c, S, rfl, _, hP, hd⟩ := strs_open (hval 2 _ v2 rfl rfl) h2
  rw [bulks.string_eq, bulks.string_eq] at hb
  have ha : a.data.toList.length = a.size := rfl
  have hb' : b.data.toList.length = b.size := rfl
  have hu := length_num b
  have hl1 : (Mac.said (num b) (((List.range n).map S).map num)).length ≤ 70368744177000 := by
    have h1 := said_bulk (H := H) (num b) S (List.range n)
    rcases hd with ⟨_, rfl⟩ | ⟨sp, rfl⟩
    · rw [Mac.said_eq]; simp [hu]; omega
    · have h2 := bulks.slice_elems ((List.range n).map fun i => DataW.lit (H := H) (.string (S i).data.toList)) sp
      omega
  obtain ⟨hK, hT⟩ := tabs_of hL
  refine (macTags_any W hK hT a b sa n c _ hP (by omega) (by omega) hl1).mono fun e W' ⟨he, hM⟩ => ⟨_, he, ?_⟩
  exact post_true (tb := 4) (by kernel_rfl) hW' hM (by kernel_rfl) rfl rfl Tryd.underlying4 rfl rfl

theorem reads (os : Os) {H : Type} (enc : TypeId × Value → H) : ∃ places, DataW.whole enc Tryd.prog ((laidWorld3 os).forCall (fun _ _ => 0) ⟨#[], #[], []⟩).memory Tryd.f9.params.toList Rows.macTagsSpec.vars false (#[.string ⟨#[]⟩, .string ⟨#[]⟩, .slice none 0 0] : Array Value).toList 8 = some ([.lit (.string []), .lit (.string []), .nil], [], places) :=
  ⟨[], by kernel_rfl⟩

set_option maxRecDepth 100000 in
theorem lifted (os : Os) (started : os.Started) (H : Type) (enc : TypeId × Value → H) (F : Stop.Interp) :
    ReturnsInHanded {} Tryd.checked os 9 .any ((Rows.OpenSpec.upto Rows.macTagsSpec).preRow enc Tryd.prog Tryd.f9 Rows.macTagsUptoRow.domain false Rows.macTagsUptoRow.laid) (((Rows.OpenSpec.upto Rows.macTagsSpec).at F).post enc Tryd.prog Tryd.f9 false true false false) := by
  obtain ⟨places, hx⟩ := reads os enc
  refine returnsInHanded_of_row (C := Tryd.checked) (s := (Rows.OpenSpec.upto Rows.macTagsSpec)) own started (by kernel_rfl) Tryd.func9
    (witness_row_at (enc := enc) (C := Tryd.checked) false (laidWorld3 os) #[.string ⟨#[]⟩, .string ⟨#[]⟩, .slice none 0 0] rfl (by kernel_rfl) (by kernel_rfl) (by kernel_rfl)
      (OpenSpec.preRow_of_cond 8 hx (by kernel_rfl) (fun k hk => by cases hk; kernel_rfl) (by kernel_rfl) (laid_met3 os))) ?_
  intro W base args ds gs before hval hW _ hcond _ hL _ _
  exact contract H enc W base args ds gs before hval hW (hcond _ rfl) hL

theorem said : Rows.MacTagsUptoSaid :=
  OpenClaim.holds_of_cond 9 Tryd.f9 rfl rfl rfl rfl rfl rfl rfl ⟨rfl, rfl, rfl, rfl, rfl⟩ rfl rfl rfl rfl rfl (by kernel_rfl) Tryd.func9 (by kernel_rfl)
    (of_decide_eq_true (by kernel_rfl)) (by unfold Func.isWrapper; first | (rw [if_pos (by decide +kernel)]; kernel_rfl) | (rw [if_neg (by decide +kernel)]; exact ⟨rfl, rfl⟩))
    (fun os started H enc _ F => by rw [OpenClaim.pre_eq_preRow]; exact lifted os started H enc F)

theorem plain (f : FuncId) (fn : Func) (hf : Tryd.pinned.checked.prog.funcNamed "joust/joustlaw02.MacTags" = some f) (hfn : Tryd.pinned.checked.prog.funcs[f]? = some fn) :
    false = Tryd.pinned.checked.prog.looks [] ∧ ∀ (j : Nat) t, fn.params[j]? = some t → Tryd.pinned.checked.prog.wantsStandIn t = false := by
  obtain rfl : f = 9 := Option.some.inj ((show Tryd.prog.funcNamed "joust/joustlaw02.MacTags" = some 9 by kernel_rfl).symm.trans hf) |>.symm
  obtain rfl : fn = Tryd.f9 := (Option.some.inj (Tryd.func9.symm.trans hfn)).symm
  refine ⟨by kernel_rfl, fun j t ht => ?_⟩
  rw [Tryd.params9] at ht
  match j with
  | 0 =>
    obtain rfl : 9 = t := Option.some.inj ht
    exact (by kernel_rfl : Tryd.pinned.checked.prog.wantsStandIn 9 = false)
  | 1 =>
    obtain rfl : 9 = t := Option.some.inj ht
    exact (by kernel_rfl : Tryd.pinned.checked.prog.wantsStandIn 9 = false)
  | 2 =>
    obtain rfl : 44 = t := Option.some.inj ht
    exact (by kernel_rfl : Tryd.pinned.checked.prog.wantsStandIn 44 = false)
  | k + 3 => cases ht

/-- the card -/
theorem card : Rows.MacTagsUptoCardSaid :=
  Claim7.holds_tied_plain_at .later [] _ _ _ _ said (fun _ h => by cases h) (by kernel_rfl) (fun _ h => by cases h) macTagsUpto_row_tie rfl ⟨rfl, rfl⟩ (by kernel_rfl) rfl plain (by kernel_rfl)
#print axioms card
end Go.Proofs.YtheamejbfopdaaaDoor.lawMacTags
