/- ShaSums (of any parts, at once or written one behind the other, the reference's sum; the parts and what lies behind them stay), for arguments of bulk at most 1048576. -/
import Derived.Test.YtheamejbfopdaaaDoorPartsO
import Derived.Test.YtheamejbfopdaaaDoorBulk
import Derived.Test.YtheamejbfopdaaaDoorCards
import Derived.Test.YtheamejbfopdaaaDoorTie
namespace Go.Proofs.YtheamejbfopdaaaDoor.lawShaSums
open Go.ChangeShapes Go.WideShapes Go.ChangeAt Go.RowKit

theorem flat_le {H : Type} (D : Nat → DataW H) (q : Nat → List Int) (l : List Nat) (h : ∀ i ∈ l, (D i = .nil ∧ q i = []) ∨ ∃ sp, D i = .slice (lits .u8 (q i)) sp) : (l.map q).flatten.length ≤ Rows.uptoBulkAll (l.map D) := by
  induction l with
  | nil => simp [Rows.uptoBulkAll]
  | cons x r ih =>
    have h2 := ih (fun i hi => h i (List.mem_cons_of_mem _ hi))
    simp only [List.map_cons, List.flatten_cons, List.length_append, Rows.uptoBulkAll]
    rcases h x (List.mem_cons_self ..) with ⟨e1, e2⟩ | ⟨sp, e⟩
    · rw [e2]; simp only [List.length_nil]; omega
    · have := bulks.slice_le (lits .u8 (q x)) sp
      rw [e]
      simp only [lits, List.length_map] at this
      simp only [lits]
      omega
theorem contract (H : Type) (enc : TypeId × Value → H) (W : World) (base : Nat) (args : Array Value) (ds gs : List (DataW H)) (before : List MemPlace)
    (hval : ∀ (j : Nat) t v, Tryd.f4.params[j]? = some t → args[j]? = some v → Value.okWide Tryd.prog W .any base t v)
    (hW : DataW.Whole enc Tryd.prog Tryd.f4.params.toList Rows.shaSumsSpec.vars false W args.toList ds gs before) (hk : Rows.uptoSmall H (ds ++ gs) = true) (hL : laidMetH Tryd.prog Rows.shaSumsUptoRow.laid W) :
    Calls Tryd.prog 4 args W fun e W' => ∃ v, e = .returned v ∧ Rows.shaSumsSpec.post enc Tryd.prog Tryd.f4 false true false false W args v W' := by
  have hW' := hW
  obtain ⟨p, q, hA0, hV, rfl, hfz, hnd⟩ := hW
  obtain ⟨rfl, rfl⟩ := trodVars_none hV
  have hA := hA0
  rw [Tryd.params4] at hA hval
  obtain ⟨v0, vs0, d0, ds0, p0, q0, e0, rfl, rfl, h0, hA⟩ := arg_cons hA
  obtain ⟨rfl, rfl, rfl⟩ := trodAll_nil hA
  obtain rfl : args = #[v0] := by cases args; simp_all
  have hb := bulks.bound hk
  simp only [List.append_nil, Rows.uptoBulkAll] at hb
  obtain ⟨sa, n, c, q, D, rfl, hnc, hP, hd, hD⟩ := parts_open (hval 0 _ v0 rfl rfl) (fun es sp es' sp' e hm => by
    subst e
    have h1 := bulks.slice_elems es sp
    have h2 := bulks.part_le hm
    have h3 := bulks.slice_le es' sp'
    omega) h0
  have hfl : ((List.range n).map q).flatten.length ≤ 1048576 := by
    have h1 := flat_le D q (List.range n) (fun i hi => hD i (List.mem_range.1 hi))
    rcases hd with ⟨_, rfl⟩ | ⟨sp, rfl⟩
    · simp
    · have h2 := bulks.slice_elems ((List.range n).map D) sp
      omega
  obtain ⟨hK, hT⟩ := tabs_of hL
  refine (shaSums_any W hK hT sa n c _ hP hnc (fun m _ => by have := flatten_take_le ((List.range n).map q) m; omega)).mono fun e W' ⟨he, hM⟩ => ⟨_, he, ?_⟩
  exact post_true (tb := 4) (by kernel_rfl) hW' hM (by kernel_rfl) rfl rfl Tryd.underlying4 rfl rfl

theorem reads (os : Os) {H : Type} (enc : TypeId × Value → H) : ∃ places, DataW.whole enc Tryd.prog ((laidWorld3 os).forCall (fun _ _ => 0) ⟨#[], #[], []⟩).memory Tryd.f4.params.toList Rows.shaSumsSpec.vars false (#[.slice none 0 0] : Array Value).toList 8 = some ([.nil], [], places) :=
  ⟨[], by kernel_rfl⟩

set_option maxRecDepth 100000 in
theorem lifted (os : Os) (started : os.Started) (H : Type) (enc : TypeId × Value → H) (F : Stop.Interp) :
    ReturnsInHanded {} Tryd.checked os 4 .any ((Rows.OpenSpec.upto Rows.shaSumsSpec).preRow enc Tryd.prog Tryd.f4 Rows.shaSumsUptoRow.domain false Rows.shaSumsUptoRow.laid) (((Rows.OpenSpec.upto Rows.shaSumsSpec).at F).post enc Tryd.prog Tryd.f4 false true false false) := by
  obtain ⟨places, hx⟩ := reads os enc
  refine returnsInHanded_of_row (C := Tryd.checked) (s := Rows.OpenSpec.upto Rows.shaSumsSpec) own started (by kernel_rfl) Tryd.func4
    (witness_row_at (enc := enc) (C := Tryd.checked) false (laidWorld3 os) #[.slice none 0 0] rfl (by kernel_rfl) (by kernel_rfl) (by kernel_rfl)
      (OpenSpec.preRow_of_cond 8 hx (by kernel_rfl) (fun k hk => by cases hk; kernel_rfl) (by kernel_rfl) (laid_met3 os))) ?_
  intro W base args ds gs before hval hW _ hcond _ hL _ _
  exact contract H enc W base args ds gs before hval hW (hcond _ rfl) hL

theorem said : Rows.ShaSumsUptoSaid :=
  OpenClaim.holds_of_cond 4 Tryd.f4 rfl rfl rfl rfl rfl rfl rfl ⟨rfl, rfl, rfl, rfl, rfl⟩ rfl rfl rfl rfl rfl (by kernel_rfl) Tryd.func4 (by kernel_rfl)
    (of_decide_eq_true (by kernel_rfl)) (by unfold Func.isWrapper; first | (rw [if_pos (by decide +kernel)]; kernel_rfl) | (rw [if_neg (by decide +kernel)]; exact ⟨rfl, rfl⟩))
    (fun os started H enc _ F => by rw [OpenClaim.pre_eq_preRow]; exact lifted os started H enc F)

theorem plain (f : FuncId) (fn : Func) (hf : Tryd.pinned.checked.prog.funcNamed "joust/joustlaw01.ShaSums" = some f) (hfn : Tryd.pinned.checked.prog.funcs[f]? = some fn) :
    false = Tryd.pinned.checked.prog.looks [] ∧ ∀ (j : Nat) t, fn.params[j]? = some t → Tryd.pinned.checked.prog.wantsStandIn t = false := by
  obtain rfl : f = 4 := Option.some.inj ((show Tryd.prog.funcNamed "joust/joustlaw01.ShaSums" = some 4 by kernel_rfl).symm.trans hf) |>.symm
  obtain rfl : fn = Tryd.f4 := (Option.some.inj (Tryd.func4.symm.trans hfn)).symm
  refine ⟨by kernel_rfl, fun j t ht => ?_⟩
  rw [Tryd.params4] at ht
  match j with
  | 0 =>
    obtain rfl : 30 = t := Option.some.inj ht
    exact (by kernel_rfl : Tryd.pinned.checked.prog.wantsStandIn 30 = false)
  | k + 1 => cases ht

/-- the card -/
theorem card : Rows.ShaSumsUptoCardSaid :=
  Claim7.holds_tied_plain_at .later [] _ _ _ _ said (fun _ h => by cases h) (by kernel_rfl) (fun _ h => by cases h) shaSumsUpto_row_tie rfl ⟨rfl, rfl⟩ (by kernel_rfl) rfl plain (by kernel_rfl)
#print axioms card
end Go.Proofs.YtheamejbfopdaaaDoor.lawShaSums
