/- CookieOwn: a cookie is what chapter 2 derives of the epoch's secret, and that of the one ahead; it is taken in its epoch and the next, just where the two are the same; for arguments of bulk at most 1048576. -/
import Derived.Test.YtlndgnlkfhlekaaDoorCkT
import Derived.Test.YtlndgnlkfhlekaaDoorCkO
import Derived.Test.YtlndgnlkfhlekaaDoorStrsO
import Derived.Test.YtlndgnlkfhlekaaDoorShaL
import Derived.ChangeMaps5
import Derived.Test.YtlndgnlkfhlekaaDoorBulk
import Derived.Test.YtlndgnlkfhlekaaDoorCards
import Derived.Test.YtlndgnlkfhlekaaDoorTie
namespace Go.Proofs.YtlndgnlkfhlekaaDoor.lawCookieOwn
open Go.ChangeShapes Go.WideShapes Go.ChangeAt Go.RowKit

set_option maxRecDepth 100000 in
theorem contract (H : Type) (enc : TypeId × Value → H) (W : World) (base : Nat) (args : Array Value) (ds gs : List (DataW H)) (before : List MemPlace)
    (hval : ∀ (j : Nat) t v, Tryd.f4.params[j]? = some t → args[j]? = some v → Value.okWide Tryd.prog W .any base t v)
    (hW : DataW.Whole enc Tryd.prog Tryd.f4.params.toList Rows.cookieOwnSpec.vars false W args.toList ds gs before) (hk : Rows.uptoSmall H (ds ++ gs) = true) (hL : laidMetH Tryd.prog Rows.cookieOwnUptoRow.laid W) :
    Calls Tryd.prog 4 args W fun e W' => ∃ v, e = .returned v ∧ Rows.cookieOwnSpec.post enc Tryd.prog Tryd.f4 false true false false W args v W' := by
  have hW' := hW
  obtain ⟨p, q, hA0, hV, rfl, hfz, hnd⟩ := hW
  obtain ⟨rfl, rfl⟩ := trodVars_none hV
  have hA := hA0
  rw [Tryd.params4] at hA hval
  obtain ⟨v0, vs0, d0, ds0, p0, q0, e0, rfl, rfl, h0, hA⟩ := arg_cons hA
  obtain ⟨v1, vs1, d1, ds1, p1, q1, rfl, rfl, rfl, h1, hA⟩ := arg_cons hA
  obtain ⟨v2, vs2, d2, ds2, p2, q2, rfl, rfl, rfl, h2, hA⟩ := arg_cons hA
  obtain ⟨rfl, rfl, rfl⟩ := trodAll_nil hA
  obtain rfl : args = #[v0, v1, v2] := by cases args; simp_all
  have hb := bulks.bound hk
  simp only [List.append_nil, Rows.uptoBulkAll] at hb
  obtain ⟨a, rfl, rfl, rfl, _⟩ := ChangeMaps.open_string Tryd.underlying9 (hval 0 _ v0 rfl rfl) h0
  obtain ⟨sa, n, c, S, rfl, hnc, hP, hd⟩ := strs_open (hval 1 _ v1 rfl rfl) h1
  obtain ⟨x, y, z, u, rfl, rfl⟩ := strs4_open (hval 2 _ v2 rfl rfl) h2
  rw [bulks.string_eq] at hb
  have ha : a.data.toList.length = a.size := rfl
  have hx1 : x.data.toList.length = x.size := rfl
  have hy1 : y.data.toList.length = y.size := rfl
  have hz1 : z.data.toList.length = z.size := rfl
  have h5 : x.size + y.size + z.size ≤ Rows.uptoBulk (DataW.agg (H := H) [.lit (.string x.data.toList), .lit (.string y.data.toList), .lit (.string z.data.toList), .lit (.string u.data.toList)]) := by simp only [Rows.uptoBulk, Rows.uptoBulkAll, hx1, hy1, hz1]; omega
  have hn0 : n ≤ 1048576 ∧ (∀ s ∈ (List.range n).map S, Fits s) := by
    rcases hd with ⟨_, rfl⟩ | ⟨sp, rfl⟩
    · exact ⟨by omega, fun s hs => by simp at hs⟩
    · have h2 := bulks.slice_elems ((List.range n).map fun i => DataW.lit (H := H) (.string (S i).data.toList)) sp
      have h3 := bulks.slice_le ((List.range n).map fun i => DataW.lit (H := H) (.string (S i).data.toList)) sp
      rw [List.length_map, List.length_range] at h3
      refine ⟨by omega, fun s hs => ?_⟩
      obtain ⟨i, hi, rfl⟩ := List.mem_map.1 hs
      have h4 := strs_bulk (H := H) S (List.range n) i hi
      unfold Fits; omega
  have hz : sa = none → n = 0 ∧ c = 0 := fun e => by subst e; exact strs_none h1
  have hK := rounds_of hL
  refine (cookieOwn_any W hK a sa n c _ hP hz hnc hn0.1 x y z u (by unfold Fits; omega) (by unfold Fits; omega) (by unfold Fits; omega) (by unfold Fits; omega) hn0.2).mono fun e W' ⟨he, hM⟩ => ⟨_, he, ?_⟩
  exact post_true (tb := 4) (by kernel_rfl) hW' hM (by kernel_rfl) rfl rfl Tryd.underlying4 rfl rfl

theorem reads (os : Os) {H : Type} (enc : TypeId × Value → H) : ∃ places, DataW.whole enc Tryd.prog ((laidWorld os).forCall (fun _ _ => 0) ⟨#[], #[], []⟩).memory Tryd.f4.params.toList Rows.cookieOwnSpec.vars false (#[.string ⟨#[]⟩, .slice none 0 0, .agg #[.string ⟨#[]⟩, .string ⟨#[]⟩, .string ⟨#[]⟩, .string ⟨#[]⟩]] : Array Value).toList 8 = some ([.lit (.string []), .nil, .agg [.lit (.string []), .lit (.string []), .lit (.string []), .lit (.string [])]], [], places) :=
  ⟨[], by kernel_rfl⟩

set_option maxRecDepth 100000 in
theorem lifted (os : Os) (started : os.Started) (H : Type) (enc : TypeId × Value → H) (F : Stop.Interp) :
    ReturnsInHanded {} Tryd.checked os 4 .any ((Rows.OpenSpec.upto Rows.cookieOwnSpec).preRow enc Tryd.prog Tryd.f4 Rows.cookieOwnUptoRow.domain false Rows.cookieOwnUptoRow.laid) (((Rows.OpenSpec.upto Rows.cookieOwnSpec).at F).post enc Tryd.prog Tryd.f4 false true false false) := by
  obtain ⟨places, hx⟩ := reads os enc
  refine returnsInHanded_of_row (C := Tryd.checked) (s := (Rows.OpenSpec.upto Rows.cookieOwnSpec)) own started (by kernel_rfl) Tryd.func4
    (witness_row_at (enc := enc) (C := Tryd.checked) false (laidWorld os) #[.string ⟨#[]⟩, .slice none 0 0, .agg #[.string ⟨#[]⟩, .string ⟨#[]⟩, .string ⟨#[]⟩, .string ⟨#[]⟩]] rfl (by kernel_rfl) (by kernel_rfl) (by kernel_rfl)
      (OpenSpec.preRow_of_cond 8 hx (by kernel_rfl) (fun k hk => by cases hk; kernel_rfl) (by kernel_rfl) (laid_met os))) ?_
  intro W base args ds gs before hval hW _ hcond _ hL _ _
  exact contract H enc W base args ds gs before hval hW (hcond _ rfl) hL

theorem said : Rows.CookieOwnUptoSaid :=
  OpenClaim.holds_of_cond 4 Tryd.f4 rfl rfl rfl rfl rfl rfl rfl ⟨rfl, rfl, rfl, rfl, rfl⟩ rfl rfl rfl rfl rfl (by kernel_rfl) Tryd.func4 (by kernel_rfl)
    (of_decide_eq_true (by kernel_rfl)) (by unfold Func.isWrapper; first | (rw [if_pos (by decide +kernel)]; kernel_rfl) | (rw [if_neg (by decide +kernel)]; exact ⟨rfl, rfl⟩))
    (fun os started H enc _ F => by rw [OpenClaim.pre_eq_preRow]; exact lifted os started H enc F)

set_option maxRecDepth 100000 in
theorem plain (f : FuncId) (fn : Func) (hf : Tryd.pinned.checked.prog.funcNamed "joust/joustlaw10.CookieOwn" = some f) (hfn : Tryd.pinned.checked.prog.funcs[f]? = some fn) :
    false = Tryd.pinned.checked.prog.looks [] ∧ ∀ (j : Nat) t, fn.params[j]? = some t → Tryd.pinned.checked.prog.wantsStandIn t = false := by
  obtain rfl : f = 4 := Option.some.inj ((show Tryd.prog.funcNamed "joust/joustlaw10.CookieOwn" = some 4 by kernel_rfl).symm.trans hf) |>.symm
  obtain rfl : fn = Tryd.f4 := (Option.some.inj (Tryd.func4.symm.trans hfn)).symm
  refine ⟨by kernel_rfl, fun j t ht => ?_⟩
  rw [Tryd.params4] at ht
  match j with
  | 0 =>
    obtain rfl : 9 = t := Option.some.inj ht
    exact (by kernel_rfl : Tryd.pinned.checked.prog.wantsStandIn 9 = false)
  | 1 =>
    obtain rfl : 44 = t := Option.some.inj ht
    exact (by kernel_rfl : Tryd.pinned.checked.prog.wantsStandIn 44 = false)
  | 2 =>
    obtain rfl : 45 = t := Option.some.inj ht
    exact (by kernel_rfl : Tryd.pinned.checked.prog.wantsStandIn 45 = false)
  | k + 3 => cases ht

/-- the card -/
theorem card : Rows.CookieOwnUptoCardSaid :=
  Claim7.holds_tied_plain_at .later [] _ _ _ _ said (fun _ h => by cases h) (by kernel_rfl) (fun _ h => by cases h) cookieOwnUpto_row_tie rfl ⟨rfl, rfl⟩ (by kernel_rfl) rfl plain (by kernel_rfl)
#print axioms card
end Go.Proofs.YtlndgnlkfhlekaaDoor.lawCookieOwn
