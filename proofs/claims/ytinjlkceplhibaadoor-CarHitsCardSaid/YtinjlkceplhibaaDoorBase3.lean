/- A law's arguments opened; the post of a law that answers true and leaves all that was there as it was. -/
import Derived.Test.YtinjlkceplhibaaDoorBase2
import Derived.OpenShut
import Derived.OpenVars
namespace Go.Proofs.YtinjlkceplhibaaDoor
open Go.RowKit Go.ChangeShapes Go.WideShapes

section
variable {H : Type} {enc : TypeId × Value → H} {P : Program}

/-- each type can be read and is a row of the table -/
def typesRowed (P : Program) (ts : List TypeId) : Bool := ts.all fun t => P.readableRec t && decide (t < P.types.size)

theorem trodAll_below (hl : laidOutB P = true) {W W' : World} (hb : Below W.heap.size W W') :
    ∀ {ts : List TypeId} {vs : List Value} {ds : List (DataW H)} {ps : List MemPlace}, typesRowed P ts = true → DataW.TrodAll enc P W 0 (fun _ => true) true ts vs ds ps → DataW.TrodAll enc P W' 0 (fun b => decide (b < W.heap.size)) true ts vs ds ps
  | [], _, _, _, _, h => by
    obtain ⟨rfl, rfl, rfl⟩ := trodAll_nil h
    exact trodAll_mk0
  | t :: ts, vs, ds, ps, hr, h => by
    have hlt := h.lt
    obtain ⟨v, vs', d, ds', p, q, rfl, rfl, rfl, h1, h2⟩ := trodAll_cons h
    simp only [typesRowed, List.all_cons, Bool.and_eq_true, decide_eq_true_eq] at hr
    exact trodAll_cons_mk (Below.trod hl hr.1.1 hr.1.2 h1 hb (fun x hx => hlt x (by simp [hx]))) (trodAll_below hl hb (by simpa [typesRowed] using hr.2) h2)

/-- the post of a law without named variables: it answers true, and nothing old is written -/
theorem post_true {f : Func} {s : ChangeSpec} {W W' : World} {args : Array Value} {ds gs : List (DataW H)} {before : List MemPlace} {tb : TypeId} {apart fresh : Bool} (hl : laidOutB P = true)
    (hW : DataW.Whole enc P f.params.toList s.vars false W args.toList ds gs before) (hM : Mod none_ W W') (hr : typesRowed P f.params.toList = true)
    (hv : s.vars = []) (ht : f.resultTypes = #[tb]) (hu : P.underlying tb = some .bool) (hs : apart = false) (hfn : s.fn H (ds ++ gs) = { results := [.lit (.bool true)], args := ds }) :
    s.post enc P f apart fresh false false W args (.bool true) W' := by
  subst hs
  have hW' := hW
  obtain ⟨p, q, hA, hV, rfl, hfz, hnd⟩ := hW
  have hb := hM.below
  refine ⟨ds, gs, _, [], p, q, hW', ?_, ?_, ?_, hb.frame _, fun h => by cases h⟩
  · rw [ht, hfn]
    exact trodAll_cons_mk (shut_bool hu _) trodAll_mk0
  · rw [hfn]; exact trodAll_below hl hb hr hA
  · rw [hfn]
    rw [hv] at hV ⊢
    obtain ⟨rfl, rfl⟩ := trodVars_none hV
    exact rfl

/-- one argument off the row -/
theorem arg_cons {W : World} {t : TypeId} {ts : List TypeId} {vs : List Value} {ds : List (DataW H)} {ps : List MemPlace} (h : DataW.TrodAll enc P W 0 (fun _ => true) true (t :: ts) vs ds ps) :
    ∃ v vs' d ds' p q, vs = v :: vs' ∧ ds = d :: ds' ∧ ps = p ++ q ∧ DataW.Trod enc P W 0 (fun _ => true) true t v d p ∧ DataW.TrodAll enc P W 0 (fun _ => true) true ts vs' ds' q := trodAll_cons h

/-- a slice of numbers, opened: as the walk takes it -/
theorem ints_open {W : World} {t e : TypeId} {k : IntKind} {r : Reach} {b0 : Nat} {v : Value} {d : DataW H} {ps : List MemPlace} (ht : P.underlying t = some (.slice e)) (he : P.underlying e = some (.int k)) (hc : P.cellsOf e = 1)
    (hval : Value.okWide P W r b0 t v) (h : DataW.Trod enc P W 0 (fun _ => true) true t v d ps) :
    ∃ (sa : Option Addr) (cap : Nat) (xs zs : List Int), v = .slice sa xs.length cap ∧ xs.length ≤ cap ∧ ((d = .nil ∧ cap = 0) ∨ d = .slice (lits k xs) (lits k zs)) ∧ (sa = none → cap = 0) ∧ (∀ n ∈ xs ++ zs, (Lit.int k n).wf = true) ∧ (xs ++ zs).length = cap ∧
      (0 < cap → ∃ b off, sa = some ⟨b, off, none⟩ ∧ b < W.heap.size ∧ ∀ j, j < cap → W.cell? ⟨b, off + j, none⟩ = some (.int k ((xs ++ zs).getD j 0))) := by
  obtain ⟨a0, n0, c0, rfl⟩ := okWide_slice ht hval
  obtain ⟨fuel, hf⟩ := h
  rcases open_ints ht he hc hf with ⟨hcs, hx⟩ | ⟨a, len, cap, zs, hcs, _, hle, hmax, hall, hx, hcell, hwf⟩
  · simp [Value.cells] at hcs
    obtain ⟨rfl, rfl, rfl⟩ := hcs
    exact ⟨none, 0, [], [], rfl, by simp, Or.inl ⟨by simpa using congrArg Prod.fst hx, rfl⟩, fun _ => rfl, by simp, by simp, fun h => absurd h (by simp)⟩
  · simp [Value.cells] at hcs
    obtain ⟨rfl, rfl, rfl⟩ := hcs
    simp only [if_true] at hall
    have hl : (zs.take n0).length = n0 := by rw [List.length_take]; omega
    refine ⟨some a, c0, zs.take n0, zs.drop n0, by rw [hl], by omega, Or.inr (by simpa using congrArg Prod.fst hx), (fun h => by cases h), by rw [List.take_append_drop]; exact hwf, by rw [List.take_append_drop]; exact hall, fun hp => ?_⟩
    rw [List.take_append_drop]
    obtain ⟨b, off, rfl, h3⟩ := ints_at hcell (by omega)
    exact ⟨b, off, rfl, World.block_lt_of_cell? _ _ (h3 0 (by omega)), fun j hj => h3 j (by omega)⟩
end
end Go.Proofs.YtinjlkceplhibaaDoor
