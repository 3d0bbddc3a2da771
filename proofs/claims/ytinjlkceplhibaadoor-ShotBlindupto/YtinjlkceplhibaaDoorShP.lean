/- A list of cars among the arguments, opened. -/
import Derived.Test.YtinjlkceplhibaaDoorShO
import Derived.Test.YtinjlkceplhibaaDoorShD
namespace Go.Proofs.YtinjlkceplhibaaDoor
open Go.RowKit Go.ChangeShapes Go.WideShapes Go.ChangeAt Go.Deep

instance : Inhabited Cr := ⟨car0⟩
theorem pick_cars (C : Nat → List Value) (n : Nat) (h : ∀ i, i < n → ∃ c : Cr, C i = c.cells ∧ c.Ok) : ∃ f : Nat → Cr, ∀ i, i < n → C i = (f i).cells ∧ (f i).Ok := by
  classical
  refine ⟨fun i => if hi : i < n then Classical.choose (h i hi) else car0, fun i hi => ?_⟩
  simp only [hi, dif_pos]
  exact Classical.choose_spec (h i hi)
set_option maxRecDepth 100000 in
theorem cars_open {H : Type} {enc : TypeId × Value → H} {W : World} {r : Reach} {b0 : Nat} {v : Value} {d : DataW H} {ps : List MemPlace}
    (hval : Value.okWide Tryd.prog W r b0 32 v) (h : DataW.Trod enc Tryd.prog W 0 (fun _ => true) true 32 v d ps) :
    ∃ (sa : Option Addr) (n c : Nat) (L : List Cr), v = .slice sa n c ∧ L.length = n ∧ n ≤ c ∧ c ≤ maxLen ∧ Crs W W.heap.size sa L := by
  obtain ⟨sa, n, c, C, D, rfl, h1, h2, h3, h4, h5⟩ := structs_open (K := 14) Tryd.underlying32 (by kernel_rfl) (by decide) hval h (Good := fun cs _ => ∃ c : Cr, cs = c.cells ∧ c.Ok) car_parts
  obtain ⟨f, hf⟩ := pick_cars C n (fun i hi => (h3 i hi).2)
  refine ⟨sa, n, c, (List.range n).map f, rfl, by simp, h1, h2, ⟨fun hp => ?_, fun c hc => ?_⟩⟩
  · obtain ⟨b, off, k1, k2, k3⟩ := h5 (by simpa using hp)
    refine ⟨b, off, k1, k2, fun i c hc j v hv => ?_⟩
    have hi : i < n := by have := (List.getElem?_eq_some_iff.1 hc).1; simpa using this
    have hci : f i = c := by
      rw [List.getElem?_map, List.getElem?_range hi] at hc
      exact Option.some.inj hc
    exact k3 i hi j v (by rw [(hf i hi).1, hci]; exact hv)
  · obtain ⟨i, hi, rfl⟩ := List.mem_map.1 hc
    exact (hf i (List.mem_range.1 hi)).2
end Go.Proofs.YtinjlkceplhibaaDoor
