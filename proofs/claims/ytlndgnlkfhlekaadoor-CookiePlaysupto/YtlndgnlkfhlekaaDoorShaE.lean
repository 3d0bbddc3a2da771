/- ShaLengths: the walk. -/
import Derived.Test.YtlndgnlkfhlekaaDoorRefD
namespace Go.Proofs.YtlndgnlkfhlekaaDoor
open Go.RowKit

/-- xs[l:h] of whatever slice, one cell each -/
theorem slice_mid_any {P : Program} (t e : TypeId) (ht : P.underlying t = some (.slice e)) (he : (P.info? e).map (·.size) = some 1) (sa : Option Addr) (n c l h : Nat) (hl : l ≤ h) (hh : h ≤ c) :
    ∃ a1, (a1 = none → sa = none) ∧ (l < c → ∀ pb po, sa = some ⟨pb, po, none⟩ → a1 = some ⟨pb, po + l, none⟩) ∧ ∀ w, (Instr.slice t (.slice sa n c) (some (.int .i64 (l : Int))) (some (.int .i64 (h : Int))) none).run P w = .ok (.slice a1 (h - l) (c - l)) w := by
  have hel : P.elem t = e := by simp [Program.elem, ht]
  refine ⟨if c = l then sa else sa.map (·.add l), (fun h => by split at h <;> simp_all), fun h pb po h2 => by subst h2; rw [if_neg (by omega)]; simp only [Option.map_some, Addr.add]; split <;> simp_all, fun w => ?_⟩
  rw [run_slice_lh w t sa n c (by rw [hel]; exact ht) .i64 .i64 l h (by omega) (by omega) (by omega), hel]
  cases hq : P.info? e with
  | none => simp [hq] at he
  | some i =>
    have hs : i.size = 1 := by simpa [hq] using he
    have hz : (sizeOf e).run P w = .ok 1 w := by simp [sizeOf, typeInfo, hq, hs]
    rw [hz]
    simp only [Result.andThen, sliced, Int.toNat_natCast, Nat.mul_one]
theorem bytes_mid (w : World) (B : Nat) (sa : Option Addr) (n c : Nat) (t : List Int) (l h : Nat) (hb : BytesAt w B (.slice sa n c) t) (hlh : l ≤ h) (hh : h ≤ n) :
    ∃ a1, BytesAt w B (.slice a1 (h - l) (c - l)) ((t.drop l).take (h - l)) ∧ ∀ wx, (Instr.slice 63 (.slice sa n c) (some (.int .i64 (l : Int))) (some (.int .i64 (h : Int))) none).run Tryd.prog wx = .ok (.slice a1 (h - l) (c - l)) wx := by
  obtain ⟨h1, h2, a', c', h3, h4, h0, h5⟩ := hb
  obtain ⟨rfl, rfl, rfl⟩ : sa = a' ∧ n = t.length ∧ c = c' := by simpa using h3
  obtain ⟨a1, e0, e1, e2⟩ := slice_mid_any (P := Tryd.prog) 63 5 under_b28 size_u8 sa t.length c l h hlh (by omega)
  have hl : ((t.drop l).take (h - l)).length = h - l := by simp; omega
  refine ⟨a1, ⟨Sha.bytes_take (Sha.bytes_drop h1 _) _, by omega, a1, c - l, by rw [hl], by omega, fun h => by rw [h0 (e0 h)]; omega, fun hp => ?_⟩, e2⟩
  obtain ⟨pb, po, h6, h7, h8⟩ := h5 (by omega)
  refine ⟨pb, po + l, e1 (by omega) pb po h6, h7, fun j hj => ?_⟩
  rw [Nat.add_assoc, h8 (l + j) (by omega), Sha.g, Sha.g, List.getElem?_take, if_pos (by omega), List.getElem?_drop]

/-- the size of the parts -/
theorem size70 (s : Int) : (s.tmod 70 < 0 → 0 ≤ -s.tmod 70 ∧ -s.tmod 70 < 70) ∧ (-70 < s.tmod 70 ∧ s.tmod 70 < 70) := by
  have h2 : s.tmod 70 < 70 := Int.tmod_lt_of_pos s (by decide)
  have h3 : -70 < s.tmod 70 := by
    have := Int.tmod_lt_of_pos (-s) (show (0 : Int) < 70 by decide)
    rw [Int.neg_tmod] at this
    omega
  exact ⟨fun h => ⟨by omega, by omega⟩, h3, h2⟩

theorem OwnB.own_lt {w : World} {base : Nat} {v : Value} {xs : List Int} (h : OwnB w base v xs) : ∀ b, v.ownBlock = some b → b < w.heap.size := by
  intro b e
  rcases h.cases with ⟨rfl, _⟩ | ⟨g, cap, rest, rfl, _, h3, _⟩
  · cases e
  · have : g = b := Option.some.inj e
    subst this; exact h3.lt
theorem OwnB.modO {S : Nat → Prop} {w w' : World} {base : Nat} {v : Value} {xs : List Int} (h : OwnB w base v xs) (hM : Mod S w w') (hS : ∀ g, v.ownBlock = some g → ¬ S g) : OwnB w' base v xs := by
  obtain ⟨h1, h2 | ⟨g, cap, cur, h3, h4, h5, h6, h7, h8, h9⟩⟩ := h
  · exact ⟨h1, Or.inl h2⟩
  · exact ⟨h1, Or.inr ⟨g, cap, cur, h3, h4, (hM.blk (b := g) (cs := cur.toList) (t := 5) h5 (hS g (by rw [h3]; rfl))), h6, h7, h8, h9⟩⟩
theorem bytes_one1 (w : World) (y : Int) (T : TypeId) (hy : 0 ≤ y ∧ y ≤ 255) : BytesAt (w.alloc (.cells #[.int .u8 y] T)) (w.heap.size + 1) (.slice (some ⟨w.heap.size, 0, none⟩) 1 1) [y] := by
  refine ⟨fun x hx => ?_, by simp, _, _, rfl, by simp, (fun h => by cases h), fun _ => ⟨_, _, rfl, by omega, fun j hj => ?_⟩⟩
  · obtain rfl : x = y := by simpa using hx
    exact hy
  · obtain rfl : j = 0 := by simpa using hj
    rw [World.cell?_alloc_new]; rfl
theorem rep_mid (n j k : Nat) (y : Int) (h1 : j ≤ k) (h2 : k ≤ n) : List.replicate (min j n) y ++ ((List.replicate n y).drop j).take (k - j) = List.replicate k y := by
  rw [List.drop_replicate, List.take_replicate, List.replicate_append_replicate]
  congr 1; omega

attribute [local go_sem ↓] Go.wp_at_zero Go.wp_at_succ

end Go.Proofs.YtlndgnlkfhlekaaDoor
