/- Cuts of byte slices; ShaParts: the walk. -/
import Derived.Test.YtlndgnlkfhlekaaDoorShaB
import Derived.Test.YtlndgnlkfhlekaaDoorShaD
import Derived.Deep.RegionHeld3
import Derived.Deep.DrawnRows
import Derived.Deep.DeepCutAuto
namespace Go.Proofs.YtlndgnlkfhlekaaDoor
open Go.RowKit

theorem bytes_to (w : World) (B : Nat) (sa : Option Addr) (n c : Nat) (t : List Int) (a : Nat) (h : BytesAt w B (.slice sa n c) t) (ha : a ≤ n) :
    ∃ a1, BytesAt w B (.slice a1 a c) (t.take a) ∧ ∀ wx, (Instr.slice 63 (.slice sa n c) none (some (.int .i64 (a : Int))) none).run Tryd.prog wx = .ok (.slice a1 a c) wx := by
  obtain ⟨h1, h2, a', c', h3, h4, h0, h5⟩ := h
  obtain ⟨rfl, rfl, rfl⟩ : sa = a' ∧ n = t.length ∧ c = c' := by simpa using h3
  obtain ⟨a1, e0, e1, e2⟩ := slice_to_any (P := Tryd.prog) 63 5 under_b28 size_u8 sa t.length c a (by omega)
  have hl : (t.take a).length = a := by simp; omega
  refine ⟨a1, ⟨Sha.bytes_take h1 _, by omega, a1, c, by rw [hl], by omega, fun h => h0 (e0 h), fun hp => ?_⟩, e2⟩
  obtain ⟨pb, po, h6, h7, h8⟩ := h5 (by omega)
  refine ⟨pb, po, e1 pb po h6, h7, fun j hj => ?_⟩
  rw [h8 j (by omega), Sha.g, Sha.g, List.getElem?_take, if_pos (by omega)]
theorem bytes_from (w : World) (B : Nat) (sa : Option Addr) (n c : Nat) (t : List Int) (a : Nat) (h : BytesAt w B (.slice sa n c) t) (ha : a ≤ n) :
    ∃ a1, BytesAt w B (.slice a1 (n - a) (c - a)) (t.drop a) ∧ ∀ wx, (Instr.slice 63 (.slice sa n c) (some (.int .i64 (a : Int))) none none).run Tryd.prog wx = .ok (.slice a1 (n - a) (c - a)) wx := by
  obtain ⟨h1, h2, a', c', h3, h4, h0, h5⟩ := h
  obtain ⟨rfl, rfl, rfl⟩ : sa = a' ∧ n = t.length ∧ c = c' := by simpa using h3
  obtain ⟨a1, e0, e1, e2⟩ := slice_from_any (P := Tryd.prog) 63 5 under_b28 size_u8 sa t.length c a ha h4
  have hl : (t.drop a).length = t.length - a := by simp
  refine ⟨a1, ⟨Sha.bytes_drop h1 _, by omega, a1, c - a, by rw [hl], by omega, fun h => by rw [h0 (e0 h)]; omega, fun hp => ?_⟩, e2⟩
  obtain ⟨pb, po, h6, h7, h8⟩ := h5 (by omega)
  refine ⟨pb, po + a, e1 (by omega) pb po h6, h7, fun j hj => ?_⟩
  rw [Nat.add_assoc, h8 (a + j) (by omega), Sha.g, Sha.g, List.getElem?_drop]

/-- Go's remainder brought into its place -/
theorem tmod_in (k m : Int) (hm : 0 < m) : (-m < k.tmod m ∧ k.tmod m < m) ∧ (k.tmod m < 0 → k % m = k.tmod m + m) ∧ (0 ≤ k.tmod m → k % m = k.tmod m) := by
  have h1 : k % m = (k.tmod m) % m := by
    have := Int.mul_tdiv_add_tmod k m
    conv => lhs; rw [← this]
    rw [Int.mul_add_emod_self_left]
  have h2 : k.tmod m < m := Int.tmod_lt_of_pos k hm
  have h3 : -m < k.tmod m := by
    have := Int.tmod_lt_of_pos (-k) hm
    rw [Int.neg_tmod] at this
    omega
  refine ⟨⟨h3, h2⟩, fun h => ?_, fun h => ?_⟩
  · rw [h1, ← Int.add_emod_right, Int.emod_eq_of_lt (by omega) (by omega)]
  · rw [h1, Int.emod_eq_of_lt h h2]

theorem sha_eql (p q : List Int) (w : World) : (Op.equalIn 10000 36 (.agg (Sha.bcells (Sha.sha p)).toArray) (.agg (Sha.bcells (Sha.sha q)).toArray)).run Tryd.prog w = .ok (decide (Sha.sha p = Sha.sha q)) w :=
  run_equalIn_ints 9998 36 5 32 .u8 under_b32 under_b8 size_u8 (Sha.sha p) (Sha.sha q) (Sha.length_sha _) (Sha.length_sha _) w
theorem parts3 {w : World} {B : Nat} {v1 v2 : Value} {p q : List Int} (h1 : BytesAt w B v1 p) (h2 : BytesAt w B v2 q) :
    ∀ (i : Nat) v r, ([v1, .slice none 0 0, v2] : List Value)[i]? = some v → ([p, [], q] : List (List Int))[i]? = some r → BytesAt w B v r := by
  intro i v r hv hr
  match i, hv, hr with
  | 0, hv, hr => simp at hv hr; subst hv; subst hr; exact h1
  | 1, hv, hr => simp at hv hr; subst hv; subst hr; exact bytes_none _ _ _ _ (fun _ => rfl)
  | 2, hv, hr => simp at hv hr; subst hv; subst hr; exact h2
  | k + 3, hv, hr => simp at hv

theorem OwnB.modW {S : Nat → Prop} {w w' : World} {base : Nat} {v : Value} {xs : List Int} (h : OwnB w base v xs) (hM : Mod S w w') (hS : ∀ k, base ≤ k → ¬ S k) : OwnB w' base v xs := by
  obtain ⟨h1, h2 | ⟨g, cap, cur, h3, h4, h5, h6, h7, h8, h9⟩⟩ := h
  · exact ⟨h1, Or.inl h2⟩
  · exact ⟨h1, Or.inr ⟨g, cap, cur, h3, h4, (hM.blk (b := g) (cs := cur.toList) (t := 5) h5 (hS g h4)), h6, h7, h8, h9⟩⟩
theorem OwnB.form {w : World} {base : Nat} {v : Value} {xs : List Int} (h : OwnB w base v xs) : ∃ sa c, v = .slice sa xs.length c ∧ xs.length ≤ c := by
  rcases h.cases with ⟨rfl, rfl⟩ | ⟨g, cap, rest, rfl, h2, h3, h4⟩
  · exact ⟨none, 0, rfl, Nat.le_refl _⟩
  · exact ⟨_, _, rfl, h4⟩
theorem OwnB.set {w : World} {base n c : Nat} {sa : Option Addr} {xs : List Int} (h : OwnB w base (.slice sa n c) xs) (k : Nat) (y : Int) (hy : xs[k]? = some y) :
    ∃ g, sa = some ⟨g, 0, none⟩ ∧ base ≤ g ∧ w.cell? ⟨g, k, none⟩ = some (.int .u8 y) ∧ w.frozen? ⟨g, k, none⟩ = false ∧ ∀ z, OwnB (w.setCell ⟨g, k, none⟩ (.int .u8 z)) base (.slice sa n c) (xs.set k z) := by
  obtain ⟨h1, h2 | ⟨g, cap, cur, h3, h4, h5, h6, h7, h8, h9⟩⟩ := h
  · rw [List.eq_nil_of_length_eq_zero h2.2] at hy; cases hy
  · have hk : k < xs.length := (List.getElem?_eq_some_iff.1 hy).1
    have hB : Blk w g cur.toList 5 := by rw [Blk]; exact h5
    have hc : cur.toList[k]? = some (.int .u8 y) := by
      have e : (Sha.bcells xs)[k]? = some (.int .u8 y) := by rw [Sha.bcells, List.getElem?_map, hy]; rfl
      rw [← h9, List.getElem?_take, if_pos (by omega)] at e; exact e
    obtain ⟨rfl, rfl, rfl⟩ : sa = some ⟨g, 0, none⟩ ∧ n = xs.length ∧ c = cap := by simpa using h3
    refine ⟨g, rfl, h4, hB.cell hc, hB.frozen k, fun z => ⟨by simp [Sha.bcells], Or.inr ⟨g, _, (cur.toList.set k (.int .u8 z)).toArray, by rw [List.length_set], h4, hB.set k _, by rw [List.length_set]; exact h6, h7, by simpa using h8, ?_⟩⟩⟩
    rw [List.length_set, List.toList_toArray, List.take_set, h9, Sha.bcells, Sha.bcells, List.map_set]
theorem not_only_ge {b base : Nat} (h : b < base) : ∀ k, base ≤ k → ¬ only b k := fun k hk e => by have : k = b := e; omega
theorem write_own (w : World) (b : Nat) (t p : List Int) (T : TypeId) (base : Nat) (v : Value) (hv : OwnB w base v p) (hb : b < base) (hby : Sha.bytes p) (hpl : p.length ≤ 140737488355328) (hH : HashAt w b t ((t.length : Int) % 18446744073709551616) T) (hK : Rounds w) (hbK : b ≠ 0) :
    Calls Tryd.prog 36 #[.pointer (some ⟨b, 0, none⟩), v] w fun e w' => e = .returned (.tuple #[]) ∧ Mod (only b) w w' ∧ HashAt w' b (t ++ p) (((t ++ p).length : Int) % 18446744073709551616) T := by
  have hN : ((t.length : Int) % 18446744073709551616 + p.length) % 18446744073709551616 = (((t ++ p).length : Nat) : Int) % 18446744073709551616 := by rw [List.length_append]; omega
  rw [← hN]
  rcases hv.cases with ⟨rfl, rfl⟩ | ⟨g, cap, rest, rfl, h2, h3, h4⟩
  · exact write_any w b t [] _ T hH hK hbK none (b + 1) 0 0 (fun h => absurd h (by simp)) (by omega) (by simp) (fun j hj => absurd hj (by simp)) hby hpl
  · refine write_any w b t p _ T hH hK hbK _ g 0 cap (fun _ => rfl) (by omega) h4 (fun j hj => h3.cell ?_) hby hpl
    rw [Nat.zero_add, List.getElem?_append_left (by simpa [Sha.bcells] using hj), Sha.bcells, List.getElem?_map, Sha.g, List.getElem?_eq_getElem hj]; rfl

theorem sum_h (w0 w : World) (b : Nat) (t : List Int) (T : TypeId) (hH : HashAt w0 b t ((t.length : Int) % 18446744073709551616) T) (hK : Rounds w0) (hbK : b ≠ 0) (hM : Mod none_ w0 w) :
    Calls Tryd.prog 37 #[.pointer (some ⟨b, 0, none⟩)] w fun e w' => e = .returned (.agg (Sha.bcells (Sha.sha t)).toArray) ∧ Mod none_ w0 w' ∧ Mod none_ w w' := by
  refine (sum_b w b t T (hH.mod hM (fun h => h)) (hK.mod hM (fun h => h)) hbK).mono ?_
  rintro e w' ⟨rfl, h⟩
  exact ⟨rfl, hM.then h, h⟩
theorem of_h (w0 wa w : World) (vs : List Value) (ps : List (List Int)) (T : TypeId) (hl : ps.length = vs.length) (hv : ∀ (i : Nat) v p, vs[i]? = some v → ps[i]? = some p → BytesAt w0 w0.heap.size v p) (hK : Rounds w0) (cap : Nat) (hn : vs.length ≤ 140737488355328)
    (ha : Mod none_ w0 wa) (hw : Mod none_ (wa.alloc (.cells vs.toArray T)) w) :
    Calls Tryd.prog 32 #[.slice (some ⟨wa.heap.size, 0, none⟩) vs.length cap] w fun e w' => e = .returned (.agg (Sha.bcells (Sha.sha ps.flatten)).toArray) ∧ Mod none_ w0 w' ∧ Mod none_ w w' := by
  have hp := parts_new wa vs ps T hl (fun i v p h1 h2 => ((hv i v p h1 h2).mod ha (fun _ _ h => h)).mono ha.size)
  have hw0 : Mod none_ w0 w := (ha.alloc _).then hw
  refine (of_any w _ vs.length cap ps ?_ (hK.mod hw0 (fun h => h)) hn).mono ?_
  · refine ⟨hp.1, fun h0 => ?_⟩
    obtain ⟨lb, lo, e1, e2, e3⟩ := hp.2 h0
    refine ⟨lb, lo, e1, Nat.lt_of_lt_of_le e2 hw.size, fun i p hi => ?_⟩
    obtain ⟨v, e4, e5⟩ := e3 i p hi
    exact ⟨v, hw.cellS e4 (fun h => h), (e5.mod hw (fun _ _ h => h)).mono hw.size⟩
  · rintro e w' ⟨rfl, h⟩
    exact ⟨rfl, hw0.then h, h⟩
theorem of_ht (w0 wa w : World) (vs : List Value) (ps : List (List Int)) (q : List Int) (hq : ps.flatten = q) (T : TypeId) (hl : ps.length = vs.length) (hv : ∀ (i : Nat) v p, vs[i]? = some v → ps[i]? = some p → BytesAt w0 w0.heap.size v p) (hK : Rounds w0) (cap : Nat) (hn : vs.length ≤ 140737488355328)
    (ha : Mod none_ w0 wa) (hw : Mod none_ (wa.alloc (.cells vs.toArray T)) w) :
    Calls Tryd.prog 32 #[.slice (some ⟨wa.heap.size, 0, none⟩) vs.length cap] w fun e w' => e = .returned (.agg (Sha.bcells (Sha.sha q)).toArray) ∧ Mod none_ w0 w' ∧ Mod none_ w w' := by
  subst hq
  exact of_h w0 wa w vs ps T hl hv hK cap hn ha hw
theorem arr32_facts : (∀ wx : World, (isAgg 36).run Tryd.prog wx = .ok true wx) ∧ ∀ wx : World, (sizeOf 36).run Tryd.prog wx = .ok 32 wx := by
  refine ⟨fun wx => ?_, fun wx => ?_⟩
  · unfold isAgg; rw [Sem.run_bind, run_underlying Tryd.underlying36 wx]; rfl
  · have hi := size_b32
    cases hq : Tryd.prog.info? 36 with
    | none => rw [hq] at hi; cases hi
    | some i =>
      have hs : i.size = 32 := by rw [hq] at hi; simpa [Sha.bcells] using hi
      simp [sizeOf, typeInfo, hq, hs]
theorem sha_same (p : List Int) (w : World) : (Op.equalIn 10000 36 (.agg (Sha.bcells (Sha.sha p)).toArray) (.agg (Sha.bcells (Sha.sha p)).toArray)).run Tryd.prog w = .ok true w := by
  rw [sha_eql, decide_eq_true rfl]
theorem parts1 {w : World} {B : Nat} {v1 : Value} {p : List Int} (h1 : BytesAt w B v1 p) :
    ∀ (i : Nat) v r, ([v1] : List Value)[i]? = some v → ([p] : List (List Int))[i]? = some r → BytesAt w B v r := by
  intro i v r hv hr
  match i, hv, hr with
  | 0, hv, hr => simp at hv hr; subst hv; subst hr; exact h1
  | k + 1, hv, hr => simp at hv
theorem parts2 {w : World} {B : Nat} {v1 v2 : Value} {p q : List Int} (h1 : BytesAt w B v1 p) (h2 : BytesAt w B v2 q) :
    ∀ (i : Nat) v r, ([v1, v2] : List Value)[i]? = some v → ([p, q] : List (List Int))[i]? = some r → BytesAt w B v r := by
  intro i v r hv hr
  match i, hv, hr with
  | 0, hv, hr => simp at hv hr; subst hv; subst hr; exact h1
  | 1, hv, hr => simp at hv hr; subst hv; subst hr; exact h2
  | k + 2, hv, hr => simp at hv

attribute [local go_sem ↓] Go.wp_at_zero Go.wp_at_succ

end Go.Proofs.YtlndgnlkfhlekaaDoor
