/- Cuts of byte slices; ShaParts: the walk. -/
import Derived.Test.YtheamejbfopdaaaDoorShaB
import Derived.Test.YtheamejbfopdaaaDoorShaD
import Derived.Deep.RegionHeld3
import Derived.Deep.DrawnRows
import Derived.Deep.DeepCutAuto
namespace Go.Proofs.YtheamejbfopdaaaDoor
open Go.RowKit

theorem bytes_to (w : World) (B : Nat) (sa : Option Addr) (n c : Nat) (t : List Int) (a : Nat) (h : BytesAt w B (.slice sa n c) t) (ha : a ≤ n) :
    ∃ a1, BytesAt w B (.slice a1 a c) (t.take a) ∧ ∀ wx, (Instr.slice 28 (.slice sa n c) none (some (.int .i64 (a : Int))) none).run Tryd.prog wx = .ok (.slice a1 a c) wx := by
  obtain ⟨h1, h2, a', c', h3, h4, h0, h5⟩ := h
  obtain ⟨rfl, rfl, rfl⟩ : sa = a' ∧ n = t.length ∧ c = c' := by simpa using h3
  obtain ⟨a1, e0, e1, e2⟩ := slice_to_any (P := Tryd.prog) 28 5 under_b28 size_u8 sa t.length c a (by omega)
  have hl : (t.take a).length = a := by simp; omega
  refine ⟨a1, ⟨Sha.bytes_take h1 _, by omega, a1, c, by rw [hl], by omega, fun h => h0 (e0 h), fun hp => ?_⟩, e2⟩
  obtain ⟨pb, po, h6, h7, h8⟩ := h5 (by omega)
  refine ⟨pb, po, e1 pb po h6, h7, fun j hj => ?_⟩
  rw [h8 j (by omega), Sha.g, Sha.g, List.getElem?_take, if_pos (by omega)]
theorem bytes_from (w : World) (B : Nat) (sa : Option Addr) (n c : Nat) (t : List Int) (a : Nat) (h : BytesAt w B (.slice sa n c) t) (ha : a ≤ n) :
    ∃ a1, BytesAt w B (.slice a1 (n - a) (c - a)) (t.drop a) ∧ ∀ wx, (Instr.slice 28 (.slice sa n c) (some (.int .i64 (a : Int))) none none).run Tryd.prog wx = .ok (.slice a1 (n - a) (c - a)) wx := by
  obtain ⟨h1, h2, a', c', h3, h4, h0, h5⟩ := h
  obtain ⟨rfl, rfl, rfl⟩ : sa = a' ∧ n = t.length ∧ c = c' := by simpa using h3
  obtain ⟨a1, e0, e1, e2⟩ := slice_from_any (P := Tryd.prog) 28 5 under_b28 size_u8 sa t.length c a ha h4
  have hl : (t.drop a).length = t.length - a := by simp
  refine ⟨a1, ⟨Sha.bytes_drop h1 _, by omega, a1, c - a, by rw [hl], by omega, fun h => by rw [h0 (e0 h)]; omega, fun hp => ?_⟩, e2⟩
  obtain ⟨pb, po, h6, h7, h8⟩ := h5 (by omega)
  refine ⟨pb, po + a, e1 (by omega) pb po h6, h7, fun j hj => ?_⟩
  rw [Nat.add_assoc, h8 (a + j) (by omega), Sha.g, Sha.g, List.getElem?_drop]

/-- Go's remainder brought into its place -/
theorem tmod_in (k m : Int) (hm : 0 < m) : (-m < k.tmod m ∧ k.tmod m < m) ∧ (k.tmod m < 0 → k % m = k.tmod m + m) ∧ (0 ≤ k.tmod m → k % m = k.tmod m) := by
  have h1 : k % m = (k.tmod m) % m := by
    have := Int.mul_tdiv_add_tmod k m
    conv => lhs; rw [← this]
    rw [Int.mul_add_emod_self_left]
  have h2 : k.tmod m < m := Int.tmod_lt_of_pos k hm
  have h3 : -m < k.tmod m := by
    have := Int.tmod_lt_of_pos (-k) hm
    rw [Int.neg_tmod] at this
    omega
  refine ⟨⟨h3, h2⟩, fun h => ?_, fun h => ?_⟩
  · rw [h1, ← Int.add_emod_right, Int.emod_eq_of_lt (by omega) (by omega)]
  · rw [h1, Int.emod_eq_of_lt h h2]

theorem sha_eql (p q : List Int) (w : World) : (Op.equalIn 10000 25 (.agg (Sha.bcells (Sha.sha p)).toArray) (.agg (Sha.bcells (Sha.sha q)).toArray)).run Tryd.prog w = .ok (decide (Sha.sha p = Sha.sha q)) w :=
  run_equalIn_ints 9998 25 5 32 .u8 under_b32 under_b8 size_u8 (Sha.sha p) (Sha.sha q) (Sha.length_sha _) (Sha.length_sha _) w
theorem parts3 {w : World} {B : Nat} {v1 v2 : Value} {p q : List Int} (h1 : BytesAt w B v1 p) (h2 : BytesAt w B v2 q) :
    ∀ (i : Nat) v r, ([v1, .slice none 0 0, v2] : List Value)[i]? = some v → ([p, [], q] : List (List Int))[i]? = some r → BytesAt w B v r := by
  intro i v r hv hr
  match i, hv, hr with
  | 0, hv, hr => simp at hv hr; subst hv; subst hr; exact h1
  | 1, hv, hr => simp at hv hr; subst hv; subst hr; exact bytes_none _ _ _ _ (fun _ => rfl)
  | 2, hv, hr => simp at hv hr; subst hv; subst hr; exact h2
  | k + 3, hv, hr => simp at hv

theorem OwnB.modW {S : Nat → Prop} {w w' : World} {base : Nat} {v : Value} {xs : List Int} (h : OwnB w base v xs) (hM : Mod S w w') (hS : ∀ k, base ≤ k → ¬ S k) : OwnB w' base v xs := by
  obtain ⟨h1, h2 | ⟨g, cap, cur, h3, h4, h5, h6, h7, h8, h9⟩⟩ := h
  · exact ⟨h1, Or.inl h2⟩
  · exact ⟨h1, Or.inr ⟨g, cap, cur, h3, h4, (hM.blk (b := g) (cs := cur.toList) (t := 5) h5 (hS g h4)), h6, h7, h8, h9⟩⟩
theorem OwnB.form {w : World} {base : Nat} {v : Value} {xs : List Int} (h : OwnB w base v xs) : ∃ sa c, v = .slice sa xs.length c ∧ xs.length ≤ c := by
  rcases h.cases with ⟨rfl, rfl⟩ | ⟨g, cap, rest, rfl, h2, h3, h4⟩
  · exact ⟨none, 0, rfl, Nat.le_refl _⟩
  · exact ⟨_, _, rfl, h4⟩
theorem OwnB.set {w : World} {base n c : Nat} {sa : Option Addr} {xs : List Int} (h : OwnB w base (.slice sa n c) xs) (k : Nat) (y : Int) (hy : xs[k]? = some y) :
    ∃ g, sa = some ⟨g, 0, none⟩ ∧ base ≤ g ∧ w.cell? ⟨g, k, none⟩ = some (.int .u8 y) ∧ w.frozen? ⟨g, k, none⟩ = false ∧ ∀ z, OwnB (w.setCell ⟨g, k, none⟩ (.int .u8 z)) base (.slice sa n c) (xs.set k z) := by
  obtain ⟨h1, h2 | ⟨g, cap, cur, h3, h4, h5, h6, h7, h8, h9⟩⟩ := h
  · rw [List.eq_nil_of_length_eq_zero h2.2] at hy; cases hy
  · have hk : k < xs.length := (List.getElem?_eq_some_iff.1 hy).1
    have hB : Blk w g cur.toList 5 := by rw [Blk]; exact h5
    have hc : cur.toList[k]? = some (.int .u8 y) := by
      have e : (Sha.bcells xs)[k]? = some (.int .u8 y) := by rw [Sha.bcells, List.getElem?_map, hy]; rfl
      rw [← h9, List.getElem?_take, if_pos (by omega)] at e; exact e
    obtain ⟨rfl, rfl, rfl⟩ : sa = some ⟨g, 0, none⟩ ∧ n = xs.length ∧ c = cap := by simpa using h3
    refine ⟨g, rfl, h4, hB.cell hc, hB.frozen k, fun z => ⟨by simp [Sha.bcells], Or.inr ⟨g, _, (cur.toList.set k (.int .u8 z)).toArray, by rw [List.length_set], h4, hB.set k _, by rw [List.length_set]; exact h6, h7, by simpa using h8, ?_⟩⟩⟩
    rw [List.length_set, List.toList_toArray, List.take_set, h9, Sha.bcells, Sha.bcells, List.map_set]
theorem not_only_ge {b base : Nat} (h : b < base) : ∀ k, base ≤ k → ¬ only b k := fun k hk e => by have : k = b := e; omega
theorem write_own (w : World) (b : Nat) (t p : List Int) (T : TypeId) (base : Nat) (v : Value) (hv : OwnB w base v p) (hb : b < base) (hby : Sha.bytes p) (hpl : p.length ≤ 140737488355328) (hH : HashAt w b t ((t.length : Int) % 18446744073709551616) T) (hK : Rounds w) (hbK : b ≠ 2) :
    Calls Tryd.prog 22 #[.pointer (some ⟨b, 0, none⟩), v] w fun e w' => e = .returned (.tuple #[]) ∧ Mod (only b) w w' ∧ HashAt w' b (t ++ p) (((t ++ p).length : Int) % 18446744073709551616) T := by
  have hN : ((t.length : Int) % 18446744073709551616 + p.length) % 18446744073709551616 = (((t ++ p).length : Nat) : Int) % 18446744073709551616 := by rw [List.length_append]; omega
  rw [← hN]
  rcases hv.cases with ⟨rfl, rfl⟩ | ⟨g, cap, rest, rfl, h2, h3, h4⟩
  · exact write_any w b t [] _ T hH hK hbK none (b + 1) 0 0 (fun h => absurd h (by simp)) (by omega) (by simp) (fun j hj => absurd hj (by simp)) hby hpl
  · refine write_any w b t p _ T hH hK hbK _ g 0 cap (fun _ => rfl) (by omega) h4 (fun j hj => h3.cell ?_) hby hpl
    rw [Nat.zero_add, List.getElem?_append_left (by simpa [Sha.bcells] using hj), Sha.bcells, List.getElem?_map, Sha.g, List.getElem?_eq_getElem hj]; rfl

theorem sum_h (w0 w : World) (b : Nat) (t : List Int) (T : TypeId) (hH : HashAt w0 b t ((t.length : Int) % 18446744073709551616) T) (hK : Rounds w0) (hbK : b ≠ 2) (hM : Mod none_ w0 w) :
    Calls Tryd.prog 14 #[.pointer (some ⟨b, 0, none⟩)] w fun e w' => e = .returned (.agg (Sha.bcells (Sha.sha t)).toArray) ∧ Mod none_ w0 w' ∧ Mod none_ w w' := by
  refine (sum_b w b t T (hH.mod hM (fun h => h)) (hK.mod hM (fun h => h)) hbK).mono ?_
  rintro e w' ⟨rfl, h⟩
  exact ⟨rfl, hM.then h, h⟩
theorem of_h (w0 wa w : World) (vs : List Value) (ps : List (List Int)) (T : TypeId) (hl : ps.length = vs.length) (hv : ∀ (i : Nat) v p, vs[i]? = some v → ps[i]? = some p → BytesAt w0 w0.heap.size v p) (hK : Rounds w0) (cap : Nat) (hn : vs.length ≤ 140737488355328)
    (ha : Mod none_ w0 wa) (hw : Mod none_ (wa.alloc (.cells vs.toArray T)) w) :
    Calls Tryd.prog 15 #[.slice (some ⟨wa.heap.size, 0, none⟩) vs.length cap] w fun e w' => e = .returned (.agg (Sha.bcells (Sha.sha ps.flatten)).toArray) ∧ Mod none_ w0 w' ∧ Mod none_ w w' := by
  have hp := parts_new wa vs ps T hl (fun i v p h1 h2 => ((hv i v p h1 h2).mod ha (fun _ _ h => h)).mono ha.size)
  have hw0 : Mod none_ w0 w := (ha.alloc _).then hw
  refine (of_any w _ vs.length cap ps ?_ (hK.mod hw0 (fun h => h)) hn).mono ?_
  · refine ⟨hp.1, fun h0 => ?_⟩
    obtain ⟨lb, lo, e1, e2, e3⟩ := hp.2 h0
    refine ⟨lb, lo, e1, Nat.lt_of_lt_of_le e2 hw.size, fun i p hi => ?_⟩
    obtain ⟨v, e4, e5⟩ := e3 i p hi
    exact ⟨v, hw.cellS e4 (fun h => h), (e5.mod hw (fun _ _ h => h)).mono hw.size⟩
  · rintro e w' ⟨rfl, h⟩
    exact ⟨rfl, hw0.then h, h⟩
theorem of_ht (w0 wa w : World) (vs : List Value) (ps : List (List Int)) (q : List Int) (hq : ps.flatten = q) (T : TypeId) (hl : ps.length = vs.length) (hv : ∀ (i : Nat) v p, vs[i]? = some v → ps[i]? = some p → BytesAt w0 w0.heap.size v p) (hK : Rounds w0) (cap : Nat) (hn : vs.length ≤ 140737488355328)
    (ha : Mod none_ w0 wa) (hw : Mod none_ (wa.alloc (.cells vs.toArray T)) w) :
    Calls Tryd.prog 15 #[.slice (some ⟨wa.heap.size, 0, none⟩) vs.length cap] w fun e w' => e = .returned (.agg (Sha.bcells (Sha.sha q)).toArray) ∧ Mod none_ w0 w' ∧ Mod none_ w w' := by
  subst hq
  exact of_h w0 wa w vs ps T hl hv hK cap hn ha hw
theorem arr32_facts : (∀ wx : World, (isAgg 25).run Tryd.prog wx = .ok true wx) ∧ ∀ wx : World, (sizeOf 25).run Tryd.prog wx = .ok 32 wx := by
  refine ⟨fun wx => ?_, fun wx => ?_⟩
  · unfold isAgg; rw [Sem.run_bind, run_underlying Tryd.underlying25 wx]; rfl
  · have hi := size_b32
    cases hq : Tryd.prog.info? 25 with
    | none => rw [hq] at hi; cases hi
    | some i =>
      have hs : i.size = 32 := by rw [hq] at hi; simpa [Sha.bcells] using hi
      simp [sizeOf, typeInfo, hq, hs]
theorem sha_same (p : List Int) (w : World) : (Op.equalIn 10000 25 (.agg (Sha.bcells (Sha.sha p)).toArray) (.agg (Sha.bcells (Sha.sha p)).toArray)).run Tryd.prog w = .ok true w := by
  rw [sha_eql, decide_eq_true rfl]
theorem parts1 {w : World} {B : Nat} {v1 : Value} {p : List Int} (h1 : BytesAt w B v1 p) :
    ∀ (i : Nat) v r, ([v1] : List Value)[i]? = some v → ([p] : List (List Int))[i]? = some r → BytesAt w B v r := by
  intro i v r hv hr
  match i, hv, hr with
  | 0, hv, hr => simp at hv hr; subst hv; subst hr; exact h1
  | k + 1, hv, hr => simp at hv
theorem parts2 {w : World} {B : Nat} {v1 v2 : Value} {p q : List Int} (h1 : BytesAt w B v1 p) (h2 : BytesAt w B v2 q) :
    ∀ (i : Nat) v r, ([v1, v2] : List Value)[i]? = some v → ([p, q] : List (List Int))[i]? = some r → BytesAt w B v r := by
  intro i v r hv hr
  match i, hv, hr with
  | 0, hv, hr => simp at hv hr; subst hv; subst hr; exact h1
  | 1, hv, hr => simp at hv hr; subst hv; subst hr; exact h2
  | k + 2, hv, hr => simp at hv

attribute [local go_sem ↓] Go.wp_at_zero Go.wp_at_succ

set_option maxHeartbeats 2000000 in
set_option maxRecDepth 100000 in
theorem shaParts_any (w : World) (hK : Rounds w) (ta oa : Option Addr) (tn tc on oc : Nat) (k : Int) (t o : List Int) (ht : BytesAt w w.heap.size (.slice ta tn tc) t) (ho : BytesAt w w.heap.size (.slice oa on oc) o) (a : Nat) (ha : (a : Int) = k % ((tn : Int) + 1)) :
    Calls Tryd.prog 5 #[.slice ta tn tc, .int .i64 k, .slice oa on oc] w fun e w' => e = .returned (.bool true) ∧ Mod none_ w w' := by
  have hGl : 2 < w.heap.size := World.block_lt_of_cell? _ _ (hK 0 (by omega))
  have han : a ≤ tn := by have := Int.emod_lt_of_pos k (show (0 : Int) < (tn : Int) + 1 by omega); omega
  have htl : tn = t.length := by
    obtain ⟨h1, h2, a', c', h3, h4, h0, h5⟩ := ht
    simp at h3; exact h3.2.1
  have htn : tn ≤ 140737488355328 := by have := ht.2.1; omega
  have HTL := Lib.hid htl
  clear htl
  obtain ⟨a1, hb1, hs1⟩ := bytes_to w _ ta tn tc t a ht han
  obtain ⟨a2, hb2, hs2⟩ := bytes_from w _ ta tn tc t a ht han
  go_enter Tryd.func5, Tryd.ntmps5
  go_wp2_with fail
  refine (alive_any w hK).mono ?_
  rintro e w1 ⟨rfl, hM1⟩
  have hm : (0 : Int) < (tn : Int) + 1 := by omega
  go_upto_if 20 with fail
  go_cut [1] (fun s1 wx => s1 = .int .i64 a ∧ wx = w1)
  case first =>
    obtain ⟨⟨r1, r2⟩, r3, r4⟩ := tmod_in k ((tn : Int) + 1) hm
    rw [← ha] at r3 r4
    generalize k.tmod ((tn : Int) + 1) = r at *
    have HA := Lib.hid ha; have R3 := Lib.hid r3; have R4 := Lib.hid r4
    clear ha r3 r4 hs1 hs2 hb1 hb2 ht ho
    by_cases h : r < 0
    · have e := R3.out h
      have he : r + (tn : Int) + 1 = (a : Int) := by omega
      have HE := Lib.hid he
      clear e he
      go_wp2
      go_meet
      case rel => exact ⟨by rw [HE.out], rfl⟩
    · have e := R4.out (by omega)
      have HE := Lib.hid e
      clear e
      go_wp2
      go_meet
      case rel => exact ⟨by rw [HE.out], rfl⟩
  case rest =>
    obtain ⟨rfl, rfl⟩ := hcut
    clear ha hm
    have hM1' := hM1
    go_wp2_with fail
    refine (of_one wc _ t _ ((ht.mod hM1 (fun _ _ h => h)).mono hM1.size) (hK.mod hM1 (fun h => h)) 1).mono ?_
    rintro e w2 ⟨rfl, hM2⟩
    go_upto_region 7 with (refine wpList_store_new rfl 25 (.tmp 7) (.tmp 28) rfl 25 _ (Sha.bcells (Sha.sha t)) rfl rfl (by rw [size_b32, Sha.bcells, List.length_map, Sha.length_sha]) (by rw [Sha.bcells, List.length_map, Sha.length_sha]; rfl) (Sha.one_b _) ?_; intro w3 hX hM3 hs3)
    have hM3' : Mod none_ w w3 := (hM1.trans hM2 (fun _ _ h => h)).trans hM3 (fun _ _ h => h)
    have hX0 : w3.rangeAt w2.heap.size 0 (Sha.bcells (Sha.sha t)) := fun j v hj => hX.cell (by rw [Nat.zero_add]; exact hj)
    clear hM1 hM1' hM2 hM3
    generalize w2.heap.size = X at *
    have hu := Tryd.underlying25
    have hi := size_b32
    have hlen : (Sha.bcells (Sha.sha t)).length = 32 := by rw [Sha.bcells, List.length_map, Sha.length_sha]
    have hone := Sha.one_b (Sha.sha t)
    have hs1' : ∀ wx, (Instr.sliceAt 28 (.slice ta tn tc) none (some (.int .i64 (a : Int))) none).run Tryd.prog wx = .ok (.slice a1 a tc) wx := fun wx => by rw [run_sliceAt_slice _ _ _ _ _ _ (by simp [Program.elem])]; exact hs1 wx
    have hs2' : ∀ wx, (Instr.sliceAt 28 (.slice ta tn tc) (some (.int .i64 (a : Int))) none none).run Tryd.prog wx = .ok (.slice a2 (tn - a) (tc - a)) wx := fun wx => by rw [run_sliceAt_slice _ _ _ _ _ _ (by simp [Program.elem])]; exact hs2 wx
    have hb1' := (hb1.mod hM3' (fun _ _ h => h)).mono hM3'.size
    have hb2' := (hb2.mod hM3' (fun _ _ h => h)).mono hM3'.size
    have hK3 := hK.mod hM3' (fun h => h)
    have h3 : (3 : Nat) ≤ 140737488355328 := by decide
    have hne := fun (p q : List Int) (wx : World) => sha_eql p q wx
    go_region_held3 (fun w' => w'.rangeAt X 0 (Sha.bcells (Sha.sha t)) ∧ Mod none_ w3 w') (first | (go_split_ands; refine ⟨?_, ?_⟩; all_goals (first | assumption | (refine World.rangeAt_alloc ?_ _; assumption) | (refine rangeAt_none (w := w3) ?_ ?_; assumption; assumption) | ((repeat (first | assumption | exact Mod.refl _ _ | refine Mod.drew ?_ | refine Mod.alloc ?_ _)); done) | (refine Mod.then ?_ ?_; assumption; assumption))))
      (first | (go_at_call 15; refine (of_list w3.drew [.slice a1 a tc, .slice none 0 0, .slice a2 (tn - a) (tc - a)] [t.take a, [], t.drop a] _ rfl (parts3 hb1' hb2') hK3 3 h3).mono ?_; rintro e w' ⟨rfl, hM4⟩; have hM5 := (Mod.refl none_ w3).drew.then hM4))
    rename_i hHeld
    obtain ⟨hX4, hM4'⟩ := hHeld
    have hM5' := hM3'.then hM5
    clear hM4 hM5 hM4' hX0 hX hb1' hb2' hK3 hs1' hs2' hu hi hlen hone
    go_wp2_with fail
    refine (new_any w').mono ?_
    rintro e w6 ⟨rfl, hM6, hH6, hs6⟩
    have hX6 := rangeAt_none hX4 hM6
    have hM6' := hM5'.then hM6
    go_wp2_with fail
    refine (new_any w6).mono ?_
    rintro e w7 ⟨rfl, hM7, hH7, hs7⟩
    have hX7 := rangeAt_none hX6 hM7
    have hM7' := hM6'.then hM7
    have hH67 := hH6.mod hM7 (fun h => h)
    have hGg : w.heap.size ≤ w'.heap.size := hM5'.size
    have hgk : w'.heap.size < w6.heap.size := by rw [hs6]; omega
    have hXh : X < w'.heap.size := by
      have := hX4 0 (.int .u8 (Sha.g (Sha.sha t) 0)) (by rw [Sha.bcells, List.getElem?_map, Sha.g, List.getElem?_eq_getElem (by rw [Sha.length_sha]; decide)]; rfl)
      exact World.block_lt_of_cell? _ _ this
    have hk7 : w6.heap.size < w7.heap.size := by rw [hs7]; omega
    clear hM6 hM6' hM7 hM5' hX4 hX6 hH6 hs6 hs7
    generalize w'.heap.size = G at *
    generalize w6.heap.size = G2 at *
    have hs7 : w.heap.size ≤ w7.heap.size := hM7'.size
    have hb1l : ([] : List Int).length + (t.take a).length ≤ 140737488355328 := by have := hb1.2.1; simp only [List.length_nil]; omega
    go_upto_region 11 with (refine wpList_append_bytes rfl _ (.tmp 43) rfl w7.heap.size (.slice none 0 0) [] rfl (ownB_nil _ _) (.slice a1 a tc) (t.take a) rfl w7.heap.size ((hb1.mod hM7' (fun _ _ h => h)).mono hs7) hb1l (Nat.le_refl _) ?_; intro x w8 hx8 hg8)
    have hM8 : Mod none_ w7 w8 := Mod.grownBy hg8 (fun k hk h => by cases h)
    rw [List.nil_append] at hx8
    have hM8' := hM7'.then hM8
    have hX8 := rangeAt_none hX7 hM8
    have hG8 := hH67.mod hM8 (fun h => h)
    have hk8 := hH7.mod hM8 (fun h => h)
    have hbt := hb1.1
    have hbl := hb1.2.1
    have hs8 := hM8.size
    generalize w7.heap.size = B0 at *
    clear hM8 hX7 hH67 hH7 hM7' hg8 hb1l hs7
    have hgK : G ≠ 2 := by omega
    have hkK : G2 ≠ 2 := by omega
    go_wp2_with fail
    refine (write_own w8 G [] (t.take a) _ B0 x hx8 (by omega) hbt hbl hG8 (hK.mod hM8' (fun h => h)) hgK).mono ?_
    rintro e w9 ⟨rfl, hM9, hG9⟩
    have hM9' : Mod none_ w w9 := hM8'.trans hM9 (fun j hj h => absurd hj (by rw [show j = G from h]; omega))
    have hX9 := rangeAt_mod hX8 hM9 (not_only (by omega))
    have hk9 := hk8.mod hM9 (not_only (by omega))
    have hx9 := hx8.modW hM9 (not_only_ge (by omega))
    have hs9 := hM9.size
    clear hM9 hM8' hX8 hk8 hx8 hG8
    go_wp2_with fail
    refine (write_b w9 G2 [] o _ _ ((ho.mod hM9' (fun _ _ h => h)).mono (by omega)) hk9 (hK.mod hM9' (fun h => h)) hkK).mono ?_
    rintro e w10 ⟨rfl, hM10, hk10⟩
    have hM10' : Mod none_ w w10 := hM9'.trans hM10 (fun j hj h => absurd hj (by rw [show j = G2 from h]; omega))
    have hX10 := rangeAt_mod hX9 hM10 (not_only (by omega))
    have hG10 := hG9.mod hM10 (not_only (by omega))
    have hx10 := hx9.modW hM10 (not_only_ge (by omega))
    have hs10 := hM10.size
    clear hM10 hM9' hX9 hk9 hx9 hG9
    have hK10 := hK.mod hM10' (fun h => h)
    have hs1' : ∀ wx, (Instr.sliceAt 28 (.slice ta tn tc) none (some (.int .i64 (a : Int))) none).run Tryd.prog wx = .ok (.slice a1 a tc) wx := fun wx => by rw [run_sliceAt_slice _ _ _ _ _ _ (by simp [Program.elem])]; exact hs1 wx
    have hb1' := (hb1.mod hM10' (fun _ _ h => h)).mono hM10'.size
    rw [List.nil_append] at hG10 hk10
    have h1 : (1 : Nat) ≤ 140737488355328 := by decide
    have h0 := Mod.refl none_ w10
    go_upto_region 13 with fail
    go_cut [58] (fun s wx => s = .bool false ∧ Mod none_ w10 wx)
    case first =>
      go_region_held3 (fun w' => Mod none_ w10 w') (first | ((repeat (first | assumption | refine Mod.drew ?_ | refine Mod.alloc ?_ _)); done))
        (first | (go_at_call 14; refine (sum_h w10 _ G _ _ hG10 hK10 hgK (by repeat (first | assumption | refine Mod.drew ?_ | refine Mod.alloc ?_ _))).mono ?_; rintro e w' ⟨rfl, hM11, hN11⟩)
               | (go_at_call 15; refine (of_h w10 _ _ [.slice a1 a tc] [t.take a] 28 rfl (parts1 hb1') hK10 1 h1 (by repeat (first | assumption | refine Mod.drew ?_)) (by repeat (first | assumption | exact Mod.refl _ _ | refine Mod.drew ?_ | (refine Mod.then (Mod.drew (Mod.refl _ _)) ?_; assumption)))).mono ?_; rintro e w' ⟨rfl, hM11, hN11⟩))
      all_goals (go_wp2_with fail; go_meet)
      all_goals (refine ⟨rfl, ?_⟩; assumption)
    case rest =>
      obtain ⟨rfl, hM11⟩ := hcut
      obtain ⟨w11, rfl⟩ : ∃ w11 : World, w11 = wc := ⟨_, rfl⟩
      have hX11 := rangeAt_none hX10 hM11
      have hG11 := hG10.mod hM11 (fun h => h)
      have hk11 := hk10.mod hM11 (fun h => h)
      have hx11 := hx10.modW hM11 (fun _ _ h => h)
      have hM11' := hM10'.then hM11
      have hs11 := hM11.size
      clear hM11 hM10' hX10 hG10 hk10 hx10 hK10 hs1' hb1' h0 h1 hs1
      obtain ⟨sa, c, rfl, hsl⟩ := hx11.form
      have hlx : (t.take a).length = a := by have := HTL.out; rw [List.length_take]; omega
      have hx0 : ∃ xs, Sha.bytes xs ∧ xs.length = a ∧ OwnB w11 B0 (.slice sa a c) xs := ⟨t.take a, hbt, hlx, by rw [hlx] at hx11; exact hx11⟩
      clear hx11
      rw [hlx]
      go_wp2_with fail
      go_loopw [11] (fun i wr => ∃ k : Nat, k ≤ a ∧ i = .int .i64 k ∧ (∃ xs, Sha.bytes xs ∧ xs.length = a ∧ OwnB wr B0 (.slice sa a c) xs) ∧ Mod (fun b => B0 ≤ b) w11 wr) (fun i _ => a - (intOf i).toNat)
      case atStart => exact ⟨0, by omega, rfl, hx0, Mod.refl _ _⟩
      case round =>
        obtain ⟨k, hk, rfl, ⟨xs, hxb, hxl, hxo⟩, hM⟩ := hrel
        by_cases hlt : k < a
        · obtain ⟨y, hy⟩ : ∃ y, xs[k]? = some y := ⟨_, List.getElem?_eq_getElem (by omega)⟩
          have hyb := hxb y (List.mem_of_getElem? hy)
          obtain ⟨g, rfl, hg, hq, hf, hset⟩ := hxo.set k y hy
          go_wp2
          go_roundw
          case rel =>
            refine ⟨k + 1, by omega, by go_num, ⟨_, ?_, by rw [List.length_set]; exact hxl, hset _⟩, hM.setCell (fun _ => hg) _⟩
            intro z hz
            rcases List.mem_or_eq_of_mem_set hz with hz | rfl
            · exact hxb z hz
            · exact ⟨bits_lo_u8 _ _ _, bits_hi_u8 _ _ _⟩
          case measure => simp [intOf]; omega
        · have hX12 := rangeAt_mod hX11 hM (by omega)
          have hG12 := hG11.mod hM (by omega)
          have hk12 := hk11.mod hM (by omega)
          have hM12 : Mod none_ w wr := hM11'.trans hM (fun j hj h => by omega)
          have hs12 := hM.size
          clear hX11 hG11 hk11 hM11' hM hx0
          go_wp2_with fail
          refine (write_own wr G2 o xs _ B0 _ hxo (by omega) hxb (by omega) hk12 (hK.mod hM12 (fun h => h)) hkK).mono ?_
          rintro e w13 ⟨rfl, hM13, hk13⟩
          have hM13' : Mod none_ w w13 := hM12.trans hM13 (fun j hj h => absurd hj (by rw [show j = G2 from h]; omega))
          have hX13 := rangeAt_mod hX12 hM13 (not_only (by omega))
          have hG13 := hG12.mod hM13 (not_only (by omega))
          have hx13 := hxo.modW hM13 (not_only_ge (by omega))
          have hs13 := hM13.size
          clear hM12 hM13 hX12 hG12 hk12 hxo
          go_wp2_with fail
          refine (write_b w13 G (t.take a) [] _ _ (bytes_none _ _ none 0 (fun _ => rfl)) hG13 (hK.mod hM13' (fun h => h)) hgK).mono ?_
          rintro e w14 ⟨rfl, hM14, hG14⟩
          have hM14' : Mod none_ w w14 := hM13'.trans hM14 (fun j hj h => absurd hj (by rw [show j = G from h]; omega))
          have hX14 := rangeAt_mod hX13 hM14 (not_only (by omega))
          have hk14 := hk13.mod hM14 (not_only (by omega))
          have hx14 := hx13.modW hM14 (not_only_ge (by omega))
          have hs14 := hM14.size
          clear hM13' hM14 hX13 hG13 hk13 hx13
          go_wp2_with fail
          refine (write_b w14 G (t.take a ++ []) (t.drop a) _ _ ((hb2.mod hM14' (fun _ _ h => h)).mono (by omega)) hG14 (hK.mod hM14' (fun h => h)) hgK).mono ?_
          rintro e w15 ⟨rfl, hM15, hG15⟩
          have hM15' : Mod none_ w w15 := hM14'.trans hM15 (fun j hj h => absurd hj (by rw [show j = G from h]; omega))
          have hX15 := rangeAt_mod hX14 hM15 (not_only (by omega))
          have hk15 := hk14.mod hM15 (not_only (by omega))
          have hx15 := hx14.modW hM15 (not_only_ge (by omega))
          have hs15 := hM15.size
          clear hM14' hM15 hX14 hG14 hk14 hx14
          rw [List.append_nil, List.take_append_drop] at hG15
          have hK15 := hK.mod hM15' (fun h => h)
          have ho15 := (ho.mod hM15' (fun _ _ h => h)).mono hM15'.size
          have hb15 := OwnB.bytes hx15 hxb (by omega)
          have hu := Tryd.underlying25
          have hi := size_b32
          have hlen : (Sha.bcells (Sha.sha t)).length = 32 := by rw [Sha.bcells, List.length_map, Sha.length_sha]
          have hone := Sha.one_b (Sha.sha t)
          have h2 : (2 : Nat) ≤ 140737488355328 := by decide
          have h0 := Mod.refl none_ w15
          have hee := fun (p : List Int) (wx : World) => sha_same p wx
          clear hne
          have hfl : [o, xs].flatten = o ++ xs := by simp
          have HFL := Lib.hid hfl
          clear hfl
          obtain ⟨ty, hty⟩ : ∃ ty : TypeId, 25 = ty := ⟨_, rfl⟩
          obtain ⟨sz, hsz⟩ : ∃ sz : Nat, 32 = sz := ⟨_, rfl⟩
          obtain ⟨hag, hso⟩ := (by subst hty; subst hsz; exact arr32_facts : (∀ wx : World, (isAgg ty).run Tryd.prog wx = .ok true wx) ∧ ∀ wx : World, (sizeOf ty).run Tryd.prog wx = .ok sz wx)
          have hld : ∀ wx : World, wx.rangeAt X 0 (Sha.bcells (Sha.sha t)) → (loadCellsFrom ⟨X, 0, none⟩ 0 sz #[]).run Tryd.prog wx = .ok (Sha.bcells (Sha.sha t)).toArray wx := fun wx h => by
            subst hsz
            have := run_loadCells_list (P := Tryd.prog) wx ⟨X, 0, none⟩ (Sha.bcells (Sha.sha t)) (fun j v hv => by rw [Addr.add_mid]; exact h j v hv)
            rw [hlen] at this
            exact this
          clear hsz
          clear hu hi hone hlen
          have HTY := Lib.hid hty
          clear hty
          go_upto_region 22 with fail
          rw [show Op.load 25 (.tmp 7) = Op.load ty (.tmp 7) from by rw [HTY.out]]
          go_region_held3 (fun w' => w'.rangeAt X 0 (Sha.bcells (Sha.sha t)) ∧ Mod none_ w15 w') (first | (go_split_ands; refine ⟨?_, ?_⟩; all_goals (first | ((repeat (first | assumption | refine Mod.drew ?_ | refine Mod.alloc ?_ _)); done) | (refine World.rangeAt_alloc ?_ _; assumption) | (refine rangeAt_none (w := w15) ?_ ?_; assumption; assumption))))
            (first | (go_split_ands; go_at_call 14; refine (sum_h w15 _ _ _ _ (by assumption) hK15 (by assumption) (by repeat (first | assumption | refine Mod.drew ?_ | refine Mod.alloc ?_ _))).mono ?_; rintro e w' ⟨rfl, hM16, hN16⟩)
                   | (go_split_ands; go_at_call 15; refine (of_ht w15 _ _ [.slice oa on oc, .slice sa a c] [o, xs] (o ++ xs) HFL.out 28 rfl (parts2 ho15 hb15) hK15 2 h2 (by repeat (first | assumption | refine Mod.drew ?_)) (by repeat (first | assumption | exact Mod.refl _ _ | refine Mod.drew ?_ | (refine Mod.then (Mod.drew (Mod.refl _ _)) ?_; assumption)))).mono ?_; rintro e w' ⟨rfl, hM16, hN16⟩))
          all_goals go_wp2_with fail
          all_goals go_ret
          all_goals (refine ⟨rfl, hM15'.then ?_⟩; assumption)
end Go.Proofs.YtheamejbfopdaaaDoor
