/- The reference of chapter 1: Of. -/
import Derived.Test.YtlndgnlkfhlekaaDoorRefC
namespace Go.Proofs.YtlndgnlkfhlekaaDoor
open Go.RowKit

theorem OwnB.own_ge {w : World} {base : Nat} {v : Value} {xs : List Int} (h : OwnB w base v xs) {b : Nat} (e : v.ownBlock = some b) : base ≤ b := by
  rcases h.cases with ⟨rfl, _⟩ | ⟨g, cap, rest, rfl, h2, _, _⟩
  · cases e
  · have : g = b := Option.some.inj e
    omega

set_option maxHeartbeats 2000000 in
set_option maxRecDepth 100000 in
theorem ref_of_any (w : World) (sa : Option Addr) (n cap : Nat) (ps : List (List Int)) (hp : PartsAt w w.heap.size sa n ps) (hT : RefTabs w) (hn48 : n ≤ 140737488355328) (hfl : ps.flatten.length ≤ 70368744177664) :
    Calls Tryd.prog 38 #[.slice sa n cap] w fun e w' => e = .returned (.agg (Sha.bcells (Sha.sha ps.flatten)).toArray) ∧ Mod none_ w w' := by
  go_enter Tryd.func38, Tryd.ntmps38
  go_upto_region 1 with fail
  obtain ⟨w1, hw1, hR1, hM1, hs1⟩ : ∃ w1, w.alloc (.cells (Sha.bcells (Sha.zeros 32)).toArray 36) = w1 ∧ Blk w1 w.heap.size (Sha.bcells (Sha.zeros 32)) 36 ∧ Mod none_ w w1 ∧ w1.heap.size = w.heap.size + 1 := ⟨_, rfl, Blk.new _ _ _, (Mod.refl _ _).alloc _, by simp⟩
  change Code.wp _ _ _ _ (w.alloc (.cells (Sha.bcells (Sha.zeros 32)).toArray 36))
  rw [hw1]
  clear hw1
  have HP := Lib.hid hp
  have hfk : ∀ k, (ps.take k).flatten.length ≤ 70368744177664 := fun k => by
    have : (ps.take k).flatten.length + (ps.drop k).flatten.length = ps.flatten.length := by
      rw [← List.length_append, ← List.flatten_append, List.take_append_drop]
    omega
  have hfp : ∀ k p, ps[k]? = some p → (ps.take k).flatten.length + p.length ≤ 70368744177664 := fun k p hk => by
    have h := hfk (k + 1)
    rw [List.take_add_one, hk, List.flatten_append] at h
    simpa using h
  have HFP := Lib.hid hfp
  clear hp hfk hfp
  go_wp2_with fail
  go_loopw [3, 4] (fun v i wr => ∃ k : Nat, k ≤ n ∧ i = .int .i64 k ∧ OwnB wr (w.heap.size + 1) v (ps.take k).flatten ∧ Blk wr w.heap.size (Sha.bcells (Sha.zeros 32)) 36 ∧ Mod none_ w wr) (fun _ i _ => n - (intOf i).toNat)
  case atStart => exact ⟨0, by omega, rfl, ownB_nil _ _, hR1, hM1⟩
  case round =>
    clear hR1 hM1 hs1 w1
    obtain ⟨k, hk, rfl, hA, hR, hM⟩ := hrel
    by_cases hlt : k < n
    · obtain ⟨hpl, hpp⟩ := HP.out
      obtain ⟨lb, lo, rfl, hlb, hc⟩ := hpp (by omega)
      obtain ⟨p, hpk⟩ : ∃ p, ps[k]? = some p := ⟨_, List.getElem?_eq_getElem (by omega)⟩
      obtain ⟨v, hv, hb⟩ := hc k p hpk
      have qv : wr.cell? ⟨lb, lo + k, none⟩ = some v := hM.cellS hv (fun h => h)
      have hb' : BytesAt wr w.heap.size v p := hb.mod hM (fun _ _ h => h)
      have hsum := HFP.out k p hpk
      have hws := hM.size
      have hRl := hR.lt
      have HB := Lib.hid hb'; have HA := Lib.hid hA; have HPL := Lib.hid hpl; have HPK := Lib.hid hpk
      clear hb hb' hA hv hc hpp hpl hpk
      go_upto_region 4 with (refine wpList_append_bytes rfl _ (.tmp 15) rfl (w.heap.size + 1) u3 (ps.take k).flatten rfl HA.out v p rfl w.heap.size HB.out (by omega) (by omega) ?_; intro x w8 hx8 hg8)
      have hM8 : Mod (fun b => w.heap.size + 1 ≤ b) wr w8 := Mod.grownBy hg8 (fun j _ e => HA.out.own_ge e)
      have hR8 := hM8.blk hR (by omega)
      have hM8' : Mod none_ w w8 := hM.trans hM8 (fun j hj h => by omega)
      clear hM8 hg8 hR hM
      go_wp2
      go_roundw
      case rel =>
        refine ⟨k + 1, by omega, by go_num, ?_, hR8, hM8'⟩
        rw [List.take_add_one, HPK.out, List.flatten_append]
        simpa using hx8
      case measure => simp [intOf]; omega
    · have hall : (ps.take k).flatten = ps.flatten := by
        rw [List.take_of_length_le]; rw [HP.out.1]; omega
      rw [hall] at hA
      have hby : Sha.bytes ps.flatten := by
        obtain ⟨hpl, hpp⟩ := HP.out
        intro x hx
        obtain ⟨q, hq, hxq⟩ := List.mem_flatten.1 hx
        obtain ⟨i, hi⟩ := List.getElem?_of_mem hq
        have hin : i < n := by have := (List.getElem?_eq_some_iff.1 hi).1; omega
        obtain ⟨lb, lo, _, _, hc⟩ := hpp (by omega)
        obtain ⟨v, _, hv⟩ := hc i q hi
        exact hv.1 x hxq
      have hb := hA.bytes hby (by omega)
      have hTw := hT.mod hM (fun h => h) (fun h => h)
      have hl32 : (Sha.bcells (Sha.sha ps.flatten)).length = 32 := by rw [Sha.bcells, List.length_map, Sha.length_sha]
      clear hA hall hby HP HFP
      go_wp2_with fail
      refine (ref_sum wr u3 ps.flatten hb hfl hTw).mono ?_
      rintro e w5 ⟨rfl, hM5⟩
      have hR5 := hM5.blk hR (fun h => h)
      have hM5' := hM.then hM5
      clear hR hM hM5 hTw hb
      go_wp2_with (refine wpList_store_blk rfl 36 (.tmp 2) (.tmp 18) rfl w.heap.size (Sha.bcells (Sha.sha ps.flatten)) rfl rfl 36 _ hR5 (by rw [size_b32, hl32]) (by rw [hl32]; rfl) (Sha.one_b _) ?_; intro w9 hB9 hM9 hs9)
      refine bodyPost_ret (results_cell_row rfl _ w9 w.heap.size 36 (Sha.bcells (Sha.sha ps.flatten)).toArray (0, 0) _ rfl hB9 under_b32 rfl (by rw [size_b32, List.size_toArray, hl32])) rfl ⟨rfl, hM5'.trans hM9 (fun k hk h => absurd hk (by rw [show k = w.heap.size from h]; omega))⟩

theorem ref_of_ht (w0 wa w : World) (vs : List Value) (ps : List (List Int)) (q : List Int) (hq : ps.flatten = q) (T : TypeId) (hl : ps.length = vs.length) (hv : ∀ (i : Nat) v p, vs[i]? = some v → ps[i]? = some p → BytesAt w0 w0.heap.size v p) (hT : RefTabs w0) (cap : Nat) (hn : vs.length ≤ 140737488355328) (hql : q.length ≤ 70368744177664)
    (ha : Mod none_ w0 wa) (hw : Mod none_ (wa.alloc (.cells vs.toArray T)) w) :
    Calls Tryd.prog 38 #[.slice (some ⟨wa.heap.size, 0, none⟩) vs.length cap] w fun e w' => e = .returned (.agg (Sha.bcells (Sha.sha q)).toArray) ∧ Mod none_ w0 w' ∧ Mod none_ w w' := by
  subst hq
  have hp := parts_new wa vs ps T hl (fun i v p h1 h2 => ((hv i v p h1 h2).mod ha (fun _ _ h => h)).mono ha.size)
  have hw0 : Mod none_ w0 w := (ha.alloc _).then hw
  refine (ref_of_any w _ vs.length cap ps ?_ (hT.mod hw0 (fun h => h) (fun h => h)) hn hql).mono ?_
  · refine ⟨hp.1, fun h0 => ?_⟩
    obtain ⟨lb, lo, e1, e2, e3⟩ := hp.2 h0
    refine ⟨lb, lo, e1, Nat.lt_of_lt_of_le e2 hw.size, fun i p hi => ?_⟩
    obtain ⟨v, e4, e5⟩ := e3 i p hi
    exact ⟨v, hw.cellS e4 (fun h => h), (e5.mod hw (fun _ _ h => h)).mono hw.size⟩
  · rintro e w' ⟨rfl, h⟩
    exact ⟨rfl, hw0.then h, h⟩
end Go.Proofs.YtlndgnlkfhlekaaDoor
