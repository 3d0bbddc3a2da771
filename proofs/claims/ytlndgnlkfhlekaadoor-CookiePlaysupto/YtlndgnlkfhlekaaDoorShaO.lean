/- SHA walks: Of. -/
import Derived.Test.YtlndgnlkfhlekaaDoorShaS
namespace Go.Proofs.YtlndgnlkfhlekaaDoor
open Go.RowKit

/-- v is a slice that reads as the bytes p, in memory below block B -/
def BytesAt (w : World) (B : Nat) (v : Value) (p : List Int) : Prop :=
  Sha.bytes p ∧ p.length ≤ 140737488355328 ∧ ∃ a c, v = .slice a p.length c ∧ p.length ≤ c ∧ (a = none → c = 0) ∧
    (0 < p.length → ∃ pb po, a = some ⟨pb, po, none⟩ ∧ pb < B ∧ ∀ j, j < p.length → w.cell? ⟨pb, po + j, none⟩ = some (.int .u8 (Sha.g p j)))
theorem BytesAt.mod {S : Nat → Prop} {w w' : World} {B : Nat} {v : Value} {p : List Int} (h : BytesAt w B v p) (hM : Mod S w w') (hS : ∀ k, k < B → ¬ S k) : BytesAt w' B v p := by
  obtain ⟨h1, h2, a, c, h3, h4, h0, h5⟩ := h
  refine ⟨h1, h2, a, c, h3, h4, h0, fun hp => ?_⟩
  obtain ⟨pb, po, h6, h7, h8⟩ := h5 hp
  exact ⟨pb, po, h6, h7, fun j hj => hM.cellS (h8 j hj) (hS pb h7)⟩
theorem BytesAt.mono {w : World} {B B' : Nat} {v : Value} {p : List Int} (h : BytesAt w B v p) (hB : B ≤ B') : BytesAt w B' v p := by
  obtain ⟨h1, h2, a, c, h3, h4, h0, h5⟩ := h
  refine ⟨h1, h2, a, c, h3, h4, h0, fun hp => ?_⟩
  obtain ⟨pb, po, h6, h7, h8⟩ := h5 hp
  exact ⟨pb, po, h6, by omega, h8⟩

theorem write_b (w : World) (b : Nat) (t p : List Int) (T : TypeId) (v : Value) (hv : BytesAt w b v p) (hH : HashAt w b t ((t.length : Int) % 18446744073709551616) T) (hK : Rounds w) (hbK : b ≠ 0) :
    Calls Tryd.prog 36 #[.pointer (some ⟨b, 0, none⟩), v] w fun e w' => e = .returned (.tuple #[]) ∧ Mod (only b) w w' ∧ HashAt w' b (t ++ p) (((t ++ p).length : Int) % 18446744073709551616) T := by
  obtain ⟨h1, h2, a, c, rfl, h4, _, h5⟩ := hv
  have hN : ((t.length : Int) % 18446744073709551616 + p.length) % 18446744073709551616 = (((t ++ p).length : Nat) : Int) % 18446744073709551616 := by rw [List.length_append]; omega
  rw [← hN]
  by_cases hp : 0 < p.length
  · obtain ⟨pb, po, h6, h7, h8⟩ := h5 hp
    exact write_any w b t p _ T hH hK hbK a pb po c (fun _ => h6) (by omega) h4 h8 h1 h2
  · exact write_any w b t p _ T hH hK hbK a (b + 1) 0 c (fun h => absurd h hp) (by omega) h4 (fun j hj => absurd hj (by omega)) h1 h2

theorem sum_b (w : World) (b : Nat) (t : List Int) (T : TypeId) (hH : HashAt w b t ((t.length : Int) % 18446744073709551616) T) (hK : Rounds w) (hbK : b ≠ 0) :
    Calls Tryd.prog 37 #[.pointer (some ⟨b, 0, none⟩)] w fun e w' => e = .returned (.agg (Sha.bcells (Sha.sha t)).toArray) ∧ Mod none_ w w' := sum_any w b t T hH hK hbK

theorem HashAt.mod {S : Nat → Prop} {w w' : World} {b : Nat} {t : List Int} {N : Int} {T : TypeId} (h : HashAt w b t N T) (hM : Mod S w w') (hS : ¬ S b) : HashAt w' b t N T := by
  obtain ⟨v, blk, a, h1, h2⟩ := h
  exact ⟨v, blk, a, h1, hM.blk h2 hS⟩

/-- a list of slices that read as these bytes -/
def PartsAt (w : World) (B : Nat) (sa : Option Addr) (n : Nat) (ps : List (List Int)) : Prop :=
  ps.length = n ∧ (0 < n → ∃ lb lo, sa = some ⟨lb, lo, none⟩ ∧ lb < B ∧ ∀ i p, ps[i]? = some p → ∃ v, w.cell? ⟨lb, lo + i, none⟩ = some v ∧ BytesAt w B v p)

set_option maxHeartbeats 1000000 in
set_option maxRecDepth 100000 in
theorem of_any (w : World) (sa : Option Addr) (n cap : Nat) (ps : List (List Int)) (hp : PartsAt w w.heap.size sa n ps) (hK : Rounds w) (hn48 : n ≤ 140737488355328) :
    Calls Tryd.prog 32 #[.slice sa n cap] w fun e w' => e = .returned (.agg (Sha.bcells (Sha.sha ps.flatten)).toArray) ∧ Mod none_ w w' := by
  have hGl : 0 < w.heap.size := World.block_lt_of_cell? _ _ (hK 0 (by omega))
  go_enter Tryd.func32, Tryd.ntmps32
  go_upto_region 1 with fail
  obtain ⟨w1, hw1, hR1, hM1, hs1⟩ : ∃ w1, w.alloc (.cells (Sha.bcells (Sha.zeros 32)).toArray 36) = w1 ∧ Blk w1 w.heap.size (Sha.bcells (Sha.zeros 32)) 36 ∧ Mod none_ w w1 ∧ w.heap.size < w1.heap.size := ⟨_, rfl, Blk.new _ _ _, (Mod.refl _ _).alloc _, by simp⟩
  change Code.wp _ _ _ _ (w.alloc (.cells (Sha.bcells (Sha.zeros 32)).toArray 36))
  rw [hw1]
  clear hw1
  go_wp2_with fail
  refine (new_any w1).mono ?_
  rintro e w2 ⟨rfl, hM2, hH2, hs2⟩
  have hR2 := hM2.blk hR1 (fun h => h)
  have hM2' : Mod none_ w w2 := hM1.trans hM2 (fun _ _ h => h)
  have hG2 : w1.heap.size < w2.heap.size := by rw [hs2]; omega
  clear hM1 hM2 hR1 hs2
  generalize w1.heap.size = G at *
  have HP := Lib.hid hp
  clear hp
  go_wp2_with fail
  go_loopw [9] (fun i wr => ∃ k : Nat, k ≤ n ∧ i = .int .i64 k ∧ HashAt wr G (ps.take k).flatten (((ps.take k).flatten.length : Int) % 18446744073709551616) 79 ∧ Blk wr w.heap.size (Sha.bcells (Sha.zeros 32)) 36 ∧ Mod none_ w wr) (fun i _ => n - (intOf i).toNat)
  case atStart => exact ⟨0, by omega, rfl, hH2, hR2, hM2'⟩
  case round =>
    clear hH2 hR2 hM2'
    obtain ⟨k, hk, rfl, hH, hR, hM⟩ := hrel
    by_cases hlt : k < n
    · obtain ⟨hpl, hpp⟩ := HP.out
      obtain ⟨lb, lo, rfl, hlb, hc⟩ := hpp (by omega)
      obtain ⟨p, hpk⟩ : ∃ p, ps[k]? = some p := ⟨_, List.getElem?_eq_getElem (by omega)⟩
      obtain ⟨v, hv, hb⟩ := hc k p hpk
      have qv : wr.cell? ⟨lb, lo + k, none⟩ = some v := hM.cellS hv (fun h => h)
      have hb' : BytesAt wr G v p := (hb.mod hM (fun _ _ h => h)).mono (by omega)
      have hG' : G ≠ 0 := by omega
      have hGw := hK.mod hM (fun h => h)
      have HB := Lib.hid hb'; have HH := Lib.hid hH; have HPL := Lib.hid hpl; have HPK := Lib.hid hpk
      clear hb hb' hH hv hc hpp hpl hpk
      go_wp2_with fail
      refine (write_b wr G _ p _ v HB.out HH.out hGw hG').mono ?_
      rintro e w3 ⟨rfl, hM3, hH3⟩
      have hR3 := hM3.blk hR (not_only (by omega))
      have hM3' : Mod none_ w w3 := hM.trans hM3 (fun j hj h => absurd hj (by rw [show j = G from h]; omega))
      go_wp2
      go_roundw
      case rel =>
        refine ⟨k + 1, by omega, by go_num, ?_, hR3, hM3'⟩
        rw [List.take_add_one, HPK.out, List.flatten_append]
        simpa using hH3
      case measure => simp [intOf]; omega
    · have hall : (ps.take k).flatten = ps.flatten := by
        rw [List.take_of_length_le]; rw [HP.out.1]; omega
      rw [hall] at hH
      have hG' : G ≠ 0 := by omega
      have hGw := hK.mod hM (fun h => h)
      clear hall
      go_wp2_with fail
      refine (sum_b wr G ps.flatten _ hH hGw hG').mono ?_
      rintro e w3 ⟨rfl, hM3⟩
      have hR3 := hM3.blk hR (fun h => h)
      have hM3' := hM.trans hM3 (fun _ _ h => h)
      go_wp2_with (refine wpList_store_blk rfl 36 (.tmp 2) (.tmp 18) rfl w.heap.size (Sha.bcells (Sha.sha ps.flatten)) rfl rfl 36 _ hR3 (by rw [size_b32, Sha.bcells, List.length_map, Sha.length_sha]) (by rw [Sha.bcells, Sha.bcells, List.length_map, List.length_map, Sha.length_sha]; rfl) (Sha.one_b _) ?_; intro w9 hB9 hM9 hs9)
      refine bodyPost_ret (results_cell_row rfl _ w9 w.heap.size 36 (Sha.bcells (Sha.sha ps.flatten)).toArray (0, 0) _ rfl hB9 under_b32 rfl (by rw [size_b32, List.size_toArray, Sha.bcells, List.length_map, Sha.length_sha])) rfl ⟨rfl, hM3'.trans hM9 (fun k hk h => absurd hk (by rw [show k = w.heap.size from h]; omega))⟩
end Go.Proofs.YtlndgnlkfhlekaaDoor
