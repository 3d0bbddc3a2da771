/- ShaSums: the walk. -/
import Derived.Test.YtheamejbfopdaaaDoorRefE
namespace Go.Proofs.YtheamejbfopdaaaDoor
open Go.RowKit

theorem PartsAt.mod {S : Nat → Prop} {w w' : World} {B : Nat} {sa : Option Addr} {n : Nat} {ps : List (List Int)} (h : PartsAt w B sa n ps) (hM : Mod S w w') (hS : ∀ k, k < B → ¬ S k) : PartsAt w' B sa n ps := by
  refine ⟨h.1, fun h0 => ?_⟩
  obtain ⟨lb, lo, e1, e2, e3⟩ := h.2 h0
  refine ⟨lb, lo, e1, e2, fun i p hi => ?_⟩
  obtain ⟨v, e4, e5⟩ := e3 i p hi
  exact ⟨v, hM.cellS e4 (hS lb e2), e5.mod hM hS⟩
theorem PartsAt.mono {w : World} {B B' : Nat} {sa : Option Addr} {n : Nat} {ps : List (List Int)} (h : PartsAt w B sa n ps) (hB : B ≤ B') : PartsAt w B' sa n ps := by
  refine ⟨h.1, fun h0 => ?_⟩
  obtain ⟨lb, lo, e1, e2, e3⟩ := h.2 h0
  refine ⟨lb, lo, e1, Nat.lt_of_lt_of_le e2 hB, fun i p hi => ?_⟩
  obtain ⟨v, e4, e5⟩ := e3 i p hi
  exact ⟨v, e4, e5.mono hB⟩
theorem PartsAt.take {w : World} {B : Nat} {sa sb : Option Addr} {n m : Nat} {ps : List (List Int)} (h : PartsAt w B sa n ps) (hm : m ≤ n) (hs : ∀ b o, sa = some ⟨b, o, none⟩ → sb = some ⟨b, o, none⟩) : PartsAt w B sb m (ps.take m) := by
  refine ⟨by rw [List.length_take, h.1]; omega, fun h0 => ?_⟩
  obtain ⟨lb, lo, e1, e2, e3⟩ := h.2 (by omega)
  refine ⟨lb, lo, hs _ _ e1, e2, fun i p hi => ?_⟩
  rw [List.getElem?_take] at hi
  split at hi
  · exact e3 i p hi
  · cases hi
theorem LentAll.modW {S : Nat → Prop} {w w' : World} {base M n : Nat} {vs : List Value} {ps : List (List Int)} (h : LentAll w base M n vs ps) (hM : Mod S w w') (hS : ∀ k, k < w.heap.size → ¬ S k) : LentAll w' base M n vs ps := by
  obtain ⟨b1, b2, rest, h1, h2, h3⟩ := h.row
  exact ⟨h.len, ⟨b1, b2, rest, hM.blk h1 (hS _ h1.lt), (h2.mod hM hS).mono hM.size, (h3.mod hM hS).mono hM.size⟩, fun i v p hv hp => (h.each i v p hv hp).mod hM (fun g _ hg => hS g hg.lt)⟩
theorem LentAll.parts {w : World} {base M n : Nat} {vs : List Value} {ps : List (List Int)} (h : LentAll w base M n vs ps) (hl : ps.length = n) (hb : ∀ p ∈ ps, Sha.bytes p ∧ p.length ≤ 140737488355328) : PartsAt w w.heap.size (some ⟨M, 0, Option.none⟩) n ps := by
  obtain ⟨b1, b2, rest, h1, h2, h3⟩ := h.row
  refine ⟨hl, fun _ => ⟨M, 0, rfl, h1.lt, fun i p hi => ?_⟩⟩
  have hil : i < ps.length := (List.getElem?_eq_some_iff.1 hi).1
  have hiv : i < vs.length := by rw [h.len]; omega
  have hp := hb p (List.mem_of_getElem? hi)
  refine ⟨vs[i], h1.cell (by rw [Nat.zero_add, List.getElem?_append_left hiv, List.getElem?_eq_getElem hiv]), (h.each i vs[i] p (List.getElem?_eq_getElem hiv) hi).bytes hp.1 hp.2⟩
theorem flatten_take_succ {α : Type} (ps : List (List α)) (k : Nat) (p : List α) (h : ps[k]? = some p) : (ps.take (k + 1)).flatten = (ps.take k).flatten ++ p := by
  rw [List.take_add_one, h, List.flatten_append]; simp
theorem flatten_take_le {α : Type} (ps : List (List α)) (k : Nat) : (ps.take k).flatten.length ≤ ps.flatten.length := by
  have := congrArg (fun l => l.flatten.length) (List.take_append_drop k ps)
  simp only [List.flatten_append, List.length_append] at this
  omega
theorem flatten_mem_le {α : Type} {ps : List (List α)} {p : List α} (h : p ∈ ps) : p.length ≤ ps.flatten.length := by
  obtain ⟨a, b, rfl⟩ := List.append_of_mem h
  simp
  omega
theorem sha_same2 (p q : List Int) (h : p = q) (w : World) : (Op.equalIn 10000 25 (.agg (Sha.bcells (Sha.sha p)).toArray) (.agg (Sha.bcells (Sha.sha q)).toArray)).run Tryd.prog w = .ok true w := by
  subst h; exact sha_same p w

set_option maxHeartbeats 2000000 in
set_option maxRecDepth 100000 in
theorem shaSums_any (w : World) (hK : Rounds w) (hT : RefTabs w) (sa : Option Addr) (n cap : Nat) (ps : List (List Int)) (hp : PartsAt w w.heap.size sa n ps) (hc : n ≤ cap) (hpl : ∀ m, m ≤ 40 → (ps.take m).flatten.length ≤ 70368744177664) :
    Calls Tryd.prog 4 #[.slice sa n cap] w fun e w' => e = .returned (.bool true) ∧ Mod none_ w w' := by
  have hGl : 2 < w.heap.size := World.block_lt_of_cell? _ _ (hK 0 (by omega))
  go_enter Tryd.func4, Tryd.ntmps4
  have HP := Lib.hid hp
  have HPL := Lib.hid hpl
  clear hp hpl
  go_wp2_with fail
  refine (alive_any w hK).mono ?_
  rintro e w1 ⟨rfl, hM1⟩
  obtain ⟨sb, m, d, hm, hsb, hfew⟩ := few_any w1 sa n cap hc
  have hP1 : PartsAt w1 w1.heap.size sb m (ps.take m) := ((HP.out.mod hM1 (fun _ _ h => h)).mono hM1.size).take (by omega) hsb
  have hpl1 := HPL.out m (by omega)
  have hm40 : m ≤ 40 := by omega
  clear HP HPL hsb hm
  generalize ps.take m = qs at *
  have hbl : ∀ p ∈ qs, p.length ≤ 70368744177664 := fun p hp => Nat.le_trans (flatten_mem_le hp) hpl1
  have hby : ∀ p ∈ qs, Sha.bytes p := by
    intro p hp
    obtain ⟨i, hi⟩ := List.getElem?_of_mem hp
    have hil : i < qs.length := (List.getElem?_eq_some_iff.1 hi).1
    obtain ⟨lb, lo, _, _, e3⟩ := hP1.2 (by rw [← hP1.1]; omega)
    obtain ⟨v, _, e5⟩ := e3 i p hi
    exact e5.1
  have HP := Lib.hid hP1; have HPL := Lib.hid hpl1; have HBL := Lib.hid hbl; have HBY := Lib.hid hby
  clear hP1 hpl1 hbl hby
  go_wp2_with fail
  refine hfew.mono ?_
  rintro e wx ⟨rfl, rfl⟩
  clear hfew
  go_wp2_with fail
  refine (lend_any wx sb m d qs HP.out hm40 HBL.out).mono ?_
  rintro e w2 ⟨M, c, vs, b1, b2, rest, rfl, hc2, hM, hlv, hB, hE, hb1, hb2, hM2⟩
  have hL : LentAll w2 wx.heap.size M m vs qs := ⟨hlv, ⟨b1, b2, rest, hB, hb1, hb2⟩, hE⟩
  have hP2 := (HP.out.mod hM2 (fun _ _ h => h)).mono hM2.size
  have hM2' := hM1.then hM2
  have hQ2 := hL.parts hP2.1 (fun p hp => ⟨HBY.out p hp, by have := HBL.out p hp; omega⟩)
  have hK2 := hK.mod hM2' (fun h => h)
  have hT2 := hT.mod hM2' (fun h => h) (fun h => h)
  have hs2 := hM2'.size
  generalize wx.heap.size = base at *
  have hm48 : m ≤ 140737488355328 := by omega
  clear hE hb1 hb2 hB hlv hM1 hM2 hK hT HP
  have hsame := fun (wx : World) => sha_same qs.flatten wx
  go_wp2_with fail
  refine (of_any w2 _ m c qs hQ2 hK2 hm48).mono ?_
  rintro e w3 ⟨rfl, hM3⟩
  have hP3 := (hP2.mod hM3 (fun _ _ h => h)).mono hM3.size
  have hL3 := hL.none hM3
  have hK3 := hK2.mod hM3 (fun h => h)
  have hT3 := hT2.mod hM3 (fun h => h) (fun h => h)
  have hM3' := hM2'.then hM3
  clear hP2 hL hK2 hT2 hM2' hM3 hQ2
  go_wp2_with fail
  refine (ref_of_any w3 _ m d qs hP3 hT3 hm48 HPL.out).mono ?_
  rintro e w4 ⟨rfl, hM4⟩
  have hP4 := (hP3.mod hM4 (fun _ _ h => h)).mono hM4.size
  have hL4 := hL3.none hM4
  have hK4 := hK3.mod hM4 (fun h => h)
  have hT4 := hT3.mod hM4 (fun h => h) (fun h => h)
  have hM4' := hM3'.then hM4
  clear hP3 hL3 hK3 hT3 hM3' hM4
  go_wp2_with fail
  refine (kept_any w4 _ M m c sb d vs qs hL4 hc2 hP4 hm40 HBL.out).mono ?_
  rintro e w5 ⟨rfl, q, hq⟩
  have hM5 : Mod none_ w4 w5 := hq ▸ (Mod.refl none_ w4).drewN q
  clear hq
  have hP5 := (hP4.mod hM5 (fun _ _ h => h)).mono hM5.size
  have hL5 := hL4.none hM5
  have hK5 := hK4.mod hM5 (fun h => h)
  have hT5 := hT4.mod hM5 (fun h => h) (fun h => h)
  have hM5' := hM4'.then hM5
  have hs5 := hM5'.size
  clear hP4 hL4 hK4 hT4 hM4' hM5
  go_wp2_with fail
  refine (new_any w5).mono ?_
  rintro e w6 ⟨rfl, hM6, hH6, hs6⟩
  go_wp2_with fail
  refine (ref_new w6 (w6.heap.size + 1)).mono ?_
  rintro e w7 ⟨rfl, hM7, hR7, hs7⟩
  have hH7 := hH6.mod hM7 (fun h => h)
  have hM7 := hM6.then hM7
  rw [hs6] at hR7 hs7 ⊢
  obtain ⟨G, hG⟩ : ∃ G, w5.heap.size = G := ⟨_, rfl⟩
  rw [hG] at hH7 hR7 hs7 ⊢
  have hGs : w.heap.size ≤ G := by omega
  clear hH6 hM6 hs6
  go_wp2_with fail
  go_loopw [6] (fun i wr => ∃ k : Nat, k ≤ m ∧ i = .int .i64 k ∧ HashAt wr G (qs.take k).flatten (((qs.take k).flatten.length : Int) % 18446744073709551616) 55 ∧ HashR wr (G + 1 + 1) (G + 1) (qs.take k).flatten ∧ G + 1 + 1 ≤ wr.heap.size ∧ Mod (fun b => G ≤ b) w5 wr) (fun i _ => m - (intOf i).toNat)
  case atStart => exact ⟨0, by omega, rfl, hH7, hR7, by omega, hM7.mono (fun _ _ h => h.elim)⟩
  case round =>
    clear hH7 hR7 hs7 hM7
    obtain ⟨k, hk, rfl, hH, hR, hsr, hMr⟩ := hrel
    have hPr : PartsAt wr G sb m qs := by rw [← hG]; exact hP5.mod hMr (fun b hb h => by omega)
    have hMwr : Mod none_ w wr := hM5'.trans hMr (fun b hb h => by omega)
    have hgK : G ≠ 2 := by omega
    by_cases hlt : k < m
    · obtain ⟨p, hpk⟩ : ∃ p, qs[k]? = some p := ⟨_, List.getElem?_eq_getElem (by rw [hPr.1]; exact hlt)⟩
      have hpm := List.mem_of_getElem? hpk
      have hpb := HBL.out p hpm
      have hpy := HBY.out p hpm
      obtain ⟨lb, lo, rfl, hlb, hcc⟩ := hPr.2 (by omega)
      obtain ⟨v, hv, hb⟩ := hcc k p hpk
      obtain ⟨x, hx⟩ : ∃ x, vs[k]? = some x := ⟨_, List.getElem?_eq_getElem (by rw [hL5.len]; exact hlt)⟩
      have hbx : BytesAt wr G x p := by
        have := (hL5.each k x p hx hpk).bytes hpy (by omega)
        rw [hG] at this
        exact this.mod hMr (fun b hb h => by omega)
      obtain ⟨b1, b2, rest, hB, _, _⟩ := hL5.row
      have hMl := hB.lt
      have qx : wr.cell? ⟨M, k, none⟩ = some x := hMr.cellS (hB.cell (by rw [List.getElem?_append_left (by rw [hL5.len]; exact hlt)]; exact hx)) (by show ¬ (G ≤ M); omega)
      obtain ⟨a1, e0, e1, hs1⟩ := slice_to_any (P := Tryd.prog) 30 28 under_l30 size_b28 (some ⟨M, 0, none⟩) m c m (by omega)
      obtain rfl : a1 = some ⟨M, 0, none⟩ := e1 M 0 rfl
      have hft := flatten_take_succ qs k p hpk
      have hfl : (qs.take (k + 1)).flatten.length ≤ 70368744177664 := Nat.le_trans (flatten_take_le qs (k + 1)) HPL.out
      have hfy : Sha.bytes (qs.take (k + 1)).flatten := by
        intro y hy
        obtain ⟨l, hl, hyl⟩ := List.mem_flatten.1 hy
        exact HBY.out l (List.mem_of_mem_take hl) y hyl
      rw [hft] at hfl hfy
      have hfl2 := hfl
      rw [List.length_append] at hfl2
      have hKr := hK5.mod hMr (by show ¬ (G ≤ _); omega)
      have hTr := hT5.mod hMr (by have := World.block_lt_of_cell? _ _ (hT5.1 0 (by omega)); show ¬ (G ≤ _); rw [← hG]; exact Nat.not_le.2 this) (by have := World.block_lt_of_cell? _ _ (hT5.2 0 (by omega)); show ¬ (G ≤ _); rw [← hG]; exact Nat.not_le.2 this)
      generalize (qs.take k).flatten = t at *
      have hsame := fun (wx : World) => sha_same (t ++ p) wx
      have HFT := Lib.hid hft; have HFL := Lib.hid hfl; have HFY := Lib.hid hfy; have HBX := Lib.hid hbx; have HVB := Lib.hid hb; have HP := Lib.hid hPr; have HP5 := Lib.hid hP5; have HL5 := Lib.hid hL5
      clear hft hfl hfy hbx hb hPr e0 e1 hcc hx hB hpk hP5 hL5
      go_wp2_with fail
      refine (write_b wr G t p 55 x HBX.out hH hKr hgK).mono ?_
      rintro e wa ⟨rfl, hMa, hHa⟩
      have hM5a : Mod (fun b => G ≤ b) w5 wa := hMr.trans hMa (fun b _ e => by rw [show b = G from e]; exact Nat.le_refl _)
      have hRa := hR.mod hMa (fun e => by have : G + 1 = G := e; omega) (fun b hb e => by have : b = G := e; omega)
      have qva : wa.cell? ⟨lb, lo + k, none⟩ = some v := hMa.cellS hv (fun e => by have : lb = G := e; omega)
      have hVa := HVB.out.mod hMa (fun b hb e => by have : b = G := e; omega)
      have hKa := hKr.mod hMa (fun e => by have : _ = G := e; omega)
      have hTa := hTr.mod hMa (fun e => by have : _ = G := e; have := World.block_lt_of_cell? _ _ (hT5.1 0 (by omega)); simp at this; omega) (fun e => by have : _ = G := e; have := World.block_lt_of_cell? _ _ (hT5.2 0 (by omega)); simp at this; omega)
      have hLa := HL5.out.modW hM5a (fun b hb h => by omega)
      have hPa : PartsAt wa wa.heap.size (some ⟨lb, lo, none⟩) m qs := (HP5.out.mod hM5a (fun b hb h => by omega)).mono hM5a.size
      have hsa := hM5a.size
      clear hH hR hv HVB HBX qx hKr hTr
      go_wp2_with fail
      refine (kept_any wa _ M m c _ d vs qs hLa hc2 hPa hm40 HBL.out).mono ?_
      rintro e wb ⟨rfl, q, hq⟩
      have hMb : Mod none_ wa wb := hq ▸ (Mod.refl none_ wa).drewN q
      clear hq hs1
      have hM5b := hM5a.trans hMb (fun _ _ h => h.elim)
      have hRb := hRa.mod hMb (fun h => h) (fun _ _ h => h)
      have hHb := hHa.mod hMb (fun h => h)
      have qvb : wb.cell? ⟨lb, lo + k, none⟩ = some v := hMb.cellS qva (fun h => h)
      have hVb := hVa.mod hMb (fun _ _ h => h)
      have hKb := hKa.mod hMb (fun h => h)
      have hTb := hTa.mod hMb (fun h => h) (fun h => h)
      have hsb := hMb.size
      have hMra := hMa.size
      clear hRa hHa qva hVa hKa hTa hLa hPa hM5a hMb hMa
      go_wp2_with fail
      refine (ref_write wb (G + 1 + 1) (G + 1) G t p v hRb (by omega) hVb (by omega) (by omega)).mono ?_
      rintro e wc ⟨rfl, hMc, hRc⟩
      have hM5c : Mod (fun b => G ≤ b) w5 wc := hM5b.trans hMc (fun b _ e => by omega)
      have hHc := hHb.mod hMc (fun e => by omega)
      have hrl : 0 < G ∧ 1 < G := by
        rw [← hG]; exact ⟨World.block_lt_of_cell? _ _ (hT5.1 0 (by omega)), World.block_lt_of_cell? _ _ (hT5.2 0 (by omega))⟩
      have hTc := hTb.mod hMc (fun e => by omega) (fun e => by omega)
      have hKc := hKb.mod hMc (fun e => by omega)
      have hsc := hMc.size
      clear hRb hVb hHb hKb hTb hM5b hMc qvb
      go_wp2_with fail
      refine (sum_b wc G (t ++ p) 55 hHc hKc hgK).mono ?_
      rintro e wd ⟨rfl, hMd⟩
      have hHd := hHc.mod hMd (fun h => h)
      have hRd := hRc.mod hMd (fun h => h) (fun _ _ h => h)
      have hTd := hTc.mod hMd (fun h => h) (fun h => h)
      have hM5d := hM5c.trans hMd (fun _ _ h => h.elim)
      have hsd := hMd.size
      clear hHc hRc hTc hKc hM5c hMd
      go_wp2_with fail
      refine (ref_hsum wd (G + 1 + 1) (G + 1) (t ++ p) hRd hTd HFY.out HFL.out).mono ?_
      rintro e we ⟨rfl, hMe⟩
      have hHe := hHd.mod hMe (fun h => h)
      have hRe := hRd.mod hMe (fun h => h) (fun _ _ h => h)
      have hM5e := hM5d.trans hMe (fun _ _ h => h.elim)
      have hse := hMe.size
      clear hHd hRd hTd hM5d hMe
      go_wp2
      go_roundw
      case rel => exact ⟨k + 1, by omega, by go_num, by rw [HFT.out]; exact hHe, by rw [HFT.out]; exact hRe, by omega, hM5e⟩
      case measure => simp [intOf]; omega
    · have hkm : qs.take k = qs := by rw [List.take_of_length_le]; rw [hPr.1]; omega
      rw [hkm] at hH
      have hKr := hK5.mod hMr (by show ¬ (G ≤ _); omega)
      have hTr := hT5.mod hMr (by have := World.block_lt_of_cell? _ _ (hT5.1 0 (by omega)); show ¬ (G ≤ _); rw [← hG]; exact Nat.not_le.2 this) (by have := World.block_lt_of_cell? _ _ (hT5.2 0 (by omega)); show ¬ (G ≤ _); rw [← hG]; exact Nat.not_le.2 this)
      have hPr' := hPr.mono (show G ≤ wr.heap.size by omega)
      clear hP5 hL5 hPr hR hkm
      go_wp2_with fail
      refine (sum_b wr G qs.flatten 55 hH hKr hgK).mono ?_
      rintro e wd ⟨rfl, hMd⟩
      have hPd := (hPr'.mod hMd (fun _ _ h => h)).mono hMd.size
      have hTd := hTr.mod hMd (fun h => h) (fun h => h)
      have hMwd := hMwr.then hMd
      clear hPr' hTr hMwr hMd
      go_wp2_with fail
      refine (ref_of_any wd _ m d qs hPd hTd hm48 HPL.out).mono ?_
      rintro e we ⟨rfl, hMe⟩
      have hMwe := hMwd.then hMe
      clear hPd hTd hMwd hMe
      go_wp2
      go_ret
      exact ⟨rfl, hMwe⟩
end Go.Proofs.YtheamejbfopdaaaDoor
