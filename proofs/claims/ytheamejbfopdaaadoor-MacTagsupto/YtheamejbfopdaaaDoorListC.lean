/- kept: the walk. -/
import Derived.Test.YtheamejbfopdaaaDoorListB
namespace Go.Proofs.YtheamejbfopdaaaDoor
open Go.RowKit

theorem strOf_behind : strOf (nums [98, 101, 104, 105, 110, 100]) = ⟨#[98, 101, 104, 105, 110, 100]⟩ := by decide +kernel
theorem strOf_it : strOf (nums [105, 116]) = ⟨#[105, 116]⟩ := by decide +kernel

/-- what lend has given, in whatever world it still stands -/
structure LentAll (w : World) (base M n : Nat) (vs : List Value) (ps : List (List Int)) : Prop where
  len : vs.length = n
  row : ∃ b1 b2 rest, Blk w M (vs ++ (b1 :: b2 :: rest)) 28 ∧ BytesAt w w.heap.size b1 (nums [98, 101, 104, 105, 110, 100]) ∧ BytesAt w w.heap.size b2 (nums [105, 116])
  each : ∀ (i : Nat) v p, vs[i]? = some v → ps[i]? = some p → Lent w base v p i
theorem LentAll.none {w w' : World} {base M n : Nat} {vs : List Value} {ps : List (List Int)} (h : LentAll w base M n vs ps) (hM : Mod none_ w w') : LentAll w' base M n vs ps := by
  obtain ⟨b1, b2, rest, h1, h2, h3⟩ := h.row
  exact ⟨h.len, ⟨b1, b2, rest, hM.blk h1 (fun h => h), (h2.mod hM (fun _ _ h => h)).mono hM.size, (h3.mod hM (fun _ _ h => h)).mono hM.size⟩, fun i v p hv hp => (h.each i v p hv hp).mod hM (fun _ _ _ h => h)⟩
/-- a copy reads as its text -/
theorem Lent.bytes {w : World} {base : Nat} {v : Value} {p : List Int} {i : Nat} (h : Lent w base v p i) (hp : Sha.bytes p) (hl : p.length ≤ 140737488355328) : BytesAt w w.heap.size v p := by
  obtain ⟨g, cap, rest, rfl, h2, h3, h4⟩ := h
  refine ⟨hp, hl, _, _, rfl, by omega, (fun h => by cases h), fun _ => ⟨g, 0, rfl, h3.lt, fun j hj => h3.cell ?_⟩⟩
  have hj2 : j < (Sha.bcells (p ++ Sha.marks i)).length := by simp [Sha.bcells]; omega
  rw [Nat.zero_add, List.getElem?_append_left hj2, Sha.bcells, List.getElem?_map, List.getElem?_append_left hj, Sha.g, List.getElem?_eq_getElem hj]; rfl

set_option maxHeartbeats 2000000 in
set_option maxRecDepth 100000 in
theorem kept_any (w : World) (base M n c : Nat) (sa : Option Addr) (cap : Nat) (vs : List Value) (ps : List (List Int)) (hL : LentAll w base M n vs ps) (hc : n + 2 ≤ c) (hp : PartsAt w w.heap.size sa n ps) (hn : n ≤ 40) (hpl : ∀ p ∈ ps, p.length ≤ 70368744177664) :
    Calls Tryd.prog 20 #[.slice (some ⟨M, 0, none⟩) n c, .slice sa n cap] w fun e w' => e = .returned (.bool true) ∧ ∃ q, w' = w.drewN q := by
  obtain ⟨b1, b2, rest, hB, hb1, hb2⟩ := hL.row
  have hlen := hL.len
  obtain ⟨a1, e0, e1, hs1⟩ := slice_to_any (P := Tryd.prog) 30 28 under_l30 size_b28 (some ⟨M, 0, none⟩) n c (n + 1) (by omega)
  obtain rfl : a1 = some ⟨M, 0, none⟩ := e1 M 0 rfl
  obtain ⟨a2, e2, e3, hs2⟩ := slice_to_any (P := Tryd.prog) 30 28 under_l30 size_b28 (some ⟨M, 0, none⟩) n c (n + 2) (by omega)
  obtain rfl : a2 = some ⟨M, 0, none⟩ := e3 M 0 rfl
  have q1 : w.cell? ⟨M, n, none⟩ = some b1 := hB.cell (by rw [List.getElem?_append_right (by omega), hlen, Nat.sub_self]; rfl)
  have q2 : w.cell? ⟨M, n + 1, none⟩ = some b2 := hB.cell (by rw [List.getElem?_append_right (by omega), hlen, Nat.add_sub_cancel_left]; rfl)
  have c1 := str_any w _ b1 _ hb1
  have c2 := str_any w _ b2 _ hb2
  rw [strOf_behind] at c1
  rw [strOf_it] at c2
  have HL := Lib.hid hL; have HP := Lib.hid hp; have HPL := Lib.hid hpl
  clear hL hp hpl e0 e1 e2 e3 hb1 hb2 hB hlen
  go_enter Tryd.func20, Tryd.ntmps20
  go_wp2_with fail
  clear q1 q2 c1 c2 hs1 hs2
  go_loopw [6] (fun i wr => ∃ k : Nat, k ≤ n ∧ i = .int .i64 k ∧ ∃ q, wr = w.drewN q) (fun i _ => n - (intOf i).toNat)
  case atStart => exact ⟨0, by omega, rfl, 0, rfl⟩
  case round =>
    obtain ⟨k, hk, rfl, q, rfl⟩ := hrel
    by_cases hlt : k < n
    · obtain ⟨hpl, hpp⟩ := HP.out
      obtain ⟨lb, lo, rfl, hlb, hcc⟩ := hpp (by omega)
      obtain ⟨p, hpk⟩ : ∃ p, ps[k]? = some p := ⟨_, List.getElem?_eq_getElem (by omega)⟩
      have hpb := HPL.out p (List.mem_of_getElem? hpk)
      obtain ⟨v, hv, hb⟩ := hcc k p hpk
      have hk2 : k < vs.length := by rw [HL.out.len]; exact hlt
      have hx : vs[k]? = some vs[k] := List.getElem?_eq_getElem hk2
      obtain ⟨b1', b2', rest', hB, _, _⟩ := HL.out.row
      have qx : w.cell? ⟨M, k, none⟩ = some vs[k] := hB.cell (by rw [List.getElem?_append_left hk2]; exact hx)
      have hLe := HL.out.each k vs[k] p hx hpk
      have hbx := hLe.bytes hb.1 hb.2.1
      have cx := fun m => str_any (w.drewN m) _ _ _ (hbx.mod ((Mod.refl none_ w).drewN m) (fun _ _ h => h))
      have cv := fun m => str_any (w.drewN m) _ _ _ (hb.mod ((Mod.refl none_ w).drewN m) (fun _ _ h => h))
      obtain ⟨va, vc, rfl⟩ : ∃ va vc, v = .slice va p.length vc := by obtain ⟨_, _, a, c, h, _⟩ := hb; exact ⟨a, c, h⟩
      obtain ⟨g, cp, rst, hxe, hg, hBg, hcp⟩ := hLe
      rw [hxe] at qx cx
      obtain ⟨a1, e0, e1, hs1⟩ := slice_to_any (P := Tryd.prog) 28 5 under_b28 size_u8 (some ⟨g, 0, none⟩) p.length cp (p.length + 150) hcp
      obtain rfl : a1 = some ⟨g, 0, none⟩ := e1 g 0 rfl
      obtain ⟨S, hS⟩ : ∃ S, strOf p = S := ⟨_, rfl⟩
      rw [hS] at cx cv
      have hci : ((p.length + 150 : Nat) : Int) = (p.length : Int) + 150 := by omega
      simp only [hci] at hs1
      have hBG := Lib.hid hBg
      clear hBg hb hbx hB hpp hcc hxe hx e0 e1 hpl hpk hS hci
      generalize hpn : p.length = pn at *
      have HPN := Lib.hid hpn
      clear hpn
      go_wp2_with fail
      go_quiet (fail)
      go_upto_region 11 with fail
      clear cx cv qx hv hs1
      go_wp2_with fail
      go_loopw [9] (fun j wr => ∃ j0 : Nat, j0 ≤ 150 ∧ j = .int .i64 j0 ∧ ∃ q, wr = w.drewN q) (fun j _ => 150 - (intOf j).toNat)
      case atStart => exact ⟨0, by omega, rfl, _, rfl⟩
      case round =>
        obtain ⟨j, hj, rfl, q2, rfl⟩ := hrel
        by_cases hlt2 : j < 150
        · have qm : w.cell? ⟨g, pn + j, none⟩ = some (.int .u8 ((7 * (k : Int) + (j : Int)) % 256)) := hBG.out.cell (by
            have e := HPN.out
            have hl : pn + j < (Sha.bcells (p ++ Sha.marks k)).length := by simp [Sha.bcells, Sha.length_marks]; omega
            rw [List.getElem?_append_left hl, Sha.bcells, List.getElem?_map, List.getElem?_append_right (by omega), e, Nat.add_sub_cancel_left, Sha.get_marks _ _ hlt2]; rfl)
          go_wp2
          go_roundw
          case rel => exact ⟨j + 1, by omega, by go_num, _, rfl⟩
          case measure => simp [intOf]; omega
        · go_wp2
          go_roundw
          case rel => exact ⟨k + 1, by omega, by go_num, _, rfl⟩
          case measure => simp [intOf]; omega
    · go_wp2
      go_ret
      exact ⟨rfl, _, rfl⟩
end Go.Proofs.YtheamejbfopdaaaDoor
