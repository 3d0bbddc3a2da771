/- lend: the walk. -/
import Derived.Test.YtheamejbfopdaaaDoorListA
import Derived.Test.YtheamejbfopdaaaDoorShaE
namespace Go.Proofs.YtheamejbfopdaaaDoor
open Go.RowKit

set_option maxHeartbeats 2000000 in
set_option maxRecDepth 100000 in
theorem lend_any (w : World) (sa : Option Addr) (n cap : Nat) (ps : List (List Int)) (hp : PartsAt w w.heap.size sa n ps) (hn : n ≤ 40) (hpl : ∀ p ∈ ps, p.length ≤ 70368744177664) :
    Calls Tryd.prog 18 #[.slice sa n cap] w fun e w' => ∃ M c vs b1 b2 rest, e = .returned (.slice (some ⟨M, 0, none⟩) n c) ∧ n + 2 ≤ c ∧ w.heap.size ≤ M ∧ vs.length = n ∧ Blk w' M (vs ++ (b1 :: b2 :: rest)) 28 ∧
      (∀ (i : Nat) v p, vs[i]? = some v → ps[i]? = some p → Lent w' w.heap.size v p i) ∧ BytesAt w' w'.heap.size b1 (nums [98, 101, 104, 105, 110, 100]) ∧ BytesAt w' w'.heap.size b2 (nums [105, 116]) ∧ Mod none_ w w' := by
  go_enter Tryd.func18, Tryd.ntmps18
  have HP := Lib.hid hp
  have HPL := Lib.hid hpl
  clear hp hpl
  go_wp2_with fail
  go_loopw [3, 4] (fun m i wr => ∃ k : Nat, k ≤ n ∧ i = .int .i64 k ∧ (∃ vs, vs.length = k ∧ OwnL wr w.heap.size m vs ∧ (∀ (i : Nat) v p, vs[i]? = some v → ps[i]? = some p → Lent wr w.heap.size v p i) ∧ (∀ v ∈ vs, v.oneCell' = true)) ∧ Mod none_ w wr) (fun _ i _ => n - (intOf i).toNat)
  case atStart => exact ⟨0, by omega, rfl, ⟨[], rfl, ownL_nil _ _, fun i v p h => by simp at h, fun v h => by simp at h⟩, Mod.refl _ _⟩
  case round =>
    obtain ⟨k, hk, rfl, ⟨vs, hvl, hA, hE, h1⟩, hM⟩ := hrel
    by_cases hlt : k < n
    · obtain ⟨hpl, hpp⟩ := HP.out
      obtain ⟨lb, lo, rfl, hlb, hc⟩ := hpp (by omega)
      obtain ⟨p, hpk⟩ : ∃ p, ps[k]? = some p := ⟨_, List.getElem?_eq_getElem (by omega)⟩
      have hpb := HPL.out p (List.mem_of_getElem? hpk)
      obtain ⟨v, hv, hb⟩ := hc k p hpk
      have qv : wr.cell? ⟨lb, lo + k, none⟩ = some v := hM.cellS hv (fun h => h)
      have hb' : BytesAt wr w.heap.size v p := hb.mod hM (fun _ _ h => h)
      obtain ⟨va, vc, rfl⟩ : ∃ va vc, v = .slice va p.length vc := by obtain ⟨_, _, a, c, h, _⟩ := hb; exact ⟨a, c, h⟩
      have hws := hM.size
      have HB := Lib.hid hb'; have HA := Lib.hid hA; have HPLn := Lib.hid hpl; have HPK := Lib.hid hpk; have HE := Lib.hid hE; have H1 := Lib.hid h1; have HVL := Lib.hid hvl
      clear hb hb' hA hv hc hpp hpl hpk hE h1 hvl
      obtain ⟨wo, rfl⟩ : ∃ wo : World, wo = wr := ⟨_, rfl⟩
      go_upto_region 6 with (refine wpList_append_bytes rfl _ (.tmp 16) rfl wo.heap.size (.slice none 0 0) [] rfl (ownB_nil _ _) (.slice va p.length vc) p rfl w.heap.size HB.out (by simp; omega) (by omega) ?_; intro x w8 hx8 hg8)
      have hM8 : Mod (fun b => wo.heap.size ≤ b) wo w8 := Mod.grownBy hg8 (fun j _ e => by cases e)
      rw [List.nil_append] at hx8
      have hs8 := hM8.size
      obtain ⟨B1, hB1⟩ : ∃ B1, wo.heap.size = B1 := ⟨_, rfl⟩
      rw [hB1] at hx8 hM8 hws hs8
      have HB1 := Lib.hid hB1
      clear hg8 hB1 HB
      go_wp2_with fail
      go_loopw [5, 6] (fun pv j wq => ∃ j0 : Nat, j0 ≤ 150 ∧ j = .int .i64 j0 ∧ OwnB wq B1 pv (p ++ (Sha.marks k).take j0) ∧ Mod (fun b => B1 ≤ b) wo wq) (fun _ j _ => 150 - (intOf j).toNat)
      case atStart => exact ⟨0, by omega, rfl, by simpa using hx8, hM8⟩
      case round =>
        clear hx8 hM8 hs8
        obtain ⟨j, hj, rfl, hx, hMx⟩ := hrel
        have hsx := hMx.size
        by_cases hlt2 : j < 150
        · have hy : 0 ≤ (7 * (k : Int) + (j : Int)) % 256 ∧ (7 * (k : Int) + (j : Int)) % 256 ≤ 255 := by omega
          have htl : ((Sha.marks k).take j).length ≤ 150 := by rw [List.length_take]; omega
          have HX := Lib.hid hx; have HTL := Lib.hid htl
          have hsw : B1 ≤ wr.heap.size := by have := HB1.out; omega
          clear hx htl
          go_upto_region 8 with (refine wpList_append_bytes rfl _ (.tmp 28) rfl B1 _ (p ++ (Sha.marks k).take j) rfl (HX.out.modW ((Mod.refl none_ _).alloc _) (fun _ _ h => h)) _ [_] rfl (wr.heap.size + 1) (bytes_one1 _ _ _ hy) (by have := HTL.out; simp only [List.length_append, List.length_cons, List.length_nil]; omega) (by simp; omega) ?_; intro x2 w9 hx9 hg9)
          have hM9 : Mod (fun b => B1 ≤ b) wo w9 := (hMx.alloc _).trans (Mod.grownBy (S := fun b => B1 ≤ b) hg9 (fun j _ e => HX.out.own_ge e)) (fun _ _ h => h)
          clear hg9 hMx
          go_wp2
          go_roundw
          case rel =>
            refine ⟨j + 1, by omega, by go_num, ?_, hM9⟩
            rw [List.take_add_one, Sha.get_marks k j hlt2, ← List.append_assoc]
            exact hx9
          case measure => simp [intOf]; omega
        · have hmk : (Sha.marks k).take j = Sha.marks k := by rw [List.take_of_length_le]; rw [Sha.length_marks]; omega
          rw [hmk] at hx
          rcases hx.cases with ⟨_, e⟩ | ⟨g, cp, rest, hv5, hg, hB5, hcp⟩
          · have := congrArg List.length e
            rw [List.length_append, Sha.length_marks] at this
            simp at this
          · have hlm : (p ++ Sha.marks k).length = p.length + 150 := by rw [List.length_append, Sha.length_marks]
            rw [hlm] at hv5 hcp
            subst hv5
            obtain ⟨a1, e0, e1, e2⟩ := slice_to_any (P := Tryd.prog) 28 5 under_b28 size_u8 (some ⟨g, 0, none⟩) (p.length + 150) cp p.length (by omega)
            obtain rfl : a1 = some ⟨g, 0, none⟩ := e1 g 0 rfl
            have qv2 : wr.cell? ⟨lb, lo + k, none⟩ = some (.slice va p.length vc) := hMx.cellS qv (by have := HB1.out; simp; omega)
            have hMw : Mod none_ w wr := hM.trans hMx (fun b hb h => by have := HB1.out; omega)
            have hAw := HA.out.modO hMx (fun b hb h => by have := HA.out.own_lt hb; have := HB1.out; omega)
            have hEw : ∀ (i : Nat) v p, vs[i]? = some v → ps[i]? = some p → Lent wr w.heap.size v p i := fun i v p h1 h2 => (HE.out i v p h1 h2).mod hMx (fun g cs hg => by have := hg.lt; have := HB1.out; omega)
            have HEW := Lib.hid hEw; have HAW := Lib.hid hAw
            clear hEw hAw qv e0 e1 hx hmk
            have hbd : (vs.length + 1) * 24 ≤ 140737488355328 := by have := HVL.out; omega
            have hws2 : w.heap.size ≤ (wr.alloc (.cells #[.slice (some ⟨g, 0, none⟩) p.length cp] 28)).heap.size := by have := hMw.size; simp; omega
            have HBD := Lib.hid hbd; have HW2 := Lib.hid hws2
            clear hbd hws2
            go_upto_region 4 with (refine wpList_append_vals rfl _ (.tmp 38) rfl w.heap.size u3 vs rfl (HAW.out.modO ((Mod.refl none_ _).alloc _) (fun _ _ h => h)) _ 1 _ [_] rfl rfl (new_one _ _ _) (one_slice _ _ _) HBD.out HW2.out ?_; intro m2 w9 hm9 hg9)
            have hA9 : Mod (fun b => u3.ownBlock = some b) (wr.alloc (.cells #[.slice (some ⟨g, 0, none⟩) p.length cp] 28)) w9 := Mod.grownBy hg9 (fun j _ e => e)
            have hB9 : Blk w9 g (Sha.bcells (p ++ Sha.marks k) ++ rest) 5 := hA9.blk (hB5.alloc _) (fun e => HAW.out.apart hB5 e)
            have hM9 : Mod none_ w w9 := (hMw.alloc _).trans hA9 (fun b hb e => by have := HAW.out.own_ge e; omega)
            have hE9 : ∀ (i : Nat) v p, vs[i]? = some v → ps[i]? = some p → Lent w9 w.heap.size v p i := fun i v p h1 h2 =>
              ((HEW.out i v p h1 h2).mod ((Mod.refl none_ wr).alloc _) (fun _ _ _ h => h)).mod hA9 (fun g2 cs hg2 e => (HAW.out.modO ((Mod.refl none_ _).alloc _) (fun _ _ h => h)).apart hg2 e)
            have hgw : w.heap.size ≤ g := by have := HB1.out; omega
            clear hA9 hg9 hMw hMx hB5
            go_wp2
            go_roundw
            case rel =>
              refine ⟨k + 1, by omega, by go_num, ⟨vs ++ [.slice (some ⟨g, 0, none⟩) p.length cp], by rw [List.length_append, HVL.out]; rfl, hm9, ?_, ?_⟩, hM9⟩
              · intro i v q h1 h2
                by_cases hi : i < vs.length
                · rw [List.getElem?_append_left hi] at h1
                  exact hE9 i v q h1 h2
                · rw [List.getElem?_append_right (by omega)] at h1
                  have hi0 : i - vs.length = 0 := by have := (List.getElem?_eq_some_iff.1 h1).1; simp at this; omega
                  rw [hi0] at h1
                  obtain rfl : Value.slice (some ⟨g, 0, none⟩) p.length cp = v := by simpa using h1
                  have hik : i = k := by have := HVL.out; omega
                  subst hik
                  rw [HPK.out] at h2
                  obtain rfl := Option.some.inj h2
                  exact ⟨g, cp, rest, rfl, hgw, hB9, hcp⟩
              · intro v hv
                rcases List.mem_append.1 hv with h | h
                · exact H1.out v h
                · obtain rfl : v = .slice (some ⟨g, 0, none⟩) p.length cp := by simpa using h
                  rfl
            case measure => simp [intOf]; omega
    · have hkn : k = n := by omega
      have hbd : (vs.length + 2) * 24 ≤ 140737488355328 := by omega
      have hE' : ∀ (i : Nat) v p, vs[i]? = some v → ps[i]? = some p → Lent wr w.heap.size v p i := hE
      have hws := hM.size
      obtain ⟨w2, hw2, hM2, hb1, hs2⟩ : ∃ w2, wr.alloc (.cells #[.int .u8 98, .int .u8 101, .int .u8 104, .int .u8 105, .int .u8 110, .int .u8 100] 5 (6, 7)) = w2 ∧ Mod none_ wr w2 ∧ BytesAt w2 w2.heap.size (.slice (some ⟨wr.heap.size, 0, none⟩) 6 6) (nums [98, 101, 104, 105, 110, 100]) ∧ w2.heap.size = wr.heap.size + 1 := by
        refine ⟨_, rfl, (Mod.refl _ _).alloc _, ?_, by simp⟩
        exact (bytes_new wr #[.int .u8 98, .int .u8 101, .int .u8 104, .int .u8 105, .int .u8 110, .int .u8 100] 5 (6, 7) (nums [98, 101, 104, 105, 110, 100]) 6 (nums_bytes _) (by decide) (by decide) (by intro j hj; match j, hj with | 0, _ => rfl | 1, _ => rfl | 2, _ => rfl | 3, _ => rfl | 4, _ => rfl | 5, _ => rfl)).mono (by simp)
      obtain ⟨w3, hw3, hM3, hb2, hs3⟩ : ∃ w3, w2.alloc (.cells #[.int .u8 105, .int .u8 116] 5 (2, 3)) = w3 ∧ Mod none_ w2 w3 ∧ BytesAt w3 w3.heap.size (.slice (some ⟨w2.heap.size, 0, none⟩) 2 2) (nums [105, 116]) ∧ w3.heap.size = w2.heap.size + 1 := by
        refine ⟨_, rfl, (Mod.refl _ _).alloc _, ?_, by simp⟩
        exact (bytes_new w2 #[.int .u8 105, .int .u8 116] 5 (2, 3) (nums [105, 116]) 2 (nums_bytes _) (by decide) (by decide) (by intro j hj; match j, hj with | 0, _ => rfl | 1, _ => rfl)).mono (by simp)
      have hcv := fun (w : World) (C : Array Value) (n c : Nat) => Lib.run_convert_bytes_const (P := Tryd.prog) w 28 5 C n c under_b28 under_b8
      have hcv2 := Lib.run_convert_bytes_const (P := Tryd.prog) w2 28 5 #[.int .u8 105, .int .u8 116] 2 2 under_b28 under_b8
      rw [hs2] at hcv2
      have hA3 := (hA.modO hM2 (fun _ _ h => h)).modO hM3 (fun _ _ h => h)
      have hw3s : w.heap.size ≤ w3.heap.size := by omega
      have HAL := Lib.hid hA; have HA3 := Lib.hid hA3; have HBD := Lib.hid hbd; have HE := Lib.hid hE; have HVL := Lib.hid hvl
      have hnew := new_two w3 (.slice (some ⟨wr.heap.size, 0, none⟩) 6 6) (.slice (some ⟨wr.heap.size + 1, 0, none⟩) 2 2) 28
      rw [hs3, hs2] at hnew
      have HNEW := Lib.hid hnew
      clear hnew
      have hx3 : w.heap.size ≤ (w3.alloc (.cells #[.slice (some ⟨wr.heap.size, 0, none⟩) 6 6, .slice (some ⟨wr.heap.size + 1, 0, none⟩) 2 2] 28)).heap.size := by simp; omega
      have HX3 := Lib.hid hx3
      clear hA hA3 hbd hE hE' h1 hvl hx3
      go_upto_region 12 with (refine wpList_append_vals rfl _ (.tmp 45) rfl w.heap.size u3 vs rfl (HA3.out.modO ((Mod.refl none_ _).alloc _) (fun _ _ h => h)) _ 2 _ [_, _] rfl rfl HNEW.out (two_slices _ _ _ _ _ _) HBD.out HX3.out ?_; intro m2 w9 hm9 hg9)
      have hlt9 : ∀ b, u3.ownBlock = some b → b < wr.heap.size := fun b e => HAL.out.own_lt e
      have hA9 : Mod (fun b => u3.ownBlock = some b) w3 w9 := ((Mod.refl none_ w3).alloc _ |>.mono (fun _ _ h => h.elim)).trans (Mod.grownBy hg9 (fun j _ e => e)) (fun _ _ h => h)
      have hM9 : Mod none_ w w9 := ((hM.then hM2).then hM3).trans hA9 (fun b hb e => by have := HAL.out.own_ge e; omega)
      have hE9 : ∀ (i : Nat) v p, vs[i]? = some v → ps[i]? = some p → Lent w9 w.heap.size v p i := fun i v p h1 h2 =>
        (((HE.out i v p h1 h2).mod hM2 (fun _ _ _ h => h)).mod hM3 (fun _ _ _ h => h)).mod hA9 (fun g2 cs hg2 e => HA3.out.apart hg2 e)
      have hb19 := (bytes_modA (hb1.mod hM3 (fun _ _ h => h)) hA9 (fun e => by have := hlt9 _ e; omega)).mono (show w2.heap.size ≤ w9.heap.size by have := hA9.size; omega)
      rw [hs2] at hb2
      have hb29 := (bytes_modA hb2 hA9 (fun e => by have := hlt9 _ e; omega)).mono hA9.size
      rcases hm9.cases with ⟨_, e⟩ | ⟨M, cp, rest, hv5, hg, hB9, hcp⟩
      · have := congrArg List.length e
        simp at this
      · have hlv : (vs ++ [Value.slice (some ⟨wr.heap.size, 0, none⟩) 6 6, .slice (some ⟨wr.heap.size + 1, 0, none⟩) 2 2]).length = n + 2 := by have := HVL.out; simp; omega
        rw [hlv] at hv5 hcp
        subst hv5
        rw [List.append_assoc] at hB9
        obtain ⟨a1, e0, e1, e2⟩ := slice_to_any (P := Tryd.prog) 30 28 under_l30 size_b28 (some ⟨M, 0, none⟩) (n + 2) cp n (by omega)
        obtain rfl : a1 = some ⟨M, 0, none⟩ := e1 M 0 rfl
        clear hg9 hm9 hcv hcv2 hw2 hw3 hA9 hlv
        go_wp2
        go_ret
        exact ⟨M, cp, vs, _, _, rest, rfl, hcp, hg, by rw [HVL.out, hkn], hB9, hE9, hb19, hb29, hM9⟩
end Go.Proofs.YtheamejbfopdaaaDoor
