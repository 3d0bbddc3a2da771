/- ShaLengths: the walk. -/
import Derived.Test.YtheamejbfopdaaaDoorRefD
namespace Go.Proofs.YtheamejbfopdaaaDoor
open Go.RowKit

/-- xs[l:h] of whatever slice, one cell each -/
theorem slice_mid_any {P : Program} (t e : TypeId) (ht : P.underlying t = some (.slice e)) (he : (P.info? e).map (·.size) = some 1) (sa : Option Addr) (n c l h : Nat) (hl : l ≤ h) (hh : h ≤ c) :
    ∃ a1, (a1 = none → sa = none) ∧ (l < c → ∀ pb po, sa = some ⟨pb, po, none⟩ → a1 = some ⟨pb, po + l, none⟩) ∧ ∀ w, (Instr.slice t (.slice sa n c) (some (.int .i64 (l : Int))) (some (.int .i64 (h : Int))) none).run P w = .ok (.slice a1 (h - l) (c - l)) w := by
  have hel : P.elem t = e := by simp [Program.elem, ht]
  refine ⟨if c = l then sa else sa.map (·.add l), (fun h => by split at h <;> simp_all), fun h pb po h2 => by subst h2; rw [if_neg (by omega)]; simp only [Option.map_some, Addr.add]; split <;> simp_all, fun w => ?_⟩
  rw [run_slice_lh w t sa n c (by rw [hel]; exact ht) .i64 .i64 l h (by omega) (by omega) (by omega), hel]
  cases hq : P.info? e with
  | none => simp [hq] at he
  | some i =>
    have hs : i.size = 1 := by simpa [hq] using he
    have hz : (sizeOf e).run P w = .ok 1 w := by simp [sizeOf, typeInfo, hq, hs]
    rw [hz]
    simp only [Result.andThen, sliced, Int.toNat_natCast, Nat.mul_one]
theorem bytes_mid (w : World) (B : Nat) (sa : Option Addr) (n c : Nat) (t : List Int) (l h : Nat) (hb : BytesAt w B (.slice sa n c) t) (hlh : l ≤ h) (hh : h ≤ n) :
    ∃ a1, BytesAt w B (.slice a1 (h - l) (c - l)) ((t.drop l).take (h - l)) ∧ ∀ wx, (Instr.slice 28 (.slice sa n c) (some (.int .i64 (l : Int))) (some (.int .i64 (h : Int))) none).run Tryd.prog wx = .ok (.slice a1 (h - l) (c - l)) wx := by
  obtain ⟨h1, h2, a', c', h3, h4, h0, h5⟩ := hb
  obtain ⟨rfl, rfl, rfl⟩ : sa = a' ∧ n = t.length ∧ c = c' := by simpa using h3
  obtain ⟨a1, e0, e1, e2⟩ := slice_mid_any (P := Tryd.prog) 28 5 under_b28 size_u8 sa t.length c l h hlh (by omega)
  have hl : ((t.drop l).take (h - l)).length = h - l := by simp; omega
  refine ⟨a1, ⟨Sha.bytes_take (Sha.bytes_drop h1 _) _, by omega, a1, c - l, by rw [hl], by omega, fun h => by rw [h0 (e0 h)]; omega, fun hp => ?_⟩, e2⟩
  obtain ⟨pb, po, h6, h7, h8⟩ := h5 (by omega)
  refine ⟨pb, po + l, e1 (by omega) pb po h6, h7, fun j hj => ?_⟩
  rw [Nat.add_assoc, h8 (l + j) (by omega), Sha.g, Sha.g, List.getElem?_take, if_pos (by omega), List.getElem?_drop]

/-- the size of the parts -/
theorem size70 (s : Int) : (s.tmod 70 < 0 → 0 ≤ -s.tmod 70 ∧ -s.tmod 70 < 70) ∧ (-70 < s.tmod 70 ∧ s.tmod 70 < 70) := by
  have h2 : s.tmod 70 < 70 := Int.tmod_lt_of_pos s (by decide)
  have h3 : -70 < s.tmod 70 := by
    have := Int.tmod_lt_of_pos (-s) (show (0 : Int) < 70 by decide)
    rw [Int.neg_tmod] at this
    omega
  exact ⟨fun h => ⟨by omega, by omega⟩, h3, h2⟩

theorem OwnB.own_lt {w : World} {base : Nat} {v : Value} {xs : List Int} (h : OwnB w base v xs) : ∀ b, v.ownBlock = some b → b < w.heap.size := by
  intro b e
  rcases h.cases with ⟨rfl, _⟩ | ⟨g, cap, rest, rfl, _, h3, _⟩
  · cases e
  · have : g = b := Option.some.inj e
    subst this; exact h3.lt
theorem OwnB.modO {S : Nat → Prop} {w w' : World} {base : Nat} {v : Value} {xs : List Int} (h : OwnB w base v xs) (hM : Mod S w w') (hS : ∀ g, v.ownBlock = some g → ¬ S g) : OwnB w' base v xs := by
  obtain ⟨h1, h2 | ⟨g, cap, cur, h3, h4, h5, h6, h7, h8, h9⟩⟩ := h
  · exact ⟨h1, Or.inl h2⟩
  · exact ⟨h1, Or.inr ⟨g, cap, cur, h3, h4, (hM.blk (b := g) (cs := cur.toList) (t := 5) h5 (hS g (by rw [h3]; rfl))), h6, h7, h8, h9⟩⟩
theorem bytes_one1 (w : World) (y : Int) (T : TypeId) (hy : 0 ≤ y ∧ y ≤ 255) : BytesAt (w.alloc (.cells #[.int .u8 y] T)) (w.heap.size + 1) (.slice (some ⟨w.heap.size, 0, none⟩) 1 1) [y] := by
  refine ⟨fun x hx => ?_, by simp, _, _, rfl, by simp, (fun h => by cases h), fun _ => ⟨_, _, rfl, by omega, fun j hj => ?_⟩⟩
  · obtain rfl : x = y := by simpa using hx
    exact hy
  · obtain rfl : j = 0 := by simpa using hj
    rw [World.cell?_alloc_new]; rfl
theorem rep_mid (n j k : Nat) (y : Int) (h1 : j ≤ k) (h2 : k ≤ n) : List.replicate (min j n) y ++ ((List.replicate n y).drop j).take (k - j) = List.replicate k y := by
  rw [List.drop_replicate, List.take_replicate, List.replicate_append_replicate]
  congr 1; omega

attribute [local go_sem ↓] Go.wp_at_zero Go.wp_at_succ

set_option maxHeartbeats 2000000 in
set_option maxRecDepth 100000 in
theorem shaLengths_any (w : World) (hK : Rounds w) (hT : RefTabs w) (y s : Int) (hy : 0 ≤ y ∧ y ≤ 255) :
    Calls Tryd.prog 6 #[.int .u8 y, .int .i64 s] w fun e w' => e = .returned (.bool true) ∧ Mod none_ w w' := by
  have hGl : 2 < w.heap.size := World.block_lt_of_cell? _ _ (hK 0 (by omega))
  obtain ⟨h1, h2, h3⟩ := size70 s
  go_enter Tryd.func6, Tryd.ntmps6
  go_wp2_with fail
  refine (alive_any w hK).mono ?_
  rintro e w1 ⟨rfl, hM1⟩
  go_upto_if 15 with fail
  go_cut [1] (fun s1 wx => ∃ z : Nat, z < 70 ∧ s1 = .int .i64 z ∧ wx = w1)
  case first =>
    by_cases h : s.tmod 70 < 0
    · obtain ⟨h4, h5⟩ := h1 h
      go_wp2
      go_meet
      case rel => exact ⟨(-s.tmod 70).toNat, by omega, by rw [Int.toNat_of_nonneg h4], rfl⟩
    · go_wp2
      go_meet
      case rel => exact ⟨(s.tmod 70).toNat, by omega, by rw [Int.toNat_of_nonneg (by omega)], rfl⟩
  case rest =>
    obtain ⟨z, hz, rfl, rfl⟩ := hcut
    clear h1 h2 h3
    go_wp2_with fail
    go_loopw [5, 6] (fun v i wr => ∃ n : Nat, n ≤ 131 ∧ i = .int .i64 n ∧ OwnB wr w.heap.size v (List.replicate n y) ∧ Mod none_ w wr) (fun _ i _ => 131 - (intOf i).toNat)
    case atStart => exact ⟨0, by omega, rfl, ownB_nil _ _, hM1⟩
    case round =>
      clear hM1
      obtain ⟨n, hn, rfl, hA, hM⟩ := hrel
      by_cases hlt : n ≤ 130
      · go_wp2_with fail
        refine (new_any wr).mono ?_
        rintro e w2 ⟨rfl, hM2, hH2, hs2⟩
        have hA2 := hA.modW hM2 (fun _ _ h => h)
        have hAb : BytesAt wr wr.heap.size u5 (List.replicate n y) := hA.bytes (fun x hx => by rw [List.eq_of_mem_replicate hx]; exact hy) (by rw [List.length_replicate]; omega)
        have hAg := hA.own_lt
        have hAb2 := hAb.mod hM2 (fun _ _ h => h)
        have hM2' := hM.then hM2
        have hGw : w.heap.size ≤ wr.heap.size := hM.size
        generalize wr.heap.size = G at *
        clear hA hM hM2 hAb
        obtain ⟨sa, c, hv, hlc⟩ := hA2.form
        rw [List.length_replicate] at hv hlc
        subst hv
        go_wp2_with fail
        go_loopw [8] (fun i wq => ∃ j : Nat, j ≤ n + 70 ∧ i = .int .i64 j ∧ HashAt wq G (List.replicate (min j n) y) (((List.replicate (min j n) y).length : Int) % 18446744073709551616) 55 ∧ Mod (only G) w2 wq) (fun i _ => n - (intOf i).toNat)
        case atStart => exact ⟨0, by omega, rfl, by rw [Nat.zero_min]; exact hH2, Mod.refl _ _⟩
        case round =>
          clear hH2
          obtain ⟨j, hj, rfl, hH, hMj⟩ := hrel
          by_cases hlt2 : j < n
          · have hsd : Sha.bytes (List.replicate n y) := hAb2.1
            by_cases hk : n < j + (z + 1)
            · have hk1 : (n : Int) < j + (z + 1) := by omega
              obtain ⟨a1, hb1, hs1⟩ := bytes_mid wr G sa n c (List.replicate n y) j n (hAb2.mod hMj (fun b hb h => by rw [show b = G from h] at hb; omega)) (by omega) (by omega)
              have hK2 := hK.mod (hM2'.trans hMj (fun b hb h => absurd hb (by rw [show b = G from h]; omega))) (fun h => h)
              have HB := Lib.hid hb1; have HH := Lib.hid hH
              clear hb1 hH
              go_wp2_with fail
              refine (write_b wr G (List.replicate (min j n) y) _ _ _ HB.out HH.out hK2 (by omega)).mono ?_
              rintro e w4 ⟨rfl, hM4, hH4⟩
              have hM4' : Mod (only G) w2 w4 := hMj.trans hM4 (fun _ _ h => h)
              clear HB HH hM4 hMj hs1 hK2
              go_wp2_with fail
              go_roundw
              case rel => exact ⟨j + (z + 1), by omega, by go_num, by rw [rep_mid n j n y (by omega) (by omega)] at hH4; rw [show min (j + (z + 1)) n = n by omega]; exact hH4, hM4'⟩
              case measure => simp [intOf]; omega
            · have hk1 : ¬ (n : Int) < j + (z + 1) := by omega
              obtain ⟨k, hkz⟩ : ∃ k : Nat, (j : Int) + ((z : Int) + 1) = (k : Int) := ⟨j + (z + 1), by omega⟩
              obtain ⟨a1, hb1, hs1⟩ := bytes_mid wr G sa n c (List.replicate n y) j k (hAb2.mod hMj (fun b hb h => by rw [show b = G from h] at hb; omega)) (by omega) (by omega)
              have hK2 := hK.mod (hM2'.trans hMj (fun b hb h => absurd hb (by rw [show b = G from h]; omega))) (fun h => h)
              have HB := Lib.hid hb1; have HH := Lib.hid hH
              clear hb1 hH
              go_wp2_with fail
              refine (write_b wr G (List.replicate (min j n) y) _ _ _ HB.out HH.out hK2 (by omega)).mono ?_
              rintro e w4 ⟨rfl, hM4, hH4⟩
              have hM4' : Mod (only G) w2 w4 := hMj.trans hM4 (fun _ _ h => h)
              clear HB HH hM4 hMj hs1 hK2
              go_wp2_with fail
              go_roundw
              case rel => exact ⟨j + (z + 1), by omega, by go_num, by rw [rep_mid n j k y (by omega) (by omega)] at hH4; rw [show min (j + (z + 1)) n = k by omega]; exact hH4, hM4'⟩
              case measure => simp [intOf]; omega
          · have hH' : HashAt wr G (List.replicate n y) (((List.replicate n y).length : Int) % 18446744073709551616) 55 := by
              rw [show min j n = n by omega] at hH; exact hH
            have hMw : Mod none_ w wr := hM2'.trans hMj (fun b hb h => absurd hb (by rw [show b = G from h]; omega))
            have hAbw := (hAb2.mod hMj (fun b hb h => by rw [show b = G from h] at hb; omega)).mono (show G ≤ wr.heap.size by have := hMj.size; omega)
            have hAo := hA2.modO hMj (fun g hg h => by have := hAg g hg; have : g = G := h; omega)
            have hKw := hK.mod hMw (fun h => h)
            have hTw := hT.mod hMw (fun h => h) (fun h => h)
            have hgK : G ≠ 2 := by omega
            obtain ⟨wo, rfl⟩ : ∃ wo : World, wo = wr := ⟨_, rfl⟩
            clear hH hMj hAb2 hM2'
            have hne := fun (p q : List Int) (wx : World) => sha_eql p q wx
            have h1 : (1 : Nat) ≤ 140737488355328 := by decide
            have h0 := Mod.refl none_ wo
            have hrl : (List.replicate n y).length ≤ 70368744177664 := by rw [List.length_replicate]; omega
            have hfl : [List.replicate n y].flatten = List.replicate n y := by simp
            have HFL := Lib.hid hfl
            clear hfl
            go_wp2_with fail
            refine (sum_h wo wo G _ _ hH' hKw hgK h0).mono ?_
            rintro e w10 ⟨rfl, hM10, _⟩
            go_wp2_with fail
            refine (ref_of_ht wo w10 _ [.slice sa n c] [List.replicate n y] (List.replicate n y) HFL.out 28 rfl (parts1 hAbw) hTw 1 h1 hrl hM10 (Mod.refl _ _)).mono ?_
            rintro e w11 ⟨rfl, hM11, _⟩
            have hM11' := hMw.then hM11
            have hA11 := hAo.modW hM11 (fun _ _ h => h)
            have hs11 := hM11'.size
            clear hM11 hMw hAbw hAo hKw hTw hH' hM10
            go_upto_region 10 with (refine wpList_append_bytes rfl _ (.tmp 52) rfl w.heap.size (.slice sa n c) (List.replicate n y) rfl (hA11.modW ((Mod.refl none_ _).alloc _) (fun _ _ h => h)) _ [y] rfl (w11.heap.size + 1) (bytes_one1 _ _ _ hy) (by rw [List.length_replicate]; simp; omega) (by simp; omega) ?_; intro x w12 hx12 hg12)
            have hM12 : Mod none_ w w12 := (hM11'.alloc _).trans (Mod.grownBy (S := fun b => w.heap.size ≤ b) hg12 (fun j _ e => hA11.own_ge e)) (fun j hj h => by omega)
            have hx12' : OwnB w12 w.heap.size x (List.replicate (n + 1) y) := by rw [List.replicate_succ']; exact hx12
            clear hg12 hx12 hA11 hM11' hne
            go_wp2
            go_roundw
            case rel => exact ⟨n + 1, by omega, by go_num, hx12', hM12⟩
            case measure => simp [intOf]; omega
      · have hn1 : n = 131 := by omega
        clear hA
        go_wp2
        go_ret
        exact ⟨rfl, hM⟩
end Go.Proofs.YtheamejbfopdaaaDoor
