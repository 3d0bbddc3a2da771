/- The reference of chapter 2: the walks. -/
import Derived.Test.YtlndgnlkfhlekaaDoorMacF
namespace Go.Proofs.YtlndgnlkfhlekaaDoor
open Go.RowKit

theorem RefTabs.none {w w' : World} (h : RefTabs w) (hM : Mod none_ w w') : RefTabs w' := h.mod hM (fun h => h) (fun h => h)
set_option maxHeartbeats 1000000 in
theorem ref_sum2 (w : World) (hT : RefTabs w) (s : ByteArray) (hs : s.size ≤ 70368744177664) :
    Calls Tryd.prog 33 #[.string s] w fun e w' => e = .returned (.string (strOf (Sha.sha (num s)))) ∧ Mod none_ w w' := by
  go_enter Tryd.func33, Tryd.ntmps33
  go_wp2_with (refine wpList_bytes_of rfl 9 63 5 (.tmp 4) rfl s rfl under_str under_b28 under_b8 (by omega) ?_; intro w1 cap hb1 hM1 hs1)
  have h1 : (1 : Nat) ≤ 140737488355328 := by decide
  have hfl : [num s].flatten = num s := by simp
  have hls : (num s).length ≤ 70368744177664 := by rw [length_num]; exact hs
  have hof := ref_of_ht w1 w1 (w1.alloc (.cells #[.slice (some ⟨w.heap.size, 0, none⟩) s.size cap] 63)) [.slice (some ⟨w.heap.size, 0, none⟩) s.size cap] [num s] (num s) hfl 63 rfl (parts1 hb1) (hT.none hM1) 1 h1 hls (Mod.refl _ _) (Mod.refl _ _)
  rw [hs1] at hof
  refine hof.mono ?_
  rintro e w2 ⟨rfl, hM2, _⟩
  have hM2' := hM1.then hM2
  clear hM1 hM2 hb1 hof hfl
  have hsl := fun b wx => sliceAt_whole (P := Tryd.prog) 36 5 32 under_b32 size_u8 b wx
  go_upto_region 2 with (refine wpList_store_new rfl 36 (.tmp 3) (.tmp 7) rfl 36 _ (Sha.bcells (Sha.sha (num s))) rfl rfl (by rw [size_b32, Sha.bcells, List.length_map, Sha.length_sha]) (by rw [Sha.bcells, List.length_map, Sha.length_sha]; rfl) (Sha.one_b _) ?_; intro w3 hX hM3 hs3)
  have hbY := bytes_arr hX (Sha.length_sha _) (Sha.bytes_sha _) (by decide) hX.lt
  have hsY := str_any w3 _ _ _ hbY
  have hM3' := hM2'.then hM3
  clear hX hM3 hM2' hbY
  go_wp2
  go_ret
  exact ⟨rfl, hM3'⟩

namespace Mac
/-- the block as the reference fills it: i bytes there -/
def rowz (k : List Int) (x : Int) (i : Nat) : List Int := (List.range 64).map fun j => if j < i then x8 (Sha.g k j) x else 0
theorem rowz_zero (k : List Int) (x : Int) : rowz k x 0 = Sha.zeros 64 := by
  rw [rowz]
  simp only [Nat.not_lt_zero, if_false, List.map_const', List.length_range]
  rfl
theorem rowz_all (k : List Int) (x : Int) : rowz k x 64 = pad k x := by
  rw [pad_eq]
  unfold rowz row
  apply List.map_congr_left
  intro j hj
  have := List.mem_range.1 hj
  rw [if_pos this, if_pos this]
theorem length_rowz (k : List Int) (x : Int) (i : Nat) : (rowz k x i).length = 64 := by simp [rowz]
theorem rowz_get (k : List Int) (x : Int) (i j : Nat) (h : j < 64) : (rowz k x i)[j]? = some (if j < i then x8 (Sha.g k j) x else 0) := by
  simp [rowz, List.getElem?_range h]
theorem rowz_set (k : List Int) (x : Int) (i : Nat) : (rowz k x i).set i (x8 (Sha.g k i) x) = rowz k x (i + 1) := by
  apply List.ext_getElem
  · simp [rowz]
  · intro j h1 h2
    simp only [rowz, List.getElem_set, List.getElem_map, List.getElem_range]
    by_cases hij : i = j
    · subst hij; rw [if_pos rfl, if_pos (by omega)]
    · rw [if_neg hij]
      by_cases hj : j < i
      · rw [if_pos hj, if_pos (by omega)]
      · rw [if_neg hj, if_neg (by omega)]
end Mac
attribute [irreducible] Mac.rowz

set_option maxHeartbeats 2000000 in
set_option maxRecDepth 100000 in
theorem ref_block (w : World) (hT : RefTabs w) (k : ByteArray) (x : Int) (hk : k.size ≤ 70368744177664) :
    Calls Tryd.prog 34 #[.string k, .int .u8 x] w fun e w' => e = .returned (.string (strOf (Mac.pad (Mac.key (num k)) x))) ∧ Mod none_ w w' := by
  go_enter Tryd.func34, Tryd.ntmps34
  go_upto_if 9 with fail
  go_cut [0] (fun s wx => ∃ kb : ByteArray, s = .string kb ∧ num kb = Mac.key (num k) ∧ Mod none_ w wx)
  case first =>
    have hlen := length_num k
    by_cases h : 64 < k.size
    · have hi : (64 : Int) < (k.size : Int) := by omega
      have hkey : Mac.key (num k) = Sha.sha (num k) := by rw [Mac.key, if_pos (by omega)]
      have HKEY := Lib.hid hkey
      clear hkey hlen
      go_wp2_with fail
      refine (ref_sum2 w hT k hk).mono ?_
      rintro e w2 ⟨rfl, hM2⟩
      go_wp2
      go_meet
      case rel => exact ⟨_, rfl, by rw [num_strOf _ (Sha.bytes_sha _), HKEY.out], hM2⟩
    · have hi : ¬ (64 : Int) < (k.size : Int) := by omega
      have hkey : Mac.key (num k) = num k := by rw [Mac.key, if_neg (by omega)]
      have HKEY := Lib.hid hkey
      clear hkey hlen
      go_wp2
      go_meet
      case rel => exact ⟨k, rfl, HKEY.out.symm, Mod.refl _ _⟩
  case rest =>
    obtain ⟨kb, rfl, hkb, hM⟩ := hcut
    have hkl : kb.size ≤ 64 := by rw [← length_num, hkb]; exact Mac.length_key _
    have hby := bytes_num kb
    have hres : strOf (Mac.pad (Mac.key (num k)) x) = strOf (Mac.rowz (num kb) x 64) := by rw [Mac.rowz_all, hkb]
    have HRES := Lib.hid hres
    have hg : ∀ i, i < kb.size → ∀ h2 : i < kb.size, Sha.g (num kb) i = ((kb[i]'h2).toNat : Int) := fun i h h2 => by
      rw [Sha.g, num, nums, List.getElem?_map]
      have : kb.data.toList[i]? = some (kb[i]'h2) := by rw [Array.getElem?_toList]; exact Array.getElem?_eq_getElem _
      rw [this]; rfl
    have HG := Lib.hid hg
    clear hkb hg hres
    go_upto_region 4 with (refine wpList_make_bytes rfl (.const (.int .i64 64)) (.const (.int .i64 64)) rfl 64 rfl rfl (by decide) ?_; intro w8 hB8 hM8 hs8)
    have hM8' := hM.then hM8
    rw [← Mac.rowz_zero (num kb) x] at hB8
    obtain ⟨B, hBe⟩ : ∃ B, wc.heap.size = B := ⟨_, rfl⟩
    have hBw : w.heap.size ≤ B := by rw [← hBe]; exact hM.size
    rw [hBe] at hB8 ⊢
    clear hM hM8 hBe hs8
    go_wp2_with fail
    go_loopw [6] (fun i wr => ∃ j : Nat, j ≤ 64 ∧ i = .int .i64 j ∧ Blk wr B (Sha.bcells (Mac.rowz (num kb) x j)) 5 ∧ Mod none_ w wr) (fun i _ => 64 - (intOf i).toNat)
    case atStart => exact ⟨0, by omega, rfl, hB8, hM8'⟩
    case round =>
      clear hB8 hM8'
      obtain ⟨j, hj, rfl, hB, hMr⟩ := hrel
      by_cases hlt : j < 64
      · have q1 : wr.cell? ⟨B, j, none⟩ = some (.int .u8 0) := hB.cell (by rw [Sha.bcells, List.getElem?_map, Mac.rowz_get _ _ _ _ hlt, if_neg (Nat.lt_irrefl _)]; rfl)
        have f1 : wr.frozen? ⟨B, j, none⟩ = false := hB.frozen j
        by_cases h2 : j < kb.size
        · have hi : (j : Int) < (kb.size : Int) := by omega
          have he := HG.out j h2 h2
          have hset : ∀ u, ((Sha.bcells (Mac.rowz (num kb) x j)).set j u).set j (.int .u8 (bits BinOp.xor IntKind.u8 ((kb[j]'h2).toNat : Int) x)) = Sha.bcells (Mac.rowz (num kb) x (j + 1)) := by
            intro u
            rw [List.set_set, ← he, Mac.x8_eq, bcells_set, Mac.rowz_set]
          have HSET := Lib.hid hset
          clear he hset
          go_wp2
          go_roundw
          case rel => exact ⟨j + 1, by omega, by go_num, ((hB.set j _).set j _).cs (HSET.out _), (hMr.setCell (fun h => by have : B < w.heap.size := h; omega) _).setCell (fun h => by have : B < w.heap.size := h; omega) _⟩
          case measure => simp [intOf]; omega
        · have hi : ¬ (j : Int) < (kb.size : Int) := by omega
          have he : Sha.g (num kb) j = 0 := by rw [Sha.g, List.getElem?_eq_none (by rw [length_num]; omega)]; rfl
          have hset : (Sha.bcells (Mac.rowz (num kb) x j)).set j (.int .u8 (bits BinOp.xor IntKind.u8 0 x)) = Sha.bcells (Mac.rowz (num kb) x (j + 1)) := by
            rw [← he, Mac.x8_eq, bcells_set, Mac.rowz_set]
          have HSET := Lib.hid hset
          clear he hset
          go_wp2
          go_roundw
          case rel => exact ⟨j + 1, by omega, by go_num, (hB.set j _).cs HSET.out, hMr.setCell (fun h => by have : B < w.heap.size := h; omega) _⟩
          case measure => simp [intOf]; omega
      · have h64 : j = 64 := by omega
        subst h64
        have hby64 : Sha.bytes (Mac.rowz (num kb) x 64) := by rw [Mac.rowz_all]; exact Mac.bytes_pad hby x
        have hcv := str_any wr _ _ _ (bytes_arr hB (Mac.length_rowz _ _ _) hby64 (by decide) hB.lt)
        clear hB hby64
        go_wp2
        go_ret
        exact ⟨by rw [HRES.out]; rfl, hMr⟩

theorem ref_tag_b (w : World) (hT : RefTabs w) (k t : ByteArray) (r : ByteArray) (hr : strOf (Mac.tag (num k) (num t)) = r) (hk : k.size ≤ 70368744177664) (ht : t.size ≤ 70368744177000) :
    Calls Tryd.prog 29 #[.string k, .string t] w fun e w' => e = .returned (.string r) ∧ Mod none_ w w' := by
  have hb5 := Mac.bytes_pad (Mac.bytes_key (bytes_num k)) 54
  have hb9 := Mac.bytes_pad (Mac.bytes_key (bytes_num k)) 92
  have hn5 := num_strOf _ hb5
  have hn9 := num_strOf _ hb9
  have hl5 : (strOf (Mac.pad (Mac.key (num k)) 54)).size = 64 := by rw [size_strOf, Mac.length_pad]
  have hl9 : (strOf (Mac.pad (Mac.key (num k)) 92)).size = 64 := by rw [size_strOf, Mac.length_pad]
  have htag := Mac.tag_eq (num k) (num t)
  have hB5 := fun (wx : World) (hM : Mod none_ w wx) => ref_block wx (hT.none hM) k 54 hk
  have hB9 := ref_block w hT k 92 hk
  generalize strOf (Mac.pad (Mac.key (num k)) 54) = P5 at *
  generalize strOf (Mac.pad (Mac.key (num k)) 92) = P9 at *
  have hadd1 := run_cat P5 t (by omega)
  have hn1 : num (P5 ++ t) = Mac.pad (Mac.key (num k)) 54 ++ num t := by rw [num_append, hn5]
  have hl1 : (P5 ++ t).size = 64 + t.size := by rw [ByteArray.size_append, hl5]
  generalize P5 ++ t = IT at *
  obtain ⟨S1, hS1⟩ : ∃ S1, strOf (Sha.sha (num IT)) = S1 := ⟨_, rfl⟩
  have hl2 : S1.size = 32 := by rw [← hS1, size_strOf, Sha.length_sha]
  have hn2 : num S1 = Sha.sha (Mac.pad (Mac.key (num k)) 54 ++ num t) := by rw [← hS1, num_strOf _ (Sha.bytes_sha _), hn1]
  have hadd2 := run_cat P9 S1 (by omega)
  have hn3 : num (P9 ++ S1) = Mac.pad (Mac.key (num k)) 92 ++ Sha.sha (Mac.pad (Mac.key (num k)) 54 ++ num t) := by rw [num_append, hn9, hn2]
  have hl3 : (P9 ++ S1).size = 96 := by rw [ByteArray.size_append, hl9, hl2]
  generalize P9 ++ S1 = OS at *
  have hres : strOf (Sha.sha (num OS)) = r := by rw [hn3, ← htag, hr]
  have hs1 := fun (wx : World) (hM : Mod none_ w wx) => ref_sum2 wx (hT.none hM) IT (by omega)
  have hs2 := fun (wx : World) (hM : Mod none_ w wx) => ref_sum2 wx (hT.none hM) OS (by omega)
  rw [hS1] at hs1
  rw [hres] at hs2
  have HB5 := Lib.hid hB5; have HS1 := Lib.hid hs1; have HS2 := Lib.hid hs2
  clear hb5 hb9 hn5 hn9 htag hB5 hn1 hn2 hn3 hS1 hres hs1 hs2 hr
  go_enter Tryd.func29, Tryd.ntmps29
  go_wp2_with fail
  refine hB9.mono ?_
  rintro e w1 ⟨rfl, hM1⟩
  clear hB9
  go_wp2_with fail
  refine (HB5.out w1 hM1).mono ?_
  rintro e w2 ⟨rfl, hM2⟩
  have hM2' := hM1.then hM2
  clear hM1 hM2
  go_wp2_with fail
  refine (HS1.out w2 hM2').mono ?_
  rintro e w3 ⟨rfl, hM3⟩
  have hM3' := hM2'.then hM3
  clear hM2' hM3
  go_wp2_with fail
  refine (HS2.out w3 hM3').mono ?_
  rintro e w4 ⟨rfl, hM4⟩
  have hM4' := hM3'.then hM4
  clear hM3' hM4
  go_wp2_with fail
  go_ret
  exact ⟨rfl, hM4'⟩

set_option maxHeartbeats 1000000 in
theorem ref_length (w : World) (L : Nat) (hL : L < 18446744073709551616) :
    Calls Tryd.prog 31 #[.int .u64 (L : Int)] w fun e w' => e = .returned (.string (strOf (Sha.be (L : Int)))) ∧ Mod none_ w w' := by
  go_enter Tryd.func31, Tryd.ntmps31
  go_upto_region 2 with (refine wpList_make_bytes rfl (.const (.int .i64 8)) (.const (.int .i64 8)) rfl 8 rfl rfl (by decide) ?_; intro w1 hB1 hM1 hs1)
  rw [← Sha.behind_zero (L : Int)] at hB1
  obtain ⟨B, hBe⟩ : ∃ B, w.heap.size = B := ⟨_, rfl⟩
  rw [hBe] at hB1 ⊢
  clear hs1
  go_wp2_with fail
  go_loopw [0, 4] (fun nv i wr => ∃ m : Nat, m ≤ 8 ∧ ((m < 8 ∧ i = .int .i64 ((7 - m : Nat) : Int)) ∨ (m = 8 ∧ i = .int .i64 (-1))) ∧ nv = .int .u64 ((L / 2 ^ (8 * m) : Nat) : Int) ∧ Blk wr B (Sha.bcells (Sha.behind L m)) 5 ∧ Mod none_ w wr) (fun _ i _ => (intOf i + 1).toNat)
  case atStart => exact ⟨0, by omega, Or.inl ⟨by omega, rfl⟩, by simp, hB1, hM1⟩
  case round =>
    clear hB1 hM1
    obtain ⟨m, hm, hi, rfl, hB, hM⟩ := hrel
    rcases hi with ⟨hm8, rfl⟩ | ⟨rfl, rfl⟩
    · obtain ⟨y, hy⟩ : ∃ y : Nat, 7 - m = y := ⟨_, rfl⟩
      rw [hy]
      obtain ⟨q, hq⟩ : ∃ q : Nat, L / 2 ^ (8 * m) = q := ⟨_, rfl⟩
      have hqx : (q : Int) % 256 = (L : Int) / 2 ^ (8 * m) % 256 := by rw [← hq]; simp
      have hq2 : L / 2 ^ (8 * (m + 1)) = q / 256 := by rw [← hq, Nat.div_div_eq_div_mul, show 8 * (m + 1) = 8 * m + 8 by omega, Nat.pow_add]
      have hset := Sha.set_behind (L : Int) m hm8 [] y (by simp; omega) ((q : Int) % 256) hqx
      simp only [List.nil_append] at hset
      have hql : q < 18446744073709551616 := by rw [← hq]; exact Nat.lt_of_le_of_lt (Nat.div_le_self _ _) hL
      rw [hq]
      have hlb := Sha.length_behind (L : Int) m
      have f1 : wr.frozen? ⟨B, y, none⟩ = false := hB.frozen y
      obtain ⟨u, hu⟩ : ∃ u, wr.cell? ⟨B, y, none⟩ = some u := ⟨_, hB.cell (bcells_get _ y (by omega))⟩
      have HSET := Lib.hid hset; have HQ2 := Lib.hid hq2; have HQ := Lib.hid hq
      clear hset hqx hq2 hq hlb
      go_wp2_with fail
      go_roundw
      case rel =>
        refine ⟨m + 1, by omega, ?_, by rw [HQ2.out]; rfl, (hB.set y _).cs HSET.out, hM.setCell (fun h => by have : B < w.heap.size := h; omega) _⟩
        by_cases h7 : m + 1 < 8
        · left; exact ⟨h7, by rw [show (y : Int) - 1 = ((7 - (m + 1) : Nat) : Int) by omega]⟩
        · right; exact ⟨by omega, by rw [show (y : Int) - 1 = -1 by omega]⟩
      case measure => simp [intOf] <;> omega
    · rw [Sha.behind_all] at hB
      have hcv := str_any wr _ _ _ (bytes_arr hB (Sha.length_be _) (Sha.bytes_be _) (by decide) hB.lt)
      clear hB
      go_wp2_with fail
      go_ret
      exact ⟨rfl, hM⟩

end Go.Proofs.YtlndgnlkfhlekaaDoor
