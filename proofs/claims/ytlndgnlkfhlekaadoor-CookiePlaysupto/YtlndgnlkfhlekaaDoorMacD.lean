/- mac.Derive: the walk. -/
import Derived.Test.YtlndgnlkfhlekaaDoorMacO
import Derived.Test.YtlndgnlkfhlekaaDoorMacHL

namespace Go.Proofs.YtlndgnlkfhlekaaDoor
open Go.RowKit

namespace Mac
/-- what is said: use, a zero, each part behind its length -/
def said (use : List Int) : List (List Int) → List Int
  | [] => use ++ [0]
  | p :: ps => said' (use ++ [0]) (p :: ps)
where said' (a : List Int) : List (List Int) → List Int
  | [] => a
  | p :: ps => said' (a ++ (Sha.be p.length ++ p)) ps
theorem said_eq (use : List Int) (ps : List (List Int)) : said use ps = use ++ [0] ++ (ps.map fun p => Sha.be p.length ++ p).flatten := by
  have h : ∀ (ps : List (List Int)) (a : List Int), said.said' a ps = a ++ (ps.map fun p => Sha.be p.length ++ p).flatten := by
    intro ps
    induction ps with
    | nil => intro a; simp [said.said']
    | cons p ps ih => intro a; rw [said.said', ih]; simp
  cases ps with
  | nil => simp [said]
  | cons p ps => rw [said, h]
theorem said_take (use : List Int) (ps : List (List Int)) (k : Nat) (p : List Int) (h : ps[k]? = some p) : said use (ps.take (k + 1)) = said use (ps.take k) ++ Sha.be p.length ++ p := by
  rw [said_eq, said_eq, List.take_add_one, h]
  simp
theorem said_nil (use : List Int) : said use [] = use ++ [0] := rfl
theorem be_get (L : Int) (m : Nat) (h : m < 8) : (Sha.be L)[m]? = some (L / 2 ^ (56 - 8 * m) % 256) := by
  have : m = 0 ∨ m = 1 ∨ m = 2 ∨ m = 3 ∨ m = 4 ∨ m = 5 ∨ m = 6 ∨ m = 7 := by omega
  rcases this with rfl | rfl | rfl | rfl | rfl | rfl | rfl | rfl <;> simp [Sha.be]
theorem bytes_said {use : List Int} (hu : Sha.bytes use) {ps : List (List Int)} (hp : ∀ p ∈ ps, Sha.bytes p) : Sha.bytes (said use ps) := by
  rw [said_eq]
  refine Sha.bytes_append (Sha.bytes_append hu (fun x hx => by simp at hx; omega)) (fun x hx => ?_)
  obtain ⟨l, hl, hxl⟩ := List.mem_flatten.1 hx
  obtain ⟨p, hpm, rfl⟩ := List.mem_map.1 hl
  exact Sha.bytes_append (Sha.bytes_be _) (hp p hpm) x hxl
theorem said_take_le (use : List Int) (ps : List (List Int)) (k : Nat) : (said use (ps.take k)).length ≤ (said use ps).length := by
  have := flatten_take_le (ps.map fun p => Sha.be p.length ++ p) k
  rw [said_eq, said_eq, List.map_take]
  simp only [List.length_append]
  omega
end Mac
attribute [irreducible] Mac.said

/-- a list of texts -/
def StrsAt (w : World) (B : Nat) (sa : Option Addr) (n : Nat) (ss : List ByteArray) : Prop :=
  ss.length = n ∧ (0 < n → ∃ lb lo, sa = some ⟨lb, lo, none⟩ ∧ lb < B ∧ ∀ (i : Nat) s, ss[i]? = some s → w.cell? ⟨lb, lo + i, none⟩ = some (.string s))
theorem StrsAt.mod {S : Nat → Prop} {w w' : World} {B : Nat} {sa : Option Addr} {n : Nat} {ss : List ByteArray} (h : StrsAt w B sa n ss) (hM : Mod S w w') (hS : ∀ k, k < B → ¬ S k) : StrsAt w' B sa n ss := by
  refine ⟨h.1, fun h0 => ?_⟩
  obtain ⟨lb, lo, e1, e2, e3⟩ := h.2 h0
  exact ⟨lb, lo, e1, e2, fun i s hi => hM.cellS (e3 i s hi) (hS lb e2)⟩
theorem StrsAt.mono {w : World} {B B' : Nat} {sa : Option Addr} {n : Nat} {ss : List ByteArray} (h : StrsAt w B sa n ss) (hB : B ≤ B') : StrsAt w B' sa n ss := by
  refine ⟨h.1, fun h0 => ?_⟩
  obtain ⟨lb, lo, e1, e2, e3⟩ := h.2 h0
  exact ⟨lb, lo, e1, Nat.lt_of_lt_of_le e2 hB, e3⟩
theorem under_s44 : Tryd.prog.underlying 44 = some (.slice 9) := by kernel_rfl

set_option maxHeartbeats 2000000 in
set_option maxRecDepth 100000 in
theorem derive_any (w : World) (hK : Rounds w) (sec use : ByteArray) (sa : Option Addr) (n c : Nat) (ss : List ByteArray) (hp : StrsAt w w.heap.size sa n ss) (hsec : sec.size ≤ 140737488355328) (hl : (Mac.said (num use) (ss.map num)).length ≤ 140737488355328) :
    Calls Tryd.prog 17 #[.string sec, .string use, .slice sa n c] w fun e w' => e = .returned (.string (strOf (Mac.tag (num sec) (Mac.said (num use) (ss.map num))))) ∧ Mod none_ w w' := by
  have hn48 : n ≤ 140737488355328 := by
    have h1 := hl
    have h2 : ∀ l : List (List Int), l.length ≤ (l.map fun p => Sha.be p.length ++ p).flatten.length := by
      intro l
      induction l with
      | nil => simp
      | cons p l ih => simp only [List.map_cons, List.flatten_cons, List.length_append, List.length_cons, Sha.length_be]; omega
    rw [Mac.said_eq, List.length_append] at h1
    have h3 := h2 (ss.map num)
    rw [List.length_map, hp.1] at h3
    omega
  have hul : use.size + 1 ≤ 140737488355328 := by
    have h1 := hl
    rw [Mac.said_eq, List.length_append, List.length_append, length_num] at h1
    simp only [List.length_cons, List.length_nil] at h1
    omega
  have hb := Mac.bytes_said (bytes_num use) (ps := ss.map num) (fun p hp => by obtain ⟨s, _, rfl⟩ := List.mem_map.1 hp; exact bytes_num s)
  have HP := Lib.hid hp; have HL := Lib.hid hl; have HBY := Lib.hid hb
  clear hp hl hb
  go_enter Tryd.func17, Tryd.ntmps17
  go_upto_region 1 with fail
  go_upto_region 2 with (first | (refine wpList_bytes_ofC rfl (.tmp 12) rfl use rfl w.heap.size (Nat.le_refl _) ?_; intro v1 w1 hv1 hM1) | (refine wpList_append_C rfl _ (.tmp 14) rfl w.heap.size v1 (num use) rfl (hv1.modO ((Mod.refl none_ _).alloc _) (fun _ _ h => h)) _ [0] rfl (w1.heap.size + 1) (bytes_one1 _ _ _ (by decide)) (by decide) (by rw [length_num]; exact hul) (by have := hM1.size; simp; omega) ?_; intro v2 w2 hv2 hM2))
  have hM2' : Mod none_ w w2 := (hM1.alloc _).trans hM2 (fun b hb e => by have := hv1.own_ge e; omega)
  rw [← Mac.said_nil] at hv2
  clear hM1 hM2 hv1
  go_wp2_with fail
  go_loopw [7, 18] (fun tx i wr => ∃ k : Nat, k ≤ n ∧ i = .int .i64 k ∧ OwnC wr w.heap.size tx (Mac.said (num use) ((ss.map num).take k)) ∧ Mod none_ w wr) (fun _ i _ => n - (intOf i).toNat)
  case atStart => exact ⟨0, by omega, rfl, by rw [List.take_zero]; exact hv2, hM2'⟩
  case round =>
    clear hv2 hM2'
    obtain ⟨k, hk, rfl, hx, hM⟩ := hrel
    by_cases hlt : k < n
    · obtain ⟨hsl, hsc⟩ := HP.out
      obtain ⟨lb, lo, rfl, hlb, hcc⟩ := hsc (by omega)
      obtain ⟨s, hs⟩ : ∃ s, ss[k]? = some s := ⟨_, List.getElem?_eq_getElem (by omega)⟩
      have qs : wr.cell? ⟨lb, lo + k, none⟩ = some (.string s) := hM.cellS (hcc k s hs) (fun h => h)
      have htk : (ss.map num)[k]? = some (num s) := by rw [List.getElem?_map, hs]; rfl
      have hsd := Mac.said_take (num use) (ss.map num) k (num s) htk
      have hsl2 := Mac.said_take_le (num use) (ss.map num) (k + 1)
      have hll := HL.out
      rw [hsd, List.length_append, List.length_append, Sha.length_be, length_num] at hsl2
      rw [length_num] at hsd
      have hsz : s.size ≤ 140737488355328 := by omega
      have hws := hM.size
      obtain ⟨A, hA⟩ : ∃ A, Mac.said (num use) ((ss.map num).take k) = A := ⟨_, rfl⟩
      rw [hA] at hx hsd hsl2
      have HX := Lib.hid hx; have HSD := Lib.hid hsd; have HAL : Hid (A.length + 8 + s.size ≤ 140737488355328) := Lib.hid (by omega)
      clear hx hsd hsl2 hll hA htk hcc hsc hsl hs
      go_upto_region 6 with fail
      go_wp2_with fail
      go_loopw [7, 11] (fun tx sh wq => ∃ m : Nat, m ≤ 8 ∧ ((m < 8 ∧ sh = .int .i64 ((56 - 8 * m : Nat) : Int)) ∨ (m = 8 ∧ sh = .int .i64 (-8))) ∧ OwnC wq w.heap.size tx (A ++ (Sha.be s.size).take m) ∧ Mod none_ w wq) (fun _ sh _ => (intOf sh + 8).toNat)
      case atStart => exact ⟨0, by omega, Or.inl ⟨by omega, rfl⟩, by rw [List.take_zero, List.append_nil]; exact HX.out, hM⟩
      case round =>
        obtain ⟨m, hm, hsh, hy, hMq⟩ := hrel
        rcases hsh with ⟨hm8, rfl⟩ | ⟨rfl, rfl⟩
        · obtain ⟨y, hy56⟩ : ∃ y : Nat, 56 - 8 * m = y := ⟨_, rfl⟩
          rw [hy56]
          have hbg := Mac.be_get (s.size : Int) m hm8
          rw [hy56] at hbg
          have hxb : 0 ≤ (s.size : Int) / 2 ^ y % 256 ∧ (s.size : Int) / 2 ^ y % 256 ≤ 255 := by
            have h1 := Int.emod_nonneg ((s.size : Int) / 2 ^ y) (show (256 : Int) ≠ 0 by decide)
            have h2 := Int.emod_lt_of_pos ((s.size : Int) / 2 ^ y) (show (0 : Int) < 256 by decide)
            omega
          have hy0 : y ≤ 56 := by omega
          have hlm : (A ++ (Sha.be s.size).take m).length ≤ A.length + 8 := by rw [List.length_append, List.length_take]; omega
          have hwq := hMq.size
          have HY := Lib.hid hy; have HBG := Lib.hid hbg; have HXB := Lib.hid hxb; have HLM := Lib.hid hlm
          clear hy hbg hxb hlm HX
          obtain ⟨wo, rfl⟩ : ∃ wo : World, wo = wr := ⟨_, rfl⟩
          go_upto_region 8 with (refine wpList_append_C rfl _ (.tmp 34) rfl w.heap.size _ (A ++ (Sha.be s.size).take m) rfl (HY.out.modO ((Mod.refl none_ _).alloc _) (fun _ _ h => h)) _ [(s.size : Int) / 2 ^ y % 256] rfl (wo.heap.size + 1) (bytes_one1 _ _ _ HXB.out) (by simp) (by have := HLM.out; have := HAL.out; simp; omega) (by simp; omega) ?_; intro v5 v5w hv5 hM5)
          have hv5' : OwnC v5w w.heap.size v5 (A ++ (Sha.be s.size).take (m + 1)) := by rw [List.take_add_one, HBG.out, ← List.append_assoc]; exact hv5
          have hM5' : Mod none_ w v5w := (hMq.alloc _).trans hM5 (fun b hb e => by have := HY.out.own_ge e; omega)
          clear hM5 hv5 HY hMq HBG
          go_wp2
          go_roundw
          case rel =>
            refine ⟨m + 1, by omega, ?_, hv5', hM5'⟩
            by_cases h7 : m + 1 < 8
            · left; exact ⟨h7, by congr 1; omega⟩
            · right; exact ⟨by omega, by congr 1; omega⟩
          case measure => simp [intOf]; omega
        · rw [List.take_of_length_le (by rw [Sha.length_be]; exact Nat.le_refl _)] at hy
          have hlm : (A ++ Sha.be s.size).length = A.length + 8 := by rw [List.length_append, Sha.length_be]
          have hwq := hMq.size
          have HY := Lib.hid hy; have HLM := Lib.hid hlm
          clear hy hlm HX
          obtain ⟨wo, rfl⟩ : ∃ wo : World, wo = wr := ⟨_, rfl⟩
          go_upto_region 11 with (refine wpList_append_CS rfl _ (.tmp 37) rfl w.heap.size _ (A ++ Sha.be s.size) rfl HY.out s rfl (by have := HLM.out; have := HAL.out; omega) hwq ?_; intro v5 v5w hv5 hM5)
          have hv5' : OwnC v5w w.heap.size v5 (Mac.said (num use) ((ss.map num).take (k + 1))) := by rw [HSD.out]; exact hv5
          have hM5' : Mod none_ w v5w := hMq.trans hM5 (fun b hb e => by have := HY.out.own_ge e; omega)
          clear hM5 hv5 HY hMq HSD
          go_wp2
          go_roundw
          case rel => exact ⟨k + 1, by omega, by go_num, hv5', hM5'⟩
          case measure => simp [intOf]; omega
    · have hall : (ss.map num).take k = ss.map num := by rw [List.take_of_length_le]; rw [List.length_map, HP.out.1]; omega
      rw [hall] at hx
      have hbx := hx.bytes HBY.out HL.out
      have hcv := str_any wr _ _ _ hbx
      have hlS := HL.out
      have hnS : num (strOf (Mac.said (num use) (ss.map num))) = Mac.said (num use) (ss.map num) := num_strOf _ HBY.out
      have hsS : (strOf (Mac.said (num use) (ss.map num))).size ≤ 140737488355328 := by rw [size_strOf]; exact hlS
      generalize strOf (Mac.said (num use) (ss.map num)) = T at *
      have HNS := Lib.hid hnS
      clear hx hbx hall hnS hlS
      go_wp2_with fail
      refine (tag_b wr (hK.mod hM (fun h => h)) sec T (strOf (Mac.tag (num sec) (Mac.said (num use) (ss.map num)))) (by rw [HNS.out]) hsec hsS).mono ?_
      rintro e w7 ⟨rfl, hM7⟩
      have hM7' := hM.then hM7
      clear hM hM7 hcv
      go_wp2
      go_ret
      exact ⟨rfl, hM7'⟩
end Go.Proofs.YtlndgnlkfhlekaaDoor
