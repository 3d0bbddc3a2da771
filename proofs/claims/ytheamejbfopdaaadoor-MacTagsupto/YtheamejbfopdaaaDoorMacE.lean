/- said: the walk. -/
import Derived.Test.YtheamejbfopdaaaDoorMacD
namespace Go.Proofs.YtheamejbfopdaaaDoor
open Go.RowKit

theorem str_one (w : World) (x : Int) (hx : 0 ≤ x ∧ x ≤ 255) : (convert 28 9 (.slice (some ⟨w.heap.size, 0, none⟩) 1 1)).run Tryd.prog (w.alloc (.cells #[.int .u8 x] 5)) = .ok (.string (strOf [x])) (w.alloc (.cells #[.int .u8 x] 5)) :=
  str_any _ _ _ _ (bytes_one1 w x 5 hx)
theorem Mac.said_room (use : List Int) (ps : List (List Int)) : ps.length + use.length + 1 ≤ (said use ps).length := by
  have h2 : ∀ l : List (List Int), l.length ≤ (l.map fun p => Sha.be p.length ++ p).flatten.length := by
    intro l
    induction l with
    | nil => simp
    | cons p l ih => simp only [List.map_cons, List.flatten_cons, List.length_append, List.length_cons, Sha.length_be]; omega
  have h3 := h2 ps
  rw [said_eq]
  simp only [List.length_append, List.length_cons, List.length_nil]
  omega
theorem bytes_nums_map (ss : List ByteArray) : ∀ p ∈ ss.map num, Sha.bytes p := fun p hp => by obtain ⟨s, _, rfl⟩ := List.mem_map.1 hp; exact bytes_num s

set_option maxHeartbeats 2000000 in
set_option maxRecDepth 100000 in
theorem said_any (w : World) (use : ByteArray) (sa : Option Addr) (n c : Nat) (ss : List ByteArray) (hp : StrsAt w w.heap.size sa n ss) (hl : (Mac.said (num use) (ss.map num)).length ≤ 140737488355328) :
    Calls Tryd.prog 32 #[.string use, .slice sa n c] w fun e w' => e = .returned (.string (strOf (Mac.said (num use) (ss.map num)))) ∧ Mod none_ w w' := by
  have hrm := Mac.said_room (num use) (ss.map num)
  rw [List.length_map, hp.1, length_num] at hrm
  have hn48 : n ≤ 140737488355328 := by omega
  have hul : use.size + 1 ≤ 140737488355328 := by omega
  have hadd := run_cat use ⟨#[0]⟩ (by show use.size + 1 ≤ _; omega)
  have hst : strOf (Mac.said (num use) []) = use ++ ⟨#[0]⟩ := by
    rw [Mac.said_nil, strOf_append, strOf_num]; rfl
  generalize use ++ ⟨#[0]⟩ = U at *
  have HP := Lib.hid hp; have HL := Lib.hid hl; have HST := Lib.hid hst
  clear hp hl hst hrm
  go_enter Tryd.func32, Tryd.ntmps32
  go_wp2_with fail
  clear hadd
  go_loopw [5, 6] (fun tx i wr => ∃ k : Nat, k ≤ n ∧ i = .int .i64 k ∧ tx = .string (strOf (Mac.said (num use) ((ss.map num).take k))) ∧ Mod none_ w wr) (fun _ i _ => n - (intOf i).toNat)
  case atStart => exact ⟨0, by omega, rfl, by rw [List.take_zero, HST.out], Mod.refl _ _⟩
  case round =>
    obtain ⟨k, hk, rfl, rfl, hM⟩ := hrel
    by_cases hlt : k < n
    · obtain ⟨hsl, hsc⟩ := HP.out
      obtain ⟨lb, lo, rfl, hlb, hcc⟩ := hsc (by omega)
      obtain ⟨s, hs⟩ : ∃ s, ss[k]? = some s := ⟨_, List.getElem?_eq_getElem (by omega)⟩
      have qs : wr.cell? ⟨lb, lo + k, none⟩ = some (.string s) := hM.cellS (hcc k s hs) (fun h => h)
      have qw := Lib.hid (hcc k s hs)
      have htk : (ss.map num)[k]? = some (num s) := by rw [List.getElem?_map, hs]; rfl
      have hsd := Mac.said_take (num use) (ss.map num) k (num s) htk
      have hsl2 := Mac.said_take_le (num use) (ss.map num) (k + 1)
      have hll := HL.out
      rw [hsd, List.length_append, List.length_append, Sha.length_be, length_num] at hsl2
      rw [length_num] at hsd
      have hsz : s.size ≤ 140737488355328 := by omega
      have hws := hM.size
      obtain ⟨A, hA⟩ : ∃ A, Mac.said (num use) ((ss.map num).take k) = A := ⟨_, rfl⟩
      rw [hA] at hsd hsl2 ⊢
      have HSD := Lib.hid hsd; have HAL : Hid (A.length + 8 + s.size ≤ 140737488355328) := Lib.hid (by omega)
      clear hsd hsl2 hll hA htk hcc hsc hsl hs
      go_upto_region 6 with fail
      go_wp2_with fail
      go_loopw [5, 8] (fun tx sh wq => ∃ m : Nat, m ≤ 8 ∧ ((m < 8 ∧ sh = .int .i64 ((56 - 8 * m : Nat) : Int)) ∨ (m = 8 ∧ sh = .int .i64 (-8))) ∧ tx = .string (strOf (A ++ (Sha.be s.size).take m)) ∧ Mod none_ w wq) (fun _ sh _ => (intOf sh + 8).toNat)
      case atStart => exact ⟨0, by omega, Or.inl ⟨by omega, rfl⟩, by rw [List.take_zero, List.append_nil], hM⟩
      case round =>
        clear qs
        obtain ⟨m, hm, hsh, rfl, hMq⟩ := hrel
        have hlm : (A ++ (Sha.be s.size).take m).length = A.length + m := by rw [List.length_append, List.length_take, Sha.length_be]; omega
        have hlS : (strOf (A ++ (Sha.be s.size).take m)).size = A.length + m := by rw [size_strOf]; exact hlm
        have hAL := HAL.out
        clear hlm
        rcases hsh with ⟨hm8, rfl⟩ | ⟨rfl, rfl⟩
        · obtain ⟨y, hy56⟩ : ∃ y : Nat, 56 - 8 * m = y := ⟨_, rfl⟩
          rw [hy56]
          have hbg := Mac.be_get (s.size : Int) m hm8
          rw [hy56] at hbg
          have hxb : 0 ≤ (s.size : Int) / 2 ^ y % 256 ∧ (s.size : Int) / 2 ^ y % 256 ≤ 255 := by
            have h1 := Int.emod_nonneg ((s.size : Int) / 2 ^ y) (show (256 : Int) ≠ 0 by decide)
            have h2 := Int.emod_lt_of_pos ((s.size : Int) / 2 ^ y) (show (0 : Int) < 256 by decide)
            omega
          have hy0 : y ≤ 56 := by omega
          have hnext : strOf (A ++ (Sha.be s.size).take (m + 1)) = strOf (A ++ (Sha.be s.size).take m) ++ strOf [(s.size : Int) / 2 ^ y % 256] := by
            rw [List.take_add_one, hbg, ← List.append_assoc, strOf_append (A ++ (Sha.be s.size).take m)]; rfl
          have hcv := fun wx : World => str_one wx _ hxb
          have h1 : (strOf [(s.size : Int) / 2 ^ y % 256]).size = 1 := by rw [size_strOf]; rfl
          obtain ⟨B, hB⟩ : ∃ B, strOf [(s.size : Int) / 2 ^ y % 256] = B := ⟨_, rfl⟩
          obtain ⟨S, hS⟩ : ∃ S, strOf (A ++ (Sha.be s.size).take m) = S := ⟨_, rfl⟩
          rw [hB] at h1
          rw [hS] at hlS
          rw [hB, hS] at hnext
          rw [hS]
          simp only [hB] at hcv
          have hadd := run_cat S B (by omega)
          have HN := Lib.hid hnext; have HXB := Lib.hid hxb
          clear hbg hxb hnext hlS h1 hAL hB hS
          go_wp2_with fail
          go_roundw
          case rel =>
            refine ⟨m + 1, by omega, ?_, by rw [HN.out], hMq.alloc _⟩
            by_cases h7 : m + 1 < 8
            · left; exact ⟨h7, by congr 1; omega⟩
            · right; exact ⟨by omega, by congr 1; omega⟩
          case measure => simp [intOf]; omega
        · have ht8 : (Sha.be s.size).take 8 = Sha.be s.size := List.take_of_length_le (by rw [Sha.length_be]; exact Nat.le_refl _)
          rw [ht8] at hlS ⊢
          have hnext : strOf (Mac.said (num use) ((ss.map num).take (k + 1))) = strOf (A ++ Sha.be s.size) ++ s := by rw [HSD.out, strOf_append, strOf_num]
          have qs : wr.cell? ⟨lb, lo + k, none⟩ = some (.string s) := hMq.cellS qw.out (fun h => h)
          obtain ⟨S, hS⟩ : ∃ S, strOf (A ++ Sha.be s.size) = S := ⟨_, rfl⟩
          rw [hS] at hlS hnext ⊢
          have hadd := run_cat S s (by omega)
          have HN := Lib.hid hnext
          clear hnext hlS hAL hS ht8
          go_wp2_with fail
          go_roundw
          case rel => exact ⟨k + 1, by omega, by go_num, by rw [HN.out], hMq⟩
          case measure => simp [intOf]; omega
    · have hall : (ss.map num).take k = ss.map num := by rw [List.take_of_length_le]; rw [List.length_map, HP.out.1]; omega
      rw [hall]
      go_wp2
      go_ret
      exact ⟨rfl, hM⟩
end Go.Proofs.YtheamejbfopdaaaDoor
