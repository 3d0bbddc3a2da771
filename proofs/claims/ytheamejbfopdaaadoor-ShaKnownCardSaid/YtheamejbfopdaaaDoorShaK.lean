/- ShaKnown: the walk. -/
import Derived.Test.YtheamejbfopdaaaDoorShaB
namespace Go.Proofs.YtheamejbfopdaaaDoor
open Go.RowKit
namespace Sha
theorem hexs_nil : hexs (sha []) = [101, 51, 98, 48, 99, 52, 52, 50, 57, 56, 102, 99, 49, 99, 49, 52, 57, 97, 102, 98, 102, 52, 99, 56, 57, 57, 54, 102, 98, 57, 50, 52, 50, 55, 97, 101, 52, 49, 101, 52, 54, 52, 57, 98, 57, 51, 52, 99, 97, 52, 57, 53, 57, 57, 49, 98, 55, 56, 53, 50, 98, 56, 53, 53] := by decide +kernel
theorem hexs_two : hexs (sha (nums [97, 98, 99, 100, 98, 99, 100, 101, 99, 100, 101, 102, 100, 101, 102, 103, 101, 102, 103, 104, 102, 103, 104, 105, 103, 104, 105, 106, 104, 105, 106, 107, 105, 106, 107, 108, 106, 107, 108, 109, 107, 108, 109, 110, 108, 109, 110, 111, 109, 110, 111, 112, 110, 111, 112, 113])) = [50, 52, 56, 100, 54, 97, 54, 49, 100, 50, 48, 54, 51, 56, 98, 56, 101, 53, 99, 48, 50, 54, 57, 51, 48, 99, 51, 101, 54, 48, 51, 57, 97, 51, 51, 99, 101, 52, 53, 57, 54, 52, 102, 102, 50, 49, 54, 55, 102, 54, 101, 99, 101, 100, 100, 52, 49, 57, 100, 98, 48, 54, 99, 49] := by decide +kernel
end Sha

set_option maxHeartbeats 1000000 in
set_option maxRecDepth 100000 in
theorem shaKnown_any (w : World) (hK : Rounds w) : Calls Tryd.prog 3 #[] w fun e w' => e = .returned (.bool true) ∧ Mod none_ w w' := by
  have hGl : 2 < w.heap.size := World.block_lt_of_cell? _ _ (hK 0 (by omega))
  have kc := fun (w : World) (C : Array Value) (n c : Nat) => Lib.run_convert_bytes_const (P := Tryd.prog) w 28 5 C n c under_b28 under_b8
  go_enter Tryd.func3, Tryd.ntmps3
  go_wp2_with fail
  refine (new_any w).mono ?_
  rintro e w1 ⟨rfl, hM1, hH1, hs1⟩
  clear hs1
  go_wp2_with fail
  refine (sum_b w1 w.heap.size [] _ hH1 (hK.mod hM1 (fun h => h)) (by omega)).mono ?_
  rintro e w2 ⟨rfl, hM2⟩
  have hM2' := hM1.trans hM2 (fun _ _ h => h)
  clear hM1 hM2 hH1
  go_wp2_with fail
  refine (hex_any w2 _ (Sha.length_sha _) (Sha.bytes_sha _)).mono ?_
  rintro e w3 ⟨rfl, hM3⟩
  have hM3' := hM2'.trans hM3 (fun _ _ h => h)
  rw [Sha.hexs_nil]
  clear hM2' hM3
  go_wp2_with fail
  refine (of_any w3 none 0 0 [] ⟨rfl, fun h => absurd h (by omega)⟩ (hK.mod hM3' (fun h => h)) (by omega)).mono ?_
  rintro e w4 ⟨rfl, hM4⟩
  have hM4' := hM3'.trans hM4 (fun _ _ h => h)
  clear hM3' hM4
  go_wp2_with fail
  refine (hex_any w4 _ (Sha.length_sha _) (Sha.bytes_sha _)).mono ?_
  rintro e w5 ⟨rfl, hM5⟩
  have hM5' := hM4'.trans hM5 (fun _ _ h => h)
  rw [Sha.hexs_nil]
  clear hM4' hM5
  go_wp2_with fail
  have hM6 : Mod none_ w (w5.alloc (.cells #[] 5)) := hM5'.alloc _
  have hs : (w5.alloc (.cells #[] 5)).heap.size = w5.heap.size + 1 := by simp
  generalize w5.alloc (.cells #[] 5) = w6 at hM6 hs ⊢
  rw [← hs]
  refine (of_list w6 [.slice none 0 0, .slice (some ⟨w5.heap.size, 0, none⟩) 0 0] [[], []] _ rfl (by
    intro i v p hv hp
    match i, hv, hp with
    | 0, hv, hp => simp at hv hp; subst hv; subst hp; exact bytes_none _ _ _ _
    | 1, hv, hp => simp at hv hp; subst hv; subst hp; exact bytes_none _ _ _ _
    | k + 2, hv, hp => simp at hv) (hK.mod hM6 (fun h => h)) 2 (show 2 ≤ _ by decide)).mono ?_
  rintro e w7 ⟨rfl, hM7⟩
  have hM7' := hM6.trans hM7 (fun _ _ h => h)
  clear hM6 hM7 hM5' hs
  go_wp2_with fail
  refine (hex_any w7 _ (Sha.length_sha _) (Sha.bytes_sha _)).mono ?_
  rintro e w8 ⟨rfl, hM8⟩
  have hM8' := hM7'.trans hM8 (fun _ _ h => h)
  rw [Sha.hexs_nil]
  clear hM7' hM8
  go_wp2_with fail
  refine (alive_any w8 (hK.mod hM8' (fun h => h))).mono ?_
  rintro e w9 ⟨rfl, hM9⟩
  have hM9' := hM8'.trans hM9 (fun _ _ h => h)
  clear hM8' hM9 kc
  go_wp2_with (refine wpList_bytes_of rfl 9 28 5 (.tmp 30) rfl _ rfl under_str under_b28 under_b8 (by decide) ?_; intro w10 cap hb10 hM10 hs10)
  rw [← hs10]
  have hM10' := hM9'.trans hM10 (fun _ _ h => h)
  refine (of_one w10 _ _ _ hb10 (hK.mod hM10' (fun h => h)) 1).mono ?_
  rintro e w11 ⟨rfl, hM11⟩
  have hM11' := hM10'.trans hM11 (fun _ _ h => h)
  clear hM10' hM11 hM10 hM9' hs10 hb10
  go_wp2_with fail
  refine (hex_any w11 _ (Sha.length_sha _) (Sha.bytes_sha _)).mono ?_
  rintro e w12 ⟨rfl, hM12⟩
  have hM12' := hM11'.trans hM12 (fun _ _ h => h)
  rw [Sha.hexs_two]
  clear hM11' hM12
  go_wp2
  go_ret
  exact ⟨rfl, hM12'⟩
end Go.Proofs.YtheamejbfopdaaaDoor
