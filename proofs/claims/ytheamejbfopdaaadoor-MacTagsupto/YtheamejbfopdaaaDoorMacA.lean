/- mac: alive, sum, Same: the walks. -/
import Derived.Test.YtheamejbfopdaaaDoorMacT
namespace Go.Proofs.YtheamejbfopdaaaDoor
open Go.RowKit

theorem tag_jefe : strOf (Mac.tag (num ⟨#[74, 101, 102, 101]⟩) (num ⟨#[119, 104, 97, 116, 32, 100, 111, 32, 121, 97, 32, 119, 97, 110, 116, 32, 102, 111, 114, 32, 110, 111, 116, 104, 105, 110, 103, 63]⟩)) = ⟨#[91, 220, 193, 70, 191, 96, 117, 78, 106, 4, 36, 38, 8, 149, 117, 199, 90, 0, 63, 8, 157, 39, 57, 131, 157, 236, 88, 185, 100, 236, 56, 67]⟩ := by
  rw [Mac.tag_eq, Mac.pad_eq, Mac.pad_eq]
  decide +kernel

set_option maxHeartbeats 1000000 in
theorem alive2_any (w : World) (hK : Rounds w) : Calls Tryd.prog 25 #[] w fun e w' => e = .returned (.bool true) ∧ Mod none_ w w' := by
  have hc := tag_any w hK ⟨#[74, 101, 102, 101]⟩ ⟨#[119, 104, 97, 116, 32, 100, 111, 32, 121, 97, 32, 119, 97, 110, 116, 32, 102, 111, 114, 32, 110, 111, 116, 104, 105, 110, 103, 63]⟩ (by decide) (by decide)
  rw [tag_jefe] at hc
  go_enter Tryd.func25, Tryd.ntmps25
  go_wp2_with fail
  refine hc.mono ?_
  rintro e w1 ⟨rfl, hM⟩
  clear hc
  go_wp2
  go_ret
  exact ⟨rfl, hM⟩

set_option maxHeartbeats 1000000 in
theorem sum2_any (w : World) (hK : Rounds w) (s : ByteArray) (hs : s.size ≤ 140737488355328) :
    Calls Tryd.prog 26 #[.string s] w fun e w' => e = .returned (.string (strOf (Sha.sha (num s)))) ∧ Mod none_ w w' := by
  go_enter Tryd.func26, Tryd.ntmps26
  go_wp2_with (refine wpList_bytes_of rfl 9 28 5 (.tmp 4) rfl s rfl under_str under_b28 under_b8 hs ?_; intro w1 cap hb1 hM1 hs1)
  have hof := of_one w1 _ (num s) 28 hb1 (hK.mod hM1 (fun h => h)) 1
  rw [hs1] at hof
  refine hof.mono ?_
  rintro e w2 ⟨rfl, hM2⟩
  have hM2' := hM1.then hM2
  clear hM1 hM2 hb1 hof
  have hsl := fun b wx => sliceAt_whole (P := Tryd.prog) 25 5 32 under_b32 size_u8 b wx
  go_upto_region 2 with (refine wpList_store_new rfl 25 (.tmp 3) (.tmp 7) rfl 25 _ (Sha.bcells (Sha.sha (num s))) rfl rfl (by rw [size_b32, Sha.bcells, List.length_map, Sha.length_sha]) (by rw [Sha.bcells, List.length_map, Sha.length_sha]; rfl) (Sha.one_b _) ?_; intro w3 hX hM3 hs3)
  have hbY := bytes_arr hX (Sha.length_sha _) (Sha.bytes_sha _) (by decide) hX.lt
  have hsY := str_any w3 _ _ _ hbY
  have hM3' := hM2'.then hM3
  clear hX hM3 hM2' hbY
  go_wp2
  go_ret
  exact ⟨rfl, hM3'⟩
end Go.Proofs.YtheamejbfopdaaaDoor
