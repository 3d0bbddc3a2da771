/- cookie.Jar: Turn. -/
import Derived.Test.YtlndgnlkfhlekaaDoorCkD
namespace Go.Proofs.YtlndgnlkfhlekaaDoor
open Go.RowKit

theorem sliceAt_mid {P : Program} (t e : TypeId) (n : Nat) (ht : P.underlying t = some (.array n e)) (he : (P.info? e).map (·.size) = some 1) (b o : Nat) (w : World) :
    (Instr.sliceAt t (.pointer (some ⟨b, o, none⟩)) none none none).run P w = .ok (.slice (some ⟨b, o, none⟩) n n) w := by
  have ha : P.arrayLen t = n := by simp [Program.arrayLen, ht]
  have hel : P.elem t = e := by simp [Program.elem, ht]
  rw [run_sliceAt_array_all w t ⟨b, o, none⟩ (by rw [ha, hel]; exact ht), hel, ha]
  cases hq : P.info? e with
  | none => simp [hq] at he
  | some i =>
    have hs : i.size = 1 := by simpa [hq] using he
    simp [sizeOf, typeInfo, hq, hs, Result.andThen, slicedAt, Addr.add]
theorem ckbytes_mid {w : World} {b o : Nat} {l : List Int} {n : Nat} (h : w.rangeAt b o (Sha.bcells l)) (hn : l.length = n) (hb : Sha.bytes l) (hl : n ≤ 140737488355328) {B : Nat} (hB : b < B) : BytesAt w B (.slice (some ⟨b, o, none⟩) n n) l := by
  subst hn
  exact ⟨hb, hl, _, _, rfl, Nat.le_refl _, (fun h => by cases h), fun _ => ⟨b, o, rfl, hB, fun j hj => h j _ (bcells_get _ _ hj)⟩⟩

theorem jar_was (e : Int) (n w m : ByteArray) (hn : (Sha.bcells (num n)).length = 32) (hw : (Sha.bcells (num w)).length = 32) :
    (JarC e n w).take 33 ++ Sha.bcells (num m) ++ (JarC e n w).drop (33 + 32) = JarC e n m := by
  simp [JarC, hn, hw, List.drop_append]
theorem jar_now (e : Int) (n w m : ByteArray) (hn : (Sha.bcells (num n)).length = 32) (_hm : (Sha.bcells (num m)).length = 32) :
    (JarC e n w).take 1 ++ Sha.bcells (num m) ++ (JarC e n w).drop (1 + 32) = JarC e m w := by
  simp [JarC, hn]

set_option maxHeartbeats 1000000 in
set_option maxRecDepth 100000 in
theorem ckTurn_any (w : World) (hK : Rounds w) (j : Nat) (_hj : j ≠ 0) (e : Int) (he : e + 1 < 18446744073709551616) (now was c : ByteArray) (h : JarAt w j e now was) (hc : Fits c) :
    Calls Tryd.prog 20 #[.pointer (some ⟨j, 0, none⟩), .string c] w fun r w' => r = .returned (.tuple #[]) ∧ JarAt w' j (e + 1) (Ck.tn now c) now ∧ Mod (only j) w w' := by
  have hsl := fun b o wx => sliceAt_mid (P := Tryd.prog) 37 5 32 under_sec size_u8 b o wx
  have hcv := str_any w _ _ _ (ckbytes_mid h.now (by rw [length_num, h.now32]) (bytes_num now) (by decide) h.blk.lt)
  rw [strOf_num] at hcv
  have hst := one_str w c 9
  have hd := derive_s (w.alloc (.cells #[.string c] 9)) (hK.mod ((Mod.refl none_ w).alloc _) (fun h => h)) now Ck.turnB (some ⟨w.heap.size, 0, none⟩) 1 1 [c] (hst.mono (by simp)) (fits32 h.now32) fits_turn (by
    intro p hp
    obtain rfl : p = c := by simpa using hp
    exact hc) (by simp)
  obtain ⟨C, hC⟩ : ∃ C, Ck.tn now c = C := ⟨_, rfl⟩
  have hC2 := Ck.size_tn now c
  rw [hC] at hC2 ⊢
  rw [show Ck.dv now Ck.turnB [c] = C from hC] at hd
  have hl := bc32 hC2
  have HD := Lib.hid hd; have H := Lib.hid h
  clear hd hst h
  go_enter Tryd.func20, Tryd.ntmps20
  go_wp2_with fail
  refine HD.out.mono ?_
  rintro r w1 ⟨rfl, hM1⟩
  have hM1' := ((Mod.refl none_ w).alloc _).then hM1
  clear hM1 hcv HD
  go_wp2_with fail
  refine (ckof_any w1 C hC2).mono ?_
  rintro r w2 ⟨rfl, hM2⟩
  have hM2' := hM1'.then hM2
  have hM2s := hM2'.size
  clear hM1' hM2
  go_upto_region 1 with (refine wpList_store_new rfl 37 (.tmp 4) (.tmp 13) rfl 37 _ (Sha.bcells (num C)) rfl rfl (by rw [size_sec, hl]) (by rw [hl]; rfl) (Sha.one_b _) ?_; intro w3 hX hM3 hs3)
  have hM3' := hM2'.then hM3
  clear hM3 hM2'
  have hJ := H.out.mod hM3' (fun h => h)
  have hjX : j ≠ w2.heap.size := by have := H.out.blk.lt; have := hM2s; omega
  generalize w2.heap.size = X at *
  have hrn := hJ.now
  have hrX : w3.rangeAt X 0 (Sha.bcells (num C)) := hX.range 0 _ (fun k v hk => by rw [Nat.zero_add]; exact hk)
  have hthj : w3.there j 33 32 := hJ.blk.there (by rw [JarC, List.length_cons, List.length_append, bc32 hJ.now32, bc32 hJ.was32]; omega)
  have hthk : w3.there j 1 32 := hJ.blk.there (by rw [JarC, List.length_cons, List.length_append, bc32 hJ.now32, bc32 hJ.was32]; omega)
  have hl2 := bc32 hJ.now32
  have hone := Sha.one_b (num C)
  have hone2 := Sha.one_b (num now)
  have hsz := size_sec
  have hun := under_sec
  obtain ⟨w4, hw4, hB4, hM4⟩ : ∃ w4, w3.drew.setCells j 33 (Sha.bcells (num now)) = w4 ∧ Blk w4 j (JarC e now now) 41 ∧ Mod (only j) w3 w4 :=
    ⟨_, rfl, (Blk.setCells (Sha.bcells (num now)) 33 w3.drew _ hJ.blk (by rw [JarC, List.length_cons, List.length_append, hl2, bc32 hJ.was32]; omega)).cs (by rw [hl2]; exact jar_was e now was now hl2 (bc32 hJ.was32)), (Mod.refl _ w3).drew.trans (Mod.setCells _ _ _ _) (fun _ _ h => h)⟩
  obtain ⟨w5, hw5, hB5, hM5⟩ : ∃ w5, w4.setCells j 1 (Sha.bcells (num C)) = w5 ∧ Blk w5 j (JarC e C now) 41 ∧ Mod (only j) w3 w5 :=
    ⟨_, rfl, (Blk.setCells (Sha.bcells (num C)) 1 w4 _ hB4 (by rw [JarC, List.length_cons, List.length_append, hl2, hl]; omega)).cs (by rw [hl]; exact jar_now e now now C hl2 hl), hM4.trans (Mod.setCells _ _ _ _) (fun _ _ h => h)⟩
  have hrX2 : w4.rangeAt X 0 (Sha.bcells (num C)) := rangeAt_mod hrX hM4 (fun h => hjX (show X = j from h).symm)
  have hrX3 : w5.rangeAt X 0 (Sha.bcells (num C)) := rangeAt_mod hrX hM5 (fun h => hjX (show X = j from h).symm)
  have hthk4 : w4.there j 1 32 := hB4.there (by rw [JarC, List.length_cons, List.length_append, hl2]; omega)
  refine wp_region_noPanic ?_
  refine wp_region_held_drew (S := fun w' => w'.rangeAt X 0 (Sha.bcells (num C))) (by kernel_rfl) hrX (fun hHeld => ?_)
  clear hHeld
  refine wpAnyH_take (i := 0) (v := ?_) (by simp only [List.getElem?_toArray, List.getElem?_cons_zero]; rfl) (by kernel_rfl) (by kernel_rfl) (by kernel_rfl) (fun _ _ _ h => h) (Or.inl ⟨by rfl, ?_⟩) hrX ?_
  rotate_left
  · (intro wq hSw; go_simp; all_goals with_reducible rfl)
  try simp only [Act.put, List.setIfInBounds_toArray, List.set_cons_zero, List.set_cons_succ]
  refine wpAnyH_take (i := 1) (v := ?_) (by simp only [List.getElem?_toArray, List.getElem?_cons_zero, List.getElem?_cons_succ]; rfl) (by kernel_rfl) (by kernel_rfl) (by kernel_rfl) (fun _ _ _ h => h) (Or.inl ⟨by rfl, ?_⟩) hrX ?_
  rotate_left
  · (intro wq hSw; go_simp; all_goals with_reducible rfl)
  try simp only [Act.put, List.setIfInBounds_toArray, List.set_cons_zero, List.set_cons_succ]
  refine wpAnyH_take (i := 2) (v := ?_) (by simp only [List.getElem?_toArray, List.getElem?_cons_zero, List.getElem?_cons_succ]; rfl) (by kernel_rfl) (by kernel_rfl) (by kernel_rfl) (fun _ _ _ h => h) (Or.inl ⟨by rfl, ?_⟩) hrX ?_
  rotate_left
  · (intro wq hSw; go_simp; all_goals with_reducible rfl)
  try simp only [Act.put, List.setIfInBounds_toArray, List.set_cons_zero, List.set_cons_succ]
  refine wpAnyH_take (i := 3) (v := ?_) (by simp only [List.getElem?_toArray, List.getElem?_cons_zero, List.getElem?_cons_succ]; rfl) (by kernel_rfl) (by kernel_rfl) (by kernel_rfl) (fun _ _ _ h => h) (Or.inl ⟨by rfl, ?_⟩) hrX ?_
  rotate_left
  · (intro wq hSw; go_simp; all_goals with_reducible rfl)
  try simp only [Act.put, List.setIfInBounds_toArray, List.set_cons_zero, List.set_cons_succ]
  refine wpAnyH_take (i := 4) (v := ?_) (by simp only [List.getElem?_toArray, List.getElem?_cons_zero, List.getElem?_cons_succ]; rfl) (by kernel_rfl) (by kernel_rfl) (by kernel_rfl) (fun _ _ _ h => h) (Or.inl ⟨by rfl, ?_⟩) hrX ?_
  rotate_left
  · (intro wq hSw; go_simp; all_goals with_reducible rfl)
  try simp only [Act.put, List.setIfInBounds_toArray, List.set_cons_zero, List.set_cons_succ]
  refine wpAnyH_take (i := 6) (v := _) (by simp only [List.getElem?_toArray, List.getElem?_cons_zero, List.getElem?_cons_succ]; rfl) (by kernel_rfl) (by kernel_rfl) (by kernel_rfl) (fun _ _ _ h => h) (yieldsIf_load_mid (by rfl) 37 (.tmp 4) rfl X 0 rfl (Sha.bcells (num C)) _ (fun _ h => h) under_sec rfl (by rw [size_sec, hl])) hrX ?_
  try simp only [Act.put, List.setIfInBounds_toArray, List.set_cons_zero, List.set_cons_succ]
  refine wpAnyH_ready (rs := [5]) (by kernel_rfl) (by simp) ?_
  refine AllReadyH.cons (by simp only [List.getElem?_toArray, List.getElem?_cons_zero, List.getElem?_cons_succ]; rfl) (fun K hK => ?_) AllReadyH.nil
  rw [if_pos (by rfl)]
  refine wp_load_mid 37 (.tmp 18) rfl j 1 rfl (Sha.bcells (num now)) _ hrn under_sec rfl (by rw [size_sec, hl2]) ?_
  refine hK.out _ _ hrX (fun _ => ?_)
  clear hK K
  try simp only [Act.put, List.setIfInBounds_toArray, List.set_cons_zero, List.set_cons_succ]
  refine wpAnyH_take (i := 7) (v := ?_) (by simp only [List.getElem?_toArray, List.getElem?_cons_zero, List.getElem?_cons_succ]; rfl) (by kernel_rfl) (by kernel_rfl) (by kernel_rfl) (fun _ _ _ h => h) (Or.inl ⟨by rfl, ?_⟩) hrX ?_
  rotate_left
  · (intro wq hSw; go_simp; all_goals with_reducible rfl)
  try simp only [Act.put, List.setIfInBounds_toArray, List.set_cons_zero, List.set_cons_succ]
  refine wpAnyH_take (i := 8) (v := ?_) (by simp only [List.getElem?_toArray, List.getElem?_cons_zero, List.getElem?_cons_succ]; rfl) (by kernel_rfl) (by kernel_rfl) (by kernel_rfl) (fun _ _ _ h => h) (Or.inl ⟨by rfl, ?_⟩) hrX ?_
  rotate_left
  · (intro wq hSw; go_simp; all_goals with_reducible rfl)
  try simp only [Act.put, List.setIfInBounds_toArray, List.set_cons_zero, List.set_cons_succ]
  refine wpAnyH_ready (rs := [9]) (by kernel_rfl) (by simp) ?_
  refine AllReadyH.cons (by simp only [List.getElem?_toArray, List.getElem?_cons_zero, List.getElem?_cons_succ]; rfl) (fun K hK => ?_) AllReadyH.nil
  rw [if_pos (by rfl)]
  refine wp_store_mid 37 (.tmp 22) (.tmp 19) rfl j 33 (Sha.bcells (num now)).toArray rfl rfl (by rw [List.size_toArray, hl2]; exact hthj) (by rw [size_sec, List.size_toArray, hl2]) (all_oneCell_toArray hone2) ?_
  rw [List.toList_toArray, hw4]
  refine hK.out _ _ hrX2 (fun _ => ?_)
  clear hK K
  try simp only [Act.put]
  refine wpAnyH_take (i := 10) (v := ?_) (by simp only [List.getElem?_toArray, List.getElem?_cons_zero, List.getElem?_cons_succ]; rfl) (by kernel_rfl) (by kernel_rfl) (by kernel_rfl) (fun _ _ _ h => h) (Or.inl ⟨by rfl, ?_⟩) hrX2 ?_
  rotate_left
  · (intro wq hSw; go_simp; all_goals with_reducible rfl)
  try simp only [Act.put, List.setIfInBounds_toArray, List.set_cons_zero, List.set_cons_succ]
  refine wpAnyH_take (i := 11) (v := ?_) (by simp only [List.getElem?_toArray, List.getElem?_cons_zero, List.getElem?_cons_succ]; rfl) (by kernel_rfl) (by kernel_rfl) (by kernel_rfl) (fun _ _ _ h => h) (Or.inl ⟨by rfl, ?_⟩) hrX2 ?_
  rotate_left
  · (intro wq hSw; go_simp; all_goals with_reducible rfl)
  try simp only [Act.put, List.setIfInBounds_toArray, List.set_cons_zero, List.set_cons_succ]
  refine wpAnyH_ready (rs := [12]) (by kernel_rfl) (by simp) ?_
  refine AllReadyH.cons (by simp only [List.getElem?_toArray, List.getElem?_cons_zero, List.getElem?_cons_succ]; rfl) (fun K hK => ?_) AllReadyH.nil
  rw [if_pos (by rfl)]
  refine wp_store_mid 37 (.tmp 24) (.tmp 20) rfl j 1 (Sha.bcells (num C)).toArray rfl rfl (by rw [List.size_toArray, hl]; exact hthk4) (by rw [size_sec, List.size_toArray, hl]) (all_oneCell_toArray hone) ?_
  rw [List.toList_toArray, hw5]
  refine hK.out _ _ hrX3 (fun _ => ?_)
  clear hK K
  try simp only [Act.put]
  refine wpAnyH_done (by kernel_rfl) ?_ _
  refine NoPanic.normal ?_
  have q5 : w5.cell? ⟨j, 0, none⟩ = some (.int .u64 e) := hB5.cell rfl
  have f5 : w5.frozen? ⟨j, 0, none⟩ = false := hB5.frozen 0
  have he1 : IntKind.u64.wrap (e + 1) = e + 1 := by rw [IntKind.wrap_u64]; have := H.out.e64; omega
  have hB6 : Blk (w5.setCell ⟨j, 0, none⟩ (.int .u64 (e + 1))) j (JarC (e + 1) C now) 41 := (hB5.set 0 _).cs rfl
  have hM6 : Mod (only j) w (w5.setCell ⟨j, 0, none⟩ (.int .u64 (e + 1))) := ((hM3'.mono (S := only j) (fun _ _ h => h.elim)).trans hM5 (fun _ _ h => h)).setCell (fun _ => only_self j) _
  have hR : JarAt (w5.setCell ⟨j, 0, none⟩ (.int .u64 (e + 1))) j (e + 1) C now := ⟨hB6, hC2, H.out.now32, by have := H.out.e64; omega⟩
  clear hB6 hB5 hM5 hB4 hM4 hrX2 hrX3 hthk4 hthj hthk hrn hrX hX hw4 hw5 hJ
  go_wp2
  go_end0
  exact ⟨rfl, hR, hM6⟩
end Go.Proofs.YtlndgnlkfhlekaaDoor
