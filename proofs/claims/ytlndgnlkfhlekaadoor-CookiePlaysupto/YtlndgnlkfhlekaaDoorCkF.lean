/- cookie.Jar: Check. -/
import Derived.Test.YtlndgnlkfhlekaaDoorCkE
import Derived.Deep.DeepCutAuto
import Derived.Deep.CutBlock
namespace Go.Proofs.YtlndgnlkfhlekaaDoor
open Go.RowKit

namespace Ck
/-- what Check tells -/
def tell (e : Int) (now was a b : ByteArray) (ep : Int) (c : ByteArray) : Int :=
  if ep = 0 then 100 else if ep = e then (if c = ck now a b ep then 0 else 101) else if ep = e - 1 then (if c = ck was a b ep then 0 else 101) else 100
end Ck
theorem sec_eq (c d : ByteArray) (hc : c.size = 32) (hd : d.size = 32) (w : World) :
    (Op.equalIn 10000 37 (.agg (Sha.bcells (num c)).toArray) (.agg (Sha.bcells (num d)).toArray)).run Tryd.prog w = .ok (decide (c = d)) w := by
  have := run_equalIn_ints 9998 37 5 32 .u8 under_sec under_b8 size_u8 (num c) (num d) (by rw [length_num, hc]) (by rw [length_num, hd]) w
  have e : decide (num c = num d) = decide (c = d) := decide_eq_decide.2 ⟨num_inj, fun h => by rw [h]⟩
  rw [← e]; exact this

set_option maxHeartbeats 2000000 in
set_option maxRecDepth 100000 in
theorem ckCheck_any (w : World) (hK : Rounds w) (j : Nat) (e : Int) (now was a b c : ByteArray) (ep : Int) (hep : 0 ≤ ep ∧ ep < 18446744073709551616) (h : JarAt w j e now was) (ha : Fits a) (hb : Fits b) :
    Calls Tryd.prog 19 #[.pointer (some ⟨j, 0, none⟩), .string a, .string b, .int .u64 ep, .string c] w fun r w' => r = .returned (.int .i64 (Ck.tell e now was a b ep c)) ∧ Mod none_ w w' := by
  have he1 := h.e64
  obtain ⟨T, hT⟩ : ∃ T, Ck.tell e now was a b ep c = T := ⟨_, rfl⟩
  rw [hT]
  have HT := Lib.hid hT; have H := Lib.hid h
  clear hT h
  go_enter Tryd.func19, Tryd.ntmps19
  go_upto_block 0 with fail
  obtain ⟨w1, hw1, hX1, hM1⟩ : ∃ w1, w.alloc (.cells (Sha.bcells (Sha.zeros 32)).toArray 37) = w1 ∧ Blk w1 w.heap.size (Sha.bcells (Sha.zeros 32)) 37 ∧ Mod none_ w w1 := ⟨_, rfl, Blk.new _ _ _, (Mod.refl _ _).alloc _⟩
  change Code.wp _ _ _ _ (w.alloc (.cells (Sha.bcells (Sha.zeros 32)).toArray 37))
  rw [hw1]
  clear hw1
  have hJ := H.out.mod hM1 (fun h => h)
  have q := hJ.epoch
  have hrn := hJ.now
  have hrw := hJ.was
  have hn32 := hJ.now32
  have hw32 := hJ.was32
  obtain ⟨X, hXe⟩ : ∃ X, w.heap.size = X := ⟨_, rfl⟩
  rw [hXe] at hX1 ⊢
  go_cut [] (fun wx => ∃ s : ByteArray, ep ≠ 0 ∧ ((ep = e ∧ s = now) ∨ (ep ≠ e ∧ ep = e - 1 ∧ s = was)) ∧ Blk wx X (Sha.bcells (num s)) 37 ∧ Mod none_ w wx)
  case first =>
    by_cases h0 : ep = 0
    · subst h0
      have hT0 : T = 100 := by rw [← HT.out, Ck.tell, if_pos rfl]
      clear HT
      subst hT0
      go_wp2
      go_ret
      exact ⟨rfl, hM1⟩
    · by_cases h1 : ep = e
      · subst h1
        go_wp2_with (first | (refine wpList_load_mid rfl 37 (.tmp 26) rfl j 1 rfl (Sha.bcells (num now)) _ hrn under_sec rfl (by rw [size_sec, bc32 hn32]) ?_) | (refine wpList_store_blk rfl 37 (.tmp 11) (.tmp 27) rfl X (Sha.bcells (num now)) rfl rfl 37 _ hX1 (by rw [size_sec, bc32 hn32]) (by rw [bc32 hn32]; rfl) (Sha.one_b _) ?_; intro w2 hX2 hM2 hs2))
        go_meet
        case rel => exact ⟨now, h0, Or.inl ⟨trivial, rfl⟩, hX2, hM1.trans hM2 (fun b hb e => by have : b = X := e; omega)⟩
      · have hsub : IntKind.u64.wrap (e - 1) = e - 1 := by rw [IntKind.wrap_u64]; omega
        by_cases h2 : ep = e - 1
        · subst h2
          go_wp2_with (first | (refine wpList_load_mid rfl 37 (.tmp 40) rfl j 33 rfl (Sha.bcells (num was)) _ hrw under_sec rfl (by rw [size_sec, bc32 hw32]) ?_) | (refine wpList_store_blk rfl 37 (.tmp 11) (.tmp 41) rfl X (Sha.bcells (num was)) rfl rfl 37 _ hX1 (by rw [size_sec, bc32 hw32]) (by rw [bc32 hw32]; rfl) (Sha.one_b _) ?_; intro w2 hX2 hM2 hs2))
          go_meet
          case rel => exact ⟨was, h0, Or.inr ⟨h1, trivial, rfl⟩, hX2, hM1.trans hM2 (fun b hb e => by have : b = X := e; omega)⟩
        · have hT0 : T = 100 := by rw [← HT.out, Ck.tell, if_neg h0, if_neg h1, if_neg h2]
          clear HT
          subst hT0
          go_wp2
          go_ret
          exact ⟨rfl, hM1⟩
  case rest =>
    obtain ⟨s, h0, hs, hX, hM⟩ := hcut
    have hs32 : s.size = 32 := by rcases hs with ⟨_, rfl⟩ | ⟨_, _, rfl⟩ <;> assumption
    have hTT : T = if c = Ck.ck s a b ep then 0 else 101 := by
      rw [← HT.out, Ck.tell, if_neg h0]
      rcases hs with ⟨rfl, rfl⟩ | ⟨h1, rfl, rfl⟩
      · rw [if_pos rfl]
      · rw [if_neg h1, if_pos rfl]
    clear HT hs
    by_cases hc : c.size = 32
    · have hcs : (c.size : Int) = 32 := by omega
      have hck := Ck.size_ck s a b ep
      have hbk := fun (q : World) (hM : Mod none_ wc q) => bake_any q (hK.mod (‹Mod none_ w wc›.then hM) (fun h => h)) s a b ep hep hs32 ha hb
      have hof := fun q : World => ckof_any q c hc
      obtain ⟨C, hC⟩ : ∃ C, Ck.ck s a b ep = C := ⟨_, rfl⟩
      rw [hC] at hbk hck hTT
      have hq := fun wx : World => sec_eq c C hc hck wx
      have hrX : wc.rangeAt X 0 (Sha.bcells (num s)) := hX.range 0 _ (fun k v hk => by rw [Nat.zero_add]; exact hk)
      have hr0 := hrX
      have hl := bc32 hs32
      have hsz := size_sec
      have hun := under_sec
      have hm0 := Mod.refl none_ wc
      have HBK := Lib.hid hbk; have HOF := Lib.hid hof
      clear hbk hof
      go_upto_region 9 with fail
      go_region_held3 (fun w' => w'.rangeAt X 0 (Sha.bcells (num s)) ∧ Mod none_ wc w') (first | ((refine ⟨rangeAt_none (w := wc) hr0 ?_, ?_⟩ <;> (repeat (first | assumption | exact Mod.refl _ _ | refine Mod.drew ?_))); done))
        (first | (go_at_call 21; refine (HOF.out _).mono ?_; rintro r w8 ⟨rfl, hN8⟩; have hM8 : Mod none_ wc w8 := Mod.then (by repeat (first | assumption | exact Mod.refl _ _ | refine Mod.drew ?_)) hN8) | (go_at_call 26; refine (HBK.out _ (by repeat (first | assumption | exact Mod.refl _ _ | refine Mod.drew ?_))).mono ?_; rintro r w9 ⟨rfl, hN9⟩; have hM9 : Mod none_ wc w9 := Mod.then (by repeat (first | assumption | exact Mod.refl _ _ | refine Mod.drew ?_)) hN9))
      have hMe : Mod none_ w w9 := Mod.then (by assumption) hM9
      by_cases hcC : c = C
      · have hd : (!decide (c = C)) = false := by simp [hcC]
        rw [hd]
        rw [if_pos hcC] at hTT
        subst hTT
        go_wp2_with fail
        go_ret
        exact ⟨rfl, hMe⟩
      · have hd : (!decide (c = C)) = true := by simp [hcC]
        rw [hd]
        rw [if_neg hcC] at hTT
        subst hTT
        go_wp2_with fail
        go_ret
        exact ⟨rfl, hMe⟩
    · have hcs : ¬ (c.size : Int) = 32 := by omega
      have hT0 : T = 101 := by
        rw [hTT, if_neg]
        intro h
        exact hc (by rw [h, Ck.size_ck])
      clear hTT
      subst hT0
      go_upto_region 9 with fail
      refine wp_region_noPanic ?_
      refine wp_region_held_drew (S := fun w' => Mod none_ wc w') (by kernel_rfl) (Mod.refl none_ wc).drew (fun hHeld => ?_)
      clear hHeld
      refine wpAnyH_take (i := 0) (v := ?_) (by simp only [List.getElem?_toArray, List.getElem?_cons_zero]; rfl) (by kernel_rfl) (by kernel_rfl) (by kernel_rfl) (fun _ _ _ h => h) (Or.inl ⟨by rfl, ?_⟩) (Mod.refl none_ wc).drew ?_
      rotate_left
      · (intro wq hSw; go_simp; all_goals with_reducible rfl)
      try simp only [Act.put, List.setIfInBounds_toArray, List.set_cons_zero, List.set_cons_succ]
      refine wpAnyH_take (i := 1) (v := ?_) (by simp only [List.getElem?_toArray, List.getElem?_cons_zero, List.getElem?_cons_succ]; rfl) (by kernel_rfl) (by kernel_rfl) (by kernel_rfl) (fun _ _ _ h => h) (Or.inl ⟨by rfl, ?_⟩) (Mod.refl none_ wc).drew ?_
      rotate_left
      · (intro wq hSw; go_simp; all_goals with_reducible rfl)
      try simp only [Act.put, List.setIfInBounds_toArray, List.set_cons_zero, List.set_cons_succ]
      refine wpAnyH_take (i := 2) (v := .bool true) (by simp only [List.getElem?_toArray, List.getElem?_cons_zero, List.getElem?_cons_succ]; rfl) (by kernel_rfl) (by kernel_rfl) (by kernel_rfl) (fun _ _ _ h => h) (Or.inl ⟨by rfl, ?_⟩) (Mod.refl none_ wc).drew ?_
      · (intro wq hSw; go_simp)
      try simp only [Act.put, List.setIfInBounds_toArray, List.set_cons_zero, List.set_cons_succ]
      refine wpAnyH_take (i := 3) (v := ?_) (by simp only [List.getElem?_toArray, List.getElem?_cons_zero, List.getElem?_cons_succ]; rfl) (by kernel_rfl) (by kernel_rfl) (by kernel_rfl) (fun _ _ _ h => h) (Or.inl ⟨by rfl, ?_⟩) (Mod.refl none_ wc).drew ?_
      rotate_left
      · (intro wq hSw; go_simp; all_goals with_reducible rfl)
      try simp only [Act.put, List.setIfInBounds_toArray, List.set_cons_zero, List.set_cons_succ]
      refine wpAnyH_take (i := 4) (by simp only [List.getElem?_toArray, List.getElem?_cons_zero, List.getElem?_cons_succ]; rfl) (by kernel_rfl) (by kernel_rfl) (by kernel_rfl) (fun _ _ _ h => h) (Or.inr ⟨by rfl, rfl⟩) (Mod.refl none_ wc).drew ?_
      try simp only [Act.put, List.setIfInBounds_toArray, List.set_cons_zero, List.set_cons_succ]
      refine wpAnyH_take (i := 6) (by simp only [List.getElem?_toArray, List.getElem?_cons_zero, List.getElem?_cons_succ]; rfl) (by kernel_rfl) (by kernel_rfl) (by kernel_rfl) (fun _ _ _ h => h) (Or.inr ⟨by rfl, rfl⟩) (Mod.refl none_ wc).drew ?_
      try simp only [Act.put, List.setIfInBounds_toArray, List.set_cons_zero, List.set_cons_succ]
      refine wpAnyH_take (i := 7) (by simp only [List.getElem?_toArray, List.getElem?_cons_zero, List.getElem?_cons_succ]; rfl) (by kernel_rfl) (by kernel_rfl) (by kernel_rfl) (fun _ _ _ h => h) (Or.inr ⟨by rfl, rfl⟩) (Mod.refl none_ wc).drew ?_
      try simp only [Act.put, List.setIfInBounds_toArray, List.set_cons_zero, List.set_cons_succ]
      refine wpAnyH_take (i := 8) (by simp only [List.getElem?_toArray, List.getElem?_cons_zero, List.getElem?_cons_succ]; rfl) (by kernel_rfl) (by kernel_rfl) (by kernel_rfl) (fun _ _ _ h => h) (Or.inr ⟨by rfl, rfl⟩) (Mod.refl none_ wc).drew ?_
      try simp only [Act.put, List.setIfInBounds_toArray, List.set_cons_zero, List.set_cons_succ]
      refine wpAnyH_take (i := 9) (by simp only [List.getElem?_toArray, List.getElem?_cons_zero, List.getElem?_cons_succ]; rfl) (by kernel_rfl) (by kernel_rfl) (by kernel_rfl) (fun _ _ _ h => h) (Or.inr ⟨by rfl, rfl⟩) (Mod.refl none_ wc).drew ?_
      try simp only [Act.put, List.setIfInBounds_toArray, List.set_cons_zero, List.set_cons_succ]
      refine wpAnyH_take (i := 5) (by simp only [List.getElem?_toArray, List.getElem?_cons_zero, List.getElem?_cons_succ]; rfl) (by kernel_rfl) (by kernel_rfl) (by kernel_rfl) (fun _ _ _ h => h) (Or.inr ⟨by rfl, rfl⟩) (Mod.refl none_ wc).drew ?_
      try simp only [Act.put, List.setIfInBounds_toArray, List.set_cons_zero, List.set_cons_succ]
      refine wpAnyH_take (i := 10) (by simp only [List.getElem?_toArray, List.getElem?_cons_zero, List.getElem?_cons_succ]; rfl) (by kernel_rfl) (by kernel_rfl) (by kernel_rfl) (fun _ _ _ h => h) (Or.inr ⟨by rfl, rfl⟩) (Mod.refl none_ wc).drew ?_
      try simp only [Act.put, List.setIfInBounds_toArray, List.set_cons_zero, List.set_cons_succ]
      refine wpAnyH_take (i := 11) (by simp only [List.getElem?_toArray, List.getElem?_cons_zero, List.getElem?_cons_succ]; rfl) (by kernel_rfl) (by kernel_rfl) (by kernel_rfl) (fun _ _ _ h => h) (Or.inr ⟨by rfl, rfl⟩) (Mod.refl none_ wc).drew ?_
      try simp only [Act.put, List.setIfInBounds_toArray, List.set_cons_zero, List.set_cons_succ]
      refine wpAnyH_take (i := 12) (v := ?_) (by simp only [List.getElem?_toArray, List.getElem?_cons_zero, List.getElem?_cons_succ]; rfl) (by kernel_rfl) (by kernel_rfl) (by kernel_rfl) (fun _ _ _ h => h) (Or.inl ⟨by rfl, ?_⟩) (Mod.refl none_ wc).drew ?_
      rotate_left
      · (intro wq hSw; go_simp; all_goals with_reducible rfl)
      try simp only [Act.put, List.setIfInBounds_toArray, List.set_cons_zero, List.set_cons_succ]
      refine wpAnyH_done (by kernel_rfl) ?_ _
      refine NoPanic.normal ?_
      go_wp2
      go_ret
      exact ⟨rfl, (by assumption : Mod none_ w wc).drew⟩
end Go.Proofs.YtlndgnlkfhlekaaDoor
