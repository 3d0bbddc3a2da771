/- The reference of chapter 1: New, Write, Sum. -/
import Derived.Test.YtheamejbfopdaaaDoorListC
namespace Go.Proofs.YtheamejbfopdaaaDoor
open Go.RowKit

/-- a reference's Hash at block r that holds the text t, in blocks from base on -/
def HashR (w : World) (base r : Nat) (t : List Int) : Prop := ∃ v, Blk w r [v] 59 ∧ OwnB w base v t
theorem HashR.mod {S : Nat → Prop} {w w' : World} {base r : Nat} {t : List Int} (h : HashR w base r t) (hM : Mod S w w') (hr : ¬ S r) (hS : ∀ b, base ≤ b → ¬ S b) : HashR w' base r t := by
  obtain ⟨v, h1, h2⟩ := h
  exact ⟨v, hM.blk h1 hr, h2.modW hM hS⟩

theorem ref_new (w : World) (base : Nat) : Calls Tryd.prog 21 #[] w fun e w' => e = .returned (.pointer (some ⟨w.heap.size, 0, none⟩)) ∧ Mod none_ w w' ∧ HashR w' base w.heap.size [] ∧ w'.heap.size = w.heap.size + 1 := by
  go_enter Tryd.func21, Tryd.ntmps21
  go_wp2_with fail
  go_ret
  exact ⟨rfl, (Mod.refl _ _).alloc _, ⟨_, Blk.new _ _ _, ownB_nil _ _⟩, by simp⟩

set_option maxHeartbeats 1000000 in
theorem ref_write (w : World) (base r B : Nat) (t p : List Int) (v : Value) (hH : HashR w base r t) (hrb : r < base) (hv : BytesAt w B v p) (hl : t.length + p.length ≤ 140737488355328) (hbase : base ≤ w.heap.size) :
    Calls Tryd.prog 23 #[.pointer (some ⟨r, 0, none⟩), v] w fun e w' => e = .returned (.tuple #[]) ∧ Mod (fun b => b = r ∨ base ≤ b) w w' ∧ HashR w' base r (t ++ p) := by
  obtain ⟨u, h1, h2⟩ := hH
  have q0 : w.cell? ⟨r, 0, none⟩ = some u := h1.cell rfl
  have H2 := Lib.hid h2; have HV := Lib.hid hv
  clear h2 hv
  go_enter Tryd.func23, Tryd.ntmps23
  go_wp2_with (refine wpList_append_bytes rfl _ (.tmp 9) rfl base u t rfl H2.out v p rfl B HV.out hl hbase ?_; intro x w8 hx8 hg8; have hM8 : Mod (fun b => base ≤ b) w w8 := Mod.grownBy hg8 (fun j _ e => H2.out.own_ge e); have h8 := hM8.blk h1 (by omega); have q8 : w8.cell? ⟨r, 0, none⟩ = some u := h8.cell rfl; have f8 : w8.frozen? ⟨r, 0, none⟩ = false := h8.frozen 0; obtain ⟨xa, xc, rfl, hxc⟩ := hx8.form)
  go_end0
  have hMx : Mod (fun b => b = r ∨ base ≤ b) w w8 := hM8.mono (fun _ _ h => Or.inr h)
  refine ⟨rfl, hMx.setCell (p := ⟨r, 0, none⟩) (fun _ => Or.inl rfl) _, _, (h8.set 0 _).cs rfl, ?_⟩
  have hMr : Mod (fun b => b = r) w8 (w8.setCell ⟨r, 0, none⟩ (.slice xa (t.length + p.length) xc)) := (Mod.refl (fun b => b = r) w8).setCell (p := ⟨r, 0, none⟩) (fun _ => rfl) _
  have hx9 := hx8.modO hMr (fun g hg e => by have := hx8.own_ge hg; omega)
  rw [List.length_append] at hx9
  exact hx9

theorem ref_hsum (w : World) (base r : Nat) (t : List Int) (hH : HashR w base r t) (hT : RefTabs w) (hb : Sha.bytes t) (hl : t.length ≤ 70368744177664) :
    Calls Tryd.prog 24 #[.pointer (some ⟨r, 0, none⟩)] w fun e w' => e = .returned (.agg (Sha.bcells (Sha.sha t)).toArray) ∧ Mod none_ w w' := by
  obtain ⟨u, h1, h2⟩ := hH
  have hbu := h2.bytes hb (by omega)
  obtain ⟨ua, uc, hue, _⟩ := h2.form
  subst hue
  go_enter Tryd.func24, Tryd.ntmps24
  go_upto_region 1 with fail
  obtain ⟨w1, hw1, hR1, hM1, hs1⟩ : ∃ w1, w.alloc (.cells (Sha.bcells (Sha.zeros 32)).toArray 25) = w1 ∧ Blk w1 w.heap.size (Sha.bcells (Sha.zeros 32)) 25 ∧ Mod none_ w w1 ∧ w1.heap.size = w.heap.size + 1 := ⟨_, rfl, Blk.new _ _ _, (Mod.refl _ _).alloc _, by simp⟩
  change Code.wp _ _ _ _ (w.alloc (.cells (Sha.bcells (Sha.zeros 32)).toArray 25))
  rw [hw1]
  have q0 : w1.cell? ⟨r, 0, none⟩ = some _ := (hM1.blk h1 (fun h => h)).cell rfl
  have hbu1 := (hbu.mod hM1 (fun _ _ h => h)).mono hM1.size
  have hT1 := hT.mod hM1 (fun h => h) (fun h => h)
  have hl32 : (Sha.bcells (Sha.sha t)).length = 32 := by rw [Sha.bcells, List.length_map, Sha.length_sha]
  have HBU := Lib.hid hbu1
  clear hw1 hbu h1 h2 hbu1 hs1
  go_wp2_with fail
  refine (ref_of_ht w1 w1 _ [_] [t] t (by simp) 28 rfl (parts1 HBU.out) hT1 1 (by simp) hl (Mod.refl _ _) (Mod.refl _ _)).mono ?_
  rintro e w5 ⟨rfl, hM5, _⟩
  have hR5 := hM5.blk hR1 (fun h => h)
  have hM5' := hM1.then hM5
  clear hR1 hM1 hM5 hT1 HBU q0
  go_wp2_with (refine wpList_store_blk rfl 25 (.tmp 2) (.tmp 8) rfl w.heap.size (Sha.bcells (Sha.sha t)) rfl rfl 25 _ hR5 (by rw [size_b32, hl32]) (by rw [hl32]; rfl) (Sha.one_b _) ?_; intro w9 hB9 hM9 hs9)
  refine bodyPost_ret (results_cell_row rfl _ w9 w.heap.size 25 (Sha.bcells (Sha.sha t)).toArray (0, 0) _ rfl hB9 under_b32 rfl (by rw [size_b32, List.size_toArray, hl32])) rfl ⟨rfl, hM5'.trans hM9 (fun k hk h => absurd hk (by rw [show k = w.heap.size from h]; omega))⟩

theorem few_any (w : World) (sa : Option Addr) (n c : Nat) (hc : n ≤ c) : ∃ sb m d, m = min n 40 ∧ (∀ b o, sa = some ⟨b, o, none⟩ → sb = some ⟨b, o, none⟩) ∧
    Calls Tryd.prog 17 #[.slice sa n c] w fun e w' => e = .returned (.slice sb m d) ∧ w' = w := by
  by_cases h : 40 < n
  · obtain ⟨a1, e0, e1, e2⟩ := slice_to_any (P := Tryd.prog) 30 28 under_l30 size_b28 sa n c 40 (by omega)
    refine ⟨a1, 40, c, by omega, fun b o e => e1 b o e, ?_⟩
    have e3 : ∀ wx, (Instr.slice 30 (.slice sa n c) none (some (.int .i64 40)) none).run Tryd.prog wx = .ok (.slice a1 40 c) wx := e2
    clear e0 e1 e2
    go_enter Tryd.func17, Tryd.ntmps17
    go_wp2
    go_ret
    exact ⟨rfl, rfl⟩
  · refine ⟨sa, n, c, by omega, fun b o e => e, ?_⟩
    go_enter Tryd.func17, Tryd.ntmps17
    go_wp2
    go_ret
    exact ⟨rfl, rfl⟩
end Go.Proofs.YtheamejbfopdaaaDoor
