/- joustlaw15's alive: the walk. -/
import Derived.Test.YtinjlkceplhibaaDoorCdD
import Derived.Test.YtinjlkceplhibaaDoorBdT
namespace Bd
def smallT : ByteArray := ⟨([35, 35, 35, 35, 35, 35, 10, 35, 83, 46, 69, 46, 35, 10, 35, 46, 35, 35, 46, 35, 10, 35, 65, 46, 83, 83, 35, 10, 35, 35, 35, 35, 35, 35, 10] : List UInt8).toArray⟩
def smallE : List Int := [35, 35, 35, 35, 35, 35, 35, 83, 46, 69, 46, 35, 35, 46, 35, 35, 46, 35, 35, 65, 46, 83, 83, 35, 35, 35, 35, 35, 35, 35]
theorem readSmall : read (runes smallT) = .board 6 5 smallE := by kernel_rfl
theorem small_free (px py : Int) (h1 : first px 98304 6 = 3 ∧ last px 98304 6 = 3) (h2 : first py 98304 5 = 3 ∧ last py 98304 5 = 3) : ¬ Blocked 6 5 smallE px py 98304 := by
  rintro ⟨x, y, hx, hy, hc⟩
  rw [h1.1, h1.2] at hx
  rw [h2.1, h2.2] at hy
  obtain rfl : x = 3 := by omega
  obtain rfl : y = 3 := by omega
  revert hc
  decide
end Bd
namespace Go.Proofs.YtinjlkceplhibaaDoor
open Go.RowKit

def annT : ByteArray := ⟨#[97, 110, 110]⟩
def annC : Cr := ⟨1, annT, 1835008, 1835008, 0, 0, 0, 100, 100, 20, 0, 0, 0, 0⟩
def annD : Cr := ⟨1, annT, 1838848, 1835008, 3840, 0, 0, 100, 100, 20, 0, 0, 0, 0⟩
theorem ann_fresh : (newC 1 annT).fresh 6 Bd.smallE 1 = annC := by
  have : spawnAt 6 Bd.smallE 1 = (1835008, 1835008) := by decide +kernel
  unfold Cr.fresh
  rw [this]
  rfl
theorem ann_drive : annC.drive 6 5 Bd.smallE 0 100 0 false false = annD := by
  unfold Cr.drive
  rw [if_neg (by decide)]
  unfold Cr.driven
  have h1 : (⟨annC, 0, clampI 100 100, clampI 0 8, false, false, 0⟩ : Dr).turned = (⟨⟨1, annT, 1835008, 1835008, 0, 0, 0, 100, 100, 20, 0, 0, 0, 0⟩, 0, 100, 0, false, false, 0⟩ : Dr) := by kernel_rfl
  have h2 : (⟨⟨1, annT, 1835008, 1835008, 0, 0, 0, 100, 100, 20, 0, 0, 0, 0⟩, 0, 100, 0, false, false, 0⟩ : Dr).pressed = (⟨⟨1, annT, 1835008, 1835008, 0, 0, 0, 100, 100, 20, 0, 0, 0, 0⟩, 0, 100, 0, false, false, 4096⟩ : Dr) := by
    unfold Dr.pressed
    rw [if_neg (by simp)]
    kernel_rfl
  have h3 : (⟨⟨1, annT, 1835008, 1835008, 0, 0, 0, 100, 100, 20, 0, 0, 0, 0⟩, 0, 100, 0, false, false, 4096⟩ : Dr).pushed = (⟨⟨1, annT, 1835008, 1835008, 4096, 0, 0, 100, 100, 20, 0, 0, 0, 0⟩, 0, 100, 0, false, false, 4096⟩ : Dr) := by kernel_rfl
  have h4 : (⟨⟨1, annT, 1835008, 1835008, 4096, 0, 0, 100, 100, 20, 0, 0, 0, 0⟩, 0, 100, 0, false, false, 4096⟩ : Dr).rubbed = (⟨⟨1, annT, 1835008, 1835008, 3840, 0, 0, 100, 100, 20, 0, 0, 0, 0⟩, 0, 100, 0, false, false, 4096⟩ : Dr) := by kernel_rfl
  have h5 : (⟨⟨1, annT, 1835008, 1835008, 3840, 0, 0, 100, 100, 20, 0, 0, 0, 0⟩, 0, 100, 0, false, false, 4096⟩ : Dr).alonged 6 5 Bd.smallE = (⟨⟨1, annT, 1838848, 1835008, 3840, 0, 0, 100, 100, 20, 0, 0, 0, 0⟩, 0, 100, 0, false, false, 4096⟩ : Dr) := by
    unfold Dr.alonged
    rw [if_neg (Bd.small_free _ _ (by decide +kernel) (by decide +kernel))]
    kernel_rfl
  have h6 : (⟨⟨1, annT, 1838848, 1835008, 3840, 0, 0, 100, 100, 20, 0, 0, 0, 0⟩, 0, 100, 0, false, false, 4096⟩ : Dr).acrossed 6 5 Bd.smallE = (⟨⟨1, annT, 1838848, 1835008, 3840, 0, 0, 100, 100, 20, 0, 0, 0, 0⟩, 0, 100, 0, false, false, 4096⟩ : Dr) := by
    unfold Dr.acrossed
    rw [if_neg (Bd.small_free _ _ (by decide +kernel) (by decide +kernel))]
    kernel_rfl
  rw [h1, h2, h3, h4, h5, h6]
  rfl
theorem annC_ok : annC.Ok := by constructor <;> first | (unfold Bd.I64; decide) | decide
set_option maxHeartbeats 4000000 in
set_option maxRecDepth 100000 in
theorem alive15_any (w : World) (hG : Sines w) : Calls Tryd.prog 32 #[] w fun e w' => e = .returned (.bool true) ∧ Mod none_ w w' := by
  have hp := parse_any w Bd.smallT (by decide)
  rw [Bd.readSmall] at hp
  unfold Bd.smallT at hp
  have hn := fun (q : World) (b : Nat) (hB : BrdP q b 6 5 Bd.smallE) => new_any q hB 1 annT
  rw [ann_fresh] at hn
  have hd := fun (q : World) (b : Nat) (hB : BrdP q b 6 5 Bd.smallE) (hM : Mod none_ w q) => drive_any q (hG.mod hM) hB annC annC_ok 0 100 0 false false
  rw [ann_drive] at hd
  have HP := Lib.hid hp; have HNW := Lib.hid hn; have HDR := Lib.hid hd
  clear hp hn hd hG
  unfold Cr.agg at HNW HDR
  go_enter Tryd.func32, Tryd.ntmps32
  go_upto_region 5 with (first | (go_at_call 18; refine HP.out.mono ?_; rintro r w1 ⟨⟨b, rfl, hb, hB⟩, hM⟩; have HB1 := Lib.hid hB; have HM1 := Lib.hid hM; clear hB hM hb HP) | (go_at_call 35; refine (HNW.out _ b HB1.out).mono ?_; rintro r w2 ⟨rfl, hM⟩; have HB2 := Lib.hid (HB1.out.none hM); have HM2 := Lib.hid (HM1.out.then hM); clear hM) | (refine wpList_store_new rfl 25 (.tmp 3) (.tmp 16) rfl 25 _ annC.cells rfl rfl size_car rfl (one_car annC) ?_; intro w3 hC3 hM3 hs3))
  obtain ⟨G, hGe⟩ : ∃ G, w2.heap.size = G := ⟨_, rfl⟩
  rw [hGe] at hC3 ⊢
  have HC3 := Lib.hid hC3; have HB3 := Lib.hid (HB2.out.none hM3); have HM3 := Lib.hid (HM2.out.then hM3)
  clear hC3 hM3 hs3 hGe HB2 HM2 HB1 HM1 HNW
  go_upto_region 6 with (first | (refine wpList_load_blk rfl 25 (.tmp 3) rfl G rfl 25 annC.cells _ HC3.out under_car rfl size_car ?_) | (go_at_call 34; refine (HDR.out _ b HB3.out HM3.out).mono ?_; rintro r w4 ⟨rfl, hM⟩; have HC4 := Lib.hid (hM.blk HC3.out (fun h => h)); have HM4 := Lib.hid (HM3.out.then hM); clear hM) | (refine wpList_store_new rfl 25 (.tmp 4) (.tmp 20) rfl 25 _ annD.cells rfl rfl size_car rfl (one_car annD) ?_; intro w5 hD5 hM5 hs5))
  obtain ⟨K, hKe⟩ : ∃ G, w4.heap.size = G := ⟨_, rfl⟩
  rw [hKe] at hD5 ⊢
  have HD5 := Lib.hid hD5; have HC5 := Lib.hid (hM5.blk HC4.out (fun h => h)); have HM5 := Lib.hid (HM4.out.then hM5)
  clear hD5 hM5 hs5 hKe HC3 HB3 HM3 HC4 HM4 HDR
  have c7 := HC5.out.cell (j := 7) (v := .int .i64 100) rfl; have c9 := HC5.out.cell (j := 9) (v := .int .i64 20) rfl; have c2 := HC5.out.cell (j := 2) (v := .int .i64 1835008) rfl; have c3 := HC5.out.cell (j := 3) (v := .int .i64 1835008) rfl
  have d4 := HD5.out.cell (j := 4) (v := .int .i64 3840) rfl; have d5 := HD5.out.cell (j := 5) (v := .int .i64 0) rfl; have d2 := HD5.out.cell (j := 2) (v := .int .i64 1838848) rfl
  have e1 := fun q : World => eqV q 1835008 1835008 1835008 1835008
  have e2 := fun q : World => eqV q 3840 0 3840 0
  simp only [beq_self_eq_true, Bool.and_self] at e1 e2
  go_wp2_with fail
  go_ret
  exact ⟨rfl, HM5.out⟩
end Go.Proofs.YtinjlkceplhibaaDoor
