/- alive: the walk. -/
import Derived.Test.YtcmbklofbemclaaPkZ
namespace Go.Proofs.Ytcmbklofbemclaa
open Go.RowKit

theorem put1 : Pk.put [] 0 (Pk.fits 258 2) (Pk.digs 258 (2 : Int).toNat) = ([1, 2], 0) := by decide +kernel
theorem put2 : Pk.put [1, 2] 0 (Pk.sfits (-2) 1) (Pk.digs ((-2) % 18446744073709551616) (1 : Int).toNat) = ([1, 2, 254], 0) := by decide +kernel
theorem put3 : Pk.put [1, 2, 254] 0 (decide ((⟨#[97, 98]⟩ : ByteArray).size ≤ 255)) (((⟨#[97, 98]⟩ : ByteArray).size : Int) :: num ⟨#[97, 98]⟩) = ([1, 2, 254, 2, 97, 98], 0) := by decide +kernel
theorem put4 : Pk.put [1, 2, 254, 2, 97, 98] 0 true (num ⟨#[99]⟩) = ([1, 2, 254, 2, 97, 98, 99], 0) := by decide +kernel
theorem str5 : strOf [1, 2, 254, 2, 97, 98, 99] = ⟨#[1, 2, 254, 2, 97, 98, 99]⟩ := by decide +kernel
theorem num5 : num ⟨#[1, 2, 254, 2, 97, 98, 99]⟩ = [1, 2, 254, 2, 97, 98, 99] := by decide +kernel
theorem rd6 : Rd.number [1, 2, 254, 2, 97, 98, 99] 0 2 = (258, ([254, 2, 97, 98, 99], 0)) := by decide +kernel
theorem rd7 : Rd.signed [254, 2, 97, 98, 99] 0 1 = (-2, ([2, 97, 98, 99], 0)) := by decide +kernel
theorem rd8 : Rd.text [2, 97, 98, 99] 0 = ([97, 98], ([99], 0)) := by decide +kernel
theorem str8 : strOf [97, 98] = ⟨#[97, 98]⟩ := by decide +kernel
theorem str9 : strOf [99] = ⟨#[99]⟩ := by decide +kernel

/-- a Writer's step, as a caller takes it: everything else stays -/
theorem WrTo.old {w0 w w' : World} {base G V : Nat} {out : Value} {r : List Int × Int} (h : WrTo w w' base G V out r) (hW : Mod none_ w0 w) (hb : w0.heap.size ≤ base) (hG : base ≤ G) (ho : ∀ b, out.ownBlock = some b → base ≤ b) : Mod none_ w0 w' :=
  hW.trans h.1 (fun b hb' e => by rcases e with e | e; omega; have := ho b e; omega)

set_option maxHeartbeats 2000000 in
theorem alive5_any (w : World) : Calls Try.prog 10 #[] w fun e w' => e = .returned (.bool true) ∧ Mod none_ w w' := by
  go_enter Try.func10, Try.ntmps10
  go_wp2_with fail
  refine (new_writer w w.heap.size (Nat.le_refl _)).mono ?_
  rintro e w1 ⟨rfl, hM1, h1, hs1⟩
  have hw : w.heap.size ≤ w1.heap.size := hM1.size
  go_wp2_with fail
  refine (w_number w1 w.heap.size _ _ _ _ _ 258 2 h1 (by decide) hw).mono ?_
  rintro e w2 ⟨rfl, hT⟩
  have hM2 := hT.old hM1 (Nat.le_refl _) h1.low.1 (fun b hb => h1.own.own_ge hb)
  rw [put1] at hT
  obtain ⟨_, o2, h2, _⟩ := hT
  clear h1 hM1
  go_wp2_with fail
  refine (w_signed w2 w.heap.size _ _ _ _ _ (-2) 1 h2 (by decide) hM2.size).mono ?_
  rintro e w3 ⟨rfl, hT⟩
  have hM3 := hT.old hM2 (Nat.le_refl _) h2.low.1 (fun b hb => h2.own.own_ge hb)
  rw [put2] at hT
  obtain ⟨_, o3, h3, _⟩ := hT
  clear h2 hM2
  go_wp2_with fail
  refine (w_text w3 w.heap.size _ _ _ _ _ _ h3 (by decide) hM3.size).mono ?_
  rintro e w4 ⟨rfl, hT⟩
  have hM4 := hT.old hM3 (Nat.le_refl _) h3.low.1 (fun b hb => h3.own.own_ge hb)
  rw [put3] at hT
  obtain ⟨_, o4, h4, _⟩ := hT
  clear h3 hM3
  go_wp2_with fail
  refine (w_bytes w4 w.heap.size _ _ _ _ _ _ h4 (by decide) hM4.size).mono ?_
  rintro e w5 ⟨rfl, hT⟩
  have hM5 := hT.old hM4 (Nat.le_refl _) h4.low.1 (fun b hb => h4.own.own_ge hb)
  rw [put4] at hT
  obtain ⟨_, o5, h5, _⟩ := hT
  clear h4 hM4
  have hd := w_done w5 w.heap.size _ _ _ _ _ h5 (by decide)
  rw [if_pos rfl, str5] at hd
  go_wp2_with fail
  refine hd.mono ?_
  rintro e w6 ⟨rfl, hM6⟩
  have hM6' := hM5.then hM6
  clear hd h5 hM5 hM6 hs1 hw
  go_wp2_with fail
  refine (new_reader w6 _).mono ?_
  rintro e w7 ⟨rfl, hM7, h7, hs7⟩
  rw [num5] at h7
  have hM7' := hM6'.then hM7
  have hG : w.heap.size ≤ w6.heap.size := hM6'.size
  generalize w6.heap.size = G at *
  clear hM6' hM7 hs7
  have hno : ∀ {a b c : World}, Mod none_ a b → a.heap.size ≤ G → Mod (only G) b c → Mod none_ a c := fun h hg k => h.trans k (fun b hb e => by have : b = G := e; omega)
  have hn8 := rd_number w7 G _ 0 2 h7 258 (by rw [rd6]; rfl)
  rw [rd6] at hn8
  go_wp2_with fail
  refine hn8.mono ?_
  rintro e w8 ⟨rfl, hM8, h8⟩
  have hM8' := hno hM7' hG hM8
  clear hM7' hM8 hn8 h7
  have hn9 := rd_signed w8 G _ 0 1 h8 (-2) (by rw [rd7])
  rw [rd7] at hn9
  go_wp2_with fail
  refine hn9.mono ?_
  rintro e w9 ⟨rfl, hM9, h9⟩
  have hM9' := hno hM8' hG hM9
  clear hM8' hM9 hn9 h8
  have hn10 := rd_text w9 G _ 0 h9 ⟨#[97, 98]⟩ (by rw [rd8]; exact str8)
  rw [rd8] at hn10
  go_wp2_with fail
  refine hn10.mono ?_
  rintro e w10 ⟨rfl, hM10, h10⟩
  have hM10' := hno hM9' hG hM10
  clear hM9' hM10 hn10 h9
  go_wp2_with fail
  refine (rd_left w10 G _ 0 h10).mono ?_
  rintro e wx ⟨rfl, rfl⟩
  go_wp2_with fail
  refine (rd_done wx G _ 0 h10 51 (by simp)).mono ?_
  rintro e wy ⟨rfl, rfl⟩
  go_wp2_with fail
  refine (rd_rest wy G _ 0 h10 ⟨#[99]⟩ str9).mono ?_
  rintro e w11 ⟨rfl, hM11, h11⟩
  have hM11' := hno hM10' hG hM11
  clear hM10' hM11 h10
  go_wp2_with fail
  refine (rd_done w11 G _ 0 h11 0 (by simp)).mono ?_
  rintro e wz ⟨rfl, rfl⟩
  go_wp2_with fail
  go_ret
  exact ⟨rfl, hM11'⟩
end Go.Proofs.Ytcmbklofbemclaa
