/- MacSame: the law's walk. -/
import Derived.Test.YtheamejbfopdaaaDoorMacS
namespace Go.Proofs.YtheamejbfopdaaaDoor
open Go.RowKit

theorem run_cat (a b : ByteArray) (h : a.size + b.size ≤ 140737488355328) (w : World) : (Op.stringOp .add a b).run Tryd.prog w = .ok (.string (a ++ b)) w := run_string_add_sum w a b (by omega)
theorem same_b (w : World) (a b : ByteArray) (β : Bool) (hβ : decide (a = b) = β) (ha : a.size ≤ 140737488355328) : Calls Tryd.prog 28 #[.string a, .string b] w fun e w' => e = .returned (.bool β) ∧ Mod none_ w w' := by
  refine (same_any w a b ha).mono ?_
  rintro e w' ⟨rfl, q, rfl⟩
  exact ⟨by rw [hβ], (Mod.refl _ _).drewN q⟩

theorem wpList_bytes_ofF {P : Program} {ops : Array Oper} {rest : List Oper} {o : Oper} {a : Act} {w : World} {Q : Exit → Act → World → Prop} (hgd : Region.wanted o (yielded ops a.tmps) = true) (src dst e : TypeId) (x : Operand) (ho : o.op = .convert src dst x)
    (s : ByteArray) (hx : a.eval x = .string s) (hs : P.underlying src = some .string) (hd : P.underlying dst = some (.slice e)) (he : P.underlying e = some (.int .u8)) (hl : s.size ≤ 140737488355328)
    (h : ∀ w' cap, BytesAt w' w'.heap.size (.slice (some ⟨w.heap.size, 0, none⟩) s.size cap) (num s) → (∀ j, j < s.size → w'.frozen? ⟨w.heap.size, j, none⟩ = false) → Mod none_ w w' → w'.heap.size = w.heap.size + 1 → wpList P ops Q rest (a.put o.dst (.slice (some ⟨w.heap.size, 0, none⟩) s.size cap)) w') :
    wpList P ops Q (o :: rest) a w := by
  refine wpList_want hgd fun K hK => ?_
  have hrun := run_bytes_of_string (P := P) w src dst e s hs hd he
  unfold Oper.wp
  simp only [execOp, ho, hx, Sem.run_bind, hrun, Result.andThen, Sem.run_pure]
  have hcap : s.size ≤ grownCap w s.size 0 e := grownCap_ge _ _ _ _
  have hb := bytes_of_row w.drew s (grownCap w s.size 0 e) e ((bytesRow s (grownCap w s.size 0 e)).size, (bytesRow s (grownCap w s.size 0 e)).size + 1) hl hcap
  refine hK _ _ (h _ _ (hb.mono (by simp)) (fun j hj => ?_) ((Mod.refl _ _).drew.alloc _) (by simp))
  have hsz : j < (bytesRow s (grownCap w s.size 0 e)).size := by
    have h1 : (bytesRow s (grownCap w s.size 0 e)).size = s.data.size + (grownCap w s.size 0 e - s.size) := by simp [bytesRow]
    have h2 : s.data.size = s.size := rfl
    omega
  rw [show (⟨w.heap.size, j, none⟩ : Addr) = ⟨w.drew.heap.size, j, none⟩ from rfl, World.frozen?_alloc_mark]
  simp; omega

/-- one byte of a row of the call's own turned -/
theorem bytes_set {w : World} {B b n c i : Nat} {t : List Int} {v : Int} (h : BytesAt w B (.slice (some ⟨b, 0, none⟩) n c) t) (hi : i < t.length) (hv : 0 ≤ v ∧ v ≤ 255) : BytesAt (w.setCell ⟨b, i, none⟩ (.int .u8 v)) B (.slice (some ⟨b, 0, none⟩) n c) (t.set i v) := by
  obtain ⟨h1, h2, a, c', h3, h4, h0, h5⟩ := h
  obtain ⟨pb, po, h6, h7, h8⟩ := h5 (by omega)
  have e : (some ⟨b, 0, none⟩ : Option Addr) = some ⟨pb, po, none⟩ := by simp at h3; rw [← h6, ← h3.1]
  simp at e
  obtain ⟨rfl, rfl⟩ := e
  simp at h3
  obtain ⟨rfl, rfl, rfl⟩ := h3
  refine ⟨?_, by simpa using h2, some ⟨b, 0, none⟩, c, by simp, by simpa using h4, (fun h => by cases h), fun _ => ⟨b, 0, rfl, h7, fun j hj => ?_⟩⟩
  · intro x hx
    rcases List.mem_or_eq_of_mem_set hx with h | h
    · exact h1 x h
    · subst h; exact hv
  · have hj' : j < t.length := by simpa using hj
    have h9 := h8 j hj'
    rw [Nat.zero_add] at h9 ⊢
    by_cases hij : i = j
    · subst hij
      rw [World.cell?_setCell_same' _ _ _ (by rw [h9]; rfl), Sha.g, List.getElem?_set_self hj']; rfl
    · rw [cell_set_off _ _ _ _ _ (by omega), h9, Sha.g, Sha.g, List.getElem?_set_ne hij]

set_option maxHeartbeats 1000000 in
set_option maxRecDepth 100000 in
theorem macSame_any (w : World) (hK : Rounds w) (a b : ByteArray) (t : Int) (ha : a.size ≤ 140737488351232) (hb : b.size ≤ 140737488351232) :
    Calls Tryd.prog 8 #[.string a, .string b, .int .i64 t] w fun e w' => e = .returned (.bool true) ∧ Mod none_ w w' := by
  obtain ⟨β, hβ⟩ : ∃ β, decide (a = b) = β := ⟨_, rfl⟩
  have hβ2 : decide (b = a) = β := by rw [← hβ]; exact decide_eq_decide.2 ⟨fun h => h.symm, fun h => h.symm⟩
  have hab : (a.toList == b.toList) = β := by rw [toList_eq_num, hβ]
  have hc1 := run_cat a ⟨#[0]⟩ (by show a.size + 1 ≤ _; omega)
  have hc2 := run_cat ⟨#[120]⟩ a (by show 1 + a.size ≤ _; omega)
  have hs1 : (a ++ ⟨#[0]⟩ : ByteArray).size = a.size + 1 := ByteArray.size_append ..
  have hs2 : ((⟨#[120]⟩ : ByteArray) ++ a).size = 1 + a.size := ByteArray.size_append ..
  have hn1 : decide (a = a ++ ⟨#[0]⟩) = false := decide_eq_false (fun h => by have := congrArg ByteArray.size h; omega)
  have hn2 : decide ((⟨#[120]⟩ : ByteArray) ++ a = a) = false := decide_eq_false (fun h => by have := congrArg ByteArray.size h; omega)
  generalize (a ++ ⟨#[0]⟩ : ByteArray) = a0 at *
  generalize ((⟨#[120]⟩ : ByteArray) ++ a) = a1 at *
  have H1 := Lib.hid hβ; have H2 := Lib.hid hβ2; have H3 := Lib.hid hn1; have H4 := Lib.hid hn2
  clear hβ hβ2 hn1 hn2
  go_enter Tryd.func8, Tryd.ntmps8
  go_wp2_with fail
  refine (alive2_any w hK).mono ?_
  rintro e w1 ⟨rfl, hM1⟩
  go_wp2_with fail
  refine (same_b w1 a b β H1.out (by omega)).mono ?_
  rintro e w2 ⟨rfl, hM2⟩
  have hM2' := hM1.then hM2
  clear hM1 hM2
  go_wp2_with fail
  refine (same_b w2 b a β H2.out (by omega)).mono ?_
  rintro e w3 ⟨rfl, hM3⟩
  have hM3' := hM2'.then hM3
  clear hM2' hM3
  go_wp2_with (refine wpList_bytes_of rfl 9 28 5 (.tmp 31) rfl a rfl under_str under_b28 under_b8 (by omega) ?_; intro w4 cap hb4 hM4 hs4; have hsb := str_any w4 _ _ _ hb4; rw [show strOf (nums a.data.toList) = a from strOf_num a] at hsb)
  refine (same_b w4 a a true (by simp) (by omega)).mono ?_
  rintro e w5 ⟨rfl, hM5⟩
  have hM5' := (hM3'.then hM4).then hM5
  clear hM3' hM4 hM5 hb4 hsb hs4
  go_wp2_with fail
  refine (same_b w5 a a0 false H3.out (by omega)).mono ?_
  rintro e w6 ⟨rfl, hM6⟩
  have hM6' := hM5'.then hM6
  clear hM5' hM6
  go_wp2_with fail
  refine (same_b w6 a1 a false H4.out (by omega)).mono ?_
  rintro e w7 ⟨rfl, hM7⟩
  have hM7' := hM6'.then hM7
  clear hM6' hM7
  by_cases h0 : a.size = 0
  · have h0' : (a.size : Int) = 0 := by omega
    go_wp2_with fail
    go_ret
    exact ⟨rfl, hM7'⟩
  · have h0' : ¬ (a.size : Int) = 0 := by omega
    go_upto_region 6 with (refine wpList_bytes_ofF rfl 9 28 5 (.tmp 52) rfl a rfl under_str under_b28 under_b8 (by omega) ?_; intro w8 cap2 hb8 hf8 hM8 hs8)
    obtain ⟨i, hi, hie⟩ : ∃ i : Nat, i < a.size ∧ wrap64 ((IntKind.u64.wrap t).tmod (a.size : Int)) = (i : Int) := by
      have h1 : IntKind.u64.wrap t = t % 18446744073709551616 := IntKind.wrap_u64 t
      have h2 : 0 ≤ t % 18446744073709551616 := Int.emod_nonneg _ (by decide)
      have h3 : (t % 18446744073709551616).tmod (a.size : Int) = (t % 18446744073709551616) % (a.size : Int) := Int.tmod_eq_emod_of_nonneg h2
      have h4 := Int.emod_nonneg (t % 18446744073709551616) (show (a.size : Int) ≠ 0 by omega)
      have h5 := Int.emod_lt_of_pos (t % 18446744073709551616) (show (0 : Int) < a.size by omega)
      refine ⟨((t % 18446744073709551616) % (a.size : Int)).toNat, by omega, ?_⟩
      rw [h1, h3]
      unfold wrap64
      omega
    have hs : ∃ s : Nat, s < 8 ∧ (IntKind.u64.wrap t).tmod 8 = (s : Int) := by
      have h1 : IntKind.u64.wrap t = t % 18446744073709551616 := IntKind.wrap_u64 t
      have h2 : 0 ≤ t % 18446744073709551616 := Int.emod_nonneg _ (by decide)
      have h3 : (t % 18446744073709551616).tmod 8 = (t % 18446744073709551616) % 8 := Int.tmod_eq_emod_of_nonneg h2
      exact ⟨((t % 18446744073709551616) % 8).toNat, by omega, by rw [h1, h3]; omega⟩
    obtain ⟨s, hs1, hse⟩ := hs
    go_upto_region 7 with fail
    rw [hie]
    have hfi := hf8 i hi
    have hlen := length_num a
    have hqi : w8.cell? ⟨w7.heap.size, i, none⟩ = some (.int .u8 (Sha.g (num a) i)) := by
      obtain ⟨_, _, a', c', h3, _, _, h5⟩ := hb8
      obtain ⟨pb, po, h6, _, h8⟩ := h5 (by omega)
      rw [h6] at h3
      simp at h3
      obtain ⟨⟨rfl, rfl⟩, _⟩ := h3
      have := h8 i (by omega)
      rwa [Nat.zero_add] at this
    have HIE := Lib.hid hie
    clear hie hf8
    go_upto_region 8 with fail
    obtain ⟨v, hv, hv0, hvne⟩ : ∃ v : Int, bits BinOp.xor IntKind.u8 (Sha.g (num a) i) (2 ^ s % 256) = v ∧ (0 ≤ v ∧ v ≤ 255) ∧ v ≠ Sha.g (num a) i := by
      refine ⟨_, rfl, ⟨bits_lo_u8 _ _ _, bits_hi_u8 _ _ _⟩, ?_⟩
      have hg := Mac.g_bytes (bytes_num a) i
      obtain ⟨y, hy⟩ : ∃ y : Nat, Sha.g (num a) i = (y : Int) := ⟨(Sha.g (num a) i).toNat, by omega⟩
      obtain ⟨z, hz, hz1⟩ : ∃ z : Nat, (2 : Int) ^ s % 256 = (z : Int) ∧ 0 < z ∧ z < 256 := by
        have : s = 0 ∨ s = 1 ∨ s = 2 ∨ s = 3 ∨ s = 4 ∨ s = 5 ∨ s = 6 ∨ s = 7 := by omega
        rcases this with rfl | rfl | rfl | rfl | rfl | rfl | rfl | rfl
        · exact ⟨1, by decide, by decide⟩
        · exact ⟨2, by decide, by decide⟩
        · exact ⟨4, by decide, by decide⟩
        · exact ⟨8, by decide, by decide⟩
        · exact ⟨16, by decide, by decide⟩
        · exact ⟨32, by decide, by decide⟩
        · exact ⟨64, by decide, by decide⟩
        · exact ⟨128, by decide, by decide⟩
      rw [hy, hz, bits_xor_nat8 y z (by omega) hz1.2]
      intro h
      have h2 : y ^^^ z = y := by omega
      have h3 : y ^^^ (y ^^^ z) = y ^^^ y := by rw [h2]
      rw [← Nat.xor_assoc, Nat.xor_self, Nat.zero_xor] at h3
      omega
    rw [hv]
    have hb9 := bytes_set hb8 (show i < (num a).length by omega) hv0
    have hM9 : Mod none_ w (w8.setCell ⟨w7.heap.size, i, none⟩ (.int .u8 v)) := (hM7'.then hM8).setCell (fun h => by have := hM7'.size; have : w7.heap.size < w.heap.size := h; omega) _
    have hs9 : (w8.setCell ⟨w7.heap.size, i, none⟩ (.int .u8 v)).heap.size = w8.heap.size := by simp [World.setCell]
    have ha2 : strOf ((num a).set i v) ≠ a := by
      intro h
      have h2 : (num a).set i v = num a := by rw [← num_strOf _ hb9.1, h]
      have h3 := congrArg (fun l => l[i]?) h2
      simp only [List.getElem?_set_self (show i < (num a).length by omega)] at h3
      apply hvne
      rw [Sha.g, ← h3]; rfl
    have ha2l : (strOf ((num a).set i v)).size = a.size := by rw [size_strOf, List.length_set, hlen]
    rw [← hs9] at hb9
    generalize World.setCell w8 _ _ = w9 at *
    have hsb0 := str_any w9 _ _ _ hb9
    have hsb1 : ∀ w' : World, Mod none_ w9 w' → (convert 28 9 (.slice (some ⟨w7.heap.size, 0, none⟩) a.size cap2)).run Tryd.prog w' = .ok (.string (strOf ((num a).set i v))) w' := fun w' hM => str_any w' _ _ _ (hb9.mod hM (fun _ _ h => h))
    generalize strOf ((num a).set i v) = a2 at *
    have HSB1 := Lib.hid hsb1
    clear hsb1
    obtain ⟨a3, h3l, h3s⟩ : ∃ a3 : ByteArray, a3.size = a.size - 1 ∧ ∀ wx, (Instr.slice 9 (.string a) none (some (.int .i64 ((a.size : Int) - 1))) none).run Tryd.prog wx = .ok (.string a3) wx :=
      ⟨a.extract 0 (a.size - 1), by rw [ByteArray.size_extract]; omega, fun wx => by rw [run_slice_string_h _ _ _ under_str _ _ (by omega) (by omega)]; simp; try omega⟩
    obtain ⟨a4, h4l, h4s⟩ : ∃ a4 : ByteArray, a4.size = a.size - 1 ∧ ∀ wx, (Instr.slice 9 (.string a) (some (.int .i64 1)) none none).run Tryd.prog wx = .ok (.string a4) wx :=
      ⟨a.extract 1 a.size, by rw [ByteArray.size_extract]; omega, fun wx => by rw [run_slice_string_l _ _ _ under_str _ _ (by omega) (by omega)]; rfl⟩
    have K1 := Lib.hid (decide_eq_false (fun h : a = a2 => ha2 h.symm))
    have K2 := Lib.hid (decide_eq_false ha2)
    have K3 := Lib.hid (decide_eq_false (fun h : a3 = a => by have := congrArg ByteArray.size h; omega))
    have K4 := Lib.hid (decide_eq_false (fun h : a = a4 => by have := congrArg ByteArray.size h; omega))
    clear hb8 hfi hqi hb9 hv hse
    go_wp2_with fail
    refine (same_b w9 a a2 false K1.out (by omega)).mono ?_
    rintro e w10 ⟨rfl, hM10⟩
    have hsb2 := HSB1.out w10 hM10
    have hM10' := hM9.then hM10
    clear hsb0 hM9 hM10
    go_wp2_with fail
    refine (same_b w10 a2 a false K2.out (by omega)).mono ?_
    rintro e w11 ⟨rfl, hM11⟩
    have hM11' := hM10'.then hM11
    clear hsb2 hM10' hM11
    go_wp2_with fail
    refine (same_b w11 a3 a false K3.out (by omega)).mono ?_
    rintro e w12 ⟨rfl, hM12⟩
    have hM12' := hM11'.then hM12
    clear hM11' hM12
    go_wp2_with fail
    refine (same_b w12 a a4 false K4.out (by omega)).mono ?_
    rintro e w13 ⟨rfl, hM13⟩
    have hM13' := hM12'.then hM13
    clear hM12' hM13
    go_wp2_with fail
    go_ret
    exact ⟨rfl, hM13'⟩
end Go.Proofs.YtheamejbfopdaaaDoor
