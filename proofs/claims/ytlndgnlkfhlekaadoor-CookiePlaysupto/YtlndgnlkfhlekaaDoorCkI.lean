/- joustlaw10's number and few: the walks. -/
import Derived.Test.YtlndgnlkfhlekaaDoorCkH
namespace Go.Proofs.YtlndgnlkfhlekaaDoor
open Go.RowKit

/-- v is a list of bytes of the call's own, perhaps none -/
def OwnY (w : World) (base : Nat) (v : Value) (xs : List Int) : Prop := w.ownsRow base 5 1 v xs.length (Sha.bcells xs)
theorem OwnY.own_ge {w : World} {base : Nat} {v : Value} {xs : List Int} (h : OwnY w base v xs) {b : Nat} (e : v.ownBlock = some b) : base ≤ b := by
  obtain ⟨h1, h2 | ⟨g, cap, cur, h3, h4, h5, h6, h7, h8, h9⟩⟩ := h
  · rw [h2.1] at e; cases e
  · rw [h3] at e
    have : g = b := Option.some.inj e
    omega
theorem OwnY.modO {S : Nat → Prop} {w w' : World} {base : Nat} {v : Value} {xs : List Int} (h : OwnY w base v xs) (hM : Mod S w w') (hS : ∀ g, v.ownBlock = some g → ¬ S g) : OwnY w' base v xs := by
  obtain ⟨h1, h2 | ⟨g, cap, cur, h3, h4, h5, h6, h7, h8, h9⟩⟩ := h
  · exact ⟨h1, Or.inl h2⟩
  · exact ⟨h1, Or.inr ⟨g, cap, cur, h3, h4, (hM.blk (b := g) (cs := cur.toList) (t := 5) h5 (hS g (by rw [h3]; rfl))), h6, h7, h8, h9⟩⟩
theorem OwnY.bytes {w : World} {base : Nat} {v : Value} {xs : List Int} (h : OwnY w base v xs) (hb : Sha.bytes xs) (hl : xs.length ≤ 140737488355328) (hp : 0 < xs.length) : BytesAt w w.heap.size v xs := by
  obtain ⟨h1, h2 | ⟨g, cap, cur, h3, h4, h5, h6, h7, h8, h9⟩⟩ := h
  · have := h2.2; omega
  · rw [Nat.mul_one] at h9
    have e : Sha.bcells xs ++ cur.toList.drop xs.length = cur.toList := (congrArg (· ++ cur.toList.drop xs.length) h9).symm.trans (List.take_append_drop _ _)
    have hB : Blk w g (Sha.bcells xs ++ cur.toList.drop xs.length) 5 := by rw [Blk, h5, e, Array.toArray_toList]
    refine ⟨hb, hl, _, _, h3, h6, (fun h => by cases h), fun _ => ⟨g, 0, rfl, hB.lt, fun j hj => hB.cell ?_⟩⟩
    rw [Nat.zero_add, List.getElem?_append_left (by simpa [Sha.bcells] using hj)]
    exact bcells_get _ _ hj
theorem wpList_append_y {ops : Array Oper} {rest : List Oper} {o : Oper} {a : Act} {w : World} {Q : Exit → Act → World → Prop} (hgd : o.guard = none) (s x : Operand)
    (ho : o.op = .call { callee := .builtin .append, args := #[s, x], argTypes := #[63, 63] }) (base : Nat)
    (v : Value) (xs : List Int) (hs : a.eval s = v) (hown : OwnY w base v xs) (u : Value) (p : List Int) (hx : a.eval x = u) (B : Nat) (hu : BytesAt w B u p) (hp : 0 < p.length)
    (hlen : xs.length + p.length ≤ 140737488355328) (hbase : base ≤ w.heap.size)
    (h : ∀ v' w', OwnY w' base v' (xs ++ p) → w.grownBy w' v.ownBlock → wpList Tryd.prog ops Q rest (a.put o.dst v') w') : wpList Tryd.prog ops Q (o :: rest) a w := by
  obtain ⟨i, hi, hz0, hz1, hz2⟩ := info_parts info_b8
  obtain ⟨hb1, hb2, ad, c, rfl, hb4, hb0, hb5⟩ := hu
  obtain ⟨pb, po, rfl, h7, h8⟩ := hb5 hp
  have hsrc := bytes_src (w := w) (B := B) (t := p) ⟨hb1, hb2, _, _, rfl, hb4, hb0, hb5⟩
  refine wpList_append_own w hgd s x 63 ho base 5 i (.int .u8 0) 1 1 under_b28 hi hz0 hz1 hz2 rfl (by decide) v xs.length (Sha.bcells xs) hs hown ⟨pb, po, none⟩ p.length c (Sha.bcells p) hx (by rw [Sha.bcells, List.length_map, Nat.mul_one]) hsrc (Sha.one_b _) (by unfold maxLen; omega) (by omega) hbase ?_
  intro v' w' ho' hg _
  refine h v' w' ?_ hg
  unfold OwnY
  rw [List.length_append]
  simpa [Sha.bcells] using ho'
theorem ownY_nil (w : World) (base : Nat) : OwnY w base (.slice none 0 0) [] := ⟨rfl, Or.inl ⟨rfl, rfl⟩⟩

set_option maxHeartbeats 2000000 in
set_option maxRecDepth 100000 in
theorem number_any (w : World) (x : Int) : Calls Tryd.prog 18 #[.int .u64 x] w fun r w' => r = .returned (.string (Ck.be x)) ∧ Mod none_ w w' := by
  go_enter Tryd.func18, Tryd.ntmps18
  go_wp2_with fail
  go_loopw [3, 4] (fun tx sh wr => ∃ m : Nat, m ≤ 8 ∧ ((m < 8 ∧ sh = .int .i64 ((56 - 8 * m : Nat) : Int)) ∨ (m = 8 ∧ sh = .int .i64 (-8))) ∧ OwnY wr w.heap.size tx ((Sha.be x).take m) ∧ Mod none_ w wr) (fun _ sh _ => (intOf sh + 8).toNat)
  case atStart => exact ⟨0, by omega, Or.inl ⟨by omega, rfl⟩, by rw [List.take_zero]; exact ownY_nil _ _, Mod.refl _ _⟩
  case round =>
    obtain ⟨m, hm, hsh, hy, hM⟩ := hrel
    rcases hsh with ⟨hm8, rfl⟩ | ⟨rfl, rfl⟩
    · obtain ⟨y, hy56⟩ : ∃ y : Nat, 56 - 8 * m = y := ⟨_, rfl⟩
      rw [hy56]
      have hbg := Mac.be_get x m hm8
      rw [hy56] at hbg
      have hxb : 0 ≤ x / 2 ^ y % 256 ∧ x / 2 ^ y % 256 ≤ 255 := by
        have h1 := Int.emod_nonneg (x / 2 ^ y) (show (256 : Int) ≠ 0 by decide)
        have h2 := Int.emod_lt_of_pos (x / 2 ^ y) (show (0 : Int) < 256 by decide)
        omega
      have hy0 : y ≤ 56 := by omega
      have hlm : ((Sha.be x).take m).length ≤ 8 := by rw [List.length_take]; omega
      have hwq := hM.size
      have HY := Lib.hid hy; have HBG := Lib.hid hbg; have HXB := Lib.hid hxb; have HLM := Lib.hid hlm
      clear hy hbg hxb hlm
      go_upto_region 4 with (refine wpList_append_y rfl _ (.tmp 15) rfl w.heap.size _ ((Sha.be x).take m) rfl (HY.out.modO ((Mod.refl none_ _).alloc _) (fun _ _ h => h)) _ [x / 2 ^ y % 256] rfl (wr.heap.size + 1) (bytes_one1 _ _ _ HXB.out) (by simp) (by have := HLM.out; simp only [List.length_cons, List.length_nil]; omega) (by simp; omega) ?_; intro v5 v5w hv5 hg5)
      have hv5' : OwnY v5w w.heap.size v5 ((Sha.be x).take (m + 1)) := by rw [List.take_add_one, HBG.out]; exact hv5
      have hM5' : Mod none_ w v5w := (hM.alloc _).trans (Mod.grownBy (S := fun b => _ = some b) hg5 (fun j _ e => e)) (fun b hb e => by have := HY.out.own_ge e; omega)
      clear hg5 hv5 HY hM HBG
      go_wp2
      go_roundw
      case rel =>
        refine ⟨m + 1, by omega, ?_, hv5', hM5'⟩
        by_cases h7 : m + 1 < 8
        · left; exact ⟨h7, by congr 1; omega⟩
        · right; exact ⟨by omega, by congr 1; omega⟩
      case measure => simp [intOf]; omega
    · rw [List.take_of_length_le (by rw [Sha.length_be]; exact Nat.le_refl _)] at hy
      have hcv := str_any wr _ _ _ (hy.bytes (Sha.bytes_be _) (by rw [Sha.length_be]; decide) (by rw [Sha.length_be]; decide))
      have hbe : strOf (Sha.be x) = Ck.be x := by unfold Ck.be; rfl
      rw [hbe] at hcv
      clear hy hbe
      go_wp2
      go_ret
      exact ⟨rfl, hM⟩

theorem few_any (w : World) (sa : Option Addr) (n c k : Nat) (h0 : sa = none → n = 0 ∧ c = 0) (hnc : n ≤ c) (hk : k ≤ 9223372036854775807) (hn : n ≤ 140737488355328) (ss : List ByteArray) (B : Nat) (hp : StrsAt w B sa n ss) :
    Calls Tryd.prog 16 #[.slice sa n c, .int .i64 k] w fun r w' => ∃ a' c', r = .returned (.slice a' (min n k) c') ∧ StrsAt w B a' (min n k) (ss.take k) ∧ w' = w := by
  go_enter Tryd.func16, Tryd.ntmps16
  by_cases h : k < n
  · have hi : (k : Int) < (n : Int) := by omega
    obtain ⟨a1, e0, e1, hs1⟩ := slice_to_any (P := Tryd.prog) 44 9 under_s44 size_str sa n c k (by omega)
    have hmn : min n k = k := by omega
    have hat : StrsAt w B a1 k (ss.take k) := by
      refine ⟨by rw [List.length_take, hp.1]; omega, fun hk0 => ?_⟩
      obtain ⟨lb, lo, rfl, hlb, hcc⟩ := hp.2 (by omega)
      obtain rfl : a1 = some ⟨lb, lo, none⟩ := e1 lb lo rfl
      refine ⟨lb, lo, rfl, hlb, fun i s hi => hcc i s ?_⟩
      rw [List.getElem?_take] at hi
      split at hi
      · exact hi
      · cases hi
    have HP := Lib.hid hat
    clear hp e0 e1 hat
    go_wp2
    go_ret
    exact ⟨_, _, by rw [hmn]; rfl, by rw [hmn]; exact HP.out, rfl⟩
  · have hi : ¬ (k : Int) < (n : Int) := by omega
    have hmn : min n k = n := by omega
    have hat : StrsAt w B sa n (ss.take k) := by rw [List.take_of_length_le (by rw [hp.1]; omega)]; exact hp
    have HP := Lib.hid hat
    clear hp hat
    go_wp2
    go_ret
    exact ⟨_, ⟨_, rfl⟩, HP.out, rfl⟩
end Go.Proofs.YtlndgnlkfhlekaaDoor
