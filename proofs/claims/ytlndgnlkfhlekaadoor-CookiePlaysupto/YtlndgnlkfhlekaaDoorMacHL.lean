/- mac: alive, sum, Same: the walks. -/
import Derived.Test.YtlndgnlkfhlekaaDoorMacT
import Derived.Laws.Bits64
import Derived.Deep.AppendLies
namespace Go.Proofs.YtlndgnlkfhlekaaDoor
open Go.RowKit

theorem tag_jefe : strOf (Mac.tag (num ⟨#[74, 101, 102, 101]⟩) (num ⟨#[119, 104, 97, 116, 32, 100, 111, 32, 121, 97, 32, 119, 97, 110, 116, 32, 102, 111, 114, 32, 110, 111, 116, 104, 105, 110, 103, 63]⟩)) = ⟨#[91, 220, 193, 70, 191, 96, 117, 78, 106, 4, 36, 38, 8, 149, 117, 199, 90, 0, 63, 8, 157, 39, 57, 131, 157, 236, 88, 185, 100, 236, 56, 67]⟩ := by
  rw [Mac.tag_eq, Mac.pad_eq, Mac.pad_eq]
  decide +kernel

end Go.Proofs.YtlndgnlkfhlekaaDoor
namespace Go.Proofs.YtlndgnlkfhlekaaDoor
open Go.RowKit

theorem wrap_u8 (n : Int) : IntKind.u8.wrap n = n % 256 := by simp [IntKind.wrap, IntKind.bits, IntKind.signed]
theorem bits_xor_nat8 (a b : Nat) (ha : a < 256) (hb : b < 256) : bits .xor .u8 (a : Int) (b : Int) = ((a ^^^ b : Nat) : Int) := by
  have hx : a ^^^ b < 2 ^ 8 := Nat.xor_lt_two_pow (by omega) (by omega)
  have h1 : (BitVec.ofInt 8 (a : Int)).toNat = a := by rw [BitVec.ofInt_natCast, BitVec.toNat_ofNat]; exact Nat.mod_eq_of_lt (by omega)
  have h2 : (BitVec.ofInt 8 (b : Int)).toNat = b := by rw [BitVec.ofInt_natCast, BitVec.toNat_ofNat]; exact Nat.mod_eq_of_lt (by omega)
  show IntKind.u8.wrap ((BitVec.ofInt 8 (a : Int) ^^^ BitVec.ofInt 8 (b : Int)).toNat : Int) = _
  rw [BitVec.toNat_xor, h1, h2, wrap_u8]
  omega
theorem bits_or_nat8 (a b : Nat) (ha : a < 256) (hb : b < 256) : bits .or .u8 (a : Int) (b : Int) = ((a ||| b : Nat) : Int) := by
  have hx : a ||| b < 2 ^ 8 := Nat.or_lt_two_pow (by omega) (by omega)
  have h1 : (BitVec.ofInt 8 (a : Int)).toNat = a := by rw [BitVec.ofInt_natCast, BitVec.toNat_ofNat]; exact Nat.mod_eq_of_lt (by omega)
  have h2 : (BitVec.ofInt 8 (b : Int)).toNat = b := by rw [BitVec.ofInt_natCast, BitVec.toNat_ofNat]; exact Nat.mod_eq_of_lt (by omega)
  show IntKind.u8.wrap ((BitVec.ofInt 8 (a : Int) ||| BitVec.ofInt 8 (b : Int)).toNat : Int) = _
  rw [BitVec.toNat_or, h1, h2, wrap_u8]
  omega
theorem xor_zero (a b : Nat) : a ^^^ b = 0 ↔ a = b := by
  constructor
  · intro h
    have h2 : a ^^^ b ^^^ b = 0 ^^^ b := by rw [h]
    rwa [Nat.xor_assoc, Nat.xor_self, Nat.xor_zero, Nat.zero_xor] at h2
  · rintro rfl; exact Nat.xor_self a
theorem or_zero' (a b : Nat) : a ||| b = 0 ↔ a = 0 ∧ b = 0 := by
  constructor
  · intro h
    have h1 : a ≤ a ||| b := Nat.left_le_or
    have h2 : b ≤ a ||| b := Nat.right_le_or
    omega
  · rintro ⟨rfl, rfl⟩; rfl
/-- the difference stays zero just if the two bytes are alike -/
theorem dif_zero (d a b : Nat) (hd : d < 256) (ha : a < 256) (hb : b < 256) : ∃ e : Nat, e < 256 ∧ bits .or .u8 (d : Int) (bits .xor .u8 (a : Int) (b : Int)) = (e : Int) ∧ (e = 0 ↔ d = 0 ∧ a = b) := by
  have hx : a ^^^ b < 2 ^ 8 := Nat.xor_lt_two_pow (by omega) (by omega)
  refine ⟨d ||| (a ^^^ b), Nat.or_lt_two_pow (n := 8) (by omega) hx, ?_, ?_⟩
  · rw [bits_xor_nat8 a b ha hb, bits_or_nat8 _ _ hd (by omega)]
  · rw [or_zero', xor_zero]
theorem toList_eq_num (a b : ByteArray) : (a.toList == b.toList) = decide (a = b) := by
  rw [ByteArray.toList_eq, ByteArray.toList_eq]
  by_cases h : a = b
  · subst h; simp
  · have : ¬ a.data = b.data := fun e => h (ByteArray.ext e)
    simp [h, this]

end Go.Proofs.YtlndgnlkfhlekaaDoor
namespace Go.Proofs.YtlndgnlkfhlekaaDoor
open Go.RowKit

theorem run_cat (a b : ByteArray) (h : a.size + b.size ≤ 140737488355328) (w : World) : (Op.stringOp .add a b).run Tryd.prog w = .ok (.string (a ++ b)) w := run_string_add_sum w a b (by omega)
theorem wpList_bytes_ofF {P : Program} {ops : Array Oper} {rest : List Oper} {o : Oper} {a : Act} {w : World} {Q : Exit → Act → World → Prop} (hgd : Region.wanted o (yielded ops a.tmps) = true) (src dst e : TypeId) (x : Operand) (ho : o.op = .convert src dst x)
    (s : ByteArray) (hx : a.eval x = .string s) (hs : P.underlying src = some .string) (hd : P.underlying dst = some (.slice e)) (he : P.underlying e = some (.int .u8)) (hl : s.size ≤ 140737488355328)
    (h : ∀ w' cap, BytesAt w' w'.heap.size (.slice (some ⟨w.heap.size, 0, none⟩) s.size cap) (num s) → (∀ j, j < s.size → w'.frozen? ⟨w.heap.size, j, none⟩ = false) → Mod none_ w w' → w'.heap.size = w.heap.size + 1 → wpList P ops Q rest (a.put o.dst (.slice (some ⟨w.heap.size, 0, none⟩) s.size cap)) w') :
    wpList P ops Q (o :: rest) a w := by
  refine wpList_want hgd fun K hK => ?_
  have hrun := run_bytes_of_string (P := P) w src dst e s hs hd he
  unfold Oper.wp
  simp only [execOp, ho, hx, Sem.run_bind, hrun, Result.andThen, Sem.run_pure]
  have hcap : s.size ≤ grownCap w s.size 0 e := grownCap_ge _ _ _ _
  have hb := bytes_of_row w.drew s (grownCap w s.size 0 e) e ((bytesRow s (grownCap w s.size 0 e)).size, (bytesRow s (grownCap w s.size 0 e)).size + 1) hl hcap
  refine hK _ _ (h _ _ (hb.mono (by simp)) (fun j hj => ?_) ((Mod.refl _ _).drew.alloc _) (by simp))
  have hsz : j < (bytesRow s (grownCap w s.size 0 e)).size := by
    have h1 : (bytesRow s (grownCap w s.size 0 e)).size = s.data.size + (grownCap w s.size 0 e - s.size) := by simp [bytesRow]
    have h2 : s.data.size = s.size := rfl
    omega
  rw [show (⟨w.heap.size, j, none⟩ : Addr) = ⟨w.drew.heap.size, j, none⟩ from rfl, World.frozen?_alloc_mark]
  simp; omega

/-- one byte of a row of the call's own turned -/
theorem bytes_set {w : World} {B b n c i : Nat} {t : List Int} {v : Int} (h : BytesAt w B (.slice (some ⟨b, 0, none⟩) n c) t) (hi : i < t.length) (hv : 0 ≤ v ∧ v ≤ 255) : BytesAt (w.setCell ⟨b, i, none⟩ (.int .u8 v)) B (.slice (some ⟨b, 0, none⟩) n c) (t.set i v) := by
  obtain ⟨h1, h2, a, c', h3, h4, h0, h5⟩ := h
  obtain ⟨pb, po, h6, h7, h8⟩ := h5 (by omega)
  have e : (some ⟨b, 0, none⟩ : Option Addr) = some ⟨pb, po, none⟩ := by simp at h3; rw [← h6, ← h3.1]
  simp at e
  obtain ⟨rfl, rfl⟩ := e
  simp at h3
  obtain ⟨rfl, rfl, rfl⟩ := h3
  refine ⟨?_, by simpa using h2, some ⟨b, 0, none⟩, c, by simp, by simpa using h4, (fun h => by cases h), fun _ => ⟨b, 0, rfl, h7, fun j hj => ?_⟩⟩
  · intro x hx
    rcases List.mem_or_eq_of_mem_set hx with h | h
    · exact h1 x h
    · subst h; exact hv
  · have hj' : j < t.length := by simpa using hj
    have h9 := h8 j hj'
    rw [Nat.zero_add] at h9 ⊢
    by_cases hij : i = j
    · subst hij
      rw [World.cell?_setCell_same' _ _ _ (by rw [h9]; rfl), Sha.g, List.getElem?_set_self hj']; rfl
    · rw [cell_set_off _ _ _ _ _ (by omega), h9, Sha.g, Sha.g, List.getElem?_set_ne hij]

end Go.Proofs.YtlndgnlkfhlekaaDoor
namespace Go.Proofs.YtlndgnlkfhlekaaDoor
open Go.RowKit

namespace Mac
theorem key_key (k : List Int) : key (key k) = key k := by
  have h := length_key k
  conv => lhs; rw [key, if_neg (by omega)]
theorem tag_key (k t : List Int) : tag (key k) t = tag k t := by rw [tag_eq, tag_eq, key_key]
theorem g_zeros (k : List Int) (n j : Nat) : Sha.g (k ++ Sha.zeros n) j = Sha.g k j := by
  simp only [Sha.g]
  by_cases h : j < k.length
  · rw [List.getElem?_append_left h]
  · rw [List.getElem?_append_right (by omega), List.getElem?_eq_none (l := k) (by omega)]
    simp only [Sha.zeros, List.getElem?_replicate]
    split <;> rfl
theorem tag_zeros (k t : List Int) (n : Nat) (h : k.length + n ≤ 64) : tag (k ++ Sha.zeros n) t = tag k t := by
  have h1 : key k = k := by rw [key, if_neg (by omega)]
  have h2 : key (k ++ Sha.zeros n) = k ++ Sha.zeros n := by rw [key, if_neg (by simp [Sha.zeros]; omega)]
  rw [tag_eq, tag_eq, h1, h2]
  simp only [pad_eq, row, g_zeros]
theorem row_all_get (k : List Int) (x : Int) (j : Nat) (h : j < 64) : (row k x 64)[j]? = some (x8 (Sha.g k j) x) := by rw [row_get k x 64 j h, if_pos h]
end Mac
/-- bytes appended, at least one: which block the new slice owns -/
theorem wpList_append_bytesL {ops : Array Oper} {rest : List Oper} {o : Oper} {a : Act} {w : World} {Q : Exit → Act → World → Prop} (hgd : o.guard = none) (s x : Operand)
    (ho : o.op = .call { callee := .builtin .append, args := #[s, x], argTypes := #[63, 63] }) (base : Nat)
    (v : Value) (xs : List Int) (hs : a.eval s = v) (hown : OwnB w base v xs) (u : Value) (p : List Int) (hx : a.eval x = u) (B : Nat) (hu : BytesAt w B u p) (hp : 0 < p.length)
    (hlen : xs.length + p.length ≤ 140737488355328) (hbase : base ≤ w.heap.size)
    (h : ∀ v' w', OwnB w' base v' (xs ++ p) → w.grownBy w' v.ownBlock → (∀ b, v'.ownBlock = some b → v.ownBlock = some b ∨ b = w.heap.size) → wpList Tryd.prog ops Q rest (a.put o.dst v') w') : wpList Tryd.prog ops Q (o :: rest) a w := by
  obtain ⟨i, hi, hz0, hz1, hz2⟩ := info_parts info_b8
  obtain ⟨h1, h2, ad, c, rfl, h4, h0, h5⟩ := hu
  have e : Sha.bcells (xs ++ p) = Sha.bcells xs ++ Sha.bcells p := by simp [Sha.bcells]
  have el : (xs ++ p).length = xs.length + p.length := by simp
  obtain ⟨pb, po, rfl, h7, h8⟩ := h5 hp
  refine wpList_append_lies w hgd s x 63 ho base 5 i (.int .u8 0) 1 1 under_b28 hi hz0 hz1 hz2 rfl (by decide) v xs.length (Sha.bcells xs) hs hown ⟨pb, po, none⟩ p.length c (Sha.bcells p) hx (by simp [Sha.bcells]) ?_ (Sha.one_b p) hp (by unfold maxLen; omega) (by omega) hbase w.heap.size rfl ?_
  · intro j y hj
    have hj' : j < p.length := by have := (List.getElem?_eq_some_iff.1 hj).1; simpa [Sha.bcells] using this
    rw [Addr.add_mid, h8 j hj', ← hj, Sha.bcells, List.getElem?_map, Sha.g, List.getElem?_eq_getElem hj']; rfl
  · intro g cap w' ho' hg hgg _
    refine h _ w' (by unfold OwnB; rw [el, e]; exact ho') hg (fun b hb => ?_)
    obtain rfl : g = b := Option.some.inj hb
    exact hgg

theorem tag_b (w : World) (hK : Rounds w) (k t : ByteArray) (r : ByteArray) (hr : strOf (Mac.tag (num k) (num t)) = r) (hk : k.size ≤ 140737488355328) (ht : t.size ≤ 140737488355328) :
    Calls Tryd.prog 28 #[.string k, .string t] w fun e w' => e = .returned (.string r) ∧ Mod none_ w w' := by
  subst hr; exact tag_any w hK k t hk ht
/-- two rows of the call's own do not share a block -/
def Apart (v u : Value) : Prop := ∀ g, v.ownBlock = some g → u.ownBlock ≠ some g

end Go.Proofs.YtlndgnlkfhlekaaDoor
