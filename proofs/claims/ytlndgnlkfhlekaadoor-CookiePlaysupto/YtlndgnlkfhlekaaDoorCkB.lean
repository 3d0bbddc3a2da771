/- cookie: what is derived, in plain numbers; Derive as a contract of the seat. -/
import Derived.Test.YtlndgnlkfhlekaaDoorCkA
namespace Go.Proofs.YtlndgnlkfhlekaaDoor
open Go.RowKit

namespace Ck
/-- what is derived -/
def dv (sec use : ByteArray) (ps : List ByteArray) : ByteArray := strOf (Mac.tag (num sec) (Mac.said (num use) (ps.map num)))
def cookieB : ByteArray := ⟨#[99, 111, 111, 107, 105, 101]⟩
def turnB : ByteArray := ⟨#[116, 117, 114, 110]⟩
def zeroB : ByteArray := strOf (Sha.zeros 32)
/-- 8 bytes, the highest first -/
def be (n : Int) : ByteArray := strOf (Sha.be n)
theorem size_dv (sec use : ByteArray) (ps : List ByteArray) : (dv sec use ps).size = 32 := by
  rw [dv, size_strOf, Mac.tag, Sha.length_sha]
theorem size_be (n : Int) : (be n).size = 8 := by rw [be, size_strOf, Sha.length_be]
theorem size_zero : zeroB.size = 32 := by rw [zeroB, size_strOf]; rfl
theorem num_be (n : Int) : num (be n) = Sha.be n := num_strOf _ (Sha.bytes_be _)
/-- a cookie -/
def ck (s a b : ByteArray) (e : Int) : ByteArray := dv s cookieB [a, b, be e]
def tn (s c : ByteArray) : ByteArray := dv s turnB [c]
theorem size_ck (s a b : ByteArray) (e : Int) : (ck s a b e).size = 32 := size_dv _ _ _
theorem size_tn (s c : ByteArray) : (tn s c).size = 32 := size_dv _ _ _
end Ck
attribute [irreducible] Ck.dv Ck.be

/-- room enough: each text at most 2^26 bytes -/
def Fits (s : ByteArray) : Prop := s.size ≤ 67108864
theorem fits32 {s : ByteArray} (h : s.size = 32) : Fits s := by unfold Fits; omega
theorem fits_be (n : Int) : Fits (Ck.be n) := by unfold Fits; rw [Ck.size_be]; omega
theorem said_fits {use : ByteArray} {ss : List ByteArray} (hu : Fits use) (hs : ∀ p ∈ ss, Fits p) (hn : ss.length ≤ 64) : (Mac.said (num use) (ss.map num)).length ≤ 70368744177000 := by
  have h1 := said_len (num use) 67108864 (ss.map num) (fun p hp => by
    obtain ⟨q, hq, rfl⟩ := List.mem_map.1 hp
    rw [length_num]; exact hs q hq)
  rw [length_num, List.length_map] at h1
  unfold Fits at hu
  have h2 : (8 + 67108864) * ss.length ≤ (8 + 67108864) * 64 := Nat.mul_le_mul_left _ hn
  omega
theorem derive_s (w : World) (hK : Rounds w) (sec use : ByteArray) (sa : Option Addr) (n c : Nat) (ss : List ByteArray) (hp : StrsAt w w.heap.size sa n ss) (hsec : Fits sec) (hu : Fits use) (hs : ∀ p ∈ ss, Fits p) (hn : ss.length ≤ 64) :
    Calls Tryd.prog 17 #[.string sec, .string use, .slice sa n c] w fun e w' => e = .returned (.string (Ck.dv sec use ss)) ∧ Mod none_ w w' := by
  have hl := said_fits hu hs hn
  unfold Fits at hsec
  refine (derive_any w hK sec use sa n c ss hp (by omega) (by omega)).mono ?_
  rintro e w' ⟨rfl, hM⟩
  exact ⟨by unfold Ck.dv; rfl, hM⟩
theorem rderive_s (w : World) (hT : RefTabs w) (sec use : ByteArray) (sa : Option Addr) (n c : Nat) (ss : List ByteArray) (hp : StrsAt w w.heap.size sa n ss) (hsec : Fits sec) (hu : Fits use) (hs : ∀ p ∈ ss, Fits p) (hn : ss.length ≤ 64) :
    Calls Tryd.prog 22 #[.string sec, .string use, .slice sa n c] w fun e w' => e = .returned (.string (Ck.dv sec use ss)) ∧ Mod none_ w w' := by
  have hl := said_fits hu hs hn
  unfold Fits at hsec
  exact ref_derive w hT sec use sa n c ss _ (by unfold Ck.dv; rfl) hp (by omega) hl
theorem fits_cookie : Fits Ck.cookieB := by unfold Fits; decide
theorem fits_turn : Fits Ck.turnB := by unfold Fits; decide

theorem under_s8 : Tryd.prog.underlying 66 = some (.array 8 5) := by kernel_rfl
theorem size_s8 : (Tryd.prog.info? 66).map (·.size) = some 8 := by kernel_rfl
theorem three_strs (w : World) (s t u : ByteArray) (X : TypeId) : StrsAt (w.alloc (.cells #[.string s, .string t, .string u] X)) (w.heap.size + 1) (some ⟨w.heap.size, 0, none⟩) 3 [s, t, u] := by
  refine ⟨rfl, fun _ => ⟨_, _, rfl, Nat.lt_succ_self _, fun i z hi => ?_⟩⟩
  rw [Nat.zero_add, World.cell?_alloc_new]
  match i, hi with
  | 0, hi => obtain rfl : s = z := by simpa using hi
             rfl
  | 1, hi => obtain rfl : t = z := by simpa using hi
             rfl
  | 2, hi => obtain rfl : u = z := by simpa using hi
             rfl
  | k + 3, hi => simp at hi
theorem one_str (w : World) (s : ByteArray) (X : TypeId) : StrsAt (w.alloc (.cells #[.string s] X)) (w.heap.size + 1) (some ⟨w.heap.size, 0, none⟩) 1 [s] := by
  refine ⟨rfl, fun _ => ⟨_, _, rfl, Nat.lt_succ_self _, fun i z hi => ?_⟩⟩
  rw [Nat.zero_add, World.cell?_alloc_new]
  match i, hi with
  | 0, hi => obtain rfl : s = z := by simpa using hi
             rfl
  | k + 1, hi => simp at hi

theorem Blk.setCells {b : Nat} {t : TypeId} : ∀ (vs : List Value) (o : Nat) (w : World) (cs : List Value), Blk w b cs t → o + vs.length ≤ cs.length → Blk (w.setCells b o vs) b (cs.take o ++ vs ++ cs.drop (o + vs.length)) t
  | [], o, w, cs, h, _ => h.cs (by simp)
  | v :: vs, o, w, cs, h, hl => by
    rw [List.length_cons] at hl
    have h1 := h.set o v
    have h2 := Blk.setCells vs (o + 1) _ _ h1 (by rw [List.length_set]; omega)
    refine h2.cs ?_
    rw [List.length_cons, List.take_set, List.drop_set, if_pos (by omega)]
    have e1 : (cs.take (o + 1)).set o v = cs.take o ++ [v] := by
      rw [List.take_add_one, List.getElem?_eq_getElem (by omega), List.set_append_right _ _ (by simp; omega)]
      have : o - (cs.take o).length = 0 := by rw [List.length_take]; omega
      rw [this]; rfl
    rw [e1, show o + 1 + vs.length = o + (vs.length + 1) by omega]
    simp
theorem Blk.there {w : World} {b : Nat} {cs : List Value} {t : TypeId} (h : Blk w b cs t) {o n : Nat} (hl : o + n ≤ cs.length) : w.there b o n := fun j hj => by
  refine ⟨?_, h.frozen _⟩
  rw [h.cell (List.getElem?_eq_getElem (show o + j < cs.length by omega))]; rfl
theorem Blk.range {w : World} {b : Nat} {cs : List Value} {t : TypeId} (h : Blk w b cs t) (o : Nat) (vs : List Value) (hv : ∀ j v, vs[j]? = some v → cs[o + j]? = some v) : w.rangeAt b o vs := fun j v hj => h.cell (hv j v hj)
theorem Mod.setCellsN {w wx : World} (h : Mod none_ w wx) {g : Nat} (hg : w.heap.size ≤ g) (o : Nat) (vs : List Value) : Mod none_ w (wx.setCells g o vs) :=
  h.trans (Mod.setCells g vs o wx) (fun b hb e => by have : b = g := e; omega)
/-- 32 bytes that have just been made -/
theorem blk_z32 (w : World) : Blk (w.alloc (.cells #[.int .u8 0, .int .u8 0, .int .u8 0, .int .u8 0, .int .u8 0, .int .u8 0, .int .u8 0, .int .u8 0, .int .u8 0, .int .u8 0, .int .u8 0, .int .u8 0, .int .u8 0, .int .u8 0, .int .u8 0, .int .u8 0, .int .u8 0, .int .u8 0, .int .u8 0, .int .u8 0, .int .u8 0, .int .u8 0, .int .u8 0, .int .u8 0, .int .u8 0, .int .u8 0, .int .u8 0, .int .u8 0, .int .u8 0, .int .u8 0, .int .u8 0, .int .u8 0] 37)) w.heap.size (Sha.bcells (Sha.zeros 32)) 37 := Blk.new w (Sha.bcells (Sha.zeros 32)) _
theorem there_z32 (w : World) : (w.alloc (.cells #[.int .u8 0, .int .u8 0, .int .u8 0, .int .u8 0, .int .u8 0, .int .u8 0, .int .u8 0, .int .u8 0, .int .u8 0, .int .u8 0, .int .u8 0, .int .u8 0, .int .u8 0, .int .u8 0, .int .u8 0, .int .u8 0, .int .u8 0, .int .u8 0, .int .u8 0, .int .u8 0, .int .u8 0, .int .u8 0, .int .u8 0, .int .u8 0, .int .u8 0, .int .u8 0, .int .u8 0, .int .u8 0, .int .u8 0, .int .u8 0, .int .u8 0, .int .u8 0] 37)).there w.heap.size 0 32 := (blk_z32 w).there (by simp [Sha.bcells, Sha.zeros])
theorem Blk.laid32 {w : World} {g : Nat} {T : TypeId} (h : Blk w g (Sha.bcells (Sha.zeros 32)) T) (l : List Value) (hl : l.length = 32) : Blk (w.setCells g 0 l) g l T :=
  (Blk.setCells l 0 _ _ h (by rw [hl]; simp [Sha.bcells, Sha.zeros])).cs (by rw [hl]; simp [Sha.bcells, Sha.zeros])
end Go.Proofs.YtlndgnlkfhlekaaDoor
