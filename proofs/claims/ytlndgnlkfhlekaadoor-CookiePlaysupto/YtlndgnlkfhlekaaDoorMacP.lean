/- Chapter 2 in plain numbers: pads, tags; texts as numbers. -/
import Derived.Test.YtlndgnlkfhlekaaDoorPartsO
namespace Go.Proofs.YtlndgnlkfhlekaaDoor
open Go.RowKit

/-- a text's bytes as numbers -/
def num (s : ByteArray) : List Int := nums s.data.toList
theorem length_num (s : ByteArray) : (num s).length = s.size := by rw [num, length_nums]; rfl
theorem bytes_num (s : ByteArray) : Sha.bytes (num s) := nums_bytes _
theorem num_append (a b : ByteArray) : num (a ++ b) = num a ++ num b := by simp [num, nums, ByteArray.data_append]
theorem strOf_foldl (t : List Int) : ∀ r : ByteArray, (t.foldl (fun r n => r.push (UInt8.ofNat n.toNat)) r).data.toList = r.data.toList ++ t.map fun n => UInt8.ofNat n.toNat := by
  induction t with
  | nil => intro r; simp
  | cons x t ih => intro r; rw [List.foldl_cons, ih]; simp [ByteArray.push]
theorem strOf_data (t : List Int) : (strOf t).data.toList = t.map fun n => UInt8.ofNat n.toNat := by
  rw [strOf, strOf_foldl]; simp
theorem size_strOf (t : List Int) : (strOf t).size = t.length := by
  have := congrArg List.length (strOf_data t)
  rw [List.length_map] at this
  rw [← this]; rfl
theorem num_strOf (t : List Int) (h : Sha.bytes t) : num (strOf t) = t := by
  rw [num, strOf_data, nums, List.map_map]
  refine (List.map_congr_left fun x hx => ?_).trans (List.map_id _)
  have := h x hx
  simp only [Function.comp, UInt8.toNat_ofNat', id]
  omega
theorem ext_data {a b : ByteArray} (h : a.data.toList = b.data.toList) : a = b := by
  apply ByteArray.ext; apply Array.ext'; exact h
theorem strOf_num (s : ByteArray) : strOf (num s) = s := by
  refine ext_data ?_
  rw [strOf_data, num, nums, List.map_map]
  refine (List.map_congr_left fun x hx => ?_).trans (List.map_id _)
  simp
theorem strOf_append (a b : List Int) : strOf (a ++ b) = strOf a ++ strOf b := by
  refine ext_data ?_
  rw [ByteArray.data_append, Array.toList_append, strOf_data, strOf_data, strOf_data, List.map_append]
theorem num_inj {a b : ByteArray} (h : num a = num b) : a = b := by rw [← strOf_num a, h, strOf_num]
theorem strOf_inj {a b : List Int} (ha : Sha.bytes a) (hb : Sha.bytes b) (h : strOf a = strOf b) : a = b := by rw [← num_strOf a ha, h, num_strOf b hb]

namespace Mac
def x8 (a b : Int) : Int := bits BinOp.xor IntKind.u8 a b
/-- a key of at most 64 bytes -/
def key (k : List Int) : List Int := if 64 < k.length then Sha.sha k else k
/-- a key with zeros behind it, the first i bytes turned by x -/
def row (k : List Int) (x : Int) (i : Nat) : List Int := (List.range 64).map fun j => if j < i then x8 (Sha.g k j) x else Sha.g k j
def pad (k : List Int) (x : Int) : List Int := row k x 64
/-- the tag of a text under a key -/
def tag (k t : List Int) : List Int := Sha.sha (pad (key k) 92 ++ Sha.sha (pad (key k) 54 ++ t))

theorem x8_bd (a b : Int) : 0 ≤ x8 a b ∧ x8 a b ≤ 255 := ⟨bits_lo_u8 _ a b, bits_hi_u8 _ a b⟩
theorem length_row (k : List Int) (x : Int) (i : Nat) : (row k x i).length = 64 := by simp [row]
theorem length_pad (k : List Int) (x : Int) : (pad k x).length = 64 := length_row _ _ _
theorem g_bytes {k : List Int} (h : Sha.bytes k) (j : Nat) : 0 ≤ Sha.g k j ∧ Sha.g k j ≤ 255 := by
  rw [Sha.g]
  cases e : k[j]? with
  | none => simp
  | some v => exact h v (List.mem_of_getElem? e)
theorem bytes_row {k : List Int} (h : Sha.bytes k) (x : Int) (i : Nat) : Sha.bytes (row k x i) := by
  intro y hy
  simp only [row, List.mem_map] at hy
  obtain ⟨j, _, rfl⟩ := hy
  split
  · exact x8_bd _ _
  · exact g_bytes h j
theorem bytes_pad {k : List Int} (h : Sha.bytes k) (x : Int) : Sha.bytes (pad k x) := bytes_row h _ _
theorem bytes_key {k : List Int} (h : Sha.bytes k) : Sha.bytes (key k) := by
  rw [key]; split
  · exact Sha.bytes_sha _
  · exact h
theorem length_key (k : List Int) : (key k).length ≤ 64 := by
  rw [key]; split
  · rw [Sha.length_sha]; omega
  · omega
theorem row_zero (k : List Int) (x : Int) (h : k.length ≤ 64) : row k x 0 = k ++ Sha.zeros (64 - k.length) := by
  apply List.ext_getElem
  · simp [row, Sha.zeros]; omega
  · intro i h1 h2
    simp only [row, List.getElem_map, List.getElem_range, Nat.not_lt_zero, if_false, Sha.g]
    by_cases hi : i < k.length
    · rw [List.getElem_append_left hi, List.getElem?_eq_getElem hi]; rfl
    · rw [List.getElem_append_right (by omega), List.getElem?_eq_none (by omega)]; simp [Sha.zeros]
theorem row_get (k : List Int) (x : Int) (i j : Nat) (h : j < 64) : (row k x i)[j]? = some (if j < i then x8 (Sha.g k j) x else Sha.g k j) := by
  simp [row, List.getElem?_range h]
theorem row_set (k : List Int) (x : Int) (i : Nat) : (row k x i).set i (x8 (Sha.g k i) x) = row k x (i + 1) := by
  apply List.ext_getElem
  · simp [row]
  · intro j h1 h2
    simp only [row, List.getElem_set, List.getElem_map, List.getElem_range]
    by_cases hij : i = j
    · subst hij; rw [if_pos rfl, if_pos (by omega)]
    · rw [if_neg hij]
      by_cases hj : j < i
      · rw [if_pos hj, if_pos (by omega)]
      · rw [if_neg hj, if_neg (by omega)]
theorem splice_key (k : List Int) (x : Int) (h : k.length ≤ 64) : splice (Sha.bcells (Sha.zeros 64)) 0 (Sha.bcells k) = Sha.bcells (row k x 0) := by
  rw [row_zero k x h]
  simp only [splice, Sha.bcells, Sha.zeros, List.map_append, List.map_replicate, List.take_zero, List.nil_append, List.length_map, Nat.zero_add, List.drop_replicate]
theorem tag_eq (k t : List Int) : tag k t = Sha.sha (pad (key k) 92 ++ Sha.sha (pad (key k) 54 ++ t)) := rfl
theorem pad_eq (k : List Int) (x : Int) : pad k x = row k x 64 := rfl
theorem x8_eq (a b : Int) : bits BinOp.xor IntKind.u8 a b = x8 a b := rfl
theorem length_tag (k t : List Int) : (tag k t).length = 32 := Sha.length_sha _
theorem bytes_tag (k t : List Int) : Sha.bytes (tag k t) := Sha.bytes_sha _
end Mac
attribute [irreducible] Mac.tag Mac.pad Mac.row Mac.x8
end Go.Proofs.YtlndgnlkfhlekaaDoor
