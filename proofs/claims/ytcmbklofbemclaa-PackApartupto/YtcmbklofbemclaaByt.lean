/- Bytes and texts of whatever seat: what a slice of bytes reads as, rows of the call's own, conversions, appends. -/
import Derived.Test.YtcmbklofbemclaaBase2
import Derived.Laws.BytesString
import Derived.Lib.AppendStr
import Derived.Laws.AppendOwnNone
namespace Go.Proofs.Ytcmbklofbemclaa
open Go.RowKit

namespace Sha
def g (l : List Int) (i : Nat) : Int := l[i]?.getD 0
def zeros (n : Nat) : List Int := List.replicate n 0
def bcells (bs : List Int) : List Value := bs.map (Value.int .u8)
def bytes (t : List Int) : Prop := ∀ x ∈ t, 0 ≤ x ∧ x ≤ 255
theorem bytes_zeros (n : Nat) : bytes (zeros n) := fun x hx => by rw [List.eq_of_mem_replicate hx]; decide
theorem bytes_append {t q : List Int} (h : bytes t) (k : bytes q) : bytes (t ++ q) := fun x hx => (List.mem_append.1 hx).elim (h x) (k x)
theorem bytes_take {t : List Int} (h : bytes t) (n : Nat) : bytes (t.take n) := fun x hx => h x (List.mem_of_mem_take hx)
theorem bytes_drop {t : List Int} (h : bytes t) (n : Nat) : bytes (t.drop n) := fun x hx => h x (List.mem_of_mem_drop hx)
theorem one_b (bs : List Int) : ∀ v ∈ bcells bs, v.oneCell' = true := by
  intro v hv; simp only [bcells, List.mem_map] at hv; obtain ⟨x, _, rfl⟩ := hv; rfl
end Sha
theorem under_b28 : Try.prog.underlying 56 = some (.slice 5) := by kernel_rfl
theorem size_u8 : (Try.prog.info? 5).map (·.size) = some 1 := by kernel_rfl
theorem under_b8 : Try.prog.underlying 5 = some (.int .u8) := by kernel_rfl
theorem under_str : Try.prog.underlying 9 = some .string := by kernel_rfl
/-- v is a slice that reads as the bytes p, in memory below block B -/
def BytesAt (w : World) (B : Nat) (v : Value) (p : List Int) : Prop :=
  Sha.bytes p ∧ p.length ≤ 140737488355328 ∧ ∃ a c, v = .slice a p.length c ∧ p.length ≤ c ∧ (a = none → c = 0) ∧
    (0 < p.length → ∃ pb po, a = some ⟨pb, po, none⟩ ∧ pb < B ∧ ∀ j, j < p.length → w.cell? ⟨pb, po + j, none⟩ = some (.int .u8 (Sha.g p j)))
theorem BytesAt.mod {S : Nat → Prop} {w w' : World} {B : Nat} {v : Value} {p : List Int} (h : BytesAt w B v p) (hM : Mod S w w') (hS : ∀ k, k < B → ¬ S k) : BytesAt w' B v p := by
  obtain ⟨h1, h2, a, c, h3, h4, h0, h5⟩ := h
  refine ⟨h1, h2, a, c, h3, h4, h0, fun hp => ?_⟩
  obtain ⟨pb, po, h6, h7, h8⟩ := h5 hp
  exact ⟨pb, po, h6, h7, fun j hj => hM.cellS (h8 j hj) (hS pb h7)⟩
theorem BytesAt.mono {w : World} {B B' : Nat} {v : Value} {p : List Int} (h : BytesAt w B v p) (hB : B ≤ B') : BytesAt w B' v p := by
  obtain ⟨h1, h2, a, c, h3, h4, h0, h5⟩ := h
  refine ⟨h1, h2, a, c, h3, h4, h0, fun hp => ?_⟩
  obtain ⟨pb, po, h6, h7, h8⟩ := h5 hp
  exact ⟨pb, po, h6, by omega, h8⟩
/-- a row of bytes that has just been made -/
theorem bytes_new (w : World) (C : Array Value) (T : TypeId) (fr : Nat × Nat) (p : List Int) (c : Nat) (hb : Sha.bytes p) (hl : p.length ≤ 140737488355328) (hc : p.length ≤ c) (hC : ∀ j, j < p.length → C[j]? = some (.int .u8 (Sha.g p j))) :
    BytesAt (w.alloc (.cells C T fr)) (w.heap.size + 1) (.slice (some ⟨w.heap.size, 0, none⟩) p.length c) p :=
  ⟨hb, hl, _, _, rfl, hc, (fun h => by cases h), fun _ => ⟨_, _, rfl, Nat.lt_succ_self _, fun j hj => by rw [World.cell?_alloc_mark, Nat.zero_add]; exact hC j hj⟩⟩
theorem bytes_none (w : World) (B : Nat) (a : Option Addr) (c : Nat) (h0 : a = none → c = 0) : BytesAt w B (.slice a 0 c) [] := ⟨fun x hx => (List.not_mem_nil hx).elim, by simp, a, c, rfl, Nat.zero_le _, h0, fun h => absurd h (by simp)⟩
theorem bytes_one1 (w : World) (y : Int) (T : TypeId) (hy : 0 ≤ y ∧ y ≤ 255) : BytesAt (w.alloc (.cells #[.int .u8 y] T)) (w.heap.size + 1) (.slice (some ⟨w.heap.size, 0, none⟩) 1 1) [y] := by
  refine ⟨fun x hx => ?_, by simp, _, _, rfl, by simp, (fun h => by cases h), fun _ => ⟨_, _, rfl, by omega, fun j hj => ?_⟩⟩
  · obtain rfl : x = y := by simpa using hx
    exact hy
  · obtain rfl : j = 0 := by simpa using hj
    rw [World.cell?_alloc_new]; rfl
/-- a text's bytes as numbers -/
def nums (s : List UInt8) : List Int := s.map fun b => (b.toNat : Int)
theorem nums_bytes (s : List UInt8) : Sha.bytes (nums s) := by
  intro x hx; simp only [nums, List.mem_map] at hx; obtain ⟨b, _, rfl⟩ := hx; have := b.toNat_lt; omega
theorem length_nums (s : List UInt8) : (nums s).length = s.length := by simp [nums]
theorem bytes_of_row (w : World) (s : ByteArray) (cap : Nat) (T : TypeId) (fr : Nat × Nat) (hs : s.size ≤ 140737488355328) (hc : s.size ≤ cap) :
    BytesAt (w.alloc (.cells (bytesRow s cap) T fr)) (w.heap.size + 1) (.slice (some ⟨w.heap.size, 0, none⟩) s.size cap) (nums s.data.toList) := by
  have hl : (nums s.data.toList).length = s.size := by rw [length_nums]; rfl
  have h := bytes_new w (bytesRow s cap) T fr (nums s.data.toList) cap (nums_bytes _) (by omega) (by omega) (fun j hj => by
    have hj' : j < s.data.size := by rw [hl] at hj; exact hj
    rw [bytesRow_at s cap j hj', Sha.g, nums, List.getElem?_map, List.getElem?_eq_getElem (by simpa using hj')]; rfl)
  rwa [hl] at h
/-- an operation that is wanted, guarded or not -/
theorem wpList_want {P : Program} {ops : Array Oper} {rest : List Oper} {o : Oper} {a : Act} {w : World} {Q : Exit → Act → World → Prop} (hw : Region.wanted o (yielded ops a.tmps) = true)
    (h : ∀ K : Act → World → Prop, (∀ a w, wpList P ops Q rest a w → K a w) → o.wp P a w K Q) : wpList P ops Q (o :: rest) a w :=
  wpList_step (fun K hK => by rw [if_pos hw]; exact h K hK)
/-- '[]byte(s)' at the walk's list: the new slice by what it is good for -/
theorem wpList_bytes_of {P : Program} {ops : Array Oper} {rest : List Oper} {o : Oper} {a : Act} {w : World} {Q : Exit → Act → World → Prop} (hgd : Region.wanted o (yielded ops a.tmps) = true) (src dst e : TypeId) (x : Operand) (ho : o.op = .convert src dst x)
    (s : ByteArray) (hx : a.eval x = .string s) (hs : P.underlying src = some .string) (hd : P.underlying dst = some (.slice e)) (he : P.underlying e = some (.int .u8)) (hl : s.size ≤ 140737488355328)
    (h : ∀ w' cap, BytesAt w' w'.heap.size (.slice (some ⟨w.heap.size, 0, none⟩) s.size cap) (nums s.data.toList) → Mod none_ w w' → w'.heap.size = w.heap.size + 1 → wpList P ops Q rest (a.put o.dst (.slice (some ⟨w.heap.size, 0, none⟩) s.size cap)) w') :
    wpList P ops Q (o :: rest) a w := by
  refine wpList_want hgd fun K hK => ?_
  have hrun := run_bytes_of_string (P := P) w src dst e s hs hd he
  unfold Oper.wp
  simp only [execOp, ho, hx, Sem.run_bind, hrun, Result.andThen, Sem.run_pure]
  have hcap : s.size ≤ grownCap w s.size 0 e := grownCap_ge _ _ _ _
  have hb := bytes_of_row w.drew s (grownCap w s.size 0 e) e ((bytesRow s (grownCap w s.size 0 e)).size, (bytesRow s (grownCap w s.size 0 e)).size + 1) hl hcap
  exact hK _ _ (h _ _ (hb.mono (by simp)) ((Mod.refl _ _).drew.alloc _) (by simp))
/-- v is a byte slice of the call's own (blocks from base on) that holds xs -/
def OwnB (w : World) (base : Nat) (v : Value) (xs : List Int) : Prop := w.ownsRow base 5 1 v xs.length (Sha.bcells xs)
theorem ownB_nil (w : World) (base : Nat) : OwnB w base (.slice none 0 0) [] := ⟨rfl, Or.inl ⟨rfl, rfl⟩⟩
theorem OwnB.cases {w : World} {base : Nat} {v : Value} {xs : List Int} (h : OwnB w base v xs) :
    (v = .slice none 0 0 ∧ xs = []) ∨ ∃ g cap rest, v = .slice (some ⟨g, 0, none⟩) xs.length cap ∧ base ≤ g ∧ Blk w g (Sha.bcells xs ++ rest) 5 ∧ xs.length ≤ cap := by
  obtain ⟨h1, h2 | ⟨g, cap, cur, h3, h4, h5, h6, h7, h8, h9⟩⟩ := h
  · left; exact ⟨h2.1, List.eq_nil_of_length_eq_zero h2.2⟩
  · right
    refine ⟨g, cap, cur.toList.drop xs.length, h3, h4, ?_, h6⟩
    rw [Nat.mul_one] at h9
    rw [Blk, h5, ← h9, List.take_append_drop, Array.toArray_toList]
theorem OwnB.bytes {w : World} {base : Nat} {v : Value} {xs : List Int} (h : OwnB w base v xs) (hb : Sha.bytes xs) (hl : xs.length ≤ 140737488355328) : BytesAt w w.heap.size v xs := by
  rcases h.cases with ⟨rfl, rfl⟩ | ⟨g, cap, rest, rfl, h2, h3, h4⟩
  · exact bytes_none _ _ _ _ (fun _ => rfl)
  · refine ⟨hb, hl, _, _, rfl, h4, (fun h => by cases h), fun hp => ⟨g, 0, rfl, h3.lt, fun j hj => h3.cell ?_⟩⟩
    rw [Nat.zero_add, List.getElem?_append_left (by simpa [Sha.bcells] using hj), Sha.bcells, List.getElem?_map, Sha.g, List.getElem?_eq_getElem hj]; rfl
theorem info_b8 : (Try.prog.info? 5).map (fun i => (i.zero, i.size, i.bytes)) = some (some (.int .u8 0), 1, 1) := by kernel_rfl
theorem OwnB.modW {S : Nat → Prop} {w w' : World} {base : Nat} {v : Value} {xs : List Int} (h : OwnB w base v xs) (hM : Mod S w w') (hS : ∀ k, base ≤ k → ¬ S k) : OwnB w' base v xs := by
  obtain ⟨h1, h2 | ⟨g, cap, cur, h3, h4, h5, h6, h7, h8, h9⟩⟩ := h
  · exact ⟨h1, Or.inl h2⟩
  · exact ⟨h1, Or.inr ⟨g, cap, cur, h3, h4, (hM.blk (b := g) (cs := cur.toList) (t := 5) h5 (hS g h4)), h6, h7, h8, h9⟩⟩
theorem OwnB.form {w : World} {base : Nat} {v : Value} {xs : List Int} (h : OwnB w base v xs) : ∃ sa c, v = .slice sa xs.length c ∧ xs.length ≤ c := by
  rcases h.cases with ⟨rfl, rfl⟩ | ⟨g, cap, rest, rfl, h2, h3, h4⟩
  · exact ⟨none, 0, rfl, Nat.le_refl _⟩
  · exact ⟨_, _, rfl, h4⟩
theorem OwnB.own_ge {w : World} {base : Nat} {v : Value} {xs : List Int} (h : OwnB w base v xs) {b : Nat} (e : v.ownBlock = some b) : base ≤ b := by
  rcases h.cases with ⟨rfl, _⟩ | ⟨g, cap, rest, rfl, h2, _, _⟩
  · cases e
  · have : g = b := Option.some.inj e
    omega
theorem OwnB.own_lt {w : World} {base : Nat} {v : Value} {xs : List Int} (h : OwnB w base v xs) : ∀ b, v.ownBlock = some b → b < w.heap.size := by
  intro b e
  rcases h.cases with ⟨rfl, _⟩ | ⟨g, cap, rest, rfl, _, h3, _⟩
  · cases e
  · have : g = b := Option.some.inj e
    subst this; exact h3.lt
theorem OwnB.modO {S : Nat → Prop} {w w' : World} {base : Nat} {v : Value} {xs : List Int} (h : OwnB w base v xs) (hM : Mod S w w') (hS : ∀ g, v.ownBlock = some g → ¬ S g) : OwnB w' base v xs := by
  obtain ⟨h1, h2 | ⟨g, cap, cur, h3, h4, h5, h6, h7, h8, h9⟩⟩ := h
  · exact ⟨h1, Or.inl h2⟩
  · exact ⟨h1, Or.inr ⟨g, cap, cur, h3, h4, (hM.blk (b := g) (cs := cur.toList) (t := 5) h5 (hS g (by rw [h3]; rfl))), h6, h7, h8, h9⟩⟩
/-- the text that these numbers are the bytes of -/
def strOf (t : List Int) : ByteArray := t.foldl (fun r n => r.push (UInt8.ofNat n.toNat)) ByteArray.empty
theorem str_any (w : World) (B : Nat) (v : Value) (t : List Int) (h : BytesAt w B v t) : (convert 56 9 v).run Try.prog w = .ok (.string (strOf t)) w := by
  obtain ⟨h1, h2, a, c, rfl, h4, h0, h5⟩ := h
  rw [run_convert_bytes_string w 56 9 5 a t.length c under_b28 under_b8 under_str]
  cases a with
  | none =>
    have hp : t = [] := List.eq_nil_of_length_eq_zero (by have := h0 rfl; omega)
    subst hp
    rfl
  | some a =>
    refine run_bytesToString w a t.length c t ?_
    by_cases hp : 0 < t.length
    · obtain ⟨pb, po, h6, h7, h8⟩ := h5 hp
      obtain rfl : a = ⟨pb, po, none⟩ := by simpa using h6
      have := run_loadCells_list (P := Try.prog) w ⟨pb, po, none⟩ (Sha.bcells t) (fun j v hj => by
        have hj' : j < t.length := by have := (List.getElem?_eq_some_iff.1 hj).1; simpa [Sha.bcells] using this
        rw [Addr.add_mid, h8 j hj', ← hj, Sha.bcells, List.getElem?_map, Sha.g, List.getElem?_eq_getElem hj']; rfl)
      rw [Sha.bcells, List.length_map] at this
      exact this
    · obtain rfl : t = [] := List.eq_nil_of_length_eq_zero (by omega)
      rfl
/-- a text's bytes as numbers -/
def num (s : ByteArray) : List Int := nums s.data.toList
theorem length_num (s : ByteArray) : (num s).length = s.size := by rw [num, length_nums]; rfl
theorem bytes_num (s : ByteArray) : Sha.bytes (num s) := nums_bytes _
theorem num_append (a b : ByteArray) : num (a ++ b) = num a ++ num b := by simp [num, nums, ByteArray.data_append]
theorem strOf_foldl (t : List Int) : ∀ r : ByteArray, (t.foldl (fun r n => r.push (UInt8.ofNat n.toNat)) r).data.toList = r.data.toList ++ t.map fun n => UInt8.ofNat n.toNat := by
  induction t with
  | nil => intro r; simp
  | cons x t ih => intro r; rw [List.foldl_cons, ih]; simp [ByteArray.push]
theorem strOf_data (t : List Int) : (strOf t).data.toList = t.map fun n => UInt8.ofNat n.toNat := by
  rw [strOf, strOf_foldl]; simp
theorem size_strOf (t : List Int) : (strOf t).size = t.length := by
  have := congrArg List.length (strOf_data t)
  rw [List.length_map] at this
  rw [← this]; rfl
theorem num_strOf (t : List Int) (h : Sha.bytes t) : num (strOf t) = t := by
  rw [num, strOf_data, nums, List.map_map]
  refine (List.map_congr_left fun x hx => ?_).trans (List.map_id _)
  have := h x hx
  simp only [Function.comp, UInt8.toNat_ofNat', id]
  omega
theorem ext_data {a b : ByteArray} (h : a.data.toList = b.data.toList) : a = b := by
  apply ByteArray.ext; apply Array.ext'; exact h
theorem strOf_num (s : ByteArray) : strOf (num s) = s := by
  refine ext_data ?_
  rw [strOf_data, num, nums, List.map_map]
  refine (List.map_congr_left fun x hx => ?_).trans (List.map_id _)
  simp
theorem strOf_append (a b : List Int) : strOf (a ++ b) = strOf a ++ strOf b := by
  refine ext_data ?_
  rw [ByteArray.data_append, Array.toList_append, strOf_data, strOf_data, strOf_data, List.map_append]
theorem num_inj {a b : ByteArray} (h : num a = num b) : a = b := by rw [← strOf_num a, h, strOf_num]
theorem strOf_inj {a b : List Int} (ha : Sha.bytes a) (hb : Sha.bytes b) (h : strOf a = strOf b) : a = b := by rw [← num_strOf a ha, h, num_strOf b hb]
theorem bytes_src {w : World} {B : Nat} {pb po n c : Nat} {t : List Int} (h : BytesAt w B (.slice (some ⟨pb, po, none⟩) n c) t) : ∀ (j : Nat) v, (Sha.bcells t)[j]? = some v → w.cell? ((⟨pb, po, none⟩ : Addr).add j) = some v := by
  intro j v hj
  obtain ⟨h1, h2, a, c', h3, h4, h0, h5⟩ := h
  have hjl : j < t.length := by have := (List.getElem?_eq_some_iff.1 hj).1; simpa [Sha.bcells] using this
  obtain ⟨pb', po', h6, h7, h8⟩ := h5 (by omega)
  have e : (some ⟨pb, po, none⟩ : Option Addr) = some ⟨pb', po', none⟩ := by simp at h3; rw [← h6, ← h3.1]
  simp at e
  obtain ⟨rfl, rfl⟩ := e
  rw [Addr.add_mid, h8 j hjl, ← hj, Sha.bcells, List.getElem?_map, Sha.g, List.getElem?_eq_getElem hjl]; rfl
theorem sliceAt_whole {P : Program} (t e : TypeId) (n : Nat) (ht : P.underlying t = some (.array n e)) (he : (P.info? e).map (·.size) = some 1) (b : Nat) (w : World) :
    (Instr.sliceAt t (.pointer (some ⟨b, 0, none⟩)) none none none).run P w = .ok (.slice (some ⟨b, 0, none⟩) n n) w := by
  have ha : P.arrayLen t = n := by simp [Program.arrayLen, ht]
  have hel : P.elem t = e := by simp [Program.elem, ht]
  rw [run_sliceAt_array_all w t ⟨b, 0, none⟩ (by rw [ha, hel]; exact ht), hel, ha]
  cases hq : P.info? e with
  | none => simp [hq] at he
  | some i =>
    have hs : i.size = 1 := by simpa [hq] using he
    simp [sizeOf, typeInfo, hq, hs, Result.andThen, slicedAt, Addr.add]
theorem bcells_set (l : List Int) (j : Nat) (x : Int) : (Sha.bcells l).set j (.int .u8 x) = Sha.bcells (l.set j x) := by rw [Sha.bcells, Sha.bcells, ← List.map_set]
theorem blk_byte {w : World} {b : Nat} {l : List Int} {T : TypeId} (h : Blk w b (Sha.bcells l) T) {i : Nat} (hi : i < l.length) : w.cell? ⟨b, i, none⟩ = some (.int .u8 (Sha.g l i)) :=
  h.cell (by rw [Sha.bcells, List.getElem?_map, Sha.g, List.getElem?_eq_getElem hi]; rfl)
/-- an array's row of bytes, sliced whole -/
theorem bytes_arr {w : World} {b : Nat} {l : List Int} {T : TypeId} {n : Nat} (h : Blk w b (Sha.bcells l) T) (hn : l.length = n) (hb : Sha.bytes l) (hl : n ≤ 140737488355328) {B : Nat} (hB : b < B) : BytesAt w B (.slice (some ⟨b, 0, none⟩) n n) l := by
  subst hn
  exact ⟨hb, hl, _, _, rfl, Nat.le_refl _, (fun h => by cases h), fun _ => ⟨b, 0, rfl, hB, fun j hj => by rw [Nat.zero_add]; exact blk_byte h hj⟩⟩
theorem bcells_get (xs : List Int) (j : Nat) (h : j < xs.length) : (Sha.bcells xs)[j]? = some (.int .u8 (Sha.g xs j)) := by
  rw [Sha.bcells, List.getElem?_map, Sha.g, List.getElem?_eq_getElem h]; rfl
theorem toList_eq_num (a b : ByteArray) : (a.toList == b.toList) = decide (a = b) := by
  rw [ByteArray.toList_eq, ByteArray.toList_eq]
  by_cases h : a = b
  · subst h; simp
  · have : ¬ a.data = b.data := fun e => h (ByteArray.ext e)
    simp [h, this]
theorem run_cat (a b : ByteArray) (h : a.size + b.size ≤ 140737488355328) (w : World) : (Op.stringOp .add a b).run Try.prog w = .ok (.string (a ++ b)) w := run_string_add_sum w a b (by omega)
theorem str_one (w : World) (x : Int) (hx : 0 ≤ x ∧ x ≤ 255) : (convert 56 9 (.slice (some ⟨w.heap.size, 0, none⟩) 1 1)).run Try.prog (w.alloc (.cells #[.int .u8 x] 5)) = .ok (.string (strOf [x])) (w.alloc (.cells #[.int .u8 x] 5)) :=
  str_any _ _ _ _ (bytes_one1 w x 5 hx)
end Go.Proofs.Ytcmbklofbemclaa
