/- SHA laws' helpers: hex, alive. -/
import Derived.Test.YtlndgnlkfhlekaaDoorShaO
import Derived.Lib.SlBytesConst
namespace Go.Proofs.YtlndgnlkfhlekaaDoor
open Go.RowKit
namespace Sha
def digits : List UInt8 := [48, 49, 50, 51, 52, 53, 54, 55, 56, 57, 97, 98, 99, 100, 101, 102]
def hexd (x : Int) : List UInt8 := (digits.drop x.toNat).take 1
def hexs : List Int → List UInt8
  | [] => []
  | x :: r => hexd (x / 16) ++ (hexd (x % 16) ++ hexs r)
theorem hexs_append (a b : List Int) : hexs (a ++ b) = hexs a ++ hexs b := by
  induction a with
  | nil => rfl
  | cons x r ih => simp [hexs, ih]
theorem length_hexd (x : Int) : (hexd x).length ≤ 1 := by simp [hexd]; omega
theorem length_hexs (l : List Int) : (hexs l).length ≤ 2 * l.length := by
  induction l with
  | nil => simp [hexs]
  | cons x r ih => have h1 := length_hexd (x / 16); have h2 := length_hexd (x % 16); simp only [hexs, List.length_append, List.length_cons]; omega
theorem hexs_abc : hexs (sha [97, 98, 99]) = [98, 97, 55, 56, 49, 54, 98, 102, 56, 102, 48, 49, 99, 102, 101, 97, 52, 49, 52, 49, 52, 48, 100, 101, 53, 100, 97, 101, 50, 50, 50, 51, 98, 48, 48, 51, 54, 49, 97, 51, 57, 54, 49, 55, 55, 97, 57, 99, 98, 52, 49, 48, 102, 102, 54, 49, 102, 50, 48, 48, 49, 53, 97, 100] := by decide +kernel
end Sha
theorem under_str : Tryd.prog.underlying 9 = some .string := by kernel_rfl
theorem slice_digit (q p : Int) (h0 : 0 ≤ q) (h1 : q ≤ 15) (hp : p = q + 1) (w : World) :
    (Instr.slice 9 (.string ⟨#[48, 49, 50, 51, 52, 53, 54, 55, 56, 57, 97, 98, 99, 100, 101, 102]⟩) (some (.int .u8 q)) (some (.int .u8 p)) none).run Tryd.prog w = .ok (.string ⟨(Sha.hexd q).toArray⟩) w := by
  subst hp
  rw [run_slice_string w 9 _ .u8 .u8 q (q + 1) under_str h0 (by omega) (by simp [ByteArray.size]; omega)]
  have : (ByteArray.mk #[48, 49, 50, 51, 52, 53, 54, 55, 56, 57, 97, 98, 99, 100, 101, 102]) = ByteArray.mk Sha.digits.toArray := rfl
  rw [this, ByteArray.extract_mk, Sha.hexd, show (q + 1).toNat - q.toNat = 1 by omega]

theorem under_b8 : Tryd.prog.underlying 5 = some (.int .u8) := by kernel_rfl

/-- a row of bytes that has just been made -/
theorem bytes_new (w : World) (C : Array Value) (T : TypeId) (fr : Nat × Nat) (p : List Int) (c : Nat) (hb : Sha.bytes p) (hl : p.length ≤ 140737488355328) (hc : p.length ≤ c) (hC : ∀ j, j < p.length → C[j]? = some (.int .u8 (Sha.g p j))) :
    BytesAt (w.alloc (.cells C T fr)) (w.heap.size + 1) (.slice (some ⟨w.heap.size, 0, none⟩) p.length c) p :=
  ⟨hb, hl, _, _, rfl, hc, (fun h => by cases h), fun _ => ⟨_, _, rfl, Nat.lt_succ_self _, fun j hj => by rw [World.cell?_alloc_mark, Nat.zero_add]; exact hC j hj⟩⟩
/-- one slice of bytes alone in a list -/
theorem parts_one (w : World) (v : Value) (p : List Int) (T : TypeId) (hv : BytesAt w w.heap.size v p) :
    PartsAt (w.alloc (.cells #[v] T)) (w.alloc (.cells #[v] T)).heap.size (some ⟨w.heap.size, 0, none⟩) 1 [p] := by
  refine ⟨rfl, fun _ => ⟨_, _, rfl, by simp, ?_⟩⟩
  intro i q hq
  have hi : i = 0 := by
    by_cases h : i = 0
    · exact h
    · rw [List.getElem?_eq_none (by simp; omega)] at hq; cases hq
  subst hi
  obtain rfl : p = q := by simpa using hq
  refine ⟨v, by rw [World.cell?_alloc_new]; rfl, ?_⟩
  exact (hv.mod (S := none_) ((Mod.refl _ _).alloc _) (fun _ _ h => h)).mono (by simp)

theorem bytes_none (w : World) (B : Nat) (a : Option Addr) (c : Nat) (h0 : a = none → c = 0) : BytesAt w B (.slice a 0 c) [] := ⟨fun x hx => (List.not_mem_nil hx).elim, by simp, a, c, rfl, Nat.zero_le _, h0, fun h => absurd h (by simp)⟩
theorem parts_new (w : World) (vs : List Value) (ps : List (List Int)) (T : TypeId) (hl : ps.length = vs.length) (hv : ∀ (i : Nat) v p, vs[i]? = some v → ps[i]? = some p → BytesAt w w.heap.size v p) :
    PartsAt (w.alloc (.cells vs.toArray T)) (w.alloc (.cells vs.toArray T)).heap.size (some ⟨w.heap.size, 0, none⟩) vs.length ps := by
  refine ⟨hl, fun _ => ⟨_, _, rfl, by simp, ?_⟩⟩
  intro i q hq
  have hi : i < vs.length := by rw [← hl]; exact (List.getElem?_eq_some_iff.1 hq).1
  refine ⟨vs[i], by rw [World.cell?_alloc_new, Nat.zero_add]; simp [hi], ?_⟩
  exact ((hv i _ q (List.getElem?_eq_getElem hi) hq).mod (S := none_) ((Mod.refl _ _).alloc _) (fun _ _ h => h)).mono (by simp)
theorem of_list (w : World) (vs : List Value) (ps : List (List Int)) (T : TypeId) (hl : ps.length = vs.length) (hv : ∀ (i : Nat) v p, vs[i]? = some v → ps[i]? = some p → BytesAt w w.heap.size v p) (hK : Rounds w) (cap : Nat) (hn : vs.length ≤ 140737488355328) :
    Calls Tryd.prog 32 #[.slice (some ⟨w.heap.size, 0, none⟩) vs.length cap] (w.alloc (.cells vs.toArray T)) fun e w' => e = .returned (.agg (Sha.bcells (Sha.sha ps.flatten)).toArray) ∧ Mod none_ w w' := by
  refine (of_any (w.alloc (.cells vs.toArray T)) _ vs.length cap ps (parts_new w vs ps T hl hv) (hK.mod (S := none_) ((Mod.refl _ _).alloc _) (fun h => h)) hn).mono ?_
  rintro e w' ⟨rfl, hM⟩
  exact ⟨rfl, ((Mod.refl _ _).alloc _).trans hM (fun _ _ h => h)⟩

theorem of_one (w : World) (v : Value) (p : List Int) (T : TypeId) (hv : BytesAt w w.heap.size v p) (hK : Rounds w) (cap : Nat) :
    Calls Tryd.prog 32 #[.slice (some ⟨w.heap.size, 0, none⟩) 1 cap] (w.alloc (.cells #[v] T)) fun e w' => e = .returned (.agg (Sha.bcells (Sha.sha p)).toArray) ∧ Mod none_ w w' := by
  refine (of_any (w.alloc (.cells #[v] T)) _ 1 cap [p] (parts_one w v p T hv) (hK.mod (S := none_) ((Mod.refl _ _).alloc _) (fun h => h)) (by omega)).mono ?_
  rintro e w' ⟨rfl, hM⟩
  exact ⟨by rw [List.flatten_singleton], ((Mod.refl _ _).alloc _).trans hM (fun _ _ h => h)⟩

end Go.Proofs.YtlndgnlkfhlekaaDoor
