/- The sines by their table: plain. -/
import Derived.Test.YtinjlkceplhibaaDoorBase3
import Derived.Laws.Bits64
import Derived.Laws.BitsLemmas
namespace Go.Proofs.YtinjlkceplhibaaDoor
open Go.RowKit

def sineTab : List Int := [0, 1608, 3216, 4821, 6424, 8022, 9616, 11204, 12785, 14359, 15924, 17479, 19024, 20557, 22078, 23586, 25080, 26558, 28020, 29466, 30893, 32303, 33692, 35062, 36410, 37736, 39040, 40320, 41576, 42806, 44011, 45190, 46341, 47464, 48559, 49624, 50660, 51665, 52639, 53581, 54491, 55368, 56212, 57022, 57798, 58538, 59244, 59914, 60547, 61145, 61705, 62228, 62714, 63162, 63572, 63944, 64277, 64571, 64827, 65043, 65220, 65358, 65457, 65516, 65536]
def sine (i : Nat) : Int := sineTab.getD i 0
/-- the sine of a heading below 128 -/
def sinH (m : Nat) : Int := if 64 < m then sine (128 - m) else sine m
/-- .. below 256 -/
def sinN (m : Nat) : Int := if 128 ≤ m then - sinH (m - 128) else sinH m
def sinT (h : Int) : Int := sinN (h % 256).toNat
theorem sineTab_le : ∀ x ∈ sineTab, 0 ≤ x ∧ x ≤ 65536 := by decide
theorem sine_bd (i : Nat) : 0 ≤ sine i ∧ sine i ≤ 65536 := by
  unfold sine
  rw [List.getD_eq_getElem?_getD]
  cases h : sineTab[i]? with
  | none => simp
  | some x => exact sineTab_le x (List.mem_of_getElem? h)
theorem sinH_bd (m : Nat) : 0 ≤ sinH m ∧ sinH m ≤ 65536 := by unfold sinH; split <;> exact sine_bd _
theorem sinN_bd (m : Nat) : -65536 ≤ sinN m ∧ sinN m ≤ 65536 := by
  unfold sinN
  split
  · have := sinH_bd (m - 128); omega
  · have := sinH_bd m; omega
theorem sinT_bd (h : Int) : -65536 ≤ sinT h ∧ sinT h ≤ 65536 := sinN_bd _
theorem and255 (h : Int) : Go.bits .and .i64 h 255 = h % 256 := by
  have h1 : (BitVec.ofInt 64 h).toNat = (h % 18446744073709551616).toNat := by rw [BitVec.toNat_ofInt]; rfl
  have h2 : (BitVec.ofInt 64 255).toNat = 255 := by decide
  show IntKind.i64.wrap ((BitVec.ofInt 64 h &&& BitVec.ofInt 64 255).toNat : Int) = _
  rw [BitVec.toNat_and, h1, h2, show (255 : Nat) = 2 ^ 8 - 1 by decide, Nat.and_two_pow_sub_one_eq_mod, IntKind.wrap_i64]
  omega
/-- the table in memory -/
def Sines (w : World) : Prop := ∀ i, i < 65 → w.cell? ⟨0, i, none⟩ = some (.int .i64 (sine i))
theorem Sines.drew {w : World} (h : Sines w) : Sines w.drew := h
theorem Sines.drewN {w : World} {n : Nat} (h : Sines w) : Sines (w.drewN n) := h
theorem Sines.lt {w : World} (h : Sines w) : 0 < w.heap.size := World.block_lt_of_cell? _ _ (h 0 (by decide))
theorem Sines.below {w w' : World} (h : Sines w) (hb : Below w.heap.size w w') : Sines w' := fun i hi => (hb.cell h.lt).trans (h i hi)
theorem Sines.mod {w w' : World} (h : Sines w) (hM : Mod none_ w w') : Sines w' := h.below hM.below
end Go.Proofs.YtinjlkceplhibaaDoor
