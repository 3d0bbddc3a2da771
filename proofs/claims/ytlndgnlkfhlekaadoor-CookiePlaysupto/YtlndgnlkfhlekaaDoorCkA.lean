/- cookie: texts of 32 bytes. -/
import Derived.Test.YtlndgnlkfhlekaaDoorMacR2
import Derived.Test.YtlndgnlkfhlekaaDoorMacM
namespace Go.Proofs.YtlndgnlkfhlekaaDoor
open Go.RowKit

theorem under_sec : Tryd.prog.underlying 37 = some (.array 32 5) := by kernel_rfl
theorem size_sec : (Tryd.prog.info? 37).map (·.size) = some 32 := by kernel_rfl
theorem num_cells (s : ByteArray) : Sha.bcells (num s) = s.data.toList.map fun b => Value.int .u8 (b.toNat : Int) := by simp [Sha.bcells, num, nums]
/-- 'copy(x[:], s)' where both are 32 bytes -/
theorem run_copy_str32 (w : World) (ty : TypeId) (g : Nat) (s : ByteArray) (hs : s.size = 32) (old : List Value) (T : TypeId) (hg : Blk w g old T) (hold : old.length = 32) :
    (Builtin.copy_ #[63, 9] ty #[.slice (some ⟨g, 0, none⟩) 32 32, .string s]).run Tryd.prog w = .ok (goInt 32) (w.setRow g (Sha.bcells (num s)).toArray) := by
  obtain ⟨i, hi, hz0, hz1, hz2⟩ := info_parts info_b8
  have hl : (Sha.bcells (num s)).length = 32 := by rw [Sha.bcells, List.length_map, length_num, hs]
  have hst := store_blk (P := Tryd.prog) (cs := Sha.bcells (num s)) hg (by rw [hold, hl]) (Sha.one_b _)
  have htk : List.take 32 (List.map (fun b : UInt8 => Value.int IntKind.u8 (b.toNat : Int)) s.data.toList) = Sha.bcells (num s) := by
    rw [num_cells, List.take_of_length_le]
    rw [← num_cells, hl]; exact Nat.le_refl _
  simp [Builtin.copy_, run_underlying under_b28, Builtin.lenOf, Builtin.firstCells, sizeOf, typeInfo, hi, hs]
  rw [htk, hst]
  simp [Result.andThen]
theorem wpList_copy_str32 {w : World} {ops : Array Oper} {rest : List Oper} {o : Oper} {a : Act} {Q : Exit → Act → World → Prop} (hgd : o.guard = none) (d x : Operand)
    (ho : o.op = .call { callee := .builtin .copy, args := #[d, x], argTypes := #[63, 9] }) (g : Nat) (s : ByteArray) (hs : s.size = 32) (old : List Value) (T : TypeId) (hg : Blk w g old T) (hold : old.length = 32)
    (hd : a.eval d = .slice (some ⟨g, 0, none⟩) 32 32) (hx : a.eval x = .string s)
    (h : ∀ w', Blk w' g (Sha.bcells (num s)) T → Mod (only g) w w' → w'.heap.size = w.heap.size → wpList Tryd.prog ops Q rest (a.put o.dst (goInt 32)) w') : wpList Tryd.prog ops Q (o :: rest) a w := by
  refine wpList_plain hgd fun K hK => ?_
  have hrun := run_copy_str32 w o.type g s hs old T hg hold
  unfold Oper.wp
  simp [execOp, ho, resolve, invoke, builtin, hd, hx, hrun, Result.andThen]
  exact hK _ _ (h _ (hg.row _) ((Mod.refl _ _).setRow (fun _ => only_self g) _) (by simp))

set_option maxHeartbeats 1000000 in
set_option maxRecDepth 100000 in
theorem ckof_any (w : World) (s : ByteArray) (hs : s.size = 32) : Calls Tryd.prog 21 #[.string s] w fun e w' => e = .returned (.agg (Sha.bcells (num s)).toArray) ∧ Mod none_ w w' := by
  have hsl := fun b wx => sliceAt_whole (P := Tryd.prog) 37 5 32 under_sec size_u8 b wx
  have hl : (Sha.bcells (num s)).length = 32 := by rw [Sha.bcells, List.length_map, length_num, hs]
  go_enter Tryd.func21, Tryd.ntmps21
  go_upto_region 2 with fail
  obtain ⟨w1, hw1, hR1, hB1, hM1⟩ : ∃ w1, (w.alloc (.cells (Sha.bcells (Sha.zeros 32)).toArray 37)).alloc (.cells (Sha.bcells (Sha.zeros 32)).toArray 37) = w1 ∧
      Blk w1 w.heap.size (Sha.bcells (Sha.zeros 32)) 37 ∧ Blk w1 (w.heap.size + 1) (Sha.bcells (Sha.zeros 32)) 37 ∧ Mod none_ w w1 :=
    ⟨_, rfl, (Blk.new _ _ _).alloc _, (Blk.newA2 _ _ _ _).cs (by simp), ((Mod.refl _ _).alloc _).alloc _⟩
  change Code.wp _ _ _ _ ((w.alloc (.cells (Sha.bcells (Sha.zeros 32)).toArray 37)).alloc (.cells (Sha.bcells (Sha.zeros 32)).toArray 37))
  rw [hw1]
  clear hw1
  go_upto_region 3 with (refine wpList_copy_str32 rfl (.tmp 4) (.tmp 5) rfl (w.heap.size + 1) s hs _ _ hB1 rfl rfl rfl ?_; intro w2 hB2 hM2 hs2)
  have hR2 := hM2.blk hR1 (not_only (by omega))
  have hM2' : Mod none_ w w2 := hM1.trans hM2 (fun b hb e => by have : b = w.heap.size + 1 := e; omega)
  clear hM1 hM2 hB1 hR1
  go_wp2_with (first | (refine wpList_load_blk rfl 37 (.tmp 3) rfl (w.heap.size + 1) rfl 37 (Sha.bcells (num s)) _ hB2 under_sec rfl (by rw [size_sec, hl]) ?_) | (refine wpList_store_blk rfl 37 (.tmp 2) (.tmp 7) rfl w.heap.size (Sha.bcells (num s)) rfl rfl 37 _ hR2 (by rw [size_sec, hl]) (by rw [hl]; rfl) (Sha.one_b _) ?_; intro w9 hB9 hM9 hs9))
  refine bodyPost_ret (results_cell_row rfl _ w9 w.heap.size 37 (Sha.bcells (num s)).toArray (0, 0) _ rfl hB9 under_sec rfl (by rw [size_sec, List.size_toArray, hl])) rfl ⟨rfl, hM2'.trans hM9 (fun k hk h => absurd hk (by rw [show k = w.heap.size from h]; omega))⟩
end Go.Proofs.YtlndgnlkfhlekaaDoor
