/- strings.Builder, as far as boards use it: the walks. -/
import Derived.Test.YtlndgnlkfhlekaaBdT
import Derived.Lib.Builder
import Derived.Lib.UnsafeStr
import Derived.Laws.Externs
namespace Go.Proofs.Ytlndgnlkfhlekaa
open Go.RowKit

theorem info_u8 : (Try.prog.info? 5).map (fun i => (i.zero, i.size, i.bytes)) = some (some (.int .u8 0), 1, 1) := by kernel_rfl
theorem under_u8s : Try.prog.underlying 60 = some (.slice 5) := by kernel_rfl
theorem size_bld : (Try.prog.info? 62).map (·.size) = some 2 := by kernel_rfl
structure Bld (w : World) (base b : Nat) (p v : Value) (l : List UInt8) : Prop where
  blk : Blk w b [p, v] 62
  own : w.ownsRow base 5 1 v l.length (Lib.byteCells l)
  p : p = .pointer none ∨ p = .pointer (some ⟨b, 0, none⟩)
theorem Bld.ne {w : World} {base b : Nat} {p v : Value} {l : List UInt8} (h : Bld w base b p v l) : ∀ g, v.ownBlock = some g → g ≠ b := own_ne h.own h.blk (by decide)
theorem Bld.none {w w' : World} {base b : Nat} {p v : Value} {l : List UInt8} (h : Bld w base b p v l) (hM : Mod none_ w w') : Bld w' base b p v l := ⟨hM.blk h.blk (fun h => h), Row.none h.own hM, h.p⟩

set_option maxRecDepth 100000 in
theorem copyCheck_any (w : World) (base b : Nat) (p v : Value) (l : List UInt8) (h : Bld w base b p v l) :
    Calls Try.prog 39 #[.pointer (some ⟨b, 0, none⟩)] w fun e w' => e = .returned (.tuple #[]) ∧ Bld w' base b (.pointer (some ⟨b, 0, none⟩)) v l ∧ Mod (only b) w w' := by
  rcases h.p with rfl | rfl
  · obtain ⟨j, hj, hjs⟩ := Option.map_eq_some_iff.1 size_bld
    have q0 := h.blk.cell (j := 0) rfl
    have f0 := h.blk.frozen 0
    have hsh : w.shape? b = some (62, 2) := by
      have hb : w.heap[b]? = some (.cells #[.pointer none, v] 62 (0, 0)) := h.blk
      simp [World.shape?, hb]
    have hB : Blk (w.setCell ⟨b, 0, none⟩ (.pointer (some ⟨b, 0, none⟩))) b [.pointer (some ⟨b, 0, none⟩), v] 62 := (h.blk.set 0 _).cs rfl
    have hM : Mod (only b) w (w.setCell ⟨b, 0, none⟩ (.pointer (some ⟨b, 0, none⟩))) := (Mod.refl _ _).setCell (fun _ => only_self b) _
    have hR : Bld (w.setCell ⟨b, 0, none⟩ (.pointer (some ⟨b, 0, none⟩))) base b (.pointer (some ⟨b, 0, none⟩)) v l := ⟨hB, Row.modO h.own hM (fun g hg => not_only (h.ne g hg)), Or.inr rfl⟩
    have HR := Lib.hid (And.intro hR hM)
    clear hB hM hR h
    go_enter Try.func39, Try.ntmps39
    go_wp2
    rw [Lib.run_to_unsafe w ⟨b, 0, none⟩ Try.underlying59 Try.underlying76 hj (by rw [hjs]; decide) hsh (Nat.zero_lt_succ 1)]
    simp only [Result.andThen]
    rw [Oper.upon_value]
    go_wp2
    rw [run_callFunc_extern Try.func43 (by kernel_rfl) (by kernel_rfl) (by kernel_rfl) (e := Extern.AbiNoEscape.same) (by kernel_rfl)]
    rw [Lib.run_noEscape]
    simp only [Result.andThen]
    rw [Oper.upon_value]
    go_wp2
    rw [Lib.run_from_unsafe w ⟨b, 0, none⟩ Try.underlying76 Try.underlying59 hj hsh (by kernel_rfl)]
    simp only [Result.andThen]
    rw [Oper.upon_value]
    go_wp2
    go_end0
    exact ⟨rfl, HR.out⟩
  · have q0 := h.blk.cell (j := 0) rfl
    obtain ⟨j, hj, _⟩ := Option.map_eq_some_iff.1 size_bld
    go_enter Try.func39, Try.ntmps39
    go_wp2
    rw [Lib.run_neq_ptr_same w _ Try.underlying59 hj]
    go_wp2
    go_end0
    exact ⟨rfl, h, Mod.refl _ _⟩
theorem bcells_snoc (l : List UInt8) (x : UInt8) : Lib.byteCells l ++ [.int .u8 x.toNat] = Lib.byteCells (l ++ [x]) := by simp [Lib.byteCells]
theorem wpList_append_u {ops : Array Oper} {rest : List Oper} {o : Oper} {a : Act} {w : World} {Q : Exit → Act → World → Prop} (hgd : o.guard = none) (s x : Operand)
    (ho : o.op = .call { callee := .builtin .append, args := #[s, x], argTypes := #[60, 60] }) (base : Nat)
    (v : Value) (l : List UInt8) (hs : a.eval s = v) (hown : w.ownsRow base 5 1 v l.length (Lib.byteCells l)) (k : UInt8) (lb : Nat) (hx : a.eval x = .slice (some ⟨lb, 0, none⟩) 1 1) (hB : w.cell? ⟨lb, 0, none⟩ = some (.int .u8 k.toNat))
    (hlen : l.length + 1 ≤ 1000000) (hbase : base ≤ w.heap.size)
    (h : ∀ g2 cap2 m2 w', w'.ownsRow base 5 1 (.slice (some ⟨g2, 0, none⟩) m2 cap2) m2 (Lib.byteCells (l ++ [k])) → m2 = (l ++ [k]).length → w.grownBy w' v.ownBlock → wpList Try.prog ops Q rest (a.put o.dst (.slice (some ⟨g2, 0, none⟩) m2 cap2)) w') : wpList Try.prog ops Q (o :: rest) a w := by
  obtain ⟨i, hi, hz0, hz1, hz2⟩ := info_parts' info_u8
  refine wpList_append_own w hgd s x 60 ho base 5 i _ 1 1 under_u8s hi hz0 hz1 hz2 rfl (by decide) v l.length (Lib.byteCells l) hs hown ⟨lb, 0, none⟩ 1 1 [.int .u8 k.toNat] hx rfl ?_ (fun u hu => by rw [show u = Value.int .u8 k.toNat from by simpa using hu]; rfl) (by unfold maxLen; omega) (by omega) hbase ?_
  · intro j u hj
    match j, hj with
    | 0, hj => obtain rfl := Option.some.inj hj; exact hB
    | k + 1, hj => simp at hj
  · intro v' w' ho' hg _
    rw [bcells_snoc] at ho'
    obtain ⟨g2, cap2, rest2, rfl, _⟩ := Row.blk ho' (by omega)
    exact h g2 cap2 (l.length + 1) w' ho' (by simp) hg
def bldS (b : Nat) (v : Value) : Nat → Prop := fun k => k = b ∨ v.ownBlock = some k
set_option maxRecDepth 100000 in
theorem writeByte_any (w : World) (base b : Nat) (p v : Value) (l : List UInt8) (x : UInt8) (h : Bld w base b p v l) (hl : l.length ≤ 100000) (hbase : base ≤ w.heap.size) :
    Calls Try.prog 30 #[.pointer (some ⟨b, 0, none⟩), .int .u8 x.toNat] w fun e w' => e = .returned .nilIface ∧ ∃ v', Bld w' base b (.pointer (some ⟨b, 0, none⟩)) v' (l ++ [x]) ∧ Mod (bldS b v) w w' := by
  have hcc := copyCheck_any w base b p v l h
  have HCC := Lib.hid hcc
  clear hcc
  go_enter Try.func30, Try.ntmps30
  go_wp2_with fail
  refine HCC.out.mono ?_
  rintro r w1 ⟨rfl, hB1, hM1⟩
  have q1 := hB1.blk.cell (j := 1) rfl
  have hown1 := fun (o : Obj) => Row.none hB1.own ((Mod.refl none_ w1).alloc o)
  have hs1 := hM1.size
  have hall : ∀ w3, (w1.alloc (.cells #[.int .u8 x.toNat] 5)).grownBy w3 v.ownBlock → Mod (fun k => v.ownBlock = some k) w1 w3 ∧ Blk w3 b [.pointer (some ⟨b, 0, none⟩), v] 62 := fun w3 h2 => by
    have hM : Mod (fun k => v.ownBlock = some k) w1 w3 := ((Mod.refl (fun k => v.ownBlock = some k) w1).alloc (.cells #[.int .u8 x.toNat] 5)).trans (Mod.grownBy (S := fun k => v.ownBlock = some k) h2 (fun j _ e => e)) (fun _ _ e => e)
    exact ⟨hM, hM.blk hB1.blk (fun e => hB1.ne b e rfl)⟩
  have HOWN := Lib.hid hown1; have HALL := Lib.hid hall; have HB1 := Lib.hid hB1; have HM1 := Lib.hid hM1
  clear hown1 hall hB1 hM1 h HCC
  go_upto_region 3 with (refine wpList_append_u rfl (.tmp 11) (.tmp 13) rfl base v l rfl (HOWN.out _) x w1.heap.size rfl (by rw [World.cell?_alloc_new]; rfl) (by omega) (by simp; omega) ?_; intro g2 cap2 m2 w3 hv2 hm2 hg2; have HM2 := Lib.hid hm2; clear hm2; obtain ⟨hM3, hB3⟩ := HALL.out w3 hg2; have r1 := hB3.cell (j := 1) rfl; have r1f := hB3.frozen 1)
  obtain ⟨v2, hv2e⟩ : ∃ v2, Value.slice (some ⟨g2, 0, none⟩) m2 cap2 = v2 := ⟨_, rfl⟩
  have hv2' : w3.ownsRow base 5 1 v2 (l ++ [x]).length (Lib.byteCells (l ++ [x])) := by rw [← HM2.out, ← hv2e]; exact hv2
  rw [hv2e]
  have hB4 : Blk (w3.setCell ⟨b, 1, none⟩ v2) b [.pointer (some ⟨b, 0, none⟩), v2] 62 := (hB3.set 1 _).cs rfl
  have hM4 : Mod (only b) w3 (w3.setCell ⟨b, 1, none⟩ v2) := (Mod.refl _ _).setCell (fun _ => only_self b) _
  have hR : Bld (w3.setCell ⟨b, 1, none⟩ v2) base b (.pointer (some ⟨b, 0, none⟩)) v2 (l ++ [x]) := ⟨hB4, Row.modO hv2' hM4 (fun g hg => not_only (own_ne hv2' hB3 (by decide) g hg)), Or.inr rfl⟩
  have hMM : Mod (bldS b v) w (w3.setCell ⟨b, 1, none⟩ v2) := ((HM1.out.mono (T := only b) (S := bldS b v) (fun k _ e => Or.inl e)).trans hM3 (fun k _ e => Or.inr e)).trans hM4 (fun k _ e => Or.inl e)
  generalize w3.setCell ⟨b, 1, none⟩ v2 = w4 at *
  clear hB3 hB4 hM3 hM4 r1 r1f hv2 hv2' hg2 hv2e
  go_wp2
  go_ret
  exact ⟨rfl, v2, hR, hMM⟩
set_option maxRecDepth 100000 in
theorem appendRune_any (w : World) (base : Nat) (v : Value) (l : List UInt8) (x : UInt8) (hx : x.toNat < 128) (h : w.ownsRow base 5 1 v l.length (Lib.byteCells l)) (hl : l.length ≤ 100000) (hbase : base ≤ w.heap.size) :
    Calls Try.prog 40 #[v, .int .i32 x.toNat] w fun e w' => ∃ g2 cap2 m2, e = .returned (.slice (some ⟨g2, 0, none⟩) m2 cap2) ∧ m2 = (l ++ [x]).length ∧ w'.ownsRow base 5 1 (.slice (some ⟨g2, 0, none⟩) m2 cap2) m2 (Lib.byteCells (l ++ [x])) ∧ Mod (fun k => v.ownBlock = some k) w w' := by
  have hown1 := fun (o : Obj) => Row.none h ((Mod.refl none_ w).alloc o)
  have HOWN := Lib.hid hown1
  obtain ⟨n, hn⟩ : ∃ n, x.toNat = n := ⟨_, rfl⟩
  have e1 : IntKind.u32.wrap (n : Int) = (n : Int) := by rw [IntKind.wrap_u32]; omega
  have e2 : IntKind.u8.wrap (n : Int) = (n : Int) := by rw [IntKind.wrap_u8]; omega
  have l1 : (n : Int) ≤ 127 := by omega
  have HNx := Lib.hid hn
  rw [hn]
  clear h hown1 hn hx
  go_enter Try.func40, Try.ntmps40
  go_wp2_with (refine wpList_append_u rfl (.tmp 8) (.tmp 11) rfl base v l rfl (HOWN.out _) x w.heap.size rfl (by rw [World.cell?_alloc_new, HNx.out]; rfl) (by omega) (by simp; omega) ?_; intro g2 cap2 m2 w3 hv2 hm2 hg2; have HM2 := Lib.hid hm2; clear hm2)
  go_ret
  have hM : Mod (fun k => v.ownBlock = some k) w w3 := ((Mod.refl (fun k => v.ownBlock = some k) w).alloc (.cells #[.int .u8 n] 5)).trans (Mod.grownBy (S := fun k => v.ownBlock = some k) hg2 (fun j _ e => e)) (fun _ _ e => e)
  exact ⟨g2, cap2, m2, rfl, HM2.out, hv2, hM⟩
set_option maxRecDepth 100000 in
theorem writeRune_any (w : World) (base b : Nat) (p v : Value) (l : List UInt8) (x : UInt8) (hx : x.toNat < 128) (h : Bld w base b p v l) (hl : l.length ≤ 100000) (hbase : base ≤ w.heap.size) :
    Calls Try.prog 29 #[.pointer (some ⟨b, 0, none⟩), .int .i32 x.toNat] w fun e w' => (∃ n : Int, e = .returned (.tuple #[.int .i64 n, .nilIface])) ∧ ∃ v', Bld w' base b (.pointer (some ⟨b, 0, none⟩)) v' (l ++ [x]) ∧ Mod (bldS b v) w w' := by
  have hcc := copyCheck_any w base b p v l h
  have HCC := Lib.hid hcc
  clear hcc
  go_enter Try.func29, Try.ntmps29
  go_wp2_with fail
  refine HCC.out.mono ?_
  rintro r w1 ⟨rfl, hB1, hM1⟩
  have q1 := hB1.blk.cell (j := 1) rfl
  have hs1 := hM1.size
  have har := appendRune_any w1 base v l x hx hB1.own hl (by omega)
  obtain ⟨a0, c0, hv0⟩ : ∃ a c, v = .slice a l.length c := by
    rcases hB1.own.2 with ⟨h1, h2⟩ | ⟨g', cap', cur, h1, _⟩
    · exact ⟨none, 0, by rw [h1, h2]⟩
    · exact ⟨_, _, h1⟩
  obtain ⟨ln, hln⟩ : ∃ n, l.length = n := ⟨_, rfl⟩
  have HB1 := Lib.hid hB1; have HM1 := Lib.hid hM1
  have hne := hB1.ne
  rw [hv0] at har hne
  rw [hv0, hln] at q1
  rw [hln] at har hne
  have HAR := Lib.hid har; have HNE := Lib.hid hne
  have hbS : ∀ k, (Value.slice a0 ln c0).ownBlock = some k → bldS b v k := fun k e => Or.inr (by rw [hv0, hln]; exact e)
  have HBS := Lib.hid hbS
  clear har hB1 hM1 h HCC hv0 hln hne hbS
  go_wp2_with fail
  refine HAR.out.mono ?_
  rintro r w3 ⟨g2, cap2, m2, rfl, hm2, hv2, hM3⟩
  have hB3 := hM3.blk HB1.out.blk (fun e => HNE.out b e rfl)
  have r1 := hB3.cell (j := 1) rfl
  have r1f := hB3.frozen 1
  obtain ⟨v2, hv2e⟩ : ∃ v2, Value.slice (some ⟨g2, 0, none⟩) m2 cap2 = v2 := ⟨_, rfl⟩
  have hv2' : w3.ownsRow base 5 1 v2 (l ++ [x]).length (Lib.byteCells (l ++ [x])) := by rw [← hm2, ← hv2e]; exact hv2
  have hB4 : Blk (w3.setCell ⟨b, 1, none⟩ v2) b [.pointer (some ⟨b, 0, none⟩), v2] 62 := (hB3.set 1 _).cs rfl
  have hM4 : Mod (only b) w3 (w3.setCell ⟨b, 1, none⟩ v2) := (Mod.refl _ _).setCell (fun _ => only_self b) _
  have hR : Bld (w3.setCell ⟨b, 1, none⟩ v2) base b (.pointer (some ⟨b, 0, none⟩)) v2 (l ++ [x]) := ⟨hB4, Row.modO hv2' hM4 (fun g hg => not_only (own_ne hv2' hB3 (by decide) g hg)), Or.inr rfl⟩
  have hMM : Mod (bldS b v) w (w3.setCell ⟨b, 1, none⟩ v2) := ((HM1.out.mono (T := only b) (S := bldS b v) (fun k _ e => Or.inl e)).trans hM3 (fun k _ e => HBS.out k e)).trans hM4 (fun k _ e => Or.inl e)
  rw [← hv2e] at hR hMM
  have HR := Lib.hid (And.intro hR hMM)
  clear hB3 hB4 hM3 hM4 hv2 hv2' hv2e hR hMM hm2
  go_wp2
  go_ret2
  exact ⟨⟨_, rfl⟩, _, HR.out⟩
theorem freeze_mod (w : World) (p : Addr) (n : Nat) : Mod (only p.block) w (w.freeze p n) := by
  unfold World.freeze
  split
  · exact Mod.refl _ _
  · refine ⟨rfl, rfl, rfl, by simp, fun k hk hn => ?_⟩
    have hn' : ¬ p.block = k := fun e => hn e.symm
    simp only [Array.getElem?_modify]
    rw [if_neg hn']
set_option maxRecDepth 100000 in
theorem string_any (w : World) (base b : Nat) (p v : Value) (l : List UInt8) (h : Bld w base b p v l) (h0 : l ≠ []) :
    Calls Try.prog 31 #[.pointer (some ⟨b, 0, none⟩)] w fun e w' => e = .returned (.string ⟨l.toArray⟩) ∧ Mod (bldS b v) w w' := by
  have hl0 : l.length ≠ 0 := by simpa using h0
  have hc : Try.prog.cellsOf 5 = 1 := by kernel_rfl
  obtain ⟨g, cap, cur, rfl, hbg, hg, hnc, hcm, hcs, htake⟩ : ∃ g cap cur, v = .slice (some ⟨g, 0, none⟩) l.length cap ∧ base ≤ g ∧ w.heap[g]? = some (.cells cur 5 (0, 0)) ∧ l.length ≤ cap ∧ cap ≤ maxLen ∧ cur.size = cap * 1 ∧ cur.toList.take (l.length * 1) = Lib.byteCells l := by
    rcases h.own.2 with ⟨_, hz⟩ | ⟨g, cap, cur, hv, r⟩
    · exact absurd hz hl0
    · exact ⟨g, cap, cur, hv, r⟩
  have c1 : w.cell? ⟨b, 1, none⟩ = some (.slice (some ⟨g, 0, none⟩) l.length cap) := h.blk.cell (j := 1) rfl
  have hSD : ∀ wq : World, (Builtin.unsafeSliceData_ #[60] 75 #[.slice (some ⟨g, 0, none⟩) l.length cap]).run Try.prog wq = .ok (.pointer (some ⟨g, 0, none⟩)) wq :=
    fun wq => Lib.run_unsafeSliceData_row _ _ _ _ _ _ (by omega)
  have hUS : (Builtin.unsafeString_ #[75, 3] 9 #[.pointer (some ⟨g, 0, none⟩), .int .i64 l.length]).run Try.prog w.drew = .ok (.string ⟨l.toArray⟩) (w.drew.freeze ⟨g, 0, none⟩ l.length) := by
    refine Lib.run_unsafeString_row w.drew 75 3 9 5 Try.underlying75 hc g cur.size (by have hg' : w.drew.heap[g]? = some (.cells cur 5 (0, 0)) := hg; simp [World.shape?, hg']) l h0 (by omega) (by unfold maxLen at hcm; omega) ?_
    intro j x hx
    have := World.ownsRow.cells (w := w) h.own (g := g) rfl j (.int .u8 x.toNat) (by simp [Lib.byteCells, hx])
    exact this
  have hM : Mod (bldS b (.slice (some ⟨g, 0, none⟩) l.length cap)) w (w.drew.freeze ⟨g, 0, none⟩ l.length) := ((Mod.refl _ w).drew).trans (freeze_mod w.drew ⟨g, 0, none⟩ l.length) (fun k _ e => Or.inr (by rw [show k = g from e]; rfl))
  obtain ⟨n, hn⟩ : ∃ n, l.length = n := ⟨_, rfl⟩
  obtain ⟨S, hS⟩ : ∃ S : ByteArray, ⟨l.toArray⟩ = S := ⟨_, rfl⟩
  rw [hn] at c1 hUS hM
  simp only [hn] at hSD
  rw [hS] at hUS ⊢
  rw [hn] at ⊢
  clear h htake hcs hcm hg hn hS hl0 hnc h0
  go_enter Try.func31, Try.ntmps31
  go_wp2
  go_still_tail 10, (by kernel_rfl)
  change wpList _ _ _ _ _ w.drew
  go_wp2
  go_ret
  exact ⟨rfl, hM⟩
end Go.Proofs.Ytlndgnlkfhlekaa
