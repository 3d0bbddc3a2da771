/- joustlaw10's asked: the walk. -/
import Derived.Test.YtlndgnlkfhlekaaDoorCkW
import Derived.Test.YtlndgnlkfhlekaaDoorCkS
import Derived.StillTailTactics
namespace Go.Proofs.YtlndgnlkfhlekaaDoor
open Go.RowKit
theorem wpList_bytes_mk {P : Program} {ops : Array Oper} {rest : List Oper} {o : Oper} {a : Act} {w : World} {Q : Exit → Act → World → Prop} (hgd : Region.wanted o (yielded ops a.tmps) = true) (src dst e : TypeId) (x : Operand) (ho : o.op = .convert src dst x)
    (s : ByteArray) (hx : a.eval x = .string s) (hs : P.underlying src = some .string) (hd : P.underlying dst = some (.slice e)) (he : P.underlying e = some (.int .u8)) (hl : s.size ≤ 140737488355328)
    (h : ∀ w' cap, (∀ j, j < s.size → w'.cell? ⟨w.heap.size, j, none⟩ = some (.int .u8 (Sha.g (nums s.data.toList) j))) → (∀ j, j < s.size → w'.frozen? ⟨w.heap.size, j, none⟩ = false) → s.size ≤ cap → Mod none_ w w' → w'.heap.size = w.heap.size + 1 → wpList P ops Q rest (a.put o.dst (.slice (some ⟨w.heap.size, 0, none⟩) s.size cap)) w') :
    wpList P ops Q (o :: rest) a w := by
  refine wpList_want hgd fun K hK => ?_
  have hrun := run_bytes_of_string (P := P) w src dst e s hs hd he
  unfold Oper.wp
  simp only [execOp, ho, hx, Sem.run_bind, hrun, Result.andThen, Sem.run_pure]
  have hcap : s.size ≤ grownCap w s.size 0 e := grownCap_ge _ _ _ _
  refine hK _ _ (h _ (grownCap w s.size 0 e) ?_ ?_ hcap ((Mod.refl _ _).drew.alloc _) (by simp))
  · intro j hj
    have hj' : j < s.data.size := hj
    rw [show w.heap.size = w.drew.heap.size from rfl, World.cell?_alloc_mark, bytesRow_at s _ j hj', Sha.g, nums, List.getElem?_map, List.getElem?_eq_getElem (by simpa using hj')]
    rfl
  · intro j hj
    have hsz : s.size ≤ (bytesRow s (grownCap w s.size 0 e)).size := by
      have hj' : s.size - 1 < s.data.size := by show s.size - 1 < s.size; omega
      have := (Array.getElem?_eq_some_iff.1 (bytesRow_at s (grownCap w s.size 0 e) (s.size - 1) hj')).1
      omega
    have hh : (w.drew.alloc (.cells (bytesRow s (grownCap w s.size 0 e)) e ((bytesRow s (grownCap w s.size 0 e)).size, (bytesRow s (grownCap w s.size 0 e)).size + 1))).heap[w.heap.size]? = some (.cells (bytesRow s (grownCap w s.size 0 e)) e ((bytesRow s (grownCap w s.size 0 e)).size, (bytesRow s (grownCap w s.size 0 e)).size + 1)) := heap_alloc_new w.drew _
    simp only [World.frozen?, hh]
    simp
    omega
theorem slice_to_u64 (g n c h : Nat) (h0 : 0 < c) (hh : h ≤ c) (w : World) :
    (Instr.slice 44 (.slice (some ⟨g, 0, none⟩) n c) none (some (.int .u64 (h : Int))) none).run Tryd.prog w = .ok (.slice (some ⟨g, 0, none⟩) h c) w := by
  have hel : Tryd.prog.elem 44 = 9 := by simp [Program.elem]
  rw [run_slice_h w 44 (some ⟨g, 0, none⟩) n c (by rw [hel]; exact under_s44) .u64 h (by omega) (by omega), hel]
  cases hq : Tryd.prog.info? 9 with
  | none => have := size_str; simp [hq] at this
  | some i =>
    have hs : i.size = 1 := by have := size_str; simpa [hq] using this
    have hz : (sizeOf 9).run Tryd.prog w = .ok 1 w := by simp [sizeOf, typeInfo, hq, hs]
    rw [hz]
    simp only [Result.andThen, sliced, Int.toNat_natCast, Nat.zero_mul, Nat.sub_zero]
    rw [if_neg (by omega)]
    rfl

set_option maxHeartbeats 4000000 in
set_option maxRecDepth 100000 in
theorem asked_any (w : World) (hT : RefTabs w) (k : Nat) (v : Value) (ss : List ByteArray) (o : CkOp) (ho : o.Ok) (h : RefV w k v ss) (ha : Fits o.a) (hb : Fits o.b) :
    Calls Tryd.prog 24 #[.pointer (some ⟨k, 0, none⟩), .agg o.cells.toArray] w fun r w' => (∃ c, r = .returned (.string c)) ∧ Mod none_ w w' := by
  have H := Lib.hid h; have HT := Lib.hid hT
  obtain ⟨g, cap, rest, rfl, hB, hc⟩ := h.sl
  have q0 := h.blk.cell (j := 0) rfl
  obtain ⟨n, hn⟩ : ∃ n, ss.length = n := ⟨_, rfl⟩
  have hn0 : 1 ≤ n := by rw [← hn]; exact h.pos
  have hkl := h.blk.lt
  rw [hn] at q0 hc
  obtain ⟨kind, which, a, b, c, ep, own, turned⟩ := o
  replace ha : Fits a := ha
  replace hb : Fits b := hb
  have hep : 0 ≤ ep ∧ ep < 18446744073709551616 := ho.1
  have htu : -9223372036854775808 ≤ turned ∧ turned ≤ 9223372036854775807 := ho.2.2
  unfold CkOp.cells
  dsimp only
  clear h hT hB ho
  go_enter Tryd.func24, Tryd.ntmps24
  go_upto_region 1 with fail
  obtain ⟨w1, hw1⟩ : ∃ w1, w.alloc (.cells #[.int .i64 kind, .int .i64 which, .string a, .string b, .string c, .int .u64 ep, .bool own, .int .i64 turned] 33) = w1 := ⟨_, rfl⟩
  have hM1 : Mod none_ w w1 := hw1 ▸ (Mod.refl none_ w).alloc _
  have hB1 : Blk w1 w.heap.size [.int .i64 kind, .int .i64 which, .string a, .string b, .string c, .int .u64 ep, .bool own, .int .i64 turned] 33 := hw1 ▸ Blk.new w _ _
  have hs1 : w1.heap.size = w.heap.size + 1 := by rw [← hw1]; simp
  rw [hw1]
  obtain ⟨Y, hY⟩ : ∃ Y, w.heap.size = Y := ⟨_, rfl⟩
  rw [hY] at hB1 hs1 ⊢
  have p2 := hB1.cell (j := 2) rfl
  have p3 := hB1.cell (j := 3) rfl
  have p4 := hB1.cell (j := 4) rfl
  have p5 := hB1.cell (j := 5) rfl
  have p6 := hB1.cell (j := 6) rfl
  have p7 := hB1.cell (j := 7) rfl
  have p0 := hM1.cellS q0 (fun h => h)
  have HM1 := Lib.hid hM1; have HN := Lib.hid hn; have HB1 := Lib.hid hB1
  clear hM1 hn hB1 q0 hw1
  cases own with
  | false =>
    go_wp2
    go_ret
    exact ⟨⟨_, rfl⟩, HM1.out⟩
  | true =>
    go_upto_region 4 with fail
    obtain ⟨w2, hw2⟩ : ∃ w2, w1.alloc (.cells #[.slice (some ⟨g, 0, none⟩) n cap] 59) = w2 := ⟨_, rfl⟩
    have hM2 : Mod none_ w1 w2 := hw2 ▸ (Mod.refl none_ w1).alloc _
    have hB2 : Blk w2 (Y + 1) [.slice (some ⟨g, 0, none⟩) n cap] 59 := by
      have := Blk.new w1 [.slice (some ⟨g, 0, none⟩) n cap] 59
      rw [hs1] at this
      rw [← hw2]
      exact this
    have hs2 : w2.heap.size = Y + 2 := by rw [← hw2]; simp [hs1]
    rw [hw2]
    replace p2 := hM2.cellS p2 (fun h => h)
    replace p3 := hM2.cellS p3 (fun h => h)
    replace p5 := hM2.cellS p5 (fun h => h)
    replace p7 := hM2.cellS p7 (fun h => h)
    replace p0 := hM2.cellS p0 (fun h => h)
    clear p4 p6
    have HM2 := Lib.hid (HM1.out.then hM2); have HB2 := Lib.hid hB2
    clear hM2 hB2 hw2 HB1 HM1
    have hn1 : n ≤ 1048576 := by have := H.out.few; rw [HN.out] at this; exact this
    have en : IntKind.u64.wrap (n : Int) = (n : Int) := by rw [IntKind.wrap_u64]; omega
    -- behind the choice of the secrets
    by_cases c0 : ep = 0
    · subst c0
      go_quiet (fail)
      obtain ⟨w3, hw3, hM3⟩ : ∃ w3, w2.drewN nq = w3 ∧ Mod none_ w2 w3 := ⟨_, rfl, (Mod.refl _ _).drewN _⟩
      rw [hw3]
      have hs3 : w3.heap.size = Y + 2 := by rw [← hw3]; exact hs2
      have HM3 := Lib.hid (HM2.out.then hM3); have HB3 := Lib.hid (hM3.blk HB2.out (fun h => h))
      replace p2 := hM3.cellS p2 (fun h => h)
      replace p3 := hM3.cellS p3 (fun h => h)
      replace p5 := hM3.cellS p5 (fun h => h)
      replace p7 := hM3.cellS p7 (fun h => h)
      replace p0 := hM3.cellS p0 (fun h => h)
      clear hM3 hw3 hs2
      clear p0 p5
      obtain ⟨WW, hWW⟩ : ∃ x, x = w3 := ⟨_, rfl⟩
      obtain ⟨e, hee⟩ : ∃ x, x = n := ⟨_, rfl⟩
      rw [← hWW] at HM3 HB3 hs3 p2 p3 p7 ⊢
      have HMM := HM3; have HBB := HB3
      rw [← hee] at HBB
      have hen : e ≤ n := by omega
      have he1 : 1 ≤ e := by omega
      clear hWW
      -- the text is baked and laid as bytes
      have hV : RefV WW (Y + 1) (.slice (some ⟨g, 0, none⟩) e cap) (ss.take e) := by
        obtain ⟨g', cap', rest', ee, hBg, hcc⟩ := H.out.sl
        have hle : (ss.take e).length = e := by rw [List.length_take, HN.out]; omega
        obtain rfl : g = g' := by injection ee with e1; injection e1 with e1; injection e1
        refine ⟨HBB.out, ⟨g, cap, strs (ss.drop e) ++ rest', by rw [hle], ?_, by omega⟩, fun s hs => H.out.s32 s (List.mem_of_mem_take hs), by omega, by rw [hle]; omega⟩
        have := HMM.out.blk hBg (fun h => h)
        refine this.cs ?_
        rw [← List.append_assoc]
        congr 1
        unfold strs
        rw [← List.map_append, List.take_append_drop]
      obtain ⟨E, hE⟩ : ∃ E, ((e : Int)) = E := ⟨_, rfl⟩
      try rw [hE]
      clear hE
      obtain ⟨m, hm⟩ : ∃ m, e = m + 1 := ⟨e - 1, by omega⟩
      obtain ⟨s, hsm⟩ : ∃ s, (ss.take e)[m]? = some s := ⟨_, List.getElem?_eq_getElem (by rw [List.length_take, HN.out]; omega)⟩
      have hbk := rjBake_any WW (HT.out.none HMM.out) (Y + 1) _ _ a b m s hsm (by rw [List.length_take, HN.out]; omega) hV ha hb
      have hz := Ck.size_ck s a b ((m : Int) + 1)
      obtain ⟨Z, hZ⟩ : ∃ Z, Ck.ck s a b ((m : Int) + 1) = Z := ⟨_, rfl⟩
      rw [hZ] at hbk hz
      have HBK := Lib.hid hbk
      have hYs := World.block_lt_of_cell? _ _ p7
      clear hbk hV hsm hZ
      go_wp2_with fail
      refine HBK.out.mono ?_
      rintro r w5 ⟨rfl, hN5⟩
      have HM5 := Lib.hid (HMM.out.then hN5)
      have hs5 := hN5.size
      replace p7 := hN5.cellS p7 (fun h => h)
      clear hN5 p2 p3 HBK
      go_upto_region 7 with (refine wpList_bytes_mk (by rfl) _ _ _ (.tmp 47) rfl Z rfl under_str under_b28 under_b8 (by omega) ?_; intro w6 cap6 hC6 hf6 hc6 hM6 hs6)
      have HM6 := Lib.hid (HM5.out.then hM6)
      replace p7 := hM6.cellS p7 (fun h => h)
      obtain ⟨C, hCe⟩ : ∃ C, w5.heap.size = C := ⟨_, rfl⟩
      rw [hCe] at hC6 hf6 hs6 ⊢
      rw [hz] at hC6 hf6 hc6
      have hbz := nums_bytes Z.data.toList
      have hlz : (nums Z.data.toList).length = 32 := by rw [length_nums]; exact hz
      obtain ⟨bs, hbs⟩ : ∃ bs, nums Z.data.toList = bs := ⟨_, rfl⟩
      rw [hbs] at hC6 hbz hlz
      have HHC := Lib.hid hC6; have HHF := Lib.hid hf6; have HBZ := Lib.hid hbz; have HLZ := Lib.hid hlz; have HHM := Lib.hid hM6
      clear hC6 hf6 hbz hlz hbs hM6
      by_cases htp : 0 < turned
      · have g2 : decide (0 < turned) = true := by simpa using htp
        obtain ⟨t, htm, ht32⟩ : ∃ t : Nat, Int.tmod turned 32 = (t : Int) ∧ t < 32 := by
          have h1 := Int.tmod_nonneg 32 (show 0 ≤ turned by omega)
          have h2 := Int.tmod_lt_of_pos turned (show (0 : Int) < 32 by decide)
          exact ⟨(Int.tmod turned 32).toNat, by omega, by omega⟩
        obtain ⟨x, hx⟩ : ∃ x, Sha.g bs t = x := ⟨_, rfl⟩
        have ct := HHC.out t ht32
        rw [hx] at ct
        have cf := HHF.out t ht32
        have l0 : (0 : Int) ≤ (t : Int) := by omega
        have l1 : (t : Int) < 32 := by omega
        go_upto_region 8 with fail
        go_still_tail 12, (by kernel_rfl)
        change wpList _ _ _ _ _ w6.drew
        have ct' : w6.drew.cell? ⟨C, t, none⟩ = _ := ct
        have cf' : w6.drew.frozen? ⟨C, t, none⟩ = false := cf
        go_upto_region 9 with fail
        have hMs : Mod (only C) w6 ((w6.setCell ⟨C, t, none⟩ (.int .u8 (bits BinOp.xor IntKind.u8 x 1))).drew) := ((Mod.refl (only C) w6).setCell (fun _ => only_self C) _).drew
        have hcs : ∀ j, j < 32 → ((w6.setCell ⟨C, t, none⟩ (.int .u8 (bits BinOp.xor IntKind.u8 x 1))).drew).cell? ⟨C, j, none⟩ = some (.int .u8 (Sha.g (bs.set t (bits BinOp.xor IntKind.u8 x 1)) j)) := by
          intro j hj
          by_cases hjt : j = t
          · subst hjt
            show (w6.setCell ⟨C, j, none⟩ (.int .u8 (bits BinOp.xor IntKind.u8 x 1))).cell? ⟨C, j, none⟩ = _
            rw [World.cell?_setCell_same w6 _ _ ct]
            unfold Sha.g
            rw [List.getElem?_set_self (by rw [HLZ.out]; exact hj)]
            rfl
          · show (w6.setCell ⟨C, t, none⟩ (.int .u8 (bits BinOp.xor IntKind.u8 x 1))).cell? ⟨C, j, none⟩ = _
            rw [World.cell?_setCell_other w6 _ _ _ (fun h => hjt (by injection h with _ h2; exact h2.symm))]
            unfold Sha.g
            rw [List.getElem?_set_ne (by omega)]
            exact HHC.out j hj
        have hxb : 0 ≤ bits BinOp.xor IntKind.u8 x 1 ∧ bits BinOp.xor IntKind.u8 x 1 ≤ 255 := by
          have hx0 : 0 ≤ x ∧ x ≤ 255 := by
            rw [← hx]
            unfold Sha.g
            cases hq : bs[t]? with
            | none => simp
            | some y => exact HBZ.out y (List.mem_of_getElem? hq)
          obtain ⟨y, rfl⟩ : ∃ y : Nat, x = y := ⟨x.toNat, by omega⟩
          have := bits_xor_nat8 y 1 (by omega) (by decide)
          rw [show (1 : Int) = ((1 : Nat) : Int) from rfl, this]
          have h2 : y ^^^ 1 < 2 ^ 8 := Nat.xor_lt_two_pow (by omega) (by decide)
          omega
        have hM7 : Mod none_ w ((w6.setCell ⟨C, t, none⟩ (.int .u8 (bits BinOp.xor IntKind.u8 x 1))).drew) := (HM5.out.then (Mod.refl none_ w5)).trans (HHM.out.trans hMs (T := only C) (fun j hj e => by have : j = C := e; omega)) (fun _ _ h => h)
        generalize bits BinOp.xor IntKind.u8 x 1 = v at *
        generalize (w6.setCell ⟨C, t, none⟩ (.int .u8 v)).drew = w7 at *
        have hBA : BytesAt w7 (C + 1) (.slice (some ⟨C, 0, none⟩) 32 cap6) (bs.set t v) := by
          have hl : (bs.set t v).length = 32 := by rw [List.length_set, HLZ.out]
          refine ⟨?_, by omega, _, _, by rw [hl], by omega, (fun h => by cases h), fun _ => ⟨C, 0, rfl, by omega, fun j hj => by rw [Nat.zero_add]; exact hcs j (by omega)⟩⟩
          intro y hy
          rcases List.mem_or_eq_of_mem_set hy with h1 | h1
          · exact HBZ.out y h1
          · rw [h1]; exact hxb
        have hcv := str_any w7 _ _ _ hBA
        clear hBA hcs hMs ct cf HHC HHF
        go_wp2_with fail
        go_ret
        exact ⟨⟨_, rfl⟩, hM7⟩
      · have g2 : decide (0 < turned) = false := by simpa using htp
        have hBA : BytesAt w6 (C + 1) (.slice (some ⟨C, 0, none⟩) 32 cap6) bs := by
          have hl := HLZ.out
          exact ⟨HBZ.out, by omega, _, _, by rw [hl], by omega, (fun h => by cases h), fun _ => ⟨C, 0, rfl, by omega, fun j hj => by rw [Nat.zero_add]; exact HHC.out j (by omega)⟩⟩
        have hcv := str_any w6 _ _ _ hBA
        clear hBA HHC HHF
        go_wp2_with fail
        go_ret
        exact ⟨⟨_, rfl⟩, HM6.out⟩

    · have g0 : decide ((0 : Int) < ep) = true := by simp; omega
      by_cases c1 : ep ≤ (n : Int)
      · have g1 : decide (ep ≤ (n : Int)) = true := by simpa using c1
        go_quiet (fail)
        obtain ⟨e, rfl⟩ : ∃ e : Nat, ep = e := ⟨ep.toNat, by omega⟩
        obtain ⟨w3, hw3, hM3⟩ : ∃ w3, w2.drewN nq = w3 ∧ Mod none_ w2 w3 := ⟨_, rfl, (Mod.refl _ _).drewN _⟩
        rw [hw3]
        have hs3 : w3.heap.size = Y + 2 := by rw [← hw3]; exact hs2
        have HM3 := Lib.hid (HM2.out.then hM3); have HB3 := Lib.hid (hM3.blk HB2.out (fun h => h))
        replace p2 := hM3.cellS p2 (fun h => h)
        replace p3 := hM3.cellS p3 (fun h => h)
        replace p5 := hM3.cellS p5 (fun h => h)
        replace p7 := hM3.cellS p7 (fun h => h)
        replace p0 := hM3.cellS p0 (fun h => h)
        clear hM3 hw3 hs2
        have hsl := slice_to_u64 g n cap e (by omega) (by omega)
        have k0 := HB3.out.cell (j := 0) rfl
        have kf := HB3.out.frozen 0
        go_upto_region 5 with fail
        go_still_tail 10, (by kernel_rfl)
        change wpList _ _ _ _ _ w3.drew
        have k0' : w3.drew.cell? ⟨Y + 1, 0, none⟩ = _ := k0
        have kf' : w3.drew.frozen? ⟨Y + 1, 0, none⟩ = false := kf
        go_upto_region 6 with fail
        have hMs : Mod (only (Y + 1)) w3 ((w3.setCell ⟨Y + 1, 0, none⟩ (.slice (some ⟨g, 0, none⟩) e cap)).drew) := ((Mod.refl (only (Y + 1)) w3).setCell (fun _ => only_self _) _).drew
        have HBB : Hid (Blk ((w3.setCell ⟨Y + 1, 0, none⟩ (.slice (some ⟨g, 0, none⟩) e cap)).drew) (Y + 1) [.slice (some ⟨g, 0, none⟩) e cap] 59) := Lib.hid (((HB3.out.set 0 _).cs rfl).drew)
        have HMM : Hid (Mod none_ w ((w3.setCell ⟨Y + 1, 0, none⟩ (.slice (some ⟨g, 0, none⟩) e cap)).drew)) := Lib.hid (HM3.out.trans hMs (fun j hj e => by have : j = Y + 1 := e; omega))
        replace p2 := hMs.cellS p2 (not_only (by show Y ≠ Y + 1; omega))
        replace p3 := hMs.cellS p3 (not_only (by show Y ≠ Y + 1; omega))
        replace p7 := hMs.cellS p7 (not_only (by show Y ≠ Y + 1; omega))
        have hen : e ≤ n := by omega
        have he1 : 1 ≤ e := by omega
        generalize (w3.setCell ⟨Y + 1, 0, none⟩ (.slice (some ⟨g, 0, none⟩) e cap)).drew = WW at *
        clear hMs k0 kf p0 p5 hsl HB3 HM3 hs3
        -- the text is baked and laid as bytes
        have hV : RefV WW (Y + 1) (.slice (some ⟨g, 0, none⟩) e cap) (ss.take e) := by
          obtain ⟨g', cap', rest', ee, hBg, hcc⟩ := H.out.sl
          have hle : (ss.take e).length = e := by rw [List.length_take, HN.out]; omega
          obtain rfl : g = g' := by injection ee with e1; injection e1 with e1; injection e1
          refine ⟨HBB.out, ⟨g, cap, strs (ss.drop e) ++ rest', by rw [hle], ?_, by omega⟩, fun s hs => H.out.s32 s (List.mem_of_mem_take hs), by omega, by rw [hle]; omega⟩
          have := HMM.out.blk hBg (fun h => h)
          refine this.cs ?_
          rw [← List.append_assoc]
          congr 1
          unfold strs
          rw [← List.map_append, List.take_append_drop]
        obtain ⟨E, hE⟩ : ∃ E, ((e : Int)) = E := ⟨_, rfl⟩
        try rw [hE]
        clear hE
        obtain ⟨m, hm⟩ : ∃ m, e = m + 1 := ⟨e - 1, by omega⟩
        obtain ⟨s, hsm⟩ : ∃ s, (ss.take e)[m]? = some s := ⟨_, List.getElem?_eq_getElem (by rw [List.length_take, HN.out]; omega)⟩
        have hbk := rjBake_any WW (HT.out.none HMM.out) (Y + 1) _ _ a b m s hsm (by rw [List.length_take, HN.out]; omega) hV ha hb
        have hz := Ck.size_ck s a b ((m : Int) + 1)
        obtain ⟨Z, hZ⟩ : ∃ Z, Ck.ck s a b ((m : Int) + 1) = Z := ⟨_, rfl⟩
        rw [hZ] at hbk hz
        have HBK := Lib.hid hbk
        have hYs := World.block_lt_of_cell? _ _ p7
        clear hbk hV hsm hZ
        go_wp2_with fail
        refine HBK.out.mono ?_
        rintro r w5 ⟨rfl, hN5⟩
        have HM5 := Lib.hid (HMM.out.then hN5)
        have hs5 := hN5.size
        replace p7 := hN5.cellS p7 (fun h => h)
        clear hN5 p2 p3 HBK
        go_upto_region 7 with (refine wpList_bytes_mk (by rfl) _ _ _ (.tmp 47) rfl Z rfl under_str under_b28 under_b8 (by omega) ?_; intro w6 cap6 hC6 hf6 hc6 hM6 hs6)
        have HM6 := Lib.hid (HM5.out.then hM6)
        replace p7 := hM6.cellS p7 (fun h => h)
        obtain ⟨C, hCe⟩ : ∃ C, w5.heap.size = C := ⟨_, rfl⟩
        rw [hCe] at hC6 hf6 hs6 ⊢
        rw [hz] at hC6 hf6 hc6
        have hbz := nums_bytes Z.data.toList
        have hlz : (nums Z.data.toList).length = 32 := by rw [length_nums]; exact hz
        obtain ⟨bs, hbs⟩ : ∃ bs, nums Z.data.toList = bs := ⟨_, rfl⟩
        rw [hbs] at hC6 hbz hlz
        have HHC := Lib.hid hC6; have HHF := Lib.hid hf6; have HBZ := Lib.hid hbz; have HLZ := Lib.hid hlz; have HHM := Lib.hid hM6
        clear hC6 hf6 hbz hlz hbs hM6
        by_cases htp : 0 < turned
        · have g2 : decide (0 < turned) = true := by simpa using htp
          obtain ⟨t, htm, ht32⟩ : ∃ t : Nat, Int.tmod turned 32 = (t : Int) ∧ t < 32 := by
            have h1 := Int.tmod_nonneg 32 (show 0 ≤ turned by omega)
            have h2 := Int.tmod_lt_of_pos turned (show (0 : Int) < 32 by decide)
            exact ⟨(Int.tmod turned 32).toNat, by omega, by omega⟩
          obtain ⟨x, hx⟩ : ∃ x, Sha.g bs t = x := ⟨_, rfl⟩
          have ct := HHC.out t ht32
          rw [hx] at ct
          have cf := HHF.out t ht32
          have l0 : (0 : Int) ≤ (t : Int) := by omega
          have l1 : (t : Int) < 32 := by omega
          go_upto_region 8 with fail
          go_still_tail 12, (by kernel_rfl)
          change wpList _ _ _ _ _ w6.drew
          have ct' : w6.drew.cell? ⟨C, t, none⟩ = _ := ct
          have cf' : w6.drew.frozen? ⟨C, t, none⟩ = false := cf
          go_upto_region 9 with fail
          have hMs : Mod (only C) w6 ((w6.setCell ⟨C, t, none⟩ (.int .u8 (bits BinOp.xor IntKind.u8 x 1))).drew) := ((Mod.refl (only C) w6).setCell (fun _ => only_self C) _).drew
          have hcs : ∀ j, j < 32 → ((w6.setCell ⟨C, t, none⟩ (.int .u8 (bits BinOp.xor IntKind.u8 x 1))).drew).cell? ⟨C, j, none⟩ = some (.int .u8 (Sha.g (bs.set t (bits BinOp.xor IntKind.u8 x 1)) j)) := by
            intro j hj
            by_cases hjt : j = t
            · subst hjt
              show (w6.setCell ⟨C, j, none⟩ (.int .u8 (bits BinOp.xor IntKind.u8 x 1))).cell? ⟨C, j, none⟩ = _
              rw [World.cell?_setCell_same w6 _ _ ct]
              unfold Sha.g
              rw [List.getElem?_set_self (by rw [HLZ.out]; exact hj)]
              rfl
            · show (w6.setCell ⟨C, t, none⟩ (.int .u8 (bits BinOp.xor IntKind.u8 x 1))).cell? ⟨C, j, none⟩ = _
              rw [World.cell?_setCell_other w6 _ _ _ (fun h => hjt (by injection h with _ h2; exact h2.symm))]
              unfold Sha.g
              rw [List.getElem?_set_ne (by omega)]
              exact HHC.out j hj
          have hxb : 0 ≤ bits BinOp.xor IntKind.u8 x 1 ∧ bits BinOp.xor IntKind.u8 x 1 ≤ 255 := by
            have hx0 : 0 ≤ x ∧ x ≤ 255 := by
              rw [← hx]
              unfold Sha.g
              cases hq : bs[t]? with
              | none => simp
              | some y => exact HBZ.out y (List.mem_of_getElem? hq)
            obtain ⟨y, rfl⟩ : ∃ y : Nat, x = y := ⟨x.toNat, by omega⟩
            have := bits_xor_nat8 y 1 (by omega) (by decide)
            rw [show (1 : Int) = ((1 : Nat) : Int) from rfl, this]
            have h2 : y ^^^ 1 < 2 ^ 8 := Nat.xor_lt_two_pow (by omega) (by decide)
            omega
          have hM7 : Mod none_ w ((w6.setCell ⟨C, t, none⟩ (.int .u8 (bits BinOp.xor IntKind.u8 x 1))).drew) := (HM5.out.then (Mod.refl none_ w5)).trans (HHM.out.trans hMs (T := only C) (fun j hj e => by have : j = C := e; omega)) (fun _ _ h => h)
          generalize bits BinOp.xor IntKind.u8 x 1 = v at *
          generalize (w6.setCell ⟨C, t, none⟩ (.int .u8 v)).drew = w7 at *
          have hBA : BytesAt w7 (C + 1) (.slice (some ⟨C, 0, none⟩) 32 cap6) (bs.set t v) := by
            have hl : (bs.set t v).length = 32 := by rw [List.length_set, HLZ.out]
            refine ⟨?_, by omega, _, _, by rw [hl], by omega, (fun h => by cases h), fun _ => ⟨C, 0, rfl, by omega, fun j hj => by rw [Nat.zero_add]; exact hcs j (by omega)⟩⟩
            intro y hy
            rcases List.mem_or_eq_of_mem_set hy with h1 | h1
            · exact HBZ.out y h1
            · rw [h1]; exact hxb
          have hcv := str_any w7 _ _ _ hBA
          clear hBA hcs hMs ct cf HHC HHF
          go_wp2_with fail
          go_ret
          exact ⟨⟨_, rfl⟩, hM7⟩
        · have g2 : decide (0 < turned) = false := by simpa using htp
          have hBA : BytesAt w6 (C + 1) (.slice (some ⟨C, 0, none⟩) 32 cap6) bs := by
            have hl := HLZ.out
            exact ⟨HBZ.out, by omega, _, _, by rw [hl], by omega, (fun h => by cases h), fun _ => ⟨C, 0, rfl, by omega, fun j hj => by rw [Nat.zero_add]; exact HHC.out j (by omega)⟩⟩
          have hcv := str_any w6 _ _ _ hBA
          clear hBA HHC HHF
          go_wp2_with fail
          go_ret
          exact ⟨⟨_, rfl⟩, HM6.out⟩

      · have g1 : decide (ep ≤ (n : Int)) = false := by simpa using c1
        go_quiet (fail)
        obtain ⟨w3, hw3, hM3⟩ : ∃ w3, w2.drewN nq = w3 ∧ Mod none_ w2 w3 := ⟨_, rfl, (Mod.refl _ _).drewN _⟩
        rw [hw3]
        have hs3 : w3.heap.size = Y + 2 := by rw [← hw3]; exact hs2
        have HM3 := Lib.hid (HM2.out.then hM3); have HB3 := Lib.hid (hM3.blk HB2.out (fun h => h))
        replace p2 := hM3.cellS p2 (fun h => h)
        replace p3 := hM3.cellS p3 (fun h => h)
        replace p5 := hM3.cellS p5 (fun h => h)
        replace p7 := hM3.cellS p7 (fun h => h)
        replace p0 := hM3.cellS p0 (fun h => h)
        clear hM3 hw3 hs2
        clear p0 p5
        obtain ⟨WW, hWW⟩ : ∃ x, x = w3 := ⟨_, rfl⟩
        obtain ⟨e, hee⟩ : ∃ x, x = n := ⟨_, rfl⟩
        rw [← hWW] at HM3 HB3 hs3 p2 p3 p7 ⊢
        have HMM := HM3; have HBB := HB3
        rw [← hee] at HBB
        have hen : e ≤ n := by omega
        have he1 : 1 ≤ e := by omega
        clear hWW
        -- the text is baked and laid as bytes
        have hV : RefV WW (Y + 1) (.slice (some ⟨g, 0, none⟩) e cap) (ss.take e) := by
          obtain ⟨g', cap', rest', ee, hBg, hcc⟩ := H.out.sl
          have hle : (ss.take e).length = e := by rw [List.length_take, HN.out]; omega
          obtain rfl : g = g' := by injection ee with e1; injection e1 with e1; injection e1
          refine ⟨HBB.out, ⟨g, cap, strs (ss.drop e) ++ rest', by rw [hle], ?_, by omega⟩, fun s hs => H.out.s32 s (List.mem_of_mem_take hs), by omega, by rw [hle]; omega⟩
          have := HMM.out.blk hBg (fun h => h)
          refine this.cs ?_
          rw [← List.append_assoc]
          congr 1
          unfold strs
          rw [← List.map_append, List.take_append_drop]
        obtain ⟨E, hE⟩ : ∃ E, ((e : Int)) = E := ⟨_, rfl⟩
        try rw [hE]
        clear hE
        obtain ⟨m, hm⟩ : ∃ m, e = m + 1 := ⟨e - 1, by omega⟩
        obtain ⟨s, hsm⟩ : ∃ s, (ss.take e)[m]? = some s := ⟨_, List.getElem?_eq_getElem (by rw [List.length_take, HN.out]; omega)⟩
        have hbk := rjBake_any WW (HT.out.none HMM.out) (Y + 1) _ _ a b m s hsm (by rw [List.length_take, HN.out]; omega) hV ha hb
        have hz := Ck.size_ck s a b ((m : Int) + 1)
        obtain ⟨Z, hZ⟩ : ∃ Z, Ck.ck s a b ((m : Int) + 1) = Z := ⟨_, rfl⟩
        rw [hZ] at hbk hz
        have HBK := Lib.hid hbk
        have hYs := World.block_lt_of_cell? _ _ p7
        clear hbk hV hsm hZ
        go_wp2_with fail
        refine HBK.out.mono ?_
        rintro r w5 ⟨rfl, hN5⟩
        have HM5 := Lib.hid (HMM.out.then hN5)
        have hs5 := hN5.size
        replace p7 := hN5.cellS p7 (fun h => h)
        clear hN5 p2 p3 HBK
        go_upto_region 7 with (refine wpList_bytes_mk (by rfl) _ _ _ (.tmp 47) rfl Z rfl under_str under_b28 under_b8 (by omega) ?_; intro w6 cap6 hC6 hf6 hc6 hM6 hs6)
        have HM6 := Lib.hid (HM5.out.then hM6)
        replace p7 := hM6.cellS p7 (fun h => h)
        obtain ⟨C, hCe⟩ : ∃ C, w5.heap.size = C := ⟨_, rfl⟩
        rw [hCe] at hC6 hf6 hs6 ⊢
        rw [hz] at hC6 hf6 hc6
        have hbz := nums_bytes Z.data.toList
        have hlz : (nums Z.data.toList).length = 32 := by rw [length_nums]; exact hz
        obtain ⟨bs, hbs⟩ : ∃ bs, nums Z.data.toList = bs := ⟨_, rfl⟩
        rw [hbs] at hC6 hbz hlz
        have HHC := Lib.hid hC6; have HHF := Lib.hid hf6; have HBZ := Lib.hid hbz; have HLZ := Lib.hid hlz; have HHM := Lib.hid hM6
        clear hC6 hf6 hbz hlz hbs hM6
        by_cases htp : 0 < turned
        · have g2 : decide (0 < turned) = true := by simpa using htp
          obtain ⟨t, htm, ht32⟩ : ∃ t : Nat, Int.tmod turned 32 = (t : Int) ∧ t < 32 := by
            have h1 := Int.tmod_nonneg 32 (show 0 ≤ turned by omega)
            have h2 := Int.tmod_lt_of_pos turned (show (0 : Int) < 32 by decide)
            exact ⟨(Int.tmod turned 32).toNat, by omega, by omega⟩
          obtain ⟨x, hx⟩ : ∃ x, Sha.g bs t = x := ⟨_, rfl⟩
          have ct := HHC.out t ht32
          rw [hx] at ct
          have cf := HHF.out t ht32
          have l0 : (0 : Int) ≤ (t : Int) := by omega
          have l1 : (t : Int) < 32 := by omega
          go_upto_region 8 with fail
          go_still_tail 12, (by kernel_rfl)
          change wpList _ _ _ _ _ w6.drew
          have ct' : w6.drew.cell? ⟨C, t, none⟩ = _ := ct
          have cf' : w6.drew.frozen? ⟨C, t, none⟩ = false := cf
          go_upto_region 9 with fail
          have hMs : Mod (only C) w6 ((w6.setCell ⟨C, t, none⟩ (.int .u8 (bits BinOp.xor IntKind.u8 x 1))).drew) := ((Mod.refl (only C) w6).setCell (fun _ => only_self C) _).drew
          have hcs : ∀ j, j < 32 → ((w6.setCell ⟨C, t, none⟩ (.int .u8 (bits BinOp.xor IntKind.u8 x 1))).drew).cell? ⟨C, j, none⟩ = some (.int .u8 (Sha.g (bs.set t (bits BinOp.xor IntKind.u8 x 1)) j)) := by
            intro j hj
            by_cases hjt : j = t
            · subst hjt
              show (w6.setCell ⟨C, j, none⟩ (.int .u8 (bits BinOp.xor IntKind.u8 x 1))).cell? ⟨C, j, none⟩ = _
              rw [World.cell?_setCell_same w6 _ _ ct]
              unfold Sha.g
              rw [List.getElem?_set_self (by rw [HLZ.out]; exact hj)]
              rfl
            · show (w6.setCell ⟨C, t, none⟩ (.int .u8 (bits BinOp.xor IntKind.u8 x 1))).cell? ⟨C, j, none⟩ = _
              rw [World.cell?_setCell_other w6 _ _ _ (fun h => hjt (by injection h with _ h2; exact h2.symm))]
              unfold Sha.g
              rw [List.getElem?_set_ne (by omega)]
              exact HHC.out j hj
          have hxb : 0 ≤ bits BinOp.xor IntKind.u8 x 1 ∧ bits BinOp.xor IntKind.u8 x 1 ≤ 255 := by
            have hx0 : 0 ≤ x ∧ x ≤ 255 := by
              rw [← hx]
              unfold Sha.g
              cases hq : bs[t]? with
              | none => simp
              | some y => exact HBZ.out y (List.mem_of_getElem? hq)
            obtain ⟨y, rfl⟩ : ∃ y : Nat, x = y := ⟨x.toNat, by omega⟩
            have := bits_xor_nat8 y 1 (by omega) (by decide)
            rw [show (1 : Int) = ((1 : Nat) : Int) from rfl, this]
            have h2 : y ^^^ 1 < 2 ^ 8 := Nat.xor_lt_two_pow (by omega) (by decide)
            omega
          have hM7 : Mod none_ w ((w6.setCell ⟨C, t, none⟩ (.int .u8 (bits BinOp.xor IntKind.u8 x 1))).drew) := (HM5.out.then (Mod.refl none_ w5)).trans (HHM.out.trans hMs (T := only C) (fun j hj e => by have : j = C := e; omega)) (fun _ _ h => h)
          generalize bits BinOp.xor IntKind.u8 x 1 = v at *
          generalize (w6.setCell ⟨C, t, none⟩ (.int .u8 v)).drew = w7 at *
          have hBA : BytesAt w7 (C + 1) (.slice (some ⟨C, 0, none⟩) 32 cap6) (bs.set t v) := by
            have hl : (bs.set t v).length = 32 := by rw [List.length_set, HLZ.out]
            refine ⟨?_, by omega, _, _, by rw [hl], by omega, (fun h => by cases h), fun _ => ⟨C, 0, rfl, by omega, fun j hj => by rw [Nat.zero_add]; exact hcs j (by omega)⟩⟩
            intro y hy
            rcases List.mem_or_eq_of_mem_set hy with h1 | h1
            · exact HBZ.out y h1
            · rw [h1]; exact hxb
          have hcv := str_any w7 _ _ _ hBA
          clear hBA hcs hMs ct cf HHC HHF
          go_wp2_with fail
          go_ret
          exact ⟨⟨_, rfl⟩, hM7⟩
        · have g2 : decide (0 < turned) = false := by simpa using htp
          have hBA : BytesAt w6 (C + 1) (.slice (some ⟨C, 0, none⟩) 32 cap6) bs := by
            have hl := HLZ.out
            exact ⟨HBZ.out, by omega, _, _, by rw [hl], by omega, (fun h => by cases h), fun _ => ⟨C, 0, rfl, by omega, fun j hj => by rw [Nat.zero_add]; exact HHC.out j (by omega)⟩⟩
          have hcv := str_any w6 _ _ _ hBA
          clear hBA HHC HHF
          go_wp2_with fail
          go_ret
          exact ⟨⟨_, rfl⟩, HM6.out⟩

end Go.Proofs.YtlndgnlkfhlekaaDoor
namespace Go.Proofs.YtlndgnlkfhlekaaDoor
open Go.RowKit

/-- a jar and the document's jar of the same turns -/
structure Pair (w : World) (B j k g m : Nat) (ss : List ByteArray) (now was : ByteArray) : Prop where
  ref : ∃ cap, RefJ w k B (.slice (some ⟨g, 0, none⟩) (m + 1) cap) ss
  len : ss.length = m + 1
  jar : JarAt w j ((m : Int) + 1) now was
  now : ss[m]? = some now
  was : ∀ q, m = q + 1 → ss[q]? = some was
  jk : j ≠ k
  jg : j ≠ g
  bj : B ≤ j
  bk : B ≤ k
  bg : B ≤ g
theorem Pair.kg {w : World} {B j k g m : Nat} {ss : List ByteArray} {now was : ByteArray} (h : Pair w B j k g m ss now was) : g ≠ k := by
  obtain ⟨cap, hr⟩ := h.ref
  exact hr.nb g rfl
theorem Pair.glt {w : World} {B j k g m : Nat} {ss : List ByteArray} {now was : ByteArray} (h : Pair w B j k g m ss now was) : g < w.heap.size := by
  obtain ⟨cap, hr⟩ := h.ref
  obtain ⟨g', _, _, e, _, hB, _⟩ := hr.slice
  obtain rfl : g = g' := by injection e with e1; injection e1 with e1; injection e1
  exact hB.lt
theorem RefJ.modS {S : Nat → Prop} {w w' : World} {b base : Nat} {v : Value} {ss : List ByteArray} (h : RefJ w b base v ss) (hM : Mod S w w') (hb : ¬ S b) (hv : ∀ g, v.ownBlock = some g → ¬ S g) : RefJ w' b base v ss :=
  ⟨hM.blk h.blk hb, h.own.modO hM hv, h.s32, h.pos, h.few, h.nb⟩
/-- another pair's turns do not touch it -/
theorem Pair.modS {S : Nat → Prop} {w w' : World} {B j k g m : Nat} {ss : List ByteArray} {now was : ByteArray} (h : Pair w B j k g m ss now was) (hM : Mod S w w') (hj : ¬ S j) (hk : ¬ S k) (hg : ¬ S g) : Pair w' B j k g m ss now was := by
  obtain ⟨cap, hr⟩ := h.ref
  exact ⟨⟨cap, hr.modS hM hk (fun g' e => by
    obtain rfl : g = g' := Option.some.inj e
    exact hg)⟩, h.len, h.jar.mod hM hj, h.now, h.was, h.jk, h.jg, h.bj, h.bk, h.bg⟩
theorem Pair.none {w w' : World} {B j k g m : Nat} {ss : List ByteArray} {now was : ByteArray} (h : Pair w B j k g m ss now was) (hM : Mod none_ w w') : Pair w' B j k g m ss now was := h.modS hM (fun h => h) (fun h => h) (fun h => h)

set_option maxHeartbeats 2000000 in
set_option maxRecDepth 100000 in
theorem plays_any (w0 w : World) (hK : Rounds w0) (hT : RefTabs w0) (hM0 : Mod none_ w0 w) (j k g m : Nat) (ss : List ByteArray) (now was : ByteArray) (h : Pair w w0.heap.size j k g m ss now was) (hm : m ≤ 1000) (o : CkOp) (ho : o.Ok) (ha : Fits o.a) (hb : Fits o.b) :
    Calls Tryd.prog 11 #[.pointer (some ⟨j, 0, none⟩), .pointer (some ⟨k, 0, none⟩), .agg o.cells.toArray] w fun r w' => r = .returned (.bool true) ∧ ∃ g' m' ss' now' was', Pair w' w0.heap.size j k g' m' ss' now' was' ∧ m' ≤ m + 1 ∧ Mod (fun b => b = j ∨ b = k ∨ b = g) w w' ∧ (g' = g ∨ w.heap.size ≤ g') := by
  have HK := Lib.hid hK; have HT := Lib.hid hT; have HM0 := Lib.hid hM0; have H := Lib.hid h; have HO := Lib.hid ho
  obtain ⟨kind, which, a, b, c, ep, own, turned⟩ := o
  replace ha : Fits a := ha
  replace hb : Fits b := hb
  have hep : 0 ≤ ep ∧ ep < 18446744073709551616 := ho.1
  have hask := fun q : World => fun (hV : ∃ cap, RefV q k (.slice (some ⟨g, 0, none⟩) (m + 1) cap) ss) (hq : RefTabs q) => (Exists.elim hV fun cap hV => asked_any q hq k _ ss ⟨kind, which, a, b, c, ep, own, turned⟩ ho hV ha hb)
  simp only [CkOp.cells] at hask
  have HASK := Lib.hid hask
  unfold CkOp.cells
  dsimp only
  clear hK hT hM0 h ho hask
  go_enter Tryd.func11, Tryd.ntmps11
  go_upto_region 1 with fail
  obtain ⟨w1, hw1⟩ : ∃ w1, w.alloc (.cells #[.int .i64 kind, .int .i64 which, .string a, .string b, .string c, .int .u64 ep, .bool own, .int .i64 turned] 33) = w1 := ⟨_, rfl⟩
  have hM1 : Mod none_ w w1 := hw1 ▸ (Mod.refl none_ w).alloc _
  have hB1 : Blk w1 w.heap.size [.int .i64 kind, .int .i64 which, .string a, .string b, .string c, .int .u64 ep, .bool own, .int .i64 turned] 33 := hw1 ▸ Blk.new w _ _
  rw [hw1]
  obtain ⟨Y, hY⟩ : ∃ Y, w.heap.size = Y := ⟨_, rfl⟩
  have HY := Lib.hid hY
  rw [hY] at hB1
  simp only [hY]
  have p0 := hB1.cell (j := 0) rfl
  have p2 := hB1.cell (j := 2) rfl
  have p3 := hB1.cell (j := 3) rfl
  have p5 := hB1.cell (j := 5) rfl
  have H1 := Lib.hid (H.out.none hM1)
  have hYj : Y ≠ j := by have := H.out.jar.blk.lt; omega
  have hYk : Y ≠ k := by obtain ⟨_, hr⟩ := H.out.ref; have := hr.blk.lt; omega
  have hYg : Y ≠ g := by have := H.out.glt; omega
  have HM1 := Lib.hid (HM0.out.then hM1); have HB1 := Lib.hid hB1; have HW1 := Lib.hid hM1
  clear hM1 hw1 hB1 hY
  have hro : ∀ q : World, Mod none_ w0 q → Rounds q := fun q hM => HK.out.mod hM (fun h => h)
  have HRO := Lib.hid hro
  clear hro
  by_cases k1 : kind = 1
  · subst k1
    obtain ⟨cap, hr⟩ := H1.out.ref
    have htn := fun (q : World) (hM : Mod none_ w1 q) => ckTurn_any q (HRO.out q (HM1.out.then hM)) j (rounds_lt HK.out H.out.bj) ((m : Int) + 1) (by omega) now was a (H1.out.jar.mod hM (fun h => h)) ha
    have q2 := p2
    have HTN := Lib.hid htn; have HR := Lib.hid hr
    have hm0 := Mod.refl (only j) w1
    clear htn hr p3 p5
    go_upto_region 3 with fail
    clear p0
    go_region_held3 (fun w' => w'.cell? ⟨Y, 2, none⟩ = some (.string a) ∧ Mod (only j) w1 w')
      (first | ((refine ⟨Mod.cellS (S := only j) (w := w1) ?_ q2 (not_only hYj), ?_⟩ <;> (repeat (first | assumption | exact Mod.refl _ _ | refine Mod.drew ?_))); done))
      (first | (go_at_call 20; refine (HTN.out _ (by repeat (first | assumption | exact Mod.refl _ _ | refine Mod.drew ?_))).mono ?_; rintro r w9 ⟨rfl, hJ9, hN9⟩; have hM9 : Mod (only j) w1 w9 := (Mod.refl (only j) w1).drew.trans hN9 (fun _ _ h => h)))
    have p9 : w9.cell? ⟨Y, 2, none⟩ = some (.string a) := hM9.cellS q2 (not_only hYj)
    have hw09 : Mod none_ w0 w9 := HM1.out.own hM9 H.out.bj
    have hr9 := HR.out.modS hM9 (not_only (fun e => H.out.jk e.symm)) (fun g' e => by
      obtain rfl : g = g' := Option.some.inj e
      exact not_only (fun e => H.out.jg e.symm))
    have hlen := H.out.len
    have htr := rjTurn_any w9 (HT.out.none hw09) k w0.heap.size _ ss a m now H.out.now H.out.len (by omega) hr9 hw09.size ha
    have HTR := Lib.hid htr; have HJ9 := Lib.hid hJ9; have HM9 := Lib.hid hM9; have HW09 := Lib.hid hw09
    clear htr hr9 hJ9 hM9 hw09 HTN HR q2 p2 hN9
    go_wp2_with fail
    refine HTR.out.mono ?_
    rintro r w10 ⟨rfl, v', hr10, hM10, hown⟩
    obtain ⟨g', cap', rest', rfl, hg', hB', hcap'⟩ := hr10.slice
    have hj10 := HJ9.out.mod hM10 (fun e => by
      rcases e with e | e
      · exact H.out.jk e
      · exact H.out.jg (Option.some.inj e).symm)
    have hl2 : (ss ++ [Ck.tn now a]).length = m + 1 + 1 := by rw [List.length_append, H.out.len]; rfl
    rw [hl2] at hr10
    have JJ := Lib.hid hj10; have RR := Lib.hid hr10.toV
    have hgg : g' = g ∨ w.heap.size ≤ g' := by
      rcases hown with e | ⟨g2, e, h2⟩
      · left; exact Option.some.inj e
      · right
        obtain rfl : g' = g2 := Option.some.inj e
        exact Nat.le_trans (Nat.le_trans HW1.out.size HM9.out.size) h2
    have hP : Pair w10 w0.heap.size j k g' (m + 1) (ss ++ [Ck.tn now a]) (Ck.tn now a) now := by
      refine ⟨⟨cap', hr10⟩, hl2, ?_, ?_, ?_, H.out.jk, ?_, H.out.bj, H.out.bk, hg'⟩
      · have e : (((m + 1 : Nat) : Int) + 1) = (m : Int) + 1 + 1 := by omega
        rw [e]; exact hj10
      · rw [List.getElem?_append_right (by have := H.out.len; omega), H.out.len]; simp
      · intro q hq
        obtain rfl : m = q := by omega
        rw [List.getElem?_append_left (by have := H.out.len; omega)]
        exact H.out.now
      · rcases hgg with e | e
        · rw [e]; exact H.out.jg
        · have := H.out.jar.blk.lt; omega
    have hMM : Mod (fun b => b = j ∨ b = k ∨ b = g) w w10 := (((HW1.out.mono (T := none_) (S := fun b => b = j ∨ b = k ∨ b = g) (fun _ _ h => h.elim)).trans HM9.out (fun b _ e => Or.inl e)).trans hM10 (fun b _ e => by
      rcases e with e | e
      · exact Or.inr (Or.inl e)
      · exact Or.inr (Or.inr (Option.some.inj e).symm)))
    have HP := Lib.hid hP; have HMM := Lib.hid hMM; have HGG := Lib.hid hgg
    have ecmp : (((ss ++ [Ck.tn now a]).length : Int)) = (m : Int) + 1 + 1 := by rw [hl2]; omega
    have hre := rjEpoch_any w10 _ _ _ RR.out
    rw [ecmp] at hre
    have HRE := Lib.hid hre
    clear hr10 hj10 hP hMM hgg hown hM10 hB' hl2 ecmp hre HTR
    go_wp2_with (first | (go_at_call 12; refine (ckEpoch_any _ _ _ _ _ JJ.out).mono ?_; rintro r wz ⟨rfl, rfl⟩) | (go_at_call 13; refine HRE.out.mono ?_; rintro r wz ⟨rfl, rfl⟩))
    go_ret
    exact ⟨rfl, g', m + 1, _, _, _, HP.out, by omega, HMM.out, HGG.out⟩
  · have e1 : (kind == 1) = false := by simpa using k1
    have hdone : ∀ q : World, Mod none_ w1 q → ∃ g' m' ss' now' was', Pair q w0.heap.size j k g' m' ss' now' was' ∧ m' ≤ m + 1 ∧ Mod (fun b => b = j ∨ b = k ∨ b = g) w q ∧ (g' = g ∨ w.heap.size ≤ g') := fun q hM =>
      ⟨g, m, ss, now, was, H1.out.none hM, by omega, (HW1.out.then hM).mono (T := none_) (fun _ _ h => h.elim), Or.inl rfl⟩
    obtain ⟨cap, hr⟩ := H1.out.ref
    have hlen := H.out.len
    have HD := Lib.hid hdone; have HR := Lib.hid hr.toV
    have hbp := fun (q : World) (hM : Mod none_ w1 q) => ckBake_any q (HRO.out q (HM1.out.then hM)) j ((m : Int) + 1) now was a b (H1.out.jar.mod hM (fun h => h)) ha hb
    have hbr := fun (q : World) (hM : Mod none_ w1 q) => rjBake_any q (HT.out.none (HM1.out.then hM)) k _ ss a b m now H.out.now H.out.len (HR.out.mod hM) ha hb
    have hcp := fun (q : World) (hM : Mod none_ w1 q) (x : ByteArray) => ckCheck_any q (HRO.out q (HM1.out.then hM)) j ((m : Int) + 1) now was a b x ep hep (H1.out.jar.mod hM (fun h => h)) ha hb
    have hcr := fun (q : World) (hM : Mod none_ w1 q) (x : ByteArray) => rjCheck_any q (HT.out.none (HM1.out.then hM)) k _ ss a b x ep hep m now was H.out.now H.out.was H.out.len (HR.out.mod hM) ha hb
    have hka := fun (q : World) (hM : Mod none_ w1 q) => HASK.out q ⟨cap, HR.out.mod hM⟩ (HT.out.none (HM1.out.then hM))
    have hep1 : Calls Tryd.prog 13 #[.pointer (some ⟨k, 0, none⟩)] w1 fun r w' => r = .returned (.int .u64 ((m : Int) + 1)) ∧ w' = w1 := by
      have := rjEpoch_any w1 _ _ _ HR.out
      rw [show (ss.length : Int) = (m : Int) + 1 by omega] at this
      exact this
    generalize Ck.ck now a b ((m : Int) + 1) = Z at *
    have HBP := Lib.hid hbp; have HBR := Lib.hid hbr; have HCP := Lib.hid hcp; have HCR := Lib.hid hcr; have HKA := Lib.hid hka; have HE1 := Lib.hid hep1
    have hm0 := Mod.refl none_ w1
    clear hdone hr hbp hbr hcp hcr hka hep1 HASK
    by_cases k2 : kind = 2
    · subst k2
      have q2 := p2; have q3 := p3
      clear p5
      go_upto_region 6 with fail
      clear p0
      go_region_held3 (fun w' => w'.cell? ⟨Y, 2, none⟩ = some (.string a) ∧ w'.cell? ⟨Y, 3, none⟩ = some (.string b) ∧ Mod none_ w1 w')
        (first | ((refine ⟨Mod.cellS (S := none_) (w := w1) ?_ q2 (fun h => h), Mod.cellS (S := none_) (w := w1) ?_ q3 (fun h => h), ?_⟩ <;> (repeat (first | assumption | exact Mod.refl _ _ | refine Mod.drew ?_))); done))
        (first | (go_at_call 14; refine (HBP.out _ (by repeat (first | assumption | exact Mod.refl _ _ | refine Mod.drew ?_))).mono ?_; rintro r w5 ⟨rfl, hN5⟩; have hM5 : Mod none_ w1 w5 := Mod.then (by repeat (first | assumption | exact Mod.refl _ _ | refine Mod.drew ?_)) hN5) | (go_at_call 15; refine (HBR.out _ (by repeat (first | assumption | exact Mod.refl _ _ | refine Mod.drew ?_))).mono ?_; rintro r w6 ⟨rfl, hN6⟩; have hM6 : Mod none_ w1 w6 := Mod.then (by repeat (first | assumption | exact Mod.refl _ _ | refine Mod.drew ?_)) hN6))
      go_wp2_with fail
      go_ret
      exact ⟨rfl, HD.out _ hM6⟩
    · have e2 : (kind == 2) = false := by simpa using k2
      by_cases k3 : kind = 3
      · subst k3
        go_upto_region 8 with fail
        go_upto_region 9 with (first | (refine wpList_load_blk rfl 33 (.tmp 5) rfl _ rfl _ _ _ HB1.out Tryd.underlying33 rfl size_op ?_) | (go_at_call 24; refine (HKA.out _ (Mod.refl _ _)).mono ?_; rintro r w5 ⟨⟨x, rfl⟩, hM5⟩))
        have q2 : w5.cell? ⟨Y, 2, none⟩ = some (.string a) := hM5.cellS p2 (fun h => h)
        have q3 : w5.cell? ⟨Y, 3, none⟩ = some (.string b) := hM5.cellS p3 (fun h => h)
        have q5 : w5.cell? ⟨Y, 5, none⟩ = some (.int .u64 ep) := hM5.cellS p5 (fun h => h)
        have x2 := q2; have x3 := q3; have x5 := q5
        have HM5 := Lib.hid hM5
        have hcp := fun (q : World) (hM : Mod none_ w5 q) => HCP.out q (HM5.out.then hM) x
        have hcr := fun (q : World) (hM : Mod none_ w5 q) => HCR.out q (HM5.out.then hM) x
        generalize Ck.tell ((m : Int) + 1) now was a b ep x = T at *
        have HCP5 := Lib.hid hcp; have HCR5 := Lib.hid hcr
        have hm5 := Mod.refl none_ w5
        clear hcp hcr hM5 p2 p3 p5 hm0
        go_region_held3 (fun w' => w'.cell? ⟨Y, 2, none⟩ = some (.string a) ∧ w'.cell? ⟨Y, 3, none⟩ = some (.string b) ∧ w'.cell? ⟨Y, 5, none⟩ = some (.int .u64 ep) ∧ Mod none_ w5 w')
          (first | ((refine ⟨Mod.cellS (S := none_) (w := w5) ?_ x2 (fun h => h), Mod.cellS (S := none_) (w := w5) ?_ x3 (fun h => h), Mod.cellS (S := none_) (w := w5) ?_ x5 (fun h => h), ?_⟩ <;> (repeat (first | assumption | exact Mod.refl _ _ | refine Mod.drew ?_))); done))
          (first | (go_at_call 19; refine (HCP5.out _ (by repeat (first | assumption | exact Mod.refl _ _ | refine Mod.drew ?_))).mono ?_; rintro r w6 ⟨rfl, hN6⟩; have hM6 : Mod none_ w5 w6 := Mod.then (by repeat (first | assumption | exact Mod.refl _ _ | refine Mod.drew ?_)) hN6) | (go_at_call 25; refine (HCR5.out _ (by repeat (first | assumption | exact Mod.refl _ _ | refine Mod.drew ?_))).mono ?_; rintro r w7 ⟨rfl, hN7⟩; have hM7 : Mod none_ w5 w7 := Mod.then (by repeat (first | assumption | exact Mod.refl _ _ | refine Mod.drew ?_)) hN7))
        go_wp2_with fail
        go_ret
        exact ⟨rfl, HD.out _ (HM5.out.then hM7)⟩
      · have e3 : (kind == 3) = false := by simpa using k3
        go_upto_region 10 with fail
        go_wp2_with (first | (go_at_call 12; refine (ckEpoch_any _ _ _ _ _ H1.out.jar).mono ?_; rintro r wz ⟨rfl, rfl⟩) | (go_at_call 13; refine HE1.out.mono ?_; rintro r wz ⟨rfl, rfl⟩))
        go_ret
        exact ⟨rfl, HD.out _ (Mod.refl _ _)⟩
end Go.Proofs.YtlndgnlkfhlekaaDoor
