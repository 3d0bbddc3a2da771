/- mac.Tag: the walk. -/
import Derived.Test.YtlndgnlkfhlekaaDoorMacP
namespace Go.Proofs.YtlndgnlkfhlekaaDoor
open Go.RowKit

theorem under_b64 : Tryd.prog.underlying 68 = some (.array 64 5) := by kernel_rfl
theorem size_b64 : (Tryd.prog.info? 68).map (·.size) = some 64 := by kernel_rfl
/-- an array's row of bytes, sliced whole -/
theorem bytes_arr {w : World} {b : Nat} {l : List Int} {T : TypeId} {n : Nat} (h : Blk w b (Sha.bcells l) T) (hn : l.length = n) (hb : Sha.bytes l) (hl : n ≤ 140737488355328) {B : Nat} (hB : b < B) : BytesAt w B (.slice (some ⟨b, 0, none⟩) n n) l := by
  subst hn
  exact ⟨hb, hl, _, _, rfl, Nat.le_refl _, (fun h => by cases h), fun _ => ⟨b, 0, rfl, hB, fun j hj => by rw [Nat.zero_add]; exact blk_byte h hj⟩⟩
theorem bytes_src {w : World} {B : Nat} {pb po n c : Nat} {t : List Int} (h : BytesAt w B (.slice (some ⟨pb, po, none⟩) n c) t) : ∀ (j : Nat) v, (Sha.bcells t)[j]? = some v → w.cell? ((⟨pb, po, none⟩ : Addr).add j) = some v := by
  intro j v hj
  obtain ⟨h1, h2, a, c', h3, h4, h0, h5⟩ := h
  have hjl : j < t.length := by have := (List.getElem?_eq_some_iff.1 hj).1; simpa [Sha.bcells] using this
  obtain ⟨pb', po', h6, h7, h8⟩ := h5 (by omega)
  have e : (some ⟨pb, po, none⟩ : Option Addr) = some ⟨pb', po', none⟩ := by simp at h3; rw [← h6, ← h3.1]
  simp at e
  obtain ⟨rfl, rfl⟩ := e
  rw [Addr.add_mid, h8 j hjl, ← hj, Sha.bcells, List.getElem?_map, Sha.g, List.getElem?_eq_getElem hjl]; rfl
theorem sliceAt_whole {P : Program} (t e : TypeId) (n : Nat) (ht : P.underlying t = some (.array n e)) (he : (P.info? e).map (·.size) = some 1) (b : Nat) (w : World) :
    (Instr.sliceAt t (.pointer (some ⟨b, 0, none⟩)) none none none).run P w = .ok (.slice (some ⟨b, 0, none⟩) n n) w := by
  have ha : P.arrayLen t = n := by simp [Program.arrayLen, ht]
  have hel : P.elem t = e := by simp [Program.elem, ht]
  rw [run_sliceAt_array_all w t ⟨b, 0, none⟩ (by rw [ha, hel]; exact ht), hel, ha]
  cases hq : P.info? e with
  | none => simp [hq] at he
  | some i =>
    have hs : i.size = 1 := by simpa [hq] using he
    simp [sizeOf, typeInfo, hq, hs, Result.andThen, slicedAt, Addr.add]

theorem bcells_set (l : List Int) (j : Nat) (x : Int) : (Sha.bcells l).set j (.int .u8 x) = Sha.bcells (l.set j x) := by rw [Sha.bcells, Sha.bcells, ← List.map_set]
/-- copy of bytes into a row known whole, all of them -/
theorem wpList_copy_bytes {w : World} {ops : Array Oper} {rest : List Oper} {o : Oper} {a : Act} {Q : Exit → Act → World → Prop} (hgd : o.guard = none) (d s : Operand)
    (ho : o.op = .call { callee := .builtin .copy, args := #[d, s], argTypes := #[63, 63] }) (g off dLen dCap : Nat) (hd : a.eval d = .slice (some ⟨g, off, none⟩) dLen dCap) (v : Value) (hs : a.eval s = v)
    (B : Nat) (p : List Int) (hv : BytesAt w B v p) (cur : List Value) (t : TypeId) (hg : Blk w g cur t) (hn : p.length ≤ dLen) (hfit : off + p.length ≤ cur.length)
    (h : ∀ w', Blk w' g (splice cur off (Sha.bcells p)) t → Mod (only g) w w' → w'.heap.size = w.heap.size → wpList Tryd.prog ops Q rest (a.put o.dst (goInt p.length)) w') : wpList Tryd.prog ops Q (o :: rest) a w := by
  have hl : (Sha.bcells p).length = p.length := by simp [Sha.bcells]
  obtain ⟨h1, h2, sa, c, rfl, h4, h0, h5⟩ := hv
  by_cases hp : 0 < p.length
  · obtain ⟨pb, po, rfl, h7, h8⟩ := h5 hp
    refine wpList_copy_own hgd d s 63 63 ho 5 under_b28 size_u8 g off dLen dCap ⟨pb, po, none⟩ p.length c hd hs cur.toArray t hg (Sha.bcells p) (by rw [hl]; exact (Nat.min_eq_left hn).symm) (bytes_src (B := B) ⟨h1, h2, _, _, rfl, h4, h0, h5⟩) (by rw [hl]; simpa using hfit) (Sha.one_b _) ?_
    rw [hl]
    have e := h _ (hg.row (splice cur off (Sha.bcells p))) ((Mod.refl _ _).setRow (fun _ => only_self g) _) (by simp)
    simpa [splice, hl] using e
  · obtain rfl : p = [] := List.eq_nil_of_length_eq_zero (by omega)
    refine wpList_copy_nothing hgd d s 63 63 ho 5 under_b28 size_u8 _ sa dLen dCap 0 c hd hs (Nat.zero_min _) ?_
    exact h w (hg.cs (by simp [splice, Sha.bcells])) (Mod.refl _ _) rfl

theorem store_blk {P : Program} {w : World} {g : Nat} {old cs : List Value} {T : TypeId} (h : Blk w g old T) (hl : old.length = cs.length) (h1 : ∀ v ∈ cs, v.oneCell' = true) :
    (storeCells ⟨g, 0, none⟩ cs).run P w = .ok () (w.setRow g cs.toArray) := by
  have := run_storeCells_from (P := P) g T cs 0 old.toArray w h (by simpa using hl.symm) h1
  simpa using this
/-- 32 bytes stored into a row that has just been made, or was made before -/
theorem store_new32 (l : List Int) (hl : l.length = 32) (w : World) :
    (storeCells ⟨w.heap.size, 0, none⟩ (Sha.bcells l)).run Tryd.prog (w.alloc (.cells #[.int .u8 0, .int .u8 0, .int .u8 0, .int .u8 0, .int .u8 0, .int .u8 0, .int .u8 0, .int .u8 0, .int .u8 0, .int .u8 0, .int .u8 0, .int .u8 0, .int .u8 0, .int .u8 0, .int .u8 0, .int .u8 0, .int .u8 0, .int .u8 0, .int .u8 0, .int .u8 0, .int .u8 0, .int .u8 0, .int .u8 0, .int .u8 0, .int .u8 0, .int .u8 0, .int .u8 0, .int .u8 0, .int .u8 0, .int .u8 0, .int .u8 0, .int .u8 0] 36)) = .ok () (w.alloc (.cells (Sha.bcells l).toArray 36)) := by
  have := run_storeCells_new (P := Tryd.prog) w 36 #[.int .u8 0, .int .u8 0, .int .u8 0, .int .u8 0, .int .u8 0, .int .u8 0, .int .u8 0, .int .u8 0, .int .u8 0, .int .u8 0, .int .u8 0, .int .u8 0, .int .u8 0, .int .u8 0, .int .u8 0, .int .u8 0, .int .u8 0, .int .u8 0, .int .u8 0, .int .u8 0, .int .u8 0, .int .u8 0, .int .u8 0, .int .u8 0, .int .u8 0, .int .u8 0, .int .u8 0, .int .u8 0, .int .u8 0, .int .u8 0, .int .u8 0, .int .u8 0] (Sha.bcells l).toArray (by rw [size_b32]; simp [Sha.bcells, hl]) (by simp [Sha.bcells, hl]) (all_oneCell_toArray (Sha.one_b l))
  exact this
theorem store_old32 (l : List Int) (hl : l.length = 32) (w : World) (g : Nat) (h : Blk w g (Sha.bcells (Sha.zeros 32)) 36) :
    (storeCells ⟨g, 0, none⟩ (Sha.bcells l)).run Tryd.prog w = .ok () (w.setRow g (Sha.bcells l).toArray) :=
  store_blk h (by simp [Sha.bcells, Sha.zeros, hl]) (Sha.one_b l)

/-- sha.Of of a list that lies at block L -/
theorem of_at (w0 w : World) (L : Nat) (vs : List Value) (ps : List (List Int)) (q : List Int) (hq : ps.flatten = q) (T : TypeId) (hl : ps.length = vs.length) (hv : ∀ (i : Nat) v p, vs[i]? = some v → ps[i]? = some p → BytesAt w0 w0.heap.size v p) (hK : Rounds w0) (cap : Nat) (hn : vs.length ≤ 140737488355328)
    (hM : Mod none_ w0 w) (hB : Blk w L vs T) :
    Calls Tryd.prog 32 #[.slice (some ⟨L, 0, none⟩) vs.length cap] w fun e w' => e = .returned (.agg (Sha.bcells (Sha.sha q)).toArray) ∧ Mod none_ w0 w' ∧ Mod none_ w w' := by
  subst hq
  refine (of_any w _ vs.length cap ps ⟨hl, fun h0 => ⟨L, 0, rfl, hB.lt, fun i p hi => ?_⟩⟩ (hK.mod hM (fun h => h)) hn).mono ?_
  · have hiv : i < vs.length := by rw [← hl]; exact (List.getElem?_eq_some_iff.1 hi).1
    exact ⟨vs[i], hB.cell (by rw [Nat.zero_add]; exact List.getElem?_eq_getElem hiv), ((hv i _ p (List.getElem?_eq_getElem hiv) hi).mod hM (fun _ _ h => h)).mono hM.size⟩
  · rintro e w' ⟨rfl, h⟩
    exact ⟨rfl, hM.then h, h⟩

set_option maxHeartbeats 2000000 in
set_option maxRecDepth 100000 in
theorem tag_any (w : World) (hK : Rounds w) (k t : ByteArray) (hk : k.size ≤ 140737488355328) (ht : t.size ≤ 140737488355328) :
    Calls Tryd.prog 28 #[.string k, .string t] w fun e w' => e = .returned (.string (strOf (Mac.tag (num k) (num t)))) ∧ Mod none_ w w' := by
  go_enter Tryd.func28, Tryd.ntmps28
  go_upto_region 2 with (refine wpList_bytes_of rfl 9 63 5 (.tmp 12) rfl k rfl under_str under_b28 under_b8 hk ?_; intro w1 cap hb1 hM1 hs1)
  have hb1' : BytesAt w1 w1.heap.size (.slice (some ⟨w.heap.size, 0, none⟩) k.size cap) (num k) := hb1
  have hK1 := hK.mod hM1 (fun h => h)
  have hnk := length_num k
  have hsl := fun b wx => sliceAt_whole (P := Tryd.prog) 36 5 32 under_b32 size_u8 b wx
  clear hb1 hs1
  go_upto_if 16 with fail
  go_cut [5] (fun s wx => BytesAt wx wx.heap.size s (Mac.key (num k)) ∧ Mod none_ w wx)
  case first =>
    by_cases h : 64 < k.size
    · have hi : (64 : Int) < (k.size : Int) := by omega
      have hkey : Mac.key (num k) = Sha.sha (num k) := by rw [Mac.key, if_pos (by omega)]
      have HKEY := Lib.hid hkey
      clear hkey h
      go_wp2_with fail
      refine (of_one w1 _ (num k) _ hb1' hK1 1).mono ?_
      rintro e w2 ⟨rfl, hM2⟩
      have hM2' := hM1.then hM2
      clear hM1 hM2 hK1 hb1'
      go_wp2_with (refine wpList_store_new rfl 36 (.tmp 6) (.tmp 19) rfl 36 _ (Sha.bcells (Sha.sha (num k))) rfl rfl (by rw [size_b32, Sha.bcells, List.length_map, Sha.length_sha]) (by rw [Sha.bcells, List.length_map, Sha.length_sha]; rfl) (Sha.one_b _) ?_; intro w3 hX hM3 hs3)
      have hb3 := bytes_arr hX (Sha.length_sha _) (Sha.bytes_sha _) (by decide) hs3
      rw [← HKEY.out] at hb3
      have hM3' := hM2'.then hM3
      clear hX hM3 hM2'
      go_wp2
      go_meet
      case rel => exact ⟨hb3, hM3'⟩
    · have hi : ¬ (64 : Int) < (k.size : Int) := by omega
      have hkey : Mac.key (num k) = num k := by rw [Mac.key, if_neg (by omega)]
      have HKEY := Lib.hid hkey
      clear hkey h
      go_wp2
      go_meet
      case rel => exact ⟨by rw [HKEY.out]; exact hb1', hM1⟩
  case rest =>
    obtain ⟨hb, hM⟩ := hcut
    clear hM1 hK1 hb1' hsl hnk
    go_upto_region 6 with fail
    obtain ⟨w4, hw4, hI, hO, hM4, hs4⟩ : ∃ w4, (wc.alloc (.cells (Sha.bcells (Sha.zeros 64)).toArray 68)).alloc (.cells (Sha.bcells (Sha.zeros 64)).toArray 68) = w4 ∧ Blk w4 wc.heap.size (Sha.bcells (Sha.zeros 64)) 68 ∧ Blk w4 (wc.heap.size + 1) (Sha.bcells (Sha.zeros 64)) 68 ∧ Mod none_ wc w4 ∧ w4.heap.size = wc.heap.size + 2 :=
      ⟨_, rfl, (Blk.new _ _ _).alloc _, (Blk.newA2 _ _ _ _).cs (by simp), ((Mod.refl _ _).alloc _).alloc _, by simp⟩
    change Code.wp _ _ _ _ ((wc.alloc (.cells (Sha.bcells (Sha.zeros 64)).toArray 68)).alloc (.cells (Sha.bcells (Sha.zeros 64)).toArray 68))
    rw [hw4]
    have hkl := Mac.length_key (num k)
    have hkb := Mac.bytes_key (bytes_num k)
    have htag := Mac.tag_eq (num k) (num t)
    rw [Mac.pad_eq, Mac.pad_eq] at htag
    have hb4 := hb.mod hM4 (fun _ _ h => h)
    generalize Mac.key (num k) = kk at *
    have hMI := hM4
    have hI0 : w.heap.size ≤ wc.heap.size := hM.size
    obtain ⟨I, hIe⟩ : ∃ I, wc.heap.size = I := ⟨_, rfl⟩
    rw [hIe] at hI hO hs4 hb4 hI0 ⊢
    have hz : (Sha.bcells (Sha.zeros 64)).length = 64 := by simp [Sha.bcells, Sha.zeros]
    have HT := Lib.hid htag; have HB := Lib.hid hb4; have HKB := Lib.hid hkb; have HM := Lib.hid hM; have HK := Lib.hid hK; have HZ := Lib.hid hz
    clear htag hb4 hkb hw4 hb hM hM4 hK hz
    have hsl := fun b wx => sliceAt_whole (P := Tryd.prog) 68 5 64 under_b64 size_u8 b wx
    go_upto_region 7 with (refine wpList_copy_bytes rfl (.tmp 21) (.tmp 22) rfl I 0 64 64 rfl u5 rfl I kk HB.out _ _ hI hkl (by rw [HZ.out]; omega) ?_; intro w5 hI5 hM5 hs5)
    rw [Mac.splice_key kk 54 hkl] at hI5
    have hO5 := hM5.blk hO (not_only (by omega))
    have hM5' : Mod none_ wc w5 := hMI.trans hM5 (fun b hb e => by have : b = I := e; omega)
    have hb5 := HB.out.mod hM5 (fun b hb e => by have : b = I := e; omega)
    have HB5 := Lib.hid hb5
    clear hI hO hMI hM5 HB hb5
    go_upto_region 8 with (refine wpList_copy_bytes rfl (.tmp 24) (.tmp 25) rfl (I + 1) 0 64 64 rfl u5 rfl I kk HB5.out _ _ hO5 hkl (by rw [HZ.out]; omega) ?_; intro w6 hO6 hM6 hs6)
    rw [Mac.splice_key kk 92 hkl] at hO6
    have hI6 := hM6.blk hI5 (not_only (by omega))
    have hM6' : Mod none_ wc w6 := hM5'.trans hM6 (fun b hb e => by have : b = I + 1 := e; omega)
    clear hI5 hO5 hM5' hM6 HB5 hsl
    go_wp2_with fail
    go_loopw [27] (fun i wr => ∃ j : Nat, j ≤ 64 ∧ i = .int .i64 j ∧ Blk wr I (Sha.bcells (Mac.row kk 54 j)) 68 ∧ Blk wr (I + 1) (Sha.bcells (Mac.row kk 92 j)) 68 ∧ Mod none_ wc wr) (fun i _ => 64 - (intOf i).toNat)
    case atStart => exact ⟨0, by omega, rfl, hI6, hO6, hM6'⟩
    case round =>
      clear hI6 hO6 hM6'
      obtain ⟨j, hj, rfl, hI, hO, hMr⟩ := hrel
      by_cases hlt : j < 64
      · have q1 : wr.cell? ⟨I, j, none⟩ = some (.int .u8 (Sha.g kk j)) := hI.cell (by rw [Sha.bcells, List.getElem?_map, Mac.row_get kk 54 j j hlt, if_neg (Nat.lt_irrefl _)]; rfl)
        have f1 : wr.frozen? ⟨I, j, none⟩ = false := hI.frozen j
        go_upto_region 12 with fail
        have hI2 : Blk (wr.setCell ⟨I, j, none⟩ (.int .u8 (bits BinOp.xor IntKind.u8 (Sha.g kk j) 54))) I (Sha.bcells (Mac.row kk 54 (j + 1))) 68 := (hI.set j _).cs (by rw [Mac.x8_eq, bcells_set, Mac.row_set])
        have hO2 : Blk (wr.setCell ⟨I, j, none⟩ (.int .u8 (bits BinOp.xor IntKind.u8 (Sha.g kk j) 54))) (I + 1) (Sha.bcells (Mac.row kk 92 j)) 68 := hO.set_other (by show I + 1 ≠ I; omega) _
        have hM2 : Mod none_ wc (wr.setCell ⟨I, j, none⟩ (.int .u8 (bits BinOp.xor IntKind.u8 (Sha.g kk j) 54))) := hMr.setCell (fun h => by have : I < wc.heap.size := h; omega) _
        generalize World.setCell wr _ _ = wq at hI2 hO2 hM2 ⊢
        clear hI hO hMr q1 f1
        have q2 : wq.cell? ⟨I + 1, j, none⟩ = some (.int .u8 (Sha.g kk j)) := hO2.cell (by rw [Sha.bcells, List.getElem?_map, Mac.row_get kk 92 j j hlt, if_neg (Nat.lt_irrefl _)]; rfl)
        have f2 : wq.frozen? ⟨I + 1, j, none⟩ = false := hO2.frozen j
        go_wp2
        go_roundw
        case rel => exact ⟨j + 1, by omega, by go_num, hI2.set_other (by show I ≠ I + 1; omega) _, (hO2.set j _).cs (by rw [Mac.x8_eq, bcells_set, Mac.row_set]), hM2.setCell (fun h => by have : I + 1 < wc.heap.size := h; omega) _⟩
        case measure => simp [intOf]; omega
      · have h64 : j = 64 := by omega
        subst h64
        have hMw := HM.out.then hMr
        have hKw := HK.out.mod hMw (fun h => h)
        have hsw := hMr.size
        have hsl := fun b wx => sliceAt_whole (P := Tryd.prog) 68 5 64 under_b64 size_u8 b wx
        have hbI := bytes_arr hI (Mac.length_row _ _ _) (Mac.bytes_row HKB.out _ _) (by decide) hI.lt
        have hbO := bytes_arr hO (Mac.length_row _ _ _) (Mac.bytes_row HKB.out _ _) (by decide) hO.lt
        clear hMr hI hO
        go_wp2_with (refine wpList_bytes_of rfl 9 63 5 (.tmp 42) rfl t rfl under_str under_b28 under_b8 ht ?_; intro w10 cap2 hb10 hM10 hs10)
        have hb10' : BytesAt w10 w10.heap.size (.slice (some ⟨wr.heap.size, 0, none⟩) t.size cap2) (num t) := hb10
        have hMw10 := hMw.then hM10
        have hK10 := hKw.mod hM10 (fun h => h)
        have hbI10 := (hbI.mod hM10 (fun _ _ h => h)).mono hM10.size
        have hbO10 := (hbO.mod hM10 (fun _ _ h => h)).mono hM10.size
        clear hb10 hM10 hbI hbO hMw hKw
        have h2 : (2 : Nat) ≤ 140737488355328 := by decide
        have hfl : [Mac.row kk 54 64, num t].flatten = Mac.row kk 54 64 ++ num t := by simp
        have HFL := Lib.hid hfl
        clear hfl
        go_wp2_with fail
        have hof := of_ht w10 w10 (w10.alloc (.cells #[.slice (some ⟨I, 0, none⟩) 64 64, .slice (some ⟨wr.heap.size, 0, none⟩) t.size cap2] 63)) [.slice (some ⟨I, 0, none⟩) 64 64, .slice (some ⟨wr.heap.size, 0, none⟩) t.size cap2] [Mac.row kk 54 64, num t] (Mac.row kk 54 64 ++ num t) HFL.out 63 rfl (parts2 hbI10 hb10') hK10 2 h2 (Mod.refl _ _) (Mod.refl _ _)
        rw [hs10] at hof
        refine hof.mono ?_
        rintro e w11 ⟨rfl, hM11, _⟩
        have hMw11 := hMw10.then hM11
        have hK11 := hK10.mod hM11 (fun h => h)
        have hbO11 := (hbO10.mod hM11 (fun _ _ h => h)).mono hM11.size
        clear hM11 hMw10 hK10 hbI10 hbO10 hb10' hof hs10
        go_upto_region 15 with (refine wpList_store_new rfl 36 (.tmp 10) (.tmp 45) rfl 36 _ (Sha.bcells (Sha.sha (Mac.row kk 54 64 ++ num t))) rfl rfl (by rw [size_b32, Sha.bcells, List.length_map, Sha.length_sha]) (by rw [Sha.bcells, List.length_map, Sha.length_sha]; rfl) (Sha.one_b _) ?_; intro w12 hX hM12 hs12)
        have hb12 := bytes_arr hX (Sha.length_sha _) (Sha.bytes_sha _) (by decide) hs12
        have hMw12 := hMw11.then hM12
        have hK12 := hK11.mod hM12 (fun h => h)
        have hbO12 := (hbO11.mod hM12 (fun _ _ h => h)).mono hM12.size
        have hsl2 := fun b wx => sliceAt_whole (P := Tryd.prog) 36 5 32 under_b32 size_u8 b wx
        generalize w11.heap.size = X at *
        clear hX hMw11 hM12 hK11 hbO11 hs12
        have hfl : [Mac.row kk 92 64, Sha.sha (Mac.row kk 54 64 ++ num t)].flatten = Mac.row kk 92 64 ++ Sha.sha (Mac.row kk 54 64 ++ num t) := by simp
        generalize Sha.sha (Mac.row kk 54 64 ++ num t) = s1 at *
        clear HFL
        have HFL := Lib.hid hfl
        clear hfl
        change Code.wp _ _ _ ⟨_, _⟩ _
        have hst := fun wx => store_new32 (Sha.sha (Mac.row kk 92 64 ++ s1)) (Sha.length_sha _) wx
        have hst2 := fun wx g => store_old32 (Sha.sha (Mac.row kk 92 64 ++ s1)) (Sha.length_sha _) wx g
        have hlen : (Sha.bcells (Sha.sha (Mac.row kk 92 64 ++ s1))).length = 32 := by rw [Sha.bcells, List.length_map, Sha.length_sha]
        go_cut [11] (fun s wx => ∃ X, s = .pointer (some ⟨X, 0, none⟩) ∧ Blk wx X (Sha.bcells (Sha.sha (Mac.row kk 92 64 ++ s1))) 36 ∧ Mod none_ w wx)
        case first =>
          go_region_law (first | (go_simp; go_at_call 32; refine (of_at w12 _ _ [.slice (some ⟨I + 1, 0, none⟩) 64 64, .slice (some ⟨X, 0, none⟩) 32 32] [Mac.row kk 92 64, s1] (Mac.row kk 92 64 ++ s1) HFL.out 63 rfl (parts2 hbO12 hb12) hK12 2 h2 (by repeat (first | assumption | exact Mod.refl _ _ | refine Mod.drew ?_ | refine Mod.alloc ?_ _)) (by first | exact Blk.new w12.drew _ _ | exact (Blk.new w12.drew _ _).alloc _ | exact (Blk.newA2 w12.drew _ _ _).cs rfl)).mono ?_; rintro e w' ⟨rfl, hM13, hN13⟩; (first | (have hBX : Blk w' w12.heap.size (Sha.bcells (Sha.zeros 32)) 36 := Mod.blk hN13 ((Blk.new w12.drew (Sha.bcells (Sha.zeros 32)) 36).alloc _) (fun h => h)) | (have hBX : Blk w' (w12.heap.size + 1) (Sha.bcells (Sha.zeros 32)) 36 := Mod.blk hN13 ((Blk.newA2 w12.drew _ _ 36).cs rfl) (fun h => h)) | skip)))
          all_goals (go_wp2_with fail; go_meet)
          · exact ⟨_, rfl, Blk.new _ _ _, (hMw12.then hM13).alloc _⟩
          · exact ⟨_, rfl, hBX.row _, (hMw12.then hM13).setRow (fun h => by have := hMw12.size; omega) _⟩
          · exact ⟨_, rfl, hBX.row _, (hMw12.then hM13).setRow (fun h => by have := hMw12.size; omega) _⟩
        case rest =>
          obtain ⟨Y, rfl, hY, hMY⟩ := hcut
          clear hst hst2 hlen hbO12 hb12 hMw12 hK12
          have hbY := bytes_arr hY (Sha.length_sha _) (Sha.bytes_sha _) (by decide) hY.lt
          have hsY := fun m => str_any (wc.drewN m) _ _ _ (hbY.mod ((Mod.refl none_ wc).drewN m) (fun _ _ h => h))
          have hsY0 := str_any wc _ _ _ hbY
          clear hbY hY
          go_wp2_with fail
          go_ret
          exact ⟨by rw [HT.out]; rfl, hMY⟩
end Go.Proofs.YtlndgnlkfhlekaaDoor
