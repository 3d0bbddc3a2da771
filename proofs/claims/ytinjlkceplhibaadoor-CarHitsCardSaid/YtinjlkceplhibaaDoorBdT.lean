/- Boards: Parse: the walk. -/
import Derived.Test.YtinjlkceplhibaaDoorBdS
import Derived.Laws.RangeString
import Derived.Laws.Runes
import Derived.Lib.OthersKept
namespace Bd
theorem go_nil (w x h : Int) (C : List Int) : go w x h C [] = some ⟨w, h, C⟩ := by rw [go]
theorem go_cons (w x h : Int) (C : List Int) (c : Int) (r : List Int) : go w x h C (c :: r) = if c = 10 then (if (0 ≤ w ∧ x ≠ w) ∨ x = 0 then none else go x 0 (h + 1) C r)
    else if kind c = 0 ∨ h = 64 ∨ x = 64 then none
    else if r = [] then (if 0 ≤ w ∧ x + 1 ≠ w then none else some ⟨x + 1, h + 1, C ++ [kind c]⟩)
    else go w (x + 1) h (C ++ [kind c]) r := by rw [go]
theorem go_size {cs : List Int} {R : Raw} (h : go (-1) 0 0 [] cs = some R) (hw : 0 ≤ R.w) : R.cs.length = R.w.toNat * R.h.toNat := by
  have hs := go_spl cs (-1) 0 0 [] [] [] rfl rfl rfl (fun _ => rfl) (by simp) (by simp) (by simp) (by simp) (by simp) (fun _ => rfl)
  rw [h] at hs
  simp only [List.nil_append] at hs
  obtain ⟨_, h2, h3, h4, _, _⟩ := hs
  rw [h3, flatten_length (n := R.w.toNat) (fun l hl => by have := h4 l hl; omega)]
  congr 1
  omega
theorem read_none {cs : List Int} (h : go (-1) 0 0 [] cs = none) : read cs = .bad := by unfold read; rw [h]
theorem read_some {cs : List Int} {R : Raw} (h : go (-1) 0 0 [] cs = some R) : read cs = if R.w < 3 ∨ R.h < 3 ∨ 64 < R.w ∨ 64 < R.h then .bad else shut R.w.toNat R.h.toNat R.cs := by unfold read; rw [h]
end Bd
namespace Go.Proofs.YtinjlkceplhibaaDoor
open Go.RowKit

theorem iterAt_mod (w : World) (k : Nat) (s : ByteArray) (p : Nat) : Mod (only k) w (w.iterAt k s p) :=
  ⟨rfl, rfl, rfl, by rw [Lib.iterAt_size]; exact Nat.le_refl _, fun j _ hj => Lib.iterAt_other w k j s p hj⟩

/-- what Parse tells -/
def ParseP (w w' : World) (e : Ending) : Bd.Res → Prop
  | .bad => e = .returned (.tuple #[.pointer none, .int .i64 140])
  | .place => e = .returned (.tuple #[.pointer none, .int .i64 141])
  | .board W H E => ∃ b, e = .returned (.tuple #[.pointer (some ⟨b, 0, none⟩), .int .i64 0]) ∧ w.heap.size ≤ b ∧ BrdP w' b W H E
theorem wpList_append_i {ops : Array Oper} {rest : List Oper} {o : Oper} {a : Act} {w : World} {Q : Exit → Act → World → Prop} (hgd : o.guard = none) (s x : Operand)
    (ho : o.op = .call { callee := .builtin .append, args := #[s, x], argTypes := #[88, 88] }) (base : Nat)
    (v : Value) (l : List Int) (hs : a.eval s = v) (hown : w.ownsRow base 21 1 v l.length (i32s l)) (k : Int) (lb : Nat) (hx : a.eval x = .slice (some ⟨lb, 0, none⟩) 1 1) (hB : w.cell? ⟨lb, 0, none⟩ = some (.int .i32 k))
    (hlen : l.length + 1 ≤ 1000000) (hbase : base ≤ w.heap.size)
    (h : ∀ g2 cap2 m2 w', w'.ownsRow base 21 1 (.slice (some ⟨g2, 0, none⟩) m2 cap2) m2 (i32s (l ++ [k])) → m2 = (l ++ [k]).length → w.grownBy w' v.ownBlock → wpList Tryd.prog ops Q rest (a.put o.dst (.slice (some ⟨g2, 0, none⟩) m2 cap2)) w') : wpList Tryd.prog ops Q (o :: rest) a w := by
  obtain ⟨i, hi, hz0, hz1, hz2⟩ := info_parts' info_i32
  refine wpList_append_own w hgd s x 88 ho base 21 i _ 1 4 under_i32s hi hz0 hz1 hz2 rfl (by decide) v l.length (i32s l) hs hown ⟨lb, 0, none⟩ 1 1 [.int .i32 k] hx rfl ?_ (fun u hu => by rw [show u = Value.int .i32 k from by simpa using hu]; rfl) (by unfold maxLen; omega) (by omega) hbase ?_
  · intro j u hj
    match j, hj with
    | 0, hj => obtain rfl := Option.some.inj hj; exact hB
    | k + 1, hj => simp at hj
  · intro v' w' ho' hg _
    have e1 : i32s l ++ [.int .i32 k] = i32s (l ++ [k]) := by simp [i32s]
    rw [e1] at ho'
    obtain ⟨g2, cap2, rest2, rfl, _⟩ := Row.blk ho' (by omega)
    exact h g2 cap2 (l.length + 1) w' ho' (by simp) hg

theorem own_ne {w : World} {base : Nat} {e : TypeId} {size n : Nat} {v : Value} {xs : List Value} (h : w.ownsRow base e size v n xs) {b : Nat} {cs : List Value} {t : TypeId} (hB : Blk w b cs t) (ht : t ≠ e) : ∀ g, v.ownBlock = some g → g ≠ b := by
  intro g hg hb
  subst hb
  obtain ⟨_, h2 | ⟨g', cap, cur, h3, h4, h5, _⟩⟩ := h
  · rw [h2.1] at hg; cases hg
  · rw [h3] at hg
    obtain rfl : g' = g := Option.some.inj hg
    rw [Blk, h5] at hB
    injection hB with hB
    injection hB with _ h6 _
    exact ht h6.symm
theorem own_ne_iter {w : World} {base : Nat} {e : TypeId} {size n : Nat} {v : Value} {xs : List Value} (h : w.ownsRow base e size v n xs) {b : Nat} {s : ByteArray} {p : Nat} (hB : w.heap[b]? = some (.stringIter s p)) : ∀ g, v.ownBlock = some g → g ≠ b := by
  intro g hg hb
  subst hb
  obtain ⟨_, h2 | ⟨g', cap, cur, h3, h4, h5, _⟩⟩ := h
  · rw [h2.1] at hg; cases hg
  · rw [h3] at hg
    obtain rfl : g' = g := Option.some.inj hg
    rw [h5] at hB
    cases hB
/-- a board that is being read: what lies in memory -/
structure PMem (w wr : World) (Z : Nat) (ww hh : Int) (v : Value) (C : List Int) : Prop where
  blk : Blk wr Z [.int .i64 ww, .int .i64 hh, v] 90
  own : wr.ownsRow w.heap.size 21 1 v C.length (i32s C)
  mod : Mod none_ w wr
theorem PMem.none {w wr wq : World} {Z : Nat} {ww hh : Int} {v : Value} {C : List Int} (h : PMem w wr Z ww hh v C) (hM : Mod none_ wr wq) : PMem w wq Z ww hh v C :=
  ⟨hM.blk h.blk (fun h => h), Row.none h.own hM, h.mod.then hM⟩
theorem PMem.ne {w wr : World} {Z : Nat} {ww hh : Int} {v : Value} {C : List Int} (h : PMem w wr Z ww hh v C) : ∀ g, v.ownBlock = some g → g ≠ Z := own_ne h.own h.blk (by decide)
theorem PMem.set {w wr : World} {Z : Nat} {ww hh ww' hh' : Int} {v : Value} {C : List Int} (h : PMem w wr Z ww hh v C) (hZ : w.heap.size ≤ Z) {wq : World} (hM : Mod (only Z) wr wq) (hB : Blk wq Z [.int .i64 ww', .int .i64 hh', v] 90) : PMem w wq Z ww' hh' v C :=
  ⟨hB, Row.modO h.own hM (fun g hg => not_only (h.ne g hg)), h.mod.trans hM (fun j hj e => by have : j = Z := e; omega)⟩
structure PSt (ww xx hh : Int) (C : List Int) : Prop where
  w : ww = -1 ∨ (1 ≤ ww ∧ ww ≤ 64)
  x : 0 ≤ xx ∧ xx ≤ 64
  h : 0 ≤ hh ∧ hh ≤ 64
  z : hh = 64 → xx = 0
  l : (C.length : Int) ≤ 64 * hh + xx
set_option maxHeartbeats 8000000 in
set_option maxRecDepth 100000 in
theorem parse_any (w : World) (s : ByteArray) (hs : s.size ≤ 9223372036854775807) :
    Calls Tryd.prog 18 #[.string s] w fun e w' => ParseP w w' e (Bd.read (Bd.runes s)) ∧ Mod none_ w w' := by
  obtain ⟨RR, hRR⟩ : ∃ RR, Bd.read (Bd.runes s) = RR := ⟨_, rfl⟩
  have HRR := Lib.hid hRR
  rw [hRR]
  clear hRR
  go_enter Tryd.func18, Tryd.ntmps18
  go_wp2
  go_step3
  go_wp2
  go_step3
  go_upto_block 0 with fail
  obtain ⟨w1, hw1⟩ : ∃ w1, (w.alloc (.cells #[.int .i64 (-1), .int .i64 0, .slice none 0 0] 90)).iter s 0 = w1 := ⟨_, rfl⟩
  have hM1 : Mod none_ w w1 := hw1 ▸ ((Mod.refl none_ w).alloc _).alloc _
  have hB1 : Blk w1 w.heap.size [.int .i64 (-1), .int .i64 0, .slice none 0 0] 90 := hw1 ▸ (Blk.new w _ _).alloc _
  have hI1 : w1.heap[w.heap.size + 1]? = some (.stringIter s 0) := by
    rw [← hw1]
    have := World.iter_heap (w.alloc (.cells #[.int .i64 (-1), .int .i64 0, .slice none 0 0] 90)) s 0
    simpa using this
  try rw [hw1]
  obtain ⟨Z, hZ⟩ : ∃ Z, w.heap.size = Z := ⟨_, rfl⟩
  have hP1 : PMem w w1 w.heap.size (-1) 0 (.slice none 0 0) [] := ⟨hB1, Row.nil _ _ _ _, hM1⟩
  rw [hZ] at hP1 hI1 hB1
  simp only [hZ]
  have HZ := Lib.hid hZ; have HP1 := Lib.hid hP1; have HI1 := Lib.hid hI1
  clear hP1 hI1 hB1 hM1 hw1 hZ
  go_cut [] (fun wx => ∃ ww hh C v, Bd.go (-1) 0 0 [] (Bd.runes s) = some ⟨ww, hh, C⟩ ∧ PMem w wx Z ww hh v C ∧ (-1 ≤ ww ∧ ww ≤ 65) ∧ (0 ≤ hh ∧ hh ≤ 65))
  case first =>
    go_wp2
    go_loopw [5] (fun u wr => ∃ (pos : Nat) (ww xx hh : Int) (C : List Int) (v : Value), u = .int .i64 xx ∧ wr.heap[Z + 1]? = some (.stringIter s pos) ∧ PMem w wr Z ww hh v C ∧ Bd.go (-1) 0 0 [] (Bd.runes s) = Bd.go ww xx hh C (Bd.runesAt s s.size pos) ∧ PSt ww xx hh C) (fun _ wr => s.size - wr.iterPos (Z + 1))
    case atStart => exact ⟨0, -1, 0, 0, [], .slice none 0 0, rfl, HI1.out, HP1.out, rfl, ⟨Or.inl rfl, by decide, by decide, by decide, by decide⟩⟩
    case round =>
      obtain ⟨pos, ww, xx, hh, C, v, rfl, hI, hP, hgo, hst⟩ := hrel
      clear HP1 HI1
      have hposm : wr.iterPos (Z + 1) = pos := by unfold World.iterPos; rw [hI]
      by_cases hp : pos < s.size
      · have hnx := fun ty => Lib.run_next_any_at (P := Tryd.prog) wr (Z + 1) s pos ty hI hp
        have hrn := Bd.runesAt_next s s.size pos hp (by omega)
        have hwd := Bd.width_pos s pos hp
        have hcw := Bd.cell_width s pos hp
        have hnil := Bd.runesAt_nil s s.size (pos + (Utf8.decode s pos).2) (by omega)
        have hI2 := Lib.iterAt_heap wr (Z + 1) s pos (pos + (Utf8.decode s pos).2) hI
        have hMi := iterAt_mod wr (Z + 1) s (pos + (Utf8.decode s pos).2)
        have hcv := fun wq : World => run_convert_int_string (P := Tryd.prog) wq 21 9 .i32 ((Utf8.decode s pos).1 : Int) (by decide +kernel) Tryd.underlying9
        obtain ⟨c, hc⟩ : ∃ c, ((Utf8.decode s pos).1 : Int) = c := ⟨_, rfl⟩
        obtain ⟨n, hn⟩ : ∃ n, (Utf8.decode s pos).2 = n := ⟨_, rfl⟩
        rw [hc, hn] at hrn hcw
        simp only [hc, hn] at hnx hcv
        rw [hn] at hwd hnil hI2 hMi
        rw [hrn] at hgo
        have hZs := (Array.getElem?_eq_some_iff.1 hI).1
        have hZs : Z + 1 < wr.heap.size := hZs
        obtain ⟨wi, hwi⟩ : ∃ wi, wr.iterAt (Z + 1) s (pos + n) = wi := ⟨_, rfl⟩
        rw [hwi] at hI2 hMi
        simp only [hwi] at hnx
        have hPi : PMem w wi Z ww hh v C := ⟨hMi.blk hP.blk (not_only (by omega)), Row.modO hP.own hMi (fun g hg => not_only (own_ne_iter hP.own hI g hg)), hP.mod.trans hMi (fun j hj e => by have : j = Z + 1 := e; have := HZ.out; omega)⟩
        have q0 := hPi.blk.cell (j := 0) rfl
        have q1 := hPi.blk.cell (j := 1) rfl
        have q2 := hPi.blk.cell (j := 2) rfl
        have f0 := hPi.blk.frozen 0
        have f1 := hPi.blk.frozen 1
        have f2 := hPi.blk.frozen 2
        obtain ⟨r, hr⟩ : ∃ r, Bd.runesAt s s.size (pos + n) = r := ⟨_, rfl⟩
        rw [hr] at hgo hnil
        rw [Bd.go_cons] at hgo
        have HPI := Lib.hid hPi; have HI2 := Lib.hid hI2; have HGO := Lib.hid hgo; have HST0 := Lib.hid hst; have HR := Lib.hid hr; have HNIL := Lib.hid hnil; have HCW := Lib.hid hcw
        have hst1 := hst.w; have hst2 := hst.x; have hst3 := hst.h; have hst4 := hst.z; have hst5 := hst.l
        have HMI := Lib.hid hPi.mod
        have hms : s.size - (pos + n) < s.size - pos := by omega
        have HMS := Lib.hid hms; have HPM := Lib.hid hposm
        clear hPi hI2 hgo hst hr hnil hcw hwi hc hn hrn hMi hI hP hms hposm
        have hfin : ∀ wq, Mod (only Z) wi wq → wq.heap[Z + 1]? = some (.stringIter s (pos + n)) := fun wq hM => (hM.block (Z + 1) (Array.getElem?_eq_some_iff.1 HI2.out).1 (not_only (by omega))).trans HI2.out
        have HFIN := Lib.hid hfin; have HLT := Lib.hid (Array.getElem?_eq_some_iff.1 HI2.out).1
        clear hfin
        by_cases c10 : c = 10
        · have e10 : (c == 10) = true := by simp [c10]
          by_cases cb : (0 ≤ ww ∧ xx ≠ ww) ∨ xx = 0
          · have HRD := Lib.hid (HRR.out.symm.trans (Bd.read_none (HGO.out.trans (show (if c = 10 then (if (0 ≤ ww ∧ xx ≠ ww) ∨ xx = 0 then none else Bd.go xx 0 (hh + 1) C r) else if Bd.kind c = 0 ∨ hh = 64 ∨ xx = 64 then none else if r = [] then (if 0 ≤ ww ∧ xx + 1 ≠ ww then none else some ⟨xx + 1, hh + 1, C ++ [Bd.kind c]⟩) else Bd.go ww (xx + 1) hh (C ++ [Bd.kind c]) r) = none by rw [if_pos c10, if_pos cb]))))
            clear HGO c10 HST0
            by_cases g1 : 0 ≤ ww
            · by_cases g2 : xx = ww
              · have e2 : (xx == ww) = true := by simp [g2]
                have e3 : (xx == 0) = true := by simp; omega
                clear g2 cb
                go_wp2
                try rw [Exit.noGoto_ret]
                go_ret2
                rw [HRD.out]
                exact ⟨rfl, HMI.out⟩
              · have e2 : (xx == ww) = false := by simp [g2]
                clear g2 cb
                go_wp2
                try rw [Exit.noGoto_ret]
                go_ret2
                rw [HRD.out]
                exact ⟨rfl, HMI.out⟩
            · have e3 : (xx == 0) = true := by simp; omega
              clear cb
              go_wp2
              try rw [Exit.noGoto_ret]
              go_ret2
              rw [HRD.out]
              exact ⟨rfl, HMI.out⟩
          · have hgo2 := HGO.out.trans (show (if c = 10 then (if (0 ≤ ww ∧ xx ≠ ww) ∨ xx = 0 then none else Bd.go xx 0 (hh + 1) C r) else if Bd.kind c = 0 ∨ hh = 64 ∨ xx = 64 then none else if r = [] then (if 0 ≤ ww ∧ xx + 1 ≠ ww then none else some ⟨xx + 1, hh + 1, C ++ [Bd.kind c]⟩) else Bd.go ww (xx + 1) hh (C ++ [Bd.kind c]) r) = Bd.go xx 0 (hh + 1) C r by rw [if_pos c10, if_neg cb])
            have e3 : (xx == 0) = false := by simp; omega
            have HGO2 := Lib.hid hgo2
            have hB2 : Blk ((wi.setCell ⟨Z, 0, none⟩ (.int .i64 xx)).setCell ⟨Z, 1, none⟩ (.int .i64 (hh + 1))) Z [.int .i64 xx, .int .i64 (hh + 1), v] 90 := ((HPI.out.blk.set 0 _).set 1 _).cs rfl
            have hM2 : Mod (only Z) wi ((wi.setCell ⟨Z, 0, none⟩ (.int .i64 xx)).setCell ⟨Z, 1, none⟩ (.int .i64 (hh + 1))) := ((Mod.refl _ _).setCell (fun _ => only_self Z) _).setCell (fun _ => only_self Z) _
            have hP2 := HPI.out.set (by have := HZ.out; omega) hM2 hB2
            have hI3 := HFIN.out _ hM2
            have hst2 : PSt xx 0 (hh + 1) C := ⟨Or.inr ⟨by omega, by omega⟩, by decide, by omega, fun h => rfl, by omega⟩
            have HL := Lib.hid (And.intro hP2 (And.intro hI3 hst2))
            clear hB2 hM2 hP2 hI3 hst2 hgo2 HGO c10
            by_cases g1 : 0 ≤ ww
            · obtain rfl : xx = ww := by omega
              clear cb
              go_wp2
              go_roundw
              case rel =>
                refine ⟨pos + n, xx, 0, hh + 1, C, v, rfl, HL.out.2.1, HL.out.1, ?_, HL.out.2.2⟩
                rw [HGO2.out, HR.out]
              case measure =>
                have h1 := HL.out.2.1
                unfold World.iterPos at HPM ⊢
                rw [h1]
                have h2 := HPM.out
                rw [h2]
                exact HMS.out
            · clear cb
              go_wp2
              go_roundw
              case rel =>
                refine ⟨pos + n, xx, 0, hh + 1, C, v, rfl, HL.out.2.1, HL.out.1, ?_, HL.out.2.2⟩
                rw [HGO2.out, HR.out]
              case measure =>
                have h1 := HL.out.2.1
                unfold World.iterPos at HPM ⊢
                rw [h1]
                have h2 := HPM.out
                rw [h2]
                exact HMS.out
        · have e10 : (c == 10) = false := by simp [c10]
          have hcell : ∀ wq : World, Calls Tryd.prog 52 #[.int .i32 c] wq fun e w' => e = .returned (.int .i32 (Bd.kind c)) ∧ wq = w' := fun wq => (cellf_any wq c).mono (fun _ _ h => ⟨h.1, h.2.symm⟩)
          obtain ⟨k, hk⟩ : ∃ k, Bd.kind c = k := ⟨_, rfl⟩
          simp only [hk] at hcell
          have HCELL := Lib.hid hcell; have HK := Lib.hid hk
          clear hcell
          by_cases cb : k = 0 ∨ hh = 64 ∨ xx = 64
          · have HRD := Lib.hid (HRR.out.symm.trans (Bd.read_none (HGO.out.trans (show (if c = 10 then (if (0 ≤ ww ∧ xx ≠ ww) ∨ xx = 0 then none else Bd.go xx 0 (hh + 1) C r) else if Bd.kind c = 0 ∨ hh = 64 ∨ xx = 64 then none else if r = [] then (if 0 ≤ ww ∧ xx + 1 ≠ ww then none else some ⟨xx + 1, hh + 1, C ++ [Bd.kind c]⟩) else Bd.go ww (xx + 1) hh (C ++ [Bd.kind c]) r) = none by rw [if_neg c10, hk, if_pos cb]))))
            clear HGO c10 HST0 hk
            by_cases g1 : k = 0
            · have e2 : (k == 0) = true := by simp [g1]
              clear g1 cb
              go_wp2_with (go_at_call 52; refine (HCELL.out _).mono ?_; rintro r wz ⟨rfl, rfl⟩)
              try rw [Exit.noGoto_ret]
              go_ret2
              rw [HRD.out]
              exact ⟨rfl, HMI.out⟩
            · have e2 : (k == 0) = false := by simp [g1]
              by_cases g2 : hh = 64
              · have e3 : (hh == 64) = true := by simp [g2]
                clear g1 g2 cb hst4
                go_wp2_with (go_at_call 52; refine (HCELL.out _).mono ?_; rintro r wz ⟨rfl, rfl⟩)
                try rw [Exit.noGoto_ret]
                go_ret2
                rw [HRD.out]
                exact ⟨rfl, HMI.out⟩
              · have e3 : (hh == 64) = false := by simp [g2]
                have e4 : (xx == 64) = true := by simp; omega
                clear g1 g2 cb
                go_wp2_with (go_at_call 52; refine (HCELL.out _).mono ?_; rintro r wz ⟨rfl, rfl⟩)
                try rw [Exit.noGoto_ret]
                go_ret2
                rw [HRD.out]
                exact ⟨rfl, HMI.out⟩
          · have e2 : (k == 0) = false := by simp; omega
            have e3 : (hh == 64) = false := by simp; omega
            have e4 : (xx == 64) = false := by simp; omega
            have hgo2 := HGO.out.trans (show (if c = 10 then (if (0 ≤ ww ∧ xx ≠ ww) ∨ xx = 0 then none else Bd.go xx 0 (hh + 1) C r) else if Bd.kind c = 0 ∨ hh = 64 ∨ xx = 64 then none else if r = [] then (if 0 ≤ ww ∧ xx + 1 ≠ ww then none else some ⟨xx + 1, hh + 1, C ++ [Bd.kind c]⟩) else Bd.go ww (xx + 1) hh (C ++ [Bd.kind c]) r) = (if r = [] then (if 0 ≤ ww ∧ xx + 1 ≠ ww then none else some ⟨xx + 1, hh + 1, C ++ [k]⟩) else Bd.go ww (xx + 1) hh (C ++ [k]) r) by rw [if_neg c10, hk, if_neg cb])
            obtain ⟨henc, hle⟩ := HCW.out (by rw [hk]; omega)
            have HGO2 := Lib.hid hgo2
            have hh63 : hh < 64 := by omega
            have hx63 : xx < 64 := by omega
            clear hgo2 HGO c10 hk cb HCW
            have hown1 := fun (o : Obj) => Row.none HPI.out.own ((Mod.refl none_ wi).alloc o)
            have hcs : C.length ≤ 5000 := by omega
            have hwz : w.heap.size ≤ wi.heap.size := HPI.out.mod.size
            have HOWN := Lib.hid hown1
            have hmall : ∀ w3, (wi.alloc (.cells #[.int .i32 k] 21)).grownBy w3 v.ownBlock → Mod (fun b => v.ownBlock = some b) wi w3 ∧ Blk w3 Z [.int .i64 ww, .int .i64 hh, v] 90 ∧ w3.heap[Z + 1]? = some (.stringIter s (pos + n)) := fun w3 h2 => by
              have hM : Mod (fun b => v.ownBlock = some b) wi w3 := ((Mod.refl (fun b => v.ownBlock = some b) wi).alloc (.cells #[.int .i32 k] 21)).trans (Mod.grownBy (S := fun b => v.ownBlock = some b) h2 (fun j _ e => e)) (fun _ _ e => e)
              exact ⟨hM, hM.blk HPI.out.blk (fun e => HPI.out.ne Z e rfl), (hM.block (Z + 1) HLT.out (fun e => own_ne_iter HPI.out.own HI2.out (Z + 1) e rfl)).trans HI2.out⟩
            have HALL := Lib.hid hmall
            clear hmall hown1 q2
            have q2 := HPI.out.blk.cell (j := 2) rfl
            go_upto_region 14 with (go_at_call 52; refine (HCELL.out _).mono ?_; rintro r wz ⟨rfl, rfl⟩)

            go_upto_region 15 with (refine wpList_append_i rfl (.tmp 66) (.tmp 68) rfl w.heap.size v C rfl (HOWN.out _) k wi.heap.size rfl (by rw [World.cell?_alloc_new]; rfl) (by omega) (by simp; omega) ?_; intro g2 cap2 m2 w3 hv2 hm2 hg2; have HM2 := Lib.hid hm2; clear hm2; obtain ⟨hM3, hB3, hI3⟩ := HALL.out w3 hg2; have r2 := hB3.cell (j := 2) rfl; have r2f := hB3.frozen 2)
            obtain ⟨v2, hv2e⟩ : ∃ v2, Value.slice (some ⟨g2, 0, none⟩) m2 cap2 = v2 := ⟨_, rfl⟩
            have hv2' : w3.ownsRow w.heap.size 21 1 v2 (C ++ [k]).length (i32s (C ++ [k])) := by rw [← HM2.out, ← hv2e]; exact hv2
            rw [hv2e]
            have hB4 : Blk (w3.setCell ⟨Z, 2, none⟩ v2) Z [.int .i64 ww, .int .i64 hh, v2] 90 := (hB3.set 2 _).cs rfl
            have hM4 : Mod (only Z) w3 (w3.setCell ⟨Z, 2, none⟩ v2) := (Mod.refl _ _).setCell (fun _ => only_self Z) _
            have hP4 : PMem w (w3.setCell ⟨Z, 2, none⟩ v2) Z ww hh v2 (C ++ [k]) := ⟨hB4, Row.modO hv2' hM4 (fun g hg => not_only (own_ne hv2' hB3 (by decide) g hg)), (HPI.out.mod.trans hM3 (fun b hb e => by have := Row.own_ge HPI.out.own e; omega)).trans hM4 (fun j hj e => by have : j = Z := e; have := HZ.out; omega)⟩
            have hI4 : (w3.setCell ⟨Z, 2, none⟩ v2).heap[Z + 1]? = some (.stringIter s (pos + n)) := (hM4.block (Z + 1) (Array.getElem?_eq_some_iff.1 hI3).1 (not_only (by omega))).trans hI3
            generalize w3.setCell ⟨Z, 2, none⟩ v2 = w4 at *
            have HP4 := Lib.hid hP4; have HI4 := Lib.hid hI4
            replace q0 := hB4.cell (j := 0) rfl
            replace q1 := hB4.cell (j := 1) rfl
            replace f0 := hB4.frozen 0
            replace f1 := hB4.frozen 1
            have HMI := Lib.hid hP4.mod
            have hZ4 := (Array.getElem?_eq_some_iff.1 hI4).1
            have HZ4 := Lib.hid hZ4
            clear hB4 hM4 hP4 hI4 hM3 hB3 hI3 r2 r2f hv2 hv2' hv2e HM2 hg2 HALL HOWN q2 f2 HPI HI2 hZ4
            by_cases hr0 : r = []
            · have hps : s.size ≤ pos + n := HNIL.out.1 hr0
              have el : ((pos : Int) == (s.size : Int) - (n : Int)) = true := by simp; omega
              by_cases cw : 0 ≤ ww ∧ xx + 1 ≠ ww
              · have HRD := Lib.hid (HRR.out.symm.trans (Bd.read_none (HGO2.out.trans (by rw [if_pos hr0, if_pos cw]))))
                have ew : (xx + 1 == ww) = false := by simp; omega
                have g1 : 0 ≤ ww := cw.1
                clear hr0 hps cw
                go_wp2
                try rw [Exit.noGoto_ret]
                go_ret2
                rw [HRD.out]
                exact ⟨rfl, HMI.out⟩
              · have hgo3 := HGO2.out.trans (show _ = some (Bd.Raw.mk (xx + 1) (hh + 1) (C ++ [k])) by rw [if_pos hr0, if_neg cw])
                have HGO3 := Lib.hid hgo3
                have hB5 : Blk ((w4.setCell ⟨Z, 0, none⟩ (.int .i64 (xx + 1))).setCell ⟨Z, 1, none⟩ (.int .i64 (hh + 1))) Z [.int .i64 (xx + 1), .int .i64 (hh + 1), v2] 90 := ((HP4.out.blk.set 0 _).set 1 _).cs rfl
                have hM5 : Mod (only Z) w4 ((w4.setCell ⟨Z, 0, none⟩ (.int .i64 (xx + 1))).setCell ⟨Z, 1, none⟩ (.int .i64 (hh + 1))) := ((Mod.refl _ _).setCell (fun _ => only_self Z) _).setCell (fun _ => only_self Z) _
                have HP5 := Lib.hid (HP4.out.set (by have := HZ.out; omega) hM5 hB5)
                clear hB5 hM5 hgo3 hr0 hps
                by_cases g1 : 0 ≤ ww
                · have ew : (xx + 1 == ww) = true := by simp; omega
                  clear cw
                  go_wp2
                  go_meet
                  exact ⟨_, _, _, _, HGO3.out, HP5.out, by omega, by omega⟩
                · clear cw
                  go_wp2
                  go_meet
                  exact ⟨_, _, _, _, HGO3.out, HP5.out, by omega, by omega⟩
            · have hps : ¬ s.size ≤ pos + n := fun h => hr0 (HNIL.out.2 h)
              have el : ((pos : Int) == (s.size : Int) - (n : Int)) = false := by simp; omega
              have hgo3 := HGO2.out.trans (show _ = Bd.go ww (xx + 1) hh (C ++ [k]) r by rw [if_neg hr0])
              have HGO3 := Lib.hid hgo3
              have hst5' : PSt ww (xx + 1) hh (C ++ [k]) := ⟨hst1, by omega, hst3, fun h => by omega, by simp; omega⟩
              have HST5 := Lib.hid hst5'
              clear hgo3 hr0 hst5'
              go_wp2
              go_roundw
              case rel =>
                refine ⟨pos + n, ww, xx + 1, hh, C ++ [k], v2, rfl, HI4.out, HP4.out, ?_, HST5.out⟩
                rw [HGO3.out, HR.out]
              case measure =>
                have h1 := HI4.out
                unfold World.iterPos at HPM ⊢
                rw [h1]
                have h2 := HPM.out
                rw [h2]
                exact HMS.out
      · have hnx := fun ty => Lib.run_next_end_at (P := Tryd.prog) wr (Z + 1) s pos ty hI hp
        rw [Bd.runesAt_end s _ _ hp, Bd.go_nil] at hgo
        have HGO := Lib.hid hgo; have HP := Lib.hid hP
        have hst1 := hst.w; have hst3 := hst.h
        clear hgo hP hst hposm
        go_wp2
        go_meet
        exact ⟨_, _, _, _, HGO.out, HP.out, by omega, by omega⟩
  case rest =>
    obtain ⟨ww, hh, C, v, hgo, hP, hw65, hh65⟩ := hcut
    have hrs := Bd.read_some hgo
    have q0 := hP.blk.cell (j := 0) rfl
    have q1 := hP.blk.cell (j := 1) rfl
    have HMI := Lib.hid hP.mod; have HP := Lib.hid hP; have HGO := Lib.hid hgo; have HRS := Lib.hid hrs
    clear hP hgo hrs
    by_cases cb : ww < 3 ∨ hh < 3 ∨ 64 < ww ∨ 64 < hh
    · have HRD := Lib.hid (HRR.out.symm.trans (HRS.out.trans (if_pos cb)))
      by_cases t1 : ww < 3
      · clear cb
        go_wp2
        try rw [Exit.noGoto_ret]
        go_ret2
        rw [HRD.out]
        exact ⟨rfl, HMI.out⟩
      · by_cases t2 : hh < 3
        · clear cb
          go_wp2
          try rw [Exit.noGoto_ret]
          go_ret2
          rw [HRD.out]
          exact ⟨rfl, HMI.out⟩
        · by_cases t3 : 64 < ww
          · clear cb
            go_wp2
            try rw [Exit.noGoto_ret]
            go_ret2
            rw [HRD.out]
            exact ⟨rfl, HMI.out⟩
          · have t4 : 64 < hh := by omega
            clear cb
            go_wp2
            try rw [Exit.noGoto_ret]
            go_ret2
            rw [HRD.out]
            exact ⟨rfl, HMI.out⟩
    · have hrd := HRR.out.symm.trans (HRS.out.trans (if_neg cb))
      have hcz := Bd.go_size HGO.out (by show 0 ≤ ww; omega)
      obtain ⟨W, rfl⟩ : ∃ W : Nat, ww = W := ⟨ww.toNat, by omega⟩
      obtain ⟨H, rfl⟩ : ∃ H : Nat, hh = H := ⟨hh.toNat, by omega⟩
      simp only [Int.toNat_natCast] at hrd hcz
      have hW : 3 ≤ W ∧ W ≤ 64 := by omega
      have hH : 3 ≤ H ∧ H ≤ 64 := by omega
      have hn0 : 9 ≤ W * H := Nat.mul_le_mul hW.1 hH.1
      obtain ⟨g, cap, rest, rfl, hg, hBg, hcap⟩ := Row.blk HP.out.own (by rw [hcz]; omega)
      have hgZ : Z ≠ g := fun e => HP.out.ne g rfl e.symm
      have hB := HP.out.blk
      rw [hcz] at hB hcap
      have hclose := close_any wc Z g W H (W * H) cap C rest hW hH rfl hcz hgZ hB hBg
      have HCL := Lib.hid hclose; have HRD := Lib.hid hrd; have HB := Lib.hid hB
      have ec1 : ¬ (W : Int) < 3 := by omega
      have ec2 : ¬ (H : Int) < 3 := by omega
      have ec3 : ¬ 64 < (W : Int) := by omega
      have ec4 : ¬ 64 < (H : Int) := by omega
      have hcl : (Bd.close W H C).length = W * H := by unfold Bd.close; rw [List.length_mapIdx]; exact hcz
      have hMw := HP.out.mod
      have HMW := Lib.hid hMw
      clear hclose hrd hB hBg cb HRS HGO hcz hMw
      go_wp2_with fail
      refine HCL.out.mono ?_
      rintro r w5 ⟨rfl, hC5, hM5⟩
      have hB5 := hM5.blk HB.out (not_only hgZ)
      have hsp := spawns_any w5 (b := Z) (g := g) (W := W) (H := H) (n := W * H) (E := Bd.close W H C) ⟨hW, hH, rfl, hcl, cap, rest, hB5, hC5, hcap⟩
      have hM5w : Mod none_ w w5 := HMW.out.trans hM5 (fun j hj e => by have : j = g := e; omega)
      have HSP := Lib.hid hsp; have HC5 := Lib.hid hC5; have HB5 := Lib.hid hB5; have HM5 := Lib.hid hM5w
      clear hsp hC5 hB5 hM5 hM5w q0 q1
      go_wp2_with fail
      refine HSP.out.mono ?_
      rintro r w6 ⟨u, rfl, hu, hM6⟩
      have HMI := Lib.hid (HM5.out.then hM6)
      obtain ⟨ua, ucap, rfl⟩ : ∃ a c, u = .slice a (Bd.spawns W (Bd.close W H C)).length c := by
        rcases hu.2 with ⟨h1, h2⟩ | ⟨g', cap', cur, h1, _⟩
        · exact ⟨none, 0, by rw [h1, h2]⟩
        · exact ⟨_, _, h1⟩
      have HM6 := Lib.hid hM6
      clear hu hM6
      by_cases h0 : Bd.spawns W (Bd.close W H C) = []
      · have hrp : RR = .place := by rw [HRD.out]; unfold Bd.shut; rw [if_pos h0]
        have hl0 : (Bd.spawns W (Bd.close W H C)).length = 0 := by rw [h0]; rfl
        rw [hl0]
        have HRP := Lib.hid hrp
        clear hrp h0 hl0
        go_wp2
        try rw [Exit.noGoto_ret]
        go_ret2
        rw [HRP.out]
        exact ⟨rfl, HMI.out⟩
      · have hrp : RR = .board W H (Bd.close W H C) := by rw [HRD.out]; unfold Bd.shut; rw [if_neg h0]
        have hfine : Bd.Fine W H (Bd.close W H C) := Bd.read_fine (HRR.out.trans hrp)
        obtain ⟨m, hm⟩ : ∃ m, (Bd.spawns W (Bd.close W H C)).length = m + 1 := by
          cases hl : Bd.spawns W (Bd.close W H C) with
          | nil => exact absurd hl h0
          | cons x r => exact ⟨r.length, rfl⟩
        rw [hm]
        have em : (((m + 1 : Nat) : Int) == 0) = false := by simp; omega
        have em2 : ((m : Int) + 1 == 0) = false := by simp; omega
        have HRP := Lib.hid hrp; have HFI := Lib.hid hfine
        clear hrp hfine h0 hm
        go_wp2
        try rw [Exit.noGoto_ret]
        go_ret2
        rw [HRP.out]
        exact ⟨⟨Z, rfl, by have := HZ.out; omega, HFI.out, g, cap, rest, HM6.out.blk HB5.out (fun h => h), HM6.out.blk HC5.out (fun h => h), hcap⟩, HMI.out⟩
end Go.Proofs.YtinjlkceplhibaaDoor
