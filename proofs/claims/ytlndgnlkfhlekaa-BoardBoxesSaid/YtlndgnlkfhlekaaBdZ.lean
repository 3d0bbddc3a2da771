/- BoardBoxes: the law's walk. -/
import Derived.Test.YtlndgnlkfhlekaaBdX
namespace Bd
/-- the last column that is covered behind x -/
def cov (x last : Int) : Int := if x ≤ last then num x - 1 else num last
theorem cov_start {x last : Int} (h : x ≤ last) : cov x last = num x - 1 := by unfold cov; rw [if_pos h]
theorem cov_end {x last : Int} (h : last < x) : cov x last = num last := by unfold cov; rw [if_neg (by omega)]
theorem cov_next {x last : Int} (h : x ≤ last) : cov (nextc x last) last ≤ num x ∧ x < nextc x last ∧ nextc x last ≤ last + 1 := by
  by_cases he : x < last
  · obtain ⟨h1, h2, h3⟩ := nextc_lt he
    exact ⟨by rw [cov_start h2]; omega, h1, by omega⟩
  · have : x = last := by omega
    subst this
    rw [nextc_ge (Int.le_refl _)]
    exact ⟨by rw [cov_end (by omega)]; exact Int.le_refl _, by omega, by omega⟩
theorem next_floor (x : Int) : (if x < 0 ∧ Int.tmod x 524288 ≠ 0 then x - Int.tmod x 524288 else x - Int.tmod x 524288 + 524288) = (x / 524288) * 524288 + 524288 := by
  have h1 := Int.tmod_add_mul_tdiv x 524288
  have h2 : x < 0 → Int.tmod x 524288 ≤ 0 := fun h => by
    have h3 := Int.tmod_nonneg 524288 (show 0 ≤ -x by omega)
    rw [Int.neg_tmod] at h3
    omega
  have h3 : 0 ≤ x → 0 ≤ Int.tmod x 524288 := fun h => Int.tmod_nonneg _ h
  have h4 := Int.tmod_lt_of_pos x (show (0 : Int) < 524288 by decide)
  have h5 := Int.lt_tmod_of_pos x (show (0 : Int) < 524288 by decide)
  generalize Int.tmod x 524288 = r at *
  generalize Int.tdiv x 524288 = q at *
  split <;> omega
theorem box_hit {W H : Nat} {E : List Int} {X Y l x y : Int} (hX : -1099511627776 ≤ X ∧ X ≤ 1099511627776) (hY : -1099511627776 ≤ Y ∧ Y ≤ 1099511627776) (hl : 1 ≤ l ∧ l ≤ 4398046511104) (hW : 3 ≤ W ∧ W ≤ 64) (hH : 3 ≤ H ∧ H ≤ 64) (hx : X - l ≤ x ∧ x < X + l) (hy : Y - l ≤ y ∧ y < Y + l) (h : atOf W H E x y = 35) : Blocked W H E X Y l :=
  (blocked_near hX hY hl hW hH).2 ⟨num x, num y, ⟨num_mono (by omega), num_mono (by omega)⟩, ⟨num_mono (by omega), num_mono (by omega)⟩, h⟩
theorem wall_start {W H : Nat} {E : List Int} {a b y last : Int} (h : y ≤ last) : ¬ Wall W H E a b (num y) (cov y last) := by
  rintro ⟨cx, cy, _, hy, _⟩
  rw [cov_start h] at hy
  omega
theorem wall_startx {W H : Nat} {E : List Int} {a b y last : Int} (h : y ≤ last) : ¬ Wall W H E (num y) (cov y last) a b := by
  rintro ⟨cx, cy, hy, _, _⟩
  rw [cov_start h] at hy
  omega
theorem wall_step {W H : Nat} {E : List Int} {c s y last : Int} (h : y ≤ last) (h1 : ¬ Wall W H E c c s (cov y last)) (h2 : cellOf W H E c (num y) ≠ 35) : ¬ Wall W H E c c s (cov (nextc y last) last) := by
  rintro ⟨cx, cy, hx, hy, hc⟩
  have := (cov_next h).1
  by_cases he : cy ≤ num y - 1
  · exact h1 ⟨cx, cy, hx, ⟨hy.1, by rw [cov_start h]; exact he⟩, hc⟩
  · have e1 : cy = num y := by omega
    have e2 : cx = c := by omega
    rw [e1, e2] at hc
    exact h2 hc
theorem wall_stepx {W H : Nat} {E : List Int} {a b s x last : Int} (h : x ≤ last) (h1 : ¬ Wall W H E s (cov x last) a b) (h2 : ¬ Wall W H E (num x) (num x) a b) : ¬ Wall W H E s (cov (nextc x last) last) a b := by
  rintro ⟨cx, cy, hx, hy, hc⟩
  have := (cov_next h).1
  by_cases he : cx ≤ num x - 1
  · exact h1 ⟨cx, cy, ⟨hx.1, by rw [cov_start h]; exact he⟩, hy, hc⟩
  · exact h2 ⟨cx, cy, ⟨by omega, by omega⟩, hy, hc⟩
end Bd
namespace Go.Proofs.Ytlndgnlkfhlekaa
open Go.RowKit

theorem next_any (w : World) (x last : Int) (hx : -9000000000 ≤ x ∧ x ≤ 9000000000) (hl : -9000000000 ≤ last ∧ last ≤ 9000000000) : Calls Try.prog 27 #[.int .i64 x, .int .i64 last] w fun e w' => e = .returned (.int .i64 (Bd.nextc x last)) ∧ w = w' := by
  obtain ⟨N, hN⟩ : ∃ N, Bd.nextc x last = N := ⟨_, rfl⟩
  rw [hN]
  unfold Bd.nextc at hN
  have hf := Bd.next_floor x
  have h4 := Int.tmod_lt_of_pos x (show (0 : Int) < 524288 by decide)
  have h5 := Int.lt_tmod_of_pos x (show (0 : Int) < 524288 by decide)
  generalize (x / 524288) * 524288 + 524288 = F at *
  obtain ⟨r, hr⟩ : ∃ r, Int.tmod x 524288 = r := ⟨_, rfl⟩
  rw [hr] at hf h4 h5
  by_cases ha : last ≤ x
  · rw [if_pos ha] at hN
    have HN := Lib.hid hN
    clear hN hf hr
    go_enter Try.func27, Try.ntmps27
    go_wp2
    go_ret
    exact ⟨ret_int HN.out, rfl⟩
  · rw [if_neg ha] at hN
    by_cases hb : x < 0 ∧ r ≠ 0
    · rw [if_pos hb] at hf
      have g1 := hb.1
      have e1 : (r == 0) = false := by simp; exact hb.2
      have HN := Lib.hid hN; have HF := Lib.hid hf
      clear hN hf hb
      by_cases hc : last < x - r
      · go_enter Try.func27, Try.ntmps27
        go_wp2
        go_ret
        exact ⟨ret_int (by have := HN.out; rw [← HF.out, if_pos hc] at this; exact this), rfl⟩
      · go_enter Try.func27, Try.ntmps27
        go_wp2
        go_ret
        exact ⟨ret_int (by have := HN.out; rw [← HF.out, if_neg (by omega)] at this; exact this), rfl⟩
    · rw [if_neg hb] at hf
      have HN := Lib.hid hN; have HF := Lib.hid hf
      clear hN hf
      by_cases g1 : x < 0
      · have e0 : r = 0 := by
          by_cases h : r = 0
          · exact h
          · exact absurd ⟨g1, h⟩ hb
        have e1 : (r == 0) = true := by simp [e0]
        have E0 := Lib.hid e0
        clear hb e0
        by_cases hc : last < x - r + 524288
        · go_enter Try.func27, Try.ntmps27
          go_wp2
          go_ret
          exact ⟨ret_int (by have := HN.out; rw [← HF.out, if_pos hc] at this; exact this), rfl⟩
        · go_enter Try.func27, Try.ntmps27
          go_wp2
          go_ret
          exact ⟨ret_int (by have := HN.out; rw [← HF.out, if_neg (by omega)] at this; exact this), rfl⟩
      · clear hb
        by_cases hc : last < x - r + 524288
        · go_enter Try.func27, Try.ntmps27
          go_wp2
          go_ret
          exact ⟨ret_int (by have := HN.out; rw [← HF.out, if_pos hc] at this; exact this), rfl⟩
        · go_enter Try.func27, Try.ntmps27
          go_wp2
          go_ret
          exact ⟨ret_int (by have := HN.out; rw [← HF.out, if_neg (by omega)] at this; exact this), rfl⟩
/-- the place among the arguments -/
structure BxA (A : Nat) (ax ay : Int) (w q : World) : Prop where
  x : q.cell? ⟨A, 0, none⟩ = some (.int .i64 ax)
  y : q.cell? ⟨A, 1, none⟩ = some (.int .i64 ay)
  m : Mod none_ w q
theorem BxA.to {A : Nat} {ax ay : Int} {w q : World} (h : BxA A ax ay w w) (hM : Mod none_ w q) : BxA A ax ay w q := ⟨hM.cellS h.x (fun h => h), hM.cellS h.y (fun h => h), hM⟩
/-- what the law's statements read -/
structure BxS (b P Q W H : Nat) (E : List Int) (X Y h0 h1 : Int) (w q : World) : Prop where
  brd : BrdP q b W H E
  pp : q.rangeAt P 0 [.int .i64 X, .int .i64 Y]
  q0 : q.cell? ⟨Q, 0, none⟩ = some (.int .i64 h0)
  q1 : q.cell? ⟨Q, 1, none⟩ = some (.int .i64 h1)
  m : Mod none_ w q
theorem BxS.then {b P Q W H : Nat} {E : List Int} {X Y h0 h1 : Int} {w q q' : World} (h : BxS b P Q W H E X Y h0 h1 w q) (hM : Mod none_ q q') : BxS b P Q W H E X Y h0 h1 w q' :=
  ⟨h.brd.none hM, rangeAt_none h.pp hM, hM.cellS h.q0 (fun h => h), hM.cellS h.q1 (fun h => h), h.m.then hM⟩
theorem BxS.px {b P Q W H : Nat} {E : List Int} {X Y h0 h1 : Int} {w q : World} (h : BxS b P Q W H E X Y h0 h1 w q) : q.cell? ⟨P, 0, none⟩ = some (.int .i64 X) := h.pp 0 _ rfl
theorem BxS.py {b P Q W H : Nat} {E : List Int} {X Y h0 h1 : Int} {w q : World} (h : BxS b P Q W H E X Y h0 h1 w q) : q.cell? ⟨P, 1, none⟩ = some (.int .i64 Y) := h.pp 1 _ rfl
/-- a box asked, as one Boolean -/
theorem blockedB {b P Q W H : Nat} {E : List Int} {X Y h0 h1 : Int} {w : World} (x y h : Int) (hx : Bd.I64 x) (hy : Bd.I64 y) (hh : Bd.I64 h) (B : Bool) (hB : B = true ↔ Bd.Blocked W H E x y h) (q : World) (hS : BxS b P Q W H E X Y h0 h1 w q) :
    Calls Try.prog 23 #[.pointer (some ⟨b, 0, none⟩), .agg #[.int .i64 x, .int .i64 y], .int .i64 h] q fun r w' => r = .returned (.bool B) ∧ BxS b P Q W H E X Y h0 h1 w w' :=
  (blocked_any q hS.brd x y h hx hy hh).mono (by
    rintro r w' ⟨⟨t, rfl, ht⟩, hM⟩
    refine ⟨ret_bool ?_, hS.then hM⟩
    cases t <;> cases B <;> simp_all)
set_option maxHeartbeats 8000000 in
set_option maxRecDepth 100000 in
theorem boardBoxes_any (w : World) (s : ByteArray) (hs : s.size ≤ 9223372036854775807) (ax ay h0 h1 : Int) :
    Calls Try.prog 6 #[.string s, .agg #[.int .i64 ax, .int .i64 ay], .agg #[.int .i64 h0, .int .i64 h1]] w fun e w' => e = .returned (.bool true) ∧ Mod none_ w w' := by
  obtain ⟨RR, hRR⟩ : ∃ RR, Bd.read (Bd.runes s) = RR := ⟨_, rfl⟩
  go_enter Try.func6, Try.ntmps6
  go_upto_region 1 with fail
  obtain ⟨w0, hw0⟩ : ∃ w0, (w.alloc (.cells #[.int .i64 ax, .int .i64 ay] 34)).alloc (.cells #[.int .i64 h0, .int .i64 h1] 46) = w0 := ⟨_, rfl⟩
  have hM0 : Mod none_ w w0 := hw0 ▸ ((Mod.refl none_ w).alloc _).alloc _
  have hBa : Blk w0 w.heap.size [.int .i64 ax, .int .i64 ay] 34 := hw0 ▸ (Blk.new w _ _).alloc _
  have hBq : Blk w0 (w.heap.size + 1) [.int .i64 h0, .int .i64 h1] 46 := hw0 ▸ Blk.newA2 w _ #[.int .i64 h0, .int .i64 h1] _
  rw [hw0]
  obtain ⟨A, hA⟩ : ∃ A, w.heap.size = A := ⟨_, rfl⟩
  rw [hA] at hBa hBq
  simp only [hA]
  have HM0 := Lib.hid hM0; have HBa := Lib.hid hBa; have HBq := Lib.hid hBq
  clear hM0 hBa hBq hw0 hA
  go_wp2_with fail
  refine (alive14_any w0).mono ?_
  rintro r w1 ⟨rfl, hM1⟩
  have hp := parse_any w1 s hs
  rw [hRR] at hp
  have HP := Lib.hid hp; have HM1 := Lib.hid hM1
  clear hp hM1 hRR
  go_wp2_with fail
  refine HP.out.mono ?_
  rintro r w2 ⟨hpp, hM2⟩
  have HM2 := Lib.hid (HM1.out.then hM2)
  clear hM2 HP
  cases RR with
  | bad =>
    obtain rfl := hpp
    go_wp2
    go_ret
    exact ⟨rfl, HM0.out.then HM2.out⟩
  | place =>
    obtain rfl := hpp
    go_wp2
    go_ret
    exact ⟨rfl, HM0.out.then HM2.out⟩
  | board W H E =>
    obtain ⟨b, rfl, hb, hB⟩ := hpp
    have hF := hB.fine
    have HB := Lib.hid hB; have HF := Lib.hid hF
    have hW : 3 ≤ W ∧ W ≤ 64 := ⟨hF.w3, hF.w64⟩
    have hH : 3 ≤ H ∧ H ≤ 64 := ⟨hF.h3, hF.h64⟩
    have HA2 := Lib.hid (HM2.out.blk HBa.out (fun h => h)); have HQ2 := Lib.hid (HM2.out.blk HBq.out (fun h => h))
    have hX := Bd.kept_bd ax (show (0 : Int) ≤ 34603008 by decide)
    have hY := Bd.kept_bd ay (show (0 : Int) ≤ 34603008 by decide)
    have kx := fun q : World => kept_any q ax 34603008 (by decide)
    have ky := fun q : World => kept_any q ay 34603008 (by decide)
    obtain ⟨X, hXe⟩ : ∃ X, Bd.kept ax 34603008 = X := ⟨_, rfl⟩
    obtain ⟨Y, hYe⟩ : ∃ Y, Bd.kept ay 34603008 = Y := ⟨_, rfl⟩
    rw [hXe] at hX
    rw [hYe] at hY
    simp only [hXe] at kx
    simp only [hYe] at ky
    have KX := Lib.hid kx; have KY := Lib.hid ky
    have hA0 : BxA A ax ay w2 w2 := ⟨HA2.out.cell rfl, HA2.out.cell rfl, Mod.refl _ _⟩
    have HA0 := Lib.hid hA0
    clear hB hF kx ky hXe hYe HBa HBq hb
    go_upto_region 6 with fail
    go_cut [9] (fun t wx => ∃ P, t = .pointer (some ⟨P, 0, none⟩) ∧ BxS b P (A + 1) W H E X Y h0 h1 w0 wx)
    case first =>
      have hA1 : BxA A ax ay w2 w2.drew := hA0.to (Mod.refl _ _).drew
      clear hA0
      refine wp_region_noPanic ?_
      refine wp_region_held_drew (S := BxA A ax ay w2) (by kernel_rfl) hA1 (fun hHeld => ?_)
      clear hHeld
      refine wpAnyH_take (i := 0) (v := ?_) (by simp only [List.getElem?_toArray, List.getElem?_cons_zero]; rfl) (by kernel_rfl) (by kernel_rfl) (by kernel_rfl) (fun _ _ _ h => h) (Or.inl ⟨by rfl, ?_⟩) hA1 ?_
      rotate_left
      · (intro wq hSw; go_simp; all_goals with_reducible rfl)
      try simp only [Act.put, List.setIfInBounds_toArray, List.set_cons_zero, List.set_cons_succ]
      refine wpAnyH_take (i := 1) (v := ?_) (by simp only [List.getElem?_toArray, List.getElem?_cons_zero, List.getElem?_cons_succ]; rfl) (by kernel_rfl) (by kernel_rfl) (by kernel_rfl) (fun _ _ _ h => h) (Or.inl ⟨by rfl, ?_⟩) hA1 ?_
      rotate_left
      · (intro wq hSw; have q0 := hSw.x; have q1 := hSw.y; go_simp; all_goals with_reducible rfl)
      try simp only [Act.put, List.setIfInBounds_toArray, List.set_cons_zero, List.set_cons_succ]
      refine wpAnyH_take (i := 3) (v := ?_) (by simp only [List.getElem?_toArray, List.getElem?_cons_zero, List.getElem?_cons_succ]; rfl) (by kernel_rfl) (by kernel_rfl) (by kernel_rfl) (fun _ _ _ h => h) (Or.inl ⟨by rfl, ?_⟩) hA1 ?_
      rotate_left
      · (intro wq hSw; go_simp; all_goals with_reducible rfl)
      try simp only [Act.put, List.setIfInBounds_toArray, List.set_cons_zero, List.set_cons_succ]
      refine wpAnyH_take (i := 4) (v := ?_) (by simp only [List.getElem?_toArray, List.getElem?_cons_zero, List.getElem?_cons_succ]; rfl) (by kernel_rfl) (by kernel_rfl) (by kernel_rfl) (fun _ _ _ h => h) (Or.inl ⟨by rfl, ?_⟩) hA1 ?_
      rotate_left
      · (intro wq hSw; have q0 := hSw.x; have q1 := hSw.y; go_simp; all_goals with_reducible rfl)
      try simp only [Act.put, List.setIfInBounds_toArray, List.set_cons_zero, List.set_cons_succ]
      refine wpAnyH_ready (rs := [2, 7]) (by kernel_rfl) (by simp) ?_
      refine (AllReadyH.cons (by simp only [List.getElem?_toArray, List.getElem?_cons_zero, List.getElem?_cons_succ]; rfl) (fun Z0 hZ0 => ?_) (AllReadyH.cons (by simp only [List.getElem?_toArray, List.getElem?_cons_zero, List.getElem?_cons_succ]; rfl) (fun Z0 hZ0 => ?_) AllReadyH.nil))
      · go_simp
        go_at_call 26
        refine (KX.out _).mono ?_
        rintro r wk ⟨rfl, rfl⟩
        go_wp2_with fail
        refine hZ0.out _ _ hA1 (fun _ => ?_)
        clear hZ0 Z0
        try simp only [Act.put, List.setIfInBounds_toArray, List.set_cons_zero, List.set_cons_succ]
        refine wpAnyH_ready (rs := [5, 7]) (by kernel_rfl) (by simp) ?_
        refine (AllReadyH.cons (by simp only [List.getElem?_toArray, List.getElem?_cons_zero, List.getElem?_cons_succ]; rfl) (fun Z1 hZ1 => ?_) (AllReadyH.cons (by simp only [List.getElem?_toArray, List.getElem?_cons_zero, List.getElem?_cons_succ]; rfl) (fun Z1 hZ1 => ?_) AllReadyH.nil))
        · go_simp
          go_at_call 26
          refine (KY.out _).mono ?_
          rintro r wk ⟨rfl, rfl⟩
          go_wp2_with fail
          refine hZ1.out _ _ hA1 (fun _ => ?_)
          clear hZ1 Z1
          try simp only [Act.put, List.setIfInBounds_toArray, List.set_cons_zero, List.set_cons_succ]
          refine wpAnyH_take (i := 6) (v := ?_) (by simp only [List.getElem?_toArray, List.getElem?_cons_zero, List.getElem?_cons_succ]; rfl) (by kernel_rfl) (by kernel_rfl) (by kernel_rfl) (fun _ _ _ h => h) (Or.inl ⟨by rfl, ?_⟩) hA1 ?_
          rotate_left
          · (intro wq hSw; go_simp; all_goals with_reducible rfl)
          try simp only [Act.put, List.setIfInBounds_toArray, List.set_cons_zero, List.set_cons_succ]
          refine wpAnyH_ready (rs := [7]) (by kernel_rfl) (by simp) ?_
          refine (AllReadyH.cons (by simp only [List.getElem?_toArray, List.getElem?_cons_zero, List.getElem?_cons_succ]; rfl) (fun Z2 hZ2 => ?_) AllReadyH.nil)
          go_simp
          have hB4 : Blk (w2.drew.alloc (.cells #[.int .i64 0, .int .i64 0] 34)) w2.heap.size [.int .i64 0, .int .i64 0] 34 := Blk.new w2.drew _ _
          have c0 := hB4.cell (j := 0) rfl
          have c1 := hB4.cell (j := 1) rfl
          have f0 := hB4.frozen 0
          have f1 := hB4.frozen 1
          have hA2 : BxA A ax ay w2 (w2.drew.alloc (.cells #[.int .i64 0, .int .i64 0] 34)) := HA0.out.to (((Mod.refl none_ w2).drew).alloc _)
          refine hZ2.out _ _ hA2 (fun _ => ?_)
          clear hZ2 Z2
          try simp only [Act.put, List.setIfInBounds_toArray, List.set_cons_zero, List.set_cons_succ]
          refine wpAnyH_ready (rs := [8]) (by kernel_rfl) (by simp) ?_
          refine AllReadyH.cons (by simp only [List.getElem?_toArray, List.getElem?_cons_zero, List.getElem?_cons_succ]; rfl) (fun KS hKS => ?_) AllReadyH.nil
          go_simp
          refine hKS.out _ _ (HA0.out.to (((Mod.refl none_ w2).alloc _).drew)) (fun _ => ?_)
          clear hKS KS
          try simp only [Act.put]
          refine wpAnyH_done (by kernel_rfl) ?_ _
          refine NoPanic.normal ?_
          have hM4' : Mod none_ w2 (w2.alloc (.cells #[.int .i64 X, .int .i64 Y] 34)).drew := ((Mod.refl none_ w2).alloc _).drew
          have hB5 : Blk (w2.alloc (.cells #[.int .i64 X, .int .i64 Y] 34)).drew w2.heap.size [.int .i64 X, .int .i64 Y] 34 := (Blk.new w2 _ _).drew
          have hQ4 := hM4'.blk HQ2.out (fun h => h)
          have hS4 : BxS b w2.heap.size (A + 1) W H E X Y h0 h1 w0 (w2.alloc (.cells #[.int .i64 X, .int .i64 Y] 34)).drew := ⟨HB.out.none hM4', blk_range (rest := []) hB5, hQ4.cell rfl, hQ4.cell rfl, HM2.out.then hM4'⟩
          have HS4 := Lib.hid hS4
          clear hB5 hQ4 hS4 hM4' hB4 hA2 c0 c1 f0 f1
          go_wp2
          go_meet
          exact ⟨_, rfl, HS4.out⟩
        · go_simp
          have hB4 : Blk (w2.drew.alloc (.cells #[.int .i64 0, .int .i64 0] 34)) w2.heap.size [.int .i64 0, .int .i64 0] 34 := Blk.new w2.drew _ _
          have c0 := hB4.cell (j := 0) rfl
          have c1 := hB4.cell (j := 1) rfl
          have f0 := hB4.frozen 0
          have f1 := hB4.frozen 1
          have hA2 : BxA A ax ay w2 (w2.drew.alloc (.cells #[.int .i64 0, .int .i64 0] 34)) := HA0.out.to (((Mod.refl none_ w2).drew).alloc _)
          refine hZ1.out _ _ hA2 (fun _ => ?_)
          clear hZ1 Z1
          try simp only [Act.put, List.setIfInBounds_toArray, List.set_cons_zero, List.set_cons_succ]
          refine wpAnyH_ready (rs := [5]) (by kernel_rfl) (by simp) ?_
          refine (AllReadyH.cons (by simp only [List.getElem?_toArray, List.getElem?_cons_zero, List.getElem?_cons_succ]; rfl) (fun Z2 hZ2 => ?_) AllReadyH.nil)
          go_simp
          go_at_call 26
          refine (KY.out _).mono ?_
          rintro r wk ⟨rfl, rfl⟩
          go_wp2_with fail
          refine hZ2.out _ _ hA2 (fun _ => ?_)
          clear hZ2 Z2
          try simp only [Act.put, List.setIfInBounds_toArray, List.set_cons_zero, List.set_cons_succ]
          refine wpAnyH_take (i := 6) (v := ?_) (by simp only [List.getElem?_toArray, List.getElem?_cons_zero, List.getElem?_cons_succ]; rfl) (by kernel_rfl) (by kernel_rfl) (by kernel_rfl) (fun _ _ _ h => h) (Or.inl ⟨by rfl, ?_⟩) hA2 ?_
          rotate_left
          · (intro wq hSw; go_simp; all_goals with_reducible rfl)
          try simp only [Act.put, List.setIfInBounds_toArray, List.set_cons_zero, List.set_cons_succ]
          refine wpAnyH_ready (rs := [8]) (by kernel_rfl) (by simp) ?_
          refine AllReadyH.cons (by simp only [List.getElem?_toArray, List.getElem?_cons_zero, List.getElem?_cons_succ]; rfl) (fun KS hKS => ?_) AllReadyH.nil
          go_simp
          refine hKS.out _ _ (HA0.out.to (((Mod.refl none_ w2).alloc _).drew)) (fun _ => ?_)
          clear hKS KS
          try simp only [Act.put]
          refine wpAnyH_done (by kernel_rfl) ?_ _
          refine NoPanic.normal ?_
          have hM4' : Mod none_ w2 (w2.alloc (.cells #[.int .i64 X, .int .i64 Y] 34)).drew := ((Mod.refl none_ w2).alloc _).drew
          have hB5 : Blk (w2.alloc (.cells #[.int .i64 X, .int .i64 Y] 34)).drew w2.heap.size [.int .i64 X, .int .i64 Y] 34 := (Blk.new w2 _ _).drew
          have hQ4 := hM4'.blk HQ2.out (fun h => h)
          have hS4 : BxS b w2.heap.size (A + 1) W H E X Y h0 h1 w0 (w2.alloc (.cells #[.int .i64 X, .int .i64 Y] 34)).drew := ⟨HB.out.none hM4', blk_range (rest := []) hB5, hQ4.cell rfl, hQ4.cell rfl, HM2.out.then hM4'⟩
          have HS4 := Lib.hid hS4
          clear hB5 hQ4 hS4 hM4' hB4 hA2 c0 c1 f0 f1
          go_wp2
          go_meet
          exact ⟨_, rfl, HS4.out⟩
      · go_simp
        have hB4 : Blk (w2.drew.alloc (.cells #[.int .i64 0, .int .i64 0] 34)) w2.heap.size [.int .i64 0, .int .i64 0] 34 := Blk.new w2.drew _ _
        have c0 := hB4.cell (j := 0) rfl
        have c1 := hB4.cell (j := 1) rfl
        have f0 := hB4.frozen 0
        have f1 := hB4.frozen 1
        have hA2 : BxA A ax ay w2 (w2.drew.alloc (.cells #[.int .i64 0, .int .i64 0] 34)) := HA0.out.to (((Mod.refl none_ w2).drew).alloc _)
        refine hZ0.out _ _ hA2 (fun _ => ?_)
        clear hZ0 Z0
        try simp only [Act.put, List.setIfInBounds_toArray, List.set_cons_zero, List.set_cons_succ]
        refine wpAnyH_ready (rs := [2]) (by kernel_rfl) (by simp) ?_
        refine (AllReadyH.cons (by simp only [List.getElem?_toArray, List.getElem?_cons_zero, List.getElem?_cons_succ]; rfl) (fun Z1 hZ1 => ?_) AllReadyH.nil)
        go_simp
        go_at_call 26
        refine (KX.out _).mono ?_
        rintro r wk ⟨rfl, rfl⟩
        go_wp2_with fail
        refine hZ1.out _ _ hA2 (fun _ => ?_)
        clear hZ1 Z1
        try simp only [Act.put, List.setIfInBounds_toArray, List.set_cons_zero, List.set_cons_succ]
        refine wpAnyH_ready (rs := [5]) (by kernel_rfl) (by simp) ?_
        refine (AllReadyH.cons (by simp only [List.getElem?_toArray, List.getElem?_cons_zero, List.getElem?_cons_succ]; rfl) (fun Z2 hZ2 => ?_) AllReadyH.nil)
        go_simp
        go_at_call 26
        refine (KY.out _).mono ?_
        rintro r wk ⟨rfl, rfl⟩
        go_wp2_with fail
        refine hZ2.out _ _ hA2 (fun _ => ?_)
        clear hZ2 Z2
        try simp only [Act.put, List.setIfInBounds_toArray, List.set_cons_zero, List.set_cons_succ]
        refine wpAnyH_take (i := 6) (v := ?_) (by simp only [List.getElem?_toArray, List.getElem?_cons_zero, List.getElem?_cons_succ]; rfl) (by kernel_rfl) (by kernel_rfl) (by kernel_rfl) (fun _ _ _ h => h) (Or.inl ⟨by rfl, ?_⟩) hA2 ?_
        rotate_left
        · (intro wq hSw; go_simp; all_goals with_reducible rfl)
        try simp only [Act.put, List.setIfInBounds_toArray, List.set_cons_zero, List.set_cons_succ]
        refine wpAnyH_ready (rs := [8]) (by kernel_rfl) (by simp) ?_
        refine AllReadyH.cons (by simp only [List.getElem?_toArray, List.getElem?_cons_zero, List.getElem?_cons_succ]; rfl) (fun KS hKS => ?_) AllReadyH.nil
        go_simp
        refine hKS.out _ _ (HA0.out.to (((Mod.refl none_ w2).alloc _).drew)) (fun _ => ?_)
        clear hKS KS
        try simp only [Act.put]
        refine wpAnyH_done (by kernel_rfl) ?_ _
        refine NoPanic.normal ?_
        have hM4' : Mod none_ w2 (w2.alloc (.cells #[.int .i64 X, .int .i64 Y] 34)).drew := ((Mod.refl none_ w2).alloc _).drew
        have hB5 : Blk (w2.alloc (.cells #[.int .i64 X, .int .i64 Y] 34)).drew w2.heap.size [.int .i64 X, .int .i64 Y] 34 := (Blk.new w2 _ _).drew
        have hQ4 := hM4'.blk HQ2.out (fun h => h)
        have hS4 : BxS b w2.heap.size (A + 1) W H E X Y h0 h1 w0 (w2.alloc (.cells #[.int .i64 X, .int .i64 Y] 34)).drew := ⟨HB.out.none hM4', blk_range (rest := []) hB5, hQ4.cell rfl, hQ4.cell rfl, HM2.out.then hM4'⟩
        have HS4 := Lib.hid hS4
        clear hB5 hQ4 hS4 hM4' hB4 hA2 c0 c1 f0 f1
        go_wp2
        go_meet
        exact ⟨_, rfl, HS4.out⟩
    case rest =>
    obtain ⟨P, rfl, hS4⟩ := hcut
    obtain ⟨w4, hw4⟩ : ∃ q, q = wc := ⟨_, rfl⟩
    rw [← hw4] at hS4 ⊢
    clear hw4
    have HS4 := Lib.hid hS4
    have q0 := hS4.q0; have q1 := hS4.q1
    have hl := Bd.kept_bd h0 (show (0 : Int) ≤ 1572864 by decide)
    have hg := Bd.kept_bd h1 (show (0 : Int) ≤ 3145728 by decide)
    have kl := fun q : World => kept_any q h0 1572864 (by decide)
    have kg := fun q : World => kept_any q h1 3145728 (by decide)
    obtain ⟨l, hle⟩ : ∃ X, Bd.kept h0 1572864 = X := ⟨_, rfl⟩
    obtain ⟨g, hge⟩ : ∃ X, Bd.kept h1 3145728 = X := ⟨_, rfl⟩
    rw [hle] at hl
    rw [hge] at hg
    simp only [hle] at kl
    simp only [hge] at kg
    have KL := Lib.hid kl; have KG := Lib.hid kg
    clear kl kg hle hge hS4 hA0 HA0 HA2 HQ2 HB KX KY
    go_wp2_with fail
    refine (KL.out _).mono ?_
    rintro r wk ⟨rfl, rfl⟩
    go_wp2_with fail
    refine (KG.out _).mono ?_
    rintro r wk ⟨rfl, rfl⟩
    clear KL KG
    -- the first asks
    obtain ⟨sp, hsp⟩ : ∃ B : Bool, decide (Bd.atOf W H E X Y = 35) = B := ⟨_, rfl⟩
    have hspb : sp = true ↔ Bd.atOf W H E X Y = 35 := by rw [← hsp]; exact decide_eq_true_iff
    have hX6 : Bd.I64 X := by unfold Bd.I64; omega
    have hY6 : Bd.I64 Y := by unfold Bd.I64; omega
    have hxn : -1099511627776 ≤ X ∧ X ≤ 1099511627776 := by omega
    have hyn : -1099511627776 ≤ Y ∧ Y ≤ 1099511627776 := by omega
    have b0 := blockedB (b := b) (P := P) (Q := A + 1) (X := X) (Y := Y) (h0 := h0) (h1 := h1) (w := w0) X Y 0 hX6 hY6 (by unfold Bd.I64; decide) sp (hspb.trans (Bd.blocked_point hX6 hY6 (by decide) (by unfold Bd.I64; decide) hW hH).symm)
    have bm := blockedB (b := b) (P := P) (Q := A + 1) (X := X) (Y := Y) (h0 := h0) (h1 := h1) (w := w0) X Y (-1) hX6 hY6 (by unfold Bd.I64; decide) sp (hspb.trans (Bd.blocked_point hX6 hY6 (by decide) (by unfold Bd.I64; decide) hW hH).symm)
    have so : ∀ q, BxS b P (A + 1) W H E X Y h0 h1 w0 q → Calls Try.prog 21 #[.pointer (some ⟨b, 0, none⟩), .agg #[.int .i64 X, .int .i64 Y]] q fun r w' => r = .returned (.bool sp) ∧ BxS b P (A + 1) W H E X Y h0 h1 w0 w' := fun q hS => (solid_any q hS.brd X Y hX6 hY6).mono (by rintro r w' ⟨rfl, hM⟩; exact ⟨by rw [hsp], hS.then hM⟩)
    have k1 := fun q : World => kept_any q h0 1 (by decide)
    have hk1 := Bd.kept_bd h0 (show (0 : Int) ≤ 1 by decide)
    obtain ⟨k, hke⟩ : ∃ X, Bd.kept h0 1 = X := ⟨_, rfl⟩
    rw [hke] at hk1
    simp only [hke] at k1
    obtain ⟨B1, hB1⟩ : ∃ B : Bool, B = true ↔ Bd.Blocked W H E X Y k := ⟨open Classical in decide (Bd.Blocked W H E X Y k), open Classical in decide_eq_true_iff⟩
    have bk := blockedB (b := b) (P := P) (Q := A + 1) (X := X) (Y := Y) (h0 := h0) (h1 := h1) (w := w0) X Y k hX6 hY6 (by unfold Bd.I64; omega) B1 hB1
    have h12 : B1 = true → (true = true ↔ Bd.Blocked W H E X Y 2) := fun h => by
      refine ⟨fun _ => ?_, fun _ => rfl⟩
      have h1 := hB1.1 h
      by_cases hk : k < 1
      · rw [Bd.blocked_point hX6 hY6 hk (by unfold Bd.I64; omega) hW hH] at h1
        exact Bd.point_box hxn hyn (by decide) hW hH h1
      · exact Bd.blocked_mono hxn hyn ⟨by omega, by omega, by decide⟩ hW hH h1
    have b2 := fun h : B1 = true => blockedB (b := b) (P := P) (Q := A + 1) (X := X) (Y := Y) (h0 := h0) (h1 := h1) (w := w0) X Y 2 hX6 hY6 (by unfold Bd.I64; decide) true (h12 h)
    have CB0 := Lib.hid b0; have CBM := Lib.hid bm; have CSO := Lib.hid so; have CK1 := Lib.hid k1; have CBK := Lib.hid bk; have CB2 := Lib.hid b2
    clear b0 bm so k1 bk b2 h12 hB1 hspb hsp hke
    go_upto_region 9 with fail
    have hS5 : BxS b P (A + 1) W H E X Y h0 h1 w0 w4.drew := HS4.out.then (Mod.refl _ _).drew
    clear q0 q1
    go_cut [77] (fun t wx => t = .bool false ∧ BxS b P (A + 1) W H E X Y h0 h1 w0 wx)
    case first =>
      cases B1
      · refine wp_region_noPanic ?_
        refine wp_region_held_drew (S := BxS b P (A + 1) W H E X Y h0 h1 w0) (by kernel_rfl) hS5 (fun hHeld => ?_)
        clear hHeld
        refine wpAnyH_take (i := 0) (v := ?_) (by simp only [List.getElem?_toArray, List.getElem?_cons_zero]; rfl) (by kernel_rfl) (by kernel_rfl) (by kernel_rfl) (fun _ _ _ h => h) (Or.inl ⟨by rfl, ?_⟩) hS5 ?_
        rotate_left
        · (intro wq hSw; go_simp; all_goals with_reducible rfl)
        try simp only [Act.put, List.setIfInBounds_toArray, List.set_cons_zero, List.set_cons_succ]
        refine wpAnyH_take (i := 1) (v := _) (by simp only [List.getElem?_toArray, List.getElem?_cons_zero, List.getElem?_cons_succ]; rfl) (by kernel_rfl) (by kernel_rfl) (by kernel_rfl) (fun _ _ _ h => h) (yieldsIf_load_mid (by rfl) 34 (.tmp 9) rfl P 0 rfl [.int .i64 X, .int .i64 Y] _ (fun _ h => h.pp) Try.underlying34 rfl size_vec) hS5 ?_
        try simp only [Act.put, List.setIfInBounds_toArray, List.set_cons_zero, List.set_cons_succ]
        refine wpAnyH_take (i := 3) (v := ?_) (by simp only [List.getElem?_toArray, List.getElem?_cons_zero, List.getElem?_cons_succ]; rfl) (by kernel_rfl) (by kernel_rfl) (by kernel_rfl) (fun _ _ _ h => h) (Or.inl ⟨by rfl, ?_⟩) hS5 ?_
        rotate_left
        · (intro wq hSw; go_simp; all_goals with_reducible rfl)
        try simp only [Act.put, List.setIfInBounds_toArray, List.set_cons_zero, List.set_cons_succ]
        refine wpAnyH_take (i := 4) (v := _) (by simp only [List.getElem?_toArray, List.getElem?_cons_zero, List.getElem?_cons_succ]; rfl) (by kernel_rfl) (by kernel_rfl) (by kernel_rfl) (fun _ _ _ h => h) (yieldsIf_load_mid (by rfl) 34 (.tmp 9) rfl P 0 rfl [.int .i64 X, .int .i64 Y] _ (fun _ h => h.pp) Try.underlying34 rfl size_vec) hS5 ?_
        try simp only [Act.put, List.setIfInBounds_toArray, List.set_cons_zero, List.set_cons_succ]
        refine wpAnyH_ready (rs := [2]) (by kernel_rfl) (by simp) ?_
        refine AllReadyH.cons (by simp only [List.getElem?_toArray, List.getElem?_cons_zero, List.getElem?_cons_succ]; rfl) (fun K hK => ?_) AllReadyH.nil
        go_simp
        go_at_call 23
        refine (CB0.out _ hS5).mono ?_
        rintro r wt1 ⟨rfl, hS6⟩
        go_wp2_with fail
        refine hK.out _ _ hS6 (fun _ => ?_)
        clear hK K
        try simp only [Act.put, List.setIfInBounds_toArray, List.set_cons_zero, List.set_cons_succ]
        refine wpAnyH_ready (rs := [5]) (by kernel_rfl) (by simp) ?_
        refine AllReadyH.cons (by simp only [List.getElem?_toArray, List.getElem?_cons_zero, List.getElem?_cons_succ]; rfl) (fun K hK => ?_) AllReadyH.nil
        go_simp
        go_at_call 21
        refine (CSO.out _ hS6).mono ?_
        rintro r wt2 ⟨rfl, hS7⟩
        go_wp2_with fail
        refine hK.out _ _ hS7 (fun _ => ?_)
        clear hK K
        try simp only [Act.put, List.setIfInBounds_toArray, List.set_cons_zero, List.set_cons_succ]
        refine wpAnyH_take (i := 6) (v := .bool false) (by simp only [List.getElem?_toArray, List.getElem?_cons_zero, List.getElem?_cons_succ]; rfl) (by kernel_rfl) (by kernel_rfl) (by kernel_rfl) (fun _ _ _ h => h) (Or.inl ⟨by rfl, ?_⟩) hS7 ?_
        · (intro wq hSw; cases sp <;> (go_simp; all_goals with_reducible rfl))
        try simp only [Act.put, List.setIfInBounds_toArray, List.set_cons_zero, List.set_cons_succ]
        refine wpAnyH_take (i := 7) (v := ?_) (by simp only [List.getElem?_toArray, List.getElem?_cons_zero, List.getElem?_cons_succ]; rfl) (by kernel_rfl) (by kernel_rfl) (by kernel_rfl) (fun _ _ _ h => h) (Or.inl ⟨by rfl, ?_⟩) hS7 ?_
        rotate_left
        · (intro wq hSw; go_simp; all_goals with_reducible rfl)
        try simp only [Act.put, List.setIfInBounds_toArray, List.set_cons_zero, List.set_cons_succ]
        refine wpAnyH_take (i := 8) (v := ?_) (by simp only [List.getElem?_toArray, List.getElem?_cons_zero, List.getElem?_cons_succ]; rfl) (by kernel_rfl) (by kernel_rfl) (by kernel_rfl) (fun _ _ _ h => h) (Or.inl ⟨by rfl, ?_⟩) hS7 ?_
        rotate_left
        · (intro wq hSw; go_simp; all_goals with_reducible rfl)
        try simp only [Act.put, List.setIfInBounds_toArray, List.set_cons_zero, List.set_cons_succ]
        refine wpAnyH_take (i := 9) (v := _) (by simp only [List.getElem?_toArray, List.getElem?_cons_zero, List.getElem?_cons_succ]; rfl) (by kernel_rfl) (by kernel_rfl) (by kernel_rfl) (fun _ _ _ h => h) (yieldsIf_load_mid (by rfl) 34 (.tmp 9) rfl P 0 rfl [.int .i64 X, .int .i64 Y] _ (fun _ h => h.pp) Try.underlying34 rfl size_vec) hS7 ?_
        try simp only [Act.put, List.setIfInBounds_toArray, List.set_cons_zero, List.set_cons_succ]
        refine wpAnyH_take (i := 11) (v := ?_) (by simp only [List.getElem?_toArray, List.getElem?_cons_zero, List.getElem?_cons_succ]; rfl) (by kernel_rfl) (by kernel_rfl) (by kernel_rfl) (fun _ _ _ h => h) (Or.inl ⟨by rfl, ?_⟩) hS7 ?_
        rotate_left
        · (intro wq hSw; go_simp; all_goals with_reducible rfl)
        try simp only [Act.put, List.setIfInBounds_toArray, List.set_cons_zero, List.set_cons_succ]
        refine wpAnyH_take (i := 12) (v := _) (by simp only [List.getElem?_toArray, List.getElem?_cons_zero, List.getElem?_cons_succ]; rfl) (by kernel_rfl) (by kernel_rfl) (by kernel_rfl) (fun _ _ _ h => h) (yieldsIf_load_mid (by rfl) 34 (.tmp 9) rfl P 0 rfl [.int .i64 X, .int .i64 Y] _ (fun _ h => h.pp) Try.underlying34 rfl size_vec) hS7 ?_
        try simp only [Act.put, List.setIfInBounds_toArray, List.set_cons_zero, List.set_cons_succ]
        refine wpAnyH_ready (rs := [10]) (by kernel_rfl) (by simp) ?_
        refine AllReadyH.cons (by simp only [List.getElem?_toArray, List.getElem?_cons_zero, List.getElem?_cons_succ]; rfl) (fun K hK => ?_) AllReadyH.nil
        go_simp
        go_at_call 23
        refine (CBM.out _ hS7).mono ?_
        rintro r wt3 ⟨rfl, hS8⟩
        go_wp2_with fail
        refine hK.out _ _ hS8 (fun _ => ?_)
        clear hK K
        try simp only [Act.put, List.setIfInBounds_toArray, List.set_cons_zero, List.set_cons_succ]
        refine wpAnyH_ready (rs := [13]) (by kernel_rfl) (by simp) ?_
        refine AllReadyH.cons (by simp only [List.getElem?_toArray, List.getElem?_cons_zero, List.getElem?_cons_succ]; rfl) (fun K hK => ?_) AllReadyH.nil
        go_simp
        go_at_call 21
        refine (CSO.out _ hS8).mono ?_
        rintro r wt4 ⟨rfl, hS9⟩
        go_wp2_with fail
        refine hK.out _ _ hS9 (fun _ => ?_)
        clear hK K
        try simp only [Act.put, List.setIfInBounds_toArray, List.set_cons_zero, List.set_cons_succ]
        refine wpAnyH_take (i := 14) (v := .bool false) (by simp only [List.getElem?_toArray, List.getElem?_cons_zero, List.getElem?_cons_succ]; rfl) (by kernel_rfl) (by kernel_rfl) (by kernel_rfl) (fun _ _ _ h => h) (Or.inl ⟨by rfl, ?_⟩) hS9 ?_
        · (intro wq hSw; cases sp <;> (go_simp; all_goals with_reducible rfl))
        try simp only [Act.put, List.setIfInBounds_toArray, List.set_cons_zero, List.set_cons_succ]
        refine wpAnyH_take (i := 15) (v := .bool false) (by simp only [List.getElem?_toArray, List.getElem?_cons_zero, List.getElem?_cons_succ]; rfl) (by kernel_rfl) (by kernel_rfl) (by kernel_rfl) (fun _ _ _ h => h) (Or.inl ⟨by rfl, ?_⟩) hS9 ?_
        · (intro wq hSw; go_simp; all_goals with_reducible rfl)
        try simp only [Act.put, List.setIfInBounds_toArray, List.set_cons_zero, List.set_cons_succ]
        refine wpAnyH_take (i := 16) (v := ?_) (by simp only [List.getElem?_toArray, List.getElem?_cons_zero, List.getElem?_cons_succ]; rfl) (by kernel_rfl) (by kernel_rfl) (by kernel_rfl) (fun _ _ _ h => h) (Or.inl ⟨by rfl, ?_⟩) hS9 ?_
        rotate_left
        · (intro wq hSw; go_simp; all_goals with_reducible rfl)
        try simp only [Act.put, List.setIfInBounds_toArray, List.set_cons_zero, List.set_cons_succ]
        refine wpAnyH_take (i := 17) (v := ?_) (by simp only [List.getElem?_toArray, List.getElem?_cons_zero, List.getElem?_cons_succ]; rfl) (by kernel_rfl) (by kernel_rfl) (by kernel_rfl) (fun _ _ _ h => h) (Or.inl ⟨by rfl, ?_⟩) hS9 ?_
        rotate_left
        · (intro wq hSw; go_simp; all_goals with_reducible rfl)
        try simp only [Act.put, List.setIfInBounds_toArray, List.set_cons_zero, List.set_cons_succ]
        refine wpAnyH_take (i := 18) (v := _) (by simp only [List.getElem?_toArray, List.getElem?_cons_zero, List.getElem?_cons_succ]; rfl) (by kernel_rfl) (by kernel_rfl) (by kernel_rfl) (fun _ _ _ h => h) (yieldsIf_load_mid (by rfl) 34 (.tmp 9) rfl P 0 rfl [.int .i64 X, .int .i64 Y] _ (fun _ h => h.pp) Try.underlying34 rfl size_vec) hS9 ?_
        try simp only [Act.put, List.setIfInBounds_toArray, List.set_cons_zero, List.set_cons_succ]
        refine wpAnyH_take (i := 19) (v := ?_) (by simp only [List.getElem?_toArray, List.getElem?_cons_zero, List.getElem?_cons_succ]; rfl) (by kernel_rfl) (by kernel_rfl) (by kernel_rfl) (fun _ _ _ h => h) (Or.inl ⟨by rfl, ?_⟩) hS9 ?_
        rotate_left
        · (intro wq hSw; go_simp; all_goals with_reducible rfl)
        try simp only [Act.put, List.setIfInBounds_toArray, List.set_cons_zero, List.set_cons_succ]
        refine wpAnyH_take (i := 20) (v := ?_) (by simp only [List.getElem?_toArray, List.getElem?_cons_zero, List.getElem?_cons_succ]; rfl) (by kernel_rfl) (by kernel_rfl) (by kernel_rfl) (fun _ _ _ h => h) (Or.inl ⟨by rfl, ?_⟩) hS9 ?_
        rotate_left
        · (intro wq hSw; have q0 := hSw.q0; go_simp; all_goals with_reducible rfl)
        try simp only [Act.put, List.setIfInBounds_toArray, List.set_cons_zero, List.set_cons_succ]
        refine wpAnyH_ready (rs := [21]) (by kernel_rfl) (by simp) ?_
        refine AllReadyH.cons (by simp only [List.getElem?_toArray, List.getElem?_cons_zero, List.getElem?_cons_succ]; rfl) (fun K hK => ?_) AllReadyH.nil
        go_simp
        go_at_call 26
        refine (CK1.out _).mono ?_
        rintro r wt5 ⟨rfl, rfl⟩
        go_wp2_with fail
        refine hK.out _ _ hS9 (fun _ => ?_)
        clear hK K
        try simp only [Act.put, List.setIfInBounds_toArray, List.set_cons_zero, List.set_cons_succ]
        refine wpAnyH_ready (rs := [22]) (by kernel_rfl) (by simp) ?_
        refine AllReadyH.cons (by simp only [List.getElem?_toArray, List.getElem?_cons_zero, List.getElem?_cons_succ]; rfl) (fun K hK => ?_) AllReadyH.nil
        go_simp
        go_at_call 23
        refine (CBK.out _ hS9).mono ?_
        rintro r wt6 ⟨rfl, hS11⟩
        go_wp2_with fail
        refine hK.out _ _ hS11 (fun _ => ?_)
        clear hK K
        try simp only [Act.put, List.setIfInBounds_toArray, List.set_cons_zero, List.set_cons_succ]
        refine wpAnyH_take (i := 23) (v := ?_) (by simp only [List.getElem?_toArray, List.getElem?_cons_zero, List.getElem?_cons_succ]; rfl) (by kernel_rfl) (by kernel_rfl) (by kernel_rfl) (fun _ _ _ h => h) (Or.inl ⟨by rfl, ?_⟩) hS11 ?_
        rotate_left
        · (intro wq hSw; go_simp; all_goals with_reducible rfl)
        try simp only [Act.put, List.setIfInBounds_toArray, List.set_cons_zero, List.set_cons_succ]
        refine wpAnyH_take (i := 24) (by simp only [List.getElem?_toArray, List.getElem?_cons_zero, List.getElem?_cons_succ]; rfl) (by kernel_rfl) (by kernel_rfl) (by kernel_rfl) (fun _ _ _ h => h) (Or.inr ⟨by rfl, rfl⟩) hS11 ?_
        refine wpAnyH_take (i := 25) (by simp only [List.getElem?_toArray, List.getElem?_cons_zero, List.getElem?_cons_succ]; rfl) (by kernel_rfl) (by kernel_rfl) (by kernel_rfl) (fun _ _ _ h => h) (Or.inr ⟨by rfl, rfl⟩) hS11 ?_
        refine wpAnyH_take (i := 26) (by simp only [List.getElem?_toArray, List.getElem?_cons_zero, List.getElem?_cons_succ]; rfl) (by kernel_rfl) (by kernel_rfl) (by kernel_rfl) (fun _ _ _ h => h) (Or.inr ⟨by rfl, rfl⟩) hS11 ?_
        refine wpAnyH_take (i := 27) (by simp only [List.getElem?_toArray, List.getElem?_cons_zero, List.getElem?_cons_succ]; rfl) (by kernel_rfl) (by kernel_rfl) (by kernel_rfl) (fun _ _ _ h => h) (Or.inr ⟨by rfl, rfl⟩) hS11 ?_
        try simp only [Act.put, List.setIfInBounds_toArray, List.set_cons_zero, List.set_cons_succ]
        refine wpAnyH_take (i := 28) (v := .bool false) (by simp only [List.getElem?_toArray, List.getElem?_cons_zero, List.getElem?_cons_succ]; rfl) (by kernel_rfl) (by kernel_rfl) (by kernel_rfl) (fun _ _ _ h => h) (Or.inl ⟨by rfl, ?_⟩) hS11 ?_
        · (intro wq hSw; go_simp; all_goals with_reducible rfl)
        try simp only [Act.put, List.setIfInBounds_toArray, List.set_cons_zero, List.set_cons_succ]
        refine wpAnyH_take (i := 29) (v := .bool false) (by simp only [List.getElem?_toArray, List.getElem?_cons_zero, List.getElem?_cons_succ]; rfl) (by kernel_rfl) (by kernel_rfl) (by kernel_rfl) (fun _ _ _ h => h) (Or.inl ⟨by rfl, ?_⟩) hS11 ?_
        · (intro wq hSw; go_simp; all_goals with_reducible rfl)
        try simp only [Act.put, List.setIfInBounds_toArray, List.set_cons_zero, List.set_cons_succ]
        refine wpAnyH_done (by kernel_rfl) ?_ _
        refine NoPanic.normal ?_
        go_wp2
        go_meet
        exact ⟨rfl, hS11⟩
      · refine wp_region_noPanic ?_
        refine wp_region_held_drew (S := BxS b P (A + 1) W H E X Y h0 h1 w0) (by kernel_rfl) hS5 (fun hHeld => ?_)
        clear hHeld
        refine wpAnyH_take (i := 0) (v := ?_) (by simp only [List.getElem?_toArray, List.getElem?_cons_zero]; rfl) (by kernel_rfl) (by kernel_rfl) (by kernel_rfl) (fun _ _ _ h => h) (Or.inl ⟨by rfl, ?_⟩) hS5 ?_
        rotate_left
        · (intro wq hSw; go_simp; all_goals with_reducible rfl)
        try simp only [Act.put, List.setIfInBounds_toArray, List.set_cons_zero, List.set_cons_succ]
        refine wpAnyH_take (i := 1) (v := _) (by simp only [List.getElem?_toArray, List.getElem?_cons_zero, List.getElem?_cons_succ]; rfl) (by kernel_rfl) (by kernel_rfl) (by kernel_rfl) (fun _ _ _ h => h) (yieldsIf_load_mid (by rfl) 34 (.tmp 9) rfl P 0 rfl [.int .i64 X, .int .i64 Y] _ (fun _ h => h.pp) Try.underlying34 rfl size_vec) hS5 ?_
        try simp only [Act.put, List.setIfInBounds_toArray, List.set_cons_zero, List.set_cons_succ]
        refine wpAnyH_take (i := 3) (v := ?_) (by simp only [List.getElem?_toArray, List.getElem?_cons_zero, List.getElem?_cons_succ]; rfl) (by kernel_rfl) (by kernel_rfl) (by kernel_rfl) (fun _ _ _ h => h) (Or.inl ⟨by rfl, ?_⟩) hS5 ?_
        rotate_left
        · (intro wq hSw; go_simp; all_goals with_reducible rfl)
        try simp only [Act.put, List.setIfInBounds_toArray, List.set_cons_zero, List.set_cons_succ]
        refine wpAnyH_take (i := 4) (v := _) (by simp only [List.getElem?_toArray, List.getElem?_cons_zero, List.getElem?_cons_succ]; rfl) (by kernel_rfl) (by kernel_rfl) (by kernel_rfl) (fun _ _ _ h => h) (yieldsIf_load_mid (by rfl) 34 (.tmp 9) rfl P 0 rfl [.int .i64 X, .int .i64 Y] _ (fun _ h => h.pp) Try.underlying34 rfl size_vec) hS5 ?_
        try simp only [Act.put, List.setIfInBounds_toArray, List.set_cons_zero, List.set_cons_succ]
        refine wpAnyH_ready (rs := [2]) (by kernel_rfl) (by simp) ?_
        refine AllReadyH.cons (by simp only [List.getElem?_toArray, List.getElem?_cons_zero, List.getElem?_cons_succ]; rfl) (fun K hK => ?_) AllReadyH.nil
        go_simp
        go_at_call 23
        refine (CB0.out _ hS5).mono ?_
        rintro r wt1 ⟨rfl, hS6⟩
        go_wp2_with fail
        refine hK.out _ _ hS6 (fun _ => ?_)
        clear hK K
        try simp only [Act.put, List.setIfInBounds_toArray, List.set_cons_zero, List.set_cons_succ]
        refine wpAnyH_ready (rs := [5]) (by kernel_rfl) (by simp) ?_
        refine AllReadyH.cons (by simp only [List.getElem?_toArray, List.getElem?_cons_zero, List.getElem?_cons_succ]; rfl) (fun K hK => ?_) AllReadyH.nil
        go_simp
        go_at_call 21
        refine (CSO.out _ hS6).mono ?_
        rintro r wt2 ⟨rfl, hS7⟩
        go_wp2_with fail
        refine hK.out _ _ hS7 (fun _ => ?_)
        clear hK K
        try simp only [Act.put, List.setIfInBounds_toArray, List.set_cons_zero, List.set_cons_succ]
        refine wpAnyH_take (i := 6) (v := .bool false) (by simp only [List.getElem?_toArray, List.getElem?_cons_zero, List.getElem?_cons_succ]; rfl) (by kernel_rfl) (by kernel_rfl) (by kernel_rfl) (fun _ _ _ h => h) (Or.inl ⟨by rfl, ?_⟩) hS7 ?_
        · (intro wq hSw; cases sp <;> (go_simp; all_goals with_reducible rfl))
        try simp only [Act.put, List.setIfInBounds_toArray, List.set_cons_zero, List.set_cons_succ]
        refine wpAnyH_take (i := 7) (v := ?_) (by simp only [List.getElem?_toArray, List.getElem?_cons_zero, List.getElem?_cons_succ]; rfl) (by kernel_rfl) (by kernel_rfl) (by kernel_rfl) (fun _ _ _ h => h) (Or.inl ⟨by rfl, ?_⟩) hS7 ?_
        rotate_left
        · (intro wq hSw; go_simp; all_goals with_reducible rfl)
        try simp only [Act.put, List.setIfInBounds_toArray, List.set_cons_zero, List.set_cons_succ]
        refine wpAnyH_take (i := 8) (v := ?_) (by simp only [List.getElem?_toArray, List.getElem?_cons_zero, List.getElem?_cons_succ]; rfl) (by kernel_rfl) (by kernel_rfl) (by kernel_rfl) (fun _ _ _ h => h) (Or.inl ⟨by rfl, ?_⟩) hS7 ?_
        rotate_left
        · (intro wq hSw; go_simp; all_goals with_reducible rfl)
        try simp only [Act.put, List.setIfInBounds_toArray, List.set_cons_zero, List.set_cons_succ]
        refine wpAnyH_take (i := 9) (v := _) (by simp only [List.getElem?_toArray, List.getElem?_cons_zero, List.getElem?_cons_succ]; rfl) (by kernel_rfl) (by kernel_rfl) (by kernel_rfl) (fun _ _ _ h => h) (yieldsIf_load_mid (by rfl) 34 (.tmp 9) rfl P 0 rfl [.int .i64 X, .int .i64 Y] _ (fun _ h => h.pp) Try.underlying34 rfl size_vec) hS7 ?_
        try simp only [Act.put, List.setIfInBounds_toArray, List.set_cons_zero, List.set_cons_succ]
        refine wpAnyH_take (i := 11) (v := ?_) (by simp only [List.getElem?_toArray, List.getElem?_cons_zero, List.getElem?_cons_succ]; rfl) (by kernel_rfl) (by kernel_rfl) (by kernel_rfl) (fun _ _ _ h => h) (Or.inl ⟨by rfl, ?_⟩) hS7 ?_
        rotate_left
        · (intro wq hSw; go_simp; all_goals with_reducible rfl)
        try simp only [Act.put, List.setIfInBounds_toArray, List.set_cons_zero, List.set_cons_succ]
        refine wpAnyH_take (i := 12) (v := _) (by simp only [List.getElem?_toArray, List.getElem?_cons_zero, List.getElem?_cons_succ]; rfl) (by kernel_rfl) (by kernel_rfl) (by kernel_rfl) (fun _ _ _ h => h) (yieldsIf_load_mid (by rfl) 34 (.tmp 9) rfl P 0 rfl [.int .i64 X, .int .i64 Y] _ (fun _ h => h.pp) Try.underlying34 rfl size_vec) hS7 ?_
        try simp only [Act.put, List.setIfInBounds_toArray, List.set_cons_zero, List.set_cons_succ]
        refine wpAnyH_ready (rs := [10]) (by kernel_rfl) (by simp) ?_
        refine AllReadyH.cons (by simp only [List.getElem?_toArray, List.getElem?_cons_zero, List.getElem?_cons_succ]; rfl) (fun K hK => ?_) AllReadyH.nil
        go_simp
        go_at_call 23
        refine (CBM.out _ hS7).mono ?_
        rintro r wt3 ⟨rfl, hS8⟩
        go_wp2_with fail
        refine hK.out _ _ hS8 (fun _ => ?_)
        clear hK K
        try simp only [Act.put, List.setIfInBounds_toArray, List.set_cons_zero, List.set_cons_succ]
        refine wpAnyH_ready (rs := [13]) (by kernel_rfl) (by simp) ?_
        refine AllReadyH.cons (by simp only [List.getElem?_toArray, List.getElem?_cons_zero, List.getElem?_cons_succ]; rfl) (fun K hK => ?_) AllReadyH.nil
        go_simp
        go_at_call 21
        refine (CSO.out _ hS8).mono ?_
        rintro r wt4 ⟨rfl, hS9⟩
        go_wp2_with fail
        refine hK.out _ _ hS9 (fun _ => ?_)
        clear hK K
        try simp only [Act.put, List.setIfInBounds_toArray, List.set_cons_zero, List.set_cons_succ]
        refine wpAnyH_take (i := 14) (v := .bool false) (by simp only [List.getElem?_toArray, List.getElem?_cons_zero, List.getElem?_cons_succ]; rfl) (by kernel_rfl) (by kernel_rfl) (by kernel_rfl) (fun _ _ _ h => h) (Or.inl ⟨by rfl, ?_⟩) hS9 ?_
        · (intro wq hSw; cases sp <;> (go_simp; all_goals with_reducible rfl))
        try simp only [Act.put, List.setIfInBounds_toArray, List.set_cons_zero, List.set_cons_succ]
        refine wpAnyH_take (i := 15) (v := .bool false) (by simp only [List.getElem?_toArray, List.getElem?_cons_zero, List.getElem?_cons_succ]; rfl) (by kernel_rfl) (by kernel_rfl) (by kernel_rfl) (fun _ _ _ h => h) (Or.inl ⟨by rfl, ?_⟩) hS9 ?_
        · (intro wq hSw; go_simp; all_goals with_reducible rfl)
        try simp only [Act.put, List.setIfInBounds_toArray, List.set_cons_zero, List.set_cons_succ]
        refine wpAnyH_take (i := 16) (v := ?_) (by simp only [List.getElem?_toArray, List.getElem?_cons_zero, List.getElem?_cons_succ]; rfl) (by kernel_rfl) (by kernel_rfl) (by kernel_rfl) (fun _ _ _ h => h) (Or.inl ⟨by rfl, ?_⟩) hS9 ?_
        rotate_left
        · (intro wq hSw; go_simp; all_goals with_reducible rfl)
        try simp only [Act.put, List.setIfInBounds_toArray, List.set_cons_zero, List.set_cons_succ]
        refine wpAnyH_take (i := 17) (v := ?_) (by simp only [List.getElem?_toArray, List.getElem?_cons_zero, List.getElem?_cons_succ]; rfl) (by kernel_rfl) (by kernel_rfl) (by kernel_rfl) (fun _ _ _ h => h) (Or.inl ⟨by rfl, ?_⟩) hS9 ?_
        rotate_left
        · (intro wq hSw; go_simp; all_goals with_reducible rfl)
        try simp only [Act.put, List.setIfInBounds_toArray, List.set_cons_zero, List.set_cons_succ]
        refine wpAnyH_take (i := 18) (v := _) (by simp only [List.getElem?_toArray, List.getElem?_cons_zero, List.getElem?_cons_succ]; rfl) (by kernel_rfl) (by kernel_rfl) (by kernel_rfl) (fun _ _ _ h => h) (yieldsIf_load_mid (by rfl) 34 (.tmp 9) rfl P 0 rfl [.int .i64 X, .int .i64 Y] _ (fun _ h => h.pp) Try.underlying34 rfl size_vec) hS9 ?_
        try simp only [Act.put, List.setIfInBounds_toArray, List.set_cons_zero, List.set_cons_succ]
        refine wpAnyH_take (i := 19) (v := ?_) (by simp only [List.getElem?_toArray, List.getElem?_cons_zero, List.getElem?_cons_succ]; rfl) (by kernel_rfl) (by kernel_rfl) (by kernel_rfl) (fun _ _ _ h => h) (Or.inl ⟨by rfl, ?_⟩) hS9 ?_
        rotate_left
        · (intro wq hSw; go_simp; all_goals with_reducible rfl)
        try simp only [Act.put, List.setIfInBounds_toArray, List.set_cons_zero, List.set_cons_succ]
        refine wpAnyH_take (i := 20) (v := ?_) (by simp only [List.getElem?_toArray, List.getElem?_cons_zero, List.getElem?_cons_succ]; rfl) (by kernel_rfl) (by kernel_rfl) (by kernel_rfl) (fun _ _ _ h => h) (Or.inl ⟨by rfl, ?_⟩) hS9 ?_
        rotate_left
        · (intro wq hSw; have q0 := hSw.q0; go_simp; all_goals with_reducible rfl)
        try simp only [Act.put, List.setIfInBounds_toArray, List.set_cons_zero, List.set_cons_succ]
        refine wpAnyH_ready (rs := [21]) (by kernel_rfl) (by simp) ?_
        refine AllReadyH.cons (by simp only [List.getElem?_toArray, List.getElem?_cons_zero, List.getElem?_cons_succ]; rfl) (fun K hK => ?_) AllReadyH.nil
        go_simp
        go_at_call 26
        refine (CK1.out _).mono ?_
        rintro r wt5 ⟨rfl, rfl⟩
        go_wp2_with fail
        refine hK.out _ _ hS9 (fun _ => ?_)
        clear hK K
        try simp only [Act.put, List.setIfInBounds_toArray, List.set_cons_zero, List.set_cons_succ]
        refine wpAnyH_ready (rs := [22]) (by kernel_rfl) (by simp) ?_
        refine AllReadyH.cons (by simp only [List.getElem?_toArray, List.getElem?_cons_zero, List.getElem?_cons_succ]; rfl) (fun K hK => ?_) AllReadyH.nil
        go_simp
        go_at_call 23
        refine (CBK.out _ hS9).mono ?_
        rintro r wt6 ⟨rfl, hS11⟩
        go_wp2_with fail
        refine hK.out _ _ hS11 (fun _ => ?_)
        clear hK K
        try simp only [Act.put, List.setIfInBounds_toArray, List.set_cons_zero, List.set_cons_succ]
        refine wpAnyH_take (i := 23) (v := ?_) (by simp only [List.getElem?_toArray, List.getElem?_cons_zero, List.getElem?_cons_succ]; rfl) (by kernel_rfl) (by kernel_rfl) (by kernel_rfl) (fun _ _ _ h => h) (Or.inl ⟨by rfl, ?_⟩) hS11 ?_
        rotate_left
        · (intro wq hSw; go_simp; all_goals with_reducible rfl)
        try simp only [Act.put, List.setIfInBounds_toArray, List.set_cons_zero, List.set_cons_succ]
        refine wpAnyH_take (i := 24) (v := ?_) (by simp only [List.getElem?_toArray, List.getElem?_cons_zero, List.getElem?_cons_succ]; rfl) (by kernel_rfl) (by kernel_rfl) (by kernel_rfl) (fun _ _ _ h => h) (Or.inl ⟨by rfl, ?_⟩) hS11 ?_
        rotate_left
        · (intro wq hSw; go_simp; all_goals with_reducible rfl)
        try simp only [Act.put, List.setIfInBounds_toArray, List.set_cons_zero, List.set_cons_succ]
        refine wpAnyH_take (i := 25) (v := _) (by simp only [List.getElem?_toArray, List.getElem?_cons_zero, List.getElem?_cons_succ]; rfl) (by kernel_rfl) (by kernel_rfl) (by kernel_rfl) (fun _ _ _ h => h) (yieldsIf_load_mid (by rfl) 34 (.tmp 9) rfl P 0 rfl [.int .i64 X, .int .i64 Y] _ (fun _ h => h.pp) Try.underlying34 rfl size_vec) hS11 ?_
        try simp only [Act.put, List.setIfInBounds_toArray, List.set_cons_zero, List.set_cons_succ]
        refine wpAnyH_ready (rs := [26]) (by kernel_rfl) (by simp) ?_
        refine AllReadyH.cons (by simp only [List.getElem?_toArray, List.getElem?_cons_zero, List.getElem?_cons_succ]; rfl) (fun K hK => ?_) AllReadyH.nil
        go_simp
        go_at_call 23
        refine (CB2.out (by simp) _ hS11).mono ?_
        rintro r wt7 ⟨rfl, hS12⟩
        go_wp2_with fail
        refine hK.out _ _ hS12 (fun _ => ?_)
        clear hK K
        try simp only [Act.put, List.setIfInBounds_toArray, List.set_cons_zero, List.set_cons_succ]
        refine wpAnyH_take (i := 27) (v := .bool false) (by simp only [List.getElem?_toArray, List.getElem?_cons_zero, List.getElem?_cons_succ]; rfl) (by kernel_rfl) (by kernel_rfl) (by kernel_rfl) (fun _ _ _ h => h) (Or.inl ⟨by rfl, ?_⟩) hS12 ?_
        · (intro wq hSw; go_simp; all_goals with_reducible rfl)
        try simp only [Act.put, List.setIfInBounds_toArray, List.set_cons_zero, List.set_cons_succ]
        refine wpAnyH_take (i := 28) (v := .bool false) (by simp only [List.getElem?_toArray, List.getElem?_cons_zero, List.getElem?_cons_succ]; rfl) (by kernel_rfl) (by kernel_rfl) (by kernel_rfl) (fun _ _ _ h => h) (Or.inl ⟨by rfl, ?_⟩) hS12 ?_
        · (intro wq hSw; go_simp; all_goals with_reducible rfl)
        try simp only [Act.put, List.setIfInBounds_toArray, List.set_cons_zero, List.set_cons_succ]
        refine wpAnyH_take (i := 29) (v := .bool false) (by simp only [List.getElem?_toArray, List.getElem?_cons_zero, List.getElem?_cons_succ]; rfl) (by kernel_rfl) (by kernel_rfl) (by kernel_rfl) (fun _ _ _ h => h) (Or.inl ⟨by rfl, ?_⟩) hS12 ?_
        · (intro wq hSw; go_simp; all_goals with_reducible rfl)
        try simp only [Act.put, List.setIfInBounds_toArray, List.set_cons_zero, List.set_cons_succ]
        refine wpAnyH_done (by kernel_rfl) ?_ _
        refine NoPanic.normal ?_
        go_wp2
        go_meet
        exact ⟨rfl, hS12⟩
    case rest =>
      obtain ⟨rfl, hcut⟩ := hcut
      obtain ⟨w5, hw5⟩ : ∃ q, q = wc := ⟨_, rfl⟩
      rw [← hw5] at hcut ⊢
      clear hw5
      have HS5 := Lib.hid hcut
      clear hcut CB0 CBM CSO CK1 CBK CB2 HS4 hS5
      by_cases hl1 : l < 1
      · go_wp2
        go_ret
        exact ⟨rfl, HM0.out.then HS5.out.m⟩
      · by_cases hgl : g < l
        · go_wp2
          go_ret
          exact ⟨rfl, HM0.out.then HS5.out.m⟩
        · have bn := Bd.blocked_near (E := E) hxn hyn (show 1 ≤ l ∧ l ≤ 4398046511104 by omega) hW hH
          have bmo : Bd.Blocked W H E X Y l → Bd.Blocked W H E X Y g := Bd.blocked_mono hxn hyn ⟨by omega, by omega, by omega⟩ hW hH
          have bm1 : Bd.Blocked W H E X Y 1 → Bd.Blocked W H E X Y l := Bd.blocked_mono hxn hyn ⟨by omega, by omega, by omega⟩ hW hH
          have bhit := fun (x y : Int) (h1 : X - l ≤ x ∧ x < X + l) (h2 : Y - l ≤ y ∧ y < Y + l) => Bd.box_hit (W := W) (H := H) (E := E) hxn hyn (show 1 ≤ l ∧ l ≤ 4398046511104 by omega) hW hH h1 h2
          have so : ∀ (x y : Int), Bd.I64 x → Bd.I64 y → ∀ q, BxS b P (A + 1) W H E X Y h0 h1 w0 q → Calls Try.prog 21 #[.pointer (some ⟨b, 0, none⟩), .agg #[.int .i64 x, .int .i64 y]] q fun r w' => r = .returned (.bool (decide (Bd.atOf W H E x y = 35))) ∧ BxS b P (A + 1) W H E X Y h0 h1 w0 w' := fun x y hx hy q hS => (solid_any q hS.brd x y hx hy).mono (by rintro r w' ⟨rfl, hM⟩; exact ⟨rfl, hS.then hM⟩)
          have bg : ∀ (x y h : Int), Bd.I64 x → Bd.I64 y → Bd.I64 h → ∀ (B : Bool), (B = true ↔ Bd.Blocked W H E x y h) → ∀ q, BxS b P (A + 1) W H E X Y h0 h1 w0 q → Calls Try.prog 23 #[.pointer (some ⟨b, 0, none⟩), .agg #[.int .i64 x, .int .i64 y], .int .i64 h] q fun r w' => r = .returned (.bool B) ∧ BxS b P (A + 1) W H E X Y h0 h1 w0 w' := fun x y h hx hy hh B hB q hS => blockedB x y h hx hy hh B hB q hS
          have f1 : Bd.Blocked W H E X Y 4611686018427387904 := by
            rw [Bd.blocked_alike hX6 hY6 (by unfold Bd.I64; decide) hW hH]
            left
            unfold Bd.rfirst Bd.far Bd.half' Bd.num
            repeat' split
            all_goals omega
          have f2 : Bd.Blocked W H E 4611686018427387904 Y l := by
            rw [Bd.blocked_alike (by unfold Bd.I64; decide) hY6 (by unfold Bd.I64; omega) hW hH]
            right; right; left
            unfold Bd.rlast Bd.far Bd.half' Bd.num
            repeat' split
            all_goals omega
          have f3 : Bd.Blocked W H E X (-9223372036854775808) 9223372036854775807 := by
            rw [Bd.blocked_alike hX6 (by unfold Bd.I64; decide) (by unfold Bd.I64; decide) hW hH]
            left
            unfold Bd.rfirst Bd.far Bd.half' Bd.num
            repeat' split
            all_goals omega
          have c1 := bg X Y 4611686018427387904 hX6 hY6 (by unfold Bd.I64; decide) true ⟨fun _ => f1, fun _ => rfl⟩
          have c2 := bg 4611686018427387904 Y l (by unfold Bd.I64; decide) hY6 (by unfold Bd.I64; omega) true ⟨fun _ => f2, fun _ => rfl⟩
          have c3 := bg X (-9223372036854775808) 9223372036854775807 hX6 (by unfold Bd.I64; decide) (by unfold Bd.I64; decide) true ⟨fun _ => f3, fun _ => rfl⟩
          have cl := bg X Y l hX6 hY6 (by unfold Bd.I64; omega)
          have cg := bg X Y g hX6 hY6 (by unfold Bd.I64; omega)
          have co := bg X Y 1 hX6 hY6 (by unfold Bd.I64; decide)
          have C1 := Lib.hid c1; have C2 := Lib.hid c2; have C3 := Lib.hid c3; have CL := Lib.hid cl; have CG := Lib.hid cg; have CO := Lib.hid co
          have SO := Lib.hid so; have BN := Lib.hid bn; have BM := Lib.hid bmo; have BM1 := Lib.hid bm1; have BH := Lib.hid bhit
          have HX := Lib.hid hX6; have HY := Lib.hid hY6
          clear c1 c2 c3 cl cg co so bn bmo bm1 bhit bg f1 f2 f3 hX6 hY6 hxn hyn hk1
          have hS5 := HS5.out
          have px := hS5.px
          clear hS5
          go_wp2_with fail
          clear px
          go_loopw [12, 13, 14] (fun u v _ wr => ∃ (B : Bool) (x : Int), u = .bool B ∧ v = .int .i64 x ∧ X - l ≤ x ∧ x ≤ X + l ∧ (B = true → Bd.Blocked W H E X Y l) ∧ (B = false → ¬ Bd.Wall W H E (Bd.num (X - l)) (Bd.cov x (X + l - 1)) (Bd.num (Y - l)) (Bd.num (Y + l - 1))) ∧ BxS b P (A + 1) W H E X Y h0 h1 w0 wr) (fun _ v _ _ => (X + l - intOf v).toNat)
          case atStart => exact ⟨false, X - l, rfl, rfl, by omega, by omega, by simp, fun _ => Bd.wall_startx (by omega), HS5.out⟩
          case round =>
            obtain ⟨B, x, rfl, rfl, hx1, hx2, hbt, hbf, hSz⟩ := hrel
            have px := hSz.px; have py := hSz.py
            have HSz := Lib.hid hSz; have HBT := Lib.hid hbt; have HBF := Lib.hid hbf
            clear hSz hbt hbf HS5
            by_cases hxe : x < X + l
            · cases B with
              | true =>
                have hL := HBT.out rfl
                clear HBT HBF
                have cl := CL.out true ⟨fun _ => hL, fun _ => rfl⟩
                have cg := CG.out true ⟨fun _ => BM.out hL, fun _ => rfl⟩
                have CL1 := Lib.hid cl; have CG1 := Lib.hid cg
                clear cl cg hL
                go_wp2_with fail
                refine (CL1.out _ HSz.out).mono ?_
                rintro r wv0 ⟨rfl, hV0⟩
                clear px py
                have px := hV0.px; have py := hV0.py
                have HhV0 := Lib.hid hV0
                clear hV0
                go_wp2_with fail
                refine (CG1.out _ HhV0.out).mono ?_
                rintro r wv1 ⟨rfl, hV1⟩
                clear px py
                have px := hV1.px; have py := hV1.py
                have HhV1 := Lib.hid hV1
                clear hV1
                go_wp2_with fail
                refine (CG1.out _ HhV1.out).mono ?_
                rintro r wv2 ⟨rfl, hV2⟩
                clear px py
                have px := hV2.px; have py := hV2.py
                have HhV2 := Lib.hid hV2
                clear hV2
                go_wp2_with fail
                refine (C1.out _ HhV2.out).mono ?_
                rintro r wv3 ⟨rfl, hV3⟩
                clear px py
                have px := hV3.px; have py := hV3.py
                have HhV3 := Lib.hid hV3
                clear hV3
                go_wp2_with fail
                refine (C2.out _ HhV3.out).mono ?_
                rintro r wv4 ⟨rfl, hV4⟩
                clear px py
                have px := hV4.px; have py := hV4.py
                have HhV4 := Lib.hid hV4
                clear hV4
                go_wp2_with fail
                refine (C3.out _ HhV4.out).mono ?_
                rintro r wv5 ⟨rfl, hV5⟩
                clear px py
                have px := hV5.px; have py := hV5.py
                have HhV5 := Lib.hid hV5
                clear hV5
                go_wp2_with fail
                go_ret
                exact ⟨rfl, HM0.out.then HhV5.out.m⟩
              | false =>
                have hW0 := HBF.out rfl
                have HW0 := Lib.hid hW0
                clear hW0 HBT HBF
                go_wp2_with fail
                go_loopw [12, 14] (fun u v wr => ∃ (B : Bool) (y : Int), u = .bool B ∧ v = .int .i64 y ∧ Y - l ≤ y ∧ y ≤ Y + l ∧ (B = true → Bd.Blocked W H E X Y l) ∧ (B = false → ¬ Bd.Wall W H E (Bd.num x) (Bd.num x) (Bd.num (Y - l)) (Bd.cov y (Y + l - 1))) ∧ BxS b P (A + 1) W H E X Y h0 h1 w0 wr) (fun _ v _ => (Y + l - intOf v).toNat)
                case atStart => exact ⟨false, Y - l, rfl, rfl, by omega, by omega, by simp, fun _ => Bd.wall_start (by omega), HSz.out⟩
                case round =>
                  obtain ⟨B, y, rfl, rfl, hy1, hy2, hbt, hbf, hSy⟩ := hrel
                  clear px py
                  have px := hSy.px; have py := hSy.py
                  have HSy := Lib.hid hSy; have HBT := Lib.hid hbt; have HBF := Lib.hid hbf
                  clear hSy hbt hbf HSz
                  by_cases hye : y < Y + l
                  · cases B with
                    | true =>
                      have hL := HBT.out rfl
                      have HL := Lib.hid hL
                      clear hL HBT HBF
                      have n1 := Bd.cov_next (show x ≤ X + l - 1 by omega)
                      have nx := fun q : World => next_any q x (X + l - 1) (by omega) (by omega)
                      obtain ⟨n, hn⟩ : ∃ n, Bd.nextc x (X + l - 1) = n := ⟨_, rfl⟩
                      rw [hn] at n1
                      simp only [hn] at nx
                      have HN := Lib.hid hn; have NX := Lib.hid nx
                      obtain ⟨n0, n2, n3⟩ := n1
                      clear hn nx n0
                      go_wp2_with fail
                      refine (NX.out _).mono ?_
                      rintro r wk ⟨rfl, rfl⟩
                      clear NX
                      go_wp2_with fail
                      go_roundw
                      case rel =>
                        exact ⟨true, n, rfl, rfl, by omega, by omega, fun _ => HL.out, by simp, HSy.out⟩
                      case measure => simp [intOf]; omega
                    | false =>
                      have hW1 := HBF.out rfl
                      have HW1 := Lib.hid hW1
                      clear hW1 HBT HBF
                      have s1 := SO.out x y (by unfold Bd.I64; omega) (by unfold Bd.I64; omega)
                      obtain ⟨T, hT⟩ : ∃ T, decide (Bd.atOf W H E x y = 35) = T := ⟨_, rfl⟩
                      rw [hT] at s1
                      have S1 := Lib.hid s1; have HT := Lib.hid hT
                      clear s1 hT
                      go_wp2_with fail
                      refine (S1.out _ HSy.out).mono ?_
                      rintro r wz ⟨rfl, hSz⟩
                      clear px py S1 HSy
                      have px := hSz.px; have py := hSz.py
                      have HSz := Lib.hid hSz
                      clear hSz
                      have n1 := Bd.cov_next (show y ≤ Y + l - 1 by omega)
                      have nx := fun q : World => next_any q y (Y + l - 1) (by omega) (by omega)
                      obtain ⟨n, hn⟩ : ∃ n, Bd.nextc y (Y + l - 1) = n := ⟨_, rfl⟩
                      rw [hn] at n1
                      simp only [hn] at nx
                      have HN := Lib.hid hn; have NX := Lib.hid nx
                      obtain ⟨n0, n2, n3⟩ := n1
                      clear hn nx n0
                      go_wp2_with fail
                      refine (NX.out _).mono ?_
                      rintro r wk ⟨rfl, rfl⟩
                      clear NX
                      go_wp2_with fail
                      go_roundw
                      case rel =>
                        refine ⟨T, n, rfl, rfl, by omega, by omega, ?_, ?_, HSz.out⟩
                        · intro h
                          have := HT.out
                          rw [h] at this
                          exact BH.out x y ⟨by omega, by omega⟩ ⟨by omega, by omega⟩ (of_decide_eq_true this)
                        · intro h
                          have := HT.out
                          rw [h] at this
                          rw [← HN.out]
                          exact Bd.wall_step (by omega) HW1.out (of_decide_eq_false this)
                      case measure => simp [intOf]; omega
                  · have e := Bd.cov_end (x := y) (last := Y + l - 1) (by omega)
                    cases B with
                    | true =>
                      have hL := HBT.out rfl
                      have HL := Lib.hid hL
                      clear hL HBT HBF e
                      have n1 := Bd.cov_next (show x ≤ X + l - 1 by omega)
                      have nx := fun q : World => next_any q x (X + l - 1) (by omega) (by omega)
                      obtain ⟨n, hn⟩ : ∃ n, Bd.nextc x (X + l - 1) = n := ⟨_, rfl⟩
                      rw [hn] at n1
                      simp only [hn] at nx
                      have HN := Lib.hid hn; have NX := Lib.hid nx
                      obtain ⟨n0, n2, n3⟩ := n1
                      clear hn nx n0
                      go_wp2_with fail
                      refine (NX.out _).mono ?_
                      rintro r wk ⟨rfl, rfl⟩
                      clear NX
                      go_wp2_with fail
                      go_roundw
                      case rel =>
                        exact ⟨true, n, rfl, rfl, by omega, by omega, fun _ => HL.out, by simp, HSy.out⟩
                      case measure => simp [intOf]; omega
                    | false =>
                      have hW1 := HBF.out rfl
                      rw [e] at hW1
                      have HW1 := Lib.hid hW1
                      clear hW1 HBT HBF e
                      have n1 := Bd.cov_next (show x ≤ X + l - 1 by omega)
                      have nx := fun q : World => next_any q x (X + l - 1) (by omega) (by omega)
                      obtain ⟨n, hn⟩ : ∃ n, Bd.nextc x (X + l - 1) = n := ⟨_, rfl⟩
                      rw [hn] at n1
                      simp only [hn] at nx
                      have HN := Lib.hid hn; have NX := Lib.hid nx
                      obtain ⟨n0, n2, n3⟩ := n1
                      clear hn nx n0
                      go_wp2_with fail
                      refine (NX.out _).mono ?_
                      rintro r wk ⟨rfl, rfl⟩
                      clear NX
                      go_wp2_with fail
                      go_roundw
                      case rel =>
                        refine ⟨false, n, rfl, rfl, by omega, by omega, by simp, fun _ => ?_, HSy.out⟩
                        rw [← HN.out]
                        exact Bd.wall_stepx (by omega) HW0.out HW1.out
                      case measure => simp [intOf]; omega
            · cases B with
              | true =>
                have hL := HBT.out rfl
                clear HBT HBF
                have cl := CL.out true ⟨fun _ => hL, fun _ => rfl⟩
                have cg := CG.out true ⟨fun _ => BM.out hL, fun _ => rfl⟩
                have CL1 := Lib.hid cl; have CG1 := Lib.hid cg
                clear cl cg hL
                go_wp2_with fail
                refine (CL1.out _ HSz.out).mono ?_
                rintro r wv0 ⟨rfl, hV0⟩
                clear px py
                have px := hV0.px; have py := hV0.py
                have HhV0 := Lib.hid hV0
                clear hV0
                go_wp2_with fail
                refine (CG1.out _ HhV0.out).mono ?_
                rintro r wv1 ⟨rfl, hV1⟩
                clear px py
                have px := hV1.px; have py := hV1.py
                have HhV1 := Lib.hid hV1
                clear hV1
                go_wp2_with fail
                refine (CG1.out _ HhV1.out).mono ?_
                rintro r wv2 ⟨rfl, hV2⟩
                clear px py
                have px := hV2.px; have py := hV2.py
                have HhV2 := Lib.hid hV2
                clear hV2
                go_wp2_with fail
                refine (C1.out _ HhV2.out).mono ?_
                rintro r wv3 ⟨rfl, hV3⟩
                clear px py
                have px := hV3.px; have py := hV3.py
                have HhV3 := Lib.hid hV3
                clear hV3
                go_wp2_with fail
                refine (C2.out _ HhV3.out).mono ?_
                rintro r wv4 ⟨rfl, hV4⟩
                clear px py
                have px := hV4.px; have py := hV4.py
                have HhV4 := Lib.hid hV4
                clear hV4
                go_wp2_with fail
                refine (C3.out _ HhV4.out).mono ?_
                rintro r wv5 ⟨rfl, hV5⟩
                clear px py
                have px := hV5.px; have py := hV5.py
                have HhV5 := Lib.hid hV5
                clear hV5
                go_wp2_with fail
                go_ret
                exact ⟨rfl, HM0.out.then HhV5.out.m⟩
              | false =>
                have hL : ¬ Bd.Blocked W H E X Y l := by
                  rw [BN.out]
                  have := HBF.out rfl
                  rw [Bd.cov_end (by omega)] at this
                  exact this
                by_cases hG : Bd.Blocked W H E X Y g
                · clear HBT HBF
                  have cl := CL.out false ⟨by simp, fun h => absurd h hL⟩
                  have cg := CG.out true ⟨fun _ => hG, fun _ => rfl⟩
                  have CL1 := Lib.hid cl; have CG1 := Lib.hid cg
                  clear cl cg hL hG
                  go_wp2_with fail
                  refine (CL1.out _ HSz.out).mono ?_
                  rintro r wv0 ⟨rfl, hV0⟩
                  clear px py
                  have px := hV0.px; have py := hV0.py
                  have HhV0 := Lib.hid hV0
                  clear hV0
                  go_wp2_with fail
                  refine (CG1.out _ HhV0.out).mono ?_
                  rintro r wv1 ⟨rfl, hV1⟩
                  clear px py
                  have px := hV1.px; have py := hV1.py
                  have HhV1 := Lib.hid hV1
                  clear hV1
                  go_wp2_with fail
                  refine (C1.out _ HhV1.out).mono ?_
                  rintro r wv2 ⟨rfl, hV2⟩
                  clear px py
                  have px := hV2.px; have py := hV2.py
                  have HhV2 := Lib.hid hV2
                  clear hV2
                  go_wp2_with fail
                  refine (C2.out _ HhV2.out).mono ?_
                  rintro r wv3 ⟨rfl, hV3⟩
                  clear px py
                  have px := hV3.px; have py := hV3.py
                  have HhV3 := Lib.hid hV3
                  clear hV3
                  go_wp2_with fail
                  refine (C3.out _ HhV3.out).mono ?_
                  rintro r wv4 ⟨rfl, hV4⟩
                  clear px py
                  have px := hV4.px; have py := hV4.py
                  have HhV4 := Lib.hid hV4
                  clear hV4
                  go_wp2_with fail
                  go_ret
                  exact ⟨rfl, HM0.out.then HhV4.out.m⟩
                · clear HBT HBF
                  have cl := CL.out false ⟨by simp, fun h => absurd h hL⟩
                  have cg := CG.out false ⟨by simp, fun h => absurd h hG⟩
                  have co := CO.out false ⟨by simp, fun h => absurd (BM1.out h) hL⟩
                  have CO1 := Lib.hid co
                  have CL1 := Lib.hid cl; have CG1 := Lib.hid cg
                  clear cl cg hL hG co
                  go_wp2_with fail
                  refine (CL1.out _ HSz.out).mono ?_
                  rintro r wv0 ⟨rfl, hV0⟩
                  clear px py
                  have px := hV0.px; have py := hV0.py
                  have HhV0 := Lib.hid hV0
                  clear hV0
                  go_wp2_with fail
                  refine (CG1.out _ HhV0.out).mono ?_
                  rintro r wv1 ⟨rfl, hV1⟩
                  clear px py
                  have px := hV1.px; have py := hV1.py
                  have HhV1 := Lib.hid hV1
                  clear hV1
                  go_wp2_with fail
                  refine (CO1.out _ HhV1.out).mono ?_
                  rintro r wv2 ⟨rfl, hV2⟩
                  clear px py
                  have px := hV2.px; have py := hV2.py
                  have HhV2 := Lib.hid hV2
                  clear hV2
                  go_wp2_with fail
                  refine (C1.out _ HhV2.out).mono ?_
                  rintro r wv3 ⟨rfl, hV3⟩
                  clear px py
                  have px := hV3.px; have py := hV3.py
                  have HhV3 := Lib.hid hV3
                  clear hV3
                  go_wp2_with fail
                  refine (C2.out _ HhV3.out).mono ?_
                  rintro r wv4 ⟨rfl, hV4⟩
                  clear px py
                  have px := hV4.px; have py := hV4.py
                  have HhV4 := Lib.hid hV4
                  clear hV4
                  go_wp2_with fail
                  refine (C3.out _ HhV4.out).mono ?_
                  rintro r wv5 ⟨rfl, hV5⟩
                  clear px py
                  have px := hV5.px; have py := hV5.py
                  have HhV5 := Lib.hid hV5
                  clear hV5
                  go_wp2_with fail
                  go_ret
                  exact ⟨rfl, HM0.out.then HhV5.out.m⟩
end Go.Proofs.Ytlndgnlkfhlekaa
