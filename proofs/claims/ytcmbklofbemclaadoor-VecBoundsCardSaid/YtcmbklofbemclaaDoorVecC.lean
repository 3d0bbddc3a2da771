/- VecBounds: the law's walk. -/
import Derived.Test.YtcmbklofbemclaaDoorVecL
import Derived.Test.YtcmbklofbemclaaDoorVecT0
import Derived.Test.YtcmbklofbemclaaDoorFixG
namespace Go.Proofs.YtcmbklofbemclaaDoor.FixM
open Go.RowKit Go.Proofs.YtcmbklofbemclaaDoor Go.Proofs.YtcmbklofbemclaaDoor.VVecB Go.Proofs.YtcmbklofbemclaaDoorW.PrintWords Go.Proofs.YtcmbklofbemclaaDoorW.PrintLast Go.Proofs.YtcmbklofbemclaaDoorW.PrintMore

theorem small_eq' (a b c d : Int) : joustlaw13_small.f a b c d = some (decide ((-536870912 ≤ a ∧ a ≤ 536870912) ∧ (-536870912 ≤ b ∧ b ≤ 536870912) ∧ (-536870912 ≤ c ∧ c ≤ 536870912) ∧ (-536870912 ≤ d ∧ d ≤ 536870912))) := by
  unfold joustlaw13_small.f
  rw [in_eq (by decide), in_eq (by decide), in_eq (by decide), in_eq (by decide)]
  by_cases h1 : -536870912 ≤ a ∧ a ≤ 536870912 <;> by_cases h2 : -536870912 ≤ b ∧ b ≤ 536870912 <;> by_cases h3 : -536870912 ≤ c ∧ c ≤ 536870912 <;> simp [h1, h2, h3]
theorem lim_neg (x : Int) : lim (-x) = -lim x := by
  unfold lim
  repeat' split
  all_goals omega
theorem lim_id {x : Int} (h : -1099511627776 ≤ x ∧ x ≤ 1099511627776) : lim x = x := by
  unfold lim
  repeat' split
  all_goals omega
theorem keep_keep (x : Int) {m : Int} (h : 0 ≤ m) : keep (keep x m) m = keep x m := keep_id (keep_bd h)
theorem keep_zero (x : Int) : keep x 0 = 0 := by
  have := keep_bd (x := x) (m := 0) (by decide)
  omega
theorem i64_lim (x : Int) : I64 (lim x) := by have := lim_in x; unfold I64; omega
theorem i64_keep (x k : Int) : I64 (keep x (capM k)) := by
  have h := capM_bd k
  have := keep_bd (x := x) (m := capM k) h.1
  unfold I64; omega
theorem mulV_whole {a m : Int} (ha : -536870912 ≤ a ∧ a ≤ 536870912) (hm : 0 ≤ m ∧ m ≤ 99) : mulV a (m * 65536) = m * a := by
  unfold mulV
  have e : a * (m * 65536) / 65536 = m * a := by
    have : a * (m * 65536) = (m * a) * 65536 := by grind
    rw [this, Int.mul_ediv_cancel _ (by decide)]
  rw [e]
  have h1 : m * a ≤ 99 * 536870912 := by
    by_cases h : 0 ≤ a
    · exact Int.mul_le_mul hm.2 ha.2 h (by decide)
    · have : m * a ≤ 0 := Int.mul_nonpos_of_nonneg_of_nonpos hm.1 (by omega)
      omega
  have h2 : -(99 * 536870912) ≤ m * a := by
    by_cases h : 0 ≤ a
    · have : 0 ≤ m * a := Int.mul_nonneg hm.1 h
      omega
    · have h3 : m * (-a) ≤ 99 * 536870912 := Int.mul_le_mul hm.2 (by omega) (by omega) (by decide)
      have h4 : m * (-a) = -(m * a) := by grind
      omega
  exact lim_id (by omega)
theorem whole_bd {a m : Int} (ha : -536870912 ≤ a ∧ a ≤ 536870912) (hm : 0 ≤ m ∧ m ≤ 99) : -53150220288 ≤ m * a ∧ m * a ≤ 53150220288 := by
  constructor
  · by_cases h : 0 ≤ a
    · have : 0 ≤ m * a := Int.mul_nonneg hm.1 h
      omega
    · have h3 : m * (-a) ≤ 99 * 536870912 := Int.mul_le_mul hm.2 (by omega) (by omega) (by decide)
      have h4 : m * (-a) = -(m * a) := by grind
      omega
  · by_cases h : 0 ≤ a
    · have h3 : m * a ≤ 99 * 536870912 := Int.mul_le_mul hm.2 ha.2 h (by decide)
      omega
    · have : m * a ≤ 0 := Int.mul_nonpos_of_nonneg_of_nonpos hm.1 (by omega)
      omega
end Go.Proofs.YtcmbklofbemclaaDoor.FixM
namespace Go.Proofs.YtcmbklofbemclaaDoor
open Go.RowKit Go.Proofs.YtcmbklofbemclaaDoorW.PrintWords Go.Proofs.YtcmbklofbemclaaDoor.VVecB

attribute [local go_sem high] VVecB.eqA25
theorem sizeVec : (Tryd.prog.info? 25).map (·.size) = some 2 := by kernel_rfl
theorem range2 {w : World} {B : Nat} {a b : Value} {T : TypeId} (h : Blk w B [a, b] T) : w.rangeAt B 0 [a, b] := fun n v hn => by
  rw [Nat.zero_add]
  exact h.cell hn
theorem tk {P : Program} {md : Region.Mode} {ops : Array Oper} {Q : Exit → Act → World → Prop} {S : World → Prop} {i : Nat} {oi : Oper} {v : Value} {fuel : Nat} {listed : Array Bool} {a : Act} {w : World} (hi : ops[i]? = some oi)
    (hb : (Region.noSelect ops && Region.free md ops listed i && (Region.ready md ops listed).contains i) = true) (hy : YieldsIf P ops S oi v a) (hS : S w)
    (h : wpAnyH P md ops (NoPanic Q) S fuel (listed.setIfInBounds i true) (a.put oi.dst v) w) : wpAnyH P md ops (NoPanic Q) S (fuel + 1) listed a w := by
  simp only [Bool.and_eq_true] at hb
  exact wpAnyH_take hi hb.1.1 hb.1.2 hb.2 (fun _ _ _ h => h) hy hS h
theorem one2 (a b : Int) : ∀ v ∈ [Value.int .i64 a, Value.int .i64 b], v.oneCell' = true := by
  intro v hv
  simp only [List.mem_cons, List.not_mem_nil, or_false] at hv
  rcases hv with rfl | rfl <;> rfl
/-- the six places as they lie in memory, and what a call may have done -/
structure BndS (Ba Bb Bs Bd Bc Bx : Nat) (ax ay bx by' s0 s1 d0 d1 c0 c1 x0 x1 : Int) (w0 q : World) : Prop where
  a : q.rangeAt Ba 0 [.int .i64 ax, .int .i64 ay]
  b : q.rangeAt Bb 0 [.int .i64 bx, .int .i64 by']
  s : q.rangeAt Bs 0 [.int .i64 s0, .int .i64 s1]
  d : q.rangeAt Bd 0 [.int .i64 d0, .int .i64 d1]
  c : q.rangeAt Bc 0 [.int .i64 c0, .int .i64 c1]
  x : q.rangeAt Bx 0 [.int .i64 x0, .int .i64 x1]
  m : Mod none_ w0 q
section
variable {Ba Bb Bs Bd Bc Bx : Nat} {ax ay bx by' s0 s1 d0 d1 c0 c1 x0 x1 : Int} {w0 q q' : World}
theorem BndS.mod (h : BndS Ba Bb Bs Bd Bc Bx ax ay bx by' s0 s1 d0 d1 c0 c1 x0 x1 w0 q) (hM : Mod none_ q q') : BndS Ba Bb Bs Bd Bc Bx ax ay bx by' s0 s1 d0 d1 c0 c1 x0 x1 w0 q' := ⟨rangeAt_none h.a hM, rangeAt_none h.b hM, rangeAt_none h.s hM, rangeAt_none h.d hM, rangeAt_none h.c hM, rangeAt_none h.x hM, h.m.then hM⟩
theorem BndS.below (h : BndS Ba Bb Bs Bd Bc Bx ax ay bx by' s0 s1 d0 d1 c0 c1 x0 x1 w0 q) (hM : Below q.heap.size q q') : BndS Ba Bb Bs Bd Bc Bx ax ay bx by' s0 s1 d0 d1 c0 c1 x0 x1 w0 q' := h.mod (Mod.of_below hM)
theorem BndS.drawn (h : BndS Ba Bb Bs Bd Bc Bx ax ay bx by' s0 s1 d0 d1 c0 c1 x0 x1 w0 q) (hM : Drawn0 q q') : BndS Ba Bb Bs Bd Bc Bx ax ay bx by' s0 s1 d0 d1 c0 c1 x0 x1 w0 q' := by
  obtain ⟨⟨n, rfl⟩⟩ := hM
  exact h.mod ((Mod.refl none_ q).drewN n)
theorem BndS.drew (h : BndS Ba Bb Bs Bd Bc Bx ax ay bx by' s0 s1 d0 d1 c0 c1 x0 x1 w0 q) : BndS Ba Bb Bs Bd Bc Bx ax ay bx by' s0 s1 d0 d1 c0 c1 x0 x1 w0 q.drew := h.mod (Mod.refl none_ q).drew
theorem BndS.a0 (h : BndS Ba Bb Bs Bd Bc Bx ax ay bx by' s0 s1 d0 d1 c0 c1 x0 x1 w0 q) : q.cell? ⟨Ba, 0, none⟩ = some (.int .i64 ax) := h.a 0 _ rfl
theorem BndS.a1 (h : BndS Ba Bb Bs Bd Bc Bx ax ay bx by' s0 s1 d0 d1 c0 c1 x0 x1 w0 q) : q.cell? ⟨Ba, 1, none⟩ = some (.int .i64 ay) := h.a 1 _ rfl
theorem BndS.b0 (h : BndS Ba Bb Bs Bd Bc Bx ax ay bx by' s0 s1 d0 d1 c0 c1 x0 x1 w0 q) : q.cell? ⟨Bb, 0, none⟩ = some (.int .i64 bx) := h.b 0 _ rfl
theorem BndS.b1 (h : BndS Ba Bb Bs Bd Bc Bx ax ay bx by' s0 s1 d0 d1 c0 c1 x0 x1 w0 q) : q.cell? ⟨Bb, 1, none⟩ = some (.int .i64 by') := h.b 1 _ rfl
theorem BndS.s0' (h : BndS Ba Bb Bs Bd Bc Bx ax ay bx by' s0 s1 d0 d1 c0 c1 x0 x1 w0 q) : q.cell? ⟨Bs, 0, none⟩ = some (.int .i64 s0) := h.s 0 _ rfl
theorem BndS.s1' (h : BndS Ba Bb Bs Bd Bc Bx ax ay bx by' s0 s1 d0 d1 c0 c1 x0 x1 w0 q) : q.cell? ⟨Bs, 1, none⟩ = some (.int .i64 s1) := h.s 1 _ rfl
theorem BndS.d0' (h : BndS Ba Bb Bs Bd Bc Bx ax ay bx by' s0 s1 d0 d1 c0 c1 x0 x1 w0 q) : q.cell? ⟨Bd, 0, none⟩ = some (.int .i64 d0) := h.d 0 _ rfl
theorem BndS.d1' (h : BndS Ba Bb Bs Bd Bc Bx ax ay bx by' s0 s1 d0 d1 c0 c1 x0 x1 w0 q) : q.cell? ⟨Bd, 1, none⟩ = some (.int .i64 d1) := h.d 1 _ rfl
theorem BndS.c0' (h : BndS Ba Bb Bs Bd Bc Bx ax ay bx by' s0 s1 d0 d1 c0 c1 x0 x1 w0 q) : q.cell? ⟨Bc, 0, none⟩ = some (.int .i64 c0) := h.c 0 _ rfl
theorem BndS.c1' (h : BndS Ba Bb Bs Bd Bc Bx ax ay bx by' s0 s1 d0 d1 c0 c1 x0 x1 w0 q) : q.cell? ⟨Bc, 1, none⟩ = some (.int .i64 c1) := h.c 1 _ rfl
theorem BndS.x0' (h : BndS Ba Bb Bs Bd Bc Bx ax ay bx by' s0 s1 d0 d1 c0 c1 x0 x1 w0 q) : q.cell? ⟨Bx, 0, none⟩ = some (.int .i64 x0) := h.x 0 _ rfl
theorem BndS.x1' (h : BndS Ba Bb Bs Bd Bc Bx ax ay bx by' s0 s1 d0 d1 c0 c1 x0 x1 w0 q) : q.cell? ⟨Bx, 1, none⟩ = some (.int .i64 x1) := h.x 1 _ rfl
theorem BndS.modB (h : BndS Ba Bb Bs Bd Bc Bx ax ay bx by' s0 s1 d0 d1 c0 c1 x0 x1 w0 q) {Bm : Nat} (hM : Mod (only Bm) q q') (hm : w0.heap.size ≤ Bm) (hb : Ba < w0.heap.size ∧ Bb < w0.heap.size ∧ Bs < w0.heap.size ∧ Bd < w0.heap.size ∧ Bc < w0.heap.size ∧ Bx < w0.heap.size) : BndS Ba Bb Bs Bd Bc Bx ax ay bx by' s0 s1 d0 d1 c0 c1 x0 x1 w0 q' :=
  ⟨rangeAt_mod h.a hM (not_only (by omega)), rangeAt_mod h.b hM (not_only (by omega)), rangeAt_mod h.s hM (not_only (by omega)), rangeAt_mod h.d hM (not_only (by omega)), rangeAt_mod h.c hM (not_only (by omega)), rangeAt_mod h.x hM (not_only (by omega)), h.m.trans hM (fun b hb' e => by have : b = Bm := e; omega)⟩
end
/-- and a sum beside them -/
structure BndM (Bm : Nat) (P U ax ay bx by' s0 s1 d0 d1 c0 c1 x0 x1 : Int) (Ba Bb Bs Bd Bc Bx : Nat) (w0 q : World) : Prop where
  s : BndS Ba Bb Bs Bd Bc Bx ax ay bx by' s0 s1 d0 d1 c0 c1 x0 x1 w0 q
  p : q.rangeAt Bm 0 [.int .i64 P, .int .i64 U]
theorem BndM.mod {Bm : Nat} {P U ax ay bx by' s0 s1 d0 d1 c0 c1 x0 x1 : Int} {Ba Bb Bs Bd Bc Bx : Nat} {w0 q q' : World} (h : BndM Bm P U ax ay bx by' s0 s1 d0 d1 c0 c1 x0 x1 Ba Bb Bs Bd Bc Bx w0 q) (hM : Mod none_ q q') : BndM Bm P U ax ay bx by' s0 s1 d0 d1 c0 c1 x0 x1 Ba Bb Bs Bd Bc Bx w0 q' := ⟨h.s.mod hM, rangeAt_none h.p hM⟩
theorem BndM.below {Bm : Nat} {P U ax ay bx by' s0 s1 d0 d1 c0 c1 x0 x1 : Int} {Ba Bb Bs Bd Bc Bx : Nat} {w0 q q' : World} (h : BndM Bm P U ax ay bx by' s0 s1 d0 d1 c0 c1 x0 x1 Ba Bb Bs Bd Bc Bx w0 q) (hM : Below q.heap.size q q') : BndM Bm P U ax ay bx by' s0 s1 d0 d1 c0 c1 x0 x1 Ba Bb Bs Bd Bc Bx w0 q' := h.mod (Mod.of_below hM)
theorem BndM.drew {Bm : Nat} {P U ax ay bx by' s0 s1 d0 d1 c0 c1 x0 x1 : Int} {Ba Bb Bs Bd Bc Bx : Nat} {w0 q : World} (h : BndM Bm P U ax ay bx by' s0 s1 d0 d1 c0 c1 x0 x1 Ba Bb Bs Bd Bc Bx w0 q) : BndM Bm P U ax ay bx by' s0 s1 d0 d1 c0 c1 x0 x1 Ba Bb Bs Bd Bc Bx w0 q.drew := h.mod (Mod.refl none_ q).drew

set_option maxHeartbeats 8000000 in
set_option maxRecDepth 100000 in
theorem bounds_any (w : World) (ax ay bx by' k n : Int) (hax : FixM.I64 ax) (hay : FixM.I64 ay) (hbx : FixM.I64 bx) (hby : FixM.I64 by') (hk : FixM.I64 k) (hn : FixM.I64 n) :
    Calls Tryd.prog 16 #[.agg #[.int .i64 ax, .int .i64 ay], .agg #[.int .i64 bx, .int .i64 by'], .int .i64 k, .int .i64 n] w fun e w' => e = .returned (.bool true) ∧ Mod none_ w w' := by
  go_enter Tryd.func16, Tryd.ntmps16
  go_upto_region 1 with fail
  obtain ⟨w0, hw0, hA0, hB0, hM0⟩ : ∃ w0, (w.alloc (.cells #[.int .i64 ax, .int .i64 ay] 25)).alloc (.cells #[.int .i64 bx, .int .i64 by'] 25) = w0 ∧ Blk w0 w.heap.size [.int .i64 ax, .int .i64 ay] 25 ∧ Blk w0 (w.heap.size + 1) [.int .i64 bx, .int .i64 by'] 25 ∧ Mod none_ w w0 := ⟨_, rfl, (Blk.new w [.int .i64 ax, .int .i64 ay] _).alloc _, Blk.newA2 w _ #[.int .i64 bx, .int .i64 by'] _, ((Mod.refl _ _).alloc _).alloc _⟩
  rw [hw0]
  clear hw0
  obtain ⟨Ba, hBa⟩ : ∃ B, w.heap.size = B := ⟨_, rfl⟩
  obtain ⟨Bb, hBb⟩ : ∃ B, w.heap.size + 1 = B := ⟨_, rfl⟩
  rw [hBb] at hB0 ⊢
  rw [hBa] at hA0 ⊢
  clear hBa hBb
  obtain ⟨s0, hs0⟩ : ∃ s, FixM.lim (ax + bx) = s := ⟨_, rfl⟩
  obtain ⟨s1, hs1⟩ : ∃ s, FixM.lim (ay + by') = s := ⟨_, rfl⟩
  obtain ⟨d0, hd0⟩ : ∃ s, FixM.lim (ax - bx) = s := ⟨_, rfl⟩
  obtain ⟨d1, hd1⟩ : ∃ s, FixM.lim (ay - by') = s := ⟨_, rfl⟩
  obtain ⟨c0, hc0⟩ : ∃ s, FixM.keep ax (FixM.capM k) = s := ⟨_, rfl⟩
  obtain ⟨c1, hc1⟩ : ∃ s, FixM.keep ay (FixM.capM k) = s := ⟨_, rfl⟩
  obtain ⟨x0, hx0⟩ : ∃ s, FixM.mulV ax k = s := ⟨_, rfl⟩
  obtain ⟨x1, hx1⟩ : ∃ s, FixM.mulV ay k = s := ⟨_, rfl⟩
  have a0 := hA0.cell (j := 0) rfl; have a1 := hA0.cell (j := 1) rfl; have b0 := hB0.cell (j := 0) rfl; have b1 := hB0.cell (j := 1) rfl
  go_wp2_with fail
  clear a0 a1 b0 b1
  refine (vec_Add.calls 9 ax ay bx by' s0 s1 _ (by rw [FixM.vadd_eq 8 hax hay hbx hby, hs0, hs1])).mono ?_
  rintro e w1 ⟨rfl, hb⟩
  have hMb := Mod.of_below (S := none_) hb
  go_upto_region 2 with (refine wpList_store_new rfl 25 (.tmp 9) (.tmp 18) rfl 25 _ [.int .i64 s0, .int .i64 s1] rfl rfl sizeVec rfl (one2 _ _) ?_; intro w2 hN2 hMc hsc)
  obtain ⟨Bs, hBs⟩ : ∃ B, w1.heap.size = B := ⟨_, rfl⟩
  rw [hBs] at hN2 ⊢
  have hA2 := hMc.blk (hMb.blk hA0 (fun h => h)) (fun h => h)
  have hB2 := hMc.blk (hMb.blk hB0 (fun h => h)) (fun h => h)
  have hS2 := hN2
  have hM2 := (hM0.then hMb).then hMc
  clear hMb hMc hsc hb hN2 hBs hM0 hA0 hB0
  have a0 := hA2.cell (j := 0) rfl; have a1 := hA2.cell (j := 1) rfl; have b0 := hB2.cell (j := 0) rfl; have b1 := hB2.cell (j := 1) rfl
  go_wp2_with fail
  clear a0 a1 b0 b1
  refine (vec_Sub.calls 9 ax ay bx by' d0 d1 _ (by rw [FixM.vsub_eq 8 hax hay hbx hby, hd0, hd1])).mono ?_
  rintro e w3 ⟨rfl, hb⟩
  have hMb := Mod.of_below (S := none_) hb
  go_upto_region 3 with (refine wpList_store_new rfl 25 (.tmp 10) (.tmp 21) rfl 25 _ [.int .i64 d0, .int .i64 d1] rfl rfl sizeVec rfl (one2 _ _) ?_; intro w4 hN4 hMc hsc)
  obtain ⟨Bd, hBd⟩ : ∃ B, w3.heap.size = B := ⟨_, rfl⟩
  rw [hBd] at hN4 ⊢
  have hA4 := hMc.blk (hMb.blk hA2 (fun h => h)) (fun h => h)
  have hB4 := hMc.blk (hMb.blk hB2 (fun h => h)) (fun h => h)
  have hS4 := hMc.blk (hMb.blk hS2 (fun h => h)) (fun h => h)
  have hD4 := hN4
  have hM4 := (hM2.then hMb).then hMc
  clear hMb hMc hsc hb hN4 hBd hM2 hA2 hB2 hS2
  have a0 := hA4.cell (j := 0) rfl; have a1 := hA4.cell (j := 1) rfl; have b0 := hB4.cell (j := 0) rfl; have b1 := hB4.cell (j := 1) rfl
  go_wp2_with fail
  clear a0 a1 b0 b1
  refine (vec_Cap.calls ax ay k c0 c1 _ (by rw [FixM.cap_eq ax ay k, hc0, hc1])).mono ?_
  rintro e w5 ⟨rfl, hb⟩
  have hMb := Mod.of_below (S := none_) hb
  go_upto_region 4 with (refine wpList_store_new rfl 25 (.tmp 11) (.tmp 24) rfl 25 _ [.int .i64 c0, .int .i64 c1] rfl rfl sizeVec rfl (one2 _ _) ?_; intro w6 hN6 hMc hsc)
  obtain ⟨Bc, hBc⟩ : ∃ B, w5.heap.size = B := ⟨_, rfl⟩
  rw [hBc] at hN6 ⊢
  have hA6 := hMc.blk (hMb.blk hA4 (fun h => h)) (fun h => h)
  have hB6 := hMc.blk (hMb.blk hB4 (fun h => h)) (fun h => h)
  have hS6 := hMc.blk (hMb.blk hS4 (fun h => h)) (fun h => h)
  have hD6 := hMc.blk (hMb.blk hD4 (fun h => h)) (fun h => h)
  have hC6 := hN6
  have hM6 := (hM4.then hMb).then hMc
  clear hMb hMc hsc hb hN6 hBc hM4 hA4 hB4 hS4 hD4
  have a0 := hA6.cell (j := 0) rfl; have a1 := hA6.cell (j := 1) rfl; have b0 := hB6.cell (j := 0) rfl; have b1 := hB6.cell (j := 1) rfl
  go_wp2_with fail
  clear a0 a1 b0 b1
  refine (vec_Scale.calls ax ay k x0 x1 _ (by rw [FixM.scale_eq hax hay hk, hx0, hx1])).mono ?_
  rintro e w7 ⟨rfl, hb⟩
  have hMb := Mod.of_below (S := none_) hb
  go_upto_region 5 with (refine wpList_store_new rfl 25 (.tmp 12) (.tmp 27) rfl 25 _ [.int .i64 x0, .int .i64 x1] rfl rfl sizeVec rfl (one2 _ _) ?_; intro w8 hN8 hMc hsc)
  obtain ⟨Bx, hBx⟩ : ∃ B, w7.heap.size = B := ⟨_, rfl⟩
  rw [hBx] at hN8 ⊢
  have hA8 := hMc.blk (hMb.blk hA6 (fun h => h)) (fun h => h)
  have hB8 := hMc.blk (hMb.blk hB6 (fun h => h)) (fun h => h)
  have hS8 := hMc.blk (hMb.blk hS6 (fun h => h)) (fun h => h)
  have hD8 := hMc.blk (hMb.blk hD6 (fun h => h)) (fun h => h)
  have hC8 := hMc.blk (hMb.blk hC6 (fun h => h)) (fun h => h)
  have hX8 := hN8
  have hM8 := (hM6.then hMb).then hMc
  clear hMb hMc hsc hb hN8 hBx hM6 hA6 hB6 hS6 hD6 hC6
  have HS8 := Lib.hid (show BndS Ba Bb Bs Bd Bc Bx ax ay bx by' s0 s1 d0 d1 c0 c1 x0 x1 w8 w8 from ⟨range2 hA8, range2 hB8, range2 hS8, range2 hD8, range2 hC8, range2 hX8, Mod.refl _ _⟩)
  have HM8 := Lib.hid hM8
  have hBa8 : Ba < w8.heap.size ∧ Bb < w8.heap.size ∧ Bs < w8.heap.size ∧ Bd < w8.heap.size ∧ Bc < w8.heap.size ∧ Bx < w8.heap.size := ⟨hA8.lt, hB8.lt, hS8.lt, hD8.lt, hC8.lt, hX8.lt⟩
  clear hA8 hB8 hS8 hD8 hC8 hX8 hM8
  have HAba : Hid (∀ q : World, BndS Ba Bb Bs Bd Bc Bx ax ay bx by' s0 s1 d0 d1 c0 c1 x0 x1 w8 q → Calls Tryd.prog 15 #[.agg #[.int .i64 bx, .int .i64 by'], .agg #[.int .i64 ax, .int .i64 ay]] q fun e w' => e = .returned (.agg #[.int .i64 s0, .int .i64 s1]) ∧ BndS Ba Bb Bs Bd Bc Bx ax ay bx by' s0 s1 d0 d1 c0 c1 x0 x1 w8 w') := Lib.hid (fun q hq => (vec_Add.calls 9 bx by' ax ay s0 s1 q (by rw [FixM.vadd_eq 8 hbx hby hax hay, ← hs0, ← hs1, Int.add_comm bx, Int.add_comm by'])).mono fun e w' ⟨he, hd⟩ => ⟨he, hq.below hd⟩)
  have HCc : Hid (∀ q : World, BndS Ba Bb Bs Bd Bc Bx ax ay bx by' s0 s1 d0 d1 c0 c1 x0 x1 w8 q → Calls Tryd.prog 25 #[.agg #[.int .i64 c0, .int .i64 c1], .int .i64 k] q fun e w' => e = .returned (.agg #[.int .i64 c0, .int .i64 c1]) ∧ BndS Ba Bb Bs Bd Bc Bx ax ay bx by' s0 s1 d0 d1 c0 c1 x0 x1 w8 w') := Lib.hid (fun q hq => (vec_Cap.calls c0 c1 k c0 c1 q (by rw [FixM.cap_eq, ← hc0, ← hc1, FixM.keep_keep _ (FixM.capM_bd k).1, FixM.keep_keep _ (FixM.capM_bd k).1])).mono fun e w' ⟨he, hd⟩ => ⟨he, hq.below hd⟩)
  have HSaa : Hid (∀ q : World, BndS Ba Bb Bs Bd Bc Bx ax ay bx by' s0 s1 d0 d1 c0 c1 x0 x1 w8 q → Calls Tryd.prog 14 #[.agg #[.int .i64 ax, .int .i64 ay], .agg #[.int .i64 ax, .int .i64 ay]] q fun e w' => e = .returned (.agg #[.int .i64 0, .int .i64 0]) ∧ BndS Ba Bb Bs Bd Bc Bx ax ay bx by' s0 s1 d0 d1 c0 c1 x0 x1 w8 w') := Lib.hid (fun q hq => (vec_Sub.calls 9 ax ay ax ay 0 0 q (by rw [FixM.vsub_eq 8 hax hay hax hay, Int.sub_self, Int.sub_self]; rfl)).mono fun e w' ⟨he, hd⟩ => ⟨he, hq.below hd⟩)
  have HSba : Hid (∀ q : World, BndS Ba Bb Bs Bd Bc Bx ax ay bx by' s0 s1 d0 d1 c0 c1 x0 x1 w8 q → Calls Tryd.prog 14 #[.agg #[.int .i64 bx, .int .i64 by'], .agg #[.int .i64 ax, .int .i64 ay]] q fun e w' => e = .returned (.agg #[.int .i64 (-d0), .int .i64 (-d1)]) ∧ BndS Ba Bb Bs Bd Bc Bx ax ay bx by' s0 s1 d0 d1 c0 c1 x0 x1 w8 w') := Lib.hid (fun q hq => (vec_Sub.calls 9 bx by' ax ay (-d0) (-d1) q (by rw [FixM.vsub_eq 8 hbx hby hax hay, ← hd0, ← hd1, ← FixM.lim_neg, ← FixM.lim_neg, Int.neg_sub, Int.neg_sub])).mono fun e w' ⟨he, hd⟩ => ⟨he, hq.below hd⟩)
  have hin : ∀ (v m : Int) (β : Bool), (0 ≤ m ∧ m ≤ 9223372036854775807) → decide (-m ≤ v ∧ v ≤ m) = β → ∀ q : World, BndS Ba Bb Bs Bd Bc Bx ax ay bx by' s0 s1 d0 d1 c0 c1 x0 x1 w8 q → Calls Tryd.prog 11 #[.int .i64 v, .int .i64 m] q fun e w' => e = .returned (.bool β) ∧ BndS Ba Bb Bs Bd Bc Bx ax ay bx by' s0 s1 d0 d1 c0 c1 x0 x1 w8 w' := fun v m β hm hβ q hq => (joustlaw13_in.calls v m β q (by rw [FixM.in_eq hm, hβ])).mono fun e w' ⟨he, hd⟩ => ⟨he, hq.drawn hd⟩
  have hls0 := FixM.lim_in (ax + bx); have hls1 := FixM.lim_in (ay + by'); have hld0 := FixM.lim_in (ax - bx); have hld1 := FixM.lim_in (ay - by')
  have hkm := FixM.capM_bd k
  have hlc0 := FixM.keep_bd (x := ax) (m := FixM.capM k) hkm.1; have hlc1 := FixM.keep_bd (x := ay) (m := FixM.capM k) hkm.1
  have hlx0 : -1099511627776 ≤ FixM.mulV ax k ∧ FixM.mulV ax k ≤ 1099511627776 := FixM.lim_in _
  have hlx1 : -1099511627776 ≤ FixM.mulV ay k ∧ FixM.mulV ay k ≤ 1099511627776 := FixM.lim_in _
  rw [hs0] at hls0
  rw [hs1] at hls1
  rw [hd0] at hld0
  rw [hd1] at hld1
  rw [hc0] at hlc0
  rw [hc1] at hlc1
  rw [hx0] at hlx0
  rw [hx1] at hlx1
  have HIs0 := Lib.hid (hin s0 1099511627776 true (by decide) (decide_eq_true (by omega)))
  have HIs1 := Lib.hid (hin s1 1099511627776 true (by decide) (decide_eq_true (by omega)))
  have HId0 := Lib.hid (hin d0 1099511627776 true (by decide) (decide_eq_true (by omega)))
  have HId1 := Lib.hid (hin d1 1099511627776 true (by decide) (decide_eq_true (by omega)))
  have HIc0 := Lib.hid (hin c0 1099511627776 true (by decide) (decide_eq_true (by omega)))
  have HIc1 := Lib.hid (hin c1 1099511627776 true (by decide) (decide_eq_true (by omega)))
  have HIx0 := Lib.hid (hin x0 1099511627776 true (by decide) (decide_eq_true (by omega)))
  have HIx1 := Lib.hid (hin x1 1099511627776 true (by decide) (decide_eq_true (by omega)))
  have hn0 : IntKind.i64.wrap (-d0) = -d0 := by rw [IntKind.wrap_i64]; omega
  have hn1 : IntKind.i64.wrap (-d1) = -d1 := by rw [IntKind.wrap_i64]; omega
  have HIN := Lib.hid hin
  have HF := Lib.hid (show FixM.lim (ax + bx) = s0 ∧ FixM.lim (ay + by') = s1 ∧ FixM.lim (ax - bx) = d0 ∧ FixM.lim (ay - by') = d1 ∧ FixM.keep ax (FixM.capM k) = c0 ∧ FixM.keep ay (FixM.capM k) = c1 from ⟨hs0, hs1, hd0, hd1, hc0, hc1⟩)
  have HI64 := Lib.hid (show FixM.I64 ax ∧ FixM.I64 ay ∧ FixM.I64 bx ∧ FixM.I64 by' ∧ FixM.I64 k ∧ FixM.I64 n from ⟨hax, hay, hbx, hby, hk, hn⟩)
  clear hin hls0 hls1 hld0 hld1 hkm hlc0 hlc1 hlx0 hlx1 hs0 hs1 hd0 hd1 hc0 hc1 hx0 hx1 hax hay hbx hby hk hn
  refine wp_region_noPanic ?_
  refine wp_region_held_drew (S := (BndS Ba Bb Bs Bd Bc Bx ax ay bx by' s0 s1 d0 d1 c0 c1 x0 x1 w8)) (by kernel_rfl) HS8.out.drew (fun hHeld => ?_)
  clear hHeld
  refine tk (i := 0) (v := _) (by simp only [List.getElem?_toArray, List.getElem?_cons_zero]; rfl) (by kernel_rfl) (yieldsIf_load_mid (by rfl) 25 (.tmp 9) rfl Bs 0 rfl [.int .i64 s0, .int .i64 s1] _ (fun _ h => h.s) Tryd.underlying25 rfl sizeVec) HS8.out.drew ?_
  try simp only [Act.put, List.setIfInBounds_toArray, List.set_cons_zero, List.set_cons_succ]
  refine tk (i := 1) (v := _) (by simp only [List.getElem?_toArray, List.getElem?_cons_zero, List.getElem?_cons_succ]; rfl) (by kernel_rfl) (yieldsIf_load_mid (by rfl) 25 (.tmp 5) rfl Bb 0 rfl [.int .i64 bx, .int .i64 by'] _ (fun _ h => h.b) Tryd.underlying25 rfl sizeVec) HS8.out.drew ?_
  try simp only [Act.put, List.setIfInBounds_toArray, List.set_cons_zero, List.set_cons_succ]
  refine tk (i := 2) (v := _) (by simp only [List.getElem?_toArray, List.getElem?_cons_zero, List.getElem?_cons_succ]; rfl) (by kernel_rfl) (yieldsIf_load_mid (by rfl) 25 (.tmp 4) rfl Ba 0 rfl [.int .i64 ax, .int .i64 ay] _ (fun _ h => h.a) Tryd.underlying25 rfl sizeVec) HS8.out.drew ?_
  try simp only [Act.put, List.setIfInBounds_toArray, List.set_cons_zero, List.set_cons_succ]
  refine wpAnyH_ready (rs := [3]) (by kernel_rfl) (by simp) ?_
  refine AllReadyH.cons (by simp only [List.getElem?_toArray, List.getElem?_cons_zero, List.getElem?_cons_succ]; rfl) (fun K hK => ?_) AllReadyH.nil
  go_simp
  go_at_call 15
  refine (HAba.out _ HS8.out.drew).mono ?_
  rintro r w50 ⟨rfl, hS50⟩
  go_wp2_with fail
  refine hK.out _ _ hS50 (fun _ => ?_)
  clear hK K
  try simp only [Act.put, List.setIfInBounds_toArray, List.set_cons_zero, List.set_cons_succ]
  refine tk (i := 4) (v := .bool false) (by simp only [List.getElem?_toArray, List.getElem?_cons_zero, List.getElem?_cons_succ]; rfl) (by kernel_rfl) (Or.inl ⟨by rfl, ?_⟩) hS50 ?_
  · (intro wq hSw; go_simp; all_goals with_reducible rfl)
  try simp only [Act.put, List.setIfInBounds_toArray, List.set_cons_zero, List.set_cons_succ]
  refine tk (i := 5) (v := ?_) (by simp only [List.getElem?_toArray, List.getElem?_cons_zero, List.getElem?_cons_succ]; rfl) (by kernel_rfl) (Or.inl ⟨by rfl, ?_⟩) hS50 ?_
  rotate_left
  · (intro wq hSw; go_simp; all_goals with_reducible rfl)
  try simp only [Act.put, List.setIfInBounds_toArray, List.set_cons_zero, List.set_cons_succ]
  refine tk (i := 6) (v := ?_) (by simp only [List.getElem?_toArray, List.getElem?_cons_zero, List.getElem?_cons_succ]; rfl) (by kernel_rfl) (Or.inl ⟨by rfl, ?_⟩) hS50 ?_
  rotate_left
  · (intro wq hSw; go_simp; all_goals with_reducible rfl)
  try simp only [Act.put, List.setIfInBounds_toArray, List.set_cons_zero, List.set_cons_succ]
  refine tk (i := 7) (v := ?_) (by simp only [List.getElem?_toArray, List.getElem?_cons_zero, List.getElem?_cons_succ]; rfl) (by kernel_rfl) (Or.inl ⟨by rfl, ?_⟩) hS50 ?_
  rotate_left
  · (intro wq hSw; have a0 := hSw.a0; have a1 := hSw.a1; have b0 := hSw.b0; have b1 := hSw.b1; have s0' := hSw.s0'; have s1' := hSw.s1'; have d0' := hSw.d0'; have d1' := hSw.d1'; have c0' := hSw.c0'; have c1' := hSw.c1'; have x0' := hSw.x0'; have x1' := hSw.x1'; go_simp; all_goals with_reducible rfl)
  try simp only [Act.put, List.setIfInBounds_toArray, List.set_cons_zero, List.set_cons_succ]
  refine wpAnyH_ready (rs := [8]) (by kernel_rfl) (by simp) ?_
  refine AllReadyH.cons (by simp only [List.getElem?_toArray, List.getElem?_cons_zero, List.getElem?_cons_succ]; rfl) (fun K hK => ?_) AllReadyH.nil
  go_simp
  go_at_call 11
  refine (HIs0.out _ hS50).mono ?_
  rintro r w51 ⟨rfl, hS51⟩
  go_wp2_with fail
  refine hK.out _ _ hS51 (fun _ => ?_)
  clear hK K
  try simp only [Act.put, List.setIfInBounds_toArray, List.set_cons_zero, List.set_cons_succ]
  refine tk (i := 9) (v := .bool false) (by simp only [List.getElem?_toArray, List.getElem?_cons_zero, List.getElem?_cons_succ]; rfl) (by kernel_rfl) (Or.inl ⟨by rfl, ?_⟩) hS51 ?_
  · (intro wq hSw; go_simp; all_goals with_reducible rfl)
  try simp only [Act.put, List.setIfInBounds_toArray, List.set_cons_zero, List.set_cons_succ]
  refine tk (i := 10) (v := .bool false) (by simp only [List.getElem?_toArray, List.getElem?_cons_zero, List.getElem?_cons_succ]; rfl) (by kernel_rfl) (Or.inl ⟨by rfl, ?_⟩) hS51 ?_
  · (intro wq hSw; go_simp; all_goals with_reducible rfl)
  try simp only [Act.put, List.setIfInBounds_toArray, List.set_cons_zero, List.set_cons_succ]
  refine tk (i := 11) (v := ?_) (by simp only [List.getElem?_toArray, List.getElem?_cons_zero, List.getElem?_cons_succ]; rfl) (by kernel_rfl) (Or.inl ⟨by rfl, ?_⟩) hS51 ?_
  rotate_left
  · (intro wq hSw; go_simp; all_goals with_reducible rfl)
  try simp only [Act.put, List.setIfInBounds_toArray, List.set_cons_zero, List.set_cons_succ]
  refine tk (i := 12) (v := ?_) (by simp only [List.getElem?_toArray, List.getElem?_cons_zero, List.getElem?_cons_succ]; rfl) (by kernel_rfl) (Or.inl ⟨by rfl, ?_⟩) hS51 ?_
  rotate_left
  · (intro wq hSw; go_simp; all_goals with_reducible rfl)
  try simp only [Act.put, List.setIfInBounds_toArray, List.set_cons_zero, List.set_cons_succ]
  refine tk (i := 13) (v := ?_) (by simp only [List.getElem?_toArray, List.getElem?_cons_zero, List.getElem?_cons_succ]; rfl) (by kernel_rfl) (Or.inl ⟨by rfl, ?_⟩) hS51 ?_
  rotate_left
  · (intro wq hSw; have a0 := hSw.a0; have a1 := hSw.a1; have b0 := hSw.b0; have b1 := hSw.b1; have s0' := hSw.s0'; have s1' := hSw.s1'; have d0' := hSw.d0'; have d1' := hSw.d1'; have c0' := hSw.c0'; have c1' := hSw.c1'; have x0' := hSw.x0'; have x1' := hSw.x1'; go_simp; all_goals with_reducible rfl)
  try simp only [Act.put, List.setIfInBounds_toArray, List.set_cons_zero, List.set_cons_succ]
  refine wpAnyH_ready (rs := [14]) (by kernel_rfl) (by simp) ?_
  refine AllReadyH.cons (by simp only [List.getElem?_toArray, List.getElem?_cons_zero, List.getElem?_cons_succ]; rfl) (fun K hK => ?_) AllReadyH.nil
  go_simp
  go_at_call 11
  refine (HIs1.out _ hS51).mono ?_
  rintro r w52 ⟨rfl, hS52⟩
  go_wp2_with fail
  refine hK.out _ _ hS52 (fun _ => ?_)
  clear hK K
  try simp only [Act.put, List.setIfInBounds_toArray, List.set_cons_zero, List.set_cons_succ]
  refine tk (i := 15) (v := .bool false) (by simp only [List.getElem?_toArray, List.getElem?_cons_zero, List.getElem?_cons_succ]; rfl) (by kernel_rfl) (Or.inl ⟨by rfl, ?_⟩) hS52 ?_
  · (intro wq hSw; go_simp; all_goals with_reducible rfl)
  try simp only [Act.put, List.setIfInBounds_toArray, List.set_cons_zero, List.set_cons_succ]
  refine tk (i := 16) (v := .bool false) (by simp only [List.getElem?_toArray, List.getElem?_cons_zero, List.getElem?_cons_succ]; rfl) (by kernel_rfl) (Or.inl ⟨by rfl, ?_⟩) hS52 ?_
  · (intro wq hSw; go_simp; all_goals with_reducible rfl)
  try simp only [Act.put, List.setIfInBounds_toArray, List.set_cons_zero, List.set_cons_succ]
  refine tk (i := 17) (v := ?_) (by simp only [List.getElem?_toArray, List.getElem?_cons_zero, List.getElem?_cons_succ]; rfl) (by kernel_rfl) (Or.inl ⟨by rfl, ?_⟩) hS52 ?_
  rotate_left
  · (intro wq hSw; go_simp; all_goals with_reducible rfl)
  try simp only [Act.put, List.setIfInBounds_toArray, List.set_cons_zero, List.set_cons_succ]
  refine tk (i := 18) (v := ?_) (by simp only [List.getElem?_toArray, List.getElem?_cons_zero, List.getElem?_cons_succ]; rfl) (by kernel_rfl) (Or.inl ⟨by rfl, ?_⟩) hS52 ?_
  rotate_left
  · (intro wq hSw; go_simp; all_goals with_reducible rfl)
  try simp only [Act.put, List.setIfInBounds_toArray, List.set_cons_zero, List.set_cons_succ]
  refine tk (i := 19) (v := ?_) (by simp only [List.getElem?_toArray, List.getElem?_cons_zero, List.getElem?_cons_succ]; rfl) (by kernel_rfl) (Or.inl ⟨by rfl, ?_⟩) hS52 ?_
  rotate_left
  · (intro wq hSw; have a0 := hSw.a0; have a1 := hSw.a1; have b0 := hSw.b0; have b1 := hSw.b1; have s0' := hSw.s0'; have s1' := hSw.s1'; have d0' := hSw.d0'; have d1' := hSw.d1'; have c0' := hSw.c0'; have c1' := hSw.c1'; have x0' := hSw.x0'; have x1' := hSw.x1'; go_simp; all_goals with_reducible rfl)
  try simp only [Act.put, List.setIfInBounds_toArray, List.set_cons_zero, List.set_cons_succ]
  refine wpAnyH_ready (rs := [20]) (by kernel_rfl) (by simp) ?_
  refine AllReadyH.cons (by simp only [List.getElem?_toArray, List.getElem?_cons_zero, List.getElem?_cons_succ]; rfl) (fun K hK => ?_) AllReadyH.nil
  go_simp
  go_at_call 11
  refine (HId0.out _ hS52).mono ?_
  rintro r w53 ⟨rfl, hS53⟩
  go_wp2_with fail
  refine hK.out _ _ hS53 (fun _ => ?_)
  clear hK K
  try simp only [Act.put, List.setIfInBounds_toArray, List.set_cons_zero, List.set_cons_succ]
  refine tk (i := 21) (v := .bool false) (by simp only [List.getElem?_toArray, List.getElem?_cons_zero, List.getElem?_cons_succ]; rfl) (by kernel_rfl) (Or.inl ⟨by rfl, ?_⟩) hS53 ?_
  · (intro wq hSw; go_simp; all_goals with_reducible rfl)
  try simp only [Act.put, List.setIfInBounds_toArray, List.set_cons_zero, List.set_cons_succ]
  refine tk (i := 22) (v := .bool false) (by simp only [List.getElem?_toArray, List.getElem?_cons_zero, List.getElem?_cons_succ]; rfl) (by kernel_rfl) (Or.inl ⟨by rfl, ?_⟩) hS53 ?_
  · (intro wq hSw; go_simp; all_goals with_reducible rfl)
  try simp only [Act.put, List.setIfInBounds_toArray, List.set_cons_zero, List.set_cons_succ]
  refine tk (i := 23) (v := ?_) (by simp only [List.getElem?_toArray, List.getElem?_cons_zero, List.getElem?_cons_succ]; rfl) (by kernel_rfl) (Or.inl ⟨by rfl, ?_⟩) hS53 ?_
  rotate_left
  · (intro wq hSw; go_simp; all_goals with_reducible rfl)
  try simp only [Act.put, List.setIfInBounds_toArray, List.set_cons_zero, List.set_cons_succ]
  refine tk (i := 24) (v := ?_) (by simp only [List.getElem?_toArray, List.getElem?_cons_zero, List.getElem?_cons_succ]; rfl) (by kernel_rfl) (Or.inl ⟨by rfl, ?_⟩) hS53 ?_
  rotate_left
  · (intro wq hSw; go_simp; all_goals with_reducible rfl)
  try simp only [Act.put, List.setIfInBounds_toArray, List.set_cons_zero, List.set_cons_succ]
  refine tk (i := 25) (v := ?_) (by simp only [List.getElem?_toArray, List.getElem?_cons_zero, List.getElem?_cons_succ]; rfl) (by kernel_rfl) (Or.inl ⟨by rfl, ?_⟩) hS53 ?_
  rotate_left
  · (intro wq hSw; have a0 := hSw.a0; have a1 := hSw.a1; have b0 := hSw.b0; have b1 := hSw.b1; have s0' := hSw.s0'; have s1' := hSw.s1'; have d0' := hSw.d0'; have d1' := hSw.d1'; have c0' := hSw.c0'; have c1' := hSw.c1'; have x0' := hSw.x0'; have x1' := hSw.x1'; go_simp; all_goals with_reducible rfl)
  try simp only [Act.put, List.setIfInBounds_toArray, List.set_cons_zero, List.set_cons_succ]
  refine wpAnyH_ready (rs := [26]) (by kernel_rfl) (by simp) ?_
  refine AllReadyH.cons (by simp only [List.getElem?_toArray, List.getElem?_cons_zero, List.getElem?_cons_succ]; rfl) (fun K hK => ?_) AllReadyH.nil
  go_simp
  go_at_call 11
  refine (HId1.out _ hS53).mono ?_
  rintro r w54 ⟨rfl, hS54⟩
  go_wp2_with fail
  refine hK.out _ _ hS54 (fun _ => ?_)
  clear hK K
  try simp only [Act.put, List.setIfInBounds_toArray, List.set_cons_zero, List.set_cons_succ]
  refine tk (i := 27) (v := .bool false) (by simp only [List.getElem?_toArray, List.getElem?_cons_zero, List.getElem?_cons_succ]; rfl) (by kernel_rfl) (Or.inl ⟨by rfl, ?_⟩) hS54 ?_
  · (intro wq hSw; go_simp; all_goals with_reducible rfl)
  try simp only [Act.put, List.setIfInBounds_toArray, List.set_cons_zero, List.set_cons_succ]
  refine tk (i := 28) (v := .bool false) (by simp only [List.getElem?_toArray, List.getElem?_cons_zero, List.getElem?_cons_succ]; rfl) (by kernel_rfl) (Or.inl ⟨by rfl, ?_⟩) hS54 ?_
  · (intro wq hSw; go_simp; all_goals with_reducible rfl)
  try simp only [Act.put, List.setIfInBounds_toArray, List.set_cons_zero, List.set_cons_succ]
  refine tk (i := 29) (v := ?_) (by simp only [List.getElem?_toArray, List.getElem?_cons_zero, List.getElem?_cons_succ]; rfl) (by kernel_rfl) (Or.inl ⟨by rfl, ?_⟩) hS54 ?_
  rotate_left
  · (intro wq hSw; go_simp; all_goals with_reducible rfl)
  try simp only [Act.put, List.setIfInBounds_toArray, List.set_cons_zero, List.set_cons_succ]
  refine tk (i := 30) (v := ?_) (by simp only [List.getElem?_toArray, List.getElem?_cons_zero, List.getElem?_cons_succ]; rfl) (by kernel_rfl) (Or.inl ⟨by rfl, ?_⟩) hS54 ?_
  rotate_left
  · (intro wq hSw; go_simp; all_goals with_reducible rfl)
  try simp only [Act.put, List.setIfInBounds_toArray, List.set_cons_zero, List.set_cons_succ]
  refine tk (i := 31) (v := ?_) (by simp only [List.getElem?_toArray, List.getElem?_cons_zero, List.getElem?_cons_succ]; rfl) (by kernel_rfl) (Or.inl ⟨by rfl, ?_⟩) hS54 ?_
  rotate_left
  · (intro wq hSw; have a0 := hSw.a0; have a1 := hSw.a1; have b0 := hSw.b0; have b1 := hSw.b1; have s0' := hSw.s0'; have s1' := hSw.s1'; have d0' := hSw.d0'; have d1' := hSw.d1'; have c0' := hSw.c0'; have c1' := hSw.c1'; have x0' := hSw.x0'; have x1' := hSw.x1'; go_simp; all_goals with_reducible rfl)
  try simp only [Act.put, List.setIfInBounds_toArray, List.set_cons_zero, List.set_cons_succ]
  refine wpAnyH_ready (rs := [32]) (by kernel_rfl) (by simp) ?_
  refine AllReadyH.cons (by simp only [List.getElem?_toArray, List.getElem?_cons_zero, List.getElem?_cons_succ]; rfl) (fun K hK => ?_) AllReadyH.nil
  go_simp
  go_at_call 11
  refine (HIc0.out _ hS54).mono ?_
  rintro r w55 ⟨rfl, hS55⟩
  go_wp2_with fail
  refine hK.out _ _ hS55 (fun _ => ?_)
  clear hK K
  try simp only [Act.put, List.setIfInBounds_toArray, List.set_cons_zero, List.set_cons_succ]
  refine tk (i := 33) (v := .bool false) (by simp only [List.getElem?_toArray, List.getElem?_cons_zero, List.getElem?_cons_succ]; rfl) (by kernel_rfl) (Or.inl ⟨by rfl, ?_⟩) hS55 ?_
  · (intro wq hSw; go_simp; all_goals with_reducible rfl)
  try simp only [Act.put, List.setIfInBounds_toArray, List.set_cons_zero, List.set_cons_succ]
  refine tk (i := 34) (v := .bool false) (by simp only [List.getElem?_toArray, List.getElem?_cons_zero, List.getElem?_cons_succ]; rfl) (by kernel_rfl) (Or.inl ⟨by rfl, ?_⟩) hS55 ?_
  · (intro wq hSw; go_simp; all_goals with_reducible rfl)
  try simp only [Act.put, List.setIfInBounds_toArray, List.set_cons_zero, List.set_cons_succ]
  refine tk (i := 35) (v := ?_) (by simp only [List.getElem?_toArray, List.getElem?_cons_zero, List.getElem?_cons_succ]; rfl) (by kernel_rfl) (Or.inl ⟨by rfl, ?_⟩) hS55 ?_
  rotate_left
  · (intro wq hSw; go_simp; all_goals with_reducible rfl)
  try simp only [Act.put, List.setIfInBounds_toArray, List.set_cons_zero, List.set_cons_succ]
  refine tk (i := 36) (v := ?_) (by simp only [List.getElem?_toArray, List.getElem?_cons_zero, List.getElem?_cons_succ]; rfl) (by kernel_rfl) (Or.inl ⟨by rfl, ?_⟩) hS55 ?_
  rotate_left
  · (intro wq hSw; go_simp; all_goals with_reducible rfl)
  try simp only [Act.put, List.setIfInBounds_toArray, List.set_cons_zero, List.set_cons_succ]
  refine tk (i := 37) (v := ?_) (by simp only [List.getElem?_toArray, List.getElem?_cons_zero, List.getElem?_cons_succ]; rfl) (by kernel_rfl) (Or.inl ⟨by rfl, ?_⟩) hS55 ?_
  rotate_left
  · (intro wq hSw; have a0 := hSw.a0; have a1 := hSw.a1; have b0 := hSw.b0; have b1 := hSw.b1; have s0' := hSw.s0'; have s1' := hSw.s1'; have d0' := hSw.d0'; have d1' := hSw.d1'; have c0' := hSw.c0'; have c1' := hSw.c1'; have x0' := hSw.x0'; have x1' := hSw.x1'; go_simp; all_goals with_reducible rfl)
  try simp only [Act.put, List.setIfInBounds_toArray, List.set_cons_zero, List.set_cons_succ]
  refine wpAnyH_ready (rs := [38]) (by kernel_rfl) (by simp) ?_
  refine AllReadyH.cons (by simp only [List.getElem?_toArray, List.getElem?_cons_zero, List.getElem?_cons_succ]; rfl) (fun K hK => ?_) AllReadyH.nil
  go_simp
  go_at_call 11
  refine (HIc1.out _ hS55).mono ?_
  rintro r w56 ⟨rfl, hS56⟩
  go_wp2_with fail
  refine hK.out _ _ hS56 (fun _ => ?_)
  clear hK K
  try simp only [Act.put, List.setIfInBounds_toArray, List.set_cons_zero, List.set_cons_succ]
  refine tk (i := 39) (v := .bool false) (by simp only [List.getElem?_toArray, List.getElem?_cons_zero, List.getElem?_cons_succ]; rfl) (by kernel_rfl) (Or.inl ⟨by rfl, ?_⟩) hS56 ?_
  · (intro wq hSw; go_simp; all_goals with_reducible rfl)
  try simp only [Act.put, List.setIfInBounds_toArray, List.set_cons_zero, List.set_cons_succ]
  refine tk (i := 40) (v := .bool false) (by simp only [List.getElem?_toArray, List.getElem?_cons_zero, List.getElem?_cons_succ]; rfl) (by kernel_rfl) (Or.inl ⟨by rfl, ?_⟩) hS56 ?_
  · (intro wq hSw; go_simp; all_goals with_reducible rfl)
  try simp only [Act.put, List.setIfInBounds_toArray, List.set_cons_zero, List.set_cons_succ]
  refine tk (i := 41) (v := ?_) (by simp only [List.getElem?_toArray, List.getElem?_cons_zero, List.getElem?_cons_succ]; rfl) (by kernel_rfl) (Or.inl ⟨by rfl, ?_⟩) hS56 ?_
  rotate_left
  · (intro wq hSw; go_simp; all_goals with_reducible rfl)
  try simp only [Act.put, List.setIfInBounds_toArray, List.set_cons_zero, List.set_cons_succ]
  refine tk (i := 42) (v := ?_) (by simp only [List.getElem?_toArray, List.getElem?_cons_zero, List.getElem?_cons_succ]; rfl) (by kernel_rfl) (Or.inl ⟨by rfl, ?_⟩) hS56 ?_
  rotate_left
  · (intro wq hSw; go_simp; all_goals with_reducible rfl)
  try simp only [Act.put, List.setIfInBounds_toArray, List.set_cons_zero, List.set_cons_succ]
  refine tk (i := 43) (v := ?_) (by simp only [List.getElem?_toArray, List.getElem?_cons_zero, List.getElem?_cons_succ]; rfl) (by kernel_rfl) (Or.inl ⟨by rfl, ?_⟩) hS56 ?_
  rotate_left
  · (intro wq hSw; have a0 := hSw.a0; have a1 := hSw.a1; have b0 := hSw.b0; have b1 := hSw.b1; have s0' := hSw.s0'; have s1' := hSw.s1'; have d0' := hSw.d0'; have d1' := hSw.d1'; have c0' := hSw.c0'; have c1' := hSw.c1'; have x0' := hSw.x0'; have x1' := hSw.x1'; go_simp; all_goals with_reducible rfl)
  try simp only [Act.put, List.setIfInBounds_toArray, List.set_cons_zero, List.set_cons_succ]
  refine wpAnyH_ready (rs := [44]) (by kernel_rfl) (by simp) ?_
  refine AllReadyH.cons (by simp only [List.getElem?_toArray, List.getElem?_cons_zero, List.getElem?_cons_succ]; rfl) (fun K hK => ?_) AllReadyH.nil
  go_simp
  go_at_call 11
  refine (HIx0.out _ hS56).mono ?_
  rintro r w57 ⟨rfl, hS57⟩
  go_wp2_with fail
  refine hK.out _ _ hS57 (fun _ => ?_)
  clear hK K
  try simp only [Act.put, List.setIfInBounds_toArray, List.set_cons_zero, List.set_cons_succ]
  refine tk (i := 45) (v := .bool false) (by simp only [List.getElem?_toArray, List.getElem?_cons_zero, List.getElem?_cons_succ]; rfl) (by kernel_rfl) (Or.inl ⟨by rfl, ?_⟩) hS57 ?_
  · (intro wq hSw; go_simp; all_goals with_reducible rfl)
  try simp only [Act.put, List.setIfInBounds_toArray, List.set_cons_zero, List.set_cons_succ]
  refine tk (i := 46) (v := .bool false) (by simp only [List.getElem?_toArray, List.getElem?_cons_zero, List.getElem?_cons_succ]; rfl) (by kernel_rfl) (Or.inl ⟨by rfl, ?_⟩) hS57 ?_
  · (intro wq hSw; go_simp; all_goals with_reducible rfl)
  try simp only [Act.put, List.setIfInBounds_toArray, List.set_cons_zero, List.set_cons_succ]
  refine tk (i := 47) (v := ?_) (by simp only [List.getElem?_toArray, List.getElem?_cons_zero, List.getElem?_cons_succ]; rfl) (by kernel_rfl) (Or.inl ⟨by rfl, ?_⟩) hS57 ?_
  rotate_left
  · (intro wq hSw; go_simp; all_goals with_reducible rfl)
  try simp only [Act.put, List.setIfInBounds_toArray, List.set_cons_zero, List.set_cons_succ]
  refine tk (i := 48) (v := ?_) (by simp only [List.getElem?_toArray, List.getElem?_cons_zero, List.getElem?_cons_succ]; rfl) (by kernel_rfl) (Or.inl ⟨by rfl, ?_⟩) hS57 ?_
  rotate_left
  · (intro wq hSw; go_simp; all_goals with_reducible rfl)
  try simp only [Act.put, List.setIfInBounds_toArray, List.set_cons_zero, List.set_cons_succ]
  refine tk (i := 49) (v := ?_) (by simp only [List.getElem?_toArray, List.getElem?_cons_zero, List.getElem?_cons_succ]; rfl) (by kernel_rfl) (Or.inl ⟨by rfl, ?_⟩) hS57 ?_
  rotate_left
  · (intro wq hSw; have a0 := hSw.a0; have a1 := hSw.a1; have b0 := hSw.b0; have b1 := hSw.b1; have s0' := hSw.s0'; have s1' := hSw.s1'; have d0' := hSw.d0'; have d1' := hSw.d1'; have c0' := hSw.c0'; have c1' := hSw.c1'; have x0' := hSw.x0'; have x1' := hSw.x1'; go_simp; all_goals with_reducible rfl)
  try simp only [Act.put, List.setIfInBounds_toArray, List.set_cons_zero, List.set_cons_succ]
  refine wpAnyH_ready (rs := [50]) (by kernel_rfl) (by simp) ?_
  refine AllReadyH.cons (by simp only [List.getElem?_toArray, List.getElem?_cons_zero, List.getElem?_cons_succ]; rfl) (fun K hK => ?_) AllReadyH.nil
  go_simp
  go_at_call 11
  refine (HIx1.out _ hS57).mono ?_
  rintro r w58 ⟨rfl, hS58⟩
  go_wp2_with fail
  refine hK.out _ _ hS58 (fun _ => ?_)
  clear hK K
  try simp only [Act.put, List.setIfInBounds_toArray, List.set_cons_zero, List.set_cons_succ]
  refine tk (i := 51) (v := .bool false) (by simp only [List.getElem?_toArray, List.getElem?_cons_zero, List.getElem?_cons_succ]; rfl) (by kernel_rfl) (Or.inl ⟨by rfl, ?_⟩) hS58 ?_
  · (intro wq hSw; go_simp; all_goals with_reducible rfl)
  try simp only [Act.put, List.setIfInBounds_toArray, List.set_cons_zero, List.set_cons_succ]
  refine tk (i := 52) (v := .bool false) (by simp only [List.getElem?_toArray, List.getElem?_cons_zero, List.getElem?_cons_succ]; rfl) (by kernel_rfl) (Or.inl ⟨by rfl, ?_⟩) hS58 ?_
  · (intro wq hSw; go_simp; all_goals with_reducible rfl)
  try simp only [Act.put, List.setIfInBounds_toArray, List.set_cons_zero, List.set_cons_succ]
  refine wpAnyH_done (by kernel_rfl) ?_ _
  refine NoPanic.normal ?_
  have HS5 := Lib.hid hS58
  go_upto_region 7 with fail
  clear HS8 HAba HIs0 HIs1 HId0 HId1 HIc0 HIc1 HIx0 HIx1
  go_cut [125] (fun u wx => u = .bool false ∧ BndS Ba Bb Bs Bd Bc Bx ax ay bx by' s0 s1 d0 d1 c0 c1 x0 x1 w8 wx)
  case first =>
    by_cases hk0 : 0 ≤ k
    · have hkr : 0 ≤ k ∧ k ≤ 9223372036854775807 := ⟨hk0, HI64.out.2.2.2.2.1.2⟩
      have hkg : k ≥ 0 := hk0
      clear hk0
      by_cases g1 : -k ≤ ax ∧ ax ≤ k
      · have h1 := decide_eq_true g1
        by_cases g2 : -k ≤ ay ∧ ay ≤ k
        · have h2 := decide_eq_true g2
          by_cases g3 : -1099511627776 ≤ ax ∧ ax ≤ 1099511627776
          · have h3 := decide_eq_true g3
            by_cases g4 : -1099511627776 ≤ ay ∧ ay ≤ 1099511627776
            · have h4 := decide_eq_true g4
              have ex : c0 = ax := by
                rw [← HF.out.2.2.2.2.1]
                exact FixM.keep_id (by unfold FixM.capM; repeat' split
                                       all_goals omega)
              have ey : c1 = ay := by
                rw [← HF.out.2.2.2.2.2]
                exact FixM.keep_id (by unfold FixM.capM; repeat' split
                                       all_goals omega)
              have EX := Lib.hid ex; have EY := Lib.hid ey
              clear g1 g2 g3 g4 ex ey
              by_cases hk0 : k = 0
              · have hle : k ≤ 0 := by omega
                have z0 : c0 = 0 := by rw [← HF.out.2.2.2.2.1, hk0]; exact FixM.keep_zero _
                have z1 : c1 = 0 := by rw [← HF.out.2.2.2.2.2, hk0]; exact FixM.keep_zero _
                have Z0 := Lib.hid z0; have Z1 := Lib.hid z1
                clear hk0 z0 z1
                as_aux_lemma =>
                refine wp_region_noPanic ?_
                refine wp_region_held_drew (S := (BndS Ba Bb Bs Bd Bc Bx ax ay bx by' s0 s1 d0 d1 c0 c1 x0 x1 w8)) (by kernel_rfl) HS5.out.drew (fun hHeld => ?_)
                clear hHeld
                refine tk (i := 0) (v := _) (by simp only [List.getElem?_toArray, List.getElem?_cons_zero]; rfl) (by kernel_rfl) (yieldsIf_load_mid (by rfl) 25 (.tmp 11) rfl Bc 0 rfl [.int .i64 c0, .int .i64 c1] _ (fun _ h => h.c) Tryd.underlying25 rfl sizeVec) HS5.out.drew ?_
                try simp only [Act.put, List.setIfInBounds_toArray, List.set_cons_zero, List.set_cons_succ]
                refine tk (i := 1) (v := ?_) (by simp only [List.getElem?_toArray, List.getElem?_cons_zero, List.getElem?_cons_succ]; rfl) (by kernel_rfl) (Or.inl ⟨by rfl, ?_⟩) HS5.out.drew ?_
                rotate_left
                · (intro wq hSw; go_simp; all_goals with_reducible rfl)
                try simp only [Act.put, List.setIfInBounds_toArray, List.set_cons_zero, List.set_cons_succ]
                refine tk (i := 3) (v := _) (by simp only [List.getElem?_toArray, List.getElem?_cons_zero, List.getElem?_cons_succ]; rfl) (by kernel_rfl) (yieldsIf_load_mid (by rfl) 25 (.tmp 11) rfl Bc 0 rfl [.int .i64 c0, .int .i64 c1] _ (fun _ h => h.c) Tryd.underlying25 rfl sizeVec) HS5.out.drew ?_
                try simp only [Act.put, List.setIfInBounds_toArray, List.set_cons_zero, List.set_cons_succ]
                refine wpAnyH_ready (rs := [2]) (by kernel_rfl) (by simp) ?_
                refine AllReadyH.cons (by simp only [List.getElem?_toArray, List.getElem?_cons_zero, List.getElem?_cons_succ]; rfl) (fun K hK => ?_) AllReadyH.nil
                go_simp
                go_at_call 25
                refine (HCc.out _ HS5.out.drew).mono ?_
                rintro r w7a50 ⟨rfl, hS7a50⟩
                go_wp2_with fail
                refine hK.out _ _ hS7a50 (fun _ => ?_)
                clear hK K
                try simp only [Act.put, List.setIfInBounds_toArray, List.set_cons_zero, List.set_cons_succ]
                refine tk (i := 4) (v := .bool false) (by simp only [List.getElem?_toArray, List.getElem?_cons_zero, List.getElem?_cons_succ]; rfl) (by kernel_rfl) (Or.inl ⟨by rfl, ?_⟩) hS7a50 ?_
                · (intro wq hSw; go_simp; all_goals with_reducible rfl)
                try simp only [Act.put, List.setIfInBounds_toArray, List.set_cons_zero, List.set_cons_succ]
                refine tk (i := 5) (v := ?_) (by simp only [List.getElem?_toArray, List.getElem?_cons_zero, List.getElem?_cons_succ]; rfl) (by kernel_rfl) (Or.inl ⟨by rfl, ?_⟩) hS7a50 ?_
                rotate_left
                · (intro wq hSw; go_simp; all_goals with_reducible rfl)
                try simp only [Act.put, List.setIfInBounds_toArray, List.set_cons_zero, List.set_cons_succ]
                refine tk (i := 6) (v := ?_) (by simp only [List.getElem?_toArray, List.getElem?_cons_zero, List.getElem?_cons_succ]; rfl) (by kernel_rfl) (Or.inl ⟨by rfl, ?_⟩) hS7a50 ?_
                rotate_left
                · (intro wq hSw; go_simp; all_goals with_reducible rfl)
                try simp only [Act.put, List.setIfInBounds_toArray, List.set_cons_zero, List.set_cons_succ]
                refine tk (i := 7) (v := .bool true) (by simp only [List.getElem?_toArray, List.getElem?_cons_zero, List.getElem?_cons_succ]; rfl) (by kernel_rfl) (Or.inl ⟨by rfl, ?_⟩) hS7a50 ?_
                · (intro wq hSw; go_simp; all_goals with_reducible rfl)
                try simp only [Act.put, List.setIfInBounds_toArray, List.set_cons_zero, List.set_cons_succ]
                refine tk (i := 8) (v := ?_) (by simp only [List.getElem?_toArray, List.getElem?_cons_zero, List.getElem?_cons_succ]; rfl) (by kernel_rfl) (Or.inl ⟨by rfl, ?_⟩) hS7a50 ?_
                rotate_left
                · (intro wq hSw; go_simp; all_goals with_reducible rfl)
                try simp only [Act.put, List.setIfInBounds_toArray, List.set_cons_zero, List.set_cons_succ]
                refine tk (i := 9) (v := ?_) (by simp only [List.getElem?_toArray, List.getElem?_cons_zero, List.getElem?_cons_succ]; rfl) (by kernel_rfl) (Or.inl ⟨by rfl, ?_⟩) hS7a50 ?_
                rotate_left
                · (intro wq hSw; go_simp; all_goals with_reducible rfl)
                try simp only [Act.put, List.setIfInBounds_toArray, List.set_cons_zero, List.set_cons_succ]
                refine tk (i := 10) (v := ?_) (by simp only [List.getElem?_toArray, List.getElem?_cons_zero, List.getElem?_cons_succ]; rfl) (by kernel_rfl) (Or.inl ⟨by rfl, ?_⟩) hS7a50 ?_
                rotate_left
                · (intro wq hSw; have a0 := hSw.a0; have a1 := hSw.a1; have b0 := hSw.b0; have b1 := hSw.b1; have s0' := hSw.s0'; have s1' := hSw.s1'; have d0' := hSw.d0'; have d1' := hSw.d1'; have c0' := hSw.c0'; have c1' := hSw.c1'; have x0' := hSw.x0'; have x1' := hSw.x1'; go_simp; all_goals with_reducible rfl)
                try simp only [Act.put, List.setIfInBounds_toArray, List.set_cons_zero, List.set_cons_succ]
                refine tk (i := 11) (v := ?_) (by simp only [List.getElem?_toArray, List.getElem?_cons_zero, List.getElem?_cons_succ]; rfl) (by kernel_rfl) (Or.inl ⟨by rfl, ?_⟩) hS7a50 ?_
                rotate_left
                · (intro wq hSw; go_simp; all_goals with_reducible rfl)
                try simp only [Act.put, List.setIfInBounds_toArray, List.set_cons_zero, List.set_cons_succ]
                refine wpAnyH_ready (rs := [12]) (by kernel_rfl) (by simp) ?_
                refine AllReadyH.cons (by simp only [List.getElem?_toArray, List.getElem?_cons_zero, List.getElem?_cons_succ]; rfl) (fun K hK => ?_) AllReadyH.nil
                go_simp
                go_at_call 11
                refine ((HIN.out ax k true hkr h1) _ hS7a50).mono ?_
                rintro r w7a51 ⟨rfl, hS7a51⟩
                go_wp2_with fail
                refine hK.out _ _ hS7a51 (fun _ => ?_)
                clear hK K
                try simp only [Act.put, List.setIfInBounds_toArray, List.set_cons_zero, List.set_cons_succ]
                refine tk (i := 13) (v := .bool true) (by simp only [List.getElem?_toArray, List.getElem?_cons_zero, List.getElem?_cons_succ]; rfl) (by kernel_rfl) (Or.inl ⟨by rfl, ?_⟩) hS7a51 ?_
                · (intro wq hSw; go_simp; all_goals with_reducible rfl)
                try simp only [Act.put, List.setIfInBounds_toArray, List.set_cons_zero, List.set_cons_succ]
                refine tk (i := 14) (v := ?_) (by simp only [List.getElem?_toArray, List.getElem?_cons_zero, List.getElem?_cons_succ]; rfl) (by kernel_rfl) (Or.inl ⟨by rfl, ?_⟩) hS7a51 ?_
                rotate_left
                · (intro wq hSw; go_simp; all_goals with_reducible rfl)
                try simp only [Act.put, List.setIfInBounds_toArray, List.set_cons_zero, List.set_cons_succ]
                refine tk (i := 15) (v := ?_) (by simp only [List.getElem?_toArray, List.getElem?_cons_zero, List.getElem?_cons_succ]; rfl) (by kernel_rfl) (Or.inl ⟨by rfl, ?_⟩) hS7a51 ?_
                rotate_left
                · (intro wq hSw; go_simp; all_goals with_reducible rfl)
                try simp only [Act.put, List.setIfInBounds_toArray, List.set_cons_zero, List.set_cons_succ]
                refine tk (i := 16) (v := ?_) (by simp only [List.getElem?_toArray, List.getElem?_cons_zero, List.getElem?_cons_succ]; rfl) (by kernel_rfl) (Or.inl ⟨by rfl, ?_⟩) hS7a51 ?_
                rotate_left
                · (intro wq hSw; have a0 := hSw.a0; have a1 := hSw.a1; have b0 := hSw.b0; have b1 := hSw.b1; have s0' := hSw.s0'; have s1' := hSw.s1'; have d0' := hSw.d0'; have d1' := hSw.d1'; have c0' := hSw.c0'; have c1' := hSw.c1'; have x0' := hSw.x0'; have x1' := hSw.x1'; go_simp; all_goals with_reducible rfl)
                try simp only [Act.put, List.setIfInBounds_toArray, List.set_cons_zero, List.set_cons_succ]
                refine tk (i := 17) (v := ?_) (by simp only [List.getElem?_toArray, List.getElem?_cons_zero, List.getElem?_cons_succ]; rfl) (by kernel_rfl) (Or.inl ⟨by rfl, ?_⟩) hS7a51 ?_
                rotate_left
                · (intro wq hSw; go_simp; all_goals with_reducible rfl)
                try simp only [Act.put, List.setIfInBounds_toArray, List.set_cons_zero, List.set_cons_succ]
                refine wpAnyH_ready (rs := [18]) (by kernel_rfl) (by simp) ?_
                refine AllReadyH.cons (by simp only [List.getElem?_toArray, List.getElem?_cons_zero, List.getElem?_cons_succ]; rfl) (fun K hK => ?_) AllReadyH.nil
                go_simp
                go_at_call 11
                refine ((HIN.out ay k true hkr h2) _ hS7a51).mono ?_
                rintro r w7a52 ⟨rfl, hS7a52⟩
                go_wp2_with fail
                refine hK.out _ _ hS7a52 (fun _ => ?_)
                clear hK K
                try simp only [Act.put, List.setIfInBounds_toArray, List.set_cons_zero, List.set_cons_succ]
                refine tk (i := 19) (v := .bool true) (by simp only [List.getElem?_toArray, List.getElem?_cons_zero, List.getElem?_cons_succ]; rfl) (by kernel_rfl) (Or.inl ⟨by rfl, ?_⟩) hS7a52 ?_
                · (intro wq hSw; go_simp; all_goals with_reducible rfl)
                try simp only [Act.put, List.setIfInBounds_toArray, List.set_cons_zero, List.set_cons_succ]
                refine tk (i := 20) (v := ?_) (by simp only [List.getElem?_toArray, List.getElem?_cons_zero, List.getElem?_cons_succ]; rfl) (by kernel_rfl) (Or.inl ⟨by rfl, ?_⟩) hS7a52 ?_
                rotate_left
                · (intro wq hSw; go_simp; all_goals with_reducible rfl)
                try simp only [Act.put, List.setIfInBounds_toArray, List.set_cons_zero, List.set_cons_succ]
                refine tk (i := 21) (v := ?_) (by simp only [List.getElem?_toArray, List.getElem?_cons_zero, List.getElem?_cons_succ]; rfl) (by kernel_rfl) (Or.inl ⟨by rfl, ?_⟩) hS7a52 ?_
                rotate_left
                · (intro wq hSw; go_simp; all_goals with_reducible rfl)
                try simp only [Act.put, List.setIfInBounds_toArray, List.set_cons_zero, List.set_cons_succ]
                refine tk (i := 22) (v := ?_) (by simp only [List.getElem?_toArray, List.getElem?_cons_zero, List.getElem?_cons_succ]; rfl) (by kernel_rfl) (Or.inl ⟨by rfl, ?_⟩) hS7a52 ?_
                rotate_left
                · (intro wq hSw; have a0 := hSw.a0; have a1 := hSw.a1; have b0 := hSw.b0; have b1 := hSw.b1; have s0' := hSw.s0'; have s1' := hSw.s1'; have d0' := hSw.d0'; have d1' := hSw.d1'; have c0' := hSw.c0'; have c1' := hSw.c1'; have x0' := hSw.x0'; have x1' := hSw.x1'; go_simp; all_goals with_reducible rfl)
                try simp only [Act.put, List.setIfInBounds_toArray, List.set_cons_zero, List.set_cons_succ]
                refine wpAnyH_ready (rs := [23]) (by kernel_rfl) (by simp) ?_
                refine AllReadyH.cons (by simp only [List.getElem?_toArray, List.getElem?_cons_zero, List.getElem?_cons_succ]; rfl) (fun K hK => ?_) AllReadyH.nil
                go_simp
                go_at_call 11
                refine ((HIN.out ax 1099511627776 true (by decide) h3) _ hS7a52).mono ?_
                rintro r w7a53 ⟨rfl, hS7a53⟩
                go_wp2_with fail
                refine hK.out _ _ hS7a53 (fun _ => ?_)
                clear hK K
                try simp only [Act.put, List.setIfInBounds_toArray, List.set_cons_zero, List.set_cons_succ]
                refine tk (i := 24) (v := .bool true) (by simp only [List.getElem?_toArray, List.getElem?_cons_zero, List.getElem?_cons_succ]; rfl) (by kernel_rfl) (Or.inl ⟨by rfl, ?_⟩) hS7a53 ?_
                · (intro wq hSw; go_simp; all_goals with_reducible rfl)
                try simp only [Act.put, List.setIfInBounds_toArray, List.set_cons_zero, List.set_cons_succ]
                refine tk (i := 25) (v := ?_) (by simp only [List.getElem?_toArray, List.getElem?_cons_zero, List.getElem?_cons_succ]; rfl) (by kernel_rfl) (Or.inl ⟨by rfl, ?_⟩) hS7a53 ?_
                rotate_left
                · (intro wq hSw; go_simp; all_goals with_reducible rfl)
                try simp only [Act.put, List.setIfInBounds_toArray, List.set_cons_zero, List.set_cons_succ]
                refine tk (i := 26) (v := ?_) (by simp only [List.getElem?_toArray, List.getElem?_cons_zero, List.getElem?_cons_succ]; rfl) (by kernel_rfl) (Or.inl ⟨by rfl, ?_⟩) hS7a53 ?_
                rotate_left
                · (intro wq hSw; go_simp; all_goals with_reducible rfl)
                try simp only [Act.put, List.setIfInBounds_toArray, List.set_cons_zero, List.set_cons_succ]
                refine tk (i := 27) (v := ?_) (by simp only [List.getElem?_toArray, List.getElem?_cons_zero, List.getElem?_cons_succ]; rfl) (by kernel_rfl) (Or.inl ⟨by rfl, ?_⟩) hS7a53 ?_
                rotate_left
                · (intro wq hSw; have a0 := hSw.a0; have a1 := hSw.a1; have b0 := hSw.b0; have b1 := hSw.b1; have s0' := hSw.s0'; have s1' := hSw.s1'; have d0' := hSw.d0'; have d1' := hSw.d1'; have c0' := hSw.c0'; have c1' := hSw.c1'; have x0' := hSw.x0'; have x1' := hSw.x1'; go_simp; all_goals with_reducible rfl)
                try simp only [Act.put, List.setIfInBounds_toArray, List.set_cons_zero, List.set_cons_succ]
                refine wpAnyH_ready (rs := [28]) (by kernel_rfl) (by simp) ?_
                refine AllReadyH.cons (by simp only [List.getElem?_toArray, List.getElem?_cons_zero, List.getElem?_cons_succ]; rfl) (fun K hK => ?_) AllReadyH.nil
                go_simp
                go_at_call 11
                refine ((HIN.out ay 1099511627776 true (by decide) h4) _ hS7a53).mono ?_
                rintro r w7a54 ⟨rfl, hS7a54⟩
                go_wp2_with fail
                refine hK.out _ _ hS7a54 (fun _ => ?_)
                clear hK K
                try simp only [Act.put, List.setIfInBounds_toArray, List.set_cons_zero, List.set_cons_succ]
                refine tk (i := 29) (v := .bool true) (by simp only [List.getElem?_toArray, List.getElem?_cons_zero, List.getElem?_cons_succ]; rfl) (by kernel_rfl) (Or.inl ⟨by rfl, ?_⟩) hS7a54 ?_
                · (intro wq hSw; go_simp; all_goals with_reducible rfl)
                try simp only [Act.put, List.setIfInBounds_toArray, List.set_cons_zero, List.set_cons_succ]
                refine tk (i := 30) (v := ?_) (by simp only [List.getElem?_toArray, List.getElem?_cons_zero, List.getElem?_cons_succ]; rfl) (by kernel_rfl) (Or.inl ⟨by rfl, ?_⟩) hS7a54 ?_
                rotate_left
                · (intro wq hSw; go_simp; all_goals with_reducible rfl)
                try simp only [Act.put, List.setIfInBounds_toArray, List.set_cons_zero, List.set_cons_succ]
                refine tk (i := 31) (v := _) (by simp only [List.getElem?_toArray, List.getElem?_cons_zero, List.getElem?_cons_succ]; rfl) (by kernel_rfl) (yieldsIf_load_mid (by rfl) 25 (.tmp 11) rfl Bc 0 rfl [.int .i64 c0, .int .i64 c1] _ (fun _ h => h.c) Tryd.underlying25 rfl sizeVec) hS7a54 ?_
                try simp only [Act.put, List.setIfInBounds_toArray, List.set_cons_zero, List.set_cons_succ]
                refine tk (i := 32) (v := _) (by simp only [List.getElem?_toArray, List.getElem?_cons_zero, List.getElem?_cons_succ]; rfl) (by kernel_rfl) (yieldsIf_load_mid (by rfl) 25 (.tmp 4) rfl Ba 0 rfl [.int .i64 ax, .int .i64 ay] _ (fun _ h => h.a) Tryd.underlying25 rfl sizeVec) hS7a54 ?_
                try simp only [Act.put, List.setIfInBounds_toArray, List.set_cons_zero, List.set_cons_succ]
                refine tk (i := 33) (v := .bool false) (by simp only [List.getElem?_toArray, List.getElem?_cons_zero, List.getElem?_cons_succ]; rfl) (by kernel_rfl) (Or.inl ⟨by rfl, ?_⟩) hS7a54 ?_
                · (intro wq hSw; have ex := EX.out; have ey := EY.out; go_simp; all_goals with_reducible rfl)
                try simp only [Act.put, List.setIfInBounds_toArray, List.set_cons_zero, List.set_cons_succ]
                refine tk (i := 34) (v := .bool false) (by simp only [List.getElem?_toArray, List.getElem?_cons_zero, List.getElem?_cons_succ]; rfl) (by kernel_rfl) (Or.inl ⟨by rfl, ?_⟩) hS7a54 ?_
                · (intro wq hSw; go_simp; all_goals with_reducible rfl)
                try simp only [Act.put, List.setIfInBounds_toArray, List.set_cons_zero, List.set_cons_succ]
                refine tk (i := 35) (v := .bool false) (by simp only [List.getElem?_toArray, List.getElem?_cons_zero, List.getElem?_cons_succ]; rfl) (by kernel_rfl) (Or.inl ⟨by rfl, ?_⟩) hS7a54 ?_
                · (intro wq hSw; go_simp; all_goals with_reducible rfl)
                try simp only [Act.put, List.setIfInBounds_toArray, List.set_cons_zero, List.set_cons_succ]
                refine tk (i := 36) (v := ?_) (by simp only [List.getElem?_toArray, List.getElem?_cons_zero, List.getElem?_cons_succ]; rfl) (by kernel_rfl) (Or.inl ⟨by rfl, ?_⟩) hS7a54 ?_
                rotate_left
                · (intro wq hSw; go_simp; all_goals with_reducible rfl)
                try simp only [Act.put, List.setIfInBounds_toArray, List.set_cons_zero, List.set_cons_succ]
                refine tk (i := 37) (v := ?_) (by simp only [List.getElem?_toArray, List.getElem?_cons_zero, List.getElem?_cons_succ]; rfl) (by kernel_rfl) (Or.inl ⟨by rfl, ?_⟩) hS7a54 ?_
                rotate_left
                · (intro wq hSw; go_simp; all_goals with_reducible rfl)
                try simp only [Act.put, List.setIfInBounds_toArray, List.set_cons_zero, List.set_cons_succ]
                refine tk (i := 38) (v := .bool true) (by simp only [List.getElem?_toArray, List.getElem?_cons_zero, List.getElem?_cons_succ]; rfl) (by kernel_rfl) (Or.inl ⟨by rfl, ?_⟩) hS7a54 ?_
                · (intro wq hSw; go_simp; all_goals with_reducible rfl)
                try simp only [Act.put, List.setIfInBounds_toArray, List.set_cons_zero, List.set_cons_succ]
                refine tk (i := 39) (v := ?_) (by simp only [List.getElem?_toArray, List.getElem?_cons_zero, List.getElem?_cons_succ]; rfl) (by kernel_rfl) (Or.inl ⟨by rfl, ?_⟩) hS7a54 ?_
                rotate_left
                · (intro wq hSw; go_simp; all_goals with_reducible rfl)
                try simp only [Act.put, List.setIfInBounds_toArray, List.set_cons_zero, List.set_cons_succ]
                refine tk (i := 40) (v := _) (by simp only [List.getElem?_toArray, List.getElem?_cons_zero, List.getElem?_cons_succ]; rfl) (by kernel_rfl) (yieldsIf_load_mid (by rfl) 25 (.tmp 11) rfl Bc 0 rfl [.int .i64 c0, .int .i64 c1] _ (fun _ h => h.c) Tryd.underlying25 rfl sizeVec) hS7a54 ?_
                try simp only [Act.put, List.setIfInBounds_toArray, List.set_cons_zero, List.set_cons_succ]
                refine tk (i := 41) (v := ?_) (by simp only [List.getElem?_toArray, List.getElem?_cons_zero, List.getElem?_cons_succ]; rfl) (by kernel_rfl) (Or.inl ⟨by rfl, ?_⟩) hS7a54 ?_
                rotate_left
                · (intro wq hSw; go_simp; all_goals with_reducible rfl)
                try simp only [Act.put, List.setIfInBounds_toArray, List.set_cons_zero, List.set_cons_succ]
                refine tk (i := 42) (v := .bool false) (by simp only [List.getElem?_toArray, List.getElem?_cons_zero, List.getElem?_cons_succ]; rfl) (by kernel_rfl) (Or.inl ⟨by rfl, ?_⟩) hS7a54 ?_
                · (intro wq hSw; have z0 := Z0.out; have z1 := Z1.out; go_simp; all_goals with_reducible rfl)
                try simp only [Act.put, List.setIfInBounds_toArray, List.set_cons_zero, List.set_cons_succ]
                refine tk (i := 43) (v := .bool false) (by simp only [List.getElem?_toArray, List.getElem?_cons_zero, List.getElem?_cons_succ]; rfl) (by kernel_rfl) (Or.inl ⟨by rfl, ?_⟩) hS7a54 ?_
                · (intro wq hSw; go_simp; all_goals with_reducible rfl)
                try simp only [Act.put, List.setIfInBounds_toArray, List.set_cons_zero, List.set_cons_succ]
                refine tk (i := 44) (v := .bool false) (by simp only [List.getElem?_toArray, List.getElem?_cons_zero, List.getElem?_cons_succ]; rfl) (by kernel_rfl) (Or.inl ⟨by rfl, ?_⟩) hS7a54 ?_
                · (intro wq hSw; go_simp; all_goals with_reducible rfl)
                try simp only [Act.put, List.setIfInBounds_toArray, List.set_cons_zero, List.set_cons_succ]
                refine wpAnyH_done (by kernel_rfl) ?_ _
                refine NoPanic.normal ?_
                go_wp2_with fail
                go_meet
                case rel => exact ⟨rfl, hS7a54⟩
              · have hle : ¬ k ≤ 0 := by omega
                clear hk0
                as_aux_lemma =>
                refine wp_region_noPanic ?_
                refine wp_region_held_drew (S := (BndS Ba Bb Bs Bd Bc Bx ax ay bx by' s0 s1 d0 d1 c0 c1 x0 x1 w8)) (by kernel_rfl) HS5.out.drew (fun hHeld => ?_)
                clear hHeld
                refine tk (i := 0) (v := _) (by simp only [List.getElem?_toArray, List.getElem?_cons_zero]; rfl) (by kernel_rfl) (yieldsIf_load_mid (by rfl) 25 (.tmp 11) rfl Bc 0 rfl [.int .i64 c0, .int .i64 c1] _ (fun _ h => h.c) Tryd.underlying25 rfl sizeVec) HS5.out.drew ?_
                try simp only [Act.put, List.setIfInBounds_toArray, List.set_cons_zero, List.set_cons_succ]
                refine tk (i := 1) (v := ?_) (by simp only [List.getElem?_toArray, List.getElem?_cons_zero, List.getElem?_cons_succ]; rfl) (by kernel_rfl) (Or.inl ⟨by rfl, ?_⟩) HS5.out.drew ?_
                rotate_left
                · (intro wq hSw; go_simp; all_goals with_reducible rfl)
                try simp only [Act.put, List.setIfInBounds_toArray, List.set_cons_zero, List.set_cons_succ]
                refine tk (i := 3) (v := _) (by simp only [List.getElem?_toArray, List.getElem?_cons_zero, List.getElem?_cons_succ]; rfl) (by kernel_rfl) (yieldsIf_load_mid (by rfl) 25 (.tmp 11) rfl Bc 0 rfl [.int .i64 c0, .int .i64 c1] _ (fun _ h => h.c) Tryd.underlying25 rfl sizeVec) HS5.out.drew ?_
                try simp only [Act.put, List.setIfInBounds_toArray, List.set_cons_zero, List.set_cons_succ]
                refine wpAnyH_ready (rs := [2]) (by kernel_rfl) (by simp) ?_
                refine AllReadyH.cons (by simp only [List.getElem?_toArray, List.getElem?_cons_zero, List.getElem?_cons_succ]; rfl) (fun K hK => ?_) AllReadyH.nil
                go_simp
                go_at_call 25
                refine (HCc.out _ HS5.out.drew).mono ?_
                rintro r w7b50 ⟨rfl, hS7b50⟩
                go_wp2_with fail
                refine hK.out _ _ hS7b50 (fun _ => ?_)
                clear hK K
                try simp only [Act.put, List.setIfInBounds_toArray, List.set_cons_zero, List.set_cons_succ]
                refine tk (i := 4) (v := .bool false) (by simp only [List.getElem?_toArray, List.getElem?_cons_zero, List.getElem?_cons_succ]; rfl) (by kernel_rfl) (Or.inl ⟨by rfl, ?_⟩) hS7b50 ?_
                · (intro wq hSw; go_simp; all_goals with_reducible rfl)
                try simp only [Act.put, List.setIfInBounds_toArray, List.set_cons_zero, List.set_cons_succ]
                refine tk (i := 5) (v := ?_) (by simp only [List.getElem?_toArray, List.getElem?_cons_zero, List.getElem?_cons_succ]; rfl) (by kernel_rfl) (Or.inl ⟨by rfl, ?_⟩) hS7b50 ?_
                rotate_left
                · (intro wq hSw; go_simp; all_goals with_reducible rfl)
                try simp only [Act.put, List.setIfInBounds_toArray, List.set_cons_zero, List.set_cons_succ]
                refine tk (i := 6) (v := ?_) (by simp only [List.getElem?_toArray, List.getElem?_cons_zero, List.getElem?_cons_succ]; rfl) (by kernel_rfl) (Or.inl ⟨by rfl, ?_⟩) hS7b50 ?_
                rotate_left
                · (intro wq hSw; go_simp; all_goals with_reducible rfl)
                try simp only [Act.put, List.setIfInBounds_toArray, List.set_cons_zero, List.set_cons_succ]
                refine tk (i := 7) (v := .bool true) (by simp only [List.getElem?_toArray, List.getElem?_cons_zero, List.getElem?_cons_succ]; rfl) (by kernel_rfl) (Or.inl ⟨by rfl, ?_⟩) hS7b50 ?_
                · (intro wq hSw; go_simp; all_goals with_reducible rfl)
                try simp only [Act.put, List.setIfInBounds_toArray, List.set_cons_zero, List.set_cons_succ]
                refine tk (i := 8) (v := ?_) (by simp only [List.getElem?_toArray, List.getElem?_cons_zero, List.getElem?_cons_succ]; rfl) (by kernel_rfl) (Or.inl ⟨by rfl, ?_⟩) hS7b50 ?_
                rotate_left
                · (intro wq hSw; go_simp; all_goals with_reducible rfl)
                try simp only [Act.put, List.setIfInBounds_toArray, List.set_cons_zero, List.set_cons_succ]
                refine tk (i := 9) (v := ?_) (by simp only [List.getElem?_toArray, List.getElem?_cons_zero, List.getElem?_cons_succ]; rfl) (by kernel_rfl) (Or.inl ⟨by rfl, ?_⟩) hS7b50 ?_
                rotate_left
                · (intro wq hSw; go_simp; all_goals with_reducible rfl)
                try simp only [Act.put, List.setIfInBounds_toArray, List.set_cons_zero, List.set_cons_succ]
                refine tk (i := 10) (v := ?_) (by simp only [List.getElem?_toArray, List.getElem?_cons_zero, List.getElem?_cons_succ]; rfl) (by kernel_rfl) (Or.inl ⟨by rfl, ?_⟩) hS7b50 ?_
                rotate_left
                · (intro wq hSw; have a0 := hSw.a0; have a1 := hSw.a1; have b0 := hSw.b0; have b1 := hSw.b1; have s0' := hSw.s0'; have s1' := hSw.s1'; have d0' := hSw.d0'; have d1' := hSw.d1'; have c0' := hSw.c0'; have c1' := hSw.c1'; have x0' := hSw.x0'; have x1' := hSw.x1'; go_simp; all_goals with_reducible rfl)
                try simp only [Act.put, List.setIfInBounds_toArray, List.set_cons_zero, List.set_cons_succ]
                refine tk (i := 11) (v := ?_) (by simp only [List.getElem?_toArray, List.getElem?_cons_zero, List.getElem?_cons_succ]; rfl) (by kernel_rfl) (Or.inl ⟨by rfl, ?_⟩) hS7b50 ?_
                rotate_left
                · (intro wq hSw; go_simp; all_goals with_reducible rfl)
                try simp only [Act.put, List.setIfInBounds_toArray, List.set_cons_zero, List.set_cons_succ]
                refine wpAnyH_ready (rs := [12]) (by kernel_rfl) (by simp) ?_
                refine AllReadyH.cons (by simp only [List.getElem?_toArray, List.getElem?_cons_zero, List.getElem?_cons_succ]; rfl) (fun K hK => ?_) AllReadyH.nil
                go_simp
                go_at_call 11
                refine ((HIN.out ax k true hkr h1) _ hS7b50).mono ?_
                rintro r w7b51 ⟨rfl, hS7b51⟩
                go_wp2_with fail
                refine hK.out _ _ hS7b51 (fun _ => ?_)
                clear hK K
                try simp only [Act.put, List.setIfInBounds_toArray, List.set_cons_zero, List.set_cons_succ]
                refine tk (i := 13) (v := .bool true) (by simp only [List.getElem?_toArray, List.getElem?_cons_zero, List.getElem?_cons_succ]; rfl) (by kernel_rfl) (Or.inl ⟨by rfl, ?_⟩) hS7b51 ?_
                · (intro wq hSw; go_simp; all_goals with_reducible rfl)
                try simp only [Act.put, List.setIfInBounds_toArray, List.set_cons_zero, List.set_cons_succ]
                refine tk (i := 14) (v := ?_) (by simp only [List.getElem?_toArray, List.getElem?_cons_zero, List.getElem?_cons_succ]; rfl) (by kernel_rfl) (Or.inl ⟨by rfl, ?_⟩) hS7b51 ?_
                rotate_left
                · (intro wq hSw; go_simp; all_goals with_reducible rfl)
                try simp only [Act.put, List.setIfInBounds_toArray, List.set_cons_zero, List.set_cons_succ]
                refine tk (i := 15) (v := ?_) (by simp only [List.getElem?_toArray, List.getElem?_cons_zero, List.getElem?_cons_succ]; rfl) (by kernel_rfl) (Or.inl ⟨by rfl, ?_⟩) hS7b51 ?_
                rotate_left
                · (intro wq hSw; go_simp; all_goals with_reducible rfl)
                try simp only [Act.put, List.setIfInBounds_toArray, List.set_cons_zero, List.set_cons_succ]
                refine tk (i := 16) (v := ?_) (by simp only [List.getElem?_toArray, List.getElem?_cons_zero, List.getElem?_cons_succ]; rfl) (by kernel_rfl) (Or.inl ⟨by rfl, ?_⟩) hS7b51 ?_
                rotate_left
                · (intro wq hSw; have a0 := hSw.a0; have a1 := hSw.a1; have b0 := hSw.b0; have b1 := hSw.b1; have s0' := hSw.s0'; have s1' := hSw.s1'; have d0' := hSw.d0'; have d1' := hSw.d1'; have c0' := hSw.c0'; have c1' := hSw.c1'; have x0' := hSw.x0'; have x1' := hSw.x1'; go_simp; all_goals with_reducible rfl)
                try simp only [Act.put, List.setIfInBounds_toArray, List.set_cons_zero, List.set_cons_succ]
                refine tk (i := 17) (v := ?_) (by simp only [List.getElem?_toArray, List.getElem?_cons_zero, List.getElem?_cons_succ]; rfl) (by kernel_rfl) (Or.inl ⟨by rfl, ?_⟩) hS7b51 ?_
                rotate_left
                · (intro wq hSw; go_simp; all_goals with_reducible rfl)
                try simp only [Act.put, List.setIfInBounds_toArray, List.set_cons_zero, List.set_cons_succ]
                refine wpAnyH_ready (rs := [18]) (by kernel_rfl) (by simp) ?_
                refine AllReadyH.cons (by simp only [List.getElem?_toArray, List.getElem?_cons_zero, List.getElem?_cons_succ]; rfl) (fun K hK => ?_) AllReadyH.nil
                go_simp
                go_at_call 11
                refine ((HIN.out ay k true hkr h2) _ hS7b51).mono ?_
                rintro r w7b52 ⟨rfl, hS7b52⟩
                go_wp2_with fail
                refine hK.out _ _ hS7b52 (fun _ => ?_)
                clear hK K
                try simp only [Act.put, List.setIfInBounds_toArray, List.set_cons_zero, List.set_cons_succ]
                refine tk (i := 19) (v := .bool true) (by simp only [List.getElem?_toArray, List.getElem?_cons_zero, List.getElem?_cons_succ]; rfl) (by kernel_rfl) (Or.inl ⟨by rfl, ?_⟩) hS7b52 ?_
                · (intro wq hSw; go_simp; all_goals with_reducible rfl)
                try simp only [Act.put, List.setIfInBounds_toArray, List.set_cons_zero, List.set_cons_succ]
                refine tk (i := 20) (v := ?_) (by simp only [List.getElem?_toArray, List.getElem?_cons_zero, List.getElem?_cons_succ]; rfl) (by kernel_rfl) (Or.inl ⟨by rfl, ?_⟩) hS7b52 ?_
                rotate_left
                · (intro wq hSw; go_simp; all_goals with_reducible rfl)
                try simp only [Act.put, List.setIfInBounds_toArray, List.set_cons_zero, List.set_cons_succ]
                refine tk (i := 21) (v := ?_) (by simp only [List.getElem?_toArray, List.getElem?_cons_zero, List.getElem?_cons_succ]; rfl) (by kernel_rfl) (Or.inl ⟨by rfl, ?_⟩) hS7b52 ?_
                rotate_left
                · (intro wq hSw; go_simp; all_goals with_reducible rfl)
                try simp only [Act.put, List.setIfInBounds_toArray, List.set_cons_zero, List.set_cons_succ]
                refine tk (i := 22) (v := ?_) (by simp only [List.getElem?_toArray, List.getElem?_cons_zero, List.getElem?_cons_succ]; rfl) (by kernel_rfl) (Or.inl ⟨by rfl, ?_⟩) hS7b52 ?_
                rotate_left
                · (intro wq hSw; have a0 := hSw.a0; have a1 := hSw.a1; have b0 := hSw.b0; have b1 := hSw.b1; have s0' := hSw.s0'; have s1' := hSw.s1'; have d0' := hSw.d0'; have d1' := hSw.d1'; have c0' := hSw.c0'; have c1' := hSw.c1'; have x0' := hSw.x0'; have x1' := hSw.x1'; go_simp; all_goals with_reducible rfl)
                try simp only [Act.put, List.setIfInBounds_toArray, List.set_cons_zero, List.set_cons_succ]
                refine wpAnyH_ready (rs := [23]) (by kernel_rfl) (by simp) ?_
                refine AllReadyH.cons (by simp only [List.getElem?_toArray, List.getElem?_cons_zero, List.getElem?_cons_succ]; rfl) (fun K hK => ?_) AllReadyH.nil
                go_simp
                go_at_call 11
                refine ((HIN.out ax 1099511627776 true (by decide) h3) _ hS7b52).mono ?_
                rintro r w7b53 ⟨rfl, hS7b53⟩
                go_wp2_with fail
                refine hK.out _ _ hS7b53 (fun _ => ?_)
                clear hK K
                try simp only [Act.put, List.setIfInBounds_toArray, List.set_cons_zero, List.set_cons_succ]
                refine tk (i := 24) (v := .bool true) (by simp only [List.getElem?_toArray, List.getElem?_cons_zero, List.getElem?_cons_succ]; rfl) (by kernel_rfl) (Or.inl ⟨by rfl, ?_⟩) hS7b53 ?_
                · (intro wq hSw; go_simp; all_goals with_reducible rfl)
                try simp only [Act.put, List.setIfInBounds_toArray, List.set_cons_zero, List.set_cons_succ]
                refine tk (i := 25) (v := ?_) (by simp only [List.getElem?_toArray, List.getElem?_cons_zero, List.getElem?_cons_succ]; rfl) (by kernel_rfl) (Or.inl ⟨by rfl, ?_⟩) hS7b53 ?_
                rotate_left
                · (intro wq hSw; go_simp; all_goals with_reducible rfl)
                try simp only [Act.put, List.setIfInBounds_toArray, List.set_cons_zero, List.set_cons_succ]
                refine tk (i := 26) (v := ?_) (by simp only [List.getElem?_toArray, List.getElem?_cons_zero, List.getElem?_cons_succ]; rfl) (by kernel_rfl) (Or.inl ⟨by rfl, ?_⟩) hS7b53 ?_
                rotate_left
                · (intro wq hSw; go_simp; all_goals with_reducible rfl)
                try simp only [Act.put, List.setIfInBounds_toArray, List.set_cons_zero, List.set_cons_succ]
                refine tk (i := 27) (v := ?_) (by simp only [List.getElem?_toArray, List.getElem?_cons_zero, List.getElem?_cons_succ]; rfl) (by kernel_rfl) (Or.inl ⟨by rfl, ?_⟩) hS7b53 ?_
                rotate_left
                · (intro wq hSw; have a0 := hSw.a0; have a1 := hSw.a1; have b0 := hSw.b0; have b1 := hSw.b1; have s0' := hSw.s0'; have s1' := hSw.s1'; have d0' := hSw.d0'; have d1' := hSw.d1'; have c0' := hSw.c0'; have c1' := hSw.c1'; have x0' := hSw.x0'; have x1' := hSw.x1'; go_simp; all_goals with_reducible rfl)
                try simp only [Act.put, List.setIfInBounds_toArray, List.set_cons_zero, List.set_cons_succ]
                refine wpAnyH_ready (rs := [28]) (by kernel_rfl) (by simp) ?_
                refine AllReadyH.cons (by simp only [List.getElem?_toArray, List.getElem?_cons_zero, List.getElem?_cons_succ]; rfl) (fun K hK => ?_) AllReadyH.nil
                go_simp
                go_at_call 11
                refine ((HIN.out ay 1099511627776 true (by decide) h4) _ hS7b53).mono ?_
                rintro r w7b54 ⟨rfl, hS7b54⟩
                go_wp2_with fail
                refine hK.out _ _ hS7b54 (fun _ => ?_)
                clear hK K
                try simp only [Act.put, List.setIfInBounds_toArray, List.set_cons_zero, List.set_cons_succ]
                refine tk (i := 29) (v := .bool true) (by simp only [List.getElem?_toArray, List.getElem?_cons_zero, List.getElem?_cons_succ]; rfl) (by kernel_rfl) (Or.inl ⟨by rfl, ?_⟩) hS7b54 ?_
                · (intro wq hSw; go_simp; all_goals with_reducible rfl)
                try simp only [Act.put, List.setIfInBounds_toArray, List.set_cons_zero, List.set_cons_succ]
                refine tk (i := 30) (v := ?_) (by simp only [List.getElem?_toArray, List.getElem?_cons_zero, List.getElem?_cons_succ]; rfl) (by kernel_rfl) (Or.inl ⟨by rfl, ?_⟩) hS7b54 ?_
                rotate_left
                · (intro wq hSw; go_simp; all_goals with_reducible rfl)
                try simp only [Act.put, List.setIfInBounds_toArray, List.set_cons_zero, List.set_cons_succ]
                refine tk (i := 31) (v := _) (by simp only [List.getElem?_toArray, List.getElem?_cons_zero, List.getElem?_cons_succ]; rfl) (by kernel_rfl) (yieldsIf_load_mid (by rfl) 25 (.tmp 11) rfl Bc 0 rfl [.int .i64 c0, .int .i64 c1] _ (fun _ h => h.c) Tryd.underlying25 rfl sizeVec) hS7b54 ?_
                try simp only [Act.put, List.setIfInBounds_toArray, List.set_cons_zero, List.set_cons_succ]
                refine tk (i := 32) (v := _) (by simp only [List.getElem?_toArray, List.getElem?_cons_zero, List.getElem?_cons_succ]; rfl) (by kernel_rfl) (yieldsIf_load_mid (by rfl) 25 (.tmp 4) rfl Ba 0 rfl [.int .i64 ax, .int .i64 ay] _ (fun _ h => h.a) Tryd.underlying25 rfl sizeVec) hS7b54 ?_
                try simp only [Act.put, List.setIfInBounds_toArray, List.set_cons_zero, List.set_cons_succ]
                refine tk (i := 33) (v := .bool false) (by simp only [List.getElem?_toArray, List.getElem?_cons_zero, List.getElem?_cons_succ]; rfl) (by kernel_rfl) (Or.inl ⟨by rfl, ?_⟩) hS7b54 ?_
                · (intro wq hSw; have ex := EX.out; have ey := EY.out; go_simp; all_goals with_reducible rfl)
                try simp only [Act.put, List.setIfInBounds_toArray, List.set_cons_zero, List.set_cons_succ]
                refine tk (i := 34) (v := .bool false) (by simp only [List.getElem?_toArray, List.getElem?_cons_zero, List.getElem?_cons_succ]; rfl) (by kernel_rfl) (Or.inl ⟨by rfl, ?_⟩) hS7b54 ?_
                · (intro wq hSw; go_simp; all_goals with_reducible rfl)
                try simp only [Act.put, List.setIfInBounds_toArray, List.set_cons_zero, List.set_cons_succ]
                refine tk (i := 35) (v := .bool false) (by simp only [List.getElem?_toArray, List.getElem?_cons_zero, List.getElem?_cons_succ]; rfl) (by kernel_rfl) (Or.inl ⟨by rfl, ?_⟩) hS7b54 ?_
                · (intro wq hSw; go_simp; all_goals with_reducible rfl)
                try simp only [Act.put, List.setIfInBounds_toArray, List.set_cons_zero, List.set_cons_succ]
                refine tk (i := 36) (v := ?_) (by simp only [List.getElem?_toArray, List.getElem?_cons_zero, List.getElem?_cons_succ]; rfl) (by kernel_rfl) (Or.inl ⟨by rfl, ?_⟩) hS7b54 ?_
                rotate_left
                · (intro wq hSw; go_simp; all_goals with_reducible rfl)
                try simp only [Act.put, List.setIfInBounds_toArray, List.set_cons_zero, List.set_cons_succ]
                refine tk (i := 37) (v := ?_) (by simp only [List.getElem?_toArray, List.getElem?_cons_zero, List.getElem?_cons_succ]; rfl) (by kernel_rfl) (Or.inl ⟨by rfl, ?_⟩) hS7b54 ?_
                rotate_left
                · (intro wq hSw; go_simp; all_goals with_reducible rfl)
                try simp only [Act.put, List.setIfInBounds_toArray, List.set_cons_zero, List.set_cons_succ]
                refine tk (i := 38) (v := .bool false) (by simp only [List.getElem?_toArray, List.getElem?_cons_zero, List.getElem?_cons_succ]; rfl) (by kernel_rfl) (Or.inl ⟨by rfl, ?_⟩) hS7b54 ?_
                · (intro wq hSw; go_simp; all_goals with_reducible rfl)
                try simp only [Act.put, List.setIfInBounds_toArray, List.set_cons_zero, List.set_cons_succ]
                refine tk (i := 39) (v := ?_) (by simp only [List.getElem?_toArray, List.getElem?_cons_zero, List.getElem?_cons_succ]; rfl) (by kernel_rfl) (Or.inl ⟨by rfl, ?_⟩) hS7b54 ?_
                rotate_left
                · (intro wq hSw; go_simp; all_goals with_reducible rfl)
                try simp only [Act.put, List.setIfInBounds_toArray, List.set_cons_zero, List.set_cons_succ]
                refine tk (i := 40) (by simp only [List.getElem?_toArray, List.getElem?_cons_zero, List.getElem?_cons_succ]; rfl) (by kernel_rfl) (Or.inr ⟨by rfl, rfl⟩) hS7b54 ?_
                refine tk (i := 41) (by simp only [List.getElem?_toArray, List.getElem?_cons_zero, List.getElem?_cons_succ]; rfl) (by kernel_rfl) (Or.inr ⟨by rfl, rfl⟩) hS7b54 ?_
                refine tk (i := 42) (by simp only [List.getElem?_toArray, List.getElem?_cons_zero, List.getElem?_cons_succ]; rfl) (by kernel_rfl) (Or.inr ⟨by rfl, rfl⟩) hS7b54 ?_
                try simp only [Act.put, List.setIfInBounds_toArray, List.set_cons_zero, List.set_cons_succ]
                refine tk (i := 43) (v := .bool false) (by simp only [List.getElem?_toArray, List.getElem?_cons_zero, List.getElem?_cons_succ]; rfl) (by kernel_rfl) (Or.inl ⟨by rfl, ?_⟩) hS7b54 ?_
                · (intro wq hSw; go_simp; all_goals with_reducible rfl)
                try simp only [Act.put, List.setIfInBounds_toArray, List.set_cons_zero, List.set_cons_succ]
                refine tk (i := 44) (v := .bool false) (by simp only [List.getElem?_toArray, List.getElem?_cons_zero, List.getElem?_cons_succ]; rfl) (by kernel_rfl) (Or.inl ⟨by rfl, ?_⟩) hS7b54 ?_
                · (intro wq hSw; go_simp; all_goals with_reducible rfl)
                try simp only [Act.put, List.setIfInBounds_toArray, List.set_cons_zero, List.set_cons_succ]
                refine wpAnyH_done (by kernel_rfl) ?_ _
                refine NoPanic.normal ?_
                go_wp2_with fail
                go_meet
                case rel => exact ⟨rfl, hS7b54⟩
            · have h4 := decide_eq_false g4
              clear g4
              by_cases hk0 : k = 0
              · have hle : k ≤ 0 := by omega
                have z0 : c0 = 0 := by rw [← HF.out.2.2.2.2.1, hk0]; exact FixM.keep_zero _
                have z1 : c1 = 0 := by rw [← HF.out.2.2.2.2.2, hk0]; exact FixM.keep_zero _
                have Z0 := Lib.hid z0; have Z1 := Lib.hid z1
                clear hk0 z0 z1
                as_aux_lemma =>
                refine wp_region_noPanic ?_
                refine wp_region_held_drew (S := (BndS Ba Bb Bs Bd Bc Bx ax ay bx by' s0 s1 d0 d1 c0 c1 x0 x1 w8)) (by kernel_rfl) HS5.out.drew (fun hHeld => ?_)
                clear hHeld
                refine tk (i := 0) (v := _) (by simp only [List.getElem?_toArray, List.getElem?_cons_zero]; rfl) (by kernel_rfl) (yieldsIf_load_mid (by rfl) 25 (.tmp 11) rfl Bc 0 rfl [.int .i64 c0, .int .i64 c1] _ (fun _ h => h.c) Tryd.underlying25 rfl sizeVec) HS5.out.drew ?_
                try simp only [Act.put, List.setIfInBounds_toArray, List.set_cons_zero, List.set_cons_succ]
                refine tk (i := 1) (v := ?_) (by simp only [List.getElem?_toArray, List.getElem?_cons_zero, List.getElem?_cons_succ]; rfl) (by kernel_rfl) (Or.inl ⟨by rfl, ?_⟩) HS5.out.drew ?_
                rotate_left
                · (intro wq hSw; go_simp; all_goals with_reducible rfl)
                try simp only [Act.put, List.setIfInBounds_toArray, List.set_cons_zero, List.set_cons_succ]
                refine tk (i := 3) (v := _) (by simp only [List.getElem?_toArray, List.getElem?_cons_zero, List.getElem?_cons_succ]; rfl) (by kernel_rfl) (yieldsIf_load_mid (by rfl) 25 (.tmp 11) rfl Bc 0 rfl [.int .i64 c0, .int .i64 c1] _ (fun _ h => h.c) Tryd.underlying25 rfl sizeVec) HS5.out.drew ?_
                try simp only [Act.put, List.setIfInBounds_toArray, List.set_cons_zero, List.set_cons_succ]
                refine wpAnyH_ready (rs := [2]) (by kernel_rfl) (by simp) ?_
                refine AllReadyH.cons (by simp only [List.getElem?_toArray, List.getElem?_cons_zero, List.getElem?_cons_succ]; rfl) (fun K hK => ?_) AllReadyH.nil
                go_simp
                go_at_call 25
                refine (HCc.out _ HS5.out.drew).mono ?_
                rintro r w7a40 ⟨rfl, hS7a40⟩
                go_wp2_with fail
                refine hK.out _ _ hS7a40 (fun _ => ?_)
                clear hK K
                try simp only [Act.put, List.setIfInBounds_toArray, List.set_cons_zero, List.set_cons_succ]
                refine tk (i := 4) (v := .bool false) (by simp only [List.getElem?_toArray, List.getElem?_cons_zero, List.getElem?_cons_succ]; rfl) (by kernel_rfl) (Or.inl ⟨by rfl, ?_⟩) hS7a40 ?_
                · (intro wq hSw; go_simp; all_goals with_reducible rfl)
                try simp only [Act.put, List.setIfInBounds_toArray, List.set_cons_zero, List.set_cons_succ]
                refine tk (i := 5) (v := ?_) (by simp only [List.getElem?_toArray, List.getElem?_cons_zero, List.getElem?_cons_succ]; rfl) (by kernel_rfl) (Or.inl ⟨by rfl, ?_⟩) hS7a40 ?_
                rotate_left
                · (intro wq hSw; go_simp; all_goals with_reducible rfl)
                try simp only [Act.put, List.setIfInBounds_toArray, List.set_cons_zero, List.set_cons_succ]
                refine tk (i := 6) (v := ?_) (by simp only [List.getElem?_toArray, List.getElem?_cons_zero, List.getElem?_cons_succ]; rfl) (by kernel_rfl) (Or.inl ⟨by rfl, ?_⟩) hS7a40 ?_
                rotate_left
                · (intro wq hSw; go_simp; all_goals with_reducible rfl)
                try simp only [Act.put, List.setIfInBounds_toArray, List.set_cons_zero, List.set_cons_succ]
                refine tk (i := 7) (v := .bool true) (by simp only [List.getElem?_toArray, List.getElem?_cons_zero, List.getElem?_cons_succ]; rfl) (by kernel_rfl) (Or.inl ⟨by rfl, ?_⟩) hS7a40 ?_
                · (intro wq hSw; go_simp; all_goals with_reducible rfl)
                try simp only [Act.put, List.setIfInBounds_toArray, List.set_cons_zero, List.set_cons_succ]
                refine tk (i := 8) (v := ?_) (by simp only [List.getElem?_toArray, List.getElem?_cons_zero, List.getElem?_cons_succ]; rfl) (by kernel_rfl) (Or.inl ⟨by rfl, ?_⟩) hS7a40 ?_
                rotate_left
                · (intro wq hSw; go_simp; all_goals with_reducible rfl)
                try simp only [Act.put, List.setIfInBounds_toArray, List.set_cons_zero, List.set_cons_succ]
                refine tk (i := 9) (v := ?_) (by simp only [List.getElem?_toArray, List.getElem?_cons_zero, List.getElem?_cons_succ]; rfl) (by kernel_rfl) (Or.inl ⟨by rfl, ?_⟩) hS7a40 ?_
                rotate_left
                · (intro wq hSw; go_simp; all_goals with_reducible rfl)
                try simp only [Act.put, List.setIfInBounds_toArray, List.set_cons_zero, List.set_cons_succ]
                refine tk (i := 10) (v := ?_) (by simp only [List.getElem?_toArray, List.getElem?_cons_zero, List.getElem?_cons_succ]; rfl) (by kernel_rfl) (Or.inl ⟨by rfl, ?_⟩) hS7a40 ?_
                rotate_left
                · (intro wq hSw; have a0 := hSw.a0; have a1 := hSw.a1; have b0 := hSw.b0; have b1 := hSw.b1; have s0' := hSw.s0'; have s1' := hSw.s1'; have d0' := hSw.d0'; have d1' := hSw.d1'; have c0' := hSw.c0'; have c1' := hSw.c1'; have x0' := hSw.x0'; have x1' := hSw.x1'; go_simp; all_goals with_reducible rfl)
                try simp only [Act.put, List.setIfInBounds_toArray, List.set_cons_zero, List.set_cons_succ]
                refine tk (i := 11) (v := ?_) (by simp only [List.getElem?_toArray, List.getElem?_cons_zero, List.getElem?_cons_succ]; rfl) (by kernel_rfl) (Or.inl ⟨by rfl, ?_⟩) hS7a40 ?_
                rotate_left
                · (intro wq hSw; go_simp; all_goals with_reducible rfl)
                try simp only [Act.put, List.setIfInBounds_toArray, List.set_cons_zero, List.set_cons_succ]
                refine wpAnyH_ready (rs := [12]) (by kernel_rfl) (by simp) ?_
                refine AllReadyH.cons (by simp only [List.getElem?_toArray, List.getElem?_cons_zero, List.getElem?_cons_succ]; rfl) (fun K hK => ?_) AllReadyH.nil
                go_simp
                go_at_call 11
                refine ((HIN.out ax k true hkr h1) _ hS7a40).mono ?_
                rintro r w7a41 ⟨rfl, hS7a41⟩
                go_wp2_with fail
                refine hK.out _ _ hS7a41 (fun _ => ?_)
                clear hK K
                try simp only [Act.put, List.setIfInBounds_toArray, List.set_cons_zero, List.set_cons_succ]
                refine tk (i := 13) (v := .bool true) (by simp only [List.getElem?_toArray, List.getElem?_cons_zero, List.getElem?_cons_succ]; rfl) (by kernel_rfl) (Or.inl ⟨by rfl, ?_⟩) hS7a41 ?_
                · (intro wq hSw; go_simp; all_goals with_reducible rfl)
                try simp only [Act.put, List.setIfInBounds_toArray, List.set_cons_zero, List.set_cons_succ]
                refine tk (i := 14) (v := ?_) (by simp only [List.getElem?_toArray, List.getElem?_cons_zero, List.getElem?_cons_succ]; rfl) (by kernel_rfl) (Or.inl ⟨by rfl, ?_⟩) hS7a41 ?_
                rotate_left
                · (intro wq hSw; go_simp; all_goals with_reducible rfl)
                try simp only [Act.put, List.setIfInBounds_toArray, List.set_cons_zero, List.set_cons_succ]
                refine tk (i := 15) (v := ?_) (by simp only [List.getElem?_toArray, List.getElem?_cons_zero, List.getElem?_cons_succ]; rfl) (by kernel_rfl) (Or.inl ⟨by rfl, ?_⟩) hS7a41 ?_
                rotate_left
                · (intro wq hSw; go_simp; all_goals with_reducible rfl)
                try simp only [Act.put, List.setIfInBounds_toArray, List.set_cons_zero, List.set_cons_succ]
                refine tk (i := 16) (v := ?_) (by simp only [List.getElem?_toArray, List.getElem?_cons_zero, List.getElem?_cons_succ]; rfl) (by kernel_rfl) (Or.inl ⟨by rfl, ?_⟩) hS7a41 ?_
                rotate_left
                · (intro wq hSw; have a0 := hSw.a0; have a1 := hSw.a1; have b0 := hSw.b0; have b1 := hSw.b1; have s0' := hSw.s0'; have s1' := hSw.s1'; have d0' := hSw.d0'; have d1' := hSw.d1'; have c0' := hSw.c0'; have c1' := hSw.c1'; have x0' := hSw.x0'; have x1' := hSw.x1'; go_simp; all_goals with_reducible rfl)
                try simp only [Act.put, List.setIfInBounds_toArray, List.set_cons_zero, List.set_cons_succ]
                refine tk (i := 17) (v := ?_) (by simp only [List.getElem?_toArray, List.getElem?_cons_zero, List.getElem?_cons_succ]; rfl) (by kernel_rfl) (Or.inl ⟨by rfl, ?_⟩) hS7a41 ?_
                rotate_left
                · (intro wq hSw; go_simp; all_goals with_reducible rfl)
                try simp only [Act.put, List.setIfInBounds_toArray, List.set_cons_zero, List.set_cons_succ]
                refine wpAnyH_ready (rs := [18]) (by kernel_rfl) (by simp) ?_
                refine AllReadyH.cons (by simp only [List.getElem?_toArray, List.getElem?_cons_zero, List.getElem?_cons_succ]; rfl) (fun K hK => ?_) AllReadyH.nil
                go_simp
                go_at_call 11
                refine ((HIN.out ay k true hkr h2) _ hS7a41).mono ?_
                rintro r w7a42 ⟨rfl, hS7a42⟩
                go_wp2_with fail
                refine hK.out _ _ hS7a42 (fun _ => ?_)
                clear hK K
                try simp only [Act.put, List.setIfInBounds_toArray, List.set_cons_zero, List.set_cons_succ]
                refine tk (i := 19) (v := .bool true) (by simp only [List.getElem?_toArray, List.getElem?_cons_zero, List.getElem?_cons_succ]; rfl) (by kernel_rfl) (Or.inl ⟨by rfl, ?_⟩) hS7a42 ?_
                · (intro wq hSw; go_simp; all_goals with_reducible rfl)
                try simp only [Act.put, List.setIfInBounds_toArray, List.set_cons_zero, List.set_cons_succ]
                refine tk (i := 20) (v := ?_) (by simp only [List.getElem?_toArray, List.getElem?_cons_zero, List.getElem?_cons_succ]; rfl) (by kernel_rfl) (Or.inl ⟨by rfl, ?_⟩) hS7a42 ?_
                rotate_left
                · (intro wq hSw; go_simp; all_goals with_reducible rfl)
                try simp only [Act.put, List.setIfInBounds_toArray, List.set_cons_zero, List.set_cons_succ]
                refine tk (i := 21) (v := ?_) (by simp only [List.getElem?_toArray, List.getElem?_cons_zero, List.getElem?_cons_succ]; rfl) (by kernel_rfl) (Or.inl ⟨by rfl, ?_⟩) hS7a42 ?_
                rotate_left
                · (intro wq hSw; go_simp; all_goals with_reducible rfl)
                try simp only [Act.put, List.setIfInBounds_toArray, List.set_cons_zero, List.set_cons_succ]
                refine tk (i := 22) (v := ?_) (by simp only [List.getElem?_toArray, List.getElem?_cons_zero, List.getElem?_cons_succ]; rfl) (by kernel_rfl) (Or.inl ⟨by rfl, ?_⟩) hS7a42 ?_
                rotate_left
                · (intro wq hSw; have a0 := hSw.a0; have a1 := hSw.a1; have b0 := hSw.b0; have b1 := hSw.b1; have s0' := hSw.s0'; have s1' := hSw.s1'; have d0' := hSw.d0'; have d1' := hSw.d1'; have c0' := hSw.c0'; have c1' := hSw.c1'; have x0' := hSw.x0'; have x1' := hSw.x1'; go_simp; all_goals with_reducible rfl)
                try simp only [Act.put, List.setIfInBounds_toArray, List.set_cons_zero, List.set_cons_succ]
                refine wpAnyH_ready (rs := [23]) (by kernel_rfl) (by simp) ?_
                refine AllReadyH.cons (by simp only [List.getElem?_toArray, List.getElem?_cons_zero, List.getElem?_cons_succ]; rfl) (fun K hK => ?_) AllReadyH.nil
                go_simp
                go_at_call 11
                refine ((HIN.out ax 1099511627776 true (by decide) h3) _ hS7a42).mono ?_
                rintro r w7a43 ⟨rfl, hS7a43⟩
                go_wp2_with fail
                refine hK.out _ _ hS7a43 (fun _ => ?_)
                clear hK K
                try simp only [Act.put, List.setIfInBounds_toArray, List.set_cons_zero, List.set_cons_succ]
                refine tk (i := 24) (v := .bool true) (by simp only [List.getElem?_toArray, List.getElem?_cons_zero, List.getElem?_cons_succ]; rfl) (by kernel_rfl) (Or.inl ⟨by rfl, ?_⟩) hS7a43 ?_
                · (intro wq hSw; go_simp; all_goals with_reducible rfl)
                try simp only [Act.put, List.setIfInBounds_toArray, List.set_cons_zero, List.set_cons_succ]
                refine tk (i := 25) (v := ?_) (by simp only [List.getElem?_toArray, List.getElem?_cons_zero, List.getElem?_cons_succ]; rfl) (by kernel_rfl) (Or.inl ⟨by rfl, ?_⟩) hS7a43 ?_
                rotate_left
                · (intro wq hSw; go_simp; all_goals with_reducible rfl)
                try simp only [Act.put, List.setIfInBounds_toArray, List.set_cons_zero, List.set_cons_succ]
                refine tk (i := 26) (v := ?_) (by simp only [List.getElem?_toArray, List.getElem?_cons_zero, List.getElem?_cons_succ]; rfl) (by kernel_rfl) (Or.inl ⟨by rfl, ?_⟩) hS7a43 ?_
                rotate_left
                · (intro wq hSw; go_simp; all_goals with_reducible rfl)
                try simp only [Act.put, List.setIfInBounds_toArray, List.set_cons_zero, List.set_cons_succ]
                refine tk (i := 27) (v := ?_) (by simp only [List.getElem?_toArray, List.getElem?_cons_zero, List.getElem?_cons_succ]; rfl) (by kernel_rfl) (Or.inl ⟨by rfl, ?_⟩) hS7a43 ?_
                rotate_left
                · (intro wq hSw; have a0 := hSw.a0; have a1 := hSw.a1; have b0 := hSw.b0; have b1 := hSw.b1; have s0' := hSw.s0'; have s1' := hSw.s1'; have d0' := hSw.d0'; have d1' := hSw.d1'; have c0' := hSw.c0'; have c1' := hSw.c1'; have x0' := hSw.x0'; have x1' := hSw.x1'; go_simp; all_goals with_reducible rfl)
                try simp only [Act.put, List.setIfInBounds_toArray, List.set_cons_zero, List.set_cons_succ]
                refine wpAnyH_ready (rs := [28]) (by kernel_rfl) (by simp) ?_
                refine AllReadyH.cons (by simp only [List.getElem?_toArray, List.getElem?_cons_zero, List.getElem?_cons_succ]; rfl) (fun K hK => ?_) AllReadyH.nil
                go_simp
                go_at_call 11
                refine ((HIN.out ay 1099511627776 false (by decide) h4) _ hS7a43).mono ?_
                rintro r w7a44 ⟨rfl, hS7a44⟩
                go_wp2_with fail
                refine hK.out _ _ hS7a44 (fun _ => ?_)
                clear hK K
                try simp only [Act.put, List.setIfInBounds_toArray, List.set_cons_zero, List.set_cons_succ]
                refine tk (i := 29) (v := .bool false) (by simp only [List.getElem?_toArray, List.getElem?_cons_zero, List.getElem?_cons_succ]; rfl) (by kernel_rfl) (Or.inl ⟨by rfl, ?_⟩) hS7a44 ?_
                · (intro wq hSw; go_simp; all_goals with_reducible rfl)
                try simp only [Act.put, List.setIfInBounds_toArray, List.set_cons_zero, List.set_cons_succ]
                refine tk (i := 30) (v := ?_) (by simp only [List.getElem?_toArray, List.getElem?_cons_zero, List.getElem?_cons_succ]; rfl) (by kernel_rfl) (Or.inl ⟨by rfl, ?_⟩) hS7a44 ?_
                rotate_left
                · (intro wq hSw; go_simp; all_goals with_reducible rfl)
                try simp only [Act.put, List.setIfInBounds_toArray, List.set_cons_zero, List.set_cons_succ]
                refine tk (i := 31) (by simp only [List.getElem?_toArray, List.getElem?_cons_zero, List.getElem?_cons_succ]; rfl) (by kernel_rfl) (Or.inr ⟨by rfl, rfl⟩) hS7a44 ?_
                refine tk (i := 32) (by simp only [List.getElem?_toArray, List.getElem?_cons_zero, List.getElem?_cons_succ]; rfl) (by kernel_rfl) (Or.inr ⟨by rfl, rfl⟩) hS7a44 ?_
                refine tk (i := 33) (by simp only [List.getElem?_toArray, List.getElem?_cons_zero, List.getElem?_cons_succ]; rfl) (by kernel_rfl) (Or.inr ⟨by rfl, rfl⟩) hS7a44 ?_
                try simp only [Act.put, List.setIfInBounds_toArray, List.set_cons_zero, List.set_cons_succ]
                refine tk (i := 34) (v := .bool false) (by simp only [List.getElem?_toArray, List.getElem?_cons_zero, List.getElem?_cons_succ]; rfl) (by kernel_rfl) (Or.inl ⟨by rfl, ?_⟩) hS7a44 ?_
                · (intro wq hSw; go_simp; all_goals with_reducible rfl)
                try simp only [Act.put, List.setIfInBounds_toArray, List.set_cons_zero, List.set_cons_succ]
                refine tk (i := 35) (v := .bool false) (by simp only [List.getElem?_toArray, List.getElem?_cons_zero, List.getElem?_cons_succ]; rfl) (by kernel_rfl) (Or.inl ⟨by rfl, ?_⟩) hS7a44 ?_
                · (intro wq hSw; go_simp; all_goals with_reducible rfl)
                try simp only [Act.put, List.setIfInBounds_toArray, List.set_cons_zero, List.set_cons_succ]
                refine tk (i := 36) (v := ?_) (by simp only [List.getElem?_toArray, List.getElem?_cons_zero, List.getElem?_cons_succ]; rfl) (by kernel_rfl) (Or.inl ⟨by rfl, ?_⟩) hS7a44 ?_
                rotate_left
                · (intro wq hSw; go_simp; all_goals with_reducible rfl)
                try simp only [Act.put, List.setIfInBounds_toArray, List.set_cons_zero, List.set_cons_succ]
                refine tk (i := 37) (v := ?_) (by simp only [List.getElem?_toArray, List.getElem?_cons_zero, List.getElem?_cons_succ]; rfl) (by kernel_rfl) (Or.inl ⟨by rfl, ?_⟩) hS7a44 ?_
                rotate_left
                · (intro wq hSw; go_simp; all_goals with_reducible rfl)
                try simp only [Act.put, List.setIfInBounds_toArray, List.set_cons_zero, List.set_cons_succ]
                refine tk (i := 38) (v := .bool true) (by simp only [List.getElem?_toArray, List.getElem?_cons_zero, List.getElem?_cons_succ]; rfl) (by kernel_rfl) (Or.inl ⟨by rfl, ?_⟩) hS7a44 ?_
                · (intro wq hSw; go_simp; all_goals with_reducible rfl)
                try simp only [Act.put, List.setIfInBounds_toArray, List.set_cons_zero, List.set_cons_succ]
                refine tk (i := 39) (v := ?_) (by simp only [List.getElem?_toArray, List.getElem?_cons_zero, List.getElem?_cons_succ]; rfl) (by kernel_rfl) (Or.inl ⟨by rfl, ?_⟩) hS7a44 ?_
                rotate_left
                · (intro wq hSw; go_simp; all_goals with_reducible rfl)
                try simp only [Act.put, List.setIfInBounds_toArray, List.set_cons_zero, List.set_cons_succ]
                refine tk (i := 40) (v := _) (by simp only [List.getElem?_toArray, List.getElem?_cons_zero, List.getElem?_cons_succ]; rfl) (by kernel_rfl) (yieldsIf_load_mid (by rfl) 25 (.tmp 11) rfl Bc 0 rfl [.int .i64 c0, .int .i64 c1] _ (fun _ h => h.c) Tryd.underlying25 rfl sizeVec) hS7a44 ?_
                try simp only [Act.put, List.setIfInBounds_toArray, List.set_cons_zero, List.set_cons_succ]
                refine tk (i := 41) (v := ?_) (by simp only [List.getElem?_toArray, List.getElem?_cons_zero, List.getElem?_cons_succ]; rfl) (by kernel_rfl) (Or.inl ⟨by rfl, ?_⟩) hS7a44 ?_
                rotate_left
                · (intro wq hSw; go_simp; all_goals with_reducible rfl)
                try simp only [Act.put, List.setIfInBounds_toArray, List.set_cons_zero, List.set_cons_succ]
                refine tk (i := 42) (v := .bool false) (by simp only [List.getElem?_toArray, List.getElem?_cons_zero, List.getElem?_cons_succ]; rfl) (by kernel_rfl) (Or.inl ⟨by rfl, ?_⟩) hS7a44 ?_
                · (intro wq hSw; have z0 := Z0.out; have z1 := Z1.out; go_simp; all_goals with_reducible rfl)
                try simp only [Act.put, List.setIfInBounds_toArray, List.set_cons_zero, List.set_cons_succ]
                refine tk (i := 43) (v := .bool false) (by simp only [List.getElem?_toArray, List.getElem?_cons_zero, List.getElem?_cons_succ]; rfl) (by kernel_rfl) (Or.inl ⟨by rfl, ?_⟩) hS7a44 ?_
                · (intro wq hSw; go_simp; all_goals with_reducible rfl)
                try simp only [Act.put, List.setIfInBounds_toArray, List.set_cons_zero, List.set_cons_succ]
                refine tk (i := 44) (v := .bool false) (by simp only [List.getElem?_toArray, List.getElem?_cons_zero, List.getElem?_cons_succ]; rfl) (by kernel_rfl) (Or.inl ⟨by rfl, ?_⟩) hS7a44 ?_
                · (intro wq hSw; go_simp; all_goals with_reducible rfl)
                try simp only [Act.put, List.setIfInBounds_toArray, List.set_cons_zero, List.set_cons_succ]
                refine wpAnyH_done (by kernel_rfl) ?_ _
                refine NoPanic.normal ?_
                go_wp2_with fail
                go_meet
                case rel => exact ⟨rfl, hS7a44⟩
              · have hle : ¬ k ≤ 0 := by omega
                clear hk0
                as_aux_lemma =>
                refine wp_region_noPanic ?_
                refine wp_region_held_drew (S := (BndS Ba Bb Bs Bd Bc Bx ax ay bx by' s0 s1 d0 d1 c0 c1 x0 x1 w8)) (by kernel_rfl) HS5.out.drew (fun hHeld => ?_)
                clear hHeld
                refine tk (i := 0) (v := _) (by simp only [List.getElem?_toArray, List.getElem?_cons_zero]; rfl) (by kernel_rfl) (yieldsIf_load_mid (by rfl) 25 (.tmp 11) rfl Bc 0 rfl [.int .i64 c0, .int .i64 c1] _ (fun _ h => h.c) Tryd.underlying25 rfl sizeVec) HS5.out.drew ?_
                try simp only [Act.put, List.setIfInBounds_toArray, List.set_cons_zero, List.set_cons_succ]
                refine tk (i := 1) (v := ?_) (by simp only [List.getElem?_toArray, List.getElem?_cons_zero, List.getElem?_cons_succ]; rfl) (by kernel_rfl) (Or.inl ⟨by rfl, ?_⟩) HS5.out.drew ?_
                rotate_left
                · (intro wq hSw; go_simp; all_goals with_reducible rfl)
                try simp only [Act.put, List.setIfInBounds_toArray, List.set_cons_zero, List.set_cons_succ]
                refine tk (i := 3) (v := _) (by simp only [List.getElem?_toArray, List.getElem?_cons_zero, List.getElem?_cons_succ]; rfl) (by kernel_rfl) (yieldsIf_load_mid (by rfl) 25 (.tmp 11) rfl Bc 0 rfl [.int .i64 c0, .int .i64 c1] _ (fun _ h => h.c) Tryd.underlying25 rfl sizeVec) HS5.out.drew ?_
                try simp only [Act.put, List.setIfInBounds_toArray, List.set_cons_zero, List.set_cons_succ]
                refine wpAnyH_ready (rs := [2]) (by kernel_rfl) (by simp) ?_
                refine AllReadyH.cons (by simp only [List.getElem?_toArray, List.getElem?_cons_zero, List.getElem?_cons_succ]; rfl) (fun K hK => ?_) AllReadyH.nil
                go_simp
                go_at_call 25
                refine (HCc.out _ HS5.out.drew).mono ?_
                rintro r w7b40 ⟨rfl, hS7b40⟩
                go_wp2_with fail
                refine hK.out _ _ hS7b40 (fun _ => ?_)
                clear hK K
                try simp only [Act.put, List.setIfInBounds_toArray, List.set_cons_zero, List.set_cons_succ]
                refine tk (i := 4) (v := .bool false) (by simp only [List.getElem?_toArray, List.getElem?_cons_zero, List.getElem?_cons_succ]; rfl) (by kernel_rfl) (Or.inl ⟨by rfl, ?_⟩) hS7b40 ?_
                · (intro wq hSw; go_simp; all_goals with_reducible rfl)
                try simp only [Act.put, List.setIfInBounds_toArray, List.set_cons_zero, List.set_cons_succ]
                refine tk (i := 5) (v := ?_) (by simp only [List.getElem?_toArray, List.getElem?_cons_zero, List.getElem?_cons_succ]; rfl) (by kernel_rfl) (Or.inl ⟨by rfl, ?_⟩) hS7b40 ?_
                rotate_left
                · (intro wq hSw; go_simp; all_goals with_reducible rfl)
                try simp only [Act.put, List.setIfInBounds_toArray, List.set_cons_zero, List.set_cons_succ]
                refine tk (i := 6) (v := ?_) (by simp only [List.getElem?_toArray, List.getElem?_cons_zero, List.getElem?_cons_succ]; rfl) (by kernel_rfl) (Or.inl ⟨by rfl, ?_⟩) hS7b40 ?_
                rotate_left
                · (intro wq hSw; go_simp; all_goals with_reducible rfl)
                try simp only [Act.put, List.setIfInBounds_toArray, List.set_cons_zero, List.set_cons_succ]
                refine tk (i := 7) (v := .bool true) (by simp only [List.getElem?_toArray, List.getElem?_cons_zero, List.getElem?_cons_succ]; rfl) (by kernel_rfl) (Or.inl ⟨by rfl, ?_⟩) hS7b40 ?_
                · (intro wq hSw; go_simp; all_goals with_reducible rfl)
                try simp only [Act.put, List.setIfInBounds_toArray, List.set_cons_zero, List.set_cons_succ]
                refine tk (i := 8) (v := ?_) (by simp only [List.getElem?_toArray, List.getElem?_cons_zero, List.getElem?_cons_succ]; rfl) (by kernel_rfl) (Or.inl ⟨by rfl, ?_⟩) hS7b40 ?_
                rotate_left
                · (intro wq hSw; go_simp; all_goals with_reducible rfl)
                try simp only [Act.put, List.setIfInBounds_toArray, List.set_cons_zero, List.set_cons_succ]
                refine tk (i := 9) (v := ?_) (by simp only [List.getElem?_toArray, List.getElem?_cons_zero, List.getElem?_cons_succ]; rfl) (by kernel_rfl) (Or.inl ⟨by rfl, ?_⟩) hS7b40 ?_
                rotate_left
                · (intro wq hSw; go_simp; all_goals with_reducible rfl)
                try simp only [Act.put, List.setIfInBounds_toArray, List.set_cons_zero, List.set_cons_succ]
                refine tk (i := 10) (v := ?_) (by simp only [List.getElem?_toArray, List.getElem?_cons_zero, List.getElem?_cons_succ]; rfl) (by kernel_rfl) (Or.inl ⟨by rfl, ?_⟩) hS7b40 ?_
                rotate_left
                · (intro wq hSw; have a0 := hSw.a0; have a1 := hSw.a1; have b0 := hSw.b0; have b1 := hSw.b1; have s0' := hSw.s0'; have s1' := hSw.s1'; have d0' := hSw.d0'; have d1' := hSw.d1'; have c0' := hSw.c0'; have c1' := hSw.c1'; have x0' := hSw.x0'; have x1' := hSw.x1'; go_simp; all_goals with_reducible rfl)
                try simp only [Act.put, List.setIfInBounds_toArray, List.set_cons_zero, List.set_cons_succ]
                refine tk (i := 11) (v := ?_) (by simp only [List.getElem?_toArray, List.getElem?_cons_zero, List.getElem?_cons_succ]; rfl) (by kernel_rfl) (Or.inl ⟨by rfl, ?_⟩) hS7b40 ?_
                rotate_left
                · (intro wq hSw; go_simp; all_goals with_reducible rfl)
                try simp only [Act.put, List.setIfInBounds_toArray, List.set_cons_zero, List.set_cons_succ]
                refine wpAnyH_ready (rs := [12]) (by kernel_rfl) (by simp) ?_
                refine AllReadyH.cons (by simp only [List.getElem?_toArray, List.getElem?_cons_zero, List.getElem?_cons_succ]; rfl) (fun K hK => ?_) AllReadyH.nil
                go_simp
                go_at_call 11
                refine ((HIN.out ax k true hkr h1) _ hS7b40).mono ?_
                rintro r w7b41 ⟨rfl, hS7b41⟩
                go_wp2_with fail
                refine hK.out _ _ hS7b41 (fun _ => ?_)
                clear hK K
                try simp only [Act.put, List.setIfInBounds_toArray, List.set_cons_zero, List.set_cons_succ]
                refine tk (i := 13) (v := .bool true) (by simp only [List.getElem?_toArray, List.getElem?_cons_zero, List.getElem?_cons_succ]; rfl) (by kernel_rfl) (Or.inl ⟨by rfl, ?_⟩) hS7b41 ?_
                · (intro wq hSw; go_simp; all_goals with_reducible rfl)
                try simp only [Act.put, List.setIfInBounds_toArray, List.set_cons_zero, List.set_cons_succ]
                refine tk (i := 14) (v := ?_) (by simp only [List.getElem?_toArray, List.getElem?_cons_zero, List.getElem?_cons_succ]; rfl) (by kernel_rfl) (Or.inl ⟨by rfl, ?_⟩) hS7b41 ?_
                rotate_left
                · (intro wq hSw; go_simp; all_goals with_reducible rfl)
                try simp only [Act.put, List.setIfInBounds_toArray, List.set_cons_zero, List.set_cons_succ]
                refine tk (i := 15) (v := ?_) (by simp only [List.getElem?_toArray, List.getElem?_cons_zero, List.getElem?_cons_succ]; rfl) (by kernel_rfl) (Or.inl ⟨by rfl, ?_⟩) hS7b41 ?_
                rotate_left
                · (intro wq hSw; go_simp; all_goals with_reducible rfl)
                try simp only [Act.put, List.setIfInBounds_toArray, List.set_cons_zero, List.set_cons_succ]
                refine tk (i := 16) (v := ?_) (by simp only [List.getElem?_toArray, List.getElem?_cons_zero, List.getElem?_cons_succ]; rfl) (by kernel_rfl) (Or.inl ⟨by rfl, ?_⟩) hS7b41 ?_
                rotate_left
                · (intro wq hSw; have a0 := hSw.a0; have a1 := hSw.a1; have b0 := hSw.b0; have b1 := hSw.b1; have s0' := hSw.s0'; have s1' := hSw.s1'; have d0' := hSw.d0'; have d1' := hSw.d1'; have c0' := hSw.c0'; have c1' := hSw.c1'; have x0' := hSw.x0'; have x1' := hSw.x1'; go_simp; all_goals with_reducible rfl)
                try simp only [Act.put, List.setIfInBounds_toArray, List.set_cons_zero, List.set_cons_succ]
                refine tk (i := 17) (v := ?_) (by simp only [List.getElem?_toArray, List.getElem?_cons_zero, List.getElem?_cons_succ]; rfl) (by kernel_rfl) (Or.inl ⟨by rfl, ?_⟩) hS7b41 ?_
                rotate_left
                · (intro wq hSw; go_simp; all_goals with_reducible rfl)
                try simp only [Act.put, List.setIfInBounds_toArray, List.set_cons_zero, List.set_cons_succ]
                refine wpAnyH_ready (rs := [18]) (by kernel_rfl) (by simp) ?_
                refine AllReadyH.cons (by simp only [List.getElem?_toArray, List.getElem?_cons_zero, List.getElem?_cons_succ]; rfl) (fun K hK => ?_) AllReadyH.nil
                go_simp
                go_at_call 11
                refine ((HIN.out ay k true hkr h2) _ hS7b41).mono ?_
                rintro r w7b42 ⟨rfl, hS7b42⟩
                go_wp2_with fail
                refine hK.out _ _ hS7b42 (fun _ => ?_)
                clear hK K
                try simp only [Act.put, List.setIfInBounds_toArray, List.set_cons_zero, List.set_cons_succ]
                refine tk (i := 19) (v := .bool true) (by simp only [List.getElem?_toArray, List.getElem?_cons_zero, List.getElem?_cons_succ]; rfl) (by kernel_rfl) (Or.inl ⟨by rfl, ?_⟩) hS7b42 ?_
                · (intro wq hSw; go_simp; all_goals with_reducible rfl)
                try simp only [Act.put, List.setIfInBounds_toArray, List.set_cons_zero, List.set_cons_succ]
                refine tk (i := 20) (v := ?_) (by simp only [List.getElem?_toArray, List.getElem?_cons_zero, List.getElem?_cons_succ]; rfl) (by kernel_rfl) (Or.inl ⟨by rfl, ?_⟩) hS7b42 ?_
                rotate_left
                · (intro wq hSw; go_simp; all_goals with_reducible rfl)
                try simp only [Act.put, List.setIfInBounds_toArray, List.set_cons_zero, List.set_cons_succ]
                refine tk (i := 21) (v := ?_) (by simp only [List.getElem?_toArray, List.getElem?_cons_zero, List.getElem?_cons_succ]; rfl) (by kernel_rfl) (Or.inl ⟨by rfl, ?_⟩) hS7b42 ?_
                rotate_left
                · (intro wq hSw; go_simp; all_goals with_reducible rfl)
                try simp only [Act.put, List.setIfInBounds_toArray, List.set_cons_zero, List.set_cons_succ]
                refine tk (i := 22) (v := ?_) (by simp only [List.getElem?_toArray, List.getElem?_cons_zero, List.getElem?_cons_succ]; rfl) (by kernel_rfl) (Or.inl ⟨by rfl, ?_⟩) hS7b42 ?_
                rotate_left
                · (intro wq hSw; have a0 := hSw.a0; have a1 := hSw.a1; have b0 := hSw.b0; have b1 := hSw.b1; have s0' := hSw.s0'; have s1' := hSw.s1'; have d0' := hSw.d0'; have d1' := hSw.d1'; have c0' := hSw.c0'; have c1' := hSw.c1'; have x0' := hSw.x0'; have x1' := hSw.x1'; go_simp; all_goals with_reducible rfl)
                try simp only [Act.put, List.setIfInBounds_toArray, List.set_cons_zero, List.set_cons_succ]
                refine wpAnyH_ready (rs := [23]) (by kernel_rfl) (by simp) ?_
                refine AllReadyH.cons (by simp only [List.getElem?_toArray, List.getElem?_cons_zero, List.getElem?_cons_succ]; rfl) (fun K hK => ?_) AllReadyH.nil
                go_simp
                go_at_call 11
                refine ((HIN.out ax 1099511627776 true (by decide) h3) _ hS7b42).mono ?_
                rintro r w7b43 ⟨rfl, hS7b43⟩
                go_wp2_with fail
                refine hK.out _ _ hS7b43 (fun _ => ?_)
                clear hK K
                try simp only [Act.put, List.setIfInBounds_toArray, List.set_cons_zero, List.set_cons_succ]
                refine tk (i := 24) (v := .bool true) (by simp only [List.getElem?_toArray, List.getElem?_cons_zero, List.getElem?_cons_succ]; rfl) (by kernel_rfl) (Or.inl ⟨by rfl, ?_⟩) hS7b43 ?_
                · (intro wq hSw; go_simp; all_goals with_reducible rfl)
                try simp only [Act.put, List.setIfInBounds_toArray, List.set_cons_zero, List.set_cons_succ]
                refine tk (i := 25) (v := ?_) (by simp only [List.getElem?_toArray, List.getElem?_cons_zero, List.getElem?_cons_succ]; rfl) (by kernel_rfl) (Or.inl ⟨by rfl, ?_⟩) hS7b43 ?_
                rotate_left
                · (intro wq hSw; go_simp; all_goals with_reducible rfl)
                try simp only [Act.put, List.setIfInBounds_toArray, List.set_cons_zero, List.set_cons_succ]
                refine tk (i := 26) (v := ?_) (by simp only [List.getElem?_toArray, List.getElem?_cons_zero, List.getElem?_cons_succ]; rfl) (by kernel_rfl) (Or.inl ⟨by rfl, ?_⟩) hS7b43 ?_
                rotate_left
                · (intro wq hSw; go_simp; all_goals with_reducible rfl)
                try simp only [Act.put, List.setIfInBounds_toArray, List.set_cons_zero, List.set_cons_succ]
                refine tk (i := 27) (v := ?_) (by simp only [List.getElem?_toArray, List.getElem?_cons_zero, List.getElem?_cons_succ]; rfl) (by kernel_rfl) (Or.inl ⟨by rfl, ?_⟩) hS7b43 ?_
                rotate_left
                · (intro wq hSw; have a0 := hSw.a0; have a1 := hSw.a1; have b0 := hSw.b0; have b1 := hSw.b1; have s0' := hSw.s0'; have s1' := hSw.s1'; have d0' := hSw.d0'; have d1' := hSw.d1'; have c0' := hSw.c0'; have c1' := hSw.c1'; have x0' := hSw.x0'; have x1' := hSw.x1'; go_simp; all_goals with_reducible rfl)
                try simp only [Act.put, List.setIfInBounds_toArray, List.set_cons_zero, List.set_cons_succ]
                refine wpAnyH_ready (rs := [28]) (by kernel_rfl) (by simp) ?_
                refine AllReadyH.cons (by simp only [List.getElem?_toArray, List.getElem?_cons_zero, List.getElem?_cons_succ]; rfl) (fun K hK => ?_) AllReadyH.nil
                go_simp
                go_at_call 11
                refine ((HIN.out ay 1099511627776 false (by decide) h4) _ hS7b43).mono ?_
                rintro r w7b44 ⟨rfl, hS7b44⟩
                go_wp2_with fail
                refine hK.out _ _ hS7b44 (fun _ => ?_)
                clear hK K
                try simp only [Act.put, List.setIfInBounds_toArray, List.set_cons_zero, List.set_cons_succ]
                refine tk (i := 29) (v := .bool false) (by simp only [List.getElem?_toArray, List.getElem?_cons_zero, List.getElem?_cons_succ]; rfl) (by kernel_rfl) (Or.inl ⟨by rfl, ?_⟩) hS7b44 ?_
                · (intro wq hSw; go_simp; all_goals with_reducible rfl)
                try simp only [Act.put, List.setIfInBounds_toArray, List.set_cons_zero, List.set_cons_succ]
                refine tk (i := 30) (v := ?_) (by simp only [List.getElem?_toArray, List.getElem?_cons_zero, List.getElem?_cons_succ]; rfl) (by kernel_rfl) (Or.inl ⟨by rfl, ?_⟩) hS7b44 ?_
                rotate_left
                · (intro wq hSw; go_simp; all_goals with_reducible rfl)
                try simp only [Act.put, List.setIfInBounds_toArray, List.set_cons_zero, List.set_cons_succ]
                refine tk (i := 31) (by simp only [List.getElem?_toArray, List.getElem?_cons_zero, List.getElem?_cons_succ]; rfl) (by kernel_rfl) (Or.inr ⟨by rfl, rfl⟩) hS7b44 ?_
                refine tk (i := 32) (by simp only [List.getElem?_toArray, List.getElem?_cons_zero, List.getElem?_cons_succ]; rfl) (by kernel_rfl) (Or.inr ⟨by rfl, rfl⟩) hS7b44 ?_
                refine tk (i := 33) (by simp only [List.getElem?_toArray, List.getElem?_cons_zero, List.getElem?_cons_succ]; rfl) (by kernel_rfl) (Or.inr ⟨by rfl, rfl⟩) hS7b44 ?_
                try simp only [Act.put, List.setIfInBounds_toArray, List.set_cons_zero, List.set_cons_succ]
                refine tk (i := 34) (v := .bool false) (by simp only [List.getElem?_toArray, List.getElem?_cons_zero, List.getElem?_cons_succ]; rfl) (by kernel_rfl) (Or.inl ⟨by rfl, ?_⟩) hS7b44 ?_
                · (intro wq hSw; go_simp; all_goals with_reducible rfl)
                try simp only [Act.put, List.setIfInBounds_toArray, List.set_cons_zero, List.set_cons_succ]
                refine tk (i := 35) (v := .bool false) (by simp only [List.getElem?_toArray, List.getElem?_cons_zero, List.getElem?_cons_succ]; rfl) (by kernel_rfl) (Or.inl ⟨by rfl, ?_⟩) hS7b44 ?_
                · (intro wq hSw; go_simp; all_goals with_reducible rfl)
                try simp only [Act.put, List.setIfInBounds_toArray, List.set_cons_zero, List.set_cons_succ]
                refine tk (i := 36) (v := ?_) (by simp only [List.getElem?_toArray, List.getElem?_cons_zero, List.getElem?_cons_succ]; rfl) (by kernel_rfl) (Or.inl ⟨by rfl, ?_⟩) hS7b44 ?_
                rotate_left
                · (intro wq hSw; go_simp; all_goals with_reducible rfl)
                try simp only [Act.put, List.setIfInBounds_toArray, List.set_cons_zero, List.set_cons_succ]
                refine tk (i := 37) (v := ?_) (by simp only [List.getElem?_toArray, List.getElem?_cons_zero, List.getElem?_cons_succ]; rfl) (by kernel_rfl) (Or.inl ⟨by rfl, ?_⟩) hS7b44 ?_
                rotate_left
                · (intro wq hSw; go_simp; all_goals with_reducible rfl)
                try simp only [Act.put, List.setIfInBounds_toArray, List.set_cons_zero, List.set_cons_succ]
                refine tk (i := 38) (v := .bool false) (by simp only [List.getElem?_toArray, List.getElem?_cons_zero, List.getElem?_cons_succ]; rfl) (by kernel_rfl) (Or.inl ⟨by rfl, ?_⟩) hS7b44 ?_
                · (intro wq hSw; go_simp; all_goals with_reducible rfl)
                try simp only [Act.put, List.setIfInBounds_toArray, List.set_cons_zero, List.set_cons_succ]
                refine tk (i := 39) (v := ?_) (by simp only [List.getElem?_toArray, List.getElem?_cons_zero, List.getElem?_cons_succ]; rfl) (by kernel_rfl) (Or.inl ⟨by rfl, ?_⟩) hS7b44 ?_
                rotate_left
                · (intro wq hSw; go_simp; all_goals with_reducible rfl)
                try simp only [Act.put, List.setIfInBounds_toArray, List.set_cons_zero, List.set_cons_succ]
                refine tk (i := 40) (by simp only [List.getElem?_toArray, List.getElem?_cons_zero, List.getElem?_cons_succ]; rfl) (by kernel_rfl) (Or.inr ⟨by rfl, rfl⟩) hS7b44 ?_
                refine tk (i := 41) (by simp only [List.getElem?_toArray, List.getElem?_cons_zero, List.getElem?_cons_succ]; rfl) (by kernel_rfl) (Or.inr ⟨by rfl, rfl⟩) hS7b44 ?_
                refine tk (i := 42) (by simp only [List.getElem?_toArray, List.getElem?_cons_zero, List.getElem?_cons_succ]; rfl) (by kernel_rfl) (Or.inr ⟨by rfl, rfl⟩) hS7b44 ?_
                try simp only [Act.put, List.setIfInBounds_toArray, List.set_cons_zero, List.set_cons_succ]
                refine tk (i := 43) (v := .bool false) (by simp only [List.getElem?_toArray, List.getElem?_cons_zero, List.getElem?_cons_succ]; rfl) (by kernel_rfl) (Or.inl ⟨by rfl, ?_⟩) hS7b44 ?_
                · (intro wq hSw; go_simp; all_goals with_reducible rfl)
                try simp only [Act.put, List.setIfInBounds_toArray, List.set_cons_zero, List.set_cons_succ]
                refine tk (i := 44) (v := .bool false) (by simp only [List.getElem?_toArray, List.getElem?_cons_zero, List.getElem?_cons_succ]; rfl) (by kernel_rfl) (Or.inl ⟨by rfl, ?_⟩) hS7b44 ?_
                · (intro wq hSw; go_simp; all_goals with_reducible rfl)
                try simp only [Act.put, List.setIfInBounds_toArray, List.set_cons_zero, List.set_cons_succ]
                refine wpAnyH_done (by kernel_rfl) ?_ _
                refine NoPanic.normal ?_
                go_wp2_with fail
                go_meet
                case rel => exact ⟨rfl, hS7b44⟩
          · have h3 := decide_eq_false g3
            clear g3
            by_cases hk0 : k = 0
            · have hle : k ≤ 0 := by omega
              have z0 : c0 = 0 := by rw [← HF.out.2.2.2.2.1, hk0]; exact FixM.keep_zero _
              have z1 : c1 = 0 := by rw [← HF.out.2.2.2.2.2, hk0]; exact FixM.keep_zero _
              have Z0 := Lib.hid z0; have Z1 := Lib.hid z1
              clear hk0 z0 z1
              as_aux_lemma =>
              refine wp_region_noPanic ?_
              refine wp_region_held_drew (S := (BndS Ba Bb Bs Bd Bc Bx ax ay bx by' s0 s1 d0 d1 c0 c1 x0 x1 w8)) (by kernel_rfl) HS5.out.drew (fun hHeld => ?_)
              clear hHeld
              refine tk (i := 0) (v := _) (by simp only [List.getElem?_toArray, List.getElem?_cons_zero]; rfl) (by kernel_rfl) (yieldsIf_load_mid (by rfl) 25 (.tmp 11) rfl Bc 0 rfl [.int .i64 c0, .int .i64 c1] _ (fun _ h => h.c) Tryd.underlying25 rfl sizeVec) HS5.out.drew ?_
              try simp only [Act.put, List.setIfInBounds_toArray, List.set_cons_zero, List.set_cons_succ]
              refine tk (i := 1) (v := ?_) (by simp only [List.getElem?_toArray, List.getElem?_cons_zero, List.getElem?_cons_succ]; rfl) (by kernel_rfl) (Or.inl ⟨by rfl, ?_⟩) HS5.out.drew ?_
              rotate_left
              · (intro wq hSw; go_simp; all_goals with_reducible rfl)
              try simp only [Act.put, List.setIfInBounds_toArray, List.set_cons_zero, List.set_cons_succ]
              refine tk (i := 3) (v := _) (by simp only [List.getElem?_toArray, List.getElem?_cons_zero, List.getElem?_cons_succ]; rfl) (by kernel_rfl) (yieldsIf_load_mid (by rfl) 25 (.tmp 11) rfl Bc 0 rfl [.int .i64 c0, .int .i64 c1] _ (fun _ h => h.c) Tryd.underlying25 rfl sizeVec) HS5.out.drew ?_
              try simp only [Act.put, List.setIfInBounds_toArray, List.set_cons_zero, List.set_cons_succ]
              refine wpAnyH_ready (rs := [2]) (by kernel_rfl) (by simp) ?_
              refine AllReadyH.cons (by simp only [List.getElem?_toArray, List.getElem?_cons_zero, List.getElem?_cons_succ]; rfl) (fun K hK => ?_) AllReadyH.nil
              go_simp
              go_at_call 25
              refine (HCc.out _ HS5.out.drew).mono ?_
              rintro r w7a30 ⟨rfl, hS7a30⟩
              go_wp2_with fail
              refine hK.out _ _ hS7a30 (fun _ => ?_)
              clear hK K
              try simp only [Act.put, List.setIfInBounds_toArray, List.set_cons_zero, List.set_cons_succ]
              refine tk (i := 4) (v := .bool false) (by simp only [List.getElem?_toArray, List.getElem?_cons_zero, List.getElem?_cons_succ]; rfl) (by kernel_rfl) (Or.inl ⟨by rfl, ?_⟩) hS7a30 ?_
              · (intro wq hSw; go_simp; all_goals with_reducible rfl)
              try simp only [Act.put, List.setIfInBounds_toArray, List.set_cons_zero, List.set_cons_succ]
              refine tk (i := 5) (v := ?_) (by simp only [List.getElem?_toArray, List.getElem?_cons_zero, List.getElem?_cons_succ]; rfl) (by kernel_rfl) (Or.inl ⟨by rfl, ?_⟩) hS7a30 ?_
              rotate_left
              · (intro wq hSw; go_simp; all_goals with_reducible rfl)
              try simp only [Act.put, List.setIfInBounds_toArray, List.set_cons_zero, List.set_cons_succ]
              refine tk (i := 6) (v := ?_) (by simp only [List.getElem?_toArray, List.getElem?_cons_zero, List.getElem?_cons_succ]; rfl) (by kernel_rfl) (Or.inl ⟨by rfl, ?_⟩) hS7a30 ?_
              rotate_left
              · (intro wq hSw; go_simp; all_goals with_reducible rfl)
              try simp only [Act.put, List.setIfInBounds_toArray, List.set_cons_zero, List.set_cons_succ]
              refine tk (i := 7) (v := .bool true) (by simp only [List.getElem?_toArray, List.getElem?_cons_zero, List.getElem?_cons_succ]; rfl) (by kernel_rfl) (Or.inl ⟨by rfl, ?_⟩) hS7a30 ?_
              · (intro wq hSw; go_simp; all_goals with_reducible rfl)
              try simp only [Act.put, List.setIfInBounds_toArray, List.set_cons_zero, List.set_cons_succ]
              refine tk (i := 8) (v := ?_) (by simp only [List.getElem?_toArray, List.getElem?_cons_zero, List.getElem?_cons_succ]; rfl) (by kernel_rfl) (Or.inl ⟨by rfl, ?_⟩) hS7a30 ?_
              rotate_left
              · (intro wq hSw; go_simp; all_goals with_reducible rfl)
              try simp only [Act.put, List.setIfInBounds_toArray, List.set_cons_zero, List.set_cons_succ]
              refine tk (i := 9) (v := ?_) (by simp only [List.getElem?_toArray, List.getElem?_cons_zero, List.getElem?_cons_succ]; rfl) (by kernel_rfl) (Or.inl ⟨by rfl, ?_⟩) hS7a30 ?_
              rotate_left
              · (intro wq hSw; go_simp; all_goals with_reducible rfl)
              try simp only [Act.put, List.setIfInBounds_toArray, List.set_cons_zero, List.set_cons_succ]
              refine tk (i := 10) (v := ?_) (by simp only [List.getElem?_toArray, List.getElem?_cons_zero, List.getElem?_cons_succ]; rfl) (by kernel_rfl) (Or.inl ⟨by rfl, ?_⟩) hS7a30 ?_
              rotate_left
              · (intro wq hSw; have a0 := hSw.a0; have a1 := hSw.a1; have b0 := hSw.b0; have b1 := hSw.b1; have s0' := hSw.s0'; have s1' := hSw.s1'; have d0' := hSw.d0'; have d1' := hSw.d1'; have c0' := hSw.c0'; have c1' := hSw.c1'; have x0' := hSw.x0'; have x1' := hSw.x1'; go_simp; all_goals with_reducible rfl)
              try simp only [Act.put, List.setIfInBounds_toArray, List.set_cons_zero, List.set_cons_succ]
              refine tk (i := 11) (v := ?_) (by simp only [List.getElem?_toArray, List.getElem?_cons_zero, List.getElem?_cons_succ]; rfl) (by kernel_rfl) (Or.inl ⟨by rfl, ?_⟩) hS7a30 ?_
              rotate_left
              · (intro wq hSw; go_simp; all_goals with_reducible rfl)
              try simp only [Act.put, List.setIfInBounds_toArray, List.set_cons_zero, List.set_cons_succ]
              refine wpAnyH_ready (rs := [12]) (by kernel_rfl) (by simp) ?_
              refine AllReadyH.cons (by simp only [List.getElem?_toArray, List.getElem?_cons_zero, List.getElem?_cons_succ]; rfl) (fun K hK => ?_) AllReadyH.nil
              go_simp
              go_at_call 11
              refine ((HIN.out ax k true hkr h1) _ hS7a30).mono ?_
              rintro r w7a31 ⟨rfl, hS7a31⟩
              go_wp2_with fail
              refine hK.out _ _ hS7a31 (fun _ => ?_)
              clear hK K
              try simp only [Act.put, List.setIfInBounds_toArray, List.set_cons_zero, List.set_cons_succ]
              refine tk (i := 13) (v := .bool true) (by simp only [List.getElem?_toArray, List.getElem?_cons_zero, List.getElem?_cons_succ]; rfl) (by kernel_rfl) (Or.inl ⟨by rfl, ?_⟩) hS7a31 ?_
              · (intro wq hSw; go_simp; all_goals with_reducible rfl)
              try simp only [Act.put, List.setIfInBounds_toArray, List.set_cons_zero, List.set_cons_succ]
              refine tk (i := 14) (v := ?_) (by simp only [List.getElem?_toArray, List.getElem?_cons_zero, List.getElem?_cons_succ]; rfl) (by kernel_rfl) (Or.inl ⟨by rfl, ?_⟩) hS7a31 ?_
              rotate_left
              · (intro wq hSw; go_simp; all_goals with_reducible rfl)
              try simp only [Act.put, List.setIfInBounds_toArray, List.set_cons_zero, List.set_cons_succ]
              refine tk (i := 15) (v := ?_) (by simp only [List.getElem?_toArray, List.getElem?_cons_zero, List.getElem?_cons_succ]; rfl) (by kernel_rfl) (Or.inl ⟨by rfl, ?_⟩) hS7a31 ?_
              rotate_left
              · (intro wq hSw; go_simp; all_goals with_reducible rfl)
              try simp only [Act.put, List.setIfInBounds_toArray, List.set_cons_zero, List.set_cons_succ]
              refine tk (i := 16) (v := ?_) (by simp only [List.getElem?_toArray, List.getElem?_cons_zero, List.getElem?_cons_succ]; rfl) (by kernel_rfl) (Or.inl ⟨by rfl, ?_⟩) hS7a31 ?_
              rotate_left
              · (intro wq hSw; have a0 := hSw.a0; have a1 := hSw.a1; have b0 := hSw.b0; have b1 := hSw.b1; have s0' := hSw.s0'; have s1' := hSw.s1'; have d0' := hSw.d0'; have d1' := hSw.d1'; have c0' := hSw.c0'; have c1' := hSw.c1'; have x0' := hSw.x0'; have x1' := hSw.x1'; go_simp; all_goals with_reducible rfl)
              try simp only [Act.put, List.setIfInBounds_toArray, List.set_cons_zero, List.set_cons_succ]
              refine tk (i := 17) (v := ?_) (by simp only [List.getElem?_toArray, List.getElem?_cons_zero, List.getElem?_cons_succ]; rfl) (by kernel_rfl) (Or.inl ⟨by rfl, ?_⟩) hS7a31 ?_
              rotate_left
              · (intro wq hSw; go_simp; all_goals with_reducible rfl)
              try simp only [Act.put, List.setIfInBounds_toArray, List.set_cons_zero, List.set_cons_succ]
              refine wpAnyH_ready (rs := [18]) (by kernel_rfl) (by simp) ?_
              refine AllReadyH.cons (by simp only [List.getElem?_toArray, List.getElem?_cons_zero, List.getElem?_cons_succ]; rfl) (fun K hK => ?_) AllReadyH.nil
              go_simp
              go_at_call 11
              refine ((HIN.out ay k true hkr h2) _ hS7a31).mono ?_
              rintro r w7a32 ⟨rfl, hS7a32⟩
              go_wp2_with fail
              refine hK.out _ _ hS7a32 (fun _ => ?_)
              clear hK K
              try simp only [Act.put, List.setIfInBounds_toArray, List.set_cons_zero, List.set_cons_succ]
              refine tk (i := 19) (v := .bool true) (by simp only [List.getElem?_toArray, List.getElem?_cons_zero, List.getElem?_cons_succ]; rfl) (by kernel_rfl) (Or.inl ⟨by rfl, ?_⟩) hS7a32 ?_
              · (intro wq hSw; go_simp; all_goals with_reducible rfl)
              try simp only [Act.put, List.setIfInBounds_toArray, List.set_cons_zero, List.set_cons_succ]
              refine tk (i := 20) (v := ?_) (by simp only [List.getElem?_toArray, List.getElem?_cons_zero, List.getElem?_cons_succ]; rfl) (by kernel_rfl) (Or.inl ⟨by rfl, ?_⟩) hS7a32 ?_
              rotate_left
              · (intro wq hSw; go_simp; all_goals with_reducible rfl)
              try simp only [Act.put, List.setIfInBounds_toArray, List.set_cons_zero, List.set_cons_succ]
              refine tk (i := 21) (v := ?_) (by simp only [List.getElem?_toArray, List.getElem?_cons_zero, List.getElem?_cons_succ]; rfl) (by kernel_rfl) (Or.inl ⟨by rfl, ?_⟩) hS7a32 ?_
              rotate_left
              · (intro wq hSw; go_simp; all_goals with_reducible rfl)
              try simp only [Act.put, List.setIfInBounds_toArray, List.set_cons_zero, List.set_cons_succ]
              refine tk (i := 22) (v := ?_) (by simp only [List.getElem?_toArray, List.getElem?_cons_zero, List.getElem?_cons_succ]; rfl) (by kernel_rfl) (Or.inl ⟨by rfl, ?_⟩) hS7a32 ?_
              rotate_left
              · (intro wq hSw; have a0 := hSw.a0; have a1 := hSw.a1; have b0 := hSw.b0; have b1 := hSw.b1; have s0' := hSw.s0'; have s1' := hSw.s1'; have d0' := hSw.d0'; have d1' := hSw.d1'; have c0' := hSw.c0'; have c1' := hSw.c1'; have x0' := hSw.x0'; have x1' := hSw.x1'; go_simp; all_goals with_reducible rfl)
              try simp only [Act.put, List.setIfInBounds_toArray, List.set_cons_zero, List.set_cons_succ]
              refine wpAnyH_ready (rs := [23]) (by kernel_rfl) (by simp) ?_
              refine AllReadyH.cons (by simp only [List.getElem?_toArray, List.getElem?_cons_zero, List.getElem?_cons_succ]; rfl) (fun K hK => ?_) AllReadyH.nil
              go_simp
              go_at_call 11
              refine ((HIN.out ax 1099511627776 false (by decide) h3) _ hS7a32).mono ?_
              rintro r w7a33 ⟨rfl, hS7a33⟩
              go_wp2_with fail
              refine hK.out _ _ hS7a33 (fun _ => ?_)
              clear hK K
              try simp only [Act.put, List.setIfInBounds_toArray, List.set_cons_zero, List.set_cons_succ]
              refine tk (i := 24) (v := .bool false) (by simp only [List.getElem?_toArray, List.getElem?_cons_zero, List.getElem?_cons_succ]; rfl) (by kernel_rfl) (Or.inl ⟨by rfl, ?_⟩) hS7a33 ?_
              · (intro wq hSw; go_simp; all_goals with_reducible rfl)
              try simp only [Act.put, List.setIfInBounds_toArray, List.set_cons_zero, List.set_cons_succ]
              refine tk (i := 25) (v := ?_) (by simp only [List.getElem?_toArray, List.getElem?_cons_zero, List.getElem?_cons_succ]; rfl) (by kernel_rfl) (Or.inl ⟨by rfl, ?_⟩) hS7a33 ?_
              rotate_left
              · (intro wq hSw; go_simp; all_goals with_reducible rfl)
              try simp only [Act.put, List.setIfInBounds_toArray, List.set_cons_zero, List.set_cons_succ]
              refine tk (i := 26) (by simp only [List.getElem?_toArray, List.getElem?_cons_zero, List.getElem?_cons_succ]; rfl) (by kernel_rfl) (Or.inr ⟨by rfl, rfl⟩) hS7a33 ?_
              refine tk (i := 27) (by simp only [List.getElem?_toArray, List.getElem?_cons_zero, List.getElem?_cons_succ]; rfl) (by kernel_rfl) (Or.inr ⟨by rfl, rfl⟩) hS7a33 ?_
              refine tk (i := 28) (by simp only [List.getElem?_toArray, List.getElem?_cons_zero, List.getElem?_cons_succ]; rfl) (by kernel_rfl) (Or.inr ⟨by rfl, rfl⟩) hS7a33 ?_
              try simp only [Act.put, List.setIfInBounds_toArray, List.set_cons_zero, List.set_cons_succ]
              refine tk (i := 29) (v := .bool false) (by simp only [List.getElem?_toArray, List.getElem?_cons_zero, List.getElem?_cons_succ]; rfl) (by kernel_rfl) (Or.inl ⟨by rfl, ?_⟩) hS7a33 ?_
              · (intro wq hSw; go_simp; all_goals with_reducible rfl)
              try simp only [Act.put, List.setIfInBounds_toArray, List.set_cons_zero, List.set_cons_succ]
              refine tk (i := 30) (v := ?_) (by simp only [List.getElem?_toArray, List.getElem?_cons_zero, List.getElem?_cons_succ]; rfl) (by kernel_rfl) (Or.inl ⟨by rfl, ?_⟩) hS7a33 ?_
              rotate_left
              · (intro wq hSw; go_simp; all_goals with_reducible rfl)
              try simp only [Act.put, List.setIfInBounds_toArray, List.set_cons_zero, List.set_cons_succ]
              refine tk (i := 31) (by simp only [List.getElem?_toArray, List.getElem?_cons_zero, List.getElem?_cons_succ]; rfl) (by kernel_rfl) (Or.inr ⟨by rfl, rfl⟩) hS7a33 ?_
              refine tk (i := 32) (by simp only [List.getElem?_toArray, List.getElem?_cons_zero, List.getElem?_cons_succ]; rfl) (by kernel_rfl) (Or.inr ⟨by rfl, rfl⟩) hS7a33 ?_
              refine tk (i := 33) (by simp only [List.getElem?_toArray, List.getElem?_cons_zero, List.getElem?_cons_succ]; rfl) (by kernel_rfl) (Or.inr ⟨by rfl, rfl⟩) hS7a33 ?_
              try simp only [Act.put, List.setIfInBounds_toArray, List.set_cons_zero, List.set_cons_succ]
              refine tk (i := 34) (v := .bool false) (by simp only [List.getElem?_toArray, List.getElem?_cons_zero, List.getElem?_cons_succ]; rfl) (by kernel_rfl) (Or.inl ⟨by rfl, ?_⟩) hS7a33 ?_
              · (intro wq hSw; go_simp; all_goals with_reducible rfl)
              try simp only [Act.put, List.setIfInBounds_toArray, List.set_cons_zero, List.set_cons_succ]
              refine tk (i := 35) (v := .bool false) (by simp only [List.getElem?_toArray, List.getElem?_cons_zero, List.getElem?_cons_succ]; rfl) (by kernel_rfl) (Or.inl ⟨by rfl, ?_⟩) hS7a33 ?_
              · (intro wq hSw; go_simp; all_goals with_reducible rfl)
              try simp only [Act.put, List.setIfInBounds_toArray, List.set_cons_zero, List.set_cons_succ]
              refine tk (i := 36) (v := ?_) (by simp only [List.getElem?_toArray, List.getElem?_cons_zero, List.getElem?_cons_succ]; rfl) (by kernel_rfl) (Or.inl ⟨by rfl, ?_⟩) hS7a33 ?_
              rotate_left
              · (intro wq hSw; go_simp; all_goals with_reducible rfl)
              try simp only [Act.put, List.setIfInBounds_toArray, List.set_cons_zero, List.set_cons_succ]
              refine tk (i := 37) (v := ?_) (by simp only [List.getElem?_toArray, List.getElem?_cons_zero, List.getElem?_cons_succ]; rfl) (by kernel_rfl) (Or.inl ⟨by rfl, ?_⟩) hS7a33 ?_
              rotate_left
              · (intro wq hSw; go_simp; all_goals with_reducible rfl)
              try simp only [Act.put, List.setIfInBounds_toArray, List.set_cons_zero, List.set_cons_succ]
              refine tk (i := 38) (v := .bool true) (by simp only [List.getElem?_toArray, List.getElem?_cons_zero, List.getElem?_cons_succ]; rfl) (by kernel_rfl) (Or.inl ⟨by rfl, ?_⟩) hS7a33 ?_
              · (intro wq hSw; go_simp; all_goals with_reducible rfl)
              try simp only [Act.put, List.setIfInBounds_toArray, List.set_cons_zero, List.set_cons_succ]
              refine tk (i := 39) (v := ?_) (by simp only [List.getElem?_toArray, List.getElem?_cons_zero, List.getElem?_cons_succ]; rfl) (by kernel_rfl) (Or.inl ⟨by rfl, ?_⟩) hS7a33 ?_
              rotate_left
              · (intro wq hSw; go_simp; all_goals with_reducible rfl)
              try simp only [Act.put, List.setIfInBounds_toArray, List.set_cons_zero, List.set_cons_succ]
              refine tk (i := 40) (v := _) (by simp only [List.getElem?_toArray, List.getElem?_cons_zero, List.getElem?_cons_succ]; rfl) (by kernel_rfl) (yieldsIf_load_mid (by rfl) 25 (.tmp 11) rfl Bc 0 rfl [.int .i64 c0, .int .i64 c1] _ (fun _ h => h.c) Tryd.underlying25 rfl sizeVec) hS7a33 ?_
              try simp only [Act.put, List.setIfInBounds_toArray, List.set_cons_zero, List.set_cons_succ]
              refine tk (i := 41) (v := ?_) (by simp only [List.getElem?_toArray, List.getElem?_cons_zero, List.getElem?_cons_succ]; rfl) (by kernel_rfl) (Or.inl ⟨by rfl, ?_⟩) hS7a33 ?_
              rotate_left
              · (intro wq hSw; go_simp; all_goals with_reducible rfl)
              try simp only [Act.put, List.setIfInBounds_toArray, List.set_cons_zero, List.set_cons_succ]
              refine tk (i := 42) (v := .bool false) (by simp only [List.getElem?_toArray, List.getElem?_cons_zero, List.getElem?_cons_succ]; rfl) (by kernel_rfl) (Or.inl ⟨by rfl, ?_⟩) hS7a33 ?_
              · (intro wq hSw; have z0 := Z0.out; have z1 := Z1.out; go_simp; all_goals with_reducible rfl)
              try simp only [Act.put, List.setIfInBounds_toArray, List.set_cons_zero, List.set_cons_succ]
              refine tk (i := 43) (v := .bool false) (by simp only [List.getElem?_toArray, List.getElem?_cons_zero, List.getElem?_cons_succ]; rfl) (by kernel_rfl) (Or.inl ⟨by rfl, ?_⟩) hS7a33 ?_
              · (intro wq hSw; go_simp; all_goals with_reducible rfl)
              try simp only [Act.put, List.setIfInBounds_toArray, List.set_cons_zero, List.set_cons_succ]
              refine tk (i := 44) (v := .bool false) (by simp only [List.getElem?_toArray, List.getElem?_cons_zero, List.getElem?_cons_succ]; rfl) (by kernel_rfl) (Or.inl ⟨by rfl, ?_⟩) hS7a33 ?_
              · (intro wq hSw; go_simp; all_goals with_reducible rfl)
              try simp only [Act.put, List.setIfInBounds_toArray, List.set_cons_zero, List.set_cons_succ]
              refine wpAnyH_done (by kernel_rfl) ?_ _
              refine NoPanic.normal ?_
              go_wp2_with fail
              go_meet
              case rel => exact ⟨rfl, hS7a33⟩
            · have hle : ¬ k ≤ 0 := by omega
              clear hk0
              as_aux_lemma =>
              refine wp_region_noPanic ?_
              refine wp_region_held_drew (S := (BndS Ba Bb Bs Bd Bc Bx ax ay bx by' s0 s1 d0 d1 c0 c1 x0 x1 w8)) (by kernel_rfl) HS5.out.drew (fun hHeld => ?_)
              clear hHeld
              refine tk (i := 0) (v := _) (by simp only [List.getElem?_toArray, List.getElem?_cons_zero]; rfl) (by kernel_rfl) (yieldsIf_load_mid (by rfl) 25 (.tmp 11) rfl Bc 0 rfl [.int .i64 c0, .int .i64 c1] _ (fun _ h => h.c) Tryd.underlying25 rfl sizeVec) HS5.out.drew ?_
              try simp only [Act.put, List.setIfInBounds_toArray, List.set_cons_zero, List.set_cons_succ]
              refine tk (i := 1) (v := ?_) (by simp only [List.getElem?_toArray, List.getElem?_cons_zero, List.getElem?_cons_succ]; rfl) (by kernel_rfl) (Or.inl ⟨by rfl, ?_⟩) HS5.out.drew ?_
              rotate_left
              · (intro wq hSw; go_simp; all_goals with_reducible rfl)
              try simp only [Act.put, List.setIfInBounds_toArray, List.set_cons_zero, List.set_cons_succ]
              refine tk (i := 3) (v := _) (by simp only [List.getElem?_toArray, List.getElem?_cons_zero, List.getElem?_cons_succ]; rfl) (by kernel_rfl) (yieldsIf_load_mid (by rfl) 25 (.tmp 11) rfl Bc 0 rfl [.int .i64 c0, .int .i64 c1] _ (fun _ h => h.c) Tryd.underlying25 rfl sizeVec) HS5.out.drew ?_
              try simp only [Act.put, List.setIfInBounds_toArray, List.set_cons_zero, List.set_cons_succ]
              refine wpAnyH_ready (rs := [2]) (by kernel_rfl) (by simp) ?_
              refine AllReadyH.cons (by simp only [List.getElem?_toArray, List.getElem?_cons_zero, List.getElem?_cons_succ]; rfl) (fun K hK => ?_) AllReadyH.nil
              go_simp
              go_at_call 25
              refine (HCc.out _ HS5.out.drew).mono ?_
              rintro r w7b30 ⟨rfl, hS7b30⟩
              go_wp2_with fail
              refine hK.out _ _ hS7b30 (fun _ => ?_)
              clear hK K
              try simp only [Act.put, List.setIfInBounds_toArray, List.set_cons_zero, List.set_cons_succ]
              refine tk (i := 4) (v := .bool false) (by simp only [List.getElem?_toArray, List.getElem?_cons_zero, List.getElem?_cons_succ]; rfl) (by kernel_rfl) (Or.inl ⟨by rfl, ?_⟩) hS7b30 ?_
              · (intro wq hSw; go_simp; all_goals with_reducible rfl)
              try simp only [Act.put, List.setIfInBounds_toArray, List.set_cons_zero, List.set_cons_succ]
              refine tk (i := 5) (v := ?_) (by simp only [List.getElem?_toArray, List.getElem?_cons_zero, List.getElem?_cons_succ]; rfl) (by kernel_rfl) (Or.inl ⟨by rfl, ?_⟩) hS7b30 ?_
              rotate_left
              · (intro wq hSw; go_simp; all_goals with_reducible rfl)
              try simp only [Act.put, List.setIfInBounds_toArray, List.set_cons_zero, List.set_cons_succ]
              refine tk (i := 6) (v := ?_) (by simp only [List.getElem?_toArray, List.getElem?_cons_zero, List.getElem?_cons_succ]; rfl) (by kernel_rfl) (Or.inl ⟨by rfl, ?_⟩) hS7b30 ?_
              rotate_left
              · (intro wq hSw; go_simp; all_goals with_reducible rfl)
              try simp only [Act.put, List.setIfInBounds_toArray, List.set_cons_zero, List.set_cons_succ]
              refine tk (i := 7) (v := .bool true) (by simp only [List.getElem?_toArray, List.getElem?_cons_zero, List.getElem?_cons_succ]; rfl) (by kernel_rfl) (Or.inl ⟨by rfl, ?_⟩) hS7b30 ?_
              · (intro wq hSw; go_simp; all_goals with_reducible rfl)
              try simp only [Act.put, List.setIfInBounds_toArray, List.set_cons_zero, List.set_cons_succ]
              refine tk (i := 8) (v := ?_) (by simp only [List.getElem?_toArray, List.getElem?_cons_zero, List.getElem?_cons_succ]; rfl) (by kernel_rfl) (Or.inl ⟨by rfl, ?_⟩) hS7b30 ?_
              rotate_left
              · (intro wq hSw; go_simp; all_goals with_reducible rfl)
              try simp only [Act.put, List.setIfInBounds_toArray, List.set_cons_zero, List.set_cons_succ]
              refine tk (i := 9) (v := ?_) (by simp only [List.getElem?_toArray, List.getElem?_cons_zero, List.getElem?_cons_succ]; rfl) (by kernel_rfl) (Or.inl ⟨by rfl, ?_⟩) hS7b30 ?_
              rotate_left
              · (intro wq hSw; go_simp; all_goals with_reducible rfl)
              try simp only [Act.put, List.setIfInBounds_toArray, List.set_cons_zero, List.set_cons_succ]
              refine tk (i := 10) (v := ?_) (by simp only [List.getElem?_toArray, List.getElem?_cons_zero, List.getElem?_cons_succ]; rfl) (by kernel_rfl) (Or.inl ⟨by rfl, ?_⟩) hS7b30 ?_
              rotate_left
              · (intro wq hSw; have a0 := hSw.a0; have a1 := hSw.a1; have b0 := hSw.b0; have b1 := hSw.b1; have s0' := hSw.s0'; have s1' := hSw.s1'; have d0' := hSw.d0'; have d1' := hSw.d1'; have c0' := hSw.c0'; have c1' := hSw.c1'; have x0' := hSw.x0'; have x1' := hSw.x1'; go_simp; all_goals with_reducible rfl)
              try simp only [Act.put, List.setIfInBounds_toArray, List.set_cons_zero, List.set_cons_succ]
              refine tk (i := 11) (v := ?_) (by simp only [List.getElem?_toArray, List.getElem?_cons_zero, List.getElem?_cons_succ]; rfl) (by kernel_rfl) (Or.inl ⟨by rfl, ?_⟩) hS7b30 ?_
              rotate_left
              · (intro wq hSw; go_simp; all_goals with_reducible rfl)
              try simp only [Act.put, List.setIfInBounds_toArray, List.set_cons_zero, List.set_cons_succ]
              refine wpAnyH_ready (rs := [12]) (by kernel_rfl) (by simp) ?_
              refine AllReadyH.cons (by simp only [List.getElem?_toArray, List.getElem?_cons_zero, List.getElem?_cons_succ]; rfl) (fun K hK => ?_) AllReadyH.nil
              go_simp
              go_at_call 11
              refine ((HIN.out ax k true hkr h1) _ hS7b30).mono ?_
              rintro r w7b31 ⟨rfl, hS7b31⟩
              go_wp2_with fail
              refine hK.out _ _ hS7b31 (fun _ => ?_)
              clear hK K
              try simp only [Act.put, List.setIfInBounds_toArray, List.set_cons_zero, List.set_cons_succ]
              refine tk (i := 13) (v := .bool true) (by simp only [List.getElem?_toArray, List.getElem?_cons_zero, List.getElem?_cons_succ]; rfl) (by kernel_rfl) (Or.inl ⟨by rfl, ?_⟩) hS7b31 ?_
              · (intro wq hSw; go_simp; all_goals with_reducible rfl)
              try simp only [Act.put, List.setIfInBounds_toArray, List.set_cons_zero, List.set_cons_succ]
              refine tk (i := 14) (v := ?_) (by simp only [List.getElem?_toArray, List.getElem?_cons_zero, List.getElem?_cons_succ]; rfl) (by kernel_rfl) (Or.inl ⟨by rfl, ?_⟩) hS7b31 ?_
              rotate_left
              · (intro wq hSw; go_simp; all_goals with_reducible rfl)
              try simp only [Act.put, List.setIfInBounds_toArray, List.set_cons_zero, List.set_cons_succ]
              refine tk (i := 15) (v := ?_) (by simp only [List.getElem?_toArray, List.getElem?_cons_zero, List.getElem?_cons_succ]; rfl) (by kernel_rfl) (Or.inl ⟨by rfl, ?_⟩) hS7b31 ?_
              rotate_left
              · (intro wq hSw; go_simp; all_goals with_reducible rfl)
              try simp only [Act.put, List.setIfInBounds_toArray, List.set_cons_zero, List.set_cons_succ]
              refine tk (i := 16) (v := ?_) (by simp only [List.getElem?_toArray, List.getElem?_cons_zero, List.getElem?_cons_succ]; rfl) (by kernel_rfl) (Or.inl ⟨by rfl, ?_⟩) hS7b31 ?_
              rotate_left
              · (intro wq hSw; have a0 := hSw.a0; have a1 := hSw.a1; have b0 := hSw.b0; have b1 := hSw.b1; have s0' := hSw.s0'; have s1' := hSw.s1'; have d0' := hSw.d0'; have d1' := hSw.d1'; have c0' := hSw.c0'; have c1' := hSw.c1'; have x0' := hSw.x0'; have x1' := hSw.x1'; go_simp; all_goals with_reducible rfl)
              try simp only [Act.put, List.setIfInBounds_toArray, List.set_cons_zero, List.set_cons_succ]
              refine tk (i := 17) (v := ?_) (by simp only [List.getElem?_toArray, List.getElem?_cons_zero, List.getElem?_cons_succ]; rfl) (by kernel_rfl) (Or.inl ⟨by rfl, ?_⟩) hS7b31 ?_
              rotate_left
              · (intro wq hSw; go_simp; all_goals with_reducible rfl)
              try simp only [Act.put, List.setIfInBounds_toArray, List.set_cons_zero, List.set_cons_succ]
              refine wpAnyH_ready (rs := [18]) (by kernel_rfl) (by simp) ?_
              refine AllReadyH.cons (by simp only [List.getElem?_toArray, List.getElem?_cons_zero, List.getElem?_cons_succ]; rfl) (fun K hK => ?_) AllReadyH.nil
              go_simp
              go_at_call 11
              refine ((HIN.out ay k true hkr h2) _ hS7b31).mono ?_
              rintro r w7b32 ⟨rfl, hS7b32⟩
              go_wp2_with fail
              refine hK.out _ _ hS7b32 (fun _ => ?_)
              clear hK K
              try simp only [Act.put, List.setIfInBounds_toArray, List.set_cons_zero, List.set_cons_succ]
              refine tk (i := 19) (v := .bool true) (by simp only [List.getElem?_toArray, List.getElem?_cons_zero, List.getElem?_cons_succ]; rfl) (by kernel_rfl) (Or.inl ⟨by rfl, ?_⟩) hS7b32 ?_
              · (intro wq hSw; go_simp; all_goals with_reducible rfl)
              try simp only [Act.put, List.setIfInBounds_toArray, List.set_cons_zero, List.set_cons_succ]
              refine tk (i := 20) (v := ?_) (by simp only [List.getElem?_toArray, List.getElem?_cons_zero, List.getElem?_cons_succ]; rfl) (by kernel_rfl) (Or.inl ⟨by rfl, ?_⟩) hS7b32 ?_
              rotate_left
              · (intro wq hSw; go_simp; all_goals with_reducible rfl)
              try simp only [Act.put, List.setIfInBounds_toArray, List.set_cons_zero, List.set_cons_succ]
              refine tk (i := 21) (v := ?_) (by simp only [List.getElem?_toArray, List.getElem?_cons_zero, List.getElem?_cons_succ]; rfl) (by kernel_rfl) (Or.inl ⟨by rfl, ?_⟩) hS7b32 ?_
              rotate_left
              · (intro wq hSw; go_simp; all_goals with_reducible rfl)
              try simp only [Act.put, List.setIfInBounds_toArray, List.set_cons_zero, List.set_cons_succ]
              refine tk (i := 22) (v := ?_) (by simp only [List.getElem?_toArray, List.getElem?_cons_zero, List.getElem?_cons_succ]; rfl) (by kernel_rfl) (Or.inl ⟨by rfl, ?_⟩) hS7b32 ?_
              rotate_left
              · (intro wq hSw; have a0 := hSw.a0; have a1 := hSw.a1; have b0 := hSw.b0; have b1 := hSw.b1; have s0' := hSw.s0'; have s1' := hSw.s1'; have d0' := hSw.d0'; have d1' := hSw.d1'; have c0' := hSw.c0'; have c1' := hSw.c1'; have x0' := hSw.x0'; have x1' := hSw.x1'; go_simp; all_goals with_reducible rfl)
              try simp only [Act.put, List.setIfInBounds_toArray, List.set_cons_zero, List.set_cons_succ]
              refine wpAnyH_ready (rs := [23]) (by kernel_rfl) (by simp) ?_
              refine AllReadyH.cons (by simp only [List.getElem?_toArray, List.getElem?_cons_zero, List.getElem?_cons_succ]; rfl) (fun K hK => ?_) AllReadyH.nil
              go_simp
              go_at_call 11
              refine ((HIN.out ax 1099511627776 false (by decide) h3) _ hS7b32).mono ?_
              rintro r w7b33 ⟨rfl, hS7b33⟩
              go_wp2_with fail
              refine hK.out _ _ hS7b33 (fun _ => ?_)
              clear hK K
              try simp only [Act.put, List.setIfInBounds_toArray, List.set_cons_zero, List.set_cons_succ]
              refine tk (i := 24) (v := .bool false) (by simp only [List.getElem?_toArray, List.getElem?_cons_zero, List.getElem?_cons_succ]; rfl) (by kernel_rfl) (Or.inl ⟨by rfl, ?_⟩) hS7b33 ?_
              · (intro wq hSw; go_simp; all_goals with_reducible rfl)
              try simp only [Act.put, List.setIfInBounds_toArray, List.set_cons_zero, List.set_cons_succ]
              refine tk (i := 25) (v := ?_) (by simp only [List.getElem?_toArray, List.getElem?_cons_zero, List.getElem?_cons_succ]; rfl) (by kernel_rfl) (Or.inl ⟨by rfl, ?_⟩) hS7b33 ?_
              rotate_left
              · (intro wq hSw; go_simp; all_goals with_reducible rfl)
              try simp only [Act.put, List.setIfInBounds_toArray, List.set_cons_zero, List.set_cons_succ]
              refine tk (i := 26) (by simp only [List.getElem?_toArray, List.getElem?_cons_zero, List.getElem?_cons_succ]; rfl) (by kernel_rfl) (Or.inr ⟨by rfl, rfl⟩) hS7b33 ?_
              refine tk (i := 27) (by simp only [List.getElem?_toArray, List.getElem?_cons_zero, List.getElem?_cons_succ]; rfl) (by kernel_rfl) (Or.inr ⟨by rfl, rfl⟩) hS7b33 ?_
              refine tk (i := 28) (by simp only [List.getElem?_toArray, List.getElem?_cons_zero, List.getElem?_cons_succ]; rfl) (by kernel_rfl) (Or.inr ⟨by rfl, rfl⟩) hS7b33 ?_
              try simp only [Act.put, List.setIfInBounds_toArray, List.set_cons_zero, List.set_cons_succ]
              refine tk (i := 29) (v := .bool false) (by simp only [List.getElem?_toArray, List.getElem?_cons_zero, List.getElem?_cons_succ]; rfl) (by kernel_rfl) (Or.inl ⟨by rfl, ?_⟩) hS7b33 ?_
              · (intro wq hSw; go_simp; all_goals with_reducible rfl)
              try simp only [Act.put, List.setIfInBounds_toArray, List.set_cons_zero, List.set_cons_succ]
              refine tk (i := 30) (v := ?_) (by simp only [List.getElem?_toArray, List.getElem?_cons_zero, List.getElem?_cons_succ]; rfl) (by kernel_rfl) (Or.inl ⟨by rfl, ?_⟩) hS7b33 ?_
              rotate_left
              · (intro wq hSw; go_simp; all_goals with_reducible rfl)
              try simp only [Act.put, List.setIfInBounds_toArray, List.set_cons_zero, List.set_cons_succ]
              refine tk (i := 31) (by simp only [List.getElem?_toArray, List.getElem?_cons_zero, List.getElem?_cons_succ]; rfl) (by kernel_rfl) (Or.inr ⟨by rfl, rfl⟩) hS7b33 ?_
              refine tk (i := 32) (by simp only [List.getElem?_toArray, List.getElem?_cons_zero, List.getElem?_cons_succ]; rfl) (by kernel_rfl) (Or.inr ⟨by rfl, rfl⟩) hS7b33 ?_
              refine tk (i := 33) (by simp only [List.getElem?_toArray, List.getElem?_cons_zero, List.getElem?_cons_succ]; rfl) (by kernel_rfl) (Or.inr ⟨by rfl, rfl⟩) hS7b33 ?_
              try simp only [Act.put, List.setIfInBounds_toArray, List.set_cons_zero, List.set_cons_succ]
              refine tk (i := 34) (v := .bool false) (by simp only [List.getElem?_toArray, List.getElem?_cons_zero, List.getElem?_cons_succ]; rfl) (by kernel_rfl) (Or.inl ⟨by rfl, ?_⟩) hS7b33 ?_
              · (intro wq hSw; go_simp; all_goals with_reducible rfl)
              try simp only [Act.put, List.setIfInBounds_toArray, List.set_cons_zero, List.set_cons_succ]
              refine tk (i := 35) (v := .bool false) (by simp only [List.getElem?_toArray, List.getElem?_cons_zero, List.getElem?_cons_succ]; rfl) (by kernel_rfl) (Or.inl ⟨by rfl, ?_⟩) hS7b33 ?_
              · (intro wq hSw; go_simp; all_goals with_reducible rfl)
              try simp only [Act.put, List.setIfInBounds_toArray, List.set_cons_zero, List.set_cons_succ]
              refine tk (i := 36) (v := ?_) (by simp only [List.getElem?_toArray, List.getElem?_cons_zero, List.getElem?_cons_succ]; rfl) (by kernel_rfl) (Or.inl ⟨by rfl, ?_⟩) hS7b33 ?_
              rotate_left
              · (intro wq hSw; go_simp; all_goals with_reducible rfl)
              try simp only [Act.put, List.setIfInBounds_toArray, List.set_cons_zero, List.set_cons_succ]
              refine tk (i := 37) (v := ?_) (by simp only [List.getElem?_toArray, List.getElem?_cons_zero, List.getElem?_cons_succ]; rfl) (by kernel_rfl) (Or.inl ⟨by rfl, ?_⟩) hS7b33 ?_
              rotate_left
              · (intro wq hSw; go_simp; all_goals with_reducible rfl)
              try simp only [Act.put, List.setIfInBounds_toArray, List.set_cons_zero, List.set_cons_succ]
              refine tk (i := 38) (v := .bool false) (by simp only [List.getElem?_toArray, List.getElem?_cons_zero, List.getElem?_cons_succ]; rfl) (by kernel_rfl) (Or.inl ⟨by rfl, ?_⟩) hS7b33 ?_
              · (intro wq hSw; go_simp; all_goals with_reducible rfl)
              try simp only [Act.put, List.setIfInBounds_toArray, List.set_cons_zero, List.set_cons_succ]
              refine tk (i := 39) (v := ?_) (by simp only [List.getElem?_toArray, List.getElem?_cons_zero, List.getElem?_cons_succ]; rfl) (by kernel_rfl) (Or.inl ⟨by rfl, ?_⟩) hS7b33 ?_
              rotate_left
              · (intro wq hSw; go_simp; all_goals with_reducible rfl)
              try simp only [Act.put, List.setIfInBounds_toArray, List.set_cons_zero, List.set_cons_succ]
              refine tk (i := 40) (by simp only [List.getElem?_toArray, List.getElem?_cons_zero, List.getElem?_cons_succ]; rfl) (by kernel_rfl) (Or.inr ⟨by rfl, rfl⟩) hS7b33 ?_
              refine tk (i := 41) (by simp only [List.getElem?_toArray, List.getElem?_cons_zero, List.getElem?_cons_succ]; rfl) (by kernel_rfl) (Or.inr ⟨by rfl, rfl⟩) hS7b33 ?_
              refine tk (i := 42) (by simp only [List.getElem?_toArray, List.getElem?_cons_zero, List.getElem?_cons_succ]; rfl) (by kernel_rfl) (Or.inr ⟨by rfl, rfl⟩) hS7b33 ?_
              try simp only [Act.put, List.setIfInBounds_toArray, List.set_cons_zero, List.set_cons_succ]
              refine tk (i := 43) (v := .bool false) (by simp only [List.getElem?_toArray, List.getElem?_cons_zero, List.getElem?_cons_succ]; rfl) (by kernel_rfl) (Or.inl ⟨by rfl, ?_⟩) hS7b33 ?_
              · (intro wq hSw; go_simp; all_goals with_reducible rfl)
              try simp only [Act.put, List.setIfInBounds_toArray, List.set_cons_zero, List.set_cons_succ]
              refine tk (i := 44) (v := .bool false) (by simp only [List.getElem?_toArray, List.getElem?_cons_zero, List.getElem?_cons_succ]; rfl) (by kernel_rfl) (Or.inl ⟨by rfl, ?_⟩) hS7b33 ?_
              · (intro wq hSw; go_simp; all_goals with_reducible rfl)
              try simp only [Act.put, List.setIfInBounds_toArray, List.set_cons_zero, List.set_cons_succ]
              refine wpAnyH_done (by kernel_rfl) ?_ _
              refine NoPanic.normal ?_
              go_wp2_with fail
              go_meet
              case rel => exact ⟨rfl, hS7b33⟩
        · have h2 := decide_eq_false g2
          clear g2
          by_cases hk0 : k = 0
          · have hle : k ≤ 0 := by omega
            have z0 : c0 = 0 := by rw [← HF.out.2.2.2.2.1, hk0]; exact FixM.keep_zero _
            have z1 : c1 = 0 := by rw [← HF.out.2.2.2.2.2, hk0]; exact FixM.keep_zero _
            have Z0 := Lib.hid z0; have Z1 := Lib.hid z1
            clear hk0 z0 z1
            as_aux_lemma =>
            refine wp_region_noPanic ?_
            refine wp_region_held_drew (S := (BndS Ba Bb Bs Bd Bc Bx ax ay bx by' s0 s1 d0 d1 c0 c1 x0 x1 w8)) (by kernel_rfl) HS5.out.drew (fun hHeld => ?_)
            clear hHeld
            refine tk (i := 0) (v := _) (by simp only [List.getElem?_toArray, List.getElem?_cons_zero]; rfl) (by kernel_rfl) (yieldsIf_load_mid (by rfl) 25 (.tmp 11) rfl Bc 0 rfl [.int .i64 c0, .int .i64 c1] _ (fun _ h => h.c) Tryd.underlying25 rfl sizeVec) HS5.out.drew ?_
            try simp only [Act.put, List.setIfInBounds_toArray, List.set_cons_zero, List.set_cons_succ]
            refine tk (i := 1) (v := ?_) (by simp only [List.getElem?_toArray, List.getElem?_cons_zero, List.getElem?_cons_succ]; rfl) (by kernel_rfl) (Or.inl ⟨by rfl, ?_⟩) HS5.out.drew ?_
            rotate_left
            · (intro wq hSw; go_simp; all_goals with_reducible rfl)
            try simp only [Act.put, List.setIfInBounds_toArray, List.set_cons_zero, List.set_cons_succ]
            refine tk (i := 3) (v := _) (by simp only [List.getElem?_toArray, List.getElem?_cons_zero, List.getElem?_cons_succ]; rfl) (by kernel_rfl) (yieldsIf_load_mid (by rfl) 25 (.tmp 11) rfl Bc 0 rfl [.int .i64 c0, .int .i64 c1] _ (fun _ h => h.c) Tryd.underlying25 rfl sizeVec) HS5.out.drew ?_
            try simp only [Act.put, List.setIfInBounds_toArray, List.set_cons_zero, List.set_cons_succ]
            refine wpAnyH_ready (rs := [2]) (by kernel_rfl) (by simp) ?_
            refine AllReadyH.cons (by simp only [List.getElem?_toArray, List.getElem?_cons_zero, List.getElem?_cons_succ]; rfl) (fun K hK => ?_) AllReadyH.nil
            go_simp
            go_at_call 25
            refine (HCc.out _ HS5.out.drew).mono ?_
            rintro r w7a20 ⟨rfl, hS7a20⟩
            go_wp2_with fail
            refine hK.out _ _ hS7a20 (fun _ => ?_)
            clear hK K
            try simp only [Act.put, List.setIfInBounds_toArray, List.set_cons_zero, List.set_cons_succ]
            refine tk (i := 4) (v := .bool false) (by simp only [List.getElem?_toArray, List.getElem?_cons_zero, List.getElem?_cons_succ]; rfl) (by kernel_rfl) (Or.inl ⟨by rfl, ?_⟩) hS7a20 ?_
            · (intro wq hSw; go_simp; all_goals with_reducible rfl)
            try simp only [Act.put, List.setIfInBounds_toArray, List.set_cons_zero, List.set_cons_succ]
            refine tk (i := 5) (v := ?_) (by simp only [List.getElem?_toArray, List.getElem?_cons_zero, List.getElem?_cons_succ]; rfl) (by kernel_rfl) (Or.inl ⟨by rfl, ?_⟩) hS7a20 ?_
            rotate_left
            · (intro wq hSw; go_simp; all_goals with_reducible rfl)
            try simp only [Act.put, List.setIfInBounds_toArray, List.set_cons_zero, List.set_cons_succ]
            refine tk (i := 6) (v := ?_) (by simp only [List.getElem?_toArray, List.getElem?_cons_zero, List.getElem?_cons_succ]; rfl) (by kernel_rfl) (Or.inl ⟨by rfl, ?_⟩) hS7a20 ?_
            rotate_left
            · (intro wq hSw; go_simp; all_goals with_reducible rfl)
            try simp only [Act.put, List.setIfInBounds_toArray, List.set_cons_zero, List.set_cons_succ]
            refine tk (i := 7) (v := .bool true) (by simp only [List.getElem?_toArray, List.getElem?_cons_zero, List.getElem?_cons_succ]; rfl) (by kernel_rfl) (Or.inl ⟨by rfl, ?_⟩) hS7a20 ?_
            · (intro wq hSw; go_simp; all_goals with_reducible rfl)
            try simp only [Act.put, List.setIfInBounds_toArray, List.set_cons_zero, List.set_cons_succ]
            refine tk (i := 8) (v := ?_) (by simp only [List.getElem?_toArray, List.getElem?_cons_zero, List.getElem?_cons_succ]; rfl) (by kernel_rfl) (Or.inl ⟨by rfl, ?_⟩) hS7a20 ?_
            rotate_left
            · (intro wq hSw; go_simp; all_goals with_reducible rfl)
            try simp only [Act.put, List.setIfInBounds_toArray, List.set_cons_zero, List.set_cons_succ]
            refine tk (i := 9) (v := ?_) (by simp only [List.getElem?_toArray, List.getElem?_cons_zero, List.getElem?_cons_succ]; rfl) (by kernel_rfl) (Or.inl ⟨by rfl, ?_⟩) hS7a20 ?_
            rotate_left
            · (intro wq hSw; go_simp; all_goals with_reducible rfl)
            try simp only [Act.put, List.setIfInBounds_toArray, List.set_cons_zero, List.set_cons_succ]
            refine tk (i := 10) (v := ?_) (by simp only [List.getElem?_toArray, List.getElem?_cons_zero, List.getElem?_cons_succ]; rfl) (by kernel_rfl) (Or.inl ⟨by rfl, ?_⟩) hS7a20 ?_
            rotate_left
            · (intro wq hSw; have a0 := hSw.a0; have a1 := hSw.a1; have b0 := hSw.b0; have b1 := hSw.b1; have s0' := hSw.s0'; have s1' := hSw.s1'; have d0' := hSw.d0'; have d1' := hSw.d1'; have c0' := hSw.c0'; have c1' := hSw.c1'; have x0' := hSw.x0'; have x1' := hSw.x1'; go_simp; all_goals with_reducible rfl)
            try simp only [Act.put, List.setIfInBounds_toArray, List.set_cons_zero, List.set_cons_succ]
            refine tk (i := 11) (v := ?_) (by simp only [List.getElem?_toArray, List.getElem?_cons_zero, List.getElem?_cons_succ]; rfl) (by kernel_rfl) (Or.inl ⟨by rfl, ?_⟩) hS7a20 ?_
            rotate_left
            · (intro wq hSw; go_simp; all_goals with_reducible rfl)
            try simp only [Act.put, List.setIfInBounds_toArray, List.set_cons_zero, List.set_cons_succ]
            refine wpAnyH_ready (rs := [12]) (by kernel_rfl) (by simp) ?_
            refine AllReadyH.cons (by simp only [List.getElem?_toArray, List.getElem?_cons_zero, List.getElem?_cons_succ]; rfl) (fun K hK => ?_) AllReadyH.nil
            go_simp
            go_at_call 11
            refine ((HIN.out ax k true hkr h1) _ hS7a20).mono ?_
            rintro r w7a21 ⟨rfl, hS7a21⟩
            go_wp2_with fail
            refine hK.out _ _ hS7a21 (fun _ => ?_)
            clear hK K
            try simp only [Act.put, List.setIfInBounds_toArray, List.set_cons_zero, List.set_cons_succ]
            refine tk (i := 13) (v := .bool true) (by simp only [List.getElem?_toArray, List.getElem?_cons_zero, List.getElem?_cons_succ]; rfl) (by kernel_rfl) (Or.inl ⟨by rfl, ?_⟩) hS7a21 ?_
            · (intro wq hSw; go_simp; all_goals with_reducible rfl)
            try simp only [Act.put, List.setIfInBounds_toArray, List.set_cons_zero, List.set_cons_succ]
            refine tk (i := 14) (v := ?_) (by simp only [List.getElem?_toArray, List.getElem?_cons_zero, List.getElem?_cons_succ]; rfl) (by kernel_rfl) (Or.inl ⟨by rfl, ?_⟩) hS7a21 ?_
            rotate_left
            · (intro wq hSw; go_simp; all_goals with_reducible rfl)
            try simp only [Act.put, List.setIfInBounds_toArray, List.set_cons_zero, List.set_cons_succ]
            refine tk (i := 15) (v := ?_) (by simp only [List.getElem?_toArray, List.getElem?_cons_zero, List.getElem?_cons_succ]; rfl) (by kernel_rfl) (Or.inl ⟨by rfl, ?_⟩) hS7a21 ?_
            rotate_left
            · (intro wq hSw; go_simp; all_goals with_reducible rfl)
            try simp only [Act.put, List.setIfInBounds_toArray, List.set_cons_zero, List.set_cons_succ]
            refine tk (i := 16) (v := ?_) (by simp only [List.getElem?_toArray, List.getElem?_cons_zero, List.getElem?_cons_succ]; rfl) (by kernel_rfl) (Or.inl ⟨by rfl, ?_⟩) hS7a21 ?_
            rotate_left
            · (intro wq hSw; have a0 := hSw.a0; have a1 := hSw.a1; have b0 := hSw.b0; have b1 := hSw.b1; have s0' := hSw.s0'; have s1' := hSw.s1'; have d0' := hSw.d0'; have d1' := hSw.d1'; have c0' := hSw.c0'; have c1' := hSw.c1'; have x0' := hSw.x0'; have x1' := hSw.x1'; go_simp; all_goals with_reducible rfl)
            try simp only [Act.put, List.setIfInBounds_toArray, List.set_cons_zero, List.set_cons_succ]
            refine tk (i := 17) (v := ?_) (by simp only [List.getElem?_toArray, List.getElem?_cons_zero, List.getElem?_cons_succ]; rfl) (by kernel_rfl) (Or.inl ⟨by rfl, ?_⟩) hS7a21 ?_
            rotate_left
            · (intro wq hSw; go_simp; all_goals with_reducible rfl)
            try simp only [Act.put, List.setIfInBounds_toArray, List.set_cons_zero, List.set_cons_succ]
            refine wpAnyH_ready (rs := [18]) (by kernel_rfl) (by simp) ?_
            refine AllReadyH.cons (by simp only [List.getElem?_toArray, List.getElem?_cons_zero, List.getElem?_cons_succ]; rfl) (fun K hK => ?_) AllReadyH.nil
            go_simp
            go_at_call 11
            refine ((HIN.out ay k false hkr h2) _ hS7a21).mono ?_
            rintro r w7a22 ⟨rfl, hS7a22⟩
            go_wp2_with fail
            refine hK.out _ _ hS7a22 (fun _ => ?_)
            clear hK K
            try simp only [Act.put, List.setIfInBounds_toArray, List.set_cons_zero, List.set_cons_succ]
            refine tk (i := 19) (v := .bool false) (by simp only [List.getElem?_toArray, List.getElem?_cons_zero, List.getElem?_cons_succ]; rfl) (by kernel_rfl) (Or.inl ⟨by rfl, ?_⟩) hS7a22 ?_
            · (intro wq hSw; go_simp; all_goals with_reducible rfl)
            try simp only [Act.put, List.setIfInBounds_toArray, List.set_cons_zero, List.set_cons_succ]
            refine tk (i := 20) (v := ?_) (by simp only [List.getElem?_toArray, List.getElem?_cons_zero, List.getElem?_cons_succ]; rfl) (by kernel_rfl) (Or.inl ⟨by rfl, ?_⟩) hS7a22 ?_
            rotate_left
            · (intro wq hSw; go_simp; all_goals with_reducible rfl)
            try simp only [Act.put, List.setIfInBounds_toArray, List.set_cons_zero, List.set_cons_succ]
            refine tk (i := 21) (by simp only [List.getElem?_toArray, List.getElem?_cons_zero, List.getElem?_cons_succ]; rfl) (by kernel_rfl) (Or.inr ⟨by rfl, rfl⟩) hS7a22 ?_
            refine tk (i := 22) (by simp only [List.getElem?_toArray, List.getElem?_cons_zero, List.getElem?_cons_succ]; rfl) (by kernel_rfl) (Or.inr ⟨by rfl, rfl⟩) hS7a22 ?_
            refine tk (i := 23) (by simp only [List.getElem?_toArray, List.getElem?_cons_zero, List.getElem?_cons_succ]; rfl) (by kernel_rfl) (Or.inr ⟨by rfl, rfl⟩) hS7a22 ?_
            try simp only [Act.put, List.setIfInBounds_toArray, List.set_cons_zero, List.set_cons_succ]
            refine tk (i := 24) (v := .bool false) (by simp only [List.getElem?_toArray, List.getElem?_cons_zero, List.getElem?_cons_succ]; rfl) (by kernel_rfl) (Or.inl ⟨by rfl, ?_⟩) hS7a22 ?_
            · (intro wq hSw; go_simp; all_goals with_reducible rfl)
            try simp only [Act.put, List.setIfInBounds_toArray, List.set_cons_zero, List.set_cons_succ]
            refine tk (i := 25) (v := ?_) (by simp only [List.getElem?_toArray, List.getElem?_cons_zero, List.getElem?_cons_succ]; rfl) (by kernel_rfl) (Or.inl ⟨by rfl, ?_⟩) hS7a22 ?_
            rotate_left
            · (intro wq hSw; go_simp; all_goals with_reducible rfl)
            try simp only [Act.put, List.setIfInBounds_toArray, List.set_cons_zero, List.set_cons_succ]
            refine tk (i := 26) (by simp only [List.getElem?_toArray, List.getElem?_cons_zero, List.getElem?_cons_succ]; rfl) (by kernel_rfl) (Or.inr ⟨by rfl, rfl⟩) hS7a22 ?_
            refine tk (i := 27) (by simp only [List.getElem?_toArray, List.getElem?_cons_zero, List.getElem?_cons_succ]; rfl) (by kernel_rfl) (Or.inr ⟨by rfl, rfl⟩) hS7a22 ?_
            refine tk (i := 28) (by simp only [List.getElem?_toArray, List.getElem?_cons_zero, List.getElem?_cons_succ]; rfl) (by kernel_rfl) (Or.inr ⟨by rfl, rfl⟩) hS7a22 ?_
            try simp only [Act.put, List.setIfInBounds_toArray, List.set_cons_zero, List.set_cons_succ]
            refine tk (i := 29) (v := .bool false) (by simp only [List.getElem?_toArray, List.getElem?_cons_zero, List.getElem?_cons_succ]; rfl) (by kernel_rfl) (Or.inl ⟨by rfl, ?_⟩) hS7a22 ?_
            · (intro wq hSw; go_simp; all_goals with_reducible rfl)
            try simp only [Act.put, List.setIfInBounds_toArray, List.set_cons_zero, List.set_cons_succ]
            refine tk (i := 30) (v := ?_) (by simp only [List.getElem?_toArray, List.getElem?_cons_zero, List.getElem?_cons_succ]; rfl) (by kernel_rfl) (Or.inl ⟨by rfl, ?_⟩) hS7a22 ?_
            rotate_left
            · (intro wq hSw; go_simp; all_goals with_reducible rfl)
            try simp only [Act.put, List.setIfInBounds_toArray, List.set_cons_zero, List.set_cons_succ]
            refine tk (i := 31) (by simp only [List.getElem?_toArray, List.getElem?_cons_zero, List.getElem?_cons_succ]; rfl) (by kernel_rfl) (Or.inr ⟨by rfl, rfl⟩) hS7a22 ?_
            refine tk (i := 32) (by simp only [List.getElem?_toArray, List.getElem?_cons_zero, List.getElem?_cons_succ]; rfl) (by kernel_rfl) (Or.inr ⟨by rfl, rfl⟩) hS7a22 ?_
            refine tk (i := 33) (by simp only [List.getElem?_toArray, List.getElem?_cons_zero, List.getElem?_cons_succ]; rfl) (by kernel_rfl) (Or.inr ⟨by rfl, rfl⟩) hS7a22 ?_
            try simp only [Act.put, List.setIfInBounds_toArray, List.set_cons_zero, List.set_cons_succ]
            refine tk (i := 34) (v := .bool false) (by simp only [List.getElem?_toArray, List.getElem?_cons_zero, List.getElem?_cons_succ]; rfl) (by kernel_rfl) (Or.inl ⟨by rfl, ?_⟩) hS7a22 ?_
            · (intro wq hSw; go_simp; all_goals with_reducible rfl)
            try simp only [Act.put, List.setIfInBounds_toArray, List.set_cons_zero, List.set_cons_succ]
            refine tk (i := 35) (v := .bool false) (by simp only [List.getElem?_toArray, List.getElem?_cons_zero, List.getElem?_cons_succ]; rfl) (by kernel_rfl) (Or.inl ⟨by rfl, ?_⟩) hS7a22 ?_
            · (intro wq hSw; go_simp; all_goals with_reducible rfl)
            try simp only [Act.put, List.setIfInBounds_toArray, List.set_cons_zero, List.set_cons_succ]
            refine tk (i := 36) (v := ?_) (by simp only [List.getElem?_toArray, List.getElem?_cons_zero, List.getElem?_cons_succ]; rfl) (by kernel_rfl) (Or.inl ⟨by rfl, ?_⟩) hS7a22 ?_
            rotate_left
            · (intro wq hSw; go_simp; all_goals with_reducible rfl)
            try simp only [Act.put, List.setIfInBounds_toArray, List.set_cons_zero, List.set_cons_succ]
            refine tk (i := 37) (v := ?_) (by simp only [List.getElem?_toArray, List.getElem?_cons_zero, List.getElem?_cons_succ]; rfl) (by kernel_rfl) (Or.inl ⟨by rfl, ?_⟩) hS7a22 ?_
            rotate_left
            · (intro wq hSw; go_simp; all_goals with_reducible rfl)
            try simp only [Act.put, List.setIfInBounds_toArray, List.set_cons_zero, List.set_cons_succ]
            refine tk (i := 38) (v := .bool true) (by simp only [List.getElem?_toArray, List.getElem?_cons_zero, List.getElem?_cons_succ]; rfl) (by kernel_rfl) (Or.inl ⟨by rfl, ?_⟩) hS7a22 ?_
            · (intro wq hSw; go_simp; all_goals with_reducible rfl)
            try simp only [Act.put, List.setIfInBounds_toArray, List.set_cons_zero, List.set_cons_succ]
            refine tk (i := 39) (v := ?_) (by simp only [List.getElem?_toArray, List.getElem?_cons_zero, List.getElem?_cons_succ]; rfl) (by kernel_rfl) (Or.inl ⟨by rfl, ?_⟩) hS7a22 ?_
            rotate_left
            · (intro wq hSw; go_simp; all_goals with_reducible rfl)
            try simp only [Act.put, List.setIfInBounds_toArray, List.set_cons_zero, List.set_cons_succ]
            refine tk (i := 40) (v := _) (by simp only [List.getElem?_toArray, List.getElem?_cons_zero, List.getElem?_cons_succ]; rfl) (by kernel_rfl) (yieldsIf_load_mid (by rfl) 25 (.tmp 11) rfl Bc 0 rfl [.int .i64 c0, .int .i64 c1] _ (fun _ h => h.c) Tryd.underlying25 rfl sizeVec) hS7a22 ?_
            try simp only [Act.put, List.setIfInBounds_toArray, List.set_cons_zero, List.set_cons_succ]
            refine tk (i := 41) (v := ?_) (by simp only [List.getElem?_toArray, List.getElem?_cons_zero, List.getElem?_cons_succ]; rfl) (by kernel_rfl) (Or.inl ⟨by rfl, ?_⟩) hS7a22 ?_
            rotate_left
            · (intro wq hSw; go_simp; all_goals with_reducible rfl)
            try simp only [Act.put, List.setIfInBounds_toArray, List.set_cons_zero, List.set_cons_succ]
            refine tk (i := 42) (v := .bool false) (by simp only [List.getElem?_toArray, List.getElem?_cons_zero, List.getElem?_cons_succ]; rfl) (by kernel_rfl) (Or.inl ⟨by rfl, ?_⟩) hS7a22 ?_
            · (intro wq hSw; have z0 := Z0.out; have z1 := Z1.out; go_simp; all_goals with_reducible rfl)
            try simp only [Act.put, List.setIfInBounds_toArray, List.set_cons_zero, List.set_cons_succ]
            refine tk (i := 43) (v := .bool false) (by simp only [List.getElem?_toArray, List.getElem?_cons_zero, List.getElem?_cons_succ]; rfl) (by kernel_rfl) (Or.inl ⟨by rfl, ?_⟩) hS7a22 ?_
            · (intro wq hSw; go_simp; all_goals with_reducible rfl)
            try simp only [Act.put, List.setIfInBounds_toArray, List.set_cons_zero, List.set_cons_succ]
            refine tk (i := 44) (v := .bool false) (by simp only [List.getElem?_toArray, List.getElem?_cons_zero, List.getElem?_cons_succ]; rfl) (by kernel_rfl) (Or.inl ⟨by rfl, ?_⟩) hS7a22 ?_
            · (intro wq hSw; go_simp; all_goals with_reducible rfl)
            try simp only [Act.put, List.setIfInBounds_toArray, List.set_cons_zero, List.set_cons_succ]
            refine wpAnyH_done (by kernel_rfl) ?_ _
            refine NoPanic.normal ?_
            go_wp2_with fail
            go_meet
            case rel => exact ⟨rfl, hS7a22⟩
          · have hle : ¬ k ≤ 0 := by omega
            clear hk0
            as_aux_lemma =>
            refine wp_region_noPanic ?_
            refine wp_region_held_drew (S := (BndS Ba Bb Bs Bd Bc Bx ax ay bx by' s0 s1 d0 d1 c0 c1 x0 x1 w8)) (by kernel_rfl) HS5.out.drew (fun hHeld => ?_)
            clear hHeld
            refine tk (i := 0) (v := _) (by simp only [List.getElem?_toArray, List.getElem?_cons_zero]; rfl) (by kernel_rfl) (yieldsIf_load_mid (by rfl) 25 (.tmp 11) rfl Bc 0 rfl [.int .i64 c0, .int .i64 c1] _ (fun _ h => h.c) Tryd.underlying25 rfl sizeVec) HS5.out.drew ?_
            try simp only [Act.put, List.setIfInBounds_toArray, List.set_cons_zero, List.set_cons_succ]
            refine tk (i := 1) (v := ?_) (by simp only [List.getElem?_toArray, List.getElem?_cons_zero, List.getElem?_cons_succ]; rfl) (by kernel_rfl) (Or.inl ⟨by rfl, ?_⟩) HS5.out.drew ?_
            rotate_left
            · (intro wq hSw; go_simp; all_goals with_reducible rfl)
            try simp only [Act.put, List.setIfInBounds_toArray, List.set_cons_zero, List.set_cons_succ]
            refine tk (i := 3) (v := _) (by simp only [List.getElem?_toArray, List.getElem?_cons_zero, List.getElem?_cons_succ]; rfl) (by kernel_rfl) (yieldsIf_load_mid (by rfl) 25 (.tmp 11) rfl Bc 0 rfl [.int .i64 c0, .int .i64 c1] _ (fun _ h => h.c) Tryd.underlying25 rfl sizeVec) HS5.out.drew ?_
            try simp only [Act.put, List.setIfInBounds_toArray, List.set_cons_zero, List.set_cons_succ]
            refine wpAnyH_ready (rs := [2]) (by kernel_rfl) (by simp) ?_
            refine AllReadyH.cons (by simp only [List.getElem?_toArray, List.getElem?_cons_zero, List.getElem?_cons_succ]; rfl) (fun K hK => ?_) AllReadyH.nil
            go_simp
            go_at_call 25
            refine (HCc.out _ HS5.out.drew).mono ?_
            rintro r w7b20 ⟨rfl, hS7b20⟩
            go_wp2_with fail
            refine hK.out _ _ hS7b20 (fun _ => ?_)
            clear hK K
            try simp only [Act.put, List.setIfInBounds_toArray, List.set_cons_zero, List.set_cons_succ]
            refine tk (i := 4) (v := .bool false) (by simp only [List.getElem?_toArray, List.getElem?_cons_zero, List.getElem?_cons_succ]; rfl) (by kernel_rfl) (Or.inl ⟨by rfl, ?_⟩) hS7b20 ?_
            · (intro wq hSw; go_simp; all_goals with_reducible rfl)
            try simp only [Act.put, List.setIfInBounds_toArray, List.set_cons_zero, List.set_cons_succ]
            refine tk (i := 5) (v := ?_) (by simp only [List.getElem?_toArray, List.getElem?_cons_zero, List.getElem?_cons_succ]; rfl) (by kernel_rfl) (Or.inl ⟨by rfl, ?_⟩) hS7b20 ?_
            rotate_left
            · (intro wq hSw; go_simp; all_goals with_reducible rfl)
            try simp only [Act.put, List.setIfInBounds_toArray, List.set_cons_zero, List.set_cons_succ]
            refine tk (i := 6) (v := ?_) (by simp only [List.getElem?_toArray, List.getElem?_cons_zero, List.getElem?_cons_succ]; rfl) (by kernel_rfl) (Or.inl ⟨by rfl, ?_⟩) hS7b20 ?_
            rotate_left
            · (intro wq hSw; go_simp; all_goals with_reducible rfl)
            try simp only [Act.put, List.setIfInBounds_toArray, List.set_cons_zero, List.set_cons_succ]
            refine tk (i := 7) (v := .bool true) (by simp only [List.getElem?_toArray, List.getElem?_cons_zero, List.getElem?_cons_succ]; rfl) (by kernel_rfl) (Or.inl ⟨by rfl, ?_⟩) hS7b20 ?_
            · (intro wq hSw; go_simp; all_goals with_reducible rfl)
            try simp only [Act.put, List.setIfInBounds_toArray, List.set_cons_zero, List.set_cons_succ]
            refine tk (i := 8) (v := ?_) (by simp only [List.getElem?_toArray, List.getElem?_cons_zero, List.getElem?_cons_succ]; rfl) (by kernel_rfl) (Or.inl ⟨by rfl, ?_⟩) hS7b20 ?_
            rotate_left
            · (intro wq hSw; go_simp; all_goals with_reducible rfl)
            try simp only [Act.put, List.setIfInBounds_toArray, List.set_cons_zero, List.set_cons_succ]
            refine tk (i := 9) (v := ?_) (by simp only [List.getElem?_toArray, List.getElem?_cons_zero, List.getElem?_cons_succ]; rfl) (by kernel_rfl) (Or.inl ⟨by rfl, ?_⟩) hS7b20 ?_
            rotate_left
            · (intro wq hSw; go_simp; all_goals with_reducible rfl)
            try simp only [Act.put, List.setIfInBounds_toArray, List.set_cons_zero, List.set_cons_succ]
            refine tk (i := 10) (v := ?_) (by simp only [List.getElem?_toArray, List.getElem?_cons_zero, List.getElem?_cons_succ]; rfl) (by kernel_rfl) (Or.inl ⟨by rfl, ?_⟩) hS7b20 ?_
            rotate_left
            · (intro wq hSw; have a0 := hSw.a0; have a1 := hSw.a1; have b0 := hSw.b0; have b1 := hSw.b1; have s0' := hSw.s0'; have s1' := hSw.s1'; have d0' := hSw.d0'; have d1' := hSw.d1'; have c0' := hSw.c0'; have c1' := hSw.c1'; have x0' := hSw.x0'; have x1' := hSw.x1'; go_simp; all_goals with_reducible rfl)
            try simp only [Act.put, List.setIfInBounds_toArray, List.set_cons_zero, List.set_cons_succ]
            refine tk (i := 11) (v := ?_) (by simp only [List.getElem?_toArray, List.getElem?_cons_zero, List.getElem?_cons_succ]; rfl) (by kernel_rfl) (Or.inl ⟨by rfl, ?_⟩) hS7b20 ?_
            rotate_left
            · (intro wq hSw; go_simp; all_goals with_reducible rfl)
            try simp only [Act.put, List.setIfInBounds_toArray, List.set_cons_zero, List.set_cons_succ]
            refine wpAnyH_ready (rs := [12]) (by kernel_rfl) (by simp) ?_
            refine AllReadyH.cons (by simp only [List.getElem?_toArray, List.getElem?_cons_zero, List.getElem?_cons_succ]; rfl) (fun K hK => ?_) AllReadyH.nil
            go_simp
            go_at_call 11
            refine ((HIN.out ax k true hkr h1) _ hS7b20).mono ?_
            rintro r w7b21 ⟨rfl, hS7b21⟩
            go_wp2_with fail
            refine hK.out _ _ hS7b21 (fun _ => ?_)
            clear hK K
            try simp only [Act.put, List.setIfInBounds_toArray, List.set_cons_zero, List.set_cons_succ]
            refine tk (i := 13) (v := .bool true) (by simp only [List.getElem?_toArray, List.getElem?_cons_zero, List.getElem?_cons_succ]; rfl) (by kernel_rfl) (Or.inl ⟨by rfl, ?_⟩) hS7b21 ?_
            · (intro wq hSw; go_simp; all_goals with_reducible rfl)
            try simp only [Act.put, List.setIfInBounds_toArray, List.set_cons_zero, List.set_cons_succ]
            refine tk (i := 14) (v := ?_) (by simp only [List.getElem?_toArray, List.getElem?_cons_zero, List.getElem?_cons_succ]; rfl) (by kernel_rfl) (Or.inl ⟨by rfl, ?_⟩) hS7b21 ?_
            rotate_left
            · (intro wq hSw; go_simp; all_goals with_reducible rfl)
            try simp only [Act.put, List.setIfInBounds_toArray, List.set_cons_zero, List.set_cons_succ]
            refine tk (i := 15) (v := ?_) (by simp only [List.getElem?_toArray, List.getElem?_cons_zero, List.getElem?_cons_succ]; rfl) (by kernel_rfl) (Or.inl ⟨by rfl, ?_⟩) hS7b21 ?_
            rotate_left
            · (intro wq hSw; go_simp; all_goals with_reducible rfl)
            try simp only [Act.put, List.setIfInBounds_toArray, List.set_cons_zero, List.set_cons_succ]
            refine tk (i := 16) (v := ?_) (by simp only [List.getElem?_toArray, List.getElem?_cons_zero, List.getElem?_cons_succ]; rfl) (by kernel_rfl) (Or.inl ⟨by rfl, ?_⟩) hS7b21 ?_
            rotate_left
            · (intro wq hSw; have a0 := hSw.a0; have a1 := hSw.a1; have b0 := hSw.b0; have b1 := hSw.b1; have s0' := hSw.s0'; have s1' := hSw.s1'; have d0' := hSw.d0'; have d1' := hSw.d1'; have c0' := hSw.c0'; have c1' := hSw.c1'; have x0' := hSw.x0'; have x1' := hSw.x1'; go_simp; all_goals with_reducible rfl)
            try simp only [Act.put, List.setIfInBounds_toArray, List.set_cons_zero, List.set_cons_succ]
            refine tk (i := 17) (v := ?_) (by simp only [List.getElem?_toArray, List.getElem?_cons_zero, List.getElem?_cons_succ]; rfl) (by kernel_rfl) (Or.inl ⟨by rfl, ?_⟩) hS7b21 ?_
            rotate_left
            · (intro wq hSw; go_simp; all_goals with_reducible rfl)
            try simp only [Act.put, List.setIfInBounds_toArray, List.set_cons_zero, List.set_cons_succ]
            refine wpAnyH_ready (rs := [18]) (by kernel_rfl) (by simp) ?_
            refine AllReadyH.cons (by simp only [List.getElem?_toArray, List.getElem?_cons_zero, List.getElem?_cons_succ]; rfl) (fun K hK => ?_) AllReadyH.nil
            go_simp
            go_at_call 11
            refine ((HIN.out ay k false hkr h2) _ hS7b21).mono ?_
            rintro r w7b22 ⟨rfl, hS7b22⟩
            go_wp2_with fail
            refine hK.out _ _ hS7b22 (fun _ => ?_)
            clear hK K
            try simp only [Act.put, List.setIfInBounds_toArray, List.set_cons_zero, List.set_cons_succ]
            refine tk (i := 19) (v := .bool false) (by simp only [List.getElem?_toArray, List.getElem?_cons_zero, List.getElem?_cons_succ]; rfl) (by kernel_rfl) (Or.inl ⟨by rfl, ?_⟩) hS7b22 ?_
            · (intro wq hSw; go_simp; all_goals with_reducible rfl)
            try simp only [Act.put, List.setIfInBounds_toArray, List.set_cons_zero, List.set_cons_succ]
            refine tk (i := 20) (v := ?_) (by simp only [List.getElem?_toArray, List.getElem?_cons_zero, List.getElem?_cons_succ]; rfl) (by kernel_rfl) (Or.inl ⟨by rfl, ?_⟩) hS7b22 ?_
            rotate_left
            · (intro wq hSw; go_simp; all_goals with_reducible rfl)
            try simp only [Act.put, List.setIfInBounds_toArray, List.set_cons_zero, List.set_cons_succ]
            refine tk (i := 21) (by simp only [List.getElem?_toArray, List.getElem?_cons_zero, List.getElem?_cons_succ]; rfl) (by kernel_rfl) (Or.inr ⟨by rfl, rfl⟩) hS7b22 ?_
            refine tk (i := 22) (by simp only [List.getElem?_toArray, List.getElem?_cons_zero, List.getElem?_cons_succ]; rfl) (by kernel_rfl) (Or.inr ⟨by rfl, rfl⟩) hS7b22 ?_
            refine tk (i := 23) (by simp only [List.getElem?_toArray, List.getElem?_cons_zero, List.getElem?_cons_succ]; rfl) (by kernel_rfl) (Or.inr ⟨by rfl, rfl⟩) hS7b22 ?_
            try simp only [Act.put, List.setIfInBounds_toArray, List.set_cons_zero, List.set_cons_succ]
            refine tk (i := 24) (v := .bool false) (by simp only [List.getElem?_toArray, List.getElem?_cons_zero, List.getElem?_cons_succ]; rfl) (by kernel_rfl) (Or.inl ⟨by rfl, ?_⟩) hS7b22 ?_
            · (intro wq hSw; go_simp; all_goals with_reducible rfl)
            try simp only [Act.put, List.setIfInBounds_toArray, List.set_cons_zero, List.set_cons_succ]
            refine tk (i := 25) (v := ?_) (by simp only [List.getElem?_toArray, List.getElem?_cons_zero, List.getElem?_cons_succ]; rfl) (by kernel_rfl) (Or.inl ⟨by rfl, ?_⟩) hS7b22 ?_
            rotate_left
            · (intro wq hSw; go_simp; all_goals with_reducible rfl)
            try simp only [Act.put, List.setIfInBounds_toArray, List.set_cons_zero, List.set_cons_succ]
            refine tk (i := 26) (by simp only [List.getElem?_toArray, List.getElem?_cons_zero, List.getElem?_cons_succ]; rfl) (by kernel_rfl) (Or.inr ⟨by rfl, rfl⟩) hS7b22 ?_
            refine tk (i := 27) (by simp only [List.getElem?_toArray, List.getElem?_cons_zero, List.getElem?_cons_succ]; rfl) (by kernel_rfl) (Or.inr ⟨by rfl, rfl⟩) hS7b22 ?_
            refine tk (i := 28) (by simp only [List.getElem?_toArray, List.getElem?_cons_zero, List.getElem?_cons_succ]; rfl) (by kernel_rfl) (Or.inr ⟨by rfl, rfl⟩) hS7b22 ?_
            try simp only [Act.put, List.setIfInBounds_toArray, List.set_cons_zero, List.set_cons_succ]
            refine tk (i := 29) (v := .bool false) (by simp only [List.getElem?_toArray, List.getElem?_cons_zero, List.getElem?_cons_succ]; rfl) (by kernel_rfl) (Or.inl ⟨by rfl, ?_⟩) hS7b22 ?_
            · (intro wq hSw; go_simp; all_goals with_reducible rfl)
            try simp only [Act.put, List.setIfInBounds_toArray, List.set_cons_zero, List.set_cons_succ]
            refine tk (i := 30) (v := ?_) (by simp only [List.getElem?_toArray, List.getElem?_cons_zero, List.getElem?_cons_succ]; rfl) (by kernel_rfl) (Or.inl ⟨by rfl, ?_⟩) hS7b22 ?_
            rotate_left
            · (intro wq hSw; go_simp; all_goals with_reducible rfl)
            try simp only [Act.put, List.setIfInBounds_toArray, List.set_cons_zero, List.set_cons_succ]
            refine tk (i := 31) (by simp only [List.getElem?_toArray, List.getElem?_cons_zero, List.getElem?_cons_succ]; rfl) (by kernel_rfl) (Or.inr ⟨by rfl, rfl⟩) hS7b22 ?_
            refine tk (i := 32) (by simp only [List.getElem?_toArray, List.getElem?_cons_zero, List.getElem?_cons_succ]; rfl) (by kernel_rfl) (Or.inr ⟨by rfl, rfl⟩) hS7b22 ?_
            refine tk (i := 33) (by simp only [List.getElem?_toArray, List.getElem?_cons_zero, List.getElem?_cons_succ]; rfl) (by kernel_rfl) (Or.inr ⟨by rfl, rfl⟩) hS7b22 ?_
            try simp only [Act.put, List.setIfInBounds_toArray, List.set_cons_zero, List.set_cons_succ]
            refine tk (i := 34) (v := .bool false) (by simp only [List.getElem?_toArray, List.getElem?_cons_zero, List.getElem?_cons_succ]; rfl) (by kernel_rfl) (Or.inl ⟨by rfl, ?_⟩) hS7b22 ?_
            · (intro wq hSw; go_simp; all_goals with_reducible rfl)
            try simp only [Act.put, List.setIfInBounds_toArray, List.set_cons_zero, List.set_cons_succ]
            refine tk (i := 35) (v := .bool false) (by simp only [List.getElem?_toArray, List.getElem?_cons_zero, List.getElem?_cons_succ]; rfl) (by kernel_rfl) (Or.inl ⟨by rfl, ?_⟩) hS7b22 ?_
            · (intro wq hSw; go_simp; all_goals with_reducible rfl)
            try simp only [Act.put, List.setIfInBounds_toArray, List.set_cons_zero, List.set_cons_succ]
            refine tk (i := 36) (v := ?_) (by simp only [List.getElem?_toArray, List.getElem?_cons_zero, List.getElem?_cons_succ]; rfl) (by kernel_rfl) (Or.inl ⟨by rfl, ?_⟩) hS7b22 ?_
            rotate_left
            · (intro wq hSw; go_simp; all_goals with_reducible rfl)
            try simp only [Act.put, List.setIfInBounds_toArray, List.set_cons_zero, List.set_cons_succ]
            refine tk (i := 37) (v := ?_) (by simp only [List.getElem?_toArray, List.getElem?_cons_zero, List.getElem?_cons_succ]; rfl) (by kernel_rfl) (Or.inl ⟨by rfl, ?_⟩) hS7b22 ?_
            rotate_left
            · (intro wq hSw; go_simp; all_goals with_reducible rfl)
            try simp only [Act.put, List.setIfInBounds_toArray, List.set_cons_zero, List.set_cons_succ]
            refine tk (i := 38) (v := .bool false) (by simp only [List.getElem?_toArray, List.getElem?_cons_zero, List.getElem?_cons_succ]; rfl) (by kernel_rfl) (Or.inl ⟨by rfl, ?_⟩) hS7b22 ?_
            · (intro wq hSw; go_simp; all_goals with_reducible rfl)
            try simp only [Act.put, List.setIfInBounds_toArray, List.set_cons_zero, List.set_cons_succ]
            refine tk (i := 39) (v := ?_) (by simp only [List.getElem?_toArray, List.getElem?_cons_zero, List.getElem?_cons_succ]; rfl) (by kernel_rfl) (Or.inl ⟨by rfl, ?_⟩) hS7b22 ?_
            rotate_left
            · (intro wq hSw; go_simp; all_goals with_reducible rfl)
            try simp only [Act.put, List.setIfInBounds_toArray, List.set_cons_zero, List.set_cons_succ]
            refine tk (i := 40) (by simp only [List.getElem?_toArray, List.getElem?_cons_zero, List.getElem?_cons_succ]; rfl) (by kernel_rfl) (Or.inr ⟨by rfl, rfl⟩) hS7b22 ?_
            refine tk (i := 41) (by simp only [List.getElem?_toArray, List.getElem?_cons_zero, List.getElem?_cons_succ]; rfl) (by kernel_rfl) (Or.inr ⟨by rfl, rfl⟩) hS7b22 ?_
            refine tk (i := 42) (by simp only [List.getElem?_toArray, List.getElem?_cons_zero, List.getElem?_cons_succ]; rfl) (by kernel_rfl) (Or.inr ⟨by rfl, rfl⟩) hS7b22 ?_
            try simp only [Act.put, List.setIfInBounds_toArray, List.set_cons_zero, List.set_cons_succ]
            refine tk (i := 43) (v := .bool false) (by simp only [List.getElem?_toArray, List.getElem?_cons_zero, List.getElem?_cons_succ]; rfl) (by kernel_rfl) (Or.inl ⟨by rfl, ?_⟩) hS7b22 ?_
            · (intro wq hSw; go_simp; all_goals with_reducible rfl)
            try simp only [Act.put, List.setIfInBounds_toArray, List.set_cons_zero, List.set_cons_succ]
            refine tk (i := 44) (v := .bool false) (by simp only [List.getElem?_toArray, List.getElem?_cons_zero, List.getElem?_cons_succ]; rfl) (by kernel_rfl) (Or.inl ⟨by rfl, ?_⟩) hS7b22 ?_
            · (intro wq hSw; go_simp; all_goals with_reducible rfl)
            try simp only [Act.put, List.setIfInBounds_toArray, List.set_cons_zero, List.set_cons_succ]
            refine wpAnyH_done (by kernel_rfl) ?_ _
            refine NoPanic.normal ?_
            go_wp2_with fail
            go_meet
            case rel => exact ⟨rfl, hS7b22⟩
      · have h1 := decide_eq_false g1
        clear g1
        by_cases hk0 : k = 0
        · have hle : k ≤ 0 := by omega
          have z0 : c0 = 0 := by rw [← HF.out.2.2.2.2.1, hk0]; exact FixM.keep_zero _
          have z1 : c1 = 0 := by rw [← HF.out.2.2.2.2.2, hk0]; exact FixM.keep_zero _
          have Z0 := Lib.hid z0; have Z1 := Lib.hid z1
          clear hk0 z0 z1
          as_aux_lemma =>
          refine wp_region_noPanic ?_
          refine wp_region_held_drew (S := (BndS Ba Bb Bs Bd Bc Bx ax ay bx by' s0 s1 d0 d1 c0 c1 x0 x1 w8)) (by kernel_rfl) HS5.out.drew (fun hHeld => ?_)
          clear hHeld
          refine tk (i := 0) (v := _) (by simp only [List.getElem?_toArray, List.getElem?_cons_zero]; rfl) (by kernel_rfl) (yieldsIf_load_mid (by rfl) 25 (.tmp 11) rfl Bc 0 rfl [.int .i64 c0, .int .i64 c1] _ (fun _ h => h.c) Tryd.underlying25 rfl sizeVec) HS5.out.drew ?_
          try simp only [Act.put, List.setIfInBounds_toArray, List.set_cons_zero, List.set_cons_succ]
          refine tk (i := 1) (v := ?_) (by simp only [List.getElem?_toArray, List.getElem?_cons_zero, List.getElem?_cons_succ]; rfl) (by kernel_rfl) (Or.inl ⟨by rfl, ?_⟩) HS5.out.drew ?_
          rotate_left
          · (intro wq hSw; go_simp; all_goals with_reducible rfl)
          try simp only [Act.put, List.setIfInBounds_toArray, List.set_cons_zero, List.set_cons_succ]
          refine tk (i := 3) (v := _) (by simp only [List.getElem?_toArray, List.getElem?_cons_zero, List.getElem?_cons_succ]; rfl) (by kernel_rfl) (yieldsIf_load_mid (by rfl) 25 (.tmp 11) rfl Bc 0 rfl [.int .i64 c0, .int .i64 c1] _ (fun _ h => h.c) Tryd.underlying25 rfl sizeVec) HS5.out.drew ?_
          try simp only [Act.put, List.setIfInBounds_toArray, List.set_cons_zero, List.set_cons_succ]
          refine wpAnyH_ready (rs := [2]) (by kernel_rfl) (by simp) ?_
          refine AllReadyH.cons (by simp only [List.getElem?_toArray, List.getElem?_cons_zero, List.getElem?_cons_succ]; rfl) (fun K hK => ?_) AllReadyH.nil
          go_simp
          go_at_call 25
          refine (HCc.out _ HS5.out.drew).mono ?_
          rintro r w7a10 ⟨rfl, hS7a10⟩
          go_wp2_with fail
          refine hK.out _ _ hS7a10 (fun _ => ?_)
          clear hK K
          try simp only [Act.put, List.setIfInBounds_toArray, List.set_cons_zero, List.set_cons_succ]
          refine tk (i := 4) (v := .bool false) (by simp only [List.getElem?_toArray, List.getElem?_cons_zero, List.getElem?_cons_succ]; rfl) (by kernel_rfl) (Or.inl ⟨by rfl, ?_⟩) hS7a10 ?_
          · (intro wq hSw; go_simp; all_goals with_reducible rfl)
          try simp only [Act.put, List.setIfInBounds_toArray, List.set_cons_zero, List.set_cons_succ]
          refine tk (i := 5) (v := ?_) (by simp only [List.getElem?_toArray, List.getElem?_cons_zero, List.getElem?_cons_succ]; rfl) (by kernel_rfl) (Or.inl ⟨by rfl, ?_⟩) hS7a10 ?_
          rotate_left
          · (intro wq hSw; go_simp; all_goals with_reducible rfl)
          try simp only [Act.put, List.setIfInBounds_toArray, List.set_cons_zero, List.set_cons_succ]
          refine tk (i := 6) (v := ?_) (by simp only [List.getElem?_toArray, List.getElem?_cons_zero, List.getElem?_cons_succ]; rfl) (by kernel_rfl) (Or.inl ⟨by rfl, ?_⟩) hS7a10 ?_
          rotate_left
          · (intro wq hSw; go_simp; all_goals with_reducible rfl)
          try simp only [Act.put, List.setIfInBounds_toArray, List.set_cons_zero, List.set_cons_succ]
          refine tk (i := 7) (v := .bool true) (by simp only [List.getElem?_toArray, List.getElem?_cons_zero, List.getElem?_cons_succ]; rfl) (by kernel_rfl) (Or.inl ⟨by rfl, ?_⟩) hS7a10 ?_
          · (intro wq hSw; go_simp; all_goals with_reducible rfl)
          try simp only [Act.put, List.setIfInBounds_toArray, List.set_cons_zero, List.set_cons_succ]
          refine tk (i := 8) (v := ?_) (by simp only [List.getElem?_toArray, List.getElem?_cons_zero, List.getElem?_cons_succ]; rfl) (by kernel_rfl) (Or.inl ⟨by rfl, ?_⟩) hS7a10 ?_
          rotate_left
          · (intro wq hSw; go_simp; all_goals with_reducible rfl)
          try simp only [Act.put, List.setIfInBounds_toArray, List.set_cons_zero, List.set_cons_succ]
          refine tk (i := 9) (v := ?_) (by simp only [List.getElem?_toArray, List.getElem?_cons_zero, List.getElem?_cons_succ]; rfl) (by kernel_rfl) (Or.inl ⟨by rfl, ?_⟩) hS7a10 ?_
          rotate_left
          · (intro wq hSw; go_simp; all_goals with_reducible rfl)
          try simp only [Act.put, List.setIfInBounds_toArray, List.set_cons_zero, List.set_cons_succ]
          refine tk (i := 10) (v := ?_) (by simp only [List.getElem?_toArray, List.getElem?_cons_zero, List.getElem?_cons_succ]; rfl) (by kernel_rfl) (Or.inl ⟨by rfl, ?_⟩) hS7a10 ?_
          rotate_left
          · (intro wq hSw; have a0 := hSw.a0; have a1 := hSw.a1; have b0 := hSw.b0; have b1 := hSw.b1; have s0' := hSw.s0'; have s1' := hSw.s1'; have d0' := hSw.d0'; have d1' := hSw.d1'; have c0' := hSw.c0'; have c1' := hSw.c1'; have x0' := hSw.x0'; have x1' := hSw.x1'; go_simp; all_goals with_reducible rfl)
          try simp only [Act.put, List.setIfInBounds_toArray, List.set_cons_zero, List.set_cons_succ]
          refine tk (i := 11) (v := ?_) (by simp only [List.getElem?_toArray, List.getElem?_cons_zero, List.getElem?_cons_succ]; rfl) (by kernel_rfl) (Or.inl ⟨by rfl, ?_⟩) hS7a10 ?_
          rotate_left
          · (intro wq hSw; go_simp; all_goals with_reducible rfl)
          try simp only [Act.put, List.setIfInBounds_toArray, List.set_cons_zero, List.set_cons_succ]
          refine wpAnyH_ready (rs := [12]) (by kernel_rfl) (by simp) ?_
          refine AllReadyH.cons (by simp only [List.getElem?_toArray, List.getElem?_cons_zero, List.getElem?_cons_succ]; rfl) (fun K hK => ?_) AllReadyH.nil
          go_simp
          go_at_call 11
          refine ((HIN.out ax k false hkr h1) _ hS7a10).mono ?_
          rintro r w7a11 ⟨rfl, hS7a11⟩
          go_wp2_with fail
          refine hK.out _ _ hS7a11 (fun _ => ?_)
          clear hK K
          try simp only [Act.put, List.setIfInBounds_toArray, List.set_cons_zero, List.set_cons_succ]
          refine tk (i := 13) (v := .bool false) (by simp only [List.getElem?_toArray, List.getElem?_cons_zero, List.getElem?_cons_succ]; rfl) (by kernel_rfl) (Or.inl ⟨by rfl, ?_⟩) hS7a11 ?_
          · (intro wq hSw; go_simp; all_goals with_reducible rfl)
          try simp only [Act.put, List.setIfInBounds_toArray, List.set_cons_zero, List.set_cons_succ]
          refine tk (i := 14) (v := ?_) (by simp only [List.getElem?_toArray, List.getElem?_cons_zero, List.getElem?_cons_succ]; rfl) (by kernel_rfl) (Or.inl ⟨by rfl, ?_⟩) hS7a11 ?_
          rotate_left
          · (intro wq hSw; go_simp; all_goals with_reducible rfl)
          try simp only [Act.put, List.setIfInBounds_toArray, List.set_cons_zero, List.set_cons_succ]
          refine tk (i := 15) (by simp only [List.getElem?_toArray, List.getElem?_cons_zero, List.getElem?_cons_succ]; rfl) (by kernel_rfl) (Or.inr ⟨by rfl, rfl⟩) hS7a11 ?_
          refine tk (i := 16) (by simp only [List.getElem?_toArray, List.getElem?_cons_zero, List.getElem?_cons_succ]; rfl) (by kernel_rfl) (Or.inr ⟨by rfl, rfl⟩) hS7a11 ?_
          refine tk (i := 17) (by simp only [List.getElem?_toArray, List.getElem?_cons_zero, List.getElem?_cons_succ]; rfl) (by kernel_rfl) (Or.inr ⟨by rfl, rfl⟩) hS7a11 ?_
          refine tk (i := 18) (by simp only [List.getElem?_toArray, List.getElem?_cons_zero, List.getElem?_cons_succ]; rfl) (by kernel_rfl) (Or.inr ⟨by rfl, rfl⟩) hS7a11 ?_
          try simp only [Act.put, List.setIfInBounds_toArray, List.set_cons_zero, List.set_cons_succ]
          refine tk (i := 19) (v := .bool false) (by simp only [List.getElem?_toArray, List.getElem?_cons_zero, List.getElem?_cons_succ]; rfl) (by kernel_rfl) (Or.inl ⟨by rfl, ?_⟩) hS7a11 ?_
          · (intro wq hSw; go_simp; all_goals with_reducible rfl)
          try simp only [Act.put, List.setIfInBounds_toArray, List.set_cons_zero, List.set_cons_succ]
          refine tk (i := 20) (v := ?_) (by simp only [List.getElem?_toArray, List.getElem?_cons_zero, List.getElem?_cons_succ]; rfl) (by kernel_rfl) (Or.inl ⟨by rfl, ?_⟩) hS7a11 ?_
          rotate_left
          · (intro wq hSw; go_simp; all_goals with_reducible rfl)
          try simp only [Act.put, List.setIfInBounds_toArray, List.set_cons_zero, List.set_cons_succ]
          refine tk (i := 21) (by simp only [List.getElem?_toArray, List.getElem?_cons_zero, List.getElem?_cons_succ]; rfl) (by kernel_rfl) (Or.inr ⟨by rfl, rfl⟩) hS7a11 ?_
          refine tk (i := 22) (by simp only [List.getElem?_toArray, List.getElem?_cons_zero, List.getElem?_cons_succ]; rfl) (by kernel_rfl) (Or.inr ⟨by rfl, rfl⟩) hS7a11 ?_
          refine tk (i := 23) (by simp only [List.getElem?_toArray, List.getElem?_cons_zero, List.getElem?_cons_succ]; rfl) (by kernel_rfl) (Or.inr ⟨by rfl, rfl⟩) hS7a11 ?_
          try simp only [Act.put, List.setIfInBounds_toArray, List.set_cons_zero, List.set_cons_succ]
          refine tk (i := 24) (v := .bool false) (by simp only [List.getElem?_toArray, List.getElem?_cons_zero, List.getElem?_cons_succ]; rfl) (by kernel_rfl) (Or.inl ⟨by rfl, ?_⟩) hS7a11 ?_
          · (intro wq hSw; go_simp; all_goals with_reducible rfl)
          try simp only [Act.put, List.setIfInBounds_toArray, List.set_cons_zero, List.set_cons_succ]
          refine tk (i := 25) (v := ?_) (by simp only [List.getElem?_toArray, List.getElem?_cons_zero, List.getElem?_cons_succ]; rfl) (by kernel_rfl) (Or.inl ⟨by rfl, ?_⟩) hS7a11 ?_
          rotate_left
          · (intro wq hSw; go_simp; all_goals with_reducible rfl)
          try simp only [Act.put, List.setIfInBounds_toArray, List.set_cons_zero, List.set_cons_succ]
          refine tk (i := 26) (by simp only [List.getElem?_toArray, List.getElem?_cons_zero, List.getElem?_cons_succ]; rfl) (by kernel_rfl) (Or.inr ⟨by rfl, rfl⟩) hS7a11 ?_
          refine tk (i := 27) (by simp only [List.getElem?_toArray, List.getElem?_cons_zero, List.getElem?_cons_succ]; rfl) (by kernel_rfl) (Or.inr ⟨by rfl, rfl⟩) hS7a11 ?_
          refine tk (i := 28) (by simp only [List.getElem?_toArray, List.getElem?_cons_zero, List.getElem?_cons_succ]; rfl) (by kernel_rfl) (Or.inr ⟨by rfl, rfl⟩) hS7a11 ?_
          try simp only [Act.put, List.setIfInBounds_toArray, List.set_cons_zero, List.set_cons_succ]
          refine tk (i := 29) (v := .bool false) (by simp only [List.getElem?_toArray, List.getElem?_cons_zero, List.getElem?_cons_succ]; rfl) (by kernel_rfl) (Or.inl ⟨by rfl, ?_⟩) hS7a11 ?_
          · (intro wq hSw; go_simp; all_goals with_reducible rfl)
          try simp only [Act.put, List.setIfInBounds_toArray, List.set_cons_zero, List.set_cons_succ]
          refine tk (i := 30) (v := ?_) (by simp only [List.getElem?_toArray, List.getElem?_cons_zero, List.getElem?_cons_succ]; rfl) (by kernel_rfl) (Or.inl ⟨by rfl, ?_⟩) hS7a11 ?_
          rotate_left
          · (intro wq hSw; go_simp; all_goals with_reducible rfl)
          try simp only [Act.put, List.setIfInBounds_toArray, List.set_cons_zero, List.set_cons_succ]
          refine tk (i := 31) (by simp only [List.getElem?_toArray, List.getElem?_cons_zero, List.getElem?_cons_succ]; rfl) (by kernel_rfl) (Or.inr ⟨by rfl, rfl⟩) hS7a11 ?_
          refine tk (i := 32) (by simp only [List.getElem?_toArray, List.getElem?_cons_zero, List.getElem?_cons_succ]; rfl) (by kernel_rfl) (Or.inr ⟨by rfl, rfl⟩) hS7a11 ?_
          refine tk (i := 33) (by simp only [List.getElem?_toArray, List.getElem?_cons_zero, List.getElem?_cons_succ]; rfl) (by kernel_rfl) (Or.inr ⟨by rfl, rfl⟩) hS7a11 ?_
          try simp only [Act.put, List.setIfInBounds_toArray, List.set_cons_zero, List.set_cons_succ]
          refine tk (i := 34) (v := .bool false) (by simp only [List.getElem?_toArray, List.getElem?_cons_zero, List.getElem?_cons_succ]; rfl) (by kernel_rfl) (Or.inl ⟨by rfl, ?_⟩) hS7a11 ?_
          · (intro wq hSw; go_simp; all_goals with_reducible rfl)
          try simp only [Act.put, List.setIfInBounds_toArray, List.set_cons_zero, List.set_cons_succ]
          refine tk (i := 35) (v := .bool false) (by simp only [List.getElem?_toArray, List.getElem?_cons_zero, List.getElem?_cons_succ]; rfl) (by kernel_rfl) (Or.inl ⟨by rfl, ?_⟩) hS7a11 ?_
          · (intro wq hSw; go_simp; all_goals with_reducible rfl)
          try simp only [Act.put, List.setIfInBounds_toArray, List.set_cons_zero, List.set_cons_succ]
          refine tk (i := 36) (v := ?_) (by simp only [List.getElem?_toArray, List.getElem?_cons_zero, List.getElem?_cons_succ]; rfl) (by kernel_rfl) (Or.inl ⟨by rfl, ?_⟩) hS7a11 ?_
          rotate_left
          · (intro wq hSw; go_simp; all_goals with_reducible rfl)
          try simp only [Act.put, List.setIfInBounds_toArray, List.set_cons_zero, List.set_cons_succ]
          refine tk (i := 37) (v := ?_) (by simp only [List.getElem?_toArray, List.getElem?_cons_zero, List.getElem?_cons_succ]; rfl) (by kernel_rfl) (Or.inl ⟨by rfl, ?_⟩) hS7a11 ?_
          rotate_left
          · (intro wq hSw; go_simp; all_goals with_reducible rfl)
          try simp only [Act.put, List.setIfInBounds_toArray, List.set_cons_zero, List.set_cons_succ]
          refine tk (i := 38) (v := .bool true) (by simp only [List.getElem?_toArray, List.getElem?_cons_zero, List.getElem?_cons_succ]; rfl) (by kernel_rfl) (Or.inl ⟨by rfl, ?_⟩) hS7a11 ?_
          · (intro wq hSw; go_simp; all_goals with_reducible rfl)
          try simp only [Act.put, List.setIfInBounds_toArray, List.set_cons_zero, List.set_cons_succ]
          refine tk (i := 39) (v := ?_) (by simp only [List.getElem?_toArray, List.getElem?_cons_zero, List.getElem?_cons_succ]; rfl) (by kernel_rfl) (Or.inl ⟨by rfl, ?_⟩) hS7a11 ?_
          rotate_left
          · (intro wq hSw; go_simp; all_goals with_reducible rfl)
          try simp only [Act.put, List.setIfInBounds_toArray, List.set_cons_zero, List.set_cons_succ]
          refine tk (i := 40) (v := _) (by simp only [List.getElem?_toArray, List.getElem?_cons_zero, List.getElem?_cons_succ]; rfl) (by kernel_rfl) (yieldsIf_load_mid (by rfl) 25 (.tmp 11) rfl Bc 0 rfl [.int .i64 c0, .int .i64 c1] _ (fun _ h => h.c) Tryd.underlying25 rfl sizeVec) hS7a11 ?_
          try simp only [Act.put, List.setIfInBounds_toArray, List.set_cons_zero, List.set_cons_succ]
          refine tk (i := 41) (v := ?_) (by simp only [List.getElem?_toArray, List.getElem?_cons_zero, List.getElem?_cons_succ]; rfl) (by kernel_rfl) (Or.inl ⟨by rfl, ?_⟩) hS7a11 ?_
          rotate_left
          · (intro wq hSw; go_simp; all_goals with_reducible rfl)
          try simp only [Act.put, List.setIfInBounds_toArray, List.set_cons_zero, List.set_cons_succ]
          refine tk (i := 42) (v := .bool false) (by simp only [List.getElem?_toArray, List.getElem?_cons_zero, List.getElem?_cons_succ]; rfl) (by kernel_rfl) (Or.inl ⟨by rfl, ?_⟩) hS7a11 ?_
          · (intro wq hSw; have z0 := Z0.out; have z1 := Z1.out; go_simp; all_goals with_reducible rfl)
          try simp only [Act.put, List.setIfInBounds_toArray, List.set_cons_zero, List.set_cons_succ]
          refine tk (i := 43) (v := .bool false) (by simp only [List.getElem?_toArray, List.getElem?_cons_zero, List.getElem?_cons_succ]; rfl) (by kernel_rfl) (Or.inl ⟨by rfl, ?_⟩) hS7a11 ?_
          · (intro wq hSw; go_simp; all_goals with_reducible rfl)
          try simp only [Act.put, List.setIfInBounds_toArray, List.set_cons_zero, List.set_cons_succ]
          refine tk (i := 44) (v := .bool false) (by simp only [List.getElem?_toArray, List.getElem?_cons_zero, List.getElem?_cons_succ]; rfl) (by kernel_rfl) (Or.inl ⟨by rfl, ?_⟩) hS7a11 ?_
          · (intro wq hSw; go_simp; all_goals with_reducible rfl)
          try simp only [Act.put, List.setIfInBounds_toArray, List.set_cons_zero, List.set_cons_succ]
          refine wpAnyH_done (by kernel_rfl) ?_ _
          refine NoPanic.normal ?_
          go_wp2_with fail
          go_meet
          case rel => exact ⟨rfl, hS7a11⟩
        · have hle : ¬ k ≤ 0 := by omega
          clear hk0
          as_aux_lemma =>
          refine wp_region_noPanic ?_
          refine wp_region_held_drew (S := (BndS Ba Bb Bs Bd Bc Bx ax ay bx by' s0 s1 d0 d1 c0 c1 x0 x1 w8)) (by kernel_rfl) HS5.out.drew (fun hHeld => ?_)
          clear hHeld
          refine tk (i := 0) (v := _) (by simp only [List.getElem?_toArray, List.getElem?_cons_zero]; rfl) (by kernel_rfl) (yieldsIf_load_mid (by rfl) 25 (.tmp 11) rfl Bc 0 rfl [.int .i64 c0, .int .i64 c1] _ (fun _ h => h.c) Tryd.underlying25 rfl sizeVec) HS5.out.drew ?_
          try simp only [Act.put, List.setIfInBounds_toArray, List.set_cons_zero, List.set_cons_succ]
          refine tk (i := 1) (v := ?_) (by simp only [List.getElem?_toArray, List.getElem?_cons_zero, List.getElem?_cons_succ]; rfl) (by kernel_rfl) (Or.inl ⟨by rfl, ?_⟩) HS5.out.drew ?_
          rotate_left
          · (intro wq hSw; go_simp; all_goals with_reducible rfl)
          try simp only [Act.put, List.setIfInBounds_toArray, List.set_cons_zero, List.set_cons_succ]
          refine tk (i := 3) (v := _) (by simp only [List.getElem?_toArray, List.getElem?_cons_zero, List.getElem?_cons_succ]; rfl) (by kernel_rfl) (yieldsIf_load_mid (by rfl) 25 (.tmp 11) rfl Bc 0 rfl [.int .i64 c0, .int .i64 c1] _ (fun _ h => h.c) Tryd.underlying25 rfl sizeVec) HS5.out.drew ?_
          try simp only [Act.put, List.setIfInBounds_toArray, List.set_cons_zero, List.set_cons_succ]
          refine wpAnyH_ready (rs := [2]) (by kernel_rfl) (by simp) ?_
          refine AllReadyH.cons (by simp only [List.getElem?_toArray, List.getElem?_cons_zero, List.getElem?_cons_succ]; rfl) (fun K hK => ?_) AllReadyH.nil
          go_simp
          go_at_call 25
          refine (HCc.out _ HS5.out.drew).mono ?_
          rintro r w7b10 ⟨rfl, hS7b10⟩
          go_wp2_with fail
          refine hK.out _ _ hS7b10 (fun _ => ?_)
          clear hK K
          try simp only [Act.put, List.setIfInBounds_toArray, List.set_cons_zero, List.set_cons_succ]
          refine tk (i := 4) (v := .bool false) (by simp only [List.getElem?_toArray, List.getElem?_cons_zero, List.getElem?_cons_succ]; rfl) (by kernel_rfl) (Or.inl ⟨by rfl, ?_⟩) hS7b10 ?_
          · (intro wq hSw; go_simp; all_goals with_reducible rfl)
          try simp only [Act.put, List.setIfInBounds_toArray, List.set_cons_zero, List.set_cons_succ]
          refine tk (i := 5) (v := ?_) (by simp only [List.getElem?_toArray, List.getElem?_cons_zero, List.getElem?_cons_succ]; rfl) (by kernel_rfl) (Or.inl ⟨by rfl, ?_⟩) hS7b10 ?_
          rotate_left
          · (intro wq hSw; go_simp; all_goals with_reducible rfl)
          try simp only [Act.put, List.setIfInBounds_toArray, List.set_cons_zero, List.set_cons_succ]
          refine tk (i := 6) (v := ?_) (by simp only [List.getElem?_toArray, List.getElem?_cons_zero, List.getElem?_cons_succ]; rfl) (by kernel_rfl) (Or.inl ⟨by rfl, ?_⟩) hS7b10 ?_
          rotate_left
          · (intro wq hSw; go_simp; all_goals with_reducible rfl)
          try simp only [Act.put, List.setIfInBounds_toArray, List.set_cons_zero, List.set_cons_succ]
          refine tk (i := 7) (v := .bool true) (by simp only [List.getElem?_toArray, List.getElem?_cons_zero, List.getElem?_cons_succ]; rfl) (by kernel_rfl) (Or.inl ⟨by rfl, ?_⟩) hS7b10 ?_
          · (intro wq hSw; go_simp; all_goals with_reducible rfl)
          try simp only [Act.put, List.setIfInBounds_toArray, List.set_cons_zero, List.set_cons_succ]
          refine tk (i := 8) (v := ?_) (by simp only [List.getElem?_toArray, List.getElem?_cons_zero, List.getElem?_cons_succ]; rfl) (by kernel_rfl) (Or.inl ⟨by rfl, ?_⟩) hS7b10 ?_
          rotate_left
          · (intro wq hSw; go_simp; all_goals with_reducible rfl)
          try simp only [Act.put, List.setIfInBounds_toArray, List.set_cons_zero, List.set_cons_succ]
          refine tk (i := 9) (v := ?_) (by simp only [List.getElem?_toArray, List.getElem?_cons_zero, List.getElem?_cons_succ]; rfl) (by kernel_rfl) (Or.inl ⟨by rfl, ?_⟩) hS7b10 ?_
          rotate_left
          · (intro wq hSw; go_simp; all_goals with_reducible rfl)
          try simp only [Act.put, List.setIfInBounds_toArray, List.set_cons_zero, List.set_cons_succ]
          refine tk (i := 10) (v := ?_) (by simp only [List.getElem?_toArray, List.getElem?_cons_zero, List.getElem?_cons_succ]; rfl) (by kernel_rfl) (Or.inl ⟨by rfl, ?_⟩) hS7b10 ?_
          rotate_left
          · (intro wq hSw; have a0 := hSw.a0; have a1 := hSw.a1; have b0 := hSw.b0; have b1 := hSw.b1; have s0' := hSw.s0'; have s1' := hSw.s1'; have d0' := hSw.d0'; have d1' := hSw.d1'; have c0' := hSw.c0'; have c1' := hSw.c1'; have x0' := hSw.x0'; have x1' := hSw.x1'; go_simp; all_goals with_reducible rfl)
          try simp only [Act.put, List.setIfInBounds_toArray, List.set_cons_zero, List.set_cons_succ]
          refine tk (i := 11) (v := ?_) (by simp only [List.getElem?_toArray, List.getElem?_cons_zero, List.getElem?_cons_succ]; rfl) (by kernel_rfl) (Or.inl ⟨by rfl, ?_⟩) hS7b10 ?_
          rotate_left
          · (intro wq hSw; go_simp; all_goals with_reducible rfl)
          try simp only [Act.put, List.setIfInBounds_toArray, List.set_cons_zero, List.set_cons_succ]
          refine wpAnyH_ready (rs := [12]) (by kernel_rfl) (by simp) ?_
          refine AllReadyH.cons (by simp only [List.getElem?_toArray, List.getElem?_cons_zero, List.getElem?_cons_succ]; rfl) (fun K hK => ?_) AllReadyH.nil
          go_simp
          go_at_call 11
          refine ((HIN.out ax k false hkr h1) _ hS7b10).mono ?_
          rintro r w7b11 ⟨rfl, hS7b11⟩
          go_wp2_with fail
          refine hK.out _ _ hS7b11 (fun _ => ?_)
          clear hK K
          try simp only [Act.put, List.setIfInBounds_toArray, List.set_cons_zero, List.set_cons_succ]
          refine tk (i := 13) (v := .bool false) (by simp only [List.getElem?_toArray, List.getElem?_cons_zero, List.getElem?_cons_succ]; rfl) (by kernel_rfl) (Or.inl ⟨by rfl, ?_⟩) hS7b11 ?_
          · (intro wq hSw; go_simp; all_goals with_reducible rfl)
          try simp only [Act.put, List.setIfInBounds_toArray, List.set_cons_zero, List.set_cons_succ]
          refine tk (i := 14) (v := ?_) (by simp only [List.getElem?_toArray, List.getElem?_cons_zero, List.getElem?_cons_succ]; rfl) (by kernel_rfl) (Or.inl ⟨by rfl, ?_⟩) hS7b11 ?_
          rotate_left
          · (intro wq hSw; go_simp; all_goals with_reducible rfl)
          try simp only [Act.put, List.setIfInBounds_toArray, List.set_cons_zero, List.set_cons_succ]
          refine tk (i := 15) (by simp only [List.getElem?_toArray, List.getElem?_cons_zero, List.getElem?_cons_succ]; rfl) (by kernel_rfl) (Or.inr ⟨by rfl, rfl⟩) hS7b11 ?_
          refine tk (i := 16) (by simp only [List.getElem?_toArray, List.getElem?_cons_zero, List.getElem?_cons_succ]; rfl) (by kernel_rfl) (Or.inr ⟨by rfl, rfl⟩) hS7b11 ?_
          refine tk (i := 17) (by simp only [List.getElem?_toArray, List.getElem?_cons_zero, List.getElem?_cons_succ]; rfl) (by kernel_rfl) (Or.inr ⟨by rfl, rfl⟩) hS7b11 ?_
          refine tk (i := 18) (by simp only [List.getElem?_toArray, List.getElem?_cons_zero, List.getElem?_cons_succ]; rfl) (by kernel_rfl) (Or.inr ⟨by rfl, rfl⟩) hS7b11 ?_
          try simp only [Act.put, List.setIfInBounds_toArray, List.set_cons_zero, List.set_cons_succ]
          refine tk (i := 19) (v := .bool false) (by simp only [List.getElem?_toArray, List.getElem?_cons_zero, List.getElem?_cons_succ]; rfl) (by kernel_rfl) (Or.inl ⟨by rfl, ?_⟩) hS7b11 ?_
          · (intro wq hSw; go_simp; all_goals with_reducible rfl)
          try simp only [Act.put, List.setIfInBounds_toArray, List.set_cons_zero, List.set_cons_succ]
          refine tk (i := 20) (v := ?_) (by simp only [List.getElem?_toArray, List.getElem?_cons_zero, List.getElem?_cons_succ]; rfl) (by kernel_rfl) (Or.inl ⟨by rfl, ?_⟩) hS7b11 ?_
          rotate_left
          · (intro wq hSw; go_simp; all_goals with_reducible rfl)
          try simp only [Act.put, List.setIfInBounds_toArray, List.set_cons_zero, List.set_cons_succ]
          refine tk (i := 21) (by simp only [List.getElem?_toArray, List.getElem?_cons_zero, List.getElem?_cons_succ]; rfl) (by kernel_rfl) (Or.inr ⟨by rfl, rfl⟩) hS7b11 ?_
          refine tk (i := 22) (by simp only [List.getElem?_toArray, List.getElem?_cons_zero, List.getElem?_cons_succ]; rfl) (by kernel_rfl) (Or.inr ⟨by rfl, rfl⟩) hS7b11 ?_
          refine tk (i := 23) (by simp only [List.getElem?_toArray, List.getElem?_cons_zero, List.getElem?_cons_succ]; rfl) (by kernel_rfl) (Or.inr ⟨by rfl, rfl⟩) hS7b11 ?_
          try simp only [Act.put, List.setIfInBounds_toArray, List.set_cons_zero, List.set_cons_succ]
          refine tk (i := 24) (v := .bool false) (by simp only [List.getElem?_toArray, List.getElem?_cons_zero, List.getElem?_cons_succ]; rfl) (by kernel_rfl) (Or.inl ⟨by rfl, ?_⟩) hS7b11 ?_
          · (intro wq hSw; go_simp; all_goals with_reducible rfl)
          try simp only [Act.put, List.setIfInBounds_toArray, List.set_cons_zero, List.set_cons_succ]
          refine tk (i := 25) (v := ?_) (by simp only [List.getElem?_toArray, List.getElem?_cons_zero, List.getElem?_cons_succ]; rfl) (by kernel_rfl) (Or.inl ⟨by rfl, ?_⟩) hS7b11 ?_
          rotate_left
          · (intro wq hSw; go_simp; all_goals with_reducible rfl)
          try simp only [Act.put, List.setIfInBounds_toArray, List.set_cons_zero, List.set_cons_succ]
          refine tk (i := 26) (by simp only [List.getElem?_toArray, List.getElem?_cons_zero, List.getElem?_cons_succ]; rfl) (by kernel_rfl) (Or.inr ⟨by rfl, rfl⟩) hS7b11 ?_
          refine tk (i := 27) (by simp only [List.getElem?_toArray, List.getElem?_cons_zero, List.getElem?_cons_succ]; rfl) (by kernel_rfl) (Or.inr ⟨by rfl, rfl⟩) hS7b11 ?_
          refine tk (i := 28) (by simp only [List.getElem?_toArray, List.getElem?_cons_zero, List.getElem?_cons_succ]; rfl) (by kernel_rfl) (Or.inr ⟨by rfl, rfl⟩) hS7b11 ?_
          try simp only [Act.put, List.setIfInBounds_toArray, List.set_cons_zero, List.set_cons_succ]
          refine tk (i := 29) (v := .bool false) (by simp only [List.getElem?_toArray, List.getElem?_cons_zero, List.getElem?_cons_succ]; rfl) (by kernel_rfl) (Or.inl ⟨by rfl, ?_⟩) hS7b11 ?_
          · (intro wq hSw; go_simp; all_goals with_reducible rfl)
          try simp only [Act.put, List.setIfInBounds_toArray, List.set_cons_zero, List.set_cons_succ]
          refine tk (i := 30) (v := ?_) (by simp only [List.getElem?_toArray, List.getElem?_cons_zero, List.getElem?_cons_succ]; rfl) (by kernel_rfl) (Or.inl ⟨by rfl, ?_⟩) hS7b11 ?_
          rotate_left
          · (intro wq hSw; go_simp; all_goals with_reducible rfl)
          try simp only [Act.put, List.setIfInBounds_toArray, List.set_cons_zero, List.set_cons_succ]
          refine tk (i := 31) (by simp only [List.getElem?_toArray, List.getElem?_cons_zero, List.getElem?_cons_succ]; rfl) (by kernel_rfl) (Or.inr ⟨by rfl, rfl⟩) hS7b11 ?_
          refine tk (i := 32) (by simp only [List.getElem?_toArray, List.getElem?_cons_zero, List.getElem?_cons_succ]; rfl) (by kernel_rfl) (Or.inr ⟨by rfl, rfl⟩) hS7b11 ?_
          refine tk (i := 33) (by simp only [List.getElem?_toArray, List.getElem?_cons_zero, List.getElem?_cons_succ]; rfl) (by kernel_rfl) (Or.inr ⟨by rfl, rfl⟩) hS7b11 ?_
          try simp only [Act.put, List.setIfInBounds_toArray, List.set_cons_zero, List.set_cons_succ]
          refine tk (i := 34) (v := .bool false) (by simp only [List.getElem?_toArray, List.getElem?_cons_zero, List.getElem?_cons_succ]; rfl) (by kernel_rfl) (Or.inl ⟨by rfl, ?_⟩) hS7b11 ?_
          · (intro wq hSw; go_simp; all_goals with_reducible rfl)
          try simp only [Act.put, List.setIfInBounds_toArray, List.set_cons_zero, List.set_cons_succ]
          refine tk (i := 35) (v := .bool false) (by simp only [List.getElem?_toArray, List.getElem?_cons_zero, List.getElem?_cons_succ]; rfl) (by kernel_rfl) (Or.inl ⟨by rfl, ?_⟩) hS7b11 ?_
          · (intro wq hSw; go_simp; all_goals with_reducible rfl)
          try simp only [Act.put, List.setIfInBounds_toArray, List.set_cons_zero, List.set_cons_succ]
          refine tk (i := 36) (v := ?_) (by simp only [List.getElem?_toArray, List.getElem?_cons_zero, List.getElem?_cons_succ]; rfl) (by kernel_rfl) (Or.inl ⟨by rfl, ?_⟩) hS7b11 ?_
          rotate_left
          · (intro wq hSw; go_simp; all_goals with_reducible rfl)
          try simp only [Act.put, List.setIfInBounds_toArray, List.set_cons_zero, List.set_cons_succ]
          refine tk (i := 37) (v := ?_) (by simp only [List.getElem?_toArray, List.getElem?_cons_zero, List.getElem?_cons_succ]; rfl) (by kernel_rfl) (Or.inl ⟨by rfl, ?_⟩) hS7b11 ?_
          rotate_left
          · (intro wq hSw; go_simp; all_goals with_reducible rfl)
          try simp only [Act.put, List.setIfInBounds_toArray, List.set_cons_zero, List.set_cons_succ]
          refine tk (i := 38) (v := .bool false) (by simp only [List.getElem?_toArray, List.getElem?_cons_zero, List.getElem?_cons_succ]; rfl) (by kernel_rfl) (Or.inl ⟨by rfl, ?_⟩) hS7b11 ?_
          · (intro wq hSw; go_simp; all_goals with_reducible rfl)
          try simp only [Act.put, List.setIfInBounds_toArray, List.set_cons_zero, List.set_cons_succ]
          refine tk (i := 39) (v := ?_) (by simp only [List.getElem?_toArray, List.getElem?_cons_zero, List.getElem?_cons_succ]; rfl) (by kernel_rfl) (Or.inl ⟨by rfl, ?_⟩) hS7b11 ?_
          rotate_left
          · (intro wq hSw; go_simp; all_goals with_reducible rfl)
          try simp only [Act.put, List.setIfInBounds_toArray, List.set_cons_zero, List.set_cons_succ]
          refine tk (i := 40) (by simp only [List.getElem?_toArray, List.getElem?_cons_zero, List.getElem?_cons_succ]; rfl) (by kernel_rfl) (Or.inr ⟨by rfl, rfl⟩) hS7b11 ?_
          refine tk (i := 41) (by simp only [List.getElem?_toArray, List.getElem?_cons_zero, List.getElem?_cons_succ]; rfl) (by kernel_rfl) (Or.inr ⟨by rfl, rfl⟩) hS7b11 ?_
          refine tk (i := 42) (by simp only [List.getElem?_toArray, List.getElem?_cons_zero, List.getElem?_cons_succ]; rfl) (by kernel_rfl) (Or.inr ⟨by rfl, rfl⟩) hS7b11 ?_
          try simp only [Act.put, List.setIfInBounds_toArray, List.set_cons_zero, List.set_cons_succ]
          refine tk (i := 43) (v := .bool false) (by simp only [List.getElem?_toArray, List.getElem?_cons_zero, List.getElem?_cons_succ]; rfl) (by kernel_rfl) (Or.inl ⟨by rfl, ?_⟩) hS7b11 ?_
          · (intro wq hSw; go_simp; all_goals with_reducible rfl)
          try simp only [Act.put, List.setIfInBounds_toArray, List.set_cons_zero, List.set_cons_succ]
          refine tk (i := 44) (v := .bool false) (by simp only [List.getElem?_toArray, List.getElem?_cons_zero, List.getElem?_cons_succ]; rfl) (by kernel_rfl) (Or.inl ⟨by rfl, ?_⟩) hS7b11 ?_
          · (intro wq hSw; go_simp; all_goals with_reducible rfl)
          try simp only [Act.put, List.setIfInBounds_toArray, List.set_cons_zero, List.set_cons_succ]
          refine wpAnyH_done (by kernel_rfl) ?_ _
          refine NoPanic.normal ?_
          go_wp2_with fail
          go_meet
          case rel => exact ⟨rfl, hS7b11⟩
    · have hle : k ≤ 0 := by omega
      have hlt : ¬ k ≥ 0 := by omega
      have z0 : c0 = 0 := by rw [← HF.out.2.2.2.2.1, FixM.capM, if_pos (by omega)]; exact FixM.keep_zero _
      have z1 : c1 = 0 := by rw [← HF.out.2.2.2.2.2, FixM.capM, if_pos (by omega)]; exact FixM.keep_zero _
      have Z0 := Lib.hid z0; have Z1 := Lib.hid z1
      clear z0 z1
      as_aux_lemma =>
      refine wp_region_noPanic ?_
      refine wp_region_held_drew (S := (BndS Ba Bb Bs Bd Bc Bx ax ay bx by' s0 s1 d0 d1 c0 c1 x0 x1 w8)) (by kernel_rfl) HS5.out.drew (fun hHeld => ?_)
      clear hHeld
      refine tk (i := 0) (v := _) (by simp only [List.getElem?_toArray, List.getElem?_cons_zero]; rfl) (by kernel_rfl) (yieldsIf_load_mid (by rfl) 25 (.tmp 11) rfl Bc 0 rfl [.int .i64 c0, .int .i64 c1] _ (fun _ h => h.c) Tryd.underlying25 rfl sizeVec) HS5.out.drew ?_
      try simp only [Act.put, List.setIfInBounds_toArray, List.set_cons_zero, List.set_cons_succ]
      refine tk (i := 1) (v := ?_) (by simp only [List.getElem?_toArray, List.getElem?_cons_zero, List.getElem?_cons_succ]; rfl) (by kernel_rfl) (Or.inl ⟨by rfl, ?_⟩) HS5.out.drew ?_
      rotate_left
      · (intro wq hSw; go_simp; all_goals with_reducible rfl)
      try simp only [Act.put, List.setIfInBounds_toArray, List.set_cons_zero, List.set_cons_succ]
      refine tk (i := 3) (v := _) (by simp only [List.getElem?_toArray, List.getElem?_cons_zero, List.getElem?_cons_succ]; rfl) (by kernel_rfl) (yieldsIf_load_mid (by rfl) 25 (.tmp 11) rfl Bc 0 rfl [.int .i64 c0, .int .i64 c1] _ (fun _ h => h.c) Tryd.underlying25 rfl sizeVec) HS5.out.drew ?_
      try simp only [Act.put, List.setIfInBounds_toArray, List.set_cons_zero, List.set_cons_succ]
      refine wpAnyH_ready (rs := [2]) (by kernel_rfl) (by simp) ?_
      refine AllReadyH.cons (by simp only [List.getElem?_toArray, List.getElem?_cons_zero, List.getElem?_cons_succ]; rfl) (fun K hK => ?_) AllReadyH.nil
      go_simp
      go_at_call 25
      refine (HCc.out _ HS5.out.drew).mono ?_
      rintro r w7n0 ⟨rfl, hS7n0⟩
      go_wp2_with fail
      refine hK.out _ _ hS7n0 (fun _ => ?_)
      clear hK K
      try simp only [Act.put, List.setIfInBounds_toArray, List.set_cons_zero, List.set_cons_succ]
      refine tk (i := 4) (v := .bool false) (by simp only [List.getElem?_toArray, List.getElem?_cons_zero, List.getElem?_cons_succ]; rfl) (by kernel_rfl) (Or.inl ⟨by rfl, ?_⟩) hS7n0 ?_
      · (intro wq hSw; go_simp; all_goals with_reducible rfl)
      try simp only [Act.put, List.setIfInBounds_toArray, List.set_cons_zero, List.set_cons_succ]
      refine tk (i := 5) (v := ?_) (by simp only [List.getElem?_toArray, List.getElem?_cons_zero, List.getElem?_cons_succ]; rfl) (by kernel_rfl) (Or.inl ⟨by rfl, ?_⟩) hS7n0 ?_
      rotate_left
      · (intro wq hSw; go_simp; all_goals with_reducible rfl)
      try simp only [Act.put, List.setIfInBounds_toArray, List.set_cons_zero, List.set_cons_succ]
      refine tk (i := 6) (v := ?_) (by simp only [List.getElem?_toArray, List.getElem?_cons_zero, List.getElem?_cons_succ]; rfl) (by kernel_rfl) (Or.inl ⟨by rfl, ?_⟩) hS7n0 ?_
      rotate_left
      · (intro wq hSw; go_simp; all_goals with_reducible rfl)
      try simp only [Act.put, List.setIfInBounds_toArray, List.set_cons_zero, List.set_cons_succ]
      refine tk (i := 7) (v := .bool false) (by simp only [List.getElem?_toArray, List.getElem?_cons_zero, List.getElem?_cons_succ]; rfl) (by kernel_rfl) (Or.inl ⟨by rfl, ?_⟩) hS7n0 ?_
      · (intro wq hSw; go_simp; all_goals with_reducible rfl)
      try simp only [Act.put, List.setIfInBounds_toArray, List.set_cons_zero, List.set_cons_succ]
      refine tk (i := 8) (v := ?_) (by simp only [List.getElem?_toArray, List.getElem?_cons_zero, List.getElem?_cons_succ]; rfl) (by kernel_rfl) (Or.inl ⟨by rfl, ?_⟩) hS7n0 ?_
      rotate_left
      · (intro wq hSw; go_simp; all_goals with_reducible rfl)
      try simp only [Act.put, List.setIfInBounds_toArray, List.set_cons_zero, List.set_cons_succ]
      refine tk (i := 9) (by simp only [List.getElem?_toArray, List.getElem?_cons_zero, List.getElem?_cons_succ]; rfl) (by kernel_rfl) (Or.inr ⟨by rfl, rfl⟩) hS7n0 ?_
      refine tk (i := 10) (by simp only [List.getElem?_toArray, List.getElem?_cons_zero, List.getElem?_cons_succ]; rfl) (by kernel_rfl) (Or.inr ⟨by rfl, rfl⟩) hS7n0 ?_
      refine tk (i := 11) (by simp only [List.getElem?_toArray, List.getElem?_cons_zero, List.getElem?_cons_succ]; rfl) (by kernel_rfl) (Or.inr ⟨by rfl, rfl⟩) hS7n0 ?_
      refine tk (i := 12) (by simp only [List.getElem?_toArray, List.getElem?_cons_zero, List.getElem?_cons_succ]; rfl) (by kernel_rfl) (Or.inr ⟨by rfl, rfl⟩) hS7n0 ?_
      try simp only [Act.put, List.setIfInBounds_toArray, List.set_cons_zero, List.set_cons_succ]
      refine tk (i := 13) (v := .bool false) (by simp only [List.getElem?_toArray, List.getElem?_cons_zero, List.getElem?_cons_succ]; rfl) (by kernel_rfl) (Or.inl ⟨by rfl, ?_⟩) hS7n0 ?_
      · (intro wq hSw; go_simp; all_goals with_reducible rfl)
      try simp only [Act.put, List.setIfInBounds_toArray, List.set_cons_zero, List.set_cons_succ]
      refine tk (i := 14) (v := ?_) (by simp only [List.getElem?_toArray, List.getElem?_cons_zero, List.getElem?_cons_succ]; rfl) (by kernel_rfl) (Or.inl ⟨by rfl, ?_⟩) hS7n0 ?_
      rotate_left
      · (intro wq hSw; go_simp; all_goals with_reducible rfl)
      try simp only [Act.put, List.setIfInBounds_toArray, List.set_cons_zero, List.set_cons_succ]
      refine tk (i := 15) (by simp only [List.getElem?_toArray, List.getElem?_cons_zero, List.getElem?_cons_succ]; rfl) (by kernel_rfl) (Or.inr ⟨by rfl, rfl⟩) hS7n0 ?_
      refine tk (i := 16) (by simp only [List.getElem?_toArray, List.getElem?_cons_zero, List.getElem?_cons_succ]; rfl) (by kernel_rfl) (Or.inr ⟨by rfl, rfl⟩) hS7n0 ?_
      refine tk (i := 17) (by simp only [List.getElem?_toArray, List.getElem?_cons_zero, List.getElem?_cons_succ]; rfl) (by kernel_rfl) (Or.inr ⟨by rfl, rfl⟩) hS7n0 ?_
      refine tk (i := 18) (by simp only [List.getElem?_toArray, List.getElem?_cons_zero, List.getElem?_cons_succ]; rfl) (by kernel_rfl) (Or.inr ⟨by rfl, rfl⟩) hS7n0 ?_
      try simp only [Act.put, List.setIfInBounds_toArray, List.set_cons_zero, List.set_cons_succ]
      refine tk (i := 19) (v := .bool false) (by simp only [List.getElem?_toArray, List.getElem?_cons_zero, List.getElem?_cons_succ]; rfl) (by kernel_rfl) (Or.inl ⟨by rfl, ?_⟩) hS7n0 ?_
      · (intro wq hSw; go_simp; all_goals with_reducible rfl)
      try simp only [Act.put, List.setIfInBounds_toArray, List.set_cons_zero, List.set_cons_succ]
      refine tk (i := 20) (v := ?_) (by simp only [List.getElem?_toArray, List.getElem?_cons_zero, List.getElem?_cons_succ]; rfl) (by kernel_rfl) (Or.inl ⟨by rfl, ?_⟩) hS7n0 ?_
      rotate_left
      · (intro wq hSw; go_simp; all_goals with_reducible rfl)
      try simp only [Act.put, List.setIfInBounds_toArray, List.set_cons_zero, List.set_cons_succ]
      refine tk (i := 21) (by simp only [List.getElem?_toArray, List.getElem?_cons_zero, List.getElem?_cons_succ]; rfl) (by kernel_rfl) (Or.inr ⟨by rfl, rfl⟩) hS7n0 ?_
      refine tk (i := 22) (by simp only [List.getElem?_toArray, List.getElem?_cons_zero, List.getElem?_cons_succ]; rfl) (by kernel_rfl) (Or.inr ⟨by rfl, rfl⟩) hS7n0 ?_
      refine tk (i := 23) (by simp only [List.getElem?_toArray, List.getElem?_cons_zero, List.getElem?_cons_succ]; rfl) (by kernel_rfl) (Or.inr ⟨by rfl, rfl⟩) hS7n0 ?_
      try simp only [Act.put, List.setIfInBounds_toArray, List.set_cons_zero, List.set_cons_succ]
      refine tk (i := 24) (v := .bool false) (by simp only [List.getElem?_toArray, List.getElem?_cons_zero, List.getElem?_cons_succ]; rfl) (by kernel_rfl) (Or.inl ⟨by rfl, ?_⟩) hS7n0 ?_
      · (intro wq hSw; go_simp; all_goals with_reducible rfl)
      try simp only [Act.put, List.setIfInBounds_toArray, List.set_cons_zero, List.set_cons_succ]
      refine tk (i := 25) (v := ?_) (by simp only [List.getElem?_toArray, List.getElem?_cons_zero, List.getElem?_cons_succ]; rfl) (by kernel_rfl) (Or.inl ⟨by rfl, ?_⟩) hS7n0 ?_
      rotate_left
      · (intro wq hSw; go_simp; all_goals with_reducible rfl)
      try simp only [Act.put, List.setIfInBounds_toArray, List.set_cons_zero, List.set_cons_succ]
      refine tk (i := 26) (by simp only [List.getElem?_toArray, List.getElem?_cons_zero, List.getElem?_cons_succ]; rfl) (by kernel_rfl) (Or.inr ⟨by rfl, rfl⟩) hS7n0 ?_
      refine tk (i := 27) (by simp only [List.getElem?_toArray, List.getElem?_cons_zero, List.getElem?_cons_succ]; rfl) (by kernel_rfl) (Or.inr ⟨by rfl, rfl⟩) hS7n0 ?_
      refine tk (i := 28) (by simp only [List.getElem?_toArray, List.getElem?_cons_zero, List.getElem?_cons_succ]; rfl) (by kernel_rfl) (Or.inr ⟨by rfl, rfl⟩) hS7n0 ?_
      try simp only [Act.put, List.setIfInBounds_toArray, List.set_cons_zero, List.set_cons_succ]
      refine tk (i := 29) (v := .bool false) (by simp only [List.getElem?_toArray, List.getElem?_cons_zero, List.getElem?_cons_succ]; rfl) (by kernel_rfl) (Or.inl ⟨by rfl, ?_⟩) hS7n0 ?_
      · (intro wq hSw; go_simp; all_goals with_reducible rfl)
      try simp only [Act.put, List.setIfInBounds_toArray, List.set_cons_zero, List.set_cons_succ]
      refine tk (i := 30) (v := ?_) (by simp only [List.getElem?_toArray, List.getElem?_cons_zero, List.getElem?_cons_succ]; rfl) (by kernel_rfl) (Or.inl ⟨by rfl, ?_⟩) hS7n0 ?_
      rotate_left
      · (intro wq hSw; go_simp; all_goals with_reducible rfl)
      try simp only [Act.put, List.setIfInBounds_toArray, List.set_cons_zero, List.set_cons_succ]
      refine tk (i := 31) (by simp only [List.getElem?_toArray, List.getElem?_cons_zero, List.getElem?_cons_succ]; rfl) (by kernel_rfl) (Or.inr ⟨by rfl, rfl⟩) hS7n0 ?_
      refine tk (i := 32) (by simp only [List.getElem?_toArray, List.getElem?_cons_zero, List.getElem?_cons_succ]; rfl) (by kernel_rfl) (Or.inr ⟨by rfl, rfl⟩) hS7n0 ?_
      refine tk (i := 33) (by simp only [List.getElem?_toArray, List.getElem?_cons_zero, List.getElem?_cons_succ]; rfl) (by kernel_rfl) (Or.inr ⟨by rfl, rfl⟩) hS7n0 ?_
      try simp only [Act.put, List.setIfInBounds_toArray, List.set_cons_zero, List.set_cons_succ]
      refine tk (i := 34) (v := .bool false) (by simp only [List.getElem?_toArray, List.getElem?_cons_zero, List.getElem?_cons_succ]; rfl) (by kernel_rfl) (Or.inl ⟨by rfl, ?_⟩) hS7n0 ?_
      · (intro wq hSw; go_simp; all_goals with_reducible rfl)
      try simp only [Act.put, List.setIfInBounds_toArray, List.set_cons_zero, List.set_cons_succ]
      refine tk (i := 35) (v := .bool false) (by simp only [List.getElem?_toArray, List.getElem?_cons_zero, List.getElem?_cons_succ]; rfl) (by kernel_rfl) (Or.inl ⟨by rfl, ?_⟩) hS7n0 ?_
      · (intro wq hSw; go_simp; all_goals with_reducible rfl)
      try simp only [Act.put, List.setIfInBounds_toArray, List.set_cons_zero, List.set_cons_succ]
      refine tk (i := 36) (v := ?_) (by simp only [List.getElem?_toArray, List.getElem?_cons_zero, List.getElem?_cons_succ]; rfl) (by kernel_rfl) (Or.inl ⟨by rfl, ?_⟩) hS7n0 ?_
      rotate_left
      · (intro wq hSw; go_simp; all_goals with_reducible rfl)
      try simp only [Act.put, List.setIfInBounds_toArray, List.set_cons_zero, List.set_cons_succ]
      refine tk (i := 37) (v := ?_) (by simp only [List.getElem?_toArray, List.getElem?_cons_zero, List.getElem?_cons_succ]; rfl) (by kernel_rfl) (Or.inl ⟨by rfl, ?_⟩) hS7n0 ?_
      rotate_left
      · (intro wq hSw; go_simp; all_goals with_reducible rfl)
      try simp only [Act.put, List.setIfInBounds_toArray, List.set_cons_zero, List.set_cons_succ]
      refine tk (i := 38) (v := .bool true) (by simp only [List.getElem?_toArray, List.getElem?_cons_zero, List.getElem?_cons_succ]; rfl) (by kernel_rfl) (Or.inl ⟨by rfl, ?_⟩) hS7n0 ?_
      · (intro wq hSw; go_simp; all_goals with_reducible rfl)
      try simp only [Act.put, List.setIfInBounds_toArray, List.set_cons_zero, List.set_cons_succ]
      refine tk (i := 39) (v := ?_) (by simp only [List.getElem?_toArray, List.getElem?_cons_zero, List.getElem?_cons_succ]; rfl) (by kernel_rfl) (Or.inl ⟨by rfl, ?_⟩) hS7n0 ?_
      rotate_left
      · (intro wq hSw; go_simp; all_goals with_reducible rfl)
      try simp only [Act.put, List.setIfInBounds_toArray, List.set_cons_zero, List.set_cons_succ]
      refine tk (i := 40) (v := _) (by simp only [List.getElem?_toArray, List.getElem?_cons_zero, List.getElem?_cons_succ]; rfl) (by kernel_rfl) (yieldsIf_load_mid (by rfl) 25 (.tmp 11) rfl Bc 0 rfl [.int .i64 c0, .int .i64 c1] _ (fun _ h => h.c) Tryd.underlying25 rfl sizeVec) hS7n0 ?_
      try simp only [Act.put, List.setIfInBounds_toArray, List.set_cons_zero, List.set_cons_succ]
      refine tk (i := 41) (v := ?_) (by simp only [List.getElem?_toArray, List.getElem?_cons_zero, List.getElem?_cons_succ]; rfl) (by kernel_rfl) (Or.inl ⟨by rfl, ?_⟩) hS7n0 ?_
      rotate_left
      · (intro wq hSw; go_simp; all_goals with_reducible rfl)
      try simp only [Act.put, List.setIfInBounds_toArray, List.set_cons_zero, List.set_cons_succ]
      refine tk (i := 42) (v := .bool false) (by simp only [List.getElem?_toArray, List.getElem?_cons_zero, List.getElem?_cons_succ]; rfl) (by kernel_rfl) (Or.inl ⟨by rfl, ?_⟩) hS7n0 ?_
      · (intro wq hSw; have z0 := Z0.out; have z1 := Z1.out; go_simp; all_goals with_reducible rfl)
      try simp only [Act.put, List.setIfInBounds_toArray, List.set_cons_zero, List.set_cons_succ]
      refine tk (i := 43) (v := .bool false) (by simp only [List.getElem?_toArray, List.getElem?_cons_zero, List.getElem?_cons_succ]; rfl) (by kernel_rfl) (Or.inl ⟨by rfl, ?_⟩) hS7n0 ?_
      · (intro wq hSw; go_simp; all_goals with_reducible rfl)
      try simp only [Act.put, List.setIfInBounds_toArray, List.set_cons_zero, List.set_cons_succ]
      refine tk (i := 44) (v := .bool false) (by simp only [List.getElem?_toArray, List.getElem?_cons_zero, List.getElem?_cons_succ]; rfl) (by kernel_rfl) (Or.inl ⟨by rfl, ?_⟩) hS7n0 ?_
      · (intro wq hSw; go_simp; all_goals with_reducible rfl)
      try simp only [Act.put, List.setIfInBounds_toArray, List.set_cons_zero, List.set_cons_succ]
      refine wpAnyH_done (by kernel_rfl) ?_ _
      refine NoPanic.normal ?_
      go_wp2_with fail
      go_meet
      case rel => exact ⟨rfl, hS7n0⟩
  case rest =>
    as_aux_lemma =>
    obtain ⟨rfl, hS7⟩ := hcut
    have HS7 := Lib.hid hS7
    clear hS7 HS5 HCc
    go_upto_region 9 with fail
    as_aux_lemma =>
    refine wp_region_noPanic ?_
    refine wp_region_held_drew (S := (BndS Ba Bb Bs Bd Bc Bx ax ay bx by' s0 s1 d0 d1 c0 c1 x0 x1 w8)) (by kernel_rfl) HS7.out.drew (fun hHeld => ?_)
    clear hHeld
    refine tk (i := 0) (v := _) (by simp only [List.getElem?_toArray, List.getElem?_cons_zero]; rfl) (by kernel_rfl) (yieldsIf_load_mid (by rfl) 25 (.tmp 4) rfl Ba 0 rfl [.int .i64 ax, .int .i64 ay] _ (fun _ h => h.a) Tryd.underlying25 rfl sizeVec) HS7.out.drew ?_
    try simp only [Act.put, List.setIfInBounds_toArray, List.set_cons_zero, List.set_cons_succ]
    refine tk (i := 1) (v := _) (by simp only [List.getElem?_toArray, List.getElem?_cons_zero, List.getElem?_cons_succ]; rfl) (by kernel_rfl) (yieldsIf_load_mid (by rfl) 25 (.tmp 4) rfl Ba 0 rfl [.int .i64 ax, .int .i64 ay] _ (fun _ h => h.a) Tryd.underlying25 rfl sizeVec) HS7.out.drew ?_
    try simp only [Act.put, List.setIfInBounds_toArray, List.set_cons_zero, List.set_cons_succ]
    refine tk (i := 3) (v := ?_) (by simp only [List.getElem?_toArray, List.getElem?_cons_zero, List.getElem?_cons_succ]; rfl) (by kernel_rfl) (Or.inl ⟨by rfl, ?_⟩) HS7.out.drew ?_
    rotate_left
    · (intro wq hSw; go_simp; all_goals with_reducible rfl)
    try simp only [Act.put, List.setIfInBounds_toArray, List.set_cons_zero, List.set_cons_succ]
    refine wpAnyH_ready (rs := [2]) (by kernel_rfl) (by simp) ?_
    refine AllReadyH.cons (by simp only [List.getElem?_toArray, List.getElem?_cons_zero, List.getElem?_cons_succ]; rfl) (fun K hK => ?_) AllReadyH.nil
    go_simp
    go_at_call 14
    refine (HSaa.out _ HS7.out.drew).mono ?_
    rintro r w90 ⟨rfl, hS90⟩
    go_wp2_with fail
    refine hK.out _ _ hS90 (fun _ => ?_)
    clear hK K
    try simp only [Act.put, List.setIfInBounds_toArray, List.set_cons_zero, List.set_cons_succ]
    refine tk (i := 4) (v := .bool false) (by simp only [List.getElem?_toArray, List.getElem?_cons_zero, List.getElem?_cons_succ]; rfl) (by kernel_rfl) (Or.inl ⟨by rfl, ?_⟩) hS90 ?_
    · (intro wq hSw; go_simp; all_goals with_reducible rfl)
    try simp only [Act.put, List.setIfInBounds_toArray, List.set_cons_zero, List.set_cons_succ]
    refine tk (i := 5) (v := ?_) (by simp only [List.getElem?_toArray, List.getElem?_cons_zero, List.getElem?_cons_succ]; rfl) (by kernel_rfl) (Or.inl ⟨by rfl, ?_⟩) hS90 ?_
    rotate_left
    · (intro wq hSw; go_simp; all_goals with_reducible rfl)
    try simp only [Act.put, List.setIfInBounds_toArray, List.set_cons_zero, List.set_cons_succ]
    refine tk (i := 6) (v := _) (by simp only [List.getElem?_toArray, List.getElem?_cons_zero, List.getElem?_cons_succ]; rfl) (by kernel_rfl) (yieldsIf_load_mid (by rfl) 25 (.tmp 5) rfl Bb 0 rfl [.int .i64 bx, .int .i64 by'] _ (fun _ h => h.b) Tryd.underlying25 rfl sizeVec) hS90 ?_
    try simp only [Act.put, List.setIfInBounds_toArray, List.set_cons_zero, List.set_cons_succ]
    refine tk (i := 7) (v := _) (by simp only [List.getElem?_toArray, List.getElem?_cons_zero, List.getElem?_cons_succ]; rfl) (by kernel_rfl) (yieldsIf_load_mid (by rfl) 25 (.tmp 4) rfl Ba 0 rfl [.int .i64 ax, .int .i64 ay] _ (fun _ h => h.a) Tryd.underlying25 rfl sizeVec) hS90 ?_
    try simp only [Act.put, List.setIfInBounds_toArray, List.set_cons_zero, List.set_cons_succ]
    refine tk (i := 9) (v := ?_) (by simp only [List.getElem?_toArray, List.getElem?_cons_zero, List.getElem?_cons_succ]; rfl) (by kernel_rfl) (Or.inl ⟨by rfl, ?_⟩) hS90 ?_
    rotate_left
    · (intro wq hSw; go_simp; all_goals with_reducible rfl)
    try simp only [Act.put, List.setIfInBounds_toArray, List.set_cons_zero, List.set_cons_succ]
    refine tk (i := 10) (v := ?_) (by simp only [List.getElem?_toArray, List.getElem?_cons_zero, List.getElem?_cons_succ]; rfl) (by kernel_rfl) (Or.inl ⟨by rfl, ?_⟩) hS90 ?_
    rotate_left
    · (intro wq hSw; have a0 := hSw.a0; have a1 := hSw.a1; have b0 := hSw.b0; have b1 := hSw.b1; have s0' := hSw.s0'; have s1' := hSw.s1'; have d0' := hSw.d0'; have d1' := hSw.d1'; have c0' := hSw.c0'; have c1' := hSw.c1'; have x0' := hSw.x0'; have x1' := hSw.x1'; go_simp; all_goals with_reducible rfl)
    try simp only [Act.put, List.setIfInBounds_toArray, List.set_cons_zero, List.set_cons_succ]
    refine tk (i := 11) (v := ?_) (by simp only [List.getElem?_toArray, List.getElem?_cons_zero, List.getElem?_cons_succ]; rfl) (by kernel_rfl) (Or.inl ⟨by rfl, ?_⟩) hS90 ?_
    rotate_left
    · (intro wq hSw; go_simp; all_goals with_reducible rfl)
    try simp only [Act.put, List.setIfInBounds_toArray, List.set_cons_zero, List.set_cons_succ]
    refine tk (i := 12) (v := ?_) (by simp only [List.getElem?_toArray, List.getElem?_cons_zero, List.getElem?_cons_succ]; rfl) (by kernel_rfl) (Or.inl ⟨by rfl, ?_⟩) hS90 ?_
    rotate_left
    · (intro wq hSw; go_simp; all_goals with_reducible rfl)
    try simp only [Act.put, List.setIfInBounds_toArray, List.set_cons_zero, List.set_cons_succ]
    refine tk (i := 13) (v := ?_) (by simp only [List.getElem?_toArray, List.getElem?_cons_zero, List.getElem?_cons_succ]; rfl) (by kernel_rfl) (Or.inl ⟨by rfl, ?_⟩) hS90 ?_
    rotate_left
    · (intro wq hSw; have a0 := hSw.a0; have a1 := hSw.a1; have b0 := hSw.b0; have b1 := hSw.b1; have s0' := hSw.s0'; have s1' := hSw.s1'; have d0' := hSw.d0'; have d1' := hSw.d1'; have c0' := hSw.c0'; have c1' := hSw.c1'; have x0' := hSw.x0'; have x1' := hSw.x1'; go_simp; all_goals with_reducible rfl)
    try simp only [Act.put, List.setIfInBounds_toArray, List.set_cons_zero, List.set_cons_succ]
    refine tk (i := 14) (v := ?_) (by simp only [List.getElem?_toArray, List.getElem?_cons_zero, List.getElem?_cons_succ]; rfl) (by kernel_rfl) (Or.inl ⟨by rfl, ?_⟩) hS90 ?_
    rotate_left
    · (intro wq hSw; go_simp; all_goals with_reducible rfl)
    try simp only [Act.put, List.setIfInBounds_toArray, List.set_cons_zero, List.set_cons_succ]
    refine tk (i := 15) (v := ?_) (by simp only [List.getElem?_toArray, List.getElem?_cons_zero, List.getElem?_cons_succ]; rfl) (by kernel_rfl) (Or.inl ⟨by rfl, ?_⟩) hS90 ?_
    rotate_left
    · (intro wq hSw; go_simp; all_goals with_reducible rfl)
    try simp only [Act.put, List.setIfInBounds_toArray, List.set_cons_zero, List.set_cons_succ]
    refine wpAnyH_ready (rs := [8]) (by kernel_rfl) (by simp) ?_
    refine AllReadyH.cons (by simp only [List.getElem?_toArray, List.getElem?_cons_zero, List.getElem?_cons_succ]; rfl) (fun K hK => ?_) AllReadyH.nil
    go_simp
    go_at_call 14
    refine (HSba.out _ hS90).mono ?_
    rintro r w91 ⟨rfl, hS91⟩
    go_wp2_with fail
    refine hK.out _ _ hS91 (fun _ => ?_)
    clear hK K
    try simp only [Act.put, List.setIfInBounds_toArray, List.set_cons_zero, List.set_cons_succ]
    refine tk (i := 16) (v := .bool false) (by simp only [List.getElem?_toArray, List.getElem?_cons_zero, List.getElem?_cons_succ]; rfl) (by kernel_rfl) (Or.inl ⟨by rfl, ?_⟩) hS91 ?_
    · (intro wq hSw; go_simp; all_goals with_reducible rfl)
    try simp only [Act.put, List.setIfInBounds_toArray, List.set_cons_zero, List.set_cons_succ]
    refine tk (i := 17) (v := .bool false) (by simp only [List.getElem?_toArray, List.getElem?_cons_zero, List.getElem?_cons_succ]; rfl) (by kernel_rfl) (Or.inl ⟨by rfl, ?_⟩) hS91 ?_
    · (intro wq hSw; go_simp; all_goals with_reducible rfl)
    try simp only [Act.put, List.setIfInBounds_toArray, List.set_cons_zero, List.set_cons_succ]
    refine wpAnyH_done (by kernel_rfl) ?_ _
    refine NoPanic.normal ?_
    have HS9 := Lib.hid hS91
    have a0 := HS9.out.a0; have a1 := HS9.out.a1; have b0 := HS9.out.b0; have b1 := HS9.out.b1
    clear HS7 HSaa HSba hn0 hn1
    by_cases hsm : (-536870912 ≤ ax ∧ ax ≤ 536870912) ∧ (-536870912 ≤ ay ∧ ay ≤ 536870912) ∧ (-536870912 ≤ bx ∧ bx ≤ 536870912) ∧ (-536870912 ≤ by' ∧ by' ≤ 536870912)
    · have hsc := fun q : World => joustlaw13_small.calls ax ay bx by' true q (by rw [FixM.small_eq', decide_eq_true hsm])
      obtain ⟨q1, q2, q3, q4⟩ := hsm
      obtain ⟨hs0, hs1, hd0, hd1, _, _⟩ := HF.out
      obtain ⟨hax, hay, hbx, hby, _, hn⟩ := HI64.out
      rw [FixM.lim_id (by omega)] at hs0 hs1 hd0 hd1
      have e1 : IntKind.i64.wrap (ax + bx) = s0 := by rw [IntKind.wrap_i64]; omega
      have e2 : IntKind.i64.wrap (ay + by') = s1 := by rw [IntKind.wrap_i64]; omega
      have is0 : FixM.I64 s0 := by unfold FixM.I64; omega
      have is1 : FixM.I64 s1 := by unfold FixM.I64; omega
      have id0 : FixM.I64 d0 := by unfold FixM.I64; omega
      have id1 : FixM.I64 d1 := by unfold FixM.I64; omega
      have HSsb : Hid (∀ q : World, BndS Ba Bb Bs Bd Bc Bx ax ay bx by' s0 s1 d0 d1 c0 c1 x0 x1 w8 q → Calls Tryd.prog 14 #[.agg #[.int .i64 s0, .int .i64 s1], .agg #[.int .i64 bx, .int .i64 by']] q fun e w' => e = .returned (.agg #[.int .i64 ax, .int .i64 ay]) ∧ BndS Ba Bb Bs Bd Bc Bx ax ay bx by' s0 s1 d0 d1 c0 c1 x0 x1 w8 w') := Lib.hid (fun q hq => (vec_Sub.calls 9 s0 s1 bx by' ax ay q (by rw [FixM.vsub_eq 8 is0 is1 hbx hby, FixM.lim_id (by omega), FixM.lim_id (by omega), show s0 - bx = ax by omega, show s1 - by' = ay by omega])).mono fun e w' ⟨he, hd⟩ => ⟨he, hq.below hd⟩)
      have HAdb : Hid (∀ q : World, BndS Ba Bb Bs Bd Bc Bx ax ay bx by' s0 s1 d0 d1 c0 c1 x0 x1 w8 q → Calls Tryd.prog 15 #[.agg #[.int .i64 d0, .int .i64 d1], .agg #[.int .i64 bx, .int .i64 by']] q fun e w' => e = .returned (.agg #[.int .i64 ax, .int .i64 ay]) ∧ BndS Ba Bb Bs Bd Bc Bx ax ay bx by' s0 s1 d0 d1 c0 c1 x0 x1 w8 w') := Lib.hid (fun q hq => (vec_Add.calls 9 d0 d1 bx by' ax ay q (by rw [FixM.vadd_eq 8 id0 id1 hbx hby, FixM.lim_id (by omega), FixM.lim_id (by omega), show d0 + bx = ax by omega, show d1 + by' = ay by omega])).mono fun e w' ⟨he, hd⟩ => ⟨he, hq.below hd⟩)
      obtain ⟨m, hm, hmb⟩ : ∃ m : Nat, (n.tmod 100 = (m : Int) ∨ n.tmod 100 = -(m : Int)) ∧ m ≤ 99 := by
        have h1 := Int.tmod_lt_of_pos n (show (0 : Int) < 100 by decide)
        have h2 := Int.lt_tmod_of_pos n (show (0 : Int) < 100 by decide)
        exact ⟨(n.tmod 100).natAbs, by omega, by omega⟩
      have HQ := Lib.hid (show (-536870912 ≤ ax ∧ ax ≤ 536870912) ∧ (-536870912 ≤ ay ∧ ay ≤ 536870912) from ⟨q1, q2⟩)
      have HSC := Lib.hid hsc
      clear hsc hs0 hs1 hd0 hd1 is0 is1 id0 id1 q1 q2 q3 q4
      go_wp2_with fail
      clear a0 a1 b0 b1
      refine (HSC.out _).mono ?_
      rintro e w12 ⟨rfl, hb12⟩
      have HS12 := Lib.hid (HS9.out.below hb12)
      clear hb12 HSC HS9
      go_upto_region 13 with fail
      as_aux_lemma =>
      refine wp_region_noPanic ?_
      refine wp_region_held_drew (S := (BndS Ba Bb Bs Bd Bc Bx ax ay bx by' s0 s1 d0 d1 c0 c1 x0 x1 w8)) (by kernel_rfl) HS12.out.drew (fun hHeld => ?_)
      clear hHeld
      refine tk (i := 0) (v := _) (by simp only [List.getElem?_toArray, List.getElem?_cons_zero]; rfl) (by kernel_rfl) (yieldsIf_load_mid (by rfl) 25 (.tmp 9) rfl Bs 0 rfl [.int .i64 s0, .int .i64 s1] _ (fun _ h => h.s) Tryd.underlying25 rfl sizeVec) HS12.out.drew ?_
      try simp only [Act.put, List.setIfInBounds_toArray, List.set_cons_zero, List.set_cons_succ]
      refine tk (i := 1) (v := ?_) (by simp only [List.getElem?_toArray, List.getElem?_cons_zero, List.getElem?_cons_succ]; rfl) (by kernel_rfl) (Or.inl ⟨by rfl, ?_⟩) HS12.out.drew ?_
      rotate_left
      · (intro wq hSw; go_simp; all_goals with_reducible rfl)
      try simp only [Act.put, List.setIfInBounds_toArray, List.set_cons_zero, List.set_cons_succ]
      refine tk (i := 2) (v := ?_) (by simp only [List.getElem?_toArray, List.getElem?_cons_zero, List.getElem?_cons_succ]; rfl) (by kernel_rfl) (Or.inl ⟨by rfl, ?_⟩) HS12.out.drew ?_
      rotate_left
      · (intro wq hSw; have a0 := hSw.a0; have a1 := hSw.a1; have b0 := hSw.b0; have b1 := hSw.b1; have s0' := hSw.s0'; have s1' := hSw.s1'; have d0' := hSw.d0'; have d1' := hSw.d1'; have c0' := hSw.c0'; have c1' := hSw.c1'; have x0' := hSw.x0'; have x1' := hSw.x1'; go_simp; all_goals with_reducible rfl)
      try simp only [Act.put, List.setIfInBounds_toArray, List.set_cons_zero, List.set_cons_succ]
      refine tk (i := 3) (v := ?_) (by simp only [List.getElem?_toArray, List.getElem?_cons_zero, List.getElem?_cons_succ]; rfl) (by kernel_rfl) (Or.inl ⟨by rfl, ?_⟩) HS12.out.drew ?_
      rotate_left
      · (intro wq hSw; go_simp; all_goals with_reducible rfl)
      try simp only [Act.put, List.setIfInBounds_toArray, List.set_cons_zero, List.set_cons_succ]
      refine tk (i := 4) (v := ?_) (by simp only [List.getElem?_toArray, List.getElem?_cons_zero, List.getElem?_cons_succ]; rfl) (by kernel_rfl) (Or.inl ⟨by rfl, ?_⟩) HS12.out.drew ?_
      rotate_left
      · (intro wq hSw; have a0 := hSw.a0; have a1 := hSw.a1; have b0 := hSw.b0; have b1 := hSw.b1; have s0' := hSw.s0'; have s1' := hSw.s1'; have d0' := hSw.d0'; have d1' := hSw.d1'; have c0' := hSw.c0'; have c1' := hSw.c1'; have x0' := hSw.x0'; have x1' := hSw.x1'; go_simp; all_goals with_reducible rfl)
      try simp only [Act.put, List.setIfInBounds_toArray, List.set_cons_zero, List.set_cons_succ]
      refine tk (i := 5) (v := ?_) (by simp only [List.getElem?_toArray, List.getElem?_cons_zero, List.getElem?_cons_succ]; rfl) (by kernel_rfl) (Or.inl ⟨by rfl, ?_⟩) HS12.out.drew ?_
      rotate_left
      · (intro wq hSw; go_simp; all_goals with_reducible rfl)
      try simp only [Act.put, List.setIfInBounds_toArray, List.set_cons_zero, List.set_cons_succ]
      refine tk (i := 6) (v := ?_) (by simp only [List.getElem?_toArray, List.getElem?_cons_zero, List.getElem?_cons_succ]; rfl) (by kernel_rfl) (Or.inl ⟨by rfl, ?_⟩) HS12.out.drew ?_
      rotate_left
      · (intro wq hSw; go_simp; all_goals with_reducible rfl)
      try simp only [Act.put, List.setIfInBounds_toArray, List.set_cons_zero, List.set_cons_succ]
      refine tk (i := 7) (v := ?_) (by simp only [List.getElem?_toArray, List.getElem?_cons_zero, List.getElem?_cons_succ]; rfl) (by kernel_rfl) (Or.inl ⟨by rfl, ?_⟩) HS12.out.drew ?_
      rotate_left
      · (intro wq hSw; have a0 := hSw.a0; have a1 := hSw.a1; have b0 := hSw.b0; have b1 := hSw.b1; have s0' := hSw.s0'; have s1' := hSw.s1'; have d0' := hSw.d0'; have d1' := hSw.d1'; have c0' := hSw.c0'; have c1' := hSw.c1'; have x0' := hSw.x0'; have x1' := hSw.x1'; go_simp; all_goals with_reducible rfl)
      try simp only [Act.put, List.setIfInBounds_toArray, List.set_cons_zero, List.set_cons_succ]
      refine tk (i := 8) (v := ?_) (by simp only [List.getElem?_toArray, List.getElem?_cons_zero, List.getElem?_cons_succ]; rfl) (by kernel_rfl) (Or.inl ⟨by rfl, ?_⟩) HS12.out.drew ?_
      rotate_left
      · (intro wq hSw; go_simp; all_goals with_reducible rfl)
      try simp only [Act.put, List.setIfInBounds_toArray, List.set_cons_zero, List.set_cons_succ]
      refine tk (i := 9) (v := ?_) (by simp only [List.getElem?_toArray, List.getElem?_cons_zero, List.getElem?_cons_succ]; rfl) (by kernel_rfl) (Or.inl ⟨by rfl, ?_⟩) HS12.out.drew ?_
      rotate_left
      · (intro wq hSw; have a0 := hSw.a0; have a1 := hSw.a1; have b0 := hSw.b0; have b1 := hSw.b1; have s0' := hSw.s0'; have s1' := hSw.s1'; have d0' := hSw.d0'; have d1' := hSw.d1'; have c0' := hSw.c0'; have c1' := hSw.c1'; have x0' := hSw.x0'; have x1' := hSw.x1'; go_simp; all_goals with_reducible rfl)
      try simp only [Act.put, List.setIfInBounds_toArray, List.set_cons_zero, List.set_cons_succ]
      refine tk (i := 10) (v := ?_) (by simp only [List.getElem?_toArray, List.getElem?_cons_zero, List.getElem?_cons_succ]; rfl) (by kernel_rfl) (Or.inl ⟨by rfl, ?_⟩) HS12.out.drew ?_
      rotate_left
      · (intro wq hSw; go_simp; all_goals with_reducible rfl)
      try simp only [Act.put, List.setIfInBounds_toArray, List.set_cons_zero, List.set_cons_succ]
      refine tk (i := 11) (v := ?_) (by simp only [List.getElem?_toArray, List.getElem?_cons_zero, List.getElem?_cons_succ]; rfl) (by kernel_rfl) (Or.inl ⟨by rfl, ?_⟩) HS12.out.drew ?_
      rotate_left
      · (intro wq hSw; go_simp; all_goals with_reducible rfl)
      try simp only [Act.put, List.setIfInBounds_toArray, List.set_cons_zero, List.set_cons_succ]
      refine tk (i := 12) (v := .bool false) (by simp only [List.getElem?_toArray, List.getElem?_cons_zero, List.getElem?_cons_succ]; rfl) (by kernel_rfl) (Or.inl ⟨by rfl, ?_⟩) HS12.out.drew ?_
      · (intro wq hSw; go_simp; all_goals with_reducible rfl)
      try simp only [Act.put, List.setIfInBounds_toArray, List.set_cons_zero, List.set_cons_succ]
      refine tk (i := 13) (v := ?_) (by simp only [List.getElem?_toArray, List.getElem?_cons_zero, List.getElem?_cons_succ]; rfl) (by kernel_rfl) (Or.inl ⟨by rfl, ?_⟩) HS12.out.drew ?_
      rotate_left
      · (intro wq hSw; go_simp; all_goals with_reducible rfl)
      try simp only [Act.put, List.setIfInBounds_toArray, List.set_cons_zero, List.set_cons_succ]
      refine tk (i := 14) (v := _) (by simp only [List.getElem?_toArray, List.getElem?_cons_zero, List.getElem?_cons_succ]; rfl) (by kernel_rfl) (yieldsIf_load_mid (by rfl) 25 (.tmp 9) rfl Bs 0 rfl [.int .i64 s0, .int .i64 s1] _ (fun _ h => h.s) Tryd.underlying25 rfl sizeVec) HS12.out.drew ?_
      try simp only [Act.put, List.setIfInBounds_toArray, List.set_cons_zero, List.set_cons_succ]
      refine tk (i := 15) (v := _) (by simp only [List.getElem?_toArray, List.getElem?_cons_zero, List.getElem?_cons_succ]; rfl) (by kernel_rfl) (yieldsIf_load_mid (by rfl) 25 (.tmp 5) rfl Bb 0 rfl [.int .i64 bx, .int .i64 by'] _ (fun _ h => h.b) Tryd.underlying25 rfl sizeVec) HS12.out.drew ?_
      try simp only [Act.put, List.setIfInBounds_toArray, List.set_cons_zero, List.set_cons_succ]
      refine tk (i := 17) (v := _) (by simp only [List.getElem?_toArray, List.getElem?_cons_zero, List.getElem?_cons_succ]; rfl) (by kernel_rfl) (yieldsIf_load_mid (by rfl) 25 (.tmp 4) rfl Ba 0 rfl [.int .i64 ax, .int .i64 ay] _ (fun _ h => h.a) Tryd.underlying25 rfl sizeVec) HS12.out.drew ?_
      try simp only [Act.put, List.setIfInBounds_toArray, List.set_cons_zero, List.set_cons_succ]
      refine wpAnyH_ready (rs := [16]) (by kernel_rfl) (by simp) ?_
      refine AllReadyH.cons (by simp only [List.getElem?_toArray, List.getElem?_cons_zero, List.getElem?_cons_succ]; rfl) (fun K hK => ?_) AllReadyH.nil
      go_simp
      go_at_call 14
      refine (HSsb.out _ HS12.out.drew).mono ?_
      rintro r w130 ⟨rfl, hS130⟩
      go_wp2_with fail
      refine hK.out _ _ hS130 (fun _ => ?_)
      clear hK K
      try simp only [Act.put, List.setIfInBounds_toArray, List.set_cons_zero, List.set_cons_succ]
      refine tk (i := 18) (v := .bool false) (by simp only [List.getElem?_toArray, List.getElem?_cons_zero, List.getElem?_cons_succ]; rfl) (by kernel_rfl) (Or.inl ⟨by rfl, ?_⟩) hS130 ?_
      · (intro wq hSw; go_simp; all_goals with_reducible rfl)
      try simp only [Act.put, List.setIfInBounds_toArray, List.set_cons_zero, List.set_cons_succ]
      refine tk (i := 19) (v := .bool false) (by simp only [List.getElem?_toArray, List.getElem?_cons_zero, List.getElem?_cons_succ]; rfl) (by kernel_rfl) (Or.inl ⟨by rfl, ?_⟩) hS130 ?_
      · (intro wq hSw; go_simp; all_goals with_reducible rfl)
      try simp only [Act.put, List.setIfInBounds_toArray, List.set_cons_zero, List.set_cons_succ]
      refine tk (i := 20) (v := ?_) (by simp only [List.getElem?_toArray, List.getElem?_cons_zero, List.getElem?_cons_succ]; rfl) (by kernel_rfl) (Or.inl ⟨by rfl, ?_⟩) hS130 ?_
      rotate_left
      · (intro wq hSw; go_simp; all_goals with_reducible rfl)
      try simp only [Act.put, List.setIfInBounds_toArray, List.set_cons_zero, List.set_cons_succ]
      refine tk (i := 21) (v := _) (by simp only [List.getElem?_toArray, List.getElem?_cons_zero, List.getElem?_cons_succ]; rfl) (by kernel_rfl) (yieldsIf_load_mid (by rfl) 25 (.tmp 10) rfl Bd 0 rfl [.int .i64 d0, .int .i64 d1] _ (fun _ h => h.d) Tryd.underlying25 rfl sizeVec) hS130 ?_
      try simp only [Act.put, List.setIfInBounds_toArray, List.set_cons_zero, List.set_cons_succ]
      refine tk (i := 22) (v := _) (by simp only [List.getElem?_toArray, List.getElem?_cons_zero, List.getElem?_cons_succ]; rfl) (by kernel_rfl) (yieldsIf_load_mid (by rfl) 25 (.tmp 5) rfl Bb 0 rfl [.int .i64 bx, .int .i64 by'] _ (fun _ h => h.b) Tryd.underlying25 rfl sizeVec) hS130 ?_
      try simp only [Act.put, List.setIfInBounds_toArray, List.set_cons_zero, List.set_cons_succ]
      refine tk (i := 24) (v := _) (by simp only [List.getElem?_toArray, List.getElem?_cons_zero, List.getElem?_cons_succ]; rfl) (by kernel_rfl) (yieldsIf_load_mid (by rfl) 25 (.tmp 4) rfl Ba 0 rfl [.int .i64 ax, .int .i64 ay] _ (fun _ h => h.a) Tryd.underlying25 rfl sizeVec) hS130 ?_
      try simp only [Act.put, List.setIfInBounds_toArray, List.set_cons_zero, List.set_cons_succ]
      refine wpAnyH_ready (rs := [23]) (by kernel_rfl) (by simp) ?_
      refine AllReadyH.cons (by simp only [List.getElem?_toArray, List.getElem?_cons_zero, List.getElem?_cons_succ]; rfl) (fun K hK => ?_) AllReadyH.nil
      go_simp
      go_at_call 15
      refine (HAdb.out _ hS130).mono ?_
      rintro r w131 ⟨rfl, hS131⟩
      go_wp2_with fail
      refine hK.out _ _ hS131 (fun _ => ?_)
      clear hK K
      try simp only [Act.put, List.setIfInBounds_toArray, List.set_cons_zero, List.set_cons_succ]
      refine tk (i := 25) (v := .bool false) (by simp only [List.getElem?_toArray, List.getElem?_cons_zero, List.getElem?_cons_succ]; rfl) (by kernel_rfl) (Or.inl ⟨by rfl, ?_⟩) hS131 ?_
      · (intro wq hSw; go_simp; all_goals with_reducible rfl)
      try simp only [Act.put, List.setIfInBounds_toArray, List.set_cons_zero, List.set_cons_succ]
      refine tk (i := 26) (v := .bool false) (by simp only [List.getElem?_toArray, List.getElem?_cons_zero, List.getElem?_cons_succ]; rfl) (by kernel_rfl) (Or.inl ⟨by rfl, ?_⟩) hS131 ?_
      · (intro wq hSw; go_simp; all_goals with_reducible rfl)
      try simp only [Act.put, List.setIfInBounds_toArray, List.set_cons_zero, List.set_cons_succ]
      refine wpAnyH_done (by kernel_rfl) ?_ _
      refine NoPanic.normal ?_
      have HS13 := Lib.hid hS131
      clear HS12 HSsb HAdb e1 e2
      clear HIN
      obtain ⟨M, hM⟩ : ∃ M : Int, M = (m : Int) := ⟨_, rfl⟩
      go_upto_region 15 with fail
      go_cut [13] (fun u wx => u = .int .i64 (n.tmod 100) ∧ BndS Ba Bb Bs Bd Bc Bx ax ay bx by' s0 s1 d0 d1 c0 c1 x0 x1 w8 wx)
      case first =>
        have ew : IntKind.i64.wrap (n.tmod 100) = n.tmod 100 := by rw [IntKind.wrap_i64]; omega
        go_wp2_with fail
        go_meet
        case rel => exact ⟨rfl, HS13.out⟩
      case rest =>
      as_aux_lemma =>
      obtain ⟨rfl, hS14⟩ := hcut
      have HS14 := Lib.hid hS14
      clear hS14 HS13
      obtain ⟨R, hR⟩ : ∃ R, n.tmod 100 = R := ⟨_, rfl⟩
      rw [hR] at hm ⊢
      go_upto_if 178 with fail
      go_cut [13] (fun u wx => u = .int .i64 (m : Int) ∧ BndS Ba Bb Bs Bd Bc Bx ax ay bx by' s0 s1 d0 d1 c0 c1 x0 x1 w8 wx)
      case first =>
        have ew : IntKind.i64.wrap (-R) = -R := by rw [IntKind.wrap_i64]; omega
        by_cases hR0 : R < 0
        · have em : -R = (m : Int) := by omega
          go_wp2_with fail
          go_meet
          case rel => exact ⟨by first | rfl | rw [em] | simp [em], HS14.out⟩
        · have em : R = (m : Int) := by omega
          go_wp2_with fail
          go_meet
          case rel => exact ⟨by first | rfl | rw [em] | simp [em], HS14.out⟩
      case rest =>
      as_aux_lemma =>
      obtain ⟨rfl, hS15⟩ := hcut
      clear hR hm HS14
      go_upto_region 19 with (refine wpList_store_new rfl 25 (.tmp 14) (.tmp 181) rfl 25 _ [.int .i64 0, .int .i64 0] rfl rfl sizeVec rfl (one2 _ _) ?_; intro w16 hN16 hMc hsc)
      obtain ⟨Bm, hBm⟩ : ∃ B, wc.heap.size = B := ⟨_, rfl⟩
      have hBm8 : w8.heap.size ≤ Bm := by rw [← hBm]; exact hS15.m.size
      rw [hBm] at hN16 ⊢
      have hS16 := hS15.mod hMc
      clear hMc hsc hBm hS15
      go_wp2_with fail
      go_loopw [15] (fun q wz => ∃ i : Nat, i ≤ m ∧ q = .int .i64 i ∧ Blk wz Bm [.int .i64 ((i : Int) * ax), .int .i64 ((i : Int) * ay)] 25 ∧ BndS Ba Bb Bs Bd Bc Bx ax ay bx by' s0 s1 d0 d1 c0 c1 x0 x1 w8 wz) (fun q _ => m - (intOf q).toNat)
      case atStart => exact ⟨0, by omega, rfl, hN16.cs (by simp), hS16⟩
      case round =>
        clear hN16 hS16
        obtain ⟨i, hi, rfl, hBl, hS⟩ := hrel
        have bax := FixM.whole_bd HQ.out.1 (m := (i : Int)) ⟨by omega, by omega⟩
        have bay := FixM.whole_bd HQ.out.2 (m := (i : Int)) ⟨by omega, by omega⟩
        obtain ⟨P, hP⟩ : ∃ P, (i : Int) * ax = P := ⟨_, rfl⟩
        obtain ⟨U, hU⟩ : ∃ P, (i : Int) * ay = P := ⟨_, rfl⟩
        rw [hP] at bax hBl
        rw [hU] at bay hBl
        by_cases hlt : i < m
        · have hlti : (i : Int) < (m : Int) := by omega
          have p0 := hBl.cell (j := 0) rfl
          have p1 := hBl.cell (j := 1) rfl
          have a0 := hS.a0; have a1 := hS.a1
          have eP : P + ax = ((i + 1 : Nat) : Int) * ax := by rw [← hP]; grind
          have eU : U + ay = ((i + 1 : Nat) : Int) * ay := by rw [← hU]; grind
          have hadd := vec_Add.calls 9 P U ax ay (P + ax) (U + ay) wr (by rw [FixM.vadd_eq 8 (by unfold FixM.I64; omega) (by unfold FixM.I64; omega) hax hay, FixM.lim_id (by have := HQ.out; omega), FixM.lim_id (by have := HQ.out; omega)])
          have HADD := Lib.hid hadd; have HS := Lib.hid hS; have HBl := Lib.hid hBl
          clear hadd hS hBl hP hU
          go_wp2_with fail
          clear a0 a1 p0 p1
          refine HADD.out.mono ?_
          rintro e w17 ⟨rfl, hb17⟩
          have hB17 := (Mod.of_below (S := none_) hb17).blk HBl.out (fun h => h)
          have hS17 := HS.out.below hb17
          clear hb17 HADD
          have p0 : w17.cell? ⟨Bm, 0, none⟩ = some (.int .i64 P) := hB17.cell rfl
          have p1 : w17.cell? ⟨Bm, 1, none⟩ = some (.int .i64 U) := hB17.cell rfl
          have f0 : w17.frozen? ⟨Bm, 0, none⟩ = false := hB17.frozen 0
          have f1 : w17.frozen? ⟨Bm, 1, none⟩ = false := hB17.frozen 1
          have hB18 : Blk ((w17.setCell ⟨Bm, 0, none⟩ (.int .i64 (P + ax))).setCell ⟨Bm, 1, none⟩ (.int .i64 (U + ay))) Bm [.int .i64 (P + ax), .int .i64 (U + ay)] 25 := ((hB17.set 0 _).set 1 _).cs rfl
          have hM18 : Mod (only Bm) w17 ((w17.setCell ⟨Bm, 0, none⟩ (.int .i64 (P + ax))).setCell ⟨Bm, 1, none⟩ (.int .i64 (U + ay))) := ((Mod.refl _ _).setCell (p := ⟨Bm, 0, none⟩) (fun _ => only_self Bm) _).setCell (p := ⟨Bm, 1, none⟩) (fun _ => only_self Bm) _
          have HS18 := Lib.hid (hS17.modB hM18 hBm8 hBa8); have HB18 := Lib.hid hB18
          have EP := Lib.hid eP; have EU := Lib.hid eU
          clear hB18 hM18 hS17 hB17 eP eU
          go_wp2_with fail
          go_roundw
          case rel => exact ⟨i + 1, by omega, by go_num, HB18.out.cs (by rw [EP.out, EU.out] <;> rfl), HS18.out⟩
          case measure => simp [intOf]; omega
        · obtain rfl : i = m := by omega
          have hlti : ¬ (i : Int) < (i : Int) := by omega
          have e65 : IntKind.i64.wrap ((i : Int) * 65536) = (i : Int) * 65536 := by rw [IntKind.wrap_i64]; omega
          obtain ⟨Z, hZ⟩ : ∃ Z, (i : Int) * 65536 = Z := ⟨_, rfl⟩
          have hsca := fun q : World => vec_Scale.calls ax ay Z P U q (by rw [FixM.scale_eq hax hay (by unfold FixM.I64; omega), ← hZ, FixM.mulV_whole HQ.out.1 ⟨by omega, by omega⟩, FixM.mulV_whole HQ.out.2 ⟨by omega, by omega⟩, hP, hU])
          rw [hZ] at e65
          have HSCA : Hid (∀ q : World, BndM Bm P U ax ay bx by' s0 s1 d0 d1 c0 c1 x0 x1 Ba Bb Bs Bd Bc Bx w8 q → Calls Tryd.prog 23 #[.agg #[.int .i64 ax, .int .i64 ay], .int .i64 Z] q fun e w' => e = .returned (.agg #[.int .i64 P, .int .i64 U]) ∧ BndM Bm P U ax ay bx by' s0 s1 d0 d1 c0 c1 x0 x1 Ba Bb Bs Bd Bc Bx w8 w') := Lib.hid (fun q hq => (hsca q).mono fun e w' ⟨he, hd⟩ => ⟨he, hq.below hd⟩)
          have hS23 : BndM Bm P U ax ay bx by' s0 s1 d0 d1 c0 c1 x0 x1 Ba Bb Bs Bd Bc Bx w8 wr := ⟨hS, range2 hBl⟩
          have HS23 := Lib.hid hS23
          clear hsca hS23 hS hBl hP hU
          go_upto_region 23 with fail
          as_aux_lemma =>
          refine wp_region_noPanic ?_
          refine wp_region_held_drew (S := (BndM Bm P U ax ay bx by' s0 s1 d0 d1 c0 c1 x0 x1 Ba Bb Bs Bd Bc Bx w8)) (by kernel_rfl) HS23.out.drew (fun hHeld => ?_)
          clear hHeld
          refine tk (i := 0) (v := _) (by simp only [List.getElem?_toArray, List.getElem?_cons_zero]; rfl) (by kernel_rfl) (yieldsIf_load_mid (by rfl) 25 (.tmp 4) rfl Ba 0 rfl [.int .i64 ax, .int .i64 ay] _ (fun _ h => h.s.a) Tryd.underlying25 rfl sizeVec) HS23.out.drew ?_
          try simp only [Act.put, List.setIfInBounds_toArray, List.set_cons_zero, List.set_cons_succ]
          refine tk (i := 1) (v := ?_) (by simp only [List.getElem?_toArray, List.getElem?_cons_zero, List.getElem?_cons_succ]; rfl) (by kernel_rfl) (Or.inl ⟨by rfl, ?_⟩) HS23.out.drew ?_
          rotate_left
          · (intro wq hSw; go_simp; all_goals with_reducible rfl)
          try simp only [Act.put, List.setIfInBounds_toArray, List.set_cons_zero, List.set_cons_succ]
          refine tk (i := 2) (v := ?_) (by simp only [List.getElem?_toArray, List.getElem?_cons_zero, List.getElem?_cons_succ]; rfl) (by kernel_rfl) (Or.inl ⟨by rfl, ?_⟩) HS23.out.drew ?_
          rotate_left
          · (intro wq hSw; go_simp; all_goals with_reducible rfl)
          try simp only [Act.put, List.setIfInBounds_toArray, List.set_cons_zero, List.set_cons_succ]
          refine tk (i := 4) (v := _) (by simp only [List.getElem?_toArray, List.getElem?_cons_zero, List.getElem?_cons_succ]; rfl) (by kernel_rfl) (yieldsIf_load_mid (by rfl) 25 (.tmp 14) rfl Bm 0 rfl [.int .i64 P, .int .i64 U] _ (fun _ h => h.p) Tryd.underlying25 rfl sizeVec) HS23.out.drew ?_
          try simp only [Act.put, List.setIfInBounds_toArray, List.set_cons_zero, List.set_cons_succ]
          refine wpAnyH_ready (rs := [3]) (by kernel_rfl) (by simp) ?_
          refine AllReadyH.cons (by simp only [List.getElem?_toArray, List.getElem?_cons_zero, List.getElem?_cons_succ]; rfl) (fun K hK => ?_) AllReadyH.nil
          go_simp
          go_at_call 23
          refine (HSCA.out _ HS23.out.drew).mono ?_
          rintro r w230 ⟨rfl, hS230⟩
          go_wp2_with fail
          refine hK.out _ _ hS230 (fun _ => ?_)
          clear hK K
          try simp only [Act.put, List.setIfInBounds_toArray, List.set_cons_zero, List.set_cons_succ]
          refine tk (i := 5) (v := .bool true) (by simp only [List.getElem?_toArray, List.getElem?_cons_zero, List.getElem?_cons_succ]; rfl) (by kernel_rfl) (Or.inl ⟨by rfl, ?_⟩) hS230 ?_
          · (intro wq hSw; go_simp; all_goals with_reducible rfl)
          try simp only [Act.put, List.setIfInBounds_toArray, List.set_cons_zero, List.set_cons_succ]
          refine tk (i := 6) (v := ?_) (by simp only [List.getElem?_toArray, List.getElem?_cons_zero, List.getElem?_cons_succ]; rfl) (by kernel_rfl) (Or.inl ⟨by rfl, ?_⟩) hS230 ?_
          rotate_left
          · (intro wq hSw; go_simp; all_goals with_reducible rfl)
          try simp only [Act.put, List.setIfInBounds_toArray, List.set_cons_zero, List.set_cons_succ]
          refine wpAnyH_done (by kernel_rfl) ?_ _
          refine NoPanic.normal ?_
          have hend := hS230
          go_wp2_with fail
          go_ret
          exact ⟨rfl, HM8.out.then hend.s.m⟩
    · have hsc := fun q : World => joustlaw13_small.calls ax ay bx by' false q (by rw [FixM.small_eq', decide_eq_false hsm])
      go_wp2_with fail
      refine (hsc _).mono ?_
      rintro e w12 ⟨rfl, hb12⟩
      have hS12 := HS9.out.below hb12
      go_wp2_with fail
      go_ret
      exact ⟨rfl, HM8.out.then hS12.m⟩
end Go.Proofs.YtcmbklofbemclaaDoor
