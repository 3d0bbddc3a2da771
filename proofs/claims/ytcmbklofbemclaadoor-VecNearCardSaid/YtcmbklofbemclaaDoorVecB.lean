/- VecNear: the law's walk. -/
import Derived.Test.YtcmbklofbemclaaDoorVecL
import Derived.Test.YtcmbklofbemclaaDoorVecT0
import Derived.Test.YtcmbklofbemclaaDoorFixG
namespace Go.Proofs.YtcmbklofbemclaaDoor.FixM
open Go.RowKit Go.Proofs.YtcmbklofbemclaaDoor Go.Proofs.YtcmbklofbemclaaDoor.VVecB Go.Proofs.YtcmbklofbemclaaDoorW.PrintWords Go.Proofs.YtcmbklofbemclaaDoorW.PrintLast Go.Proofs.YtcmbklofbemclaaDoorW.PrintMore

theorem small_eq' (a b c d : Int) : joustlaw13_small.f a b c d = some (decide ((-536870912 ≤ a ∧ a ≤ 536870912) ∧ (-536870912 ≤ b ∧ b ≤ 536870912) ∧ (-536870912 ≤ c ∧ c ≤ 536870912) ∧ (-536870912 ≤ d ∧ d ≤ 536870912))) := by
  unfold joustlaw13_small.f
  rw [in_eq (by decide), in_eq (by decide), in_eq (by decide), in_eq (by decide)]
  by_cases h1 : -536870912 ≤ a ∧ a ≤ 536870912 <;> by_cases h2 : -536870912 ≤ b ∧ b ≤ 536870912 <;> by_cases h3 : -536870912 ≤ c ∧ c ≤ 536870912 <;> simp [h1, h2, h3]
/-- a part's size, kept -/
def sizeV (x : Int) : Int := mag (keep x 2147483647)
theorem lawsize_eq (k : Nat) {x : Int} (_hx : I64 x) : joustlaw13_size.f (k + 1) x = some (sizeV x) := by
  unfold joustlaw13_size.f
  simp only [joustlaw13_size.j0]
  unfold sizeV
  unfold I64 at _hx
  by_cases h1 : x > 2147483647
  · rw [if_pos h1]
    simp only [if_true]
    have e : keep x 2147483647 = 2147483647 := by unfold keep; rw [if_pos h1]
    rw [e]; rfl
  · rw [if_neg h1]
    by_cases h2 : x < -2147483647
    · simp only [decide_eq_true h2, if_true]
      have e : keep x 2147483647 = -2147483647 := by unfold keep; rw [if_neg h1, if_pos h2]
      rw [e]; rfl
    · simp only [decide_eq_false h2, Bool.false_eq_true, if_false]
      have e : keep x 2147483647 = x := keep_id (by omega)
      rw [e]
      unfold mag
      by_cases h3 : x < 0
      · rw [if_pos h3, if_pos h3, w64_self (by unfold I64; omega)]
      · rw [if_neg h3, if_neg h3]
theorem sizeV_bd (x : Int) : 0 ≤ sizeV x ∧ sizeV x ≤ 2147483647 := by
  have := keep_bd (x := x) (m := 2147483647) (by decide)
  unfold sizeV mag
  split <;> omega
theorem sizeV_sq (x : Int) : sizeV x * sizeV x = sq (keep x 2147483647) := by
  unfold sizeV mag sq
  split <;> grind
theorem dist_sym (a b c d : Int) : dist a b c d = dist c d a b := by
  unfold dist
  rw [dif_neg c a, dif_neg d b, sq_neg, sq_neg]
theorem dist_self (a b : Int) : dist a b a b = 0 := by
  unfold dist dif sq keep
  simp
theorem near_sym (a b c d r : Int) : nearB a b c d r = nearB c d a b r := by unfold nearB; rw [dist_sym]
theorem near_m1 (a b c d : Int) : nearB a b c d (-1) = false := by unfold nearB; rw [if_pos (by decide)]
theorem near_big (a b c d : Int) : nearB a b c d 4611686018427387904 = true := by unfold nearB; rw [if_neg (by decide), if_pos (by decide)]
theorem near_0 (a b c d : Int) : nearB a b c d 0 = (dist a b c d == 0) := by
  have h := dist_bd a b c d
  unfold nearB
  rw [if_neg (by decide), if_neg (by decide)]
  by_cases h0 : dist a b c d = 0
  · rw [h0]; rfl
  · have h1 : (dist a b c d == 0) = false := by simpa using h0
    rw [h1]
    exact decide_eq_false (by omega)
theorem near_next (a b c d r : Int) (hr : 0 ≤ r) (h : nearB a b c d r = true) : nearB a b c d (r + 1) = true := by
  unfold nearB at *
  rw [if_neg (by omega)] at *
  by_cases h1 : r + 1 ≥ 3037000500
  · rw [if_pos h1]
  · rw [if_neg h1]
    rw [if_neg (by omega)] at h
    have h2 : dist a b c d ≤ r * r := of_decide_eq_true h
    have h3 : r * r ≤ (r + 1) * (r + 1) := by
      have e : (r + 1) * (r + 1) = r * r + 2 * r + 1 := by grind
      omega
    exact decide_eq_true (by omega)
/-- what is said of a root and its parts -/
theorem root_parts {x y l : Int} (hx : 0 ≤ x ∧ x ≤ 2147483647) (hy : 0 ≤ y ∧ y ≤ 2147483647) (hl : IsRoot (x * x + y * y) l) : x ≤ l ∧ y ≤ l ∧ l ≤ x + y := by
  obtain ⟨h0, h1, h2⟩ := hl
  have a1 : 0 ≤ x * x := Int.mul_nonneg hx.1 hx.1
  have a2 : 0 ≤ y * y := Int.mul_nonneg hy.1 hy.1
  have a3 : 0 ≤ x * y := Int.mul_nonneg hx.1 hy.1
  refine ⟨?_, ?_, ?_⟩
  · by_cases h : x ≤ l
    · exact h
    · have h3 : (l + 1) * (l + 1) ≤ x * x := Int.mul_le_mul (by omega) (by omega) (by omega) (by omega)
      omega
  · by_cases h : y ≤ l
    · exact h
    · have h3 : (l + 1) * (l + 1) ≤ y * y := Int.mul_le_mul (by omega) (by omega) (by omega) (by omega)
      omega
  · by_cases h : l ≤ x + y
    · exact h
    · have h3 : (x + y + 1) * (x + y + 1) ≤ l * l := Int.mul_le_mul (by omega) (by omega) (by omega) (by omega)
      have e : (x + y + 1) * (x + y + 1) = x * x + y * y + 2 * (x * y) + 2 * x + 2 * y + 1 := by grind
      omega
theorem sq_top {l m : Int} (h : 0 ≤ l ∧ l ≤ m) : 0 ≤ l * l ∧ l * l ≤ m * m := ⟨Int.mul_nonneg h.1 h.1, Int.mul_le_mul h.2 h.2 h.1 (by omega)⟩
theorem dist_small {a b c d : Int} (ha : -536870912 ≤ a ∧ a ≤ 536870912) (hb : -536870912 ≤ b ∧ b ≤ 536870912) (hc : -536870912 ≤ c ∧ c ≤ 536870912) (hd : -536870912 ≤ d ∧ d ≤ 536870912) :
    dist a b c d = (a - c) * (a - c) + (b - d) * (b - d) ∧ len2 (a - c) (b - d) = (a - c) * (a - c) + (b - d) * (b - d) := by
  unfold dist len2 dif sq
  rw [keep_id (by omega), keep_id (by omega), keep_id (by omega), keep_id (by omega)]
  constructor
  · grind
  · rfl
theorem near_root {a b c d m : Int} (h : IsRoot (dist a b c d) m) (hm : m ≤ 3037000499) : nearB a b c d (m + 1) = true ∧ (0 < m → nearB a b c d (m - 1) = false) ∧ nearB a b c d m = (m * m == dist a b c d) := by
  obtain ⟨h0, h1, h2⟩ := h
  have e1 : (m + 1) * (m + 1) = m * m + 2 * m + 1 := by grind
  have e2 : (m - 1) * (m - 1) = m * m - 2 * m + 1 := by grind
  refine ⟨?_, fun hp => ?_, ?_⟩
  · unfold nearB
    rw [if_neg (by omega)]
    split
    · rfl
    · exact decide_eq_true (by omega)
  · unfold nearB
    rw [if_neg (by omega), if_neg (by omega)]
    exact decide_eq_false (by omega)
  · unfold nearB
    rw [if_neg (by omega), if_neg (by omega)]
    by_cases h3 : m * m = dist a b c d
    · have : (m * m == dist a b c d) = true := by simpa using h3
      rw [this]; exact decide_eq_true (by omega)
    · have : (m * m == dist a b c d) = false := by simpa using h3
      rw [this]; exact decide_eq_false (by omega)
end Go.Proofs.YtcmbklofbemclaaDoor.FixM
namespace Go.Proofs.YtcmbklofbemclaaDoor
open Go.RowKit Go.Proofs.YtcmbklofbemclaaDoorW.PrintWords Go.Proofs.YtcmbklofbemclaaDoor.VVecB

theorem sizeVec : (Tryd.prog.info? 25).map (·.size) = some 2 := by kernel_rfl
/-- the two places as they lie in memory, and what a call may have done -/
structure NearS (Ba Bb : Nat) (ax ay bx by' : Int) (w0 q : World) : Prop where
  a : q.rangeAt Ba 0 [.int .i64 ax, .int .i64 ay]
  b : q.rangeAt Bb 0 [.int .i64 bx, .int .i64 by']
  m : Mod none_ w0 q
theorem NearS.mod {Ba Bb : Nat} {ax ay bx by' : Int} {w0 q q' : World} (s : NearS Ba Bb ax ay bx by' w0 q) (hM : Mod none_ q q') : NearS Ba Bb ax ay bx by' w0 q' := ⟨rangeAt_none s.a hM, rangeAt_none s.b hM, s.m.then hM⟩
theorem NearS.below {Ba Bb : Nat} {ax ay bx by' : Int} {w0 q q' : World} (s : NearS Ba Bb ax ay bx by' w0 q) (hM : Below q.heap.size q q') : NearS Ba Bb ax ay bx by' w0 q' := s.mod (Mod.of_below hM)
theorem NearS.drawn {Ba Bb : Nat} {ax ay bx by' : Int} {w0 q q' : World} (s : NearS Ba Bb ax ay bx by' w0 q) (hM : Drawn0 q q') : NearS Ba Bb ax ay bx by' w0 q' := by
  obtain ⟨⟨n, rfl⟩⟩ := hM
  exact s.mod ((Mod.refl none_ q).drewN n)
theorem NearS.drew {Ba Bb : Nat} {ax ay bx by' : Int} {w0 q : World} (s : NearS Ba Bb ax ay bx by' w0 q) : NearS Ba Bb ax ay bx by' w0 q.drew := s.mod (Mod.refl none_ q).drew
theorem NearS.ax0 {Ba Bb : Nat} {ax ay bx by' : Int} {w0 q : World} (s : NearS Ba Bb ax ay bx by' w0 q) : q.cell? ⟨Ba, 0, none⟩ = some (.int .i64 ax) := s.a 0 _ rfl
theorem NearS.ay0 {Ba Bb : Nat} {ax ay bx by' : Int} {w0 q : World} (s : NearS Ba Bb ax ay bx by' w0 q) : q.cell? ⟨Ba, 1, none⟩ = some (.int .i64 ay) := s.a 1 _ rfl
theorem NearS.bx0 {Ba Bb : Nat} {ax ay bx by' : Int} {w0 q : World} (s : NearS Ba Bb ax ay bx by' w0 q) : q.cell? ⟨Bb, 0, none⟩ = some (.int .i64 bx) := s.b 0 _ rfl
theorem NearS.by0 {Ba Bb : Nat} {ax ay bx by' : Int} {w0 q : World} (s : NearS Ba Bb ax ay bx by' w0 q) : q.cell? ⟨Bb, 1, none⟩ = some (.int .i64 by') := s.b 1 _ rfl
theorem range2 {w : World} {B : Nat} {a b : Value} {T : TypeId} (h : Blk w B [a, b] T) : w.rangeAt B 0 [a, b] := fun n v hn => by
  rw [Nat.zero_add]
  exact h.cell hn

set_option maxHeartbeats 4000000 in
set_option maxRecDepth 100000 in
theorem vecNear_any (w : World) (hG : Sines w) (ax ay bx by' r : Int) (hax : FixM.I64 ax) (hay : FixM.I64 ay) (hbx : FixM.I64 bx) (hby : FixM.I64 by') (hr : FixM.I64 r) :
    Calls Tryd.prog 6 #[.agg #[.int .i64 ax, .int .i64 ay], .agg #[.int .i64 bx, .int .i64 by'], .int .i64 r] w fun e w' => e = .returned (.bool true) ∧ Mod none_ w w' := by
  have HR := Lib.hid hr
  go_enter Tryd.func6, Tryd.ntmps6
  go_upto_region 1 with fail
  obtain ⟨w0, hw0, hA0, hB0, hM0⟩ : ∃ w0, (w.alloc (.cells #[.int .i64 ax, .int .i64 ay] 25)).alloc (.cells #[.int .i64 bx, .int .i64 by'] 25) = w0 ∧ Blk w0 w.heap.size [.int .i64 ax, .int .i64 ay] 25 ∧ Blk w0 (w.heap.size + 1) [.int .i64 bx, .int .i64 by'] 25 ∧ Mod none_ w w0 := ⟨_, rfl, (Blk.new w [.int .i64 ax, .int .i64 ay] _).alloc _, Blk.newA2 w _ #[.int .i64 bx, .int .i64 by'] _, ((Mod.refl _ _).alloc _).alloc _⟩
  rw [hw0]
  clear hw0
  go_wp2_with fail
  refine (joustlaw13_alive.calls 400 true _ FixM.alive_eq (hG.below hM0.below)).mono ?_
  rintro e w1 ⟨rfl, hb⟩
  have hM1 := hM0.then (Mod.of_below hb)
  have hA1 := (Mod.of_below (S := none_) hb).blk hA0 (fun h => h)
  have hB1 := (Mod.of_below (S := none_) hb).blk hB0 (fun h => h)
  obtain ⟨Ba, hBa⟩ : ∃ B, w.heap.size = B := ⟨_, rfl⟩
  obtain ⟨Bb, hBb⟩ : ∃ B, w.heap.size + 1 = B := ⟨_, rfl⟩
  rw [hBb] at hB1 ⊢
  rw [hBa] at hA1 ⊢
  have HS1 := Lib.hid (show NearS Ba Bb ax ay bx by' w1 w1 from ⟨range2 hA1, range2 hB1, Mod.refl _ _⟩)
  have HM1 := Lib.hid hM1
  clear hM0 hb hM1 hA0 hB0 hA1 hB1 hBa hBb hG
  obtain ⟨D, hD⟩ : ∃ D, FixM.dist ax ay bx by' = D := ⟨_, rfl⟩
  have hD0 : 0 ≤ D := by rw [← hD]; exact (FixM.dist_bd _ _ _ _).1
  obtain ⟨N, hN⟩ : ∃ N, FixM.nearB ax ay bx by' r = N := ⟨_, rfl⟩
  have HDab : Hid (∀ q : World, NearS Ba Bb ax ay bx by' w1 q → Calls Tryd.prog 17 #[.agg #[.int .i64 ax, .int .i64 ay], .agg #[.int .i64 bx, .int .i64 by']] q fun e w' => e = .returned (.int .i64 D) ∧ NearS Ba Bb ax ay bx by' w1 w') := Lib.hid (fun q hq => (vec_Dist2.calls 9 ax ay bx by' _ q (by rw [FixM.dist2_eq 8 hax hay hbx hby, hD])).mono fun e w' ⟨he, hd⟩ => ⟨he, hq.below hd⟩)
  have HDba : Hid (∀ q : World, NearS Ba Bb ax ay bx by' w1 q → Calls Tryd.prog 17 #[.agg #[.int .i64 bx, .int .i64 by'], .agg #[.int .i64 ax, .int .i64 ay]] q fun e w' => e = .returned (.int .i64 D) ∧ NearS Ba Bb ax ay bx by' w1 w') := Lib.hid (fun q hq => (vec_Dist2.calls 9 bx by' ax ay _ q (by rw [FixM.dist2_eq 8 hbx hby hax hay, FixM.dist_sym, hD])).mono fun e w' ⟨he, hd⟩ => ⟨he, hq.below hd⟩)
  have HDaa : Hid (∀ q : World, NearS Ba Bb ax ay bx by' w1 q → Calls Tryd.prog 17 #[.agg #[.int .i64 ax, .int .i64 ay], .agg #[.int .i64 ax, .int .i64 ay]] q fun e w' => e = .returned (.int .i64 0) ∧ NearS Ba Bb ax ay bx by' w1 w') := Lib.hid (fun q hq => (vec_Dist2.calls 9 ax ay ax ay _ q (by rw [FixM.dist2_eq 8 hax hay hax hay, FixM.dist_self])).mono fun e w' ⟨he, hd⟩ => ⟨he, hq.below hd⟩)
  have hNr : ∀ (s : Int) (β : Bool), FixM.nearB ax ay bx by' s = β → ∀ q : World, NearS Ba Bb ax ay bx by' w1 q → Calls Tryd.prog 18 #[.agg #[.int .i64 ax, .int .i64 ay], .agg #[.int .i64 bx, .int .i64 by'], .int .i64 s] q fun e w' => e = .returned (.bool β) ∧ NearS Ba Bb ax ay bx by' w1 w' := fun s β hβ q hq => (vec_Within.calls 9 ax ay bx by' s _ q (by rw [FixM.near_eq 8 hax hay hbx hby, hβ])).mono fun e w' ⟨he, hd⟩ => ⟨he, hq.below hd⟩
  have HNab := Lib.hid (hNr r N hN)
  have HNba : Hid (∀ q : World, NearS Ba Bb ax ay bx by' w1 q → Calls Tryd.prog 18 #[.agg #[.int .i64 bx, .int .i64 by'], .agg #[.int .i64 ax, .int .i64 ay], .int .i64 r] q fun e w' => e = .returned (.bool N) ∧ NearS Ba Bb ax ay bx by' w1 w') := Lib.hid (fun q hq => (vec_Within.calls 9 bx by' ax ay r _ q (by rw [FixM.near_eq 8 hbx hby hax hay, FixM.near_sym, hN])).mono fun e w' ⟨he, hd⟩ => ⟨he, hq.below hd⟩)
  have HNm1 := Lib.hid (hNr (-1) false (FixM.near_m1 _ _ _ _))
  have HNbig := Lib.hid (hNr 4611686018427387904 true (FixM.near_big _ _ _ _))
  have HN0 := Lib.hid (hNr 0 (D == 0) (by rw [FixM.near_0, hD]))
  have HNR := Lib.hid hNr; have HD := Lib.hid hD; have HN := Lib.hid hN
  obtain ⟨l, hl1, hl2, hl3⟩ := FixM.len_eq 40 (by omega) ax ay
  have HLen : Hid (∀ q : World, NearS Ba Bb ax ay bx by' w1 q → Calls Tryd.prog 19 #[.agg #[.int .i64 ax, .int .i64 ay]] q fun e w' => e = .returned (.int .i64 l) ∧ NearS Ba Bb ax ay bx by' w1 w') := Lib.hid (fun q hq => (vec_Len.calls 40 ax ay l q hl1).mono fun e w' ⟨he, hd⟩ => ⟨he, hq.below hd⟩)
  obtain ⟨x, hx⟩ : ∃ x, FixM.sizeV ax = x := ⟨_, rfl⟩
  obtain ⟨y, hy⟩ : ∃ x, FixM.sizeV ay = x := ⟨_, rfl⟩
  have hxb := FixM.sizeV_bd ax; have hyb := FixM.sizeV_bd ay
  have hl4 : FixM.IsRoot (x * x + y * y) l := by rw [← hx, ← hy, FixM.sizeV_sq, FixM.sizeV_sq]; exact hl2
  rw [hx] at hxb
  rw [hy] at hyb
  have HSx : Hid (∀ q : World, NearS Ba Bb ax ay bx by' w1 q → Calls Tryd.prog 20 #[.int .i64 ax] q fun e w' => e = .returned (.int .i64 x) ∧ NearS Ba Bb ax ay bx by' w1 w') := Lib.hid (fun q hq => (joustlaw13_size.calls 9 ax x q (by rw [FixM.lawsize_eq 8 hax, hx])).mono fun e w' ⟨he, hd⟩ => ⟨he, hq.drawn hd⟩)
  have HSy : Hid (∀ q : World, NearS Ba Bb ax ay bx by' w1 q → Calls Tryd.prog 20 #[.int .i64 ay] q fun e w' => e = .returned (.int .i64 y) ∧ NearS Ba Bb ax ay bx by' w1 w') := Lib.hid (fun q hq => (joustlaw13_size.calls 9 ay y q (by rw [FixM.lawsize_eq 8 hay, hy])).mono fun e w' ⟨he, hd⟩ => ⟨he, hq.drawn hd⟩)
  have HL4 := Lib.hid hl4
  have HSM := Lib.hid (fun q : World => joustlaw13_small.calls ax ay bx by' _ q (FixM.small_eq' ax ay bx by'))
  have HB := Lib.hid (show FixM.I64 ax ∧ FixM.I64 ay ∧ FixM.I64 bx ∧ FixM.I64 by' from ⟨hax, hay, hbx, hby⟩)
  clear hax hay hbx hby hNr hD hN hl1 hl2 hl4 hx hy hr
  have a0 := HS1.out.ax0; have a1 := HS1.out.ay0; have b0 := HS1.out.bx0; have b1 := HS1.out.by0
  go_wp2_with fail
  clear a0 a1 b0 b1
  refine (HDab.out _ HS1.out).mono ?_
  rintro e w3 ⟨rfl, hS3⟩
  have HS4 := Lib.hid hS3
  have hDl : ¬ D < 0 := by omega
  clear hS3 hD0
  go_upto_region 4 with fail
  refine wp_region_noPanic ?_
  refine wp_region_held_drew (S := (NearS Ba Bb ax ay bx by' w1)) (by kernel_rfl) HS4.out.drew (fun hHeld => ?_)
  clear hHeld
  refine wpAnyH_take (i := 0) (v := ?_) (by simp only [List.getElem?_toArray, List.getElem?_cons_zero]; rfl) (by kernel_rfl) (by kernel_rfl) (by kernel_rfl) (fun _ _ _ h => h) (Or.inl ⟨by rfl, ?_⟩) HS4.out.drew ?_
  rotate_left
  · (intro wq hSw; go_simp; all_goals with_reducible rfl)
  try simp only [Act.put, List.setIfInBounds_toArray, List.set_cons_zero, List.set_cons_succ]
  refine wpAnyH_take (i := 1) (v := .bool false) (by simp only [List.getElem?_toArray, List.getElem?_cons_zero, List.getElem?_cons_succ]; rfl) (by kernel_rfl) (by kernel_rfl) (by kernel_rfl) (fun _ _ _ h => h) (Or.inl ⟨by rfl, ?_⟩) HS4.out.drew ?_
  · (intro wq hSw; go_simp; all_goals with_reducible rfl)
  try simp only [Act.put, List.setIfInBounds_toArray, List.set_cons_zero, List.set_cons_succ]
  refine wpAnyH_take (i := 2) (v := ?_) (by simp only [List.getElem?_toArray, List.getElem?_cons_zero, List.getElem?_cons_succ]; rfl) (by kernel_rfl) (by kernel_rfl) (by kernel_rfl) (fun _ _ _ h => h) (Or.inl ⟨by rfl, ?_⟩) HS4.out.drew ?_
  rotate_left
  · (intro wq hSw; go_simp; all_goals with_reducible rfl)
  try simp only [Act.put, List.setIfInBounds_toArray, List.set_cons_zero, List.set_cons_succ]
  refine wpAnyH_take (i := 3) (v := ?_) (by simp only [List.getElem?_toArray, List.getElem?_cons_zero, List.getElem?_cons_succ]; rfl) (by kernel_rfl) (by kernel_rfl) (by kernel_rfl) (fun _ _ _ h => h) (Or.inl ⟨by rfl, ?_⟩) HS4.out.drew ?_
  rotate_left
  · (intro wq hSw; go_simp; all_goals with_reducible rfl)
  try simp only [Act.put, List.setIfInBounds_toArray, List.set_cons_zero, List.set_cons_succ]
  refine wpAnyH_take (i := 4) (v := _) (by simp only [List.getElem?_toArray, List.getElem?_cons_zero, List.getElem?_cons_succ]; rfl) (by kernel_rfl) (by kernel_rfl) (by kernel_rfl) (fun _ _ _ h => h) (yieldsIf_load_mid (by rfl) 25 (.tmp 4) rfl Bb 0 rfl [.int .i64 bx, .int .i64 by'] _ (fun _ h => h.b) Tryd.underlying25 rfl sizeVec) HS4.out.drew ?_
  try simp only [Act.put, List.setIfInBounds_toArray, List.set_cons_zero, List.set_cons_succ]
  refine wpAnyH_take (i := 5) (v := _) (by simp only [List.getElem?_toArray, List.getElem?_cons_zero, List.getElem?_cons_succ]; rfl) (by kernel_rfl) (by kernel_rfl) (by kernel_rfl) (fun _ _ _ h => h) (yieldsIf_load_mid (by rfl) 25 (.tmp 3) rfl Ba 0 rfl [.int .i64 ax, .int .i64 ay] _ (fun _ h => h.a) Tryd.underlying25 rfl sizeVec) HS4.out.drew ?_
  try simp only [Act.put, List.setIfInBounds_toArray, List.set_cons_zero, List.set_cons_succ]
  refine wpAnyH_ready (rs := [6]) (by kernel_rfl) (by simp) ?_
  refine AllReadyH.cons (by simp only [List.getElem?_toArray, List.getElem?_cons_zero, List.getElem?_cons_succ]; rfl) (fun K hK => ?_) AllReadyH.nil
  go_simp
  go_at_call 17
  refine (HDba.out _ HS4.out.drew).mono ?_
  rintro r w41 ⟨rfl, hS41⟩
  go_wp2_with fail
  refine hK.out _ _ hS41 (fun _ => ?_)
  clear hK K
  try simp only [Act.put, List.setIfInBounds_toArray, List.set_cons_zero, List.set_cons_succ]
  refine wpAnyH_take (i := 7) (v := .bool false) (by simp only [List.getElem?_toArray, List.getElem?_cons_zero, List.getElem?_cons_succ]; rfl) (by kernel_rfl) (by kernel_rfl) (by kernel_rfl) (fun _ _ _ h => h) (Or.inl ⟨by rfl, ?_⟩) hS41 ?_
  · (intro wq hSw; go_simp; all_goals with_reducible rfl)
  try simp only [Act.put, List.setIfInBounds_toArray, List.set_cons_zero, List.set_cons_succ]
  refine wpAnyH_take (i := 8) (v := .bool false) (by simp only [List.getElem?_toArray, List.getElem?_cons_zero, List.getElem?_cons_succ]; rfl) (by kernel_rfl) (by kernel_rfl) (by kernel_rfl) (fun _ _ _ h => h) (Or.inl ⟨by rfl, ?_⟩) hS41 ?_
  · (intro wq hSw; go_simp; all_goals with_reducible rfl)
  try simp only [Act.put, List.setIfInBounds_toArray, List.set_cons_zero, List.set_cons_succ]
  refine wpAnyH_take (i := 9) (v := ?_) (by simp only [List.getElem?_toArray, List.getElem?_cons_zero, List.getElem?_cons_succ]; rfl) (by kernel_rfl) (by kernel_rfl) (by kernel_rfl) (fun _ _ _ h => h) (Or.inl ⟨by rfl, ?_⟩) hS41 ?_
  rotate_left
  · (intro wq hSw; go_simp; all_goals with_reducible rfl)
  try simp only [Act.put, List.setIfInBounds_toArray, List.set_cons_zero, List.set_cons_succ]
  refine wpAnyH_take (i := 10) (v := _) (by simp only [List.getElem?_toArray, List.getElem?_cons_zero, List.getElem?_cons_succ]; rfl) (by kernel_rfl) (by kernel_rfl) (by kernel_rfl) (fun _ _ _ h => h) (yieldsIf_load_mid (by rfl) 25 (.tmp 3) rfl Ba 0 rfl [.int .i64 ax, .int .i64 ay] _ (fun _ h => h.a) Tryd.underlying25 rfl sizeVec) hS41 ?_
  try simp only [Act.put, List.setIfInBounds_toArray, List.set_cons_zero, List.set_cons_succ]
  refine wpAnyH_take (i := 11) (v := _) (by simp only [List.getElem?_toArray, List.getElem?_cons_zero, List.getElem?_cons_succ]; rfl) (by kernel_rfl) (by kernel_rfl) (by kernel_rfl) (fun _ _ _ h => h) (yieldsIf_load_mid (by rfl) 25 (.tmp 3) rfl Ba 0 rfl [.int .i64 ax, .int .i64 ay] _ (fun _ h => h.a) Tryd.underlying25 rfl sizeVec) hS41 ?_
  try simp only [Act.put, List.setIfInBounds_toArray, List.set_cons_zero, List.set_cons_succ]
  refine wpAnyH_ready (rs := [12]) (by kernel_rfl) (by simp) ?_
  refine AllReadyH.cons (by simp only [List.getElem?_toArray, List.getElem?_cons_zero, List.getElem?_cons_succ]; rfl) (fun K hK => ?_) AllReadyH.nil
  go_simp
  go_at_call 17
  refine (HDaa.out _ hS41).mono ?_
  rintro r w42 ⟨rfl, hS42⟩
  go_wp2_with fail
  refine hK.out _ _ hS42 (fun _ => ?_)
  clear hK K
  try simp only [Act.put, List.setIfInBounds_toArray, List.set_cons_zero, List.set_cons_succ]
  refine wpAnyH_take (i := 13) (v := .bool false) (by simp only [List.getElem?_toArray, List.getElem?_cons_zero, List.getElem?_cons_succ]; rfl) (by kernel_rfl) (by kernel_rfl) (by kernel_rfl) (fun _ _ _ h => h) (Or.inl ⟨by rfl, ?_⟩) hS42 ?_
  · (intro wq hSw; go_simp; all_goals with_reducible rfl)
  try simp only [Act.put, List.setIfInBounds_toArray, List.set_cons_zero, List.set_cons_succ]
  refine wpAnyH_take (i := 14) (v := .bool false) (by simp only [List.getElem?_toArray, List.getElem?_cons_zero, List.getElem?_cons_succ]; rfl) (by kernel_rfl) (by kernel_rfl) (by kernel_rfl) (fun _ _ _ h => h) (Or.inl ⟨by rfl, ?_⟩) hS42 ?_
  · (intro wq hSw; go_simp; all_goals with_reducible rfl)
  try simp only [Act.put, List.setIfInBounds_toArray, List.set_cons_zero, List.set_cons_succ]
  refine wpAnyH_take (i := 15) (v := ?_) (by simp only [List.getElem?_toArray, List.getElem?_cons_zero, List.getElem?_cons_succ]; rfl) (by kernel_rfl) (by kernel_rfl) (by kernel_rfl) (fun _ _ _ h => h) (Or.inl ⟨by rfl, ?_⟩) hS42 ?_
  rotate_left
  · (intro wq hSw; go_simp; all_goals with_reducible rfl)
  try simp only [Act.put, List.setIfInBounds_toArray, List.set_cons_zero, List.set_cons_succ]
  refine wpAnyH_take (i := 16) (v := _) (by simp only [List.getElem?_toArray, List.getElem?_cons_zero, List.getElem?_cons_succ]; rfl) (by kernel_rfl) (by kernel_rfl) (by kernel_rfl) (fun _ _ _ h => h) (yieldsIf_load_mid (by rfl) 25 (.tmp 3) rfl Ba 0 rfl [.int .i64 ax, .int .i64 ay] _ (fun _ h => h.a) Tryd.underlying25 rfl sizeVec) hS42 ?_
  try simp only [Act.put, List.setIfInBounds_toArray, List.set_cons_zero, List.set_cons_succ]
  refine wpAnyH_take (i := 17) (v := _) (by simp only [List.getElem?_toArray, List.getElem?_cons_zero, List.getElem?_cons_succ]; rfl) (by kernel_rfl) (by kernel_rfl) (by kernel_rfl) (fun _ _ _ h => h) (yieldsIf_load_mid (by rfl) 25 (.tmp 4) rfl Bb 0 rfl [.int .i64 bx, .int .i64 by'] _ (fun _ h => h.b) Tryd.underlying25 rfl sizeVec) hS42 ?_
  try simp only [Act.put, List.setIfInBounds_toArray, List.set_cons_zero, List.set_cons_succ]
  refine wpAnyH_take (i := 18) (v := ?_) (by simp only [List.getElem?_toArray, List.getElem?_cons_zero, List.getElem?_cons_succ]; rfl) (by kernel_rfl) (by kernel_rfl) (by kernel_rfl) (fun _ _ _ h => h) (Or.inl ⟨by rfl, ?_⟩) hS42 ?_
  rotate_left
  · (intro wq hSw; go_simp; all_goals with_reducible rfl)
  try simp only [Act.put, List.setIfInBounds_toArray, List.set_cons_zero, List.set_cons_succ]
  refine wpAnyH_take (i := 20) (v := _) (by simp only [List.getElem?_toArray, List.getElem?_cons_zero, List.getElem?_cons_succ]; rfl) (by kernel_rfl) (by kernel_rfl) (by kernel_rfl) (fun _ _ _ h => h) (yieldsIf_load_mid (by rfl) 25 (.tmp 4) rfl Bb 0 rfl [.int .i64 bx, .int .i64 by'] _ (fun _ h => h.b) Tryd.underlying25 rfl sizeVec) hS42 ?_
  try simp only [Act.put, List.setIfInBounds_toArray, List.set_cons_zero, List.set_cons_succ]
  refine wpAnyH_take (i := 21) (v := _) (by simp only [List.getElem?_toArray, List.getElem?_cons_zero, List.getElem?_cons_succ]; rfl) (by kernel_rfl) (by kernel_rfl) (by kernel_rfl) (fun _ _ _ h => h) (yieldsIf_load_mid (by rfl) 25 (.tmp 3) rfl Ba 0 rfl [.int .i64 ax, .int .i64 ay] _ (fun _ h => h.a) Tryd.underlying25 rfl sizeVec) hS42 ?_
  try simp only [Act.put, List.setIfInBounds_toArray, List.set_cons_zero, List.set_cons_succ]
  refine wpAnyH_take (i := 22) (v := ?_) (by simp only [List.getElem?_toArray, List.getElem?_cons_zero, List.getElem?_cons_succ]; rfl) (by kernel_rfl) (by kernel_rfl) (by kernel_rfl) (fun _ _ _ h => h) (Or.inl ⟨by rfl, ?_⟩) hS42 ?_
  rotate_left
  · (intro wq hSw; go_simp; all_goals with_reducible rfl)
  try simp only [Act.put, List.setIfInBounds_toArray, List.set_cons_zero, List.set_cons_succ]
  refine wpAnyH_ready (rs := [19]) (by kernel_rfl) (by simp) ?_
  refine AllReadyH.cons (by simp only [List.getElem?_toArray, List.getElem?_cons_zero, List.getElem?_cons_succ]; rfl) (fun K hK => ?_) AllReadyH.nil
  go_simp
  go_at_call 18
  refine (HNab.out _ hS42).mono ?_
  rintro r w43 ⟨rfl, hS43⟩
  go_wp2_with fail
  refine hK.out _ _ hS43 (fun _ => ?_)
  clear hK K
  try simp only [Act.put, List.setIfInBounds_toArray, List.set_cons_zero, List.set_cons_succ]
  refine wpAnyH_ready (rs := [23]) (by kernel_rfl) (by simp) ?_
  refine AllReadyH.cons (by simp only [List.getElem?_toArray, List.getElem?_cons_zero, List.getElem?_cons_succ]; rfl) (fun K hK => ?_) AllReadyH.nil
  go_simp
  go_at_call 18
  refine (HNba.out _ hS43).mono ?_
  rintro r w44 ⟨rfl, hS44⟩
  go_wp2_with fail
  refine hK.out _ _ hS44 (fun _ => ?_)
  clear hK K
  try simp only [Act.put, List.setIfInBounds_toArray, List.set_cons_zero, List.set_cons_succ]
  refine wpAnyH_take (i := 24) (v := .bool false) (by simp only [List.getElem?_toArray, List.getElem?_cons_zero, List.getElem?_cons_succ]; rfl) (by kernel_rfl) (by kernel_rfl) (by kernel_rfl) (fun _ _ _ h => h) (Or.inl ⟨by rfl, ?_⟩) hS44 ?_
  · (intro wq hSw; go_simp; all_goals with_reducible rfl)
  try simp only [Act.put, List.setIfInBounds_toArray, List.set_cons_zero, List.set_cons_succ]
  refine wpAnyH_take (i := 25) (v := .bool false) (by simp only [List.getElem?_toArray, List.getElem?_cons_zero, List.getElem?_cons_succ]; rfl) (by kernel_rfl) (by kernel_rfl) (by kernel_rfl) (fun _ _ _ h => h) (Or.inl ⟨by rfl, ?_⟩) hS44 ?_
  · (intro wq hSw; go_simp; all_goals with_reducible rfl)
  try simp only [Act.put, List.setIfInBounds_toArray, List.set_cons_zero, List.set_cons_succ]
  refine wpAnyH_take (i := 26) (v := ?_) (by simp only [List.getElem?_toArray, List.getElem?_cons_zero, List.getElem?_cons_succ]; rfl) (by kernel_rfl) (by kernel_rfl) (by kernel_rfl) (fun _ _ _ h => h) (Or.inl ⟨by rfl, ?_⟩) hS44 ?_
  rotate_left
  · (intro wq hSw; go_simp; all_goals with_reducible rfl)
  try simp only [Act.put, List.setIfInBounds_toArray, List.set_cons_zero, List.set_cons_succ]
  refine wpAnyH_take (i := 27) (v := _) (by simp only [List.getElem?_toArray, List.getElem?_cons_zero, List.getElem?_cons_succ]; rfl) (by kernel_rfl) (by kernel_rfl) (by kernel_rfl) (fun _ _ _ h => h) (yieldsIf_load_mid (by rfl) 25 (.tmp 3) rfl Ba 0 rfl [.int .i64 ax, .int .i64 ay] _ (fun _ h => h.a) Tryd.underlying25 rfl sizeVec) hS44 ?_
  try simp only [Act.put, List.setIfInBounds_toArray, List.set_cons_zero, List.set_cons_succ]
  refine wpAnyH_take (i := 28) (v := _) (by simp only [List.getElem?_toArray, List.getElem?_cons_zero, List.getElem?_cons_succ]; rfl) (by kernel_rfl) (by kernel_rfl) (by kernel_rfl) (fun _ _ _ h => h) (yieldsIf_load_mid (by rfl) 25 (.tmp 4) rfl Bb 0 rfl [.int .i64 bx, .int .i64 by'] _ (fun _ h => h.b) Tryd.underlying25 rfl sizeVec) hS44 ?_
  try simp only [Act.put, List.setIfInBounds_toArray, List.set_cons_zero, List.set_cons_succ]
  refine wpAnyH_ready (rs := [29]) (by kernel_rfl) (by simp) ?_
  refine AllReadyH.cons (by simp only [List.getElem?_toArray, List.getElem?_cons_zero, List.getElem?_cons_succ]; rfl) (fun K hK => ?_) AllReadyH.nil
  go_simp
  go_at_call 18
  refine (HNm1.out _ hS44).mono ?_
  rintro r w45 ⟨rfl, hS45⟩
  go_wp2_with fail
  refine hK.out _ _ hS45 (fun _ => ?_)
  clear hK K
  try simp only [Act.put, List.setIfInBounds_toArray, List.set_cons_zero, List.set_cons_succ]
  refine wpAnyH_take (i := 30) (v := .bool false) (by simp only [List.getElem?_toArray, List.getElem?_cons_zero, List.getElem?_cons_succ]; rfl) (by kernel_rfl) (by kernel_rfl) (by kernel_rfl) (fun _ _ _ h => h) (Or.inl ⟨by rfl, ?_⟩) hS45 ?_
  · (intro wq hSw; go_simp; all_goals with_reducible rfl)
  try simp only [Act.put, List.setIfInBounds_toArray, List.set_cons_zero, List.set_cons_succ]
  refine wpAnyH_take (i := 31) (v := ?_) (by simp only [List.getElem?_toArray, List.getElem?_cons_zero, List.getElem?_cons_succ]; rfl) (by kernel_rfl) (by kernel_rfl) (by kernel_rfl) (fun _ _ _ h => h) (Or.inl ⟨by rfl, ?_⟩) hS45 ?_
  rotate_left
  · (intro wq hSw; go_simp; all_goals with_reducible rfl)
  try simp only [Act.put, List.setIfInBounds_toArray, List.set_cons_zero, List.set_cons_succ]
  refine wpAnyH_take (i := 32) (v := _) (by simp only [List.getElem?_toArray, List.getElem?_cons_zero, List.getElem?_cons_succ]; rfl) (by kernel_rfl) (by kernel_rfl) (by kernel_rfl) (fun _ _ _ h => h) (yieldsIf_load_mid (by rfl) 25 (.tmp 3) rfl Ba 0 rfl [.int .i64 ax, .int .i64 ay] _ (fun _ h => h.a) Tryd.underlying25 rfl sizeVec) hS45 ?_
  try simp only [Act.put, List.setIfInBounds_toArray, List.set_cons_zero, List.set_cons_succ]
  refine wpAnyH_take (i := 33) (v := _) (by simp only [List.getElem?_toArray, List.getElem?_cons_zero, List.getElem?_cons_succ]; rfl) (by kernel_rfl) (by kernel_rfl) (by kernel_rfl) (fun _ _ _ h => h) (yieldsIf_load_mid (by rfl) 25 (.tmp 4) rfl Bb 0 rfl [.int .i64 bx, .int .i64 by'] _ (fun _ h => h.b) Tryd.underlying25 rfl sizeVec) hS45 ?_
  try simp only [Act.put, List.setIfInBounds_toArray, List.set_cons_zero, List.set_cons_succ]
  refine wpAnyH_ready (rs := [34]) (by kernel_rfl) (by simp) ?_
  refine AllReadyH.cons (by simp only [List.getElem?_toArray, List.getElem?_cons_zero, List.getElem?_cons_succ]; rfl) (fun K hK => ?_) AllReadyH.nil
  go_simp
  go_at_call 18
  refine (HNbig.out _ hS45).mono ?_
  rintro r w46 ⟨rfl, hS46⟩
  go_wp2_with fail
  refine hK.out _ _ hS46 (fun _ => ?_)
  clear hK K
  try simp only [Act.put, List.setIfInBounds_toArray, List.set_cons_zero, List.set_cons_succ]
  refine wpAnyH_take (i := 35) (v := .bool false) (by simp only [List.getElem?_toArray, List.getElem?_cons_zero, List.getElem?_cons_succ]; rfl) (by kernel_rfl) (by kernel_rfl) (by kernel_rfl) (fun _ _ _ h => h) (Or.inl ⟨by rfl, ?_⟩) hS46 ?_
  · (intro wq hSw; go_simp; all_goals with_reducible rfl)
  try simp only [Act.put, List.setIfInBounds_toArray, List.set_cons_zero, List.set_cons_succ]
  refine wpAnyH_take (i := 36) (v := .bool false) (by simp only [List.getElem?_toArray, List.getElem?_cons_zero, List.getElem?_cons_succ]; rfl) (by kernel_rfl) (by kernel_rfl) (by kernel_rfl) (fun _ _ _ h => h) (Or.inl ⟨by rfl, ?_⟩) hS46 ?_
  · (intro wq hSw; go_simp; all_goals with_reducible rfl)
  try simp only [Act.put, List.setIfInBounds_toArray, List.set_cons_zero, List.set_cons_succ]
  refine wpAnyH_take (i := 37) (v := ?_) (by simp only [List.getElem?_toArray, List.getElem?_cons_zero, List.getElem?_cons_succ]; rfl) (by kernel_rfl) (by kernel_rfl) (by kernel_rfl) (fun _ _ _ h => h) (Or.inl ⟨by rfl, ?_⟩) hS46 ?_
  rotate_left
  · (intro wq hSw; go_simp; all_goals with_reducible rfl)
  try simp only [Act.put, List.setIfInBounds_toArray, List.set_cons_zero, List.set_cons_succ]
  refine wpAnyH_take (i := 38) (v := _) (by simp only [List.getElem?_toArray, List.getElem?_cons_zero, List.getElem?_cons_succ]; rfl) (by kernel_rfl) (by kernel_rfl) (by kernel_rfl) (fun _ _ _ h => h) (yieldsIf_load_mid (by rfl) 25 (.tmp 3) rfl Ba 0 rfl [.int .i64 ax, .int .i64 ay] _ (fun _ h => h.a) Tryd.underlying25 rfl sizeVec) hS46 ?_
  try simp only [Act.put, List.setIfInBounds_toArray, List.set_cons_zero, List.set_cons_succ]
  refine wpAnyH_take (i := 39) (v := _) (by simp only [List.getElem?_toArray, List.getElem?_cons_zero, List.getElem?_cons_succ]; rfl) (by kernel_rfl) (by kernel_rfl) (by kernel_rfl) (fun _ _ _ h => h) (yieldsIf_load_mid (by rfl) 25 (.tmp 4) rfl Bb 0 rfl [.int .i64 bx, .int .i64 by'] _ (fun _ h => h.b) Tryd.underlying25 rfl sizeVec) hS46 ?_
  try simp only [Act.put, List.setIfInBounds_toArray, List.set_cons_zero, List.set_cons_succ]
  refine wpAnyH_take (i := 41) (v := ?_) (by simp only [List.getElem?_toArray, List.getElem?_cons_zero, List.getElem?_cons_succ]; rfl) (by kernel_rfl) (by kernel_rfl) (by kernel_rfl) (fun _ _ _ h => h) (Or.inl ⟨by rfl, ?_⟩) hS46 ?_
  rotate_left
  · (intro wq hSw; go_simp; all_goals with_reducible rfl)
  try simp only [Act.put, List.setIfInBounds_toArray, List.set_cons_zero, List.set_cons_succ]
  refine wpAnyH_take (i := 42) (v := ?_) (by simp only [List.getElem?_toArray, List.getElem?_cons_zero, List.getElem?_cons_succ]; rfl) (by kernel_rfl) (by kernel_rfl) (by kernel_rfl) (fun _ _ _ h => h) (Or.inl ⟨by rfl, ?_⟩) hS46 ?_
  rotate_left
  · (intro wq hSw; go_simp; all_goals with_reducible rfl)
  try simp only [Act.put, List.setIfInBounds_toArray, List.set_cons_zero, List.set_cons_succ]
  refine wpAnyH_ready (rs := [40]) (by kernel_rfl) (by simp) ?_
  refine AllReadyH.cons (by simp only [List.getElem?_toArray, List.getElem?_cons_zero, List.getElem?_cons_succ]; rfl) (fun K hK => ?_) AllReadyH.nil
  go_simp
  go_at_call 18
  refine (HN0.out _ hS46).mono ?_
  rintro r w47 ⟨rfl, hS47⟩
  go_wp2_with fail
  refine hK.out _ _ hS47 (fun _ => ?_)
  clear hK K
  try simp only [Act.put, List.setIfInBounds_toArray, List.set_cons_zero, List.set_cons_succ]
  refine wpAnyH_take (i := 43) (v := .bool false) (by simp only [List.getElem?_toArray, List.getElem?_cons_zero, List.getElem?_cons_succ]; rfl) (by kernel_rfl) (by kernel_rfl) (by kernel_rfl) (fun _ _ _ h => h) (Or.inl ⟨by rfl, ?_⟩) hS47 ?_
  · (intro wq hSw; go_simp; all_goals with_reducible rfl)
  try simp only [Act.put, List.setIfInBounds_toArray, List.set_cons_zero, List.set_cons_succ]
  refine wpAnyH_take (i := 44) (v := .bool false) (by simp only [List.getElem?_toArray, List.getElem?_cons_zero, List.getElem?_cons_succ]; rfl) (by kernel_rfl) (by kernel_rfl) (by kernel_rfl) (fun _ _ _ h => h) (Or.inl ⟨by rfl, ?_⟩) hS47 ?_
  · (intro wq hSw; go_simp; all_goals with_reducible rfl)
  try simp only [Act.put, List.setIfInBounds_toArray, List.set_cons_zero, List.set_cons_succ]
  refine wpAnyH_done (by kernel_rfl) ?_ _
  refine NoPanic.normal ?_
  have HS5 := Lib.hid hS47
  clear HS4
  go_upto_region 6 with fail
  go_cut [82] (fun s wx => s = .bool false ∧ NearS Ba Bb ax ay bx by' w1 wx)
  case first =>
    have a0 := HS5.out.ax0; have a1 := HS5.out.ay0; have b0 := HS5.out.bx0; have b1 := HS5.out.by0
    by_cases hr0 : 0 ≤ r
    · cases N with
      | false =>
        go_wp2_with fail
        clear a0 a1 b0 b1
        refine (HNab.out _ HS5.out).mono ?_
        rintro e w6 ⟨rfl, hS6⟩
        go_wp2_with fail
        go_meet
        case rel => exact ⟨rfl, hS6⟩
      | true =>
        go_wp2_with fail
        clear a0 a1 b0 b1
        refine (HNab.out _ HS5.out).mono ?_
        rintro e w6 ⟨rfl, hS6⟩
        have a0 := hS6.ax0; have a1 := hS6.ay0; have b0 := hS6.bx0; have b1 := hS6.by0
        by_cases hrb : r < 4611686018427387904
        · have e1 : IntKind.i64.wrap (r + 1) = r + 1 := by rw [IntKind.wrap_i64]; omega
          have HNx := Lib.hid (HNR.out (r + 1) true (FixM.near_next _ _ _ _ _ hr0 HN.out))
          have HS6 := Lib.hid hS6
          clear hS6
          go_wp2_with fail
          clear a0 a1 b0 b1
          refine (HNx.out _ HS6.out).mono ?_
          rintro e w7 ⟨rfl, hS7⟩
          go_wp2_with fail
          go_meet
          case rel => exact ⟨rfl, hS7⟩
        · go_wp2_with fail
          go_meet
          case rel => exact ⟨rfl, hS6⟩
    · go_wp2_with fail
      go_meet
      case rel => exact ⟨rfl, HS5.out⟩
  case rest =>
    obtain ⟨rfl, hS⟩ := hcut
    have HS := Lib.hid hS
    have a0 := HS.out.ax0; have a1 := HS.out.ay0; have b0 := HS.out.bx0; have b1 := HS.out.by0
    clear hS HS5
    go_wp2_with fail
    clear a0 a1 b0 b1
    refine (HLen.out _ HS.out).mono ?_
    rintro e w8 ⟨rfl, hS8⟩
    have HS8 := Lib.hid hS8
    have a0 := HS8.out.ax0; have a1 := HS8.out.ay0; have b0 := HS8.out.bx0; have b1 := HS8.out.by0
    clear hS8 HS
    go_wp2_with fail
    clear a0 a1 b0 b1
    refine (HSx.out _ HS8.out).mono ?_
    rintro e w9 ⟨rfl, hS9⟩
    have HS9 := Lib.hid hS9
    have a0 := HS9.out.ax0; have a1 := HS9.out.ay0; have b0 := HS9.out.bx0; have b1 := HS9.out.by0
    clear hS9 HS8
    go_wp2_with fail
    clear a0 a1 b0 b1
    refine (HSy.out _ HS9.out).mono ?_
    rintro e w10 ⟨rfl, hS10⟩
    have HS10 := Lib.hid hS10
    clear hS10 HS9 HDab HDba HDaa HNab HNba HNm1 HNbig HN0 HLen HSx HSy
    have hbl : 0 ≤ l := HL4.out.1
    obtain ⟨p1, p2, p3⟩ := FixM.root_parts hxb hyb HL4.out
    obtain ⟨LL, hLL⟩ : ∃ L, l * l = L := ⟨_, rfl⟩
    obtain ⟨XX, hXX⟩ : ∃ L, x * x = L := ⟨_, rfl⟩
    obtain ⟨YY, hYY⟩ : ∃ L, y * y = L := ⟨_, rfl⟩
    obtain ⟨L1, hL1⟩ : ∃ L, (l + 1) * (l + 1) = L := ⟨_, rfl⟩
    have g1 := FixM.sq_top (l := l) (m := 3037000499) ⟨hbl, hl3⟩
    have g2 := FixM.sq_top hxb
    have g3 := FixM.sq_top hyb
    have g4 := FixM.sq_top (l := l + 1) (m := 3037000500) ⟨by omega, by omega⟩
    have g5 := HL4.out.2
    rw [hLL] at g1
    rw [hXX] at g2
    rw [hYY] at g3
    rw [hL1] at g4
    rw [hXX, hYY, hLL, hL1] at g5
    have u1 : IntKind.u64.wrap l = l := by rw [IntKind.wrap_u64]; omega
    have u2 : IntKind.u64.wrap LL = LL := by rw [IntKind.wrap_u64]; omega
    have u3 : IntKind.i64.wrap XX = XX := by rw [IntKind.wrap_i64]; omega
    have u4 : IntKind.i64.wrap YY = YY := by rw [IntKind.wrap_i64]; omega
    have u5 : IntKind.u64.wrap XX = XX := by rw [IntKind.wrap_u64]; omega
    have u6 : IntKind.u64.wrap YY = YY := by rw [IntKind.wrap_u64]; omega
    have u7 : IntKind.u64.wrap (XX + YY) = XX + YY := by rw [IntKind.wrap_u64]; omega
    have u8 : IntKind.i64.wrap (l + 1) = l + 1 := by rw [IntKind.wrap_i64]; omega
    have u9 : IntKind.u64.wrap (l + 1) = l + 1 := by rw [IntKind.wrap_u64]; omega
    have u10 : IntKind.u64.wrap L1 = L1 := by rw [IntKind.wrap_u64]; omega
    have u11 : IntKind.i64.wrap (x + y) = x + y := by rw [IntKind.wrap_i64]; omega
    have n1 : ¬ l < x := by omega
    have n2 : ¬ l < y := by omega
    have n3 : ¬ x + y < l := by omega
    have n4 : ¬ XX + YY < LL := by omega
    have n5 : ¬ L1 ≤ XX + YY := by omega
    clear p1 p2 p3 g1 g2 g3 g4 g5 HL4
    go_upto_region 11 with fail
    go_cut [151] (fun s wx => s = .bool false ∧ NearS Ba Bb ax ay bx by' w1 wx)
    case first =>
      by_cases hxy : y < x
      · have hyx : ¬ x ≤ y := by omega
        go_wp2_with fail
        go_meet
        case rel => exact ⟨by simp [n1, n3, n4, n5], HS10.out⟩
      · have hyx : x ≤ y := by omega
        go_wp2_with fail
        go_meet
        case rel => exact ⟨by simp [n2, n3, n4, n5], HS10.out⟩
    case rest =>
      obtain ⟨rfl, hS⟩ := hcut
      clear u1 u2 u3 u4 u5 u6 u7 u8 u9 u10 u11 n1 n2 n3 n4 n5 hLL hXX hYY hL1
      have a0 := hS.ax0; have a1 := hS.ay0; have b0 := hS.bx0; have b1 := hS.by0
      by_cases hsm : (-536870912 ≤ ax ∧ ax ≤ 536870912) ∧ (-536870912 ≤ ay ∧ ay ≤ 536870912) ∧ (-536870912 ≤ bx ∧ bx ≤ 536870912) ∧ (-536870912 ≤ by' ∧ by' ≤ 536870912)
      · have hsc := fun q : World => joustlaw13_small.calls ax ay bx by' true q (by rw [FixM.small_eq', decide_eq_true hsm])
        obtain ⟨q1, q2, q3, q4⟩ := hsm
        obtain ⟨hd1, hd2⟩ := FixM.dist_small q1 q2 q3 q4
        obtain ⟨X, hX⟩ : ∃ X, ax - bx = X := ⟨_, rfl⟩
        obtain ⟨Y, hY⟩ : ∃ X, ay - by' = X := ⟨_, rfl⟩
        rw [hX, hY] at hd1 hd2
        have e1 : IntKind.i64.wrap (ax - bx) = X := by rw [IntKind.wrap_i64]; omega
        have e2 : IntKind.i64.wrap (ay - by') = Y := by rw [IntKind.wrap_i64]; omega
        obtain ⟨m, hm1, hm2, hm3⟩ := FixM.len_eq 40 (by omega) X Y
        rw [hd2, ← hd1] at hm2
        have hnr := FixM.near_root hm2 hm3
        have hm0 : 0 ≤ m := hm2.1
        rw [HD.out] at hnr hd1
        obtain ⟨r1, r2, r3⟩ := hnr
        have gX := FixM.mul_abs (x := X) (y := X) (m := 1073741825) (by omega) (by omega)
        have gY := FixM.mul_abs (x := Y) (y := Y) (m := 1073741825) (by omega) (by omega)
        obtain ⟨XX, hXX⟩ : ∃ L, X * X = L := ⟨_, rfl⟩
        obtain ⟨YY, hYY⟩ : ∃ L, Y * Y = L := ⟨_, rfl⟩
        obtain ⟨MM, hMM⟩ : ∃ L, m * m = L := ⟨_, rfl⟩
        rw [hXX] at gX hd1
        rw [hYY] at gY hd1
        rw [hMM] at r3
        have gM := FixM.sq_top (l := m) (m := 3037000499) ⟨hm0, hm3⟩
        rw [hMM] at gM
        have u1 : IntKind.i64.wrap XX = XX := by rw [IntKind.wrap_i64]; omega
        have u2 : IntKind.i64.wrap YY = YY := by rw [IntKind.wrap_i64]; omega
        have u3 : IntKind.i64.wrap (XX + YY) = D := by rw [IntKind.wrap_i64]; omega
        have u4 : IntKind.i64.wrap (m + 1) = m + 1 := by rw [IntKind.wrap_i64]; omega
        have u5 : IntKind.i64.wrap (m - 1) = m - 1 := by rw [IntKind.wrap_i64]; omega
        have u6 : IntKind.i64.wrap MM = MM := by rw [IntKind.wrap_i64]; omega
        have HLw := Lib.hid (fun (q : World) => vec_Len.calls 40 X Y m q hm1)
        have HNp := Lib.hid (HNR.out (m + 1) true r1)
        have HNq := Lib.hid (fun h : 0 < m => HNR.out (m - 1) false (r2 h))
        have HNe := Lib.hid (HNR.out m (MM == D) r3)
        have HS12 := Lib.hid hS; have HSC := Lib.hid hsc
        clear hS hsc hm1 hm2 hd1 hd2 r1 r2 r3 gX gY gM HD HN HNR hX hY
        go_wp2_with fail
        clear a0 a1 b0 b1
        refine (HSC.out _).mono ?_
        rintro e w12 ⟨rfl, hb12⟩
        have HS13 := Lib.hid (HS12.out.below hb12)
        have a0 := HS13.out.ax0; have a1 := HS13.out.ay0; have b0 := HS13.out.bx0; have b1 := HS13.out.by0
        clear hb12 HSC HS12
        go_upto_region 16 with (refine wpList_store_new rfl 25 (.tmp 11) (.tmp 166) rfl 25 _ [.int .i64 X, .int .i64 Y] rfl rfl sizeVec rfl (by intro v hv; simp only [List.mem_cons, List.not_mem_nil, or_false] at hv; rcases hv with rfl | rfl <;> rfl) ?_; intro w13 hW hM13 hs13)
        clear a0 a1 b0 b1 hs13
        obtain ⟨W, hWe⟩ : ∃ W, w12.heap.size = W := ⟨_, rfl⟩
        rw [hWe] at hW ⊢
        have HS14 := Lib.hid (HS13.out.mod hM13)
        have c0 : w13.cell? ⟨W, 0, none⟩ = some (.int .i64 X) := hW.cell rfl
        have c1 : w13.cell? ⟨W, 1, none⟩ = some (.int .i64 Y) := hW.cell rfl
        clear hM13 HS13 hWe
        go_wp2_with fail
        refine (HLw.out _).mono ?_
        rintro e w14 ⟨rfl, hb14⟩
        have HS15 := Lib.hid (HS14.out.below hb14)
        have hW14 := (Mod.of_below (S := none_) hb14).blk hW (fun h => h)
        have d0 : w14.cell? ⟨W, 0, none⟩ = some (.int .i64 X) := hW14.cell rfl
        have d1 : w14.cell? ⟨W, 1, none⟩ = some (.int .i64 Y) := hW14.cell rfl
        have a0 := HS15.out.ax0; have a1 := HS15.out.ay0; have b0 := HS15.out.bx0; have b1 := HS15.out.by0
        clear c0 c1 hb14 HLw HS14 hW hW14
        go_upto_region 17 with fail
        go_cut [200] (fun s wx => s = .bool false ∧ NearS Ba Bb ax ay bx by' w1 wx)
        case first =>
          go_wp2_with fail
          clear a0 a1 b0 b1 d0 d1
          refine (HNp.out _ HS15.out).mono ?_
          rintro e w15 ⟨rfl, hS15⟩
          have HS16 := Lib.hid hS15
          have a0 := HS16.out.ax0; have a1 := HS16.out.ay0; have b0 := HS16.out.bx0; have b1 := HS16.out.by0
          clear hS15
          by_cases hmp : 0 < m
          · go_wp2_with fail
            clear a0 a1 b0 b1
            refine (HNq.out hmp _ HS16.out).mono ?_
            rintro e w16 ⟨rfl, hS17⟩
            go_wp2_with fail
            go_meet
            case rel => exact ⟨by simp, hS17⟩
          · go_wp2_with fail
            go_meet
            case rel => exact ⟨by simp, HS16.out⟩
        case rest =>
          obtain ⟨rfl, hS⟩ := hcut
          have HS18 := Lib.hid hS
          have a0 := hS.ax0; have a1 := hS.ay0; have b0 := hS.bx0; have b1 := hS.by0
          clear hS
          go_wp2_with fail
          clear a0 a1 b0 b1
          refine (HNe.out _ HS18.out).mono ?_
          rintro e w17 ⟨rfl, hS17⟩
          go_wp2_with fail
          go_ret
          exact ⟨by simp, HM1.out.then hS17.m⟩
      · have hsc := fun q : World => joustlaw13_small.calls ax ay bx by' false q (by rw [FixM.small_eq', decide_eq_false hsm])
        go_wp2_with fail
        refine (hsc _).mono ?_
        rintro e w12 ⟨rfl, hb12⟩
        have hS12 := hS.below hb12
        go_wp2_with fail
        go_ret
        exact ⟨rfl, HM1.out.then hS12.m⟩
end Go.Proofs.YtcmbklofbemclaaDoor
