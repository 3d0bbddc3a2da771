/- VecAsks: the law's walk. -/
import Derived.Test.YtcmbklofbemclaaDoorVecL
import Derived.Test.YtcmbklofbemclaaDoorFixG
namespace Go.Proofs.YtcmbklofbemclaaDoor
open Go.RowKit Go.Proofs.YtcmbklofbemclaaDoorW.PrintWords Go.Proofs.YtcmbklofbemclaaDoor.VVecB

attribute [local go_sem high] VVecB.eqA25
theorem sizeVec : (Tryd.prog.info? 25).map (·.size) = some 2 := by kernel_rfl
theorem sizeCase : (Tryd.prog.info? 34).map (·.size) = some 8 := by kernel_rfl
/-- the case as it lies in memory, and what a call may have done -/
structure AsksS (B : Nat) (ax ay bx by' k r h j : Int) (w0 q : World) : Prop where
  a : q.rangeAt B 0 [.int .i64 ax, .int .i64 ay]
  b : q.rangeAt B 2 [.int .i64 bx, .int .i64 by']
  k : q.cell? ⟨B, 4, none⟩ = some (.int .i64 k)
  r : q.cell? ⟨B, 5, none⟩ = some (.int .i64 r)
  h : q.cell? ⟨B, 6, none⟩ = some (.int .i64 h)
  j : q.cell? ⟨B, 7, none⟩ = some (.int .i64 j)
  m : Mod none_ w0 q
theorem AsksS.mod {B : Nat} {ax ay bx by' k r h j : Int} {w0 q q' : World} (s : AsksS B ax ay bx by' k r h j w0 q) (hM : Mod none_ q q') : AsksS B ax ay bx by' k r h j w0 q' :=
  ⟨rangeAt_none s.a hM, rangeAt_none s.b hM, hM.cellS s.k (fun h => h), hM.cellS s.r (fun h => h), hM.cellS s.h (fun h => h), hM.cellS s.j (fun h => h), s.m.then hM⟩
theorem AsksS.below {B : Nat} {ax ay bx by' k r h j : Int} {w0 q q' : World} (s : AsksS B ax ay bx by' k r h j w0 q) (hM : Below q.heap.size q q') : AsksS B ax ay bx by' k r h j w0 q' := s.mod (Mod.of_below hM)
theorem AsksS.drawn {B : Nat} {ax ay bx by' k r h j : Int} {w0 q q' : World} (s : AsksS B ax ay bx by' k r h j w0 q) (hM : Drawn0 q q') : AsksS B ax ay bx by' k r h j w0 q' := by
  obtain ⟨⟨n, rfl⟩⟩ := hM
  exact s.mod ((Mod.refl none_ q).drewN n)
theorem AsksS.drew {B : Nat} {ax ay bx by' k r h j : Int} {w0 q : World} (s : AsksS B ax ay bx by' k r h j w0 q) : AsksS B ax ay bx by' k r h j w0 q.drew := s.mod (Mod.refl none_ q).drew

set_option maxHeartbeats 4000000 in
set_option maxRecDepth 100000 in
theorem vecAsks_any (w : World) (hG : Sines w) (ax ay bx by' k r h j : Int) (hax : FixM.I64 ax) (hay : FixM.I64 ay) (hbx : FixM.I64 bx) (hby : FixM.I64 by') (hk : FixM.I64 k) (hh : FixM.I64 h) :
    Calls Tryd.prog 7 #[.agg #[.int .i64 ax, .int .i64 ay, .int .i64 bx, .int .i64 by', .int .i64 k, .int .i64 r, .int .i64 h, .int .i64 j]] w fun e w' => e = .returned (.bool true) ∧ Mod none_ w w' := by
  go_enter Tryd.func7, Tryd.ntmps7
  go_upto_region 1 with fail
  obtain ⟨w1, hw1, hB1, hM1⟩ : ∃ w1, w.alloc (.cells #[.int .i64 ax, .int .i64 ay, .int .i64 bx, .int .i64 by', .int .i64 k, .int .i64 r, .int .i64 h, .int .i64 j] 34) = w1 ∧ Blk w1 w.heap.size [.int .i64 ax, .int .i64 ay, .int .i64 bx, .int .i64 by', .int .i64 k, .int .i64 r, .int .i64 h, .int .i64 j] 34 ∧ Mod none_ w w1 := ⟨_, rfl, Blk.new w [.int .i64 ax, .int .i64 ay, .int .i64 bx, .int .i64 by', .int .i64 k, .int .i64 r, .int .i64 h, .int .i64 j] _, (Mod.refl _ _).alloc _⟩
  rw [hw1]
  clear hw1
  obtain ⟨B, hB⟩ : ∃ B, w.heap.size = B := ⟨_, rfl⟩
  rw [hB] at hB1 ⊢
  have s0 : AsksS B ax ay bx by' k r h j w1 w1 := ⟨fun n v hn => by
      match n, hn with
      | 0, hn => obtain rfl := Option.some.inj hn; exact hB1.cell rfl
      | 1, hn => obtain rfl := Option.some.inj hn; exact hB1.cell rfl
      | m + 2, hn => simp at hn, fun n v hn => by
      match n, hn with
      | 0, hn => obtain rfl := Option.some.inj hn; exact hB1.cell rfl
      | 1, hn => obtain rfl := Option.some.inj hn; exact hB1.cell rfl
      | m + 2, hn => simp at hn, hB1.cell rfl, hB1.cell rfl, hB1.cell rfl, hB1.cell rfl, Mod.refl _ _⟩
  have hGw := fun (q : World) (hq : AsksS B ax ay bx by' k r h j w1 q) => hG.below ((hM1.then hq.m).below)
  have HS0 := Lib.hid s0; have HM1 := Lib.hid hM1; have HGw := Lib.hid hGw
  clear hG hB1 hM1 s0 hGw hB
  obtain ⟨L, hL1, hL0, _⟩ := FixM.len_eq 40 (by omega) ax ay
  obtain ⟨L', hL2', hL3⟩ := FixM.rlen_eq 40 (by omega) ax ay
  have hL2 : joustref13_Len.f 40 ax ay = some L := by rw [hL2', FixM.IsRoot.uniq hL3 hL0]
  have HAdd : Hid (∀ q : World, AsksS B ax ay bx by' k r h j w1 q → Calls Tryd.prog 15 #[.agg #[.int .i64 ax, .int .i64 ay], .agg #[.int .i64 bx, .int .i64 by']] q fun e w' => e = .returned (.agg #[.int .i64 (FixM.lim (ax + bx)), .int .i64 (FixM.lim (ay + by'))]) ∧ AsksS B ax ay bx by' k r h j w1 w') := Lib.hid (fun q hq => (vec_Add.calls 9 ax ay bx by' _ _ q (FixM.vadd_eq 8 hax hay hbx hby)).mono fun e w' ⟨he, hd⟩ => ⟨he, hq.below hd⟩)
  have RAdd : Hid (∀ q : World, AsksS B ax ay bx by' k r h j w1 q → Calls Tryd.prog 21 #[.agg #[.int .i64 ax, .int .i64 ay], .agg #[.int .i64 bx, .int .i64 by']] q fun e w' => e = .returned (.agg #[.int .i64 (FixM.lim (ax + bx)), .int .i64 (FixM.lim (ay + by'))]) ∧ AsksS B ax ay bx by' k r h j w1 w') := Lib.hid (fun q hq => (joustref13_Add.calls 9 ax ay bx by' _ _ q (FixM.radd2_eq 8 hax hay hbx hby)).mono fun e w' ⟨he, hd⟩ => ⟨he, hq.below hd⟩)
  have HSub : Hid (∀ q : World, AsksS B ax ay bx by' k r h j w1 q → Calls Tryd.prog 14 #[.agg #[.int .i64 ax, .int .i64 ay], .agg #[.int .i64 bx, .int .i64 by']] q fun e w' => e = .returned (.agg #[.int .i64 (FixM.lim (ax - bx)), .int .i64 (FixM.lim (ay - by'))]) ∧ AsksS B ax ay bx by' k r h j w1 w') := Lib.hid (fun q hq => (vec_Sub.calls 9 ax ay bx by' _ _ q (FixM.vsub_eq 8 hax hay hbx hby)).mono fun e w' ⟨he, hd⟩ => ⟨he, hq.below hd⟩)
  have RSub : Hid (∀ q : World, AsksS B ax ay bx by' k r h j w1 q → Calls Tryd.prog 22 #[.agg #[.int .i64 ax, .int .i64 ay], .agg #[.int .i64 bx, .int .i64 by']] q fun e w' => e = .returned (.agg #[.int .i64 (FixM.lim (ax - bx)), .int .i64 (FixM.lim (ay - by'))]) ∧ AsksS B ax ay bx by' k r h j w1 w') := Lib.hid (fun q hq => (joustref13_Sub.calls 9 ax ay bx by' _ _ q (FixM.rsub2_eq 8 hax hay hbx hby)).mono fun e w' ⟨he, hd⟩ => ⟨he, hq.below hd⟩)
  have HScale : Hid (∀ q : World, AsksS B ax ay bx by' k r h j w1 q → Calls Tryd.prog 23 #[.agg #[.int .i64 ax, .int .i64 ay], .int .i64 k] q fun e w' => e = .returned (.agg #[.int .i64 (FixM.mulV ax k), .int .i64 (FixM.mulV ay k)]) ∧ AsksS B ax ay bx by' k r h j w1 w') := Lib.hid (fun q hq => (vec_Scale.calls ax ay k _ _ q (FixM.scale_eq hax hay hk)).mono fun e w' ⟨he, hd⟩ => ⟨he, hq.below hd⟩)
  have RScale : Hid (∀ q : World, AsksS B ax ay bx by' k r h j w1 q → Calls Tryd.prog 24 #[.agg #[.int .i64 ax, .int .i64 ay], .int .i64 k] q fun e w' => e = .returned (.agg #[.int .i64 (FixM.mulV ax k), .int .i64 (FixM.mulV ay k)]) ∧ AsksS B ax ay bx by' k r h j w1 w') := Lib.hid (fun q hq => (joustref13_Scale.calls ax ay k _ _ q (FixM.rscale_eq hax hay hk)).mono fun e w' ⟨he, hd⟩ => ⟨he, hq.below hd⟩)
  have HCap : Hid (∀ q : World, AsksS B ax ay bx by' k r h j w1 q → Calls Tryd.prog 25 #[.agg #[.int .i64 ax, .int .i64 ay], .int .i64 k] q fun e w' => e = .returned (.agg #[.int .i64 (FixM.keep ax (FixM.capM k)), .int .i64 (FixM.keep ay (FixM.capM k))]) ∧ AsksS B ax ay bx by' k r h j w1 w') := Lib.hid (fun q hq => (vec_Cap.calls ax ay k _ _ q (FixM.cap_eq ax ay k)).mono fun e w' ⟨he, hd⟩ => ⟨he, hq.below hd⟩)
  have RCap : Hid (∀ q : World, AsksS B ax ay bx by' k r h j w1 q → Calls Tryd.prog 26 #[.agg #[.int .i64 ax, .int .i64 ay], .int .i64 k] q fun e w' => e = .returned (.agg #[.int .i64 (FixM.keep ax (FixM.capM k)), .int .i64 (FixM.keep ay (FixM.capM k))]) ∧ AsksS B ax ay bx by' k r h j w1 w') := Lib.hid (fun q hq => (joustref13_Cap.calls 9 ax ay k _ _ q (FixM.rcap_eq 8 ax ay k)).mono fun e w' ⟨he, hd⟩ => ⟨he, hq.below hd⟩)
  have HDist2 : Hid (∀ q : World, AsksS B ax ay bx by' k r h j w1 q → Calls Tryd.prog 17 #[.agg #[.int .i64 ax, .int .i64 ay], .agg #[.int .i64 bx, .int .i64 by']] q fun e w' => e = .returned (.int .i64 (FixM.dist ax ay bx by')) ∧ AsksS B ax ay bx by' k r h j w1 w') := Lib.hid (fun q hq => (vec_Dist2.calls 9 ax ay bx by' _ q (FixM.dist2_eq 8 hax hay hbx hby)).mono fun e w' ⟨he, hd⟩ => ⟨he, hq.below hd⟩)
  have RDist2 : Hid (∀ q : World, AsksS B ax ay bx by' k r h j w1 q → Calls Tryd.prog 27 #[.agg #[.int .i64 ax, .int .i64 ay], .agg #[.int .i64 bx, .int .i64 by']] q fun e w' => e = .returned (.int .i64 (FixM.dist ax ay bx by')) ∧ AsksS B ax ay bx by' k r h j w1 w') := Lib.hid (fun q hq => (joustref13_Dist2.calls 9 ax ay bx by' _ q (FixM.rdist2_eq 8 hax hay hbx hby)).mono fun e w' ⟨he, hd⟩ => ⟨he, hq.below hd⟩)
  have HWithin : Hid (∀ q : World, AsksS B ax ay bx by' k r h j w1 q → Calls Tryd.prog 18 #[.agg #[.int .i64 ax, .int .i64 ay], .agg #[.int .i64 bx, .int .i64 by'], .int .i64 r] q fun e w' => e = .returned (.bool (FixM.nearB ax ay bx by' r)) ∧ AsksS B ax ay bx by' k r h j w1 w') := Lib.hid (fun q hq => (vec_Within.calls 9 ax ay bx by' r _ q (FixM.near_eq 8 hax hay hbx hby)).mono fun e w' ⟨he, hd⟩ => ⟨he, hq.below hd⟩)
  have RWithin : Hid (∀ q : World, AsksS B ax ay bx by' k r h j w1 q → Calls Tryd.prog 28 #[.agg #[.int .i64 ax, .int .i64 ay], .agg #[.int .i64 bx, .int .i64 by'], .int .i64 r] q fun e w' => e = .returned (.bool (FixM.nearB ax ay bx by' r)) ∧ AsksS B ax ay bx by' k r h j w1 w') := Lib.hid (fun q hq => (joustref13_Within.calls 9 ax ay bx by' r _ q (FixM.rnear_eq 8 hax hay hbx hby)).mono fun e w' ⟨he, hd⟩ => ⟨he, hq.below hd⟩)
  have HLen : Hid (∀ q : World, AsksS B ax ay bx by' k r h j w1 q → Calls Tryd.prog 19 #[.agg #[.int .i64 ax, .int .i64 ay]] q fun e w' => e = .returned (.int .i64 L) ∧ AsksS B ax ay bx by' k r h j w1 w') := Lib.hid (fun q hq => (vec_Len.calls 40 ax ay L q hL1).mono fun e w' ⟨he, hd⟩ => ⟨he, hq.below hd⟩)
  have RLen : Hid (∀ q : World, AsksS B ax ay bx by' k r h j w1 q → Calls Tryd.prog 29 #[.agg #[.int .i64 ax, .int .i64 ay]] q fun e w' => e = .returned (.int .i64 L) ∧ AsksS B ax ay bx by' k r h j w1 w') := Lib.hid (fun q hq => (joustref13_Len.calls 40 ax ay L q hL2).mono fun e w' ⟨he, hd⟩ => ⟨he, hq.below hd⟩)
  have HTurn : Hid (∀ q : World, AsksS B ax ay bx by' k r h j w1 q → Calls Tryd.prog 9 #[.int .i64 h, .int .i64 j] q fun e w' => e = .returned (.int .i64 ((h + j) % 256)) ∧ AsksS B ax ay bx by' k r h j w1 w') := Lib.hid (fun q hq => (vec_Turn.calls h j _ q (FixM.turn_eq h j)).mono fun e w' ⟨he, hd⟩ => ⟨he, hq.drawn hd⟩)
  have RTurn : Hid (∀ q : World, AsksS B ax ay bx by' k r h j w1 q → Calls Tryd.prog 30 #[.int .i64 h, .int .i64 j] q fun e w' => e = .returned (.int .i64 ((h + j) % 256)) ∧ AsksS B ax ay bx by' k r h j w1 w') := Lib.hid (fun q hq => (joustref13_Turn.calls h j _ q (FixM.rturn_eq h j)).mono fun e w' ⟨he, hd⟩ => ⟨he, hq.drawn hd⟩)
  have HUnit : Hid (∀ q : World, AsksS B ax ay bx by' k r h j w1 q → Calls Tryd.prog 10 #[.int .i64 h] q fun e w' => e = .returned (.agg #[.int .i64 (sinT (h + 64)), .int .i64 (sinT h)]) ∧ AsksS B ax ay bx by' k r h j w1 w') := Lib.hid (fun q hq => (vec_Unit.calls 0 h _ _ q (FixM.unit_eq 0 h) (HGw.out q hq)).mono fun e w' ⟨he, hd⟩ => ⟨he, hq.below hd⟩)
  have RUnit : Hid (∀ q : World, AsksS B ax ay bx by' k r h j w1 q → Calls Tryd.prog 31 #[.int .i64 h] q fun e w' => e = .returned (.agg #[.int .i64 (sinT (h + 64)), .int .i64 (sinT h)]) ∧ AsksS B ax ay bx by' k r h j w1 w') := Lib.hid (fun q hq => (joustref13_Unit.calls 9 h _ _ q (FixM.runit_eq 9 (by omega) hh)).mono fun e w' ⟨he, hd⟩ => ⟨he, hq.below hd⟩)
  have HToward : Hid (∀ q : World, AsksS B ax ay bx by' k r h j w1 q → Calls Tryd.prog 12 #[.agg #[.int .i64 ax, .int .i64 ay], .agg #[.int .i64 bx, .int .i64 by']] q fun e w' => e = .returned (.int .i64 (FixM.towardV ax ay bx by')) ∧ AsksS B ax ay bx by' k r h j w1 w') := Lib.hid (fun q hq => (vec_Toward.calls 300 ax ay bx by' _ q (FixM.toward_eq 300 (by omega) hax hay hbx hby) (HGw.out q hq)).mono fun e w' ⟨he, hd⟩ => ⟨he, hq.below hd⟩)
  have RToward : Hid (∀ q : World, AsksS B ax ay bx by' k r h j w1 q → Calls Tryd.prog 32 #[.agg #[.int .i64 ax, .int .i64 ay], .agg #[.int .i64 bx, .int .i64 by']] q fun e w' => e = .returned (.int .i64 (FixM.towardV ax ay bx by')) ∧ AsksS B ax ay bx by' k r h j w1 w') := Lib.hid (fun q hq => (joustref13_Toward.calls 300 ax ay bx by' _ q (FixM.rtoward_eq 300 (by omega) hax hay hbx hby)).mono fun e w' ⟨he, hd⟩ => ⟨he, hq.below hd⟩)
  clear hL1 hL2 hL0 hL3 hL2' hax hay hbx hby hk hh HGw
  generalize FixM.lim (ax + bx) = V0 at HAdd RAdd
  generalize FixM.lim (ay + by') = V1 at HAdd RAdd
  generalize FixM.lim (ax - bx) = V2 at HSub RSub
  generalize FixM.lim (ay - by') = V3 at HSub RSub
  generalize FixM.mulV ax k = V4 at HScale RScale
  generalize FixM.mulV ay k = V5 at HScale RScale
  generalize FixM.keep ax (FixM.capM k) = V6 at HCap RCap
  generalize FixM.keep ay (FixM.capM k) = V7 at HCap RCap
  generalize FixM.dist ax ay bx by' = V8 at HDist2 RDist2
  generalize FixM.nearB ax ay bx by' r = V9 at HWithin RWithin
  generalize (h + j) % 256 = V10 at HTurn RTurn
  generalize sinT (h + 64) = V11 at HUnit RUnit
  generalize sinT h = V12 at HUnit RUnit
  generalize FixM.towardV ax ay bx by' = V13 at HToward RToward
  refine wp_region_noPanic ?_
  refine wp_region_held_drew (S := (AsksS B ax ay bx by' k r h j w1)) (by kernel_rfl) (HS0.out.drew) (fun hHeld => ?_)
  clear hHeld
  refine wpAnyH_take (i := 0) (v := ?_) (by simp only [List.getElem?_toArray, List.getElem?_cons_zero]; rfl) (by kernel_rfl) (by kernel_rfl) (by kernel_rfl) (fun _ _ _ h => h) (Or.inl ⟨by rfl, ?_⟩) (HS0.out.drew) ?_
  rotate_left
  · (intro wq hSw; go_simp; all_goals with_reducible rfl)
  try simp only [Act.put, List.setIfInBounds_toArray, List.set_cons_zero, List.set_cons_succ]
  refine wpAnyH_take (i := 1) (v := _) (by simp only [List.getElem?_toArray, List.getElem?_cons_zero, List.getElem?_cons_succ]; rfl) (by kernel_rfl) (by kernel_rfl) (by kernel_rfl) (fun _ _ _ h => h) (yieldsIf_load_mid (by rfl) 25 (.tmp 3) rfl B 0 rfl [.int .i64 ax, .int .i64 ay] _ (fun _ h => h.a) Tryd.underlying25 rfl sizeVec) (HS0.out.drew) ?_
  try simp only [Act.put, List.setIfInBounds_toArray, List.set_cons_zero, List.set_cons_succ]
  refine wpAnyH_take (i := 2) (v := ?_) (by simp only [List.getElem?_toArray, List.getElem?_cons_zero, List.getElem?_cons_succ]; rfl) (by kernel_rfl) (by kernel_rfl) (by kernel_rfl) (fun _ _ _ h => h) (Or.inl ⟨by rfl, ?_⟩) (HS0.out.drew) ?_
  rotate_left
  · (intro wq hSw; go_simp; all_goals with_reducible rfl)
  try simp only [Act.put, List.setIfInBounds_toArray, List.set_cons_zero, List.set_cons_succ]
  refine wpAnyH_take (i := 3) (v := _) (by simp only [List.getElem?_toArray, List.getElem?_cons_zero, List.getElem?_cons_succ]; rfl) (by kernel_rfl) (by kernel_rfl) (by kernel_rfl) (fun _ _ _ h => h) (yieldsIf_load_mid (by rfl) 25 (.tmp 5) rfl B 2 rfl [.int .i64 bx, .int .i64 by'] _ (fun _ h => h.b) Tryd.underlying25 rfl sizeVec) (HS0.out.drew) ?_
  try simp only [Act.put, List.setIfInBounds_toArray, List.set_cons_zero, List.set_cons_succ]
  refine wpAnyH_take (i := 5) (v := ?_) (by simp only [List.getElem?_toArray, List.getElem?_cons_zero, List.getElem?_cons_succ]; rfl) (by kernel_rfl) (by kernel_rfl) (by kernel_rfl) (fun _ _ _ h => h) (Or.inl ⟨by rfl, ?_⟩) (HS0.out.drew) ?_
  rotate_left
  · (intro wq hSw; go_simp; all_goals with_reducible rfl)
  try simp only [Act.put, List.setIfInBounds_toArray, List.set_cons_zero, List.set_cons_succ]
  refine wpAnyH_take (i := 6) (v := _) (by simp only [List.getElem?_toArray, List.getElem?_cons_zero, List.getElem?_cons_succ]; rfl) (by kernel_rfl) (by kernel_rfl) (by kernel_rfl) (fun _ _ _ h => h) (yieldsIf_load_mid (by rfl) 25 (.tmp 8) rfl B 0 rfl [.int .i64 ax, .int .i64 ay] _ (fun _ h => h.a) Tryd.underlying25 rfl sizeVec) (HS0.out.drew) ?_
  try simp only [Act.put, List.setIfInBounds_toArray, List.set_cons_zero, List.set_cons_succ]
  refine wpAnyH_take (i := 7) (v := ?_) (by simp only [List.getElem?_toArray, List.getElem?_cons_zero, List.getElem?_cons_succ]; rfl) (by kernel_rfl) (by kernel_rfl) (by kernel_rfl) (fun _ _ _ h => h) (Or.inl ⟨by rfl, ?_⟩) (HS0.out.drew) ?_
  rotate_left
  · (intro wq hSw; go_simp; all_goals with_reducible rfl)
  try simp only [Act.put, List.setIfInBounds_toArray, List.set_cons_zero, List.set_cons_succ]
  refine wpAnyH_take (i := 8) (v := _) (by simp only [List.getElem?_toArray, List.getElem?_cons_zero, List.getElem?_cons_succ]; rfl) (by kernel_rfl) (by kernel_rfl) (by kernel_rfl) (fun _ _ _ h => h) (yieldsIf_load_mid (by rfl) 25 (.tmp 10) rfl B 2 rfl [.int .i64 bx, .int .i64 by'] _ (fun _ h => h.b) Tryd.underlying25 rfl sizeVec) (HS0.out.drew) ?_
  try simp only [Act.put, List.setIfInBounds_toArray, List.set_cons_zero, List.set_cons_succ]
  refine wpAnyH_ready (rs := [4]) (by kernel_rfl) (by simp) ?_
  refine AllReadyH.cons (by simp only [List.getElem?_toArray, List.getElem?_cons_zero, List.getElem?_cons_succ]; rfl) (fun K hK => ?_) AllReadyH.nil
  go_simp
  go_at_call 15
  refine (HAdd.out _ (HS0.out.drew)).mono ?_
  rintro r w11 ⟨rfl, hS11⟩
  go_wp2_with fail
  refine hK.out _ _ hS11 (fun _ => ?_)
  clear hK K
  try simp only [Act.put, List.setIfInBounds_toArray, List.set_cons_zero, List.set_cons_succ]
  refine wpAnyH_ready (rs := [9]) (by kernel_rfl) (by simp) ?_
  refine AllReadyH.cons (by simp only [List.getElem?_toArray, List.getElem?_cons_zero, List.getElem?_cons_succ]; rfl) (fun K hK => ?_) AllReadyH.nil
  go_simp
  go_at_call 21
  refine (RAdd.out _ hS11).mono ?_
  rintro r w12 ⟨rfl, hS12⟩
  go_wp2_with fail
  refine hK.out _ _ hS12 (fun _ => ?_)
  clear hK K
  try simp only [Act.put, List.setIfInBounds_toArray, List.set_cons_zero, List.set_cons_succ]
  refine wpAnyH_take (i := 10) (v := .bool false) (by simp only [List.getElem?_toArray, List.getElem?_cons_zero, List.getElem?_cons_succ]; rfl) (by kernel_rfl) (by kernel_rfl) (by kernel_rfl) (fun _ _ _ h => h) (Or.inl ⟨by rfl, ?_⟩) hS12 ?_
  · (intro wq hSw; go_simp; all_goals with_reducible rfl)
  try simp only [Act.put, List.setIfInBounds_toArray, List.set_cons_zero, List.set_cons_succ]
  refine wpAnyH_take (i := 11) (v := ?_) (by simp only [List.getElem?_toArray, List.getElem?_cons_zero, List.getElem?_cons_succ]; rfl) (by kernel_rfl) (by kernel_rfl) (by kernel_rfl) (fun _ _ _ h => h) (Or.inl ⟨by rfl, ?_⟩) hS12 ?_
  rotate_left
  · (intro wq hSw; go_simp; all_goals with_reducible rfl)
  try simp only [Act.put, List.setIfInBounds_toArray, List.set_cons_zero, List.set_cons_succ]
  refine wpAnyH_take (i := 12) (v := ?_) (by simp only [List.getElem?_toArray, List.getElem?_cons_zero, List.getElem?_cons_succ]; rfl) (by kernel_rfl) (by kernel_rfl) (by kernel_rfl) (fun _ _ _ h => h) (Or.inl ⟨by rfl, ?_⟩) hS12 ?_
  rotate_left
  · (intro wq hSw; go_simp; all_goals with_reducible rfl)
  try simp only [Act.put, List.setIfInBounds_toArray, List.set_cons_zero, List.set_cons_succ]
  refine wpAnyH_take (i := 13) (v := _) (by simp only [List.getElem?_toArray, List.getElem?_cons_zero, List.getElem?_cons_succ]; rfl) (by kernel_rfl) (by kernel_rfl) (by kernel_rfl) (fun _ _ _ h => h) (yieldsIf_load_mid (by rfl) 25 (.tmp 15) rfl B 0 rfl [.int .i64 ax, .int .i64 ay] _ (fun _ h => h.a) Tryd.underlying25 rfl sizeVec) hS12 ?_
  try simp only [Act.put, List.setIfInBounds_toArray, List.set_cons_zero, List.set_cons_succ]
  refine wpAnyH_take (i := 14) (v := ?_) (by simp only [List.getElem?_toArray, List.getElem?_cons_zero, List.getElem?_cons_succ]; rfl) (by kernel_rfl) (by kernel_rfl) (by kernel_rfl) (fun _ _ _ h => h) (Or.inl ⟨by rfl, ?_⟩) hS12 ?_
  rotate_left
  · (intro wq hSw; go_simp; all_goals with_reducible rfl)
  try simp only [Act.put, List.setIfInBounds_toArray, List.set_cons_zero, List.set_cons_succ]
  refine wpAnyH_take (i := 15) (v := _) (by simp only [List.getElem?_toArray, List.getElem?_cons_zero, List.getElem?_cons_succ]; rfl) (by kernel_rfl) (by kernel_rfl) (by kernel_rfl) (fun _ _ _ h => h) (yieldsIf_load_mid (by rfl) 25 (.tmp 17) rfl B 2 rfl [.int .i64 bx, .int .i64 by'] _ (fun _ h => h.b) Tryd.underlying25 rfl sizeVec) hS12 ?_
  try simp only [Act.put, List.setIfInBounds_toArray, List.set_cons_zero, List.set_cons_succ]
  refine wpAnyH_take (i := 17) (v := ?_) (by simp only [List.getElem?_toArray, List.getElem?_cons_zero, List.getElem?_cons_succ]; rfl) (by kernel_rfl) (by kernel_rfl) (by kernel_rfl) (fun _ _ _ h => h) (Or.inl ⟨by rfl, ?_⟩) hS12 ?_
  rotate_left
  · (intro wq hSw; go_simp; all_goals with_reducible rfl)
  try simp only [Act.put, List.setIfInBounds_toArray, List.set_cons_zero, List.set_cons_succ]
  refine wpAnyH_take (i := 18) (v := _) (by simp only [List.getElem?_toArray, List.getElem?_cons_zero, List.getElem?_cons_succ]; rfl) (by kernel_rfl) (by kernel_rfl) (by kernel_rfl) (fun _ _ _ h => h) (yieldsIf_load_mid (by rfl) 25 (.tmp 20) rfl B 0 rfl [.int .i64 ax, .int .i64 ay] _ (fun _ h => h.a) Tryd.underlying25 rfl sizeVec) hS12 ?_
  try simp only [Act.put, List.setIfInBounds_toArray, List.set_cons_zero, List.set_cons_succ]
  refine wpAnyH_take (i := 19) (v := ?_) (by simp only [List.getElem?_toArray, List.getElem?_cons_zero, List.getElem?_cons_succ]; rfl) (by kernel_rfl) (by kernel_rfl) (by kernel_rfl) (fun _ _ _ h => h) (Or.inl ⟨by rfl, ?_⟩) hS12 ?_
  rotate_left
  · (intro wq hSw; go_simp; all_goals with_reducible rfl)
  try simp only [Act.put, List.setIfInBounds_toArray, List.set_cons_zero, List.set_cons_succ]
  refine wpAnyH_take (i := 20) (v := _) (by simp only [List.getElem?_toArray, List.getElem?_cons_zero, List.getElem?_cons_succ]; rfl) (by kernel_rfl) (by kernel_rfl) (by kernel_rfl) (fun _ _ _ h => h) (yieldsIf_load_mid (by rfl) 25 (.tmp 22) rfl B 2 rfl [.int .i64 bx, .int .i64 by'] _ (fun _ h => h.b) Tryd.underlying25 rfl sizeVec) hS12 ?_
  try simp only [Act.put, List.setIfInBounds_toArray, List.set_cons_zero, List.set_cons_succ]
  refine wpAnyH_ready (rs := [16]) (by kernel_rfl) (by simp) ?_
  refine AllReadyH.cons (by simp only [List.getElem?_toArray, List.getElem?_cons_zero, List.getElem?_cons_succ]; rfl) (fun K hK => ?_) AllReadyH.nil
  go_simp
  go_at_call 14
  refine (HSub.out _ hS12).mono ?_
  rintro r w13 ⟨rfl, hS13⟩
  go_wp2_with fail
  refine hK.out _ _ hS13 (fun _ => ?_)
  clear hK K
  try simp only [Act.put, List.setIfInBounds_toArray, List.set_cons_zero, List.set_cons_succ]
  refine wpAnyH_ready (rs := [21]) (by kernel_rfl) (by simp) ?_
  refine AllReadyH.cons (by simp only [List.getElem?_toArray, List.getElem?_cons_zero, List.getElem?_cons_succ]; rfl) (fun K hK => ?_) AllReadyH.nil
  go_simp
  go_at_call 22
  refine (RSub.out _ hS13).mono ?_
  rintro r w14 ⟨rfl, hS14⟩
  go_wp2_with fail
  refine hK.out _ _ hS14 (fun _ => ?_)
  clear hK K
  try simp only [Act.put, List.setIfInBounds_toArray, List.set_cons_zero, List.set_cons_succ]
  refine wpAnyH_take (i := 22) (v := .bool false) (by simp only [List.getElem?_toArray, List.getElem?_cons_zero, List.getElem?_cons_succ]; rfl) (by kernel_rfl) (by kernel_rfl) (by kernel_rfl) (fun _ _ _ h => h) (Or.inl ⟨by rfl, ?_⟩) hS14 ?_
  · (intro wq hSw; go_simp; all_goals with_reducible rfl)
  try simp only [Act.put, List.setIfInBounds_toArray, List.set_cons_zero, List.set_cons_succ]
  refine wpAnyH_take (i := 23) (v := .bool false) (by simp only [List.getElem?_toArray, List.getElem?_cons_zero, List.getElem?_cons_succ]; rfl) (by kernel_rfl) (by kernel_rfl) (by kernel_rfl) (fun _ _ _ h => h) (Or.inl ⟨by rfl, ?_⟩) hS14 ?_
  · (intro wq hSw; go_simp; all_goals with_reducible rfl)
  try simp only [Act.put, List.setIfInBounds_toArray, List.set_cons_zero, List.set_cons_succ]
  refine wpAnyH_take (i := 24) (v := ?_) (by simp only [List.getElem?_toArray, List.getElem?_cons_zero, List.getElem?_cons_succ]; rfl) (by kernel_rfl) (by kernel_rfl) (by kernel_rfl) (fun _ _ _ h => h) (Or.inl ⟨by rfl, ?_⟩) hS14 ?_
  rotate_left
  · (intro wq hSw; go_simp; all_goals with_reducible rfl)
  try simp only [Act.put, List.setIfInBounds_toArray, List.set_cons_zero, List.set_cons_succ]
  refine wpAnyH_take (i := 25) (v := ?_) (by simp only [List.getElem?_toArray, List.getElem?_cons_zero, List.getElem?_cons_succ]; rfl) (by kernel_rfl) (by kernel_rfl) (by kernel_rfl) (fun _ _ _ h => h) (Or.inl ⟨by rfl, ?_⟩) hS14 ?_
  rotate_left
  · (intro wq hSw; go_simp; all_goals with_reducible rfl)
  try simp only [Act.put, List.setIfInBounds_toArray, List.set_cons_zero, List.set_cons_succ]
  refine wpAnyH_take (i := 26) (v := _) (by simp only [List.getElem?_toArray, List.getElem?_cons_zero, List.getElem?_cons_succ]; rfl) (by kernel_rfl) (by kernel_rfl) (by kernel_rfl) (fun _ _ _ h => h) (yieldsIf_load_mid (by rfl) 25 (.tmp 28) rfl B 0 rfl [.int .i64 ax, .int .i64 ay] _ (fun _ h => h.a) Tryd.underlying25 rfl sizeVec) hS14 ?_
  try simp only [Act.put, List.setIfInBounds_toArray, List.set_cons_zero, List.set_cons_succ]
  refine wpAnyH_take (i := 27) (v := ?_) (by simp only [List.getElem?_toArray, List.getElem?_cons_zero, List.getElem?_cons_succ]; rfl) (by kernel_rfl) (by kernel_rfl) (by kernel_rfl) (fun _ _ _ h => h) (Or.inl ⟨by rfl, ?_⟩) hS14 ?_
  rotate_left
  · (intro wq hSw; go_simp; all_goals with_reducible rfl)
  try simp only [Act.put, List.setIfInBounds_toArray, List.set_cons_zero, List.set_cons_succ]
  refine wpAnyH_take (i := 28) (v := ?_) (by simp only [List.getElem?_toArray, List.getElem?_cons_zero, List.getElem?_cons_succ]; rfl) (by kernel_rfl) (by kernel_rfl) (by kernel_rfl) (fun _ _ _ h => h) (Or.inl ⟨by rfl, ?_⟩) hS14 ?_
  rotate_left
  · (intro wq hSw; have q4 := hSw.k; have q5 := hSw.r; have q6 := hSw.h; have q7 := hSw.j; go_simp; all_goals with_reducible rfl)
  try simp only [Act.put, List.setIfInBounds_toArray, List.set_cons_zero, List.set_cons_succ]
  refine wpAnyH_take (i := 30) (v := ?_) (by simp only [List.getElem?_toArray, List.getElem?_cons_zero, List.getElem?_cons_succ]; rfl) (by kernel_rfl) (by kernel_rfl) (by kernel_rfl) (fun _ _ _ h => h) (Or.inl ⟨by rfl, ?_⟩) hS14 ?_
  rotate_left
  · (intro wq hSw; go_simp; all_goals with_reducible rfl)
  try simp only [Act.put, List.setIfInBounds_toArray, List.set_cons_zero, List.set_cons_succ]
  refine wpAnyH_take (i := 31) (v := _) (by simp only [List.getElem?_toArray, List.getElem?_cons_zero, List.getElem?_cons_succ]; rfl) (by kernel_rfl) (by kernel_rfl) (by kernel_rfl) (fun _ _ _ h => h) (yieldsIf_load_mid (by rfl) 25 (.tmp 33) rfl B 0 rfl [.int .i64 ax, .int .i64 ay] _ (fun _ h => h.a) Tryd.underlying25 rfl sizeVec) hS14 ?_
  try simp only [Act.put, List.setIfInBounds_toArray, List.set_cons_zero, List.set_cons_succ]
  refine wpAnyH_take (i := 32) (v := ?_) (by simp only [List.getElem?_toArray, List.getElem?_cons_zero, List.getElem?_cons_succ]; rfl) (by kernel_rfl) (by kernel_rfl) (by kernel_rfl) (fun _ _ _ h => h) (Or.inl ⟨by rfl, ?_⟩) hS14 ?_
  rotate_left
  · (intro wq hSw; go_simp; all_goals with_reducible rfl)
  try simp only [Act.put, List.setIfInBounds_toArray, List.set_cons_zero, List.set_cons_succ]
  refine wpAnyH_take (i := 33) (v := ?_) (by simp only [List.getElem?_toArray, List.getElem?_cons_zero, List.getElem?_cons_succ]; rfl) (by kernel_rfl) (by kernel_rfl) (by kernel_rfl) (fun _ _ _ h => h) (Or.inl ⟨by rfl, ?_⟩) hS14 ?_
  rotate_left
  · (intro wq hSw; have q4 := hSw.k; have q5 := hSw.r; have q6 := hSw.h; have q7 := hSw.j; go_simp; all_goals with_reducible rfl)
  try simp only [Act.put, List.setIfInBounds_toArray, List.set_cons_zero, List.set_cons_succ]
  refine wpAnyH_ready (rs := [29]) (by kernel_rfl) (by simp) ?_
  refine AllReadyH.cons (by simp only [List.getElem?_toArray, List.getElem?_cons_zero, List.getElem?_cons_succ]; rfl) (fun K hK => ?_) AllReadyH.nil
  go_simp
  go_at_call 23
  refine (HScale.out _ hS14).mono ?_
  rintro r w15 ⟨rfl, hS15⟩
  go_wp2_with fail
  refine hK.out _ _ hS15 (fun _ => ?_)
  clear hK K
  try simp only [Act.put, List.setIfInBounds_toArray, List.set_cons_zero, List.set_cons_succ]
  refine wpAnyH_ready (rs := [34]) (by kernel_rfl) (by simp) ?_
  refine AllReadyH.cons (by simp only [List.getElem?_toArray, List.getElem?_cons_zero, List.getElem?_cons_succ]; rfl) (fun K hK => ?_) AllReadyH.nil
  go_simp
  go_at_call 24
  refine (RScale.out _ hS15).mono ?_
  rintro r w16 ⟨rfl, hS16⟩
  go_wp2_with fail
  refine hK.out _ _ hS16 (fun _ => ?_)
  clear hK K
  try simp only [Act.put, List.setIfInBounds_toArray, List.set_cons_zero, List.set_cons_succ]
  refine wpAnyH_take (i := 35) (v := .bool false) (by simp only [List.getElem?_toArray, List.getElem?_cons_zero, List.getElem?_cons_succ]; rfl) (by kernel_rfl) (by kernel_rfl) (by kernel_rfl) (fun _ _ _ h => h) (Or.inl ⟨by rfl, ?_⟩) hS16 ?_
  · (intro wq hSw; go_simp; all_goals with_reducible rfl)
  try simp only [Act.put, List.setIfInBounds_toArray, List.set_cons_zero, List.set_cons_succ]
  refine wpAnyH_take (i := 36) (v := .bool false) (by simp only [List.getElem?_toArray, List.getElem?_cons_zero, List.getElem?_cons_succ]; rfl) (by kernel_rfl) (by kernel_rfl) (by kernel_rfl) (fun _ _ _ h => h) (Or.inl ⟨by rfl, ?_⟩) hS16 ?_
  · (intro wq hSw; go_simp; all_goals with_reducible rfl)
  try simp only [Act.put, List.setIfInBounds_toArray, List.set_cons_zero, List.set_cons_succ]
  refine wpAnyH_take (i := 37) (v := ?_) (by simp only [List.getElem?_toArray, List.getElem?_cons_zero, List.getElem?_cons_succ]; rfl) (by kernel_rfl) (by kernel_rfl) (by kernel_rfl) (fun _ _ _ h => h) (Or.inl ⟨by rfl, ?_⟩) hS16 ?_
  rotate_left
  · (intro wq hSw; go_simp; all_goals with_reducible rfl)
  try simp only [Act.put, List.setIfInBounds_toArray, List.set_cons_zero, List.set_cons_succ]
  refine wpAnyH_take (i := 38) (v := ?_) (by simp only [List.getElem?_toArray, List.getElem?_cons_zero, List.getElem?_cons_succ]; rfl) (by kernel_rfl) (by kernel_rfl) (by kernel_rfl) (fun _ _ _ h => h) (Or.inl ⟨by rfl, ?_⟩) hS16 ?_
  rotate_left
  · (intro wq hSw; go_simp; all_goals with_reducible rfl)
  try simp only [Act.put, List.setIfInBounds_toArray, List.set_cons_zero, List.set_cons_succ]
  refine wpAnyH_take (i := 39) (v := _) (by simp only [List.getElem?_toArray, List.getElem?_cons_zero, List.getElem?_cons_succ]; rfl) (by kernel_rfl) (by kernel_rfl) (by kernel_rfl) (fun _ _ _ h => h) (yieldsIf_load_mid (by rfl) 25 (.tmp 41) rfl B 0 rfl [.int .i64 ax, .int .i64 ay] _ (fun _ h => h.a) Tryd.underlying25 rfl sizeVec) hS16 ?_
  try simp only [Act.put, List.setIfInBounds_toArray, List.set_cons_zero, List.set_cons_succ]
  refine wpAnyH_take (i := 40) (v := ?_) (by simp only [List.getElem?_toArray, List.getElem?_cons_zero, List.getElem?_cons_succ]; rfl) (by kernel_rfl) (by kernel_rfl) (by kernel_rfl) (fun _ _ _ h => h) (Or.inl ⟨by rfl, ?_⟩) hS16 ?_
  rotate_left
  · (intro wq hSw; go_simp; all_goals with_reducible rfl)
  try simp only [Act.put, List.setIfInBounds_toArray, List.set_cons_zero, List.set_cons_succ]
  refine wpAnyH_take (i := 41) (v := ?_) (by simp only [List.getElem?_toArray, List.getElem?_cons_zero, List.getElem?_cons_succ]; rfl) (by kernel_rfl) (by kernel_rfl) (by kernel_rfl) (fun _ _ _ h => h) (Or.inl ⟨by rfl, ?_⟩) hS16 ?_
  rotate_left
  · (intro wq hSw; have q4 := hSw.k; have q5 := hSw.r; have q6 := hSw.h; have q7 := hSw.j; go_simp; all_goals with_reducible rfl)
  try simp only [Act.put, List.setIfInBounds_toArray, List.set_cons_zero, List.set_cons_succ]
  refine wpAnyH_take (i := 43) (v := ?_) (by simp only [List.getElem?_toArray, List.getElem?_cons_zero, List.getElem?_cons_succ]; rfl) (by kernel_rfl) (by kernel_rfl) (by kernel_rfl) (fun _ _ _ h => h) (Or.inl ⟨by rfl, ?_⟩) hS16 ?_
  rotate_left
  · (intro wq hSw; go_simp; all_goals with_reducible rfl)
  try simp only [Act.put, List.setIfInBounds_toArray, List.set_cons_zero, List.set_cons_succ]
  refine wpAnyH_take (i := 44) (v := _) (by simp only [List.getElem?_toArray, List.getElem?_cons_zero, List.getElem?_cons_succ]; rfl) (by kernel_rfl) (by kernel_rfl) (by kernel_rfl) (fun _ _ _ h => h) (yieldsIf_load_mid (by rfl) 25 (.tmp 46) rfl B 0 rfl [.int .i64 ax, .int .i64 ay] _ (fun _ h => h.a) Tryd.underlying25 rfl sizeVec) hS16 ?_
  try simp only [Act.put, List.setIfInBounds_toArray, List.set_cons_zero, List.set_cons_succ]
  refine wpAnyH_take (i := 45) (v := ?_) (by simp only [List.getElem?_toArray, List.getElem?_cons_zero, List.getElem?_cons_succ]; rfl) (by kernel_rfl) (by kernel_rfl) (by kernel_rfl) (fun _ _ _ h => h) (Or.inl ⟨by rfl, ?_⟩) hS16 ?_
  rotate_left
  · (intro wq hSw; go_simp; all_goals with_reducible rfl)
  try simp only [Act.put, List.setIfInBounds_toArray, List.set_cons_zero, List.set_cons_succ]
  refine wpAnyH_take (i := 46) (v := ?_) (by simp only [List.getElem?_toArray, List.getElem?_cons_zero, List.getElem?_cons_succ]; rfl) (by kernel_rfl) (by kernel_rfl) (by kernel_rfl) (fun _ _ _ h => h) (Or.inl ⟨by rfl, ?_⟩) hS16 ?_
  rotate_left
  · (intro wq hSw; have q4 := hSw.k; have q5 := hSw.r; have q6 := hSw.h; have q7 := hSw.j; go_simp; all_goals with_reducible rfl)
  try simp only [Act.put, List.setIfInBounds_toArray, List.set_cons_zero, List.set_cons_succ]
  refine wpAnyH_ready (rs := [42]) (by kernel_rfl) (by simp) ?_
  refine AllReadyH.cons (by simp only [List.getElem?_toArray, List.getElem?_cons_zero, List.getElem?_cons_succ]; rfl) (fun K hK => ?_) AllReadyH.nil
  go_simp
  go_at_call 25
  refine (HCap.out _ hS16).mono ?_
  rintro r w17 ⟨rfl, hS17⟩
  go_wp2_with fail
  refine hK.out _ _ hS17 (fun _ => ?_)
  clear hK K
  try simp only [Act.put, List.setIfInBounds_toArray, List.set_cons_zero, List.set_cons_succ]
  refine wpAnyH_ready (rs := [47]) (by kernel_rfl) (by simp) ?_
  refine AllReadyH.cons (by simp only [List.getElem?_toArray, List.getElem?_cons_zero, List.getElem?_cons_succ]; rfl) (fun K hK => ?_) AllReadyH.nil
  go_simp
  go_at_call 26
  refine (RCap.out _ hS17).mono ?_
  rintro r w18 ⟨rfl, hS18⟩
  go_wp2_with fail
  refine hK.out _ _ hS18 (fun _ => ?_)
  clear hK K
  try simp only [Act.put, List.setIfInBounds_toArray, List.set_cons_zero, List.set_cons_succ]
  refine wpAnyH_take (i := 48) (v := .bool false) (by simp only [List.getElem?_toArray, List.getElem?_cons_zero, List.getElem?_cons_succ]; rfl) (by kernel_rfl) (by kernel_rfl) (by kernel_rfl) (fun _ _ _ h => h) (Or.inl ⟨by rfl, ?_⟩) hS18 ?_
  · (intro wq hSw; go_simp; all_goals with_reducible rfl)
  try simp only [Act.put, List.setIfInBounds_toArray, List.set_cons_zero, List.set_cons_succ]
  refine wpAnyH_take (i := 49) (v := .bool false) (by simp only [List.getElem?_toArray, List.getElem?_cons_zero, List.getElem?_cons_succ]; rfl) (by kernel_rfl) (by kernel_rfl) (by kernel_rfl) (fun _ _ _ h => h) (Or.inl ⟨by rfl, ?_⟩) hS18 ?_
  · (intro wq hSw; go_simp; all_goals with_reducible rfl)
  try simp only [Act.put, List.setIfInBounds_toArray, List.set_cons_zero, List.set_cons_succ]
  refine wpAnyH_done (by kernel_rfl) ?_ _
  refine NoPanic.normal ?_
  have HQ1 := Lib.hid hS18
  go_upto_region 3 with fail
  refine wp_region_noPanic ?_
  refine wp_region_held_drew (S := (AsksS B ax ay bx by' k r h j w1)) (by kernel_rfl) (HQ1.out.drew) (fun hHeld => ?_)
  clear hHeld
  refine wpAnyH_take (i := 0) (v := ?_) (by simp only [List.getElem?_toArray, List.getElem?_cons_zero]; rfl) (by kernel_rfl) (by kernel_rfl) (by kernel_rfl) (fun _ _ _ h => h) (Or.inl ⟨by rfl, ?_⟩) (HQ1.out.drew) ?_
  rotate_left
  · (intro wq hSw; go_simp; all_goals with_reducible rfl)
  try simp only [Act.put, List.setIfInBounds_toArray, List.set_cons_zero, List.set_cons_succ]
  refine wpAnyH_take (i := 1) (v := _) (by simp only [List.getElem?_toArray, List.getElem?_cons_zero, List.getElem?_cons_succ]; rfl) (by kernel_rfl) (by kernel_rfl) (by kernel_rfl) (fun _ _ _ h => h) (yieldsIf_load_mid (by rfl) 25 (.tmp 53) rfl B 0 rfl [.int .i64 ax, .int .i64 ay] _ (fun _ h => h.a) Tryd.underlying25 rfl sizeVec) (HQ1.out.drew) ?_
  try simp only [Act.put, List.setIfInBounds_toArray, List.set_cons_zero, List.set_cons_succ]
  refine wpAnyH_take (i := 2) (v := ?_) (by simp only [List.getElem?_toArray, List.getElem?_cons_zero, List.getElem?_cons_succ]; rfl) (by kernel_rfl) (by kernel_rfl) (by kernel_rfl) (fun _ _ _ h => h) (Or.inl ⟨by rfl, ?_⟩) (HQ1.out.drew) ?_
  rotate_left
  · (intro wq hSw; go_simp; all_goals with_reducible rfl)
  try simp only [Act.put, List.setIfInBounds_toArray, List.set_cons_zero, List.set_cons_succ]
  refine wpAnyH_take (i := 3) (v := _) (by simp only [List.getElem?_toArray, List.getElem?_cons_zero, List.getElem?_cons_succ]; rfl) (by kernel_rfl) (by kernel_rfl) (by kernel_rfl) (fun _ _ _ h => h) (yieldsIf_load_mid (by rfl) 25 (.tmp 55) rfl B 2 rfl [.int .i64 bx, .int .i64 by'] _ (fun _ h => h.b) Tryd.underlying25 rfl sizeVec) (HQ1.out.drew) ?_
  try simp only [Act.put, List.setIfInBounds_toArray, List.set_cons_zero, List.set_cons_succ]
  refine wpAnyH_take (i := 5) (v := ?_) (by simp only [List.getElem?_toArray, List.getElem?_cons_zero, List.getElem?_cons_succ]; rfl) (by kernel_rfl) (by kernel_rfl) (by kernel_rfl) (fun _ _ _ h => h) (Or.inl ⟨by rfl, ?_⟩) (HQ1.out.drew) ?_
  rotate_left
  · (intro wq hSw; go_simp; all_goals with_reducible rfl)
  try simp only [Act.put, List.setIfInBounds_toArray, List.set_cons_zero, List.set_cons_succ]
  refine wpAnyH_take (i := 6) (v := _) (by simp only [List.getElem?_toArray, List.getElem?_cons_zero, List.getElem?_cons_succ]; rfl) (by kernel_rfl) (by kernel_rfl) (by kernel_rfl) (fun _ _ _ h => h) (yieldsIf_load_mid (by rfl) 25 (.tmp 58) rfl B 0 rfl [.int .i64 ax, .int .i64 ay] _ (fun _ h => h.a) Tryd.underlying25 rfl sizeVec) (HQ1.out.drew) ?_
  try simp only [Act.put, List.setIfInBounds_toArray, List.set_cons_zero, List.set_cons_succ]
  refine wpAnyH_take (i := 7) (v := ?_) (by simp only [List.getElem?_toArray, List.getElem?_cons_zero, List.getElem?_cons_succ]; rfl) (by kernel_rfl) (by kernel_rfl) (by kernel_rfl) (fun _ _ _ h => h) (Or.inl ⟨by rfl, ?_⟩) (HQ1.out.drew) ?_
  rotate_left
  · (intro wq hSw; go_simp; all_goals with_reducible rfl)
  try simp only [Act.put, List.setIfInBounds_toArray, List.set_cons_zero, List.set_cons_succ]
  refine wpAnyH_take (i := 8) (v := _) (by simp only [List.getElem?_toArray, List.getElem?_cons_zero, List.getElem?_cons_succ]; rfl) (by kernel_rfl) (by kernel_rfl) (by kernel_rfl) (fun _ _ _ h => h) (yieldsIf_load_mid (by rfl) 25 (.tmp 60) rfl B 2 rfl [.int .i64 bx, .int .i64 by'] _ (fun _ h => h.b) Tryd.underlying25 rfl sizeVec) (HQ1.out.drew) ?_
  try simp only [Act.put, List.setIfInBounds_toArray, List.set_cons_zero, List.set_cons_succ]
  refine wpAnyH_ready (rs := [4]) (by kernel_rfl) (by simp) ?_
  refine AllReadyH.cons (by simp only [List.getElem?_toArray, List.getElem?_cons_zero, List.getElem?_cons_succ]; rfl) (fun K hK => ?_) AllReadyH.nil
  go_simp
  go_at_call 17
  refine (HDist2.out _ (HQ1.out.drew)).mono ?_
  rintro r w31 ⟨rfl, hS31⟩
  go_wp2_with fail
  refine hK.out _ _ hS31 (fun _ => ?_)
  clear hK K
  try simp only [Act.put, List.setIfInBounds_toArray, List.set_cons_zero, List.set_cons_succ]
  refine wpAnyH_ready (rs := [9]) (by kernel_rfl) (by simp) ?_
  refine AllReadyH.cons (by simp only [List.getElem?_toArray, List.getElem?_cons_zero, List.getElem?_cons_succ]; rfl) (fun K hK => ?_) AllReadyH.nil
  go_simp
  go_at_call 27
  refine (RDist2.out _ hS31).mono ?_
  rintro r w32 ⟨rfl, hS32⟩
  go_wp2_with fail
  refine hK.out _ _ hS32 (fun _ => ?_)
  clear hK K
  try simp only [Act.put, List.setIfInBounds_toArray, List.set_cons_zero, List.set_cons_succ]
  refine wpAnyH_take (i := 10) (v := .bool false) (by simp only [List.getElem?_toArray, List.getElem?_cons_zero, List.getElem?_cons_succ]; rfl) (by kernel_rfl) (by kernel_rfl) (by kernel_rfl) (fun _ _ _ h => h) (Or.inl ⟨by rfl, ?_⟩) hS32 ?_
  · (intro wq hSw; go_simp; all_goals with_reducible rfl)
  try simp only [Act.put, List.setIfInBounds_toArray, List.set_cons_zero, List.set_cons_succ]
  refine wpAnyH_take (i := 11) (v := ?_) (by simp only [List.getElem?_toArray, List.getElem?_cons_zero, List.getElem?_cons_succ]; rfl) (by kernel_rfl) (by kernel_rfl) (by kernel_rfl) (fun _ _ _ h => h) (Or.inl ⟨by rfl, ?_⟩) hS32 ?_
  rotate_left
  · (intro wq hSw; go_simp; all_goals with_reducible rfl)
  try simp only [Act.put, List.setIfInBounds_toArray, List.set_cons_zero, List.set_cons_succ]
  refine wpAnyH_take (i := 12) (v := ?_) (by simp only [List.getElem?_toArray, List.getElem?_cons_zero, List.getElem?_cons_succ]; rfl) (by kernel_rfl) (by kernel_rfl) (by kernel_rfl) (fun _ _ _ h => h) (Or.inl ⟨by rfl, ?_⟩) hS32 ?_
  rotate_left
  · (intro wq hSw; go_simp; all_goals with_reducible rfl)
  try simp only [Act.put, List.setIfInBounds_toArray, List.set_cons_zero, List.set_cons_succ]
  refine wpAnyH_take (i := 13) (v := _) (by simp only [List.getElem?_toArray, List.getElem?_cons_zero, List.getElem?_cons_succ]; rfl) (by kernel_rfl) (by kernel_rfl) (by kernel_rfl) (fun _ _ _ h => h) (yieldsIf_load_mid (by rfl) 25 (.tmp 65) rfl B 0 rfl [.int .i64 ax, .int .i64 ay] _ (fun _ h => h.a) Tryd.underlying25 rfl sizeVec) hS32 ?_
  try simp only [Act.put, List.setIfInBounds_toArray, List.set_cons_zero, List.set_cons_succ]
  refine wpAnyH_take (i := 14) (v := ?_) (by simp only [List.getElem?_toArray, List.getElem?_cons_zero, List.getElem?_cons_succ]; rfl) (by kernel_rfl) (by kernel_rfl) (by kernel_rfl) (fun _ _ _ h => h) (Or.inl ⟨by rfl, ?_⟩) hS32 ?_
  rotate_left
  · (intro wq hSw; go_simp; all_goals with_reducible rfl)
  try simp only [Act.put, List.setIfInBounds_toArray, List.set_cons_zero, List.set_cons_succ]
  refine wpAnyH_take (i := 15) (v := _) (by simp only [List.getElem?_toArray, List.getElem?_cons_zero, List.getElem?_cons_succ]; rfl) (by kernel_rfl) (by kernel_rfl) (by kernel_rfl) (fun _ _ _ h => h) (yieldsIf_load_mid (by rfl) 25 (.tmp 67) rfl B 2 rfl [.int .i64 bx, .int .i64 by'] _ (fun _ h => h.b) Tryd.underlying25 rfl sizeVec) hS32 ?_
  try simp only [Act.put, List.setIfInBounds_toArray, List.set_cons_zero, List.set_cons_succ]
  refine wpAnyH_take (i := 16) (v := ?_) (by simp only [List.getElem?_toArray, List.getElem?_cons_zero, List.getElem?_cons_succ]; rfl) (by kernel_rfl) (by kernel_rfl) (by kernel_rfl) (fun _ _ _ h => h) (Or.inl ⟨by rfl, ?_⟩) hS32 ?_
  rotate_left
  · (intro wq hSw; go_simp; all_goals with_reducible rfl)
  try simp only [Act.put, List.setIfInBounds_toArray, List.set_cons_zero, List.set_cons_succ]
  refine wpAnyH_take (i := 17) (v := ?_) (by simp only [List.getElem?_toArray, List.getElem?_cons_zero, List.getElem?_cons_succ]; rfl) (by kernel_rfl) (by kernel_rfl) (by kernel_rfl) (fun _ _ _ h => h) (Or.inl ⟨by rfl, ?_⟩) hS32 ?_
  rotate_left
  · (intro wq hSw; have q4 := hSw.k; have q5 := hSw.r; have q6 := hSw.h; have q7 := hSw.j; go_simp; all_goals with_reducible rfl)
  try simp only [Act.put, List.setIfInBounds_toArray, List.set_cons_zero, List.set_cons_succ]
  refine wpAnyH_take (i := 19) (v := ?_) (by simp only [List.getElem?_toArray, List.getElem?_cons_zero, List.getElem?_cons_succ]; rfl) (by kernel_rfl) (by kernel_rfl) (by kernel_rfl) (fun _ _ _ h => h) (Or.inl ⟨by rfl, ?_⟩) hS32 ?_
  rotate_left
  · (intro wq hSw; go_simp; all_goals with_reducible rfl)
  try simp only [Act.put, List.setIfInBounds_toArray, List.set_cons_zero, List.set_cons_succ]
  refine wpAnyH_take (i := 20) (v := _) (by simp only [List.getElem?_toArray, List.getElem?_cons_zero, List.getElem?_cons_succ]; rfl) (by kernel_rfl) (by kernel_rfl) (by kernel_rfl) (fun _ _ _ h => h) (yieldsIf_load_mid (by rfl) 25 (.tmp 72) rfl B 0 rfl [.int .i64 ax, .int .i64 ay] _ (fun _ h => h.a) Tryd.underlying25 rfl sizeVec) hS32 ?_
  try simp only [Act.put, List.setIfInBounds_toArray, List.set_cons_zero, List.set_cons_succ]
  refine wpAnyH_take (i := 21) (v := ?_) (by simp only [List.getElem?_toArray, List.getElem?_cons_zero, List.getElem?_cons_succ]; rfl) (by kernel_rfl) (by kernel_rfl) (by kernel_rfl) (fun _ _ _ h => h) (Or.inl ⟨by rfl, ?_⟩) hS32 ?_
  rotate_left
  · (intro wq hSw; go_simp; all_goals with_reducible rfl)
  try simp only [Act.put, List.setIfInBounds_toArray, List.set_cons_zero, List.set_cons_succ]
  refine wpAnyH_take (i := 22) (v := _) (by simp only [List.getElem?_toArray, List.getElem?_cons_zero, List.getElem?_cons_succ]; rfl) (by kernel_rfl) (by kernel_rfl) (by kernel_rfl) (fun _ _ _ h => h) (yieldsIf_load_mid (by rfl) 25 (.tmp 74) rfl B 2 rfl [.int .i64 bx, .int .i64 by'] _ (fun _ h => h.b) Tryd.underlying25 rfl sizeVec) hS32 ?_
  try simp only [Act.put, List.setIfInBounds_toArray, List.set_cons_zero, List.set_cons_succ]
  refine wpAnyH_take (i := 23) (v := ?_) (by simp only [List.getElem?_toArray, List.getElem?_cons_zero, List.getElem?_cons_succ]; rfl) (by kernel_rfl) (by kernel_rfl) (by kernel_rfl) (fun _ _ _ h => h) (Or.inl ⟨by rfl, ?_⟩) hS32 ?_
  rotate_left
  · (intro wq hSw; go_simp; all_goals with_reducible rfl)
  try simp only [Act.put, List.setIfInBounds_toArray, List.set_cons_zero, List.set_cons_succ]
  refine wpAnyH_take (i := 24) (v := ?_) (by simp only [List.getElem?_toArray, List.getElem?_cons_zero, List.getElem?_cons_succ]; rfl) (by kernel_rfl) (by kernel_rfl) (by kernel_rfl) (fun _ _ _ h => h) (Or.inl ⟨by rfl, ?_⟩) hS32 ?_
  rotate_left
  · (intro wq hSw; have q4 := hSw.k; have q5 := hSw.r; have q6 := hSw.h; have q7 := hSw.j; go_simp; all_goals with_reducible rfl)
  try simp only [Act.put, List.setIfInBounds_toArray, List.set_cons_zero, List.set_cons_succ]
  refine wpAnyH_ready (rs := [18]) (by kernel_rfl) (by simp) ?_
  refine AllReadyH.cons (by simp only [List.getElem?_toArray, List.getElem?_cons_zero, List.getElem?_cons_succ]; rfl) (fun K hK => ?_) AllReadyH.nil
  go_simp
  go_at_call 18
  refine (HWithin.out _ hS32).mono ?_
  rintro r w33 ⟨rfl, hS33⟩
  go_wp2_with fail
  refine hK.out _ _ hS33 (fun _ => ?_)
  clear hK K
  try simp only [Act.put, List.setIfInBounds_toArray, List.set_cons_zero, List.set_cons_succ]
  refine wpAnyH_ready (rs := [25]) (by kernel_rfl) (by simp) ?_
  refine AllReadyH.cons (by simp only [List.getElem?_toArray, List.getElem?_cons_zero, List.getElem?_cons_succ]; rfl) (fun K hK => ?_) AllReadyH.nil
  go_simp
  go_at_call 28
  refine (RWithin.out _ hS33).mono ?_
  rintro r w34 ⟨rfl, hS34⟩
  go_wp2_with fail
  refine hK.out _ _ hS34 (fun _ => ?_)
  clear hK K
  try simp only [Act.put, List.setIfInBounds_toArray, List.set_cons_zero, List.set_cons_succ]
  refine wpAnyH_take (i := 26) (v := .bool false) (by simp only [List.getElem?_toArray, List.getElem?_cons_zero, List.getElem?_cons_succ]; rfl) (by kernel_rfl) (by kernel_rfl) (by kernel_rfl) (fun _ _ _ h => h) (Or.inl ⟨by rfl, ?_⟩) hS34 ?_
  · (intro wq hSw; go_simp; all_goals with_reducible rfl)
  try simp only [Act.put, List.setIfInBounds_toArray, List.set_cons_zero, List.set_cons_succ]
  refine wpAnyH_take (i := 27) (v := .bool false) (by simp only [List.getElem?_toArray, List.getElem?_cons_zero, List.getElem?_cons_succ]; rfl) (by kernel_rfl) (by kernel_rfl) (by kernel_rfl) (fun _ _ _ h => h) (Or.inl ⟨by rfl, ?_⟩) hS34 ?_
  · (intro wq hSw; go_simp; all_goals with_reducible rfl)
  try simp only [Act.put, List.setIfInBounds_toArray, List.set_cons_zero, List.set_cons_succ]
  refine wpAnyH_take (i := 28) (v := ?_) (by simp only [List.getElem?_toArray, List.getElem?_cons_zero, List.getElem?_cons_succ]; rfl) (by kernel_rfl) (by kernel_rfl) (by kernel_rfl) (fun _ _ _ h => h) (Or.inl ⟨by rfl, ?_⟩) hS34 ?_
  rotate_left
  · (intro wq hSw; go_simp; all_goals with_reducible rfl)
  try simp only [Act.put, List.setIfInBounds_toArray, List.set_cons_zero, List.set_cons_succ]
  refine wpAnyH_take (i := 29) (v := ?_) (by simp only [List.getElem?_toArray, List.getElem?_cons_zero, List.getElem?_cons_succ]; rfl) (by kernel_rfl) (by kernel_rfl) (by kernel_rfl) (fun _ _ _ h => h) (Or.inl ⟨by rfl, ?_⟩) hS34 ?_
  rotate_left
  · (intro wq hSw; go_simp; all_goals with_reducible rfl)
  try simp only [Act.put, List.setIfInBounds_toArray, List.set_cons_zero, List.set_cons_succ]
  refine wpAnyH_take (i := 30) (v := _) (by simp only [List.getElem?_toArray, List.getElem?_cons_zero, List.getElem?_cons_succ]; rfl) (by kernel_rfl) (by kernel_rfl) (by kernel_rfl) (fun _ _ _ h => h) (yieldsIf_load_mid (by rfl) 25 (.tmp 82) rfl B 0 rfl [.int .i64 ax, .int .i64 ay] _ (fun _ h => h.a) Tryd.underlying25 rfl sizeVec) hS34 ?_
  try simp only [Act.put, List.setIfInBounds_toArray, List.set_cons_zero, List.set_cons_succ]
  refine wpAnyH_take (i := 32) (v := ?_) (by simp only [List.getElem?_toArray, List.getElem?_cons_zero, List.getElem?_cons_succ]; rfl) (by kernel_rfl) (by kernel_rfl) (by kernel_rfl) (fun _ _ _ h => h) (Or.inl ⟨by rfl, ?_⟩) hS34 ?_
  rotate_left
  · (intro wq hSw; go_simp; all_goals with_reducible rfl)
  try simp only [Act.put, List.setIfInBounds_toArray, List.set_cons_zero, List.set_cons_succ]
  refine wpAnyH_take (i := 33) (v := _) (by simp only [List.getElem?_toArray, List.getElem?_cons_zero, List.getElem?_cons_succ]; rfl) (by kernel_rfl) (by kernel_rfl) (by kernel_rfl) (fun _ _ _ h => h) (yieldsIf_load_mid (by rfl) 25 (.tmp 85) rfl B 0 rfl [.int .i64 ax, .int .i64 ay] _ (fun _ h => h.a) Tryd.underlying25 rfl sizeVec) hS34 ?_
  try simp only [Act.put, List.setIfInBounds_toArray, List.set_cons_zero, List.set_cons_succ]
  refine wpAnyH_ready (rs := [31]) (by kernel_rfl) (by simp) ?_
  refine AllReadyH.cons (by simp only [List.getElem?_toArray, List.getElem?_cons_zero, List.getElem?_cons_succ]; rfl) (fun K hK => ?_) AllReadyH.nil
  go_simp
  go_at_call 19
  refine (HLen.out _ hS34).mono ?_
  rintro r w35 ⟨rfl, hS35⟩
  go_wp2_with fail
  refine hK.out _ _ hS35 (fun _ => ?_)
  clear hK K
  try simp only [Act.put, List.setIfInBounds_toArray, List.set_cons_zero, List.set_cons_succ]
  refine wpAnyH_ready (rs := [34]) (by kernel_rfl) (by simp) ?_
  refine AllReadyH.cons (by simp only [List.getElem?_toArray, List.getElem?_cons_zero, List.getElem?_cons_succ]; rfl) (fun K hK => ?_) AllReadyH.nil
  go_simp
  go_at_call 29
  refine (RLen.out _ hS35).mono ?_
  rintro r w36 ⟨rfl, hS36⟩
  go_wp2_with fail
  refine hK.out _ _ hS36 (fun _ => ?_)
  clear hK K
  try simp only [Act.put, List.setIfInBounds_toArray, List.set_cons_zero, List.set_cons_succ]
  refine wpAnyH_take (i := 35) (v := .bool false) (by simp only [List.getElem?_toArray, List.getElem?_cons_zero, List.getElem?_cons_succ]; rfl) (by kernel_rfl) (by kernel_rfl) (by kernel_rfl) (fun _ _ _ h => h) (Or.inl ⟨by rfl, ?_⟩) hS36 ?_
  · (intro wq hSw; go_simp; all_goals with_reducible rfl)
  try simp only [Act.put, List.setIfInBounds_toArray, List.set_cons_zero, List.set_cons_succ]
  refine wpAnyH_take (i := 36) (v := .bool false) (by simp only [List.getElem?_toArray, List.getElem?_cons_zero, List.getElem?_cons_succ]; rfl) (by kernel_rfl) (by kernel_rfl) (by kernel_rfl) (fun _ _ _ h => h) (Or.inl ⟨by rfl, ?_⟩) hS36 ?_
  · (intro wq hSw; go_simp; all_goals with_reducible rfl)
  try simp only [Act.put, List.setIfInBounds_toArray, List.set_cons_zero, List.set_cons_succ]
  refine wpAnyH_done (by kernel_rfl) ?_ _
  refine NoPanic.normal ?_
  have HQ3 := Lib.hid hS36
  go_upto_region 5 with fail
  refine wp_region_noPanic ?_
  refine wp_region_held_drew (S := (AsksS B ax ay bx by' k r h j w1)) (by kernel_rfl) (HQ3.out.drew) (fun hHeld => ?_)
  clear hHeld
  refine wpAnyH_take (i := 0) (v := ?_) (by simp only [List.getElem?_toArray, List.getElem?_cons_zero]; rfl) (by kernel_rfl) (by kernel_rfl) (by kernel_rfl) (fun _ _ _ h => h) (Or.inl ⟨by rfl, ?_⟩) (HQ3.out.drew) ?_
  rotate_left
  · (intro wq hSw; go_simp; all_goals with_reducible rfl)
  try simp only [Act.put, List.setIfInBounds_toArray, List.set_cons_zero, List.set_cons_succ]
  refine wpAnyH_take (i := 1) (v := ?_) (by simp only [List.getElem?_toArray, List.getElem?_cons_zero, List.getElem?_cons_succ]; rfl) (by kernel_rfl) (by kernel_rfl) (by kernel_rfl) (fun _ _ _ h => h) (Or.inl ⟨by rfl, ?_⟩) (HQ3.out.drew) ?_
  rotate_left
  · (intro wq hSw; have q4 := hSw.k; have q5 := hSw.r; have q6 := hSw.h; have q7 := hSw.j; go_simp; all_goals with_reducible rfl)
  try simp only [Act.put, List.setIfInBounds_toArray, List.set_cons_zero, List.set_cons_succ]
  refine wpAnyH_take (i := 2) (v := ?_) (by simp only [List.getElem?_toArray, List.getElem?_cons_zero, List.getElem?_cons_succ]; rfl) (by kernel_rfl) (by kernel_rfl) (by kernel_rfl) (fun _ _ _ h => h) (Or.inl ⟨by rfl, ?_⟩) (HQ3.out.drew) ?_
  rotate_left
  · (intro wq hSw; go_simp; all_goals with_reducible rfl)
  try simp only [Act.put, List.setIfInBounds_toArray, List.set_cons_zero, List.set_cons_succ]
  refine wpAnyH_take (i := 3) (v := ?_) (by simp only [List.getElem?_toArray, List.getElem?_cons_zero, List.getElem?_cons_succ]; rfl) (by kernel_rfl) (by kernel_rfl) (by kernel_rfl) (fun _ _ _ h => h) (Or.inl ⟨by rfl, ?_⟩) (HQ3.out.drew) ?_
  rotate_left
  · (intro wq hSw; have q4 := hSw.k; have q5 := hSw.r; have q6 := hSw.h; have q7 := hSw.j; go_simp; all_goals with_reducible rfl)
  try simp only [Act.put, List.setIfInBounds_toArray, List.set_cons_zero, List.set_cons_succ]
  refine wpAnyH_take (i := 5) (v := ?_) (by simp only [List.getElem?_toArray, List.getElem?_cons_zero, List.getElem?_cons_succ]; rfl) (by kernel_rfl) (by kernel_rfl) (by kernel_rfl) (fun _ _ _ h => h) (Or.inl ⟨by rfl, ?_⟩) (HQ3.out.drew) ?_
  rotate_left
  · (intro wq hSw; go_simp; all_goals with_reducible rfl)
  try simp only [Act.put, List.setIfInBounds_toArray, List.set_cons_zero, List.set_cons_succ]
  refine wpAnyH_take (i := 6) (v := ?_) (by simp only [List.getElem?_toArray, List.getElem?_cons_zero, List.getElem?_cons_succ]; rfl) (by kernel_rfl) (by kernel_rfl) (by kernel_rfl) (fun _ _ _ h => h) (Or.inl ⟨by rfl, ?_⟩) (HQ3.out.drew) ?_
  rotate_left
  · (intro wq hSw; have q4 := hSw.k; have q5 := hSw.r; have q6 := hSw.h; have q7 := hSw.j; go_simp; all_goals with_reducible rfl)
  try simp only [Act.put, List.setIfInBounds_toArray, List.set_cons_zero, List.set_cons_succ]
  refine wpAnyH_take (i := 7) (v := ?_) (by simp only [List.getElem?_toArray, List.getElem?_cons_zero, List.getElem?_cons_succ]; rfl) (by kernel_rfl) (by kernel_rfl) (by kernel_rfl) (fun _ _ _ h => h) (Or.inl ⟨by rfl, ?_⟩) (HQ3.out.drew) ?_
  rotate_left
  · (intro wq hSw; go_simp; all_goals with_reducible rfl)
  try simp only [Act.put, List.setIfInBounds_toArray, List.set_cons_zero, List.set_cons_succ]
  refine wpAnyH_take (i := 8) (v := ?_) (by simp only [List.getElem?_toArray, List.getElem?_cons_zero, List.getElem?_cons_succ]; rfl) (by kernel_rfl) (by kernel_rfl) (by kernel_rfl) (fun _ _ _ h => h) (Or.inl ⟨by rfl, ?_⟩) (HQ3.out.drew) ?_
  rotate_left
  · (intro wq hSw; have q4 := hSw.k; have q5 := hSw.r; have q6 := hSw.h; have q7 := hSw.j; go_simp; all_goals with_reducible rfl)
  try simp only [Act.put, List.setIfInBounds_toArray, List.set_cons_zero, List.set_cons_succ]
  refine wpAnyH_ready (rs := [4]) (by kernel_rfl) (by simp) ?_
  refine AllReadyH.cons (by simp only [List.getElem?_toArray, List.getElem?_cons_zero, List.getElem?_cons_succ]; rfl) (fun K hK => ?_) AllReadyH.nil
  go_simp
  go_at_call 9
  refine (HTurn.out _ (HQ3.out.drew)).mono ?_
  rintro r w51 ⟨rfl, hS51⟩
  go_wp2_with fail
  refine hK.out _ _ hS51 (fun _ => ?_)
  clear hK K
  try simp only [Act.put, List.setIfInBounds_toArray, List.set_cons_zero, List.set_cons_succ]
  refine wpAnyH_ready (rs := [9]) (by kernel_rfl) (by simp) ?_
  refine AllReadyH.cons (by simp only [List.getElem?_toArray, List.getElem?_cons_zero, List.getElem?_cons_succ]; rfl) (fun K hK => ?_) AllReadyH.nil
  go_simp
  go_at_call 30
  refine (RTurn.out _ hS51).mono ?_
  rintro r w52 ⟨rfl, hS52⟩
  go_wp2_with fail
  refine hK.out _ _ hS52 (fun _ => ?_)
  clear hK K
  try simp only [Act.put, List.setIfInBounds_toArray, List.set_cons_zero, List.set_cons_succ]
  refine wpAnyH_take (i := 10) (v := .bool true) (by simp only [List.getElem?_toArray, List.getElem?_cons_zero, List.getElem?_cons_succ]; rfl) (by kernel_rfl) (by kernel_rfl) (by kernel_rfl) (fun _ _ _ h => h) (Or.inl ⟨by rfl, ?_⟩) hS52 ?_
  · (intro wq hSw; go_simp; all_goals with_reducible rfl)
  try simp only [Act.put, List.setIfInBounds_toArray, List.set_cons_zero, List.set_cons_succ]
  refine wpAnyH_take (i := 11) (v := ?_) (by simp only [List.getElem?_toArray, List.getElem?_cons_zero, List.getElem?_cons_succ]; rfl) (by kernel_rfl) (by kernel_rfl) (by kernel_rfl) (fun _ _ _ h => h) (Or.inl ⟨by rfl, ?_⟩) hS52 ?_
  rotate_left
  · (intro wq hSw; go_simp; all_goals with_reducible rfl)
  try simp only [Act.put, List.setIfInBounds_toArray, List.set_cons_zero, List.set_cons_succ]
  refine wpAnyH_take (i := 12) (v := ?_) (by simp only [List.getElem?_toArray, List.getElem?_cons_zero, List.getElem?_cons_succ]; rfl) (by kernel_rfl) (by kernel_rfl) (by kernel_rfl) (fun _ _ _ h => h) (Or.inl ⟨by rfl, ?_⟩) hS52 ?_
  rotate_left
  · (intro wq hSw; go_simp; all_goals with_reducible rfl)
  try simp only [Act.put, List.setIfInBounds_toArray, List.set_cons_zero, List.set_cons_succ]
  refine wpAnyH_take (i := 13) (v := ?_) (by simp only [List.getElem?_toArray, List.getElem?_cons_zero, List.getElem?_cons_succ]; rfl) (by kernel_rfl) (by kernel_rfl) (by kernel_rfl) (fun _ _ _ h => h) (Or.inl ⟨by rfl, ?_⟩) hS52 ?_
  rotate_left
  · (intro wq hSw; have q4 := hSw.k; have q5 := hSw.r; have q6 := hSw.h; have q7 := hSw.j; go_simp; all_goals with_reducible rfl)
  try simp only [Act.put, List.setIfInBounds_toArray, List.set_cons_zero, List.set_cons_succ]
  refine wpAnyH_take (i := 15) (v := ?_) (by simp only [List.getElem?_toArray, List.getElem?_cons_zero, List.getElem?_cons_succ]; rfl) (by kernel_rfl) (by kernel_rfl) (by kernel_rfl) (fun _ _ _ h => h) (Or.inl ⟨by rfl, ?_⟩) hS52 ?_
  rotate_left
  · (intro wq hSw; go_simp; all_goals with_reducible rfl)
  try simp only [Act.put, List.setIfInBounds_toArray, List.set_cons_zero, List.set_cons_succ]
  refine wpAnyH_take (i := 16) (v := ?_) (by simp only [List.getElem?_toArray, List.getElem?_cons_zero, List.getElem?_cons_succ]; rfl) (by kernel_rfl) (by kernel_rfl) (by kernel_rfl) (fun _ _ _ h => h) (Or.inl ⟨by rfl, ?_⟩) hS52 ?_
  rotate_left
  · (intro wq hSw; have q4 := hSw.k; have q5 := hSw.r; have q6 := hSw.h; have q7 := hSw.j; go_simp; all_goals with_reducible rfl)
  try simp only [Act.put, List.setIfInBounds_toArray, List.set_cons_zero, List.set_cons_succ]
  refine wpAnyH_ready (rs := [14]) (by kernel_rfl) (by simp) ?_
  refine AllReadyH.cons (by simp only [List.getElem?_toArray, List.getElem?_cons_zero, List.getElem?_cons_succ]; rfl) (fun K hK => ?_) AllReadyH.nil
  go_simp
  go_at_call 10
  refine (HUnit.out _ hS52).mono ?_
  rintro r w53 ⟨rfl, hS53⟩
  go_wp2_with fail
  refine hK.out _ _ hS53 (fun _ => ?_)
  clear hK K
  try simp only [Act.put, List.setIfInBounds_toArray, List.set_cons_zero, List.set_cons_succ]
  refine wpAnyH_ready (rs := [17]) (by kernel_rfl) (by simp) ?_
  refine AllReadyH.cons (by simp only [List.getElem?_toArray, List.getElem?_cons_zero, List.getElem?_cons_succ]; rfl) (fun K hK => ?_) AllReadyH.nil
  go_simp
  go_at_call 31
  refine (RUnit.out _ hS53).mono ?_
  rintro r w54 ⟨rfl, hS54⟩
  go_wp2_with fail
  refine hK.out _ _ hS54 (fun _ => ?_)
  clear hK K
  try simp only [Act.put, List.setIfInBounds_toArray, List.set_cons_zero, List.set_cons_succ]
  refine wpAnyH_take (i := 18) (v := .bool true) (by simp only [List.getElem?_toArray, List.getElem?_cons_zero, List.getElem?_cons_succ]; rfl) (by kernel_rfl) (by kernel_rfl) (by kernel_rfl) (fun _ _ _ h => h) (Or.inl ⟨by rfl, ?_⟩) hS54 ?_
  · (intro wq hSw; go_simp; all_goals with_reducible rfl)
  try simp only [Act.put, List.setIfInBounds_toArray, List.set_cons_zero, List.set_cons_succ]
  refine wpAnyH_take (i := 19) (v := .bool true) (by simp only [List.getElem?_toArray, List.getElem?_cons_zero, List.getElem?_cons_succ]; rfl) (by kernel_rfl) (by kernel_rfl) (by kernel_rfl) (fun _ _ _ h => h) (Or.inl ⟨by rfl, ?_⟩) hS54 ?_
  · (intro wq hSw; go_simp; all_goals with_reducible rfl)
  try simp only [Act.put, List.setIfInBounds_toArray, List.set_cons_zero, List.set_cons_succ]
  refine wpAnyH_take (i := 20) (v := ?_) (by simp only [List.getElem?_toArray, List.getElem?_cons_zero, List.getElem?_cons_succ]; rfl) (by kernel_rfl) (by kernel_rfl) (by kernel_rfl) (fun _ _ _ h => h) (Or.inl ⟨by rfl, ?_⟩) hS54 ?_
  rotate_left
  · (intro wq hSw; go_simp; all_goals with_reducible rfl)
  try simp only [Act.put, List.setIfInBounds_toArray, List.set_cons_zero, List.set_cons_succ]
  refine wpAnyH_take (i := 21) (v := ?_) (by simp only [List.getElem?_toArray, List.getElem?_cons_zero, List.getElem?_cons_succ]; rfl) (by kernel_rfl) (by kernel_rfl) (by kernel_rfl) (fun _ _ _ h => h) (Or.inl ⟨by rfl, ?_⟩) hS54 ?_
  rotate_left
  · (intro wq hSw; go_simp; all_goals with_reducible rfl)
  try simp only [Act.put, List.setIfInBounds_toArray, List.set_cons_zero, List.set_cons_succ]
  refine wpAnyH_take (i := 22) (v := _) (by simp only [List.getElem?_toArray, List.getElem?_cons_zero, List.getElem?_cons_succ]; rfl) (by kernel_rfl) (by kernel_rfl) (by kernel_rfl) (fun _ _ _ h => h) (yieldsIf_load_mid (by rfl) 25 (.tmp 111) rfl B 0 rfl [.int .i64 ax, .int .i64 ay] _ (fun _ h => h.a) Tryd.underlying25 rfl sizeVec) hS54 ?_
  try simp only [Act.put, List.setIfInBounds_toArray, List.set_cons_zero, List.set_cons_succ]
  refine wpAnyH_take (i := 23) (v := ?_) (by simp only [List.getElem?_toArray, List.getElem?_cons_zero, List.getElem?_cons_succ]; rfl) (by kernel_rfl) (by kernel_rfl) (by kernel_rfl) (fun _ _ _ h => h) (Or.inl ⟨by rfl, ?_⟩) hS54 ?_
  rotate_left
  · (intro wq hSw; go_simp; all_goals with_reducible rfl)
  try simp only [Act.put, List.setIfInBounds_toArray, List.set_cons_zero, List.set_cons_succ]
  refine wpAnyH_take (i := 24) (v := _) (by simp only [List.getElem?_toArray, List.getElem?_cons_zero, List.getElem?_cons_succ]; rfl) (by kernel_rfl) (by kernel_rfl) (by kernel_rfl) (fun _ _ _ h => h) (yieldsIf_load_mid (by rfl) 25 (.tmp 113) rfl B 2 rfl [.int .i64 bx, .int .i64 by'] _ (fun _ h => h.b) Tryd.underlying25 rfl sizeVec) hS54 ?_
  try simp only [Act.put, List.setIfInBounds_toArray, List.set_cons_zero, List.set_cons_succ]
  refine wpAnyH_take (i := 26) (v := ?_) (by simp only [List.getElem?_toArray, List.getElem?_cons_zero, List.getElem?_cons_succ]; rfl) (by kernel_rfl) (by kernel_rfl) (by kernel_rfl) (fun _ _ _ h => h) (Or.inl ⟨by rfl, ?_⟩) hS54 ?_
  rotate_left
  · (intro wq hSw; go_simp; all_goals with_reducible rfl)
  try simp only [Act.put, List.setIfInBounds_toArray, List.set_cons_zero, List.set_cons_succ]
  refine wpAnyH_take (i := 27) (v := _) (by simp only [List.getElem?_toArray, List.getElem?_cons_zero, List.getElem?_cons_succ]; rfl) (by kernel_rfl) (by kernel_rfl) (by kernel_rfl) (fun _ _ _ h => h) (yieldsIf_load_mid (by rfl) 25 (.tmp 116) rfl B 0 rfl [.int .i64 ax, .int .i64 ay] _ (fun _ h => h.a) Tryd.underlying25 rfl sizeVec) hS54 ?_
  try simp only [Act.put, List.setIfInBounds_toArray, List.set_cons_zero, List.set_cons_succ]
  refine wpAnyH_take (i := 28) (v := ?_) (by simp only [List.getElem?_toArray, List.getElem?_cons_zero, List.getElem?_cons_succ]; rfl) (by kernel_rfl) (by kernel_rfl) (by kernel_rfl) (fun _ _ _ h => h) (Or.inl ⟨by rfl, ?_⟩) hS54 ?_
  rotate_left
  · (intro wq hSw; go_simp; all_goals with_reducible rfl)
  try simp only [Act.put, List.setIfInBounds_toArray, List.set_cons_zero, List.set_cons_succ]
  refine wpAnyH_take (i := 29) (v := _) (by simp only [List.getElem?_toArray, List.getElem?_cons_zero, List.getElem?_cons_succ]; rfl) (by kernel_rfl) (by kernel_rfl) (by kernel_rfl) (fun _ _ _ h => h) (yieldsIf_load_mid (by rfl) 25 (.tmp 118) rfl B 2 rfl [.int .i64 bx, .int .i64 by'] _ (fun _ h => h.b) Tryd.underlying25 rfl sizeVec) hS54 ?_
  try simp only [Act.put, List.setIfInBounds_toArray, List.set_cons_zero, List.set_cons_succ]
  refine wpAnyH_ready (rs := [25]) (by kernel_rfl) (by simp) ?_
  refine AllReadyH.cons (by simp only [List.getElem?_toArray, List.getElem?_cons_zero, List.getElem?_cons_succ]; rfl) (fun K hK => ?_) AllReadyH.nil
  go_simp
  go_at_call 12
  refine (HToward.out _ hS54).mono ?_
  rintro r w55 ⟨rfl, hS55⟩
  go_wp2_with fail
  refine hK.out _ _ hS55 (fun _ => ?_)
  clear hK K
  try simp only [Act.put, List.setIfInBounds_toArray, List.set_cons_zero, List.set_cons_succ]
  refine wpAnyH_ready (rs := [30]) (by kernel_rfl) (by simp) ?_
  refine AllReadyH.cons (by simp only [List.getElem?_toArray, List.getElem?_cons_zero, List.getElem?_cons_succ]; rfl) (fun K hK => ?_) AllReadyH.nil
  go_simp
  go_at_call 32
  refine (RToward.out _ hS55).mono ?_
  rintro r w56 ⟨rfl, hS56⟩
  go_wp2_with fail
  refine hK.out _ _ hS56 (fun _ => ?_)
  clear hK K
  try simp only [Act.put, List.setIfInBounds_toArray, List.set_cons_zero, List.set_cons_succ]
  refine wpAnyH_take (i := 31) (v := .bool true) (by simp only [List.getElem?_toArray, List.getElem?_cons_zero, List.getElem?_cons_succ]; rfl) (by kernel_rfl) (by kernel_rfl) (by kernel_rfl) (fun _ _ _ h => h) (Or.inl ⟨by rfl, ?_⟩) hS56 ?_
  · (intro wq hSw; go_simp; all_goals with_reducible rfl)
  try simp only [Act.put, List.setIfInBounds_toArray, List.set_cons_zero, List.set_cons_succ]
  refine wpAnyH_take (i := 32) (v := .bool true) (by simp only [List.getElem?_toArray, List.getElem?_cons_zero, List.getElem?_cons_succ]; rfl) (by kernel_rfl) (by kernel_rfl) (by kernel_rfl) (fun _ _ _ h => h) (Or.inl ⟨by rfl, ?_⟩) hS56 ?_
  · (intro wq hSw; go_simp; all_goals with_reducible rfl)
  try simp only [Act.put, List.setIfInBounds_toArray, List.set_cons_zero, List.set_cons_succ]
  refine wpAnyH_take (i := 33) (v := ?_) (by simp only [List.getElem?_toArray, List.getElem?_cons_zero, List.getElem?_cons_succ]; rfl) (by kernel_rfl) (by kernel_rfl) (by kernel_rfl) (fun _ _ _ h => h) (Or.inl ⟨by rfl, ?_⟩) hS56 ?_
  rotate_left
  · (intro wq hSw; go_simp; all_goals with_reducible rfl)
  try simp only [Act.put, List.setIfInBounds_toArray, List.set_cons_zero, List.set_cons_succ]
  refine wpAnyH_done (by kernel_rfl) ?_ _
  refine NoPanic.normal ?_
  go_wp2
  go_ret
  exact ⟨rfl, HM1.out.then hS56.m⟩
end Go.Proofs.YtcmbklofbemclaaDoor
