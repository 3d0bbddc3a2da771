/- Lists of cars that are the call's own: read, appended to. -/
import Derived.Test.YtinjlkceplhibaaDoorShP
import Derived.Test.YtinjlkceplhibaaDoorShE
import Derived.Test.YtinjlkceplhibaaDoorBdR
namespace Go.Proofs.YtinjlkceplhibaaDoor
open Go.RowKit

theorem info_car : (Tryd.prog.info? 25).map (fun i => (i.zero, i.size, i.bytes)) = some (some (.agg #[.int .i64 0, .string ⟨#[]⟩, .int .i64 0, .int .i64 0, .int .i64 0, .int .i64 0, .int .i64 0, .int .i64 0, .int .i64 0, .int .i64 0, .int .i64 0, .int .i64 0, .int .i64 0, .int .i64 0]), 14, 120) := by kernel_rfl
theorem under_cars : Tryd.prog.underlying 32 = some (.slice 25) := Tryd.underlying32
/-- the cells of a list of cars -/
def ccells (L : List Cr) : List Value := L.flatMap Cr.cells
theorem ccells_len (L : List Cr) : (ccells L).length = L.length * 14 := by
  induction L with
  | nil => rfl
  | cons c r ih =>
    show (c.cells ++ ccells r).length = _
    rw [List.length_append, ih, List.length_cons, Nat.add_mul]
    show 14 + _ = _
    omega
theorem ccells_app (L M : List Cr) : ccells (L ++ M) = ccells L ++ ccells M := List.flatMap_append
theorem ccells_get {L : List Cr} {i : Nat} {c : Cr} (h : L[i]? = some c) {j : Nat} {v : Value} (hv : c.cells[j]? = some v) : (ccells L)[i * 14 + j]? = some v := by
  induction L generalizing i with
  | nil => simp at h
  | cons q r ih =>
    have hj : j < 14 := (List.getElem?_eq_some_iff.1 hv).1
    cases i with
    | zero =>
      obtain rfl := Option.some.inj h
      show (q.cells ++ ccells r)[0 * 14 + j]? = _
      rw [Nat.zero_mul, Nat.zero_add, List.getElem?_append_left (by exact hj)]
      exact hv
    | succ i =>
      show (q.cells ++ ccells r)[(i + 1) * 14 + j]? = _
      have hq : q.cells.length = 14 := rfl
      rw [List.getElem?_append_right (by omega), hq, show (i + 1) * 14 + j - 14 = i * 14 + j by omega]
      exact ih h
theorem one_cc (L : List Cr) : ∀ u ∈ ccells L, u.oneCell' = true := by
  intro u hu
  obtain ⟨p, _, hp⟩ := List.mem_flatMap.1 hu
  exact one_car p u hp
/-- a list of cars that the call owns -/
def OwnC (w : World) (base : Nat) (v : Value) (L : List Cr) : Prop := w.ownsRow base 25 14 v L.length (ccells L)
theorem OwnC.none (w : World) (base : Nat) : OwnC w base (.slice Option.none 0 0) [] := World.ownsRow_nil w base _ _
theorem OwnC.mod {S : Nat → Prop} {w w' : World} {base : Nat} {v : Value} {L : List Cr} (h : OwnC w base v L) (hM : Mod S w w') (hS : ∀ k, base ≤ k → k < w.heap.size → ¬ S k) : OwnC w' base v L := by
  obtain ⟨h1, h2 | ⟨g, cap, cur, h3, h4, h5, h6⟩⟩ := h
  · exact ⟨h1, .inl h2⟩
  · have hg := (Array.getElem?_eq_some_iff.1 h5).1
    exact ⟨h1, .inr ⟨g, cap, cur, h3, h4, (hM.block g hg (hS g h4 hg)).trans h5, h6⟩⟩
theorem OwnC.keep {w w' : World} {base : Nat} {v : Value} {L : List Cr} (h : OwnC w base v L) (hM : Mod none_ w w') : OwnC w' base v L := h.mod hM (fun _ _ _ h => h)
/-- where it lies -/
theorem OwnC.at {w : World} {base : Nat} {v : Value} {L : List Cr} (h : OwnC w base v L) : ∃ sa cap, v = .slice sa L.length cap ∧ (0 < L.length → ∃ g, sa = some ⟨g, 0, Option.none⟩ ∧ base ≤ g ∧ g < w.heap.size ∧ ∀ i c, L[i]? = some c → w.rangeAt g (0 + i * 14) c.cells) := by
  obtain ⟨h1, ⟨rfl, h2⟩ | ⟨g, cap, cur, h3, h4, h5, h6, h7, h8, h9⟩⟩ := h
  · exact ⟨Option.none, 0, by rw [h2], fun hp => by omega⟩
  · refine ⟨_, cap, h3, fun _ => ⟨g, rfl, h4, (Array.getElem?_eq_some_iff.1 h5).1, fun i c hc j u hu => ?_⟩⟩
    have hcc := ccells_get hc hu
    rw [← h9, List.getElem?_take] at hcc
    split at hcc
    · rw [cell_of_row w g _ cur _ (0, 0) h5, Nat.zero_add]
      simpa using hcc
    · cases hcc
theorem OwnC.crs {w : World} {base : Nat} {v : Value} {L : List Cr} (h : OwnC w base v L) (hok : ∀ c ∈ L, c.Ok) : ∃ sa cap, v = .slice sa L.length cap ∧ Crs w w.heap.size sa L := by
  obtain ⟨sa, cap, hv, hat⟩ := h.at
  exact ⟨sa, cap, hv, fun hp => by
    obtain ⟨g, h1, _, h3, h4⟩ := hat hp
    exact ⟨g, 0, h1, h3, h4⟩, hok⟩
theorem run_append_none' {P : Program} {w : World} {base : Nat} {t ty e : TypeId} {i : TypeInfo} {size : Nat} (ht : P.underlying t = some (.slice e)) (hi : P.info? e = some i) (v : Value) (n : Nat) (xs : List Value) (hown : w.ownsRow base e size v n xs) (c : Nat) :
    (Builtin.append_ #[t, t] ty #[v, .slice Option.none 0 c]).run P w = .ok v w := by
  rcases hown.2 with ⟨rfl, rfl⟩ | ⟨g, cap, cur, rfl, _, _, hle, _⟩
  · simp [Builtin.append_, run_underlying ht, sizeOf, typeInfo, hi, Builtin.lenOf, Builtin.firstCells]
  · simp [Builtin.append_, run_underlying ht, sizeOf, typeInfo, hi, Builtin.lenOf, Builtin.firstCells, hle, storeCells]
theorem ccells_split {M : List Cr} {j : Nat} {u : Value} (h : (ccells M)[j]? = some u) : ∃ i c q, j = i * 14 + q ∧ M[i]? = some c ∧ c.cells[q]? = some u := by
  induction M generalizing j with
  | nil => simp [ccells] at h
  | cons p r ih =>
    have h' : (p.cells ++ ccells r)[j]? = some u := h
    by_cases hj : j < 14
    · rw [List.getElem?_append_left (by exact hj)] at h'
      exact ⟨0, p, j, by omega, rfl, h'⟩
    · have hp : p.cells.length = 14 := rfl
      rw [List.getElem?_append_right (by omega), hp] at h'
      obtain ⟨i, c, q, e, h1, h2⟩ := ih h'
      exact ⟨i + 1, c, q, by omega, h1, h2⟩
/-- cars, one behind the other, at an address -/
def CSrc (w : World) (sa : Option Addr) (M : List Cr) : Prop := 0 < M.length → ∃ b off, sa = some ⟨b, off, Option.none⟩ ∧ ∀ i c, M[i]? = some c → w.rangeAt b (off + i * 14) c.cells
theorem Crs.src {w : World} {B : Nat} {sa : Option Addr} {L : List Cr} (h : Crs w B sa L) : CSrc w sa L := fun hp => by
  obtain ⟨b, off, h1, _, h3⟩ := h.row hp
  exact ⟨b, off, h1, h3⟩
theorem CSrc.blk {w : World} {b : Nat} {M : List Cr} (h : Blk w b (ccells M) 25) : CSrc w (some ⟨b, 0, Option.none⟩) M := fun _ => ⟨b, 0, rfl, fun i c hc j u hu => by rw [Nat.zero_add]; exact h.cell (ccells_get hc hu)⟩
theorem run_append_c (w : World) (ty : TypeId) (base : Nat) (v : Value) (L : List Cr) (hown : OwnC w base v L) (sa : Option Addr) (M : List Cr) (k c : Nat) (hk : M.length = k) (hM : CSrc w sa M) (h63 : L.length + k ≤ 4194304) (hbase : base ≤ w.heap.size) :
    ∃ v' w', (Builtin.append_ #[32, 32] ty #[v, .slice sa k c]).run Tryd.prog w = .ok v' w' ∧ OwnC w' base v' (L ++ M) ∧ w.grownBy w' v.ownBlock := by
  obtain ⟨i, hi, hz0, hz1, hz2⟩ := info_parts' info_car
  subst hk
  have key : ∀ ad : Addr, sa = some ad → (∀ j u, (ccells M)[j]? = some u → w.cell? (ad.add j) = some u) → ∃ v' w', (Builtin.append_ #[32, 32] ty #[v, .slice sa M.length c]).run Tryd.prog w = .ok v' w' ∧ OwnC w' base v' (L ++ M) ∧ w.grownBy w' v.ownBlock := by
    rintro ad rfl hn
    obtain ⟨v', w', h1, h2, h3, _⟩ := run_append_own (P := Tryd.prog) w base 32 ty 25 i _ 14 120 under_cars hi hz0 hz1 hz2 rfl (by decide) v L.length (ccells L) hown ad M.length c (ccells M) (ccells_len M) hn (one_cc M) (by unfold maxLen; omega) (by omega) hbase
    refine ⟨v', w', h1, ?_, h3⟩
    unfold OwnC
    rw [List.length_append, ccells_app]
    exact h2
  rcases M with _ | ⟨m, r⟩
  · cases sa with
    | none =>
      refine ⟨v, w, run_append_none' under_cars hi v _ _ hown c, by rw [List.append_nil]; exact hown, ⟨rfl, rfl, rfl, Nat.le_refl _, fun _ _ _ => rfl⟩⟩
    | some ad => exact key ad rfl (fun j u h => by simp [ccells] at h)
  · obtain ⟨b, off, rfl, h3⟩ := hM (by simp)
    refine key _ rfl (fun j u hu => ?_)
    obtain ⟨i', c', q, rfl, h1, h2⟩ := ccells_split hu
    have := h3 i' c' h1 q u h2
    rw [Nat.add_assoc] at this
    have e : (⟨b, off, Option.none⟩ : Addr).add (i' * 14 + q) = ⟨b, off + (i' * 14 + q), Option.none⟩ := by unfold Addr.add; split <;> simp_all
    rw [e]
    exact this
theorem wpList_append_c {ops : Array Oper} {rest : List Oper} {o : Oper} {a : Act} {w : World} {Q : Exit → Act → World → Prop} (hgd : o.guard = none) (s x : Operand)
    (ho : o.op = .call { callee := .builtin .append, args := #[s, x], argTypes := #[32, 32] }) (base : Nat) (v : Value) (L : List Cr) (hs : a.eval s = v) (hown : OwnC w base v L)
    (sa : Option Addr) (M : List Cr) (k c : Nat) (hx : a.eval x = .slice sa k c) (hk : M.length = k) (hM : CSrc w sa M) (h63 : L.length + k ≤ 4194304) (hbase : base ≤ w.heap.size)
    (h : ∀ v' w', OwnC w' base v' (L ++ M) → w.grownBy w' v.ownBlock → wpList Tryd.prog ops Q rest (a.put o.dst v') w') : wpList Tryd.prog ops Q (o :: rest) a w := by
  refine wpList_plain hgd fun K hK' => ?_
  obtain ⟨v', w', hr, h2, h3⟩ := run_append_c w o.type base v L hown sa M k c hk hM h63 hbase
  unfold Oper.wp execOp
  simp only [ho, resolve, invoke, builtin, Sem.run_bind, Sem.run_pure, Result.andThen_ok, List.map_toArray, List.map_cons, List.map_nil, hs, hx, hr]
  exact hK' _ _ (h v' w' h2 h3)
theorem OwnC.grown {w w' : World} {base : Nat} {v : Value} {L : List Cr} (h : OwnC w base v L) (hg : w.grownBy w' v.ownBlock) {S : Nat → Prop} (hS : ∀ k, base ≤ k → k < w.heap.size → S k) : Mod S w w' :=
  Mod.grownBy hg (fun k hk e => by
    have := h.lt k e
    exact hS k this.1 this.2)
/-- a mark -/
def mark (k : Int) : Cr := ⟨k, ⟨#[]⟩, 0, 0, 0, 0, 0, 0, 0, 0, 0, 0, 0, 0⟩
set_option maxHeartbeats 2000000 in
set_option maxRecDepth 100000 in
theorem lent_any (w : World) (sa : Option Addr) (n cp : Nat) (L : List Cr) (hn : L.length = n) (hn2 : n ≤ 1048576) (hL : Crs w w.heap.size sa L) :
    Calls Tryd.prog 21 #[.slice sa n cp] w fun e w' => ∃ g cap, e = .returned (.slice (some ⟨g, 0, Option.none⟩) (n + 2) cap) ∧ OwnC w' w.heap.size (.slice (some ⟨g, 0, Option.none⟩) (n + 2) cap) (L ++ [mark (-77), mark (-78)]) ∧ Mod none_ w w' := by
  have HL := Lib.hid hL; have HN := Lib.hid hn
  have HN2 := Lib.hid (show ([] : List Cr).length + n ≤ 4194304 by simp; omega)
  have HN3 := Lib.hid (show L.length + 2 ≤ 4194304 by omega)
  clear hL hn hn2
  obtain ⟨B, hB⟩ : ∃ B, w.heap.size = B := ⟨_, rfl⟩
  have hb0 : B ≤ w.heap.size := by omega
  have HB := Lib.hid hB; have HB0 := Lib.hid hb0
  rw [hB]
  clear hB hb0
  go_enter Tryd.func21, Tryd.ntmps21
  go_upto_region 3 with (refine wpList_append_c rfl (.tmp 4) (.tmp 5) rfl B (.slice Option.none 0 0) [] rfl (OwnC.none _ _) sa L n cp rfl HN.out HL.out.src HN2.out HB0.out ?_; intro v1 w1 hO1 hg1)
  rw [List.nil_append] at hO1
  have hM1 : Mod none_ w w1 := Mod.grownBy hg1 (fun k hk e => by simp [Value.ownBlock] at e)
  have HO1 := Lib.hid hO1; have HM1 := Lib.hid hM1
  have HBW := Lib.hid (show B ≤ w1.heap.size from Nat.le_trans HB0.out hM1.size)
  clear hO1 hg1 hM1
  have hbk := Blk.new w1 (ccells [mark (-77), mark (-78)]) 25
  have HBK := Lib.hid hbk
  clear hbk
  go_wp2_with (refine wpList_append_c rfl (.tmp 7) (.tmp 10) rfl B v1 L rfl (HO1.out.keep ((Mod.refl _ _).alloc _)) (some ⟨w1.heap.size, 0, Option.none⟩) [mark (-77), mark (-78)] 2 2 rfl rfl (CSrc.blk HBK.out) HN3.out (by simp; exact Nat.le_succ_of_le HBW.out) ?_; intro v2 w2 hO2 hg2)
  have hM2 := (HO1.out.keep ((Mod.refl none_ _).alloc _)).grown hg2 (S := fun k => B ≤ k) (fun k h _ => h)
  have hM3 : Mod none_ w w2 := (HM1.out.then ((Mod.refl none_ _).alloc _)).trans hM2 (fun k hk e => by have := HB.out; have : B ≤ k := e; omega)
  obtain ⟨sa2, cap, rfl, hat⟩ := hO2.at
  obtain ⟨g, rfl, _⟩ := hat (by simp)
  have hl : (L ++ [mark (-77), mark (-78)]).length = n + 2 := by rw [List.length_append, HN.out]; rfl
  rw [hl] at hO2 ⊢
  clear hat hg2 hM2
  go_ret
  exact ⟨g, cap, rfl, hO2, hM3⟩
end Go.Proofs.YtinjlkceplhibaaDoor
