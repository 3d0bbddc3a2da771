/- Boards: close, Spawns: the walks. -/
import Derived.Test.YtinjlkceplhibaaDoorBdQ
import Derived.Laws.AppendOwn
namespace Bd
/-- the rim closed as far as cell i -/
def mix (W H : Nat) (D : List Int) (i : Nat) : List Int := D.mapIdx fun j c => if j < i ∧ rim W H j then 35 else c
theorem mix_zero (W H : Nat) (D : List Int) : mix W H D 0 = D := by
  apply List.ext_getElem?
  intro j
  unfold mix
  rw [List.getElem?_mapIdx]
  cases D[j]? <;> simp
theorem mix_all (W H : Nat) (D : List Int) : mix W H D D.length = close W H D := by
  apply List.ext_getElem?
  intro j
  rw [close_get]
  unfold mix
  rw [List.getElem?_mapIdx]
  cases hj : D[j]? with
  | none => rfl
  | some c =>
    have := (List.getElem?_eq_some_iff.1 hj).1
    simp [this]
theorem mix_len (W H : Nat) (D : List Int) (i : Nat) : (mix W H D i).length = D.length := by simp [mix]
theorem mix_keep {W H : Nat} {D : List Int} {i : Nat} (h : ¬ rim W H i) : mix W H D (i + 1) = mix W H D i := by
  apply List.ext_getElem?
  intro j
  unfold mix
  rw [List.getElem?_mapIdx, List.getElem?_mapIdx]
  by_cases e : j = i
  · subst e; simp [h]
  · have : (j < i + 1) ↔ (j < i) := by omega
    simp [this]
theorem mix_set {W H : Nat} {D : List Int} {i : Nat} (h : rim W H i) : mix W H D (i + 1) = (mix W H D i).set i 35 := by
  apply List.ext_getElem?
  intro j
  unfold mix
  rw [List.getElem?_mapIdx, List.getElem?_set, List.getElem?_mapIdx]
  by_cases e : i = j
  · subst e
    cases hj : D[i]? with
    | none =>
      have := List.getElem?_eq_none_iff.1 hj
      simp
      omega
    | some c =>
      have := (List.getElem?_eq_some_iff.1 hj).1
      simp [h, this]
  · have : (j < i + 1) ↔ (j < i) := by omega
    simp [e, this]
end Bd

namespace Go.Proofs.YtinjlkceplhibaaDoor
open Go.RowKit

theorem info_parts' {P : Program} {t : TypeId} {z : Option Value} {n m : Nat} (h : (P.info? t).map (fun i => (i.zero, i.size, i.bytes)) = some (z, n, m)) : ∃ i, P.info? t = some i ∧ i.zero = z ∧ i.size = n ∧ i.bytes = m := by
  cases hi : P.info? t with
  | none => simp [hi] at h
  | some i =>
    simp [hi] at h
    exact ⟨i, rfl, h.1, h.2.1, h.2.2⟩
theorem info_i32 : (Tryd.prog.info? 21).map (fun i => (i.zero, i.size, i.bytes)) = some (some (.int .i32 0), 1, 4) := by kernel_rfl
theorem info_vec : (Tryd.prog.info? 23).map (fun i => (i.zero, i.size, i.bytes)) = some (some (.agg #[.int .i64 0, .int .i64 0]), 2, 16) := by kernel_rfl
theorem under_i32s : Tryd.prog.underlying 88 = some (.slice 21) := by kernel_rfl
theorem under_vecs : Tryd.prog.underlying 75 = some (.slice 23) := by kernel_rfl
theorem size_vec : (Tryd.prog.info? 23).map (·.size) = some 2 := by kernel_rfl

namespace Row
/-- a list of the call's own, perhaps none: of elements of 'size' cells each -/
theorem own_ge {w : World} {base : Nat} {e : TypeId} {size n : Nat} {v : Value} {xs : List Value} (h : w.ownsRow base e size v n xs) {b : Nat} (hb : v.ownBlock = some b) : base ≤ b := by
  obtain ⟨_, h2 | ⟨g, cap, cur, h3, h4, _⟩⟩ := h
  · rw [h2.1] at hb; cases hb
  · rw [h3] at hb
    obtain rfl : g = b := Option.some.inj hb
    exact h4
theorem own_lt {w : World} {base : Nat} {e : TypeId} {size n : Nat} {v : Value} {xs : List Value} (h : w.ownsRow base e size v n xs) {b : Nat} (hb : v.ownBlock = some b) : b < w.heap.size := by
  obtain ⟨_, h2 | ⟨g, cap, cur, h3, h4, h5, _⟩⟩ := h
  · rw [h2.1] at hb; cases hb
  · rw [h3] at hb
    obtain rfl : g = b := Option.some.inj hb
    exact (Array.getElem?_eq_some_iff.1 h5).1
theorem modO {S : Nat → Prop} {w w' : World} {base : Nat} {e : TypeId} {size n : Nat} {v : Value} {xs : List Value} (h : w.ownsRow base e size v n xs) (hM : Mod S w w') (hS : ∀ g, v.ownBlock = some g → ¬ S g) : w'.ownsRow base e size v n xs := by
  obtain ⟨h1, h2 | ⟨g, cap, cur, h3, h4, h5, h6, h7, h8, h9⟩⟩ := h
  · exact ⟨h1, Or.inl h2⟩
  · exact ⟨h1, Or.inr ⟨g, cap, cur, h3, h4, (hM.blk (b := g) (cs := cur.toList) (t := e) h5 (hS g (by rw [h3]; rfl))), h6, h7, h8, h9⟩⟩
theorem none {w w' : World} {base : Nat} {e : TypeId} {size n : Nat} {v : Value} {xs : List Value} (h : w.ownsRow base e size v n xs) (hM : Mod none_ w w') : w'.ownsRow base e size v n xs := modO h hM (fun _ _ h => h)
theorem nil (w : World) (base : Nat) (e : TypeId) (size : Nat) : w.ownsRow base e size (.slice Option.none 0 0) 0 [] := ⟨by simp, Or.inl ⟨rfl, rfl⟩⟩
/-- as a block, where it has one element at least -/
theorem blk {w : World} {base : Nat} {e : TypeId} {size n : Nat} {v : Value} {xs : List Value} (h : w.ownsRow base e size v n xs) (hn : 0 < n) : ∃ g cap rest, v = .slice (some ⟨g, 0, Option.none⟩) n cap ∧ base ≤ g ∧ Blk w g (xs ++ rest) e ∧ n ≤ cap := by
  obtain ⟨h1, h2 | ⟨g, cap, cur, h3, h4, h5, h6, h7, h8, h9⟩⟩ := h
  · have := h2.2; omega
  · refine ⟨g, cap, cur.toList.drop (n * size), h3, h4, ?_, h6⟩
    have e : xs ++ cur.toList.drop (n * size) = cur.toList := (congrArg (· ++ cur.toList.drop (n * size)) h9).symm.trans (List.take_append_drop _ _)
    rw [Blk, h5, e, Array.toArray_toList]
theorem base {w : World} {base base' : Nat} {e : TypeId} {size n : Nat} {v : Value} {xs : List Value} (h : w.ownsRow base e size v n xs) (hb : base' ≤ base) : w.ownsRow base' e size v n xs := by
  obtain ⟨h1, h2 | ⟨g, cap, cur, h3, h4, h5⟩⟩ := h
  · exact ⟨h1, Or.inl h2⟩
  · exact ⟨h1, Or.inr ⟨g, cap, cur, h3, Nat.le_trans hb h4, h5⟩⟩
end Row

/-- the cells of places -/
def vcells (l : List (Int × Int)) : List Value := l.flatMap fun p => [.int .i64 p.1, .int .i64 p.2]
theorem vcells_len (l : List (Int × Int)) : (vcells l).length = l.length * 2 := by
  induction l with
  | nil => rfl
  | cons p r ih => simp [vcells] at ih ⊢; omega
theorem vcells_app (l m : List (Int × Int)) : vcells (l ++ m) = vcells l ++ vcells m := by simp [vcells]
/-- v is a list of places of the call's own -/
def OwnV (w : World) (base : Nat) (v : Value) (l : List (Int × Int)) : Prop := w.ownsRow base 23 2 v l.length (vcells l)

theorem i32s_set (l : List Int) (i : Nat) (x : Int) (rest : List Value) (h : i < l.length) : (i32s l ++ rest).set i (.int .i32 x) = i32s (l.set i x) ++ rest := by
  rw [List.set_append, if_pos (by simpa [i32s] using h)]
  simp [i32s, List.map_set]

set_option maxHeartbeats 1000000 in
theorem close_any (w : World) (b g W H n cap : Nat) (D : List Int) (rest : List Value) (hW : 3 ≤ W ∧ W ≤ 64) (hH : 3 ≤ H ∧ H ≤ 64) (hn : n = W * H) (hD : D.length = n) (hbg : b ≠ g)
    (h1 : Blk w b [.int .i64 W, .int .i64 H, .slice (some ⟨g, 0, none⟩) n cap] 90) (h2 : Blk w g (i32s D ++ rest) 21) :
    Calls Tryd.prog 53 #[.pointer (some ⟨b, 0, none⟩)] w fun e w' => e = .returned (.tuple #[]) ∧ Blk w' g (i32s (Bd.close W H D) ++ rest) 21 ∧ Mod (only g) w w' := by
  have hn4 : n ≤ 4096 := by rw [hn]; exact Nat.mul_le_mul hW.2 hH.2
  have HB1 := Lib.hid h1; have HD := Lib.hid hD; have HN := Lib.hid hn
  have q0 := h1.cell (j := 0) rfl
  have q1 := h1.cell (j := 1) rfl
  have q2 := h1.cell (j := 2) rfl
  have h2' : Blk w g (i32s (Bd.mix W H D 0) ++ rest) 21 := by rw [Bd.mix_zero]; exact h2
  have H2 := Lib.hid h2'
  clear h1 h2 h2' hD hn
  go_enter Tryd.func53, Tryd.ntmps53
  go_wp2
  go_loopw [10] (fun v wr => ∃ i : Nat, v = .int .i64 i ∧ i ≤ n ∧ Blk wr g (i32s (Bd.mix W H D i) ++ rest) 21 ∧ Mod (only g) w wr) (fun v _ => n - (intOf v).toNat)
  case atStart => exact ⟨0, rfl, by omega, H2.out, Mod.refl _ _⟩
  case round =>
    obtain ⟨i, rfl, hi, hB, hM⟩ := hrel
    replace q0 := hM.cellS q0 (not_only hbg)
    replace q1 := hM.cellS q1 (not_only hbg)
    replace q2 := hM.cellS q2 (not_only hbg)
    have HB := Lib.hid hB; have HM := Lib.hid hM
    clear hB hM H2 HB1
    by_cases hin : i < n
    · have hin' : (i : Int) < (n : Int) := by omega
      obtain ⟨x, hx⟩ : ∃ x : Nat, i % W = x := ⟨_, rfl⟩
      obtain ⟨y, hy⟩ : ∃ y : Nat, i / W = y := ⟨_, rfl⟩
      have hm : Int.tmod (i : Int) (W : Int) = (x : Int) := by rw [← hx]; rfl
      have hd : Int.tdiv (i : Int) (W : Int) = (y : Int) := by rw [← hy]; rfl
      have hxW : x < W := by rw [← hx]; exact Nat.mod_lt _ (by omega)
      have hyH : y < H := by rw [← hy, Nat.div_lt_iff_lt_mul (by omega), Nat.mul_comm]; rw [HN.out] at hin; exact hin
      have hrim : Bd.rim W H i ↔ (x = 0 ∨ y = 0 ∨ x = W - 1 ∨ y = H - 1) := by unfold Bd.rim; rw [hx, hy]
      have HR := Lib.hid hrim
      clear hrim hx hy
      have hw0 : ¬ (W : Int) = 0 := by omega
      go_upto_region 3 with fail
      go_quiet (fail)
      obtain ⟨wq, hwq, hMq⟩ : ∃ wq, wr.drewN nq = wq ∧ Mod (only g) wr wq := ⟨_, rfl, (Mod.refl _ _).drewN _⟩
      have hBq : Blk wq g (i32s (Bd.mix W H D i) ++ rest) 21 := by rw [← hwq]; exact HB.out.drewN nq
      replace q0 := hMq.cellS q0 (not_only hbg)
      replace q1 := hMq.cellS q1 (not_only hbg)
      replace q2 := hMq.cellS q2 (not_only hbg)
      rw [hwq]
      obtain ⟨e, he⟩ : ∃ e, (Bd.mix W H D i)[i]? = some e := ⟨_, List.getElem?_eq_getElem (by rw [Bd.mix_len, HD.out]; exact hin)⟩
      have qi := hBq.cell (i32s_at he rest)
      have fi := hBq.frozen i
      have HBq := Lib.hid hBq; have HMq := Lib.hid (HM.out.trans hMq (fun _ _ h => h))
      clear hBq hMq hwq he HB HM hm hd hw0
      by_cases c1 : x = 0
      · have e1 : ((x : Int) == 0) = true := by simp [c1]
        have HRM := Lib.hid (HR.out.2 (by omega))
        clear c1
        go_wp2
        have hset : Blk (wq.setCell ⟨g, i, none⟩ (.int .i32 35)) g (i32s (Bd.mix W H D (i + 1)) ++ rest) 21 := by
          rw [Bd.mix_set HRM.out, ← i32s_set _ _ _ _ (by rw [Bd.mix_len, HD.out]; exact hin)]
          exact HBq.out.set i _
        have hMs := HMq.out.setCell (p := ⟨g, i, none⟩) (fun _ => only_self g) (.int .i32 35)
        go_roundw
        case rel => exact ⟨i + 1, by go_num, by omega, hset, hMs⟩
        case measure => simp [intOf]; omega
      · have e1 : ((x : Int) == 0) = false := by simp [c1]
        by_cases c2 : y = 0
        · have e2 : ((y : Int) == 0) = true := by simp [c2]
          have HRM := Lib.hid (HR.out.2 (by omega))
          clear c2
          go_wp2
          have hset : Blk (wq.setCell ⟨g, i, none⟩ (.int .i32 35)) g (i32s (Bd.mix W H D (i + 1)) ++ rest) 21 := by
            rw [Bd.mix_set HRM.out, ← i32s_set _ _ _ _ (by rw [Bd.mix_len, HD.out]; exact hin)]
            exact HBq.out.set i _
          have hMs := HMq.out.setCell (p := ⟨g, i, none⟩) (fun _ => only_self g) (.int .i32 35)
          go_roundw
          case rel => exact ⟨i + 1, by go_num, by omega, hset, hMs⟩
          case measure => simp [intOf]; omega
        · have e2 : ((y : Int) == 0) = false := by simp [c2]
          by_cases c3 : x = W - 1
          · have e3 : ((x : Int) == (W : Int) - 1) = true := by simp; omega
            have HRM := Lib.hid (HR.out.2 (by omega))
            clear c3
            go_wp2
            have hset : Blk (wq.setCell ⟨g, i, none⟩ (.int .i32 35)) g (i32s (Bd.mix W H D (i + 1)) ++ rest) 21 := by
              rw [Bd.mix_set HRM.out, ← i32s_set _ _ _ _ (by rw [Bd.mix_len, HD.out]; exact hin)]
              exact HBq.out.set i _
            have hMs := HMq.out.setCell (p := ⟨g, i, none⟩) (fun _ => only_self g) (.int .i32 35)
            go_roundw
            case rel => exact ⟨i + 1, by go_num, by omega, hset, hMs⟩
            case measure => simp [intOf]; omega
          · have e3 : ((x : Int) == (W : Int) - 1) = false := by simp; omega
            by_cases c4 : y = H - 1
            · have e4 : ((y : Int) == (H : Int) - 1) = true := by simp; omega
              have HRM := Lib.hid (HR.out.2 (by omega))
              clear c4
              go_wp2
              have hset : Blk (wq.setCell ⟨g, i, none⟩ (.int .i32 35)) g (i32s (Bd.mix W H D (i + 1)) ++ rest) 21 := by
                rw [Bd.mix_set HRM.out, ← i32s_set _ _ _ _ (by rw [Bd.mix_len, HD.out]; exact hin)]
                exact HBq.out.set i _
              have hMs := HMq.out.setCell (p := ⟨g, i, none⟩) (fun _ => only_self g) (.int .i32 35)
              go_roundw
              case rel => exact ⟨i + 1, by go_num, by omega, hset, hMs⟩
              case measure => simp [intOf]; omega
            · have e4 : ((y : Int) == (H : Int) - 1) = false := by simp; omega
              go_wp2
              have hk := HBq.out
              rw [← Bd.mix_keep (fun h => by have := HR.out.1 h; omega)] at hk
              go_roundw
              case rel => exact ⟨i + 1, by go_num, by omega, hk, HMq.out⟩
              case measure => simp [intOf]; omega
    · have hin' : ¬ (i : Int) < (n : Int) := by omega
      go_wp2
      go_end0
      have e : i = D.length := by rw [HD.out]; omega
      have := HB.out
      rw [e, Bd.mix_all] at this
      exact ⟨rfl, this, HM.out⟩
/-- a list of one place that has just been laid -/
theorem vec_new (w : World) (p : Int × Int) : ∀ j u, (vcells [p])[j]? = some u → (w.alloc (.cells #[.int .i64 p.1, .int .i64 p.2] 23)).cell? ((⟨w.heap.size, 0, none⟩ : Addr).add j) = some u := by
  intro j u hj
  have hB := Blk.new w [.int .i64 p.1, .int .i64 p.2] 23
  match j, hj with
  | 0, hj => obtain rfl := Option.some.inj hj; exact hB.cell rfl
  | 1, hj => obtain rfl := Option.some.inj hj; exact hB.cell rfl
  | k + 2, hj => simp [vcells] at hj
theorem one_v (l : List (Int × Int)) : ∀ u ∈ vcells l, u.oneCell' = true := by
  intro u hu
  obtain ⟨p, _, hp⟩ := List.mem_flatMap.1 hu
  simp only [List.mem_cons, List.not_mem_nil, or_false] at hp
  rcases hp with rfl | rfl <;> rfl
theorem wp_append_v {o : Oper} {a : Act} {w : World} {K : Act → World → Prop} {Q : Exit → Act → World → Prop} (s x : Operand)
    (ho : o.op = .call { callee := .builtin .append, args := #[s, x], argTypes := #[75, 75] }) (base : Nat)
    (v : Value) (l : List (Int × Int)) (hs : a.eval s = v) (hown : OwnV w base v l) (p : Int × Int) (lb : Nat) (hx : a.eval x = .slice (some ⟨lb, 0, none⟩) 1 1) (hB : Blk w lb [.int .i64 p.1, .int .i64 p.2] 23)
    (hlen : l.length + 1 ≤ 1000000) (hbase : base ≤ w.heap.size)
    (h : ∀ v' w', OwnV w' base v' (l ++ [p]) → w.grownBy w' v.ownBlock → K (a.put o.dst v') w') : o.wp Tryd.prog a w K Q := by
  obtain ⟨i, hi, hz0, hz1, hz2⟩ := info_parts' info_vec
  refine wp_append_own w s x 75 ho base 23 i _ 2 16 under_vecs hi hz0 hz1 hz2 rfl (by decide) v l.length (vcells l) hs hown ⟨lb, 0, none⟩ 1 1 (vcells [p]) hx rfl ?_ (one_v _) (by unfold maxLen; omega) (by omega) hbase ?_
  · intro j u hj
    match j, hj with
    | 0, hj => obtain rfl := Option.some.inj hj; exact hB.cell rfl
    | 1, hj => obtain rfl := Option.some.inj hj; exact hB.cell rfl
    | k + 2, hj => simp [vcells] at hj
  · intro v' w' ho' hg _
    refine h v' w' ?_ hg
    unfold OwnV
    rw [List.length_append, vcells_app]
    exact ho'
theorem wpList_append_v {ops : Array Oper} {rest : List Oper} {o : Oper} {a : Act} {w : World} {Q : Exit → Act → World → Prop} (hgd : o.guard = none) (s x : Operand)
    (ho : o.op = .call { callee := .builtin .append, args := #[s, x], argTypes := #[75, 75] }) (base : Nat)
    (v : Value) (l : List (Int × Int)) (hs : a.eval s = v) (hown : OwnV w base v l) (p : Int × Int) (lb : Nat) (hx : a.eval x = .slice (some ⟨lb, 0, none⟩) 1 1) (hB : Blk w lb [.int .i64 p.1, .int .i64 p.2] 23)
    (hlen : l.length + 1 ≤ 1000000) (hbase : base ≤ w.heap.size)
    (h : ∀ v' w', OwnV w' base v' (l ++ [p]) → w.grownBy w' v.ownBlock → wpList Tryd.prog ops Q rest (a.put o.dst v') w') : wpList Tryd.prog ops Q (o :: rest) a w := by
  obtain ⟨i, hi, hz0, hz1, hz2⟩ := info_parts' info_vec
  refine wpList_append_own w hgd s x 75 ho base 23 i _ 2 16 under_vecs hi hz0 hz1 hz2 rfl (by decide) v l.length (vcells l) hs hown ⟨lb, 0, none⟩ 1 1 (vcells [p]) hx rfl ?_ (one_v _) (by unfold maxLen; omega) (by omega) hbase ?_
  · intro j u hj
    match j, hj with
    | 0, hj => obtain rfl := Option.some.inj hj; exact hB.cell rfl
    | 1, hj => obtain rfl := Option.some.inj hj; exact hB.cell rfl
    | k + 2, hj => simp [vcells] at hj
  · intro v' w' ho' hg _
    refine h v' w' ?_ hg
    unfold OwnV
    rw [List.length_append, vcells_app]
    exact ho'
end Go.Proofs.YtinjlkceplhibaaDoor
