/- joustref10.Jar: New, Epoch, baked, Bake: the walks. -/
import Derived.Test.YtlndgnlkfhlekaaDoorCkT
namespace Go.Proofs.YtlndgnlkfhlekaaDoor
open Go.RowKit

/-- the document's jar: a list of secrets -/
structure RefJ (w : World) (b base : Nat) (v : Value) (ss : List ByteArray) : Prop where
  blk : Blk w b [v] 59
  own : OwnS w base v ss
  s32 : ∀ s ∈ ss, s.size = 32
  pos : 1 ≤ ss.length
  few : ss.length ≤ 1048576
  nb : ∀ g, v.ownBlock = some g → g ≠ b
theorem RefJ.mod {w w' : World} {b base : Nat} {v : Value} {ss : List ByteArray} (h : RefJ w b base v ss) (hM : Mod none_ w w') : RefJ w' b base v ss :=
  ⟨hM.blk h.blk (fun h => h), h.own.modO hM (fun _ _ h => h), h.s32, h.pos, h.few, h.nb⟩
theorem RefJ.slice {w : World} {b base : Nat} {v : Value} {ss : List ByteArray} (h : RefJ w b base v ss) : ∃ g cap rest, v = .slice (some ⟨g, 0, none⟩) ss.length cap ∧ base ≤ g ∧ Blk w g (strs ss ++ rest) 9 ∧ ss.length ≤ cap := by
  rcases h.own.cases with ⟨_, e⟩ | h1
  · have := h.pos; rw [e] at this; simp at this
  · exact h1
/-- a jar that is read alone -/
structure RefV (w : World) (b : Nat) (v : Value) (ss : List ByteArray) : Prop where
  blk : Blk w b [v] 59
  sl : ∃ g cap rest, v = .slice (some ⟨g, 0, none⟩) ss.length cap ∧ Blk w g (strs ss ++ rest) 9 ∧ ss.length ≤ cap
  s32 : ∀ s ∈ ss, s.size = 32
  pos : 1 ≤ ss.length
  few : ss.length ≤ 1048576
theorem RefJ.toV {w : World} {b base : Nat} {v : Value} {ss : List ByteArray} (h : RefJ w b base v ss) : RefV w b v ss := by
  obtain ⟨g, cap, rest, e, _, hB, hc⟩ := h.slice
  exact ⟨h.blk, ⟨g, cap, rest, e, hB, hc⟩, h.s32, h.pos, h.few⟩
theorem RefV.mod {w w' : World} {b : Nat} {v : Value} {ss : List ByteArray} (h : RefV w b v ss) (hM : Mod none_ w w') : RefV w' b v ss := by
  obtain ⟨g, cap, rest, e, hB, hc⟩ := h.sl
  exact ⟨hM.blk h.blk (fun h => h), ⟨g, cap, rest, e, hM.blk hB (fun h => h), hc⟩, h.s32, h.pos, h.few⟩
theorem RefJ.cell {w : World} {g : Nat} {ss : List ByteArray} {rest : List Value} (hB : Blk w g (strs ss ++ rest) 9) {k : Nat} {s : ByteArray} (hk : ss[k]? = some s) : w.cell? ⟨g, k, none⟩ = some (.string s) :=
  hB.cell (by
    have hl := (List.getElem?_eq_some_iff.1 hk).1
    rw [List.getElem?_append_left (by simpa [strs] using hl), strs, List.getElem?_map, hk]; rfl)

set_option maxHeartbeats 1000000 in
set_option maxRecDepth 100000 in
theorem rjNew_any (w : World) (hT : RefTabs w) (seed : ByteArray) (hf : Fits seed) :
    Calls Tryd.prog 10 #[.string seed] w fun r w' => ∃ b v, r = .returned (.pointer (some ⟨b, 0, none⟩)) ∧ w.heap.size ≤ b ∧ RefJ w' b w.heap.size v [Ck.dv seed Ck.cookieB []] ∧ Mod none_ w w' := by
  go_enter Tryd.func10, Tryd.ntmps10
  go_wp2_with fail
  refine (rderive_s w hT seed Ck.cookieB none 0 0 [] (strs_nil _ _) hf fits_cookie (by simp) (by simp)).mono ?_
  rintro r w1 ⟨rfl, hM1⟩
  have hz := Ck.size_dv seed Ck.cookieB []
  obtain ⟨k, hk⟩ : ∃ k, Ck.dv seed Ck.cookieB [] = k := ⟨_, rfl⟩
  rw [hk] at hz ⊢
  have hs1 := hM1.size
  go_wp2_with fail
  go_ret
  rw [hk]
  refine ⟨w1.heap.size + 1, .slice (some ⟨w1.heap.size, 0, none⟩) 1 1, rfl, by omega, ⟨Blk.newA2 w1 _ #[.slice (some ⟨w1.heap.size, 0, none⟩) 1 1] _, (ownS_made w1 k w.heap.size hs1).modO ((Mod.refl none_ _).alloc _) (fun _ _ h => h), fun s hs => by
    obtain rfl : s = k := by simpa using hs
    exact hz, by simp, by simp, fun g e => by
    obtain rfl : w1.heap.size = g := Option.some.inj e
    omega⟩, (hM1.alloc _).alloc _⟩

theorem rjEpoch_any (w : World) (b : Nat) (v : Value) (ss : List ByteArray) (h : RefV w b v ss) :
    Calls Tryd.prog 13 #[.pointer (some ⟨b, 0, none⟩)] w fun r w' => r = .returned (.int .u64 (ss.length : Int)) ∧ w' = w := by
  obtain ⟨g, cap, rest, rfl, hB, hc⟩ := h.sl
  have q := h.blk.cell (j := 0) rfl
  have e : IntKind.u64.wrap (ss.length : Int) = (ss.length : Int) := by rw [IntKind.wrap_u64]; have := h.few; omega
  obtain ⟨n, hn⟩ : ∃ n, ss.length = n := ⟨_, rfl⟩
  rw [hn] at q e ⊢
  clear h hB hc
  go_enter Tryd.func13, Tryd.ntmps13
  go_wp2
  go_ret
  exact ⟨rfl, rfl⟩

set_option maxHeartbeats 2000000 in
set_option maxRecDepth 100000 in
theorem rjBaked_any (w : World) (hT : RefTabs w) (j : Nat) (v : Value) (ss : List ByteArray) (a b : ByteArray) (m : Nat) (s : ByteArray) (hm : ss[m]? = some s) (h : RefV w j v ss) (ha : Fits a) (hb : Fits b) :
    Calls Tryd.prog 27 #[.pointer (some ⟨j, 0, none⟩), .string a, .string b, .int .u64 ((m : Int) + 1)] w fun r w' => r = .returned (.string (Ck.ck s a b ((m : Int) + 1))) ∧ Mod none_ w w' := by
  obtain ⟨g, cap, rest, rfl, hB, hc⟩ := h.sl
  have hml := (List.getElem?_eq_some_iff.1 hm).1
  have hfew := h.few
  have q := h.blk.cell (j := 0) rfl
  have qm : w.cell? ⟨g, m, none⟩ = some (.string s) := RefJ.cell hB hm
  have hs32 := h.s32 s (List.mem_of_getElem? hm)
  obtain ⟨n, hn⟩ : ∃ n, ss.length = n := ⟨_, rfl⟩
  rw [hn] at q hml hc hfew
  clear h hB hm hn
  have q0 := q; have qm0 := qm
  have e4 : IntKind.u64.wrap ((m : Int) + 1 - 1) = (m : Int) := by rw [IntKind.wrap_u64]; omega
  have e5 : IntKind.u64.wrap (m : Int) = (m : Int) := by rw [IntKind.wrap_u64]; omega
  have l1 : (m : Int) < (n : Int) := by omega
  have l0 : (0 : Int) ≤ (m : Int) := by omega
  have hle : ∀ q : World, Calls Tryd.prog 31 #[.int .u64 ((m : Int) + 1)] q fun e w' => e = .returned (.string (strOf (Sha.be ((m : Int) + 1)))) ∧ Mod none_ q w' := fun q => by
    have h := ref_length q (m + 1) (by omega)
    rw [show ((m + 1 : Nat) : Int) = (m : Int) + 1 by omega] at h
    exact h
  have hbe : strOf (Sha.be ((m : Int) + 1)) = Ck.be ((m : Int) + 1) := by unfold Ck.be; rfl
  simp only [hbe] at hle
  obtain ⟨Z, hZ⟩ : ∃ Z, Ck.ck s a b ((m : Int) + 1) = Z := ⟨_, rfl⟩
  rw [hZ]
  have hd3 : ∀ q : World, Mod none_ w q → Calls Tryd.prog 22 #[.string s, .string Ck.cookieB, .slice (some ⟨q.heap.size, 0, none⟩) 3 3] (q.alloc (.cells #[.string a, .string b, .string (Ck.be ((m : Int) + 1))] 9)) fun r w' => r = .returned (.string Z) ∧ Mod none_ w w' := by
    intro q hM
    refine (rderive_s _ (hT.none (hM.alloc _)) s Ck.cookieB (some ⟨q.heap.size, 0, none⟩) 3 3 [a, b, Ck.be ((m : Int) + 1)] ((three_strs q a b (Ck.be ((m : Int) + 1)) 9).mono (by simp)) (fits32 hs32) fits_cookie (by
      intro p hp
      simp only [List.mem_cons, List.not_mem_nil, or_false] at hp
      rcases hp with rfl | rfl | rfl
      · exact ha
      · exact hb
      · exact fits_be _) (by simp)).mono ?_
    rintro r w' ⟨rfl, hN⟩
    exact ⟨by rw [← hZ]; unfold Ck.ck; rfl, (hM.alloc _).then hN⟩
  have HD3 := Lib.hid hd3; have HLE := Lib.hid hle
  have hm0 := Mod.refl none_ w
  clear hd3 hle hZ hbe
  go_enter Tryd.func27, Tryd.ntmps27
  go_upto_region 1 with fail
  go_region_held3 (fun w' => w'.cell? ⟨j, 0, none⟩ = some (.slice (some ⟨g, 0, none⟩) n cap) ∧ w'.cell? ⟨g, m, none⟩ = some (.string s) ∧ Mod none_ w w')
    (first | ((refine ⟨Mod.cellS (S := none_) (w := w) ?_ q0 (fun h => h), Mod.cellS (S := none_) (w := w) ?_ qm0 (fun h => h), ?_⟩ <;> (repeat (first | assumption | exact Mod.refl _ _ | refine Mod.drew ?_ | refine Mod.alloc ?_ _))); done))
    (first | (go_at_call 31; refine (HLE.out _).mono ?_; rintro r w2 ⟨rfl, hN2⟩; have hM2 : Mod none_ w w2 := Mod.then (by repeat (first | assumption | exact Mod.refl _ _ | refine Mod.drew ?_ | refine Mod.alloc ?_ _)) hN2) | (go_at_call 22; refine (HD3.out _ (by assumption)).mono ?_; rintro r w3 ⟨rfl, hM3⟩))
  go_wp2
  go_ret
  exact ⟨rfl, hM3⟩

theorem rjBake_any (w : World) (hT : RefTabs w) (j : Nat) (v : Value) (ss : List ByteArray) (a b : ByteArray) (m : Nat) (s : ByteArray) (hm : ss[m]? = some s) (hl : ss.length = m + 1) (h : RefV w j v ss) (ha : Fits a) (hb : Fits b) :
    Calls Tryd.prog 15 #[.pointer (some ⟨j, 0, none⟩), .string a, .string b] w fun r w' => r = .returned (.string (Ck.ck s a b ((m : Int) + 1))) ∧ Mod none_ w w' := by
  have he := rjEpoch_any w j v ss h
  have ei : (ss.length : Int) = (m : Int) + 1 := by omega
  rw [ei] at he
  have hbk := rjBaked_any w hT j v ss a b m s hm h ha hb
  have HE := Lib.hid he; have HBK := Lib.hid hbk
  clear he hbk ei hl hm h
  go_enter Tryd.func15, Tryd.ntmps15
  go_wp2_with fail
  refine HE.out.mono ?_
  rintro r w' ⟨rfl, rfl⟩
  go_wp2_with fail
  refine HBK.out.mono ?_
  rintro r w2 ⟨rfl, hM⟩
  go_wp2_with fail
  go_ret
  exact ⟨rfl, hM⟩
end Go.Proofs.YtlndgnlkfhlekaaDoor
namespace Go.Proofs.YtlndgnlkfhlekaaDoor
open Go.RowKit

set_option maxHeartbeats 2000000 in
set_option maxRecDepth 100000 in
theorem rjCheck_any (w : World) (hT : RefTabs w) (j : Nat) (v : Value) (ss : List ByteArray) (a b c : ByteArray) (ep : Int) (hep : 0 ≤ ep ∧ ep < 18446744073709551616) (m : Nat) (now was : ByteArray) (hm : ss[m]? = some now) (hw : ∀ k, m = k + 1 → ss[k]? = some was) (hl : ss.length = m + 1) (h : RefV w j v ss) (ha : Fits a) (hb : Fits b) :
    Calls Tryd.prog 25 #[.pointer (some ⟨j, 0, none⟩), .string a, .string b, .int .u64 ep, .string c] w fun r w' => r = .returned (.int .i64 (Ck.tell ((m : Int) + 1) now was a b ep c)) ∧ Mod none_ w w' := by
  have he := rjEpoch_any w j v ss h
  have ei : (ss.length : Int) = (m : Int) + 1 := by omega
  rw [ei] at he
  have hfew := h.few
  have HE := Lib.hid he; have H := Lib.hid h
  obtain ⟨T, hTT⟩ : ∃ T, Ck.tell ((m : Int) + 1) now was a b ep c = T := ⟨_, rfl⟩
  rw [hTT]
  have HTT := Lib.hid hTT
  clear he ei h hTT
  -- what is baked where it is asked
  have hin : ∀ (k : Nat) (s : ByteArray), ep = (k : Int) + 1 → ss[k]? = some s → Calls Tryd.prog 27 #[.pointer (some ⟨j, 0, none⟩), .string a, .string b, .int .u64 ep] w fun r w' => r = .returned (.string (Ck.ck s a b ep)) ∧ Mod none_ w w' := fun k s e hk => by
    subst e
    exact rjBaked_any w hT j v ss a b k s hk H.out ha hb
  have HIN := Lib.hid hin
  clear hin
  go_enter Tryd.func25, Tryd.ntmps25
  go_wp2_with fail
  refine HE.out.mono ?_
  rintro r w' ⟨rfl, rfl⟩
  by_cases c0 : ep = 0
  · have hT0 : T = 100 := by rw [← HTT.out, Ck.tell_out _ _ _ _ _ _ _ (Or.inl c0)]
    clear HTT HIN
    subst c0
    subst hT0
    go_wp2_with fail
    go_ret
    exact ⟨rfl, Mod.refl _ _⟩
  · by_cases c1 : (m : Int) + 1 < ep
    · have hT0 : T = 100 := by rw [← HTT.out, Ck.tell_out _ _ _ _ _ _ _ (Or.inr ⟨by omega, by omega⟩)]
      clear HTT HIN
      subst hT0
      go_wp2_with fail
      go_ret
      exact ⟨rfl, Mod.refl _ _⟩
    · have e1 : IntKind.u64.wrap ((m : Int) + 1 - ep) = (m : Int) + 1 - ep := by rw [IntKind.wrap_u64]; omega
      by_cases c2 : 1 < (m : Int) + 1 - ep
      · have hT0 : T = 100 := by rw [← HTT.out, Ck.tell_out _ _ _ _ _ _ _ (Or.inr ⟨by omega, by omega⟩)]
        clear HTT HIN
        subst hT0
        go_wp2_with fail
        go_ret
        exact ⟨rfl, Mod.refl _ _⟩
      · obtain ⟨k, s, hk, hs, hts⟩ : ∃ (k : Nat) (s : ByteArray), ep = (k : Int) + 1 ∧ ss[k]? = some s ∧ T = if c = Ck.ck s a b ep then 0 else 101 := by
          by_cases c3 : ep = (m : Int) + 1
          · exact ⟨m, now, c3, hm, by rw [← HTT.out, Ck.tell, if_neg c0, if_pos c3]⟩
          · obtain ⟨k, rfl⟩ : ∃ k, m = k + 1 := ⟨m - 1, by omega⟩
            exact ⟨k, was, by omega, hw k rfl, by rw [← HTT.out, Ck.tell, if_neg c0, if_neg c3, if_pos (by omega)]⟩
        have HB := Lib.hid (HIN.out k s hk hs)
        have HTS := Lib.hid hts
        obtain ⟨Z, hZ⟩ : ∃ Z, Ck.ck s a b ep = Z := ⟨_, rfl⟩
        rw [hZ] at HB HTS
        clear HTT HIN hts hk hs hZ hm hw
        have g0 : (ep == 0) = false := by simpa using c0
        have g1 : decide ((m : Int) + 1 < ep) = false := by simpa using c1
        have g2 : decide (1 < (m : Int) + 1 - ep) = false := by simpa using c2
        clear c0 c1 c2
        go_wp2_with fail
        refine HB.out.mono ?_
        rintro r w2 ⟨rfl, hM⟩
        have hcz : (c.toList == Z.toList) = decide (c = Z) := toList_eq_num c Z
        by_cases hc : c = Z
        · rw [decide_eq_true hc] at hcz
          have hT0 : T = 0 := by rw [HTS.out, if_pos hc]
          clear HTS hc
          subst hT0
          go_wp2_with fail
          go_ret
          exact ⟨rfl, hM⟩
        · rw [decide_eq_false hc] at hcz
          have hT0 : T = 101 := by rw [HTS.out, if_neg hc]
          clear HTS hc
          subst hT0
          go_wp2_with fail
          go_ret
          exact ⟨rfl, hM⟩
end Go.Proofs.YtlndgnlkfhlekaaDoor
namespace Go.Proofs.YtlndgnlkfhlekaaDoor
open Go.RowKit

theorem place_append (w : World) {base g n cap : Nat} {ss : List ByteArray} (hown : OwnS w base (.slice (some ⟨g, 0, none⟩) n cap) ss) (a : Addr) (u : ByteArray) (hu : w.cell? a = some (.string u)) (hlen : (ss.length + 1) * 16 ≤ 140737488355328) {v' : Value} {w' : World}
    (hr : (Builtin.append_ #[44, 44] 44 #[.slice (some ⟨g, 0, none⟩) n cap, .slice (some a) 1 1]).run Tryd.prog w = .ok v' w') :
    v'.ownBlock = some g ∨ ∃ g', v'.ownBlock = some g' ∧ w.heap.size ≤ g' := by
  obtain ⟨i, hi, hz0, hz1, hz2⟩ := info_parts info_str
  obtain ⟨h1, h2 | ⟨g', cap', cur, h3, h4, h5, h6, h7, h8, h9⟩⟩ := hown
  · cases h2.1
  · obtain ⟨rfl, rfl, rfl⟩ : g = g' ∧ n = ss.length ∧ cap = cap' := by
      injection h3 with e1 e2 e3
      injection e1 with e1
      injection e1 with e1
      exact ⟨e1, e2, e3⟩
    have hnews : ∀ j y, [Value.string u][j]? = some y → w.cell? (a.add j) = some y := by
      intro j y hj
      match j, hj with
      | 0, hj =>
        obtain rfl := Option.some.inj hj
        rw [show a.add 0 = a by cases a with | mk b o m => cases m <;> simp [Addr.add]]
        exact hu
      | k + 1, hj => simp at hj
    by_cases hroom : ss.length + 1 ≤ cap
    · have hq := run_append_room (P := Tryd.prog) w 44 44 9 i under_s44 hi g ss.length cap cur h5 a 1 1 [.string u] (by rw [hz1]; rfl) hnews (one_strs [u]) hroom (by rw [hz1, h8]; simp; omega)
      rw [hr] at hq
      injection hq with e1 e2
      left; rw [e1]; rfl
    · have hq := run_append_grow (P := Tryd.prog) w 44 44 9 i _ under_s44 hi hz0 ⟨g, 0, none⟩ ss.length cap (strs ss) (by rw [hz1, strs, List.length_map, Nat.mul_one]) (World.ownsRow.cells (w := w) (base := base) (e := 9) (size := 1) (v := .slice (some ⟨g, 0, none⟩) ss.length cap) (n := ss.length) ⟨h1, Or.inr ⟨g, cap, cur, rfl, h4, h5, h6, h7, h8, h9⟩⟩ rfl) a 1 1 [.string u] (by rw [hz1]; rfl) hnews (by omega) (by omega) (by rw [hz2]; exact growslice_fits (by omega) hlen)
      rw [hr] at hq
      injection hq with e1 e2
      right; rw [e1]; exact ⟨_, rfl, Nat.le_refl _⟩
theorem wp_append_str2 {o : Oper} {a : Act} {w : World} {K : Act → World → Prop} {Q : Exit → Act → World → Prop} (s x : Operand)
    (ho : o.op = .call { callee := .builtin .append, args := #[s, x], argTypes := #[44, 44] }) (hty : o.type = 44) (base g n cap : Nat)
    (ss : List ByteArray) (hs : a.eval s = .slice (some ⟨g, 0, none⟩) n cap) (hown : OwnS w base (.slice (some ⟨g, 0, none⟩) n cap) ss) (lb : Nat) (u : ByteArray) (hx : a.eval x = .slice (some ⟨lb, 0, none⟩) 1 1) (hu : w.cell? ⟨lb, 0, none⟩ = some (.string u))
    (hlen : (ss.length + 1) * 16 ≤ 140737488355328) (hbase : base ≤ w.heap.size)
    (h : ∀ v' w', OwnS w' base v' (ss ++ [u]) → w.grownBy w' (some g) → (v'.ownBlock = some g ∨ ∃ g', v'.ownBlock = some g' ∧ w.heap.size ≤ g') → K (a.put o.dst v') w') : o.wp Tryd.prog a w K Q := by
  obtain ⟨i, hi, hz0, hz1, hz2⟩ := info_parts info_str
  obtain ⟨v', w', hr, h2, h3, h4⟩ := run_append_own (P := Tryd.prog) w base 44 o.type 9 i (.string ⟨#[]⟩) 1 16 under_s44 hi hz0 hz1 hz2 rfl (by decide) (.slice (some ⟨g, 0, none⟩) n cap) ss.length (strs ss) hown ⟨lb, 0, none⟩ 1 1 [.string u] rfl (by
    intro j y hj
    match j, hj with
    | 0, hj => obtain rfl := Option.some.inj hj; exact hu
    | k + 1, hj => simp at hj) (one_strs [u]) (by unfold maxLen; omega) hlen hbase
  have hr' := hr
  rw [hty] at hr'
  have hp := place_append w hown ⟨lb, 0, none⟩ u hu hlen hr'
  unfold Oper.wp execOp
  simp only [ho, resolve, invoke, builtin, Sem.run_bind, Sem.run_pure, Result.andThen_ok, List.map_toArray, List.map_cons, List.map_nil, hs, hx, hr]
  refine h v' w' ?_ h3 hp
  unfold OwnS
  rw [List.length_append]
  simpa [strs] using h2

/-- a list of texts and a jar of one slice never lie in one block -/
theorem nb_of {w : World} {b base : Nat} {v : Value} {ss : List ByteArray} (hB : Blk w b [v] 59) (ho : OwnS w base v ss) (hp : 1 ≤ ss.length) : ∀ g, v.ownBlock = some g → g ≠ b := by
  intro g hg e
  subst e
  rcases ho.cases with ⟨e, _⟩ | ⟨g', cap, rest, e, _, hB', _⟩
  · rw [e] at hg; cases hg
  · rw [e] at hg
    obtain rfl : g' = g := Option.some.inj hg
    match ss, hp with
    | s :: ss', _ =>
      have h1 : w.cell? ⟨g', 0, none⟩ = some (.string s) := hB'.cell (j := 0) rfl
      rw [hB.cell (j := 0) rfl, e] at h1
      cases Option.some.inj h1

set_option maxHeartbeats 2000000 in
set_option maxRecDepth 100000 in
theorem rjTurn_any (w : World) (hT : RefTabs w) (j base : Nat) (v : Value) (ss : List ByteArray) (c : ByteArray) (m : Nat) (now : ByteArray) (hm : ss[m]? = some now) (hl : ss.length = m + 1) (hfew : ss.length < 1048576) (h : RefJ w j base v ss) (hbase : base ≤ w.heap.size) (hc : Fits c) :
    Calls Tryd.prog 23 #[.pointer (some ⟨j, 0, none⟩), .string c] w fun r w' => r = .returned (.tuple #[]) ∧ ∃ v', RefJ w' j base v' (ss ++ [Ck.tn now c]) ∧ Mod (fun b => b = j ∨ v.ownBlock = some b) w w' ∧ (v'.ownBlock = v.ownBlock ∨ ∃ g', v'.ownBlock = some g' ∧ w.heap.size ≤ g') := by
  obtain ⟨g, cap, rest, rfl, hg, hB, hcap⟩ := h.slice
  have q0 := h.blk.cell (j := 0) rfl
  have qm : w.cell? ⟨g, m, none⟩ = some (.string now) := RefJ.cell hB hm
  have hn32 := h.s32 now (List.mem_of_getElem? hm)
  have hnb : ¬ j = g := fun e => h.nb g rfl e.symm
  obtain ⟨C, hC⟩ : ∃ C, Ck.tn now c = C := ⟨_, rfl⟩
  have hC2 := Ck.size_tn now c
  rw [hC] at hC2 ⊢
  have hd := fun (q : World) (hq : Mod none_ w q) => rderive_s (q.drew.alloc (.cells #[.string c] 9)) (hT.none (hq.drew.alloc _)) now Ck.turnB (some ⟨q.drew.heap.size, 0, none⟩) 1 1 [c] ((one_str q.drew c 9).mono (by simp)) (fits32 hn32) fits_turn (by
    intro p hp
    obtain rfl : p = c := by simpa using hp
    exact hc) (by simp)
  rw [show Ck.dv now Ck.turnB [c] = C from hC] at hd
  have HD := Lib.hid hd; have H := Lib.hid h
  obtain ⟨n, hn⟩ : ∃ n, ss.length = n := ⟨_, rfl⟩
  have em : IntKind.i64.wrap ((n : Int) - 1) = (m : Int) := by rw [IntKind.wrap_i64]; omega
  have l1 : (m : Int) < (n : Int) := by omega
  have l0 : (0 : Int) ≤ (m : Int) := by omega
  rw [hn] at q0
  clear hd h hB hm
  go_enter Tryd.func23, Tryd.ntmps23
  go_upto_region 0 with fail
  go_quiet (fail)
  obtain ⟨wq, hwq, hMq⟩ : ∃ wq, w.drewN nq = wq ∧ Mod none_ w wq := ⟨_, rfl, (Mod.refl _ _).drewN _⟩
  rw [hwq]
  clear hwq
  have q1 : wq.cell? ⟨j, 0, none⟩ = some (.slice (some ⟨g, 0, none⟩) n cap) := hMq.cellS q0 (fun h => h)
  clear qm
  go_upto_region 1 with fail
  refine wp_region_noPanic ?_
  refine wp_region_held_drew (S := fun _ => True) (by kernel_rfl) trivial (fun hHeld => ?_)
  clear hHeld
  refine wpAnyH_take (i := 0) (v := ?_) (by simp only [List.getElem?_toArray, List.getElem?_cons_zero]; rfl) (by kernel_rfl) (by kernel_rfl) (by kernel_rfl) (fun _ _ _ h => h) (Or.inl ⟨by rfl, ?_⟩) trivial ?_
  rotate_left
  · (intro wq hSw; go_simp; all_goals with_reducible rfl)
  try simp only [Act.put, List.setIfInBounds_toArray, List.set_cons_zero, List.set_cons_succ]
  refine wpAnyH_take (i := 1) (v := ?_) (by simp only [List.getElem?_toArray, List.getElem?_cons_zero, List.getElem?_cons_succ]; rfl) (by kernel_rfl) (by kernel_rfl) (by kernel_rfl) (fun _ _ _ h => h) (Or.inl ⟨by rfl, ?_⟩) trivial ?_
  rotate_left
  · (intro wq hSw; go_simp; all_goals with_reducible rfl)
  try simp only [Act.put, List.setIfInBounds_toArray, List.set_cons_zero, List.set_cons_succ]
  refine wpAnyH_take (i := 2) (v := ?_) (by simp only [List.getElem?_toArray, List.getElem?_cons_zero, List.getElem?_cons_succ]; rfl) (by kernel_rfl) (by kernel_rfl) (by kernel_rfl) (fun _ _ _ h => h) (Or.inl ⟨by rfl, ?_⟩) trivial ?_
  rotate_left
  · (intro wq hSw; go_simp; all_goals with_reducible rfl)
  try simp only [Act.put, List.setIfInBounds_toArray, List.set_cons_zero, List.set_cons_succ]
  refine wpAnyH_take (i := 3) (v := ?_) (by simp only [List.getElem?_toArray, List.getElem?_cons_zero, List.getElem?_cons_succ]; rfl) (by kernel_rfl) (by kernel_rfl) (by kernel_rfl) (fun _ _ _ h => h) (Or.inl ⟨by rfl, ?_⟩) trivial ?_
  rotate_left
  · (intro wq hSw; go_simp; all_goals with_reducible rfl)
  try simp only [Act.put, List.setIfInBounds_toArray, List.set_cons_zero, List.set_cons_succ]
  refine wpAnyH_take (i := 5) (v := ?_) (by simp only [List.getElem?_toArray, List.getElem?_cons_zero, List.getElem?_cons_succ]; rfl) (by kernel_rfl) (by kernel_rfl) (by kernel_rfl) (fun _ _ _ h => h) (Or.inl ⟨by rfl, ?_⟩) trivial ?_
  rotate_left
  · (intro wq hSw; go_simp; all_goals with_reducible rfl)
  try simp only [Act.put, List.setIfInBounds_toArray, List.set_cons_zero, List.set_cons_succ]
  refine wpAnyH_take (i := 6) (v := ?_) (by simp only [List.getElem?_toArray, List.getElem?_cons_zero, List.getElem?_cons_succ]; rfl) (by kernel_rfl) (by kernel_rfl) (by kernel_rfl) (fun _ _ _ h => h) (Or.inl ⟨by rfl, ?_⟩) trivial ?_
  rotate_left
  · (intro wq hSw; go_simp; all_goals with_reducible rfl)
  try simp only [Act.put, List.setIfInBounds_toArray, List.set_cons_zero, List.set_cons_succ]
  refine wpAnyH_ready (rs := [4, 7]) (by kernel_rfl) (by simp) ?_
  refine (AllReadyH.cons (by simp only [List.getElem?_toArray, List.getElem?_cons_zero, List.getElem?_cons_succ]; rfl) (fun A0 hA0 => ?_) (AllReadyH.cons (by simp only [List.getElem?_toArray, List.getElem?_cons_zero, List.getElem?_cons_succ]; rfl) (fun A0 hA0 => ?_) AllReadyH.nil))
  · go_simp
    refine hA0.out _ _ trivial (fun _ => ?_)
    clear hA0 A0
    try simp only [Act.put, List.setIfInBounds_toArray, List.set_cons_zero, List.set_cons_succ]
    refine wpAnyH_ready (rs := [7]) (by kernel_rfl) (by simp) ?_
    refine (AllReadyH.cons (by simp only [List.getElem?_toArray, List.getElem?_cons_zero, List.getElem?_cons_succ]; rfl) (fun A1 hA1 => ?_) AllReadyH.nil)
    go_simp
    refine hA1.out _ _ trivial (fun _ => ?_)
    clear hA1 A1
    try simp only [Act.put, List.setIfInBounds_toArray, List.set_cons_zero, List.set_cons_succ]
    have q2 : (wq.alloc (.cells #[.string c] 9)).cell? ⟨j, 0, none⟩ = some (.slice (some ⟨g, 0, none⟩) n cap) := ((Mod.refl none_ wq).alloc _).cellS q1 (fun h => h)
    refine wpAnyH_ready (rs := [8]) (by kernel_rfl) (by simp) ?_
    refine (AllReadyH.cons (by simp only [List.getElem?_toArray, List.getElem?_cons_zero, List.getElem?_cons_succ]; rfl) (fun A2 hA2 => ?_) AllReadyH.nil)
    go_simp
    go_at_call 22
    refine (HD.out wq hMq).mono ?_
    rintro r w1 ⟨rfl, hN1⟩
    have q2 : w1.cell? ⟨j, 0, none⟩ = some (.slice (some ⟨g, 0, none⟩) n cap) := (((hMq.drew).alloc _).then hN1).cellS q0 (fun h => h)
    go_wp2_with fail
    refine hA2.out _ _ trivial (fun _ => ?_)
    clear hA2 A2
    try simp only [Act.put, List.setIfInBounds_toArray, List.set_cons_zero, List.set_cons_succ]
    refine wpAnyH_ready (rs := [9]) (by kernel_rfl) (by simp) ?_
    refine (AllReadyH.cons (by simp only [List.getElem?_toArray, List.getElem?_cons_zero, List.getElem?_cons_succ]; rfl) (fun A3 hA3 => ?_) AllReadyH.nil)
    go_simp
    refine hA3.out _ _ trivial (fun _ => ?_)
    clear hA3 A3
    try simp only [Act.put, List.setIfInBounds_toArray, List.set_cons_zero, List.set_cons_succ]
    have q2 : (w1.alloc (.cells #[.string C] 9)).cell? ⟨j, 0, none⟩ = some (.slice (some ⟨g, 0, none⟩) n cap) := ((((hMq.drew).alloc _).then hN1).alloc _).cellS q0 (fun h => h)
    have hM1 : Mod none_ w (w1.alloc (.cells #[.string C] 9)) := (((hMq.drew).alloc _).then hN1).alloc _
    have hV1 := H.out.own.modO hM1 (fun _ _ h => h)
    rw [hn] at hV1
    have hB1 := hM1.blk H.out.blk (fun h => h)
    refine wpAnyH_ready (rs := [10]) (by kernel_rfl) (by simp) ?_
    refine AllReadyH.cons (by simp only [List.getElem?_toArray, List.getElem?_cons_zero, List.getElem?_cons_succ]; rfl) (fun K4 hK4 => ?_) AllReadyH.nil
    rw [if_pos (by rfl)]
    refine wp_append_str2 (.tmp 21) (.tmp 26) rfl rfl base g n cap ss rfl hV1 w1.heap.size C rfl (by rw [World.cell?_alloc_new]; rfl) (by omega) (Nat.le_trans hbase hM1.size) ?_
    intro v2 w2 hv2 hg2 hp2
    have hM2 : Mod (fun b => b = g) (w1.alloc (.cells #[.string C] 9)) w2 := Mod.grownBy (S := fun bb => bb = g) hg2 (fun bb _ e => (Option.some.inj e).symm)
    have hB2 := hM2.blk hB1 hnb
    rcases hv2.cases with ⟨_, e⟩ | ⟨g2, cap2, rest2, rfl, hg2', hW2, hc2⟩
    · simp at e
    have q3 := hB2.cell (j := 0) rfl
    have f3 := hB2.frozen 0
    obtain ⟨n2, hn2⟩ : ∃ n2, (ss ++ [C]).length = n2 := ⟨_, rfl⟩
    have HN2 := Lib.hid hn2
    rw [hn2] at hv2 ⊢
    clear hn2
    refine hK4.out _ _ trivial (fun _ => ?_)
    clear hK4 K4
    try simp only [Act.put, List.setIfInBounds_toArray, List.set_cons_zero, List.set_cons_succ]
    refine wpAnyH_take (i := 11) (v := ?_) (by simp only [List.getElem?_toArray, List.getElem?_cons_zero, List.getElem?_cons_succ]; rfl) (by kernel_rfl) (by kernel_rfl) (by kernel_rfl) (fun _ _ _ h => h) (Or.inl ⟨by rfl, ?_⟩) trivial ?_
    rotate_left
    · (intro wq hSw; go_simp; all_goals with_reducible rfl)
    try simp only [Act.put, List.setIfInBounds_toArray, List.set_cons_zero, List.set_cons_succ]
    refine wpAnyH_take (i := 12) (v := ?_) (by simp only [List.getElem?_toArray, List.getElem?_cons_zero, List.getElem?_cons_succ]; rfl) (by kernel_rfl) (by kernel_rfl) (by kernel_rfl) (fun _ _ _ h => h) (Or.inl ⟨by rfl, ?_⟩) trivial ?_
    rotate_left
    · (intro wq hSw; go_simp; all_goals with_reducible rfl)
    try simp only [Act.put, List.setIfInBounds_toArray, List.set_cons_zero, List.set_cons_succ]
    refine wpAnyH_ready (rs := [13]) (by kernel_rfl) (by simp) ?_
    refine AllReadyH.cons (by simp only [List.getElem?_toArray, List.getElem?_cons_zero, List.getElem?_cons_succ]; rfl) (fun K5 hK5 => ?_) AllReadyH.nil
    go_simp
    refine hK5.out _ _ trivial (fun _ => ?_)
    clear hK5 K5
    try simp only [Act.put]
    refine wpAnyH_done (by kernel_rfl) ?_ _
    refine NoPanic.normal ?_
    have hg2j : ¬ g2 = j := by
      rcases hp2 with e | ⟨g', e, h1⟩
      · have : g2 = g := Option.some.inj e
        omega
      · have : g2 = g' := Option.some.inj e
        have := hB1.lt
        omega
    have hMj : Mod (only j) w2 (w2.setCell ⟨j, 0, none⟩ (.slice (some ⟨g2, 0, none⟩) n2 cap2)) := (Mod.refl _ _).setCell (fun _ => only_self j) _
    have hM3 : Mod (fun b => b = j ∨ some g = some b) w (w2.setCell ⟨j, 0, none⟩ (.slice (some ⟨g2, 0, none⟩) n2 cap2)) := ((hM1.mono (T := none_) (S := fun b => b = j ∨ some g = some b) (fun _ _ h => h.elim)).trans hM2 (fun b _ e => Or.inr (by rw [show b = g from e]))).trans hMj (fun b _ e => Or.inl e)
    go_end0
    refine ⟨rfl, .slice (some ⟨g2, 0, none⟩) n2 cap2, ⟨(hB2.set 0 _).cs rfl, hv2.modO hMj (fun g' e h => hg2j ((Option.some.inj e).trans h)), ?_, by simp, by rw [HN2.out]; have : (ss ++ [C]).length = n2 := HN2.out; simp at this; omega, fun g' e h => hg2j ((Option.some.inj e).trans h)⟩, hM3, hp2.imp id (fun ⟨g', e1, e2⟩ => ⟨g', e1, Nat.le_trans hM1.size e2⟩)⟩
    intro s hs
    rcases List.mem_append.1 hs with h1 | h1
    · exact H.out.s32 s h1
    · obtain rfl : s = C := by simpa using h1
      exact hC2
  · go_simp
    refine hA0.out _ _ trivial (fun _ => ?_)
    clear hA0 A0
    try simp only [Act.put, List.setIfInBounds_toArray, List.set_cons_zero, List.set_cons_succ]
    have q2 : (wq.alloc (.cells #[.string c] 9)).cell? ⟨j, 0, none⟩ = some (.slice (some ⟨g, 0, none⟩) n cap) := ((Mod.refl none_ wq).alloc _).cellS q1 (fun h => h)
    refine wpAnyH_ready (rs := [4, 8]) (by kernel_rfl) (by simp) ?_
    refine (AllReadyH.cons (by simp only [List.getElem?_toArray, List.getElem?_cons_zero, List.getElem?_cons_succ]; rfl) (fun A1 hA1 => ?_) (AllReadyH.cons (by simp only [List.getElem?_toArray, List.getElem?_cons_zero, List.getElem?_cons_succ]; rfl) (fun A1 hA1 => ?_) AllReadyH.nil))
    · go_simp
      refine hA1.out _ _ trivial (fun _ => ?_)
      clear hA1 A1
      try simp only [Act.put, List.setIfInBounds_toArray, List.set_cons_zero, List.set_cons_succ]
      refine wpAnyH_ready (rs := [8]) (by kernel_rfl) (by simp) ?_
      refine (AllReadyH.cons (by simp only [List.getElem?_toArray, List.getElem?_cons_zero, List.getElem?_cons_succ]; rfl) (fun A2 hA2 => ?_) AllReadyH.nil)
      go_simp
      go_at_call 22
      refine (HD.out wq hMq).mono ?_
      rintro r w1 ⟨rfl, hN1⟩
      have q2 : w1.cell? ⟨j, 0, none⟩ = some (.slice (some ⟨g, 0, none⟩) n cap) := (((hMq.drew).alloc _).then hN1).cellS q0 (fun h => h)
      go_wp2_with fail
      refine hA2.out _ _ trivial (fun _ => ?_)
      clear hA2 A2
      try simp only [Act.put, List.setIfInBounds_toArray, List.set_cons_zero, List.set_cons_succ]
      refine wpAnyH_ready (rs := [9]) (by kernel_rfl) (by simp) ?_
      refine (AllReadyH.cons (by simp only [List.getElem?_toArray, List.getElem?_cons_zero, List.getElem?_cons_succ]; rfl) (fun A3 hA3 => ?_) AllReadyH.nil)
      go_simp
      refine hA3.out _ _ trivial (fun _ => ?_)
      clear hA3 A3
      try simp only [Act.put, List.setIfInBounds_toArray, List.set_cons_zero, List.set_cons_succ]
      have q2 : (w1.alloc (.cells #[.string C] 9)).cell? ⟨j, 0, none⟩ = some (.slice (some ⟨g, 0, none⟩) n cap) := ((((hMq.drew).alloc _).then hN1).alloc _).cellS q0 (fun h => h)
      have hM1 : Mod none_ w (w1.alloc (.cells #[.string C] 9)) := (((hMq.drew).alloc _).then hN1).alloc _
      have hV1 := H.out.own.modO hM1 (fun _ _ h => h)
      rw [hn] at hV1
      have hB1 := hM1.blk H.out.blk (fun h => h)
      refine wpAnyH_ready (rs := [10]) (by kernel_rfl) (by simp) ?_
      refine AllReadyH.cons (by simp only [List.getElem?_toArray, List.getElem?_cons_zero, List.getElem?_cons_succ]; rfl) (fun K4 hK4 => ?_) AllReadyH.nil
      rw [if_pos (by rfl)]
      refine wp_append_str2 (.tmp 21) (.tmp 26) rfl rfl base g n cap ss rfl hV1 w1.heap.size C rfl (by rw [World.cell?_alloc_new]; rfl) (by omega) (Nat.le_trans hbase hM1.size) ?_
      intro v2 w2 hv2 hg2 hp2
      have hM2 : Mod (fun b => b = g) (w1.alloc (.cells #[.string C] 9)) w2 := Mod.grownBy (S := fun bb => bb = g) hg2 (fun bb _ e => (Option.some.inj e).symm)
      have hB2 := hM2.blk hB1 hnb
      rcases hv2.cases with ⟨_, e⟩ | ⟨g2, cap2, rest2, rfl, hg2', hW2, hc2⟩
      · simp at e
      have q3 := hB2.cell (j := 0) rfl
      have f3 := hB2.frozen 0
      obtain ⟨n2, hn2⟩ : ∃ n2, (ss ++ [C]).length = n2 := ⟨_, rfl⟩
      have HN2 := Lib.hid hn2
      rw [hn2] at hv2 ⊢
      clear hn2
      refine hK4.out _ _ trivial (fun _ => ?_)
      clear hK4 K4
      try simp only [Act.put, List.setIfInBounds_toArray, List.set_cons_zero, List.set_cons_succ]
      refine wpAnyH_take (i := 11) (v := ?_) (by simp only [List.getElem?_toArray, List.getElem?_cons_zero, List.getElem?_cons_succ]; rfl) (by kernel_rfl) (by kernel_rfl) (by kernel_rfl) (fun _ _ _ h => h) (Or.inl ⟨by rfl, ?_⟩) trivial ?_
      rotate_left
      · (intro wq hSw; go_simp; all_goals with_reducible rfl)
      try simp only [Act.put, List.setIfInBounds_toArray, List.set_cons_zero, List.set_cons_succ]
      refine wpAnyH_take (i := 12) (v := ?_) (by simp only [List.getElem?_toArray, List.getElem?_cons_zero, List.getElem?_cons_succ]; rfl) (by kernel_rfl) (by kernel_rfl) (by kernel_rfl) (fun _ _ _ h => h) (Or.inl ⟨by rfl, ?_⟩) trivial ?_
      rotate_left
      · (intro wq hSw; go_simp; all_goals with_reducible rfl)
      try simp only [Act.put, List.setIfInBounds_toArray, List.set_cons_zero, List.set_cons_succ]
      refine wpAnyH_ready (rs := [13]) (by kernel_rfl) (by simp) ?_
      refine AllReadyH.cons (by simp only [List.getElem?_toArray, List.getElem?_cons_zero, List.getElem?_cons_succ]; rfl) (fun K5 hK5 => ?_) AllReadyH.nil
      go_simp
      refine hK5.out _ _ trivial (fun _ => ?_)
      clear hK5 K5
      try simp only [Act.put]
      refine wpAnyH_done (by kernel_rfl) ?_ _
      refine NoPanic.normal ?_
      have hg2j : ¬ g2 = j := by
        rcases hp2 with e | ⟨g', e, h1⟩
        · have : g2 = g := Option.some.inj e
          omega
        · have : g2 = g' := Option.some.inj e
          have := hB1.lt
          omega
      have hMj : Mod (only j) w2 (w2.setCell ⟨j, 0, none⟩ (.slice (some ⟨g2, 0, none⟩) n2 cap2)) := (Mod.refl _ _).setCell (fun _ => only_self j) _
      have hM3 : Mod (fun b => b = j ∨ some g = some b) w (w2.setCell ⟨j, 0, none⟩ (.slice (some ⟨g2, 0, none⟩) n2 cap2)) := ((hM1.mono (T := none_) (S := fun b => b = j ∨ some g = some b) (fun _ _ h => h.elim)).trans hM2 (fun b _ e => Or.inr (by rw [show b = g from e]))).trans hMj (fun b _ e => Or.inl e)
      go_end0
      refine ⟨rfl, .slice (some ⟨g2, 0, none⟩) n2 cap2, ⟨(hB2.set 0 _).cs rfl, hv2.modO hMj (fun g' e h => hg2j ((Option.some.inj e).trans h)), ?_, by simp, by rw [HN2.out]; have : (ss ++ [C]).length = n2 := HN2.out; simp at this; omega, fun g' e h => hg2j ((Option.some.inj e).trans h)⟩, hM3, hp2.imp id (fun ⟨g', e1, e2⟩ => ⟨g', e1, Nat.le_trans hM1.size e2⟩)⟩
      intro s hs
      rcases List.mem_append.1 hs with h1 | h1
      · exact H.out.s32 s h1
      · obtain rfl : s = C := by simpa using h1
        exact hC2
    · go_simp
      go_at_call 22
      refine (HD.out wq hMq).mono ?_
      rintro r w1 ⟨rfl, hN1⟩
      have q2 : w1.cell? ⟨j, 0, none⟩ = some (.slice (some ⟨g, 0, none⟩) n cap) := (((hMq.drew).alloc _).then hN1).cellS q0 (fun h => h)
      go_wp2_with fail
      refine hA1.out _ _ trivial (fun _ => ?_)
      clear hA1 A1
      try simp only [Act.put, List.setIfInBounds_toArray, List.set_cons_zero, List.set_cons_succ]
      refine wpAnyH_ready (rs := [4, 9]) (by kernel_rfl) (by simp) ?_
      refine (AllReadyH.cons (by simp only [List.getElem?_toArray, List.getElem?_cons_zero, List.getElem?_cons_succ]; rfl) (fun A2 hA2 => ?_) (AllReadyH.cons (by simp only [List.getElem?_toArray, List.getElem?_cons_zero, List.getElem?_cons_succ]; rfl) (fun A2 hA2 => ?_) AllReadyH.nil))
      · go_simp
        refine hA2.out _ _ trivial (fun _ => ?_)
        clear hA2 A2
        try simp only [Act.put, List.setIfInBounds_toArray, List.set_cons_zero, List.set_cons_succ]
        refine wpAnyH_ready (rs := [9]) (by kernel_rfl) (by simp) ?_
        refine (AllReadyH.cons (by simp only [List.getElem?_toArray, List.getElem?_cons_zero, List.getElem?_cons_succ]; rfl) (fun A3 hA3 => ?_) AllReadyH.nil)
        go_simp
        refine hA3.out _ _ trivial (fun _ => ?_)
        clear hA3 A3
        try simp only [Act.put, List.setIfInBounds_toArray, List.set_cons_zero, List.set_cons_succ]
        have q2 : (w1.alloc (.cells #[.string C] 9)).cell? ⟨j, 0, none⟩ = some (.slice (some ⟨g, 0, none⟩) n cap) := ((((hMq.drew).alloc _).then hN1).alloc _).cellS q0 (fun h => h)
        have hM1 : Mod none_ w (w1.alloc (.cells #[.string C] 9)) := (((hMq.drew).alloc _).then hN1).alloc _
        have hV1 := H.out.own.modO hM1 (fun _ _ h => h)
        rw [hn] at hV1
        have hB1 := hM1.blk H.out.blk (fun h => h)
        refine wpAnyH_ready (rs := [10]) (by kernel_rfl) (by simp) ?_
        refine AllReadyH.cons (by simp only [List.getElem?_toArray, List.getElem?_cons_zero, List.getElem?_cons_succ]; rfl) (fun K4 hK4 => ?_) AllReadyH.nil
        rw [if_pos (by rfl)]
        refine wp_append_str2 (.tmp 21) (.tmp 26) rfl rfl base g n cap ss rfl hV1 w1.heap.size C rfl (by rw [World.cell?_alloc_new]; rfl) (by omega) (Nat.le_trans hbase hM1.size) ?_
        intro v2 w2 hv2 hg2 hp2
        have hM2 : Mod (fun b => b = g) (w1.alloc (.cells #[.string C] 9)) w2 := Mod.grownBy (S := fun bb => bb = g) hg2 (fun bb _ e => (Option.some.inj e).symm)
        have hB2 := hM2.blk hB1 hnb
        rcases hv2.cases with ⟨_, e⟩ | ⟨g2, cap2, rest2, rfl, hg2', hW2, hc2⟩
        · simp at e
        have q3 := hB2.cell (j := 0) rfl
        have f3 := hB2.frozen 0
        obtain ⟨n2, hn2⟩ : ∃ n2, (ss ++ [C]).length = n2 := ⟨_, rfl⟩
        have HN2 := Lib.hid hn2
        rw [hn2] at hv2 ⊢
        clear hn2
        refine hK4.out _ _ trivial (fun _ => ?_)
        clear hK4 K4
        try simp only [Act.put, List.setIfInBounds_toArray, List.set_cons_zero, List.set_cons_succ]
        refine wpAnyH_take (i := 11) (v := ?_) (by simp only [List.getElem?_toArray, List.getElem?_cons_zero, List.getElem?_cons_succ]; rfl) (by kernel_rfl) (by kernel_rfl) (by kernel_rfl) (fun _ _ _ h => h) (Or.inl ⟨by rfl, ?_⟩) trivial ?_
        rotate_left
        · (intro wq hSw; go_simp; all_goals with_reducible rfl)
        try simp only [Act.put, List.setIfInBounds_toArray, List.set_cons_zero, List.set_cons_succ]
        refine wpAnyH_take (i := 12) (v := ?_) (by simp only [List.getElem?_toArray, List.getElem?_cons_zero, List.getElem?_cons_succ]; rfl) (by kernel_rfl) (by kernel_rfl) (by kernel_rfl) (fun _ _ _ h => h) (Or.inl ⟨by rfl, ?_⟩) trivial ?_
        rotate_left
        · (intro wq hSw; go_simp; all_goals with_reducible rfl)
        try simp only [Act.put, List.setIfInBounds_toArray, List.set_cons_zero, List.set_cons_succ]
        refine wpAnyH_ready (rs := [13]) (by kernel_rfl) (by simp) ?_
        refine AllReadyH.cons (by simp only [List.getElem?_toArray, List.getElem?_cons_zero, List.getElem?_cons_succ]; rfl) (fun K5 hK5 => ?_) AllReadyH.nil
        go_simp
        refine hK5.out _ _ trivial (fun _ => ?_)
        clear hK5 K5
        try simp only [Act.put]
        refine wpAnyH_done (by kernel_rfl) ?_ _
        refine NoPanic.normal ?_
        have hg2j : ¬ g2 = j := by
          rcases hp2 with e | ⟨g', e, h1⟩
          · have : g2 = g := Option.some.inj e
            omega
          · have : g2 = g' := Option.some.inj e
            have := hB1.lt
            omega
        have hMj : Mod (only j) w2 (w2.setCell ⟨j, 0, none⟩ (.slice (some ⟨g2, 0, none⟩) n2 cap2)) := (Mod.refl _ _).setCell (fun _ => only_self j) _
        have hM3 : Mod (fun b => b = j ∨ some g = some b) w (w2.setCell ⟨j, 0, none⟩ (.slice (some ⟨g2, 0, none⟩) n2 cap2)) := ((hM1.mono (T := none_) (S := fun b => b = j ∨ some g = some b) (fun _ _ h => h.elim)).trans hM2 (fun b _ e => Or.inr (by rw [show b = g from e]))).trans hMj (fun b _ e => Or.inl e)
        go_end0
        refine ⟨rfl, .slice (some ⟨g2, 0, none⟩) n2 cap2, ⟨(hB2.set 0 _).cs rfl, hv2.modO hMj (fun g' e h => hg2j ((Option.some.inj e).trans h)), ?_, by simp, by rw [HN2.out]; have : (ss ++ [C]).length = n2 := HN2.out; simp at this; omega, fun g' e h => hg2j ((Option.some.inj e).trans h)⟩, hM3, hp2.imp id (fun ⟨g', e1, e2⟩ => ⟨g', e1, Nat.le_trans hM1.size e2⟩)⟩
        intro s hs
        rcases List.mem_append.1 hs with h1 | h1
        · exact H.out.s32 s h1
        · obtain rfl : s = C := by simpa using h1
          exact hC2
      · go_simp
        refine hA2.out _ _ trivial (fun _ => ?_)
        clear hA2 A2
        try simp only [Act.put, List.setIfInBounds_toArray, List.set_cons_zero, List.set_cons_succ]
        have q2 : (w1.alloc (.cells #[.string C] 9)).cell? ⟨j, 0, none⟩ = some (.slice (some ⟨g, 0, none⟩) n cap) := ((((hMq.drew).alloc _).then hN1).alloc _).cellS q0 (fun h => h)
        refine wpAnyH_ready (rs := [4]) (by kernel_rfl) (by simp) ?_
        refine (AllReadyH.cons (by simp only [List.getElem?_toArray, List.getElem?_cons_zero, List.getElem?_cons_succ]; rfl) (fun A3 hA3 => ?_) AllReadyH.nil)
        go_simp
        refine hA3.out _ _ trivial (fun _ => ?_)
        clear hA3 A3
        try simp only [Act.put, List.setIfInBounds_toArray, List.set_cons_zero, List.set_cons_succ]
        have hM1 : Mod none_ w (w1.alloc (.cells #[.string C] 9)) := (((hMq.drew).alloc _).then hN1).alloc _
        have hV1 := H.out.own.modO hM1 (fun _ _ h => h)
        rw [hn] at hV1
        have hB1 := hM1.blk H.out.blk (fun h => h)
        refine wpAnyH_ready (rs := [10]) (by kernel_rfl) (by simp) ?_
        refine AllReadyH.cons (by simp only [List.getElem?_toArray, List.getElem?_cons_zero, List.getElem?_cons_succ]; rfl) (fun K4 hK4 => ?_) AllReadyH.nil
        rw [if_pos (by rfl)]
        refine wp_append_str2 (.tmp 21) (.tmp 26) rfl rfl base g n cap ss rfl hV1 w1.heap.size C rfl (by rw [World.cell?_alloc_new]; rfl) (by omega) (Nat.le_trans hbase hM1.size) ?_
        intro v2 w2 hv2 hg2 hp2
        have hM2 : Mod (fun b => b = g) (w1.alloc (.cells #[.string C] 9)) w2 := Mod.grownBy (S := fun bb => bb = g) hg2 (fun bb _ e => (Option.some.inj e).symm)
        have hB2 := hM2.blk hB1 hnb
        rcases hv2.cases with ⟨_, e⟩ | ⟨g2, cap2, rest2, rfl, hg2', hW2, hc2⟩
        · simp at e
        have q3 := hB2.cell (j := 0) rfl
        have f3 := hB2.frozen 0
        obtain ⟨n2, hn2⟩ : ∃ n2, (ss ++ [C]).length = n2 := ⟨_, rfl⟩
        have HN2 := Lib.hid hn2
        rw [hn2] at hv2 ⊢
        clear hn2
        refine hK4.out _ _ trivial (fun _ => ?_)
        clear hK4 K4
        try simp only [Act.put, List.setIfInBounds_toArray, List.set_cons_zero, List.set_cons_succ]
        refine wpAnyH_take (i := 11) (v := ?_) (by simp only [List.getElem?_toArray, List.getElem?_cons_zero, List.getElem?_cons_succ]; rfl) (by kernel_rfl) (by kernel_rfl) (by kernel_rfl) (fun _ _ _ h => h) (Or.inl ⟨by rfl, ?_⟩) trivial ?_
        rotate_left
        · (intro wq hSw; go_simp; all_goals with_reducible rfl)
        try simp only [Act.put, List.setIfInBounds_toArray, List.set_cons_zero, List.set_cons_succ]
        refine wpAnyH_take (i := 12) (v := ?_) (by simp only [List.getElem?_toArray, List.getElem?_cons_zero, List.getElem?_cons_succ]; rfl) (by kernel_rfl) (by kernel_rfl) (by kernel_rfl) (fun _ _ _ h => h) (Or.inl ⟨by rfl, ?_⟩) trivial ?_
        rotate_left
        · (intro wq hSw; go_simp; all_goals with_reducible rfl)
        try simp only [Act.put, List.setIfInBounds_toArray, List.set_cons_zero, List.set_cons_succ]
        refine wpAnyH_ready (rs := [13]) (by kernel_rfl) (by simp) ?_
        refine AllReadyH.cons (by simp only [List.getElem?_toArray, List.getElem?_cons_zero, List.getElem?_cons_succ]; rfl) (fun K5 hK5 => ?_) AllReadyH.nil
        go_simp
        refine hK5.out _ _ trivial (fun _ => ?_)
        clear hK5 K5
        try simp only [Act.put]
        refine wpAnyH_done (by kernel_rfl) ?_ _
        refine NoPanic.normal ?_
        have hg2j : ¬ g2 = j := by
          rcases hp2 with e | ⟨g', e, h1⟩
          · have : g2 = g := Option.some.inj e
            omega
          · have : g2 = g' := Option.some.inj e
            have := hB1.lt
            omega
        have hMj : Mod (only j) w2 (w2.setCell ⟨j, 0, none⟩ (.slice (some ⟨g2, 0, none⟩) n2 cap2)) := (Mod.refl _ _).setCell (fun _ => only_self j) _
        have hM3 : Mod (fun b => b = j ∨ some g = some b) w (w2.setCell ⟨j, 0, none⟩ (.slice (some ⟨g2, 0, none⟩) n2 cap2)) := ((hM1.mono (T := none_) (S := fun b => b = j ∨ some g = some b) (fun _ _ h => h.elim)).trans hM2 (fun b _ e => Or.inr (by rw [show b = g from e]))).trans hMj (fun b _ e => Or.inl e)
        go_end0
        refine ⟨rfl, .slice (some ⟨g2, 0, none⟩) n2 cap2, ⟨(hB2.set 0 _).cs rfl, hv2.modO hMj (fun g' e h => hg2j ((Option.some.inj e).trans h)), ?_, by simp, by rw [HN2.out]; have : (ss ++ [C]).length = n2 := HN2.out; simp at this; omega, fun g' e h => hg2j ((Option.some.inj e).trans h)⟩, hM3, hp2.imp id (fun ⟨g', e1, e2⟩ => ⟨g', e1, Nat.le_trans hM1.size e2⟩)⟩
        intro s hs
        rcases List.mem_append.1 hs with h1 | h1
        · exact H.out.s32 s h1
        · obtain rfl : s = C := by simpa using h1
          exact hC2
end Go.Proofs.YtlndgnlkfhlekaaDoor
