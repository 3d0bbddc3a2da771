/- BoardMemory: the law's walk. -/
import Derived.Test.YtlndgnlkfhlekaaBdK
namespace Bd
theorem rep_set {α : Type} (x : α) (l : List α) (i : Nat) (h : i < l.length) : (List.replicate i x ++ l.drop i).set i x = List.replicate (i + 1) x ++ l.drop (i + 1) := by
  rw [List.set_append, List.length_replicate, if_neg (Nat.lt_irrefl _), Nat.sub_self, List.drop_eq_getElem_cons h, List.set_cons_zero, List.replicate_succ', List.append_assoc]
  rfl
theorem rep_all {α : Type} (x : α) (l : List α) : List.replicate l.length x ++ l.drop l.length = List.replicate l.length x := by rw [List.drop_length, List.append_nil]
theorem rep_at {α : Type} (x : α) (l : List α) (i : Nat) : (List.replicate i x ++ l.drop i)[i]? = l[i]? := by
  rw [List.getElem?_append_right (by rw [List.length_replicate]; exact Nat.le_refl _), List.length_replicate, Nat.sub_self, List.getElem?_drop, Nat.add_zero]
end Bd
namespace Go.Proofs.Ytlndgnlkfhlekaa
open Go.RowKit

/-- a board below B -/
structure BrdB (q : World) (B b W H : Nat) (E : List Int) : Prop where
  fine : Bd.Fine W H E
  mem : ∃ g cap rest, b < B ∧ g < B ∧ Blk q b [.int .i64 W, .int .i64 H, .slice (some ⟨g, 0, none⟩) (W * H : Nat) cap] 55 ∧ Blk q g (i32s E ++ rest) 21 ∧ W * H ≤ cap
theorem BrdB.of {q : World} {b W H : Nat} {E : List Int} (h : BrdP q b W H E) {B : Nat} (hB : q.heap.size = B) : BrdB q B b W H E := by
  obtain ⟨g, cap, rest, h1, h2, h3⟩ := h.mem
  subst hB
  exact ⟨h.fine, g, cap, rest, h1.lt, h2.lt, h1, h2, h3⟩
theorem BrdB.to {q : World} {B b W H : Nat} {E : List Int} (h : BrdB q B b W H E) : BrdP q b W H E := by
  obtain ⟨g, cap, rest, _, _, h1, h2, h3⟩ := h.mem
  exact ⟨h.fine, g, cap, rest, h1, h2, h3⟩
theorem BrdB.mod {S : Nat → Prop} {q q' : World} {B b W H : Nat} {E : List Int} (h : BrdB q B b W H E) (hM : Mod S q q') (hS : ∀ k, k < B → ¬ S k) : BrdB q' B b W H E := by
  obtain ⟨g, cap, rest, h0, h00, h1, h2, h3⟩ := h.mem
  exact ⟨h.fine, g, cap, rest, h0, h00, hM.blk h1 (hS _ h0), hM.blk h2 (hS _ h00), h3⟩
/-- the blocks, one above the other -/
structure Ups (n B g1 g2 g0 : Nat) : Prop where
  a : n ≤ B
  b : B ≤ g1
  c : g1 < g2
  d : g2 < g0
/-- the law's memory -/
structure Mem (w : World) (B b W H : Nat) (E : List Int) (L g1 g2 g0 c1 c2 c0 : Nat) (l1 l2 l0 : List (Int × Int)) (q : World) : Prop where
  ups : Ups w.heap.size B g1 g2 g0
  brd : BrdB q B b W H E
  p1 : Pl q g1 L c1 l1
  p2 : Pl q g2 L c2 l2
  p0 : Pl q g0 L c0 l0
  m : Mod none_ w q
theorem Mem.none {w : World} {B b W H : Nat} {E : List Int} {L g1 g2 g0 c1 c2 c0 : Nat} {l1 l2 l0 : List (Int × Int)} {q q' : World} (h : Mem w B b W H E L g1 g2 g0 c1 c2 c0 l1 l2 l0 q) (hM : Mod none_ q q') : Mem w B b W H E L g1 g2 g0 c1 c2 c0 l1 l2 l0 q' :=
  ⟨h.ups, h.brd.mod hM (fun _ _ h => h), h.p1.none hM, h.p2.none hM, h.p0.none hM, h.m.then hM⟩
theorem Mem.mod1 {w : World} {B b W H : Nat} {E : List Int} {L g1 g2 g0 c1 c2 c0 : Nat} {l1 l2 l0 l : List (Int × Int)} {q q' : World} (h : Mem w B b W H E L g1 g2 g0 c1 c2 c0 l1 l2 l0 q) (hM : Mod (only g1) q q') (hp : Pl q' g1 L c1 l) : Mem w B b W H E L g1 g2 g0 c1 c2 c0 l l2 l0 q' := by
  have a := h.ups.a; have b := h.ups.b; have c := h.ups.c; have d := h.ups.d
  exact ⟨h.ups, h.brd.mod hM (fun k hk => not_only (by omega)), hp, h.p2.mod hM (not_only (by omega)), h.p0.mod hM (not_only (by omega)), h.m.trans hM (fun k hk e => absurd e (not_only (by omega)))⟩
theorem Mem.mod2 {w : World} {B b W H : Nat} {E : List Int} {L g1 g2 g0 c1 c2 c0 : Nat} {l1 l2 l0 l : List (Int × Int)} {q q' : World} (h : Mem w B b W H E L g1 g2 g0 c1 c2 c0 l1 l2 l0 q) (hM : Mod (only g2) q q') (hp : Pl q' g2 L c2 l) : Mem w B b W H E L g1 g2 g0 c1 c2 c0 l1 l l0 q' := by
  have a := h.ups.a; have b := h.ups.b; have c := h.ups.c; have d := h.ups.d
  exact ⟨h.ups, h.brd.mod hM (fun k hk => not_only (by omega)), h.p1.mod hM (not_only (by omega)), hp, h.p0.mod hM (not_only (by omega)), h.m.trans hM (fun k hk e => absurd e (not_only (by omega)))⟩
theorem mod_store (q : World) (g j : Nat) (u v : Value) : Mod (only g) q ((q.setCell ⟨g, j * 2, none⟩ u).setCell ⟨g, j * 2 + 1, none⟩ v) := ((Mod.refl _ _).setCell (p := ⟨g, j * 2, none⟩) (fun _ => only_self g) u).setCell (p := ⟨g, j * 2 + 1, none⟩) (fun _ => only_self g) v
theorem Pl.news {w : World} {g n cap : Nat} {l : List (Int × Int)} (h : Pl w g n cap l) : ∀ j u, (vcells l)[j]? = some u → w.cell? ((⟨g, 0, Option.none⟩ : Addr).add j) = some u := by
  intro j u hj
  obtain ⟨_, r, h1, _⟩ := h
  have e : (⟨g, 0, Option.none⟩ : Addr).add j = ⟨g, j, Option.none⟩ := by unfold Addr.add; split <;> simp_all
  rw [e]
  exact h1.cell (by rw [List.getElem?_append_left (List.getElem?_eq_some_iff.1 hj).1]; exact hj)
theorem Pl.lit0 (w : World) : Pl (w.alloc (.cells #[] 34)) w.heap.size 0 0 [] := ⟨rfl, [], Blk.new w [] _, rfl, Nat.le_refl _, by unfold maxLen; omega⟩
/-- behind the copy -/
theorem mem_start {w w5 w6 : World} {B b W H : Nat} {E : List Int} {L g1 g2 g0 c1 c2 c0 : Nat} {l : List (Int × Int)} (a : w.heap.size ≤ B) (hb : B ≤ g1) (c : g1 < g2) (hB : BrdB w5 B b W H E) (h1 : Pl w5 g1 L c1 l) (h2 : Pl w5 g2 L c2 l) (hM : Mod none_ w w5)
    (h0 : Pl w6 g0 (0 + L) c0 ([] ++ l)) (hM6 : Mod (only w5.heap.size) (w5.alloc (.cells #[] 34)) w6) (hg : g0 = w5.heap.size ∨ g0 = (w5.alloc (.cells #[] 34)).heap.size) : Mem w B b W H E L g1 g2 g0 c1 c2 c0 l l l w6 := by
  have hs : (w5.alloc (.cells #[] 34)).heap.size = w5.heap.size + 1 := by simp
  have hMa : Mod none_ w5 w6 := ((Mod.refl none_ w5).alloc _).trans hM6 (fun k hk e => absurd e (not_only (by omega)))
  have h2l := h2.lt
  rw [Nat.zero_add, List.nil_append] at h0
  exact ⟨⟨a, hb, c, by omega⟩, hB.mod hMa (fun _ _ h => h), h1.none hMa, h2.none hMa, h0, hM.then hMa⟩
theorem Pl.lit (w : World) (m : List (Int × Int)) (hm : m.length ≤ 1000) : Pl (w.alloc (.cells (vcells m).toArray 34)) w.heap.size m.length m.length m :=
  ⟨rfl, [], by rw [List.append_nil]; exact Blk.new w _ _, by rw [List.append_nil, vcells_len], Nat.le_refl _, by unfold maxLen; omega⟩
theorem lit3_news (w : World) : ∀ j u, (vcells [(1, 0), (1, 0), (1, 0)])[j]? = some u → (w.alloc (.cells #[.int .i64 1, .int .i64 0, .int .i64 1, .int .i64 0, .int .i64 1, .int .i64 0] 34)).cell? ((⟨w.heap.size, 0, Option.none⟩ : Addr).add j) = some u := (Pl.lit w [(1, 0), (1, 0), (1, 0)] (by decide)).news
theorem lit2_news (w : World) : ∀ j u, (vcells [(0, 2), (0, 2)])[j]? = some u → (w.alloc (.cells #[.int .i64 0, .int .i64 2, .int .i64 0, .int .i64 2] 34)).cell? ((⟨w.heap.size, 0, Option.none⟩ : Addr).add j) = some u := (Pl.lit w [(0, 2), (0, 2)] (by decide)).news
theorem rep_more (L : Nat) (x : Int × Int) (k : Nat) : List.replicate L x ++ List.replicate k x = List.replicate (L + k) x := List.replicate_append_replicate
/-- .. with the longer list -/
structure MemX (w : World) (B b W H : Nat) (E : List Int) (L g1 g2 g0 c1 c2 c0 : Nat) (l1 l2 l0 : List (Int × Int)) (gm cm : Nat) (q : World) : Prop where
  base : Mem w B b W H E L g1 g2 g0 c1 c2 c0 l1 l2 l0 q
  more : Pl q gm (L + 3) cm (List.replicate (L + 3) (1, 0))
  ne : gm ≠ g2
theorem MemX.none {w : World} {B b W H : Nat} {E : List Int} {L g1 g2 g0 c1 c2 c0 gm cm : Nat} {l1 l2 l0 : List (Int × Int)} {q q' : World} (h : MemX w B b W H E L g1 g2 g0 c1 c2 c0 l1 l2 l0 gm cm q) (hM : Mod none_ q q') : MemX w B b W H E L g1 g2 g0 c1 c2 c0 l1 l2 l0 gm cm q' := ⟨h.base.none hM, h.more.none hM, h.ne⟩
theorem MemX.mod2 {w : World} {B b W H : Nat} {E : List Int} {L g1 g2 g0 c1 c2 c0 gm cm : Nat} {l1 l2 l0 l : List (Int × Int)} {q q' : World} (h : MemX w B b W H E L g1 g2 g0 c1 c2 c0 l1 l2 l0 gm cm q) (hM : Mod (only g2) q q') (hp : Pl q' g2 L c2 l) : MemX w B b W H E L g1 g2 g0 c1 c2 c0 l1 l l0 gm cm q' := ⟨h.base.mod2 hM hp, h.more.mod hM (not_only h.ne), h.ne⟩
theorem mem_more {w : World} {B b W H : Nat} {E : List Int} {L g1 g2 g0 c1 c2 c0 gm cm : Nat} {l2 l0 : List (Int × Int)} {q wm : World} {o : Obj} (h : Mem w B b W H E L g1 g2 g0 c1 c2 c0 (List.replicate L (1, 0)) l2 l0 q)
    (hp : Pl wm gm (L + 3) cm (List.replicate L (1, 0) ++ [(1, 0), (1, 0), (1, 0)])) (hold : Pl wm g1 L c1 (List.replicate L (1, 0))) (hM : Mod (only g1) (q.alloc o) wm) (hg : gm = g1 ∨ gm = (q.alloc o).heap.size) : MemX w B b W H E L g1 g2 g0 c1 c2 c0 (List.replicate L (1, 0)) l2 l0 gm cm wm := by
  have hs : (q.alloc o).heap.size = q.heap.size + 1 := by simp
  have h2 := h.p2.lt
  have c := h.ups.c
  exact ⟨h.mod1 (((Mod.refl (only g1) q).alloc o).trans hM (fun _ _ h => h)) hold, by rw [← rep_more]; exact hp, by omega⟩
/-- .. and all lists -/
structure MemY (w : World) (B b W H : Nat) (E : List Int) (L g1 g2 g0 c1 c2 c0 : Nat) (l1 l2 l0 : List (Int × Int)) (gm cm ga ca g3 c3 : Nat) (q : World) : Prop where
  base : Mem w B b W H E L g1 g2 g0 c1 c2 c0 l1 l2 l0 q
  more : Pl q gm (L + 3) cm (List.replicate (L + 3) (1, 0))
  again : Pl q ga (L + 2) ca (List.replicate (L + 2) (0, 2))
  three : Pl q g3 L c3 l0
theorem MemY.none {w : World} {B b W H : Nat} {E : List Int} {L g1 g2 g0 c1 c2 c0 gm cm ga ca g3 c3 : Nat} {l1 l2 l0 : List (Int × Int)} {q q' : World} (h : MemY w B b W H E L g1 g2 g0 c1 c2 c0 l1 l2 l0 gm cm ga ca g3 c3 q) (hM : Mod none_ q q') : MemY w B b W H E L g1 g2 g0 c1 c2 c0 l1 l2 l0 gm cm ga ca g3 c3 q' := ⟨h.base.none hM, h.more.none hM, h.again.none hM, h.three.none hM⟩
theorem mem_again {w : World} {B b W H : Nat} {E : List Int} {L g1 g2 g0 c1 c2 c0 gm cm ga ca : Nat} {l1 l0 : List (Int × Int)} {q wm : World} {o : Obj} (h : MemX w B b W H E L g1 g2 g0 c1 c2 c0 l1 (List.replicate L (0, 2)) l0 gm cm q)
    (hp : Pl wm ga (L + 2) ca (List.replicate L (0, 2) ++ [(0, 2), (0, 2)])) (hold : Pl wm g2 L c2 (List.replicate L (0, 2))) (hM : Mod (only g2) (q.alloc o) wm) : MemX w B b W H E L g1 g2 g0 c1 c2 c0 l1 (List.replicate L (0, 2)) l0 gm cm wm ∧ Pl wm ga (L + 2) ca (List.replicate (L + 2) (0, 2)) :=
  ⟨h.mod2 (((Mod.refl (only g2) q).alloc o).trans hM (fun _ _ h => h)) hold, by rw [← rep_more]; exact hp⟩
theorem rep_get {L i : Nat} (x : Int × Int) (h : i < L) : (List.replicate L x)[i]? = some x := by rw [List.getElem?_replicate, if_pos h]
theorem rep_done {L i : Nat} (x : Int × Int) {l : List (Int × Int)} (hl : l.length = L) (hi : i = L) : List.replicate i x ++ l.drop i = List.replicate L x := by subst hi; rw [← hl, Bd.rep_all]
set_option maxHeartbeats 8000000 in
set_option maxRecDepth 100000 in
theorem boardMemory_any (w : World) (s t : ByteArray) (hs : s.size ≤ 9223372036854775807) (ht : t.size ≤ 9223372036854775807) :
    Calls Try.prog 8 #[.string s, .string t] w fun e w' => e = .returned (.bool true) ∧ Mod none_ w w' := by
  obtain ⟨RR, hRR⟩ : ∃ RR, Bd.read (Bd.runes s) = RR := ⟨_, rfl⟩
  go_enter Try.func8, Try.ntmps8
  go_wp2_with fail
  refine (alive14_any w).mono ?_
  rintro r w1 ⟨rfl, hM1⟩
  have hp := parse_any w1 s hs
  rw [hRR] at hp
  have HP := Lib.hid hp; have HM1 := Lib.hid hM1
  have hk := fun q : World => parse_any q t ht
  have HK := Lib.hid hk
  clear hp hM1 hRR hk hs ht
  go_wp2_with fail
  refine HP.out.mono ?_
  rintro r w2 ⟨hpp, hM2⟩
  have HM2 := Lib.hid (HM1.out.then hM2)
  clear hM2 HP
  cases RR with
  | bad =>
    obtain rfl := hpp
    go_wp2
    go_ret
    exact ⟨rfl, HM2.out⟩
  | place =>
    obtain rfl := hpp
    go_wp2
    go_ret
    exact ⟨rfl, HM2.out⟩
  | board W H E =>
    obtain ⟨b, rfl, hb, hB⟩ := hpp
    have hF := hB.fine
    have hpr : ∀ q k, BrdP q k W H E → Calls Try.prog 13 #[.pointer (some ⟨k, 0, none⟩)] q fun e w' => e = .returned (.string (Bd.text W H E)) ∧ Mod none_ q w' := fun q k h => print_any q h
    have hsp : ∀ q k, BrdP q k W H E → Calls Try.prog 17 #[.pointer (some ⟨k, 0, none⟩)] q fun e w' => ∃ g cap, e = .returned (.slice (some ⟨g, 0, none⟩) (Bd.spawns W E).length cap) ∧ q.heap.size ≤ g ∧ Pl w' g (Bd.spawns W E).length cap (Bd.spawns W E) ∧ Mod none_ q w' := fun q k h => by
      obtain ⟨g', hm⟩ := h.toM
      refine (spawns_any q hm).mono ?_
      rintro r w' ⟨v, rfl, hv, hM⟩
      obtain ⟨g, cap, rfl, hg, hp⟩ := Pl.of hv (Bd.spawns_small h.fine).1
      exact ⟨g, cap, rfl, hg, hp, hM⟩
    have hL := Bd.spawns_small hF
    obtain ⟨p, l, j, hl0, hj⟩ : ∃ p l j, Bd.spawns W E = p :: l ∧ E[j]? = some 83 ∧ p = Bd.mid W j := by
      cases hsl : Bd.spawns W E with
      | nil => exact absurd hsl hF.some
      | cons p l =>
        have hm : p ∈ Bd.spawns W E := by rw [hsl]; simp
        obtain ⟨j, h1, h2⟩ := Bd.spawnsFrom_mem W E 0 p hm
        exact ⟨p, l, j, rfl, h1, by rw [h2, Nat.zero_add]⟩
    obtain ⟨TX, hTX⟩ : ∃ TX, Bd.text W H E = TX := ⟨_, rfl⟩
    obtain ⟨LS, hLS⟩ : ∃ LS, Bd.spawns W E = LS := ⟨_, rfl⟩
    rw [hTX] at hpr
    rw [hLS] at hsp hL hl0
    obtain ⟨L, hLL⟩ : ∃ L, LS.length = L := ⟨_, rfl⟩
    rw [hLL] at hsp hL
    obtain ⟨hL1, hL2⟩ := hL
    have HB := Lib.hid hB; have HF := Lib.hid hF; have HPR := Lib.hid hpr; have HSP := Lib.hid hsp; have HJ := Lib.hid hj; have HL0 := Lib.hid hl0; have HLL := Lib.hid hLL
    clear hB hF hpr hsp hj hl0 hLL hTX hLS hb
    go_wp2_with fail
    refine (HPR.out _ _ HB.out).mono ?_
    rintro r w3 ⟨rfl, hM3⟩
    have HB3 := Lib.hid (HB.out.none hM3); have HM3 := Lib.hid (HM2.out.then hM3)
    clear hM3 HB HM2
    go_wp2_with fail
    refine (HSP.out _ _ HB3.out).mono ?_
    rintro r w4 ⟨g1, c1, rfl, hg1, hp1, hM4⟩
    have hb4 := BrdB.of HB3.out (B := w3.heap.size) rfl
    have hs3 := HM3.out.size
    obtain ⟨B, hB⟩ : ∃ B, w3.heap.size = B := ⟨_, rfl⟩
    rw [hB] at hg1 hb4 hs3
    have HB4 := Lib.hid (hb4.mod hM4 (fun _ _ h => h)); have HM4 := Lib.hid (HM3.out.then hM4); have HP1 := Lib.hid hp1
    clear hb4 hM4 hp1 HB3 hB HM3
    go_wp2_with fail
    refine (HSP.out _ _ HB4.out.to).mono ?_
    rintro r w5 ⟨g2, c2, rfl, hg2, hp2, hM5⟩
    have h12 := HP1.out.lt
    have HB5 := Lib.hid (HB4.out.mod hM5 (fun _ _ h => h)); have HM5 := Lib.hid (HM4.out.then hM5); have HP1' := Lib.hid (HP1.out.none hM5); have HP2 := Lib.hid hp2
    have hg12 : g1 < g2 := by omega
    clear hg2 h12 hM5 hp2 HB4 HM4 HP1
    have hnw := fun o : Obj => (HP1'.out.none ((Mod.refl none_ w5).alloc o)).news
    have HNW := Lib.hid hnw
    clear hnw
    go_upto_region 10 with (at_builtin; refine wpList_append_pl rfl (.tmp 45) (.tmp 46) rfl rfl (Pl.lit0 w5) ⟨g1, 0, none⟩ LS L c1 HLL.out rfl (HNW.out _) (by omega) ?_; intro g0 c0 w6 hp0 hold hM6 hg6; have HME := Lib.hid (mem_start hs3 hg1 hg12 HB5.out HP1'.out HP2.out HM5.out hp0 hM6 hg6); clear hp0 hold hM6 hg6)
    try rw [Nat.zero_add]
    clear HB5 HM5 HP1' HP2 HNW
    have hL1' : ¬ ((L : Int) < 1) := by omega
    go_upto_region 12 with fail
    go_cut [11, 12] (fun u v wx => ∃ (KB : Bool) (ov : Option Addr) (e : Int), u = .pointer ov ∧ v = .int .i64 e ∧ ((KB = false ∧ ov = none ∧ e ≠ 0) ∨ (KB = true ∧ ∃ k W' H' E', ov = some ⟨k, 0, none⟩ ∧ e = 0 ∧ BrdP wx k W' H' E')) ∧ Mem w B b W H E L g1 g2 g0 c1 c2 c0 LS LS LS wx)
    case first =>
      go_wp2_with fail
      refine (HK.out _).mono ?_
      rintro r w7 ⟨hkk, hM7⟩
      have HM7 := Lib.hid hM7
      clear hM7 HK
      cases hrt : Bd.read (Bd.runes t) with
      | bad =>
        rw [hrt] at hkk
        obtain rfl := hkk
        clear hrt
        go_wp2
        go_meet
        exact ⟨false, _, _, rfl, rfl, Or.inl ⟨rfl, rfl, by decide⟩, HME.out.none HM7.out⟩
      | place =>
        rw [hrt] at hkk
        obtain rfl := hkk
        clear hrt
        go_wp2
        go_meet
        exact ⟨false, _, _, rfl, rfl, Or.inl ⟨rfl, rfl, by decide⟩, HME.out.none HM7.out⟩
      | board W' H' E' =>
        rw [hrt] at hkk
        obtain ⟨k, rfl, hk, hB⟩ := hkk
        have HB := Lib.hid hB
        clear hrt hk hB
        go_wp2
        go_meet
        exact ⟨true, _, _, rfl, rfl, Or.inr ⟨rfl, k, W', H', E', rfl, rfl, HB.out⟩, HME.out.none HM7.out⟩
    case rest =>
    obtain ⟨KB, ov, e, rfl, rfl, hkb, hme⟩ := hcut
    obtain ⟨w8, hw8⟩ : ∃ q, q = wc := ⟨_, rfl⟩
    rw [← hw8] at hkb hme ⊢
    clear hw8 HME HK
    have HME := Lib.hid hme
    clear hme
    go_upto_region 13 with fail
    go_cut [68] (fun u wx => u = .bool KB ∧ wx = w8)
    case first =>
      rcases hkb with ⟨rfl, rfl, he⟩ | ⟨rfl, k, W', H', E', rfl, rfl, hB⟩
      · have he1 : (e == 0) = false := by simp [he]
        clear he
        go_wp2
        go_meet
        exact ⟨rfl, rfl⟩
      · clear hB
        go_wp2
        go_meet
        exact ⟨rfl, rfl⟩
    case rest =>
    obtain ⟨rfl, hw8⟩ := hcut
    rw [hw8]
    clear hw8
    go_upto_if 68 with fail
    go_cut [] (fun wx => Mem w B b W H E L g1 g2 g0 c1 c2 c0 LS LS LS wx)
    case first =>
      rcases hkb with ⟨rfl, rfl, he⟩ | ⟨rfl, k, W', H', E', rfl, rfl, hB⟩
      · clear he
        go_wp2
        go_meet
        exact HME.out
      · have HB := Lib.hid hB
        clear hB
        obtain ⟨gk, hbm⟩ := HB.out.toM
        go_wp2_with fail
        refine (spawns_any _ hbm).mono ?_
        rintro r w9 ⟨v, rfl, hv, hM9⟩
        have HB9 := Lib.hid (HB.out.none hM9); have HM9 := Lib.hid hM9
        clear hv hM9 hbm
        go_wp2_with fail
        refine (print_any _ HB9.out).mono ?_
        rintro r wa ⟨rfl, hMa⟩
        have HMa := Lib.hid hMa
        clear hMa
        go_wp2
        go_meet
        exact HME.out.none (HM9.out.then HMa.out)
    case rest =>
    obtain ⟨w9, hw9⟩ : ∃ q, q = wc := ⟨_, rfl⟩
    rw [← hw9] at hcut ⊢
    clear hw9 HME hkb
    have HME := Lib.hid hcut
    clear hcut
    go_wp2_with fail
    go_loopw [13] (fun u wr => ∃ i : Nat, u = .int .i64 i ∧ i ≤ L ∧ Mem w B b W H E L g1 g2 g0 c1 c2 c0 LS LS LS wr) (fun u _ => L - (intOf u).toNat)
    case atStart => exact ⟨0, rfl, by omega, HME.out⟩
    case round =>
      obtain ⟨i, rfl, hi, hme⟩ := hrel
      have HME' := Lib.hid hme
      clear hme HME
      by_cases hiL : i < L
      · have hiL' : (i : Int) < (L : Int) := by omega
        obtain ⟨⟨px, py⟩, hpi⟩ : ∃ p, LS[i]? = some p := ⟨_, List.getElem?_eq_getElem (by rw [HLL.out]; exact hiL)⟩
        have HPI := Lib.hid hpi
        clear hpi
        go_upto_region 19 with fail
        have hS : Mem w B b W H E L g1 g2 g0 c1 c2 c0 LS LS LS wr.drew := HME'.out.none (Mod.refl _ _).drew
        go_cut [98] (fun u wx => u = .bool false ∧ Mem w B b W H E L g1 g2 g0 c1 c2 c0 LS LS LS wx)
        case first =>
          obtain ⟨a0, a1⟩ := HME'.out.p2.cells HPI.out
          obtain ⟨b0, b1⟩ := HME'.out.p0.cells HPI.out
          obtain ⟨c0, c1'⟩ := HME'.out.p1.cells HPI.out
          have n1 := fun q : World => neV q px py px py
          have eb : (!(px == px && py == py)) = false := by simp
          go_quiet (fail)
          go_wp2
          go_meet
          exact ⟨rfl, HME'.out.none ((Mod.refl _ _).drewN nq)⟩
        case rest =>
          obtain ⟨rfl, hcut⟩ := hcut
          go_wp2
          go_roundw
          case rel => exact ⟨i + 1, by go_num, by omega, hcut⟩
          case measure => simp [intOf]; omega
      · have hiL' : ¬ (i : Int) < (L : Int) := by omega
        clear hi hiL
        go_wp2_with fail
        go_loopw [14] (fun u wr => ∃ i : Nat, u = .int .i64 i ∧ i ≤ L ∧ Mem w B b W H E L g1 g2 g0 c1 c2 c0 (List.replicate i (1, 0) ++ LS.drop i) LS LS wr) (fun u _ => L - (intOf u).toNat)
        case atStart => exact ⟨0, rfl, by omega, HME'.out⟩
        case round =>
          clear hiL'
          obtain ⟨i, rfl, hi, hme⟩ := hrel
          have HN1 := Lib.hid hme
          clear hme HME'
          by_cases hiL : i < L
          · have hiL' : (i : Int) < (L : Int) := by omega
            obtain ⟨⟨px, py⟩, hpi⟩ : ∃ p, LS[i]? = some p := ⟨_, List.getElem?_eq_getElem (by rw [HLL.out]; exact hiL)⟩
            obtain ⟨k0, k1⟩ := HN1.out.p1.cells (j := i) (by rw [Bd.rep_at]; exact hpi)
            have f0 := HN1.out.p1.frozen (i * 2); have f1 := HN1.out.p1.frozen (i * 2 + 1)
            have hset : Mem w B b W H E L g1 g2 g0 c1 c2 c0 (List.replicate (i + 1) (1, 0) ++ LS.drop (i + 1)) LS LS ((wr.setCell ⟨g1, i * 2, none⟩ (.int .i64 1)).setCell ⟨g1, i * 2 + 1, none⟩ (.int .i64 0)) := by
              refine HN1.out.mod1 (mod_store wr g1 i (.int .i64 1) (.int .i64 0)) ?_
              have := HN1.out.p1.set hiL (1, 0)
              rw [Bd.rep_set _ _ _ (by rw [HLL.out]; exact hiL)] at this
              exact this
            have HSET := Lib.hid hset
            clear hpi hset
            go_wp2_with fail
            go_roundw
            case rel => exact ⟨i + 1, by go_num, by omega, HSET.out⟩
            case measure => simp [intOf]; omega
          · have hiL' : ¬ (i : Int) < (L : Int) := by omega
            have hn1 := HN1.out
            rw [rep_done (1, 0) HLL.out (by omega)] at hn1
            have HN2 := Lib.hid hn1
            clear hn1 HN1 hi hiL
            go_upto_region 26 with (at_builtin; refine wpList_append_pl rfl (.tmp 109) (.tmp 113) rfl rfl (HN2.out.p1.none ((Mod.refl none_ wr).alloc _)) ⟨wr.heap.size, 0, none⟩ [(1, 0), (1, 0), (1, 0)] 3 3 rfl rfl (lit3_news wr) (by omega) ?_; intro gm cm wm hpm hold hMm hgm; have HX := Lib.hid (mem_more HN2.out hpm hold hMm hgm); clear hpm hold hMm hgm)
            clear HN2 hiL'
            go_wp2_with fail
            go_loopw [16] (fun u wr => ∃ i : Nat, u = .int .i64 i ∧ i ≤ L ∧ MemX w B b W H E L g1 g2 g0 c1 c2 c0 (List.replicate L (1, 0)) (List.replicate i (0, 2) ++ LS.drop i) LS gm cm wr) (fun u _ => L - (intOf u).toNat)
            case atStart => exact ⟨0, rfl, by omega, HX.out⟩
            case round =>
              obtain ⟨i, rfl, hi, hme⟩ := hrel
              have HX1 := Lib.hid hme
              clear hme HX
              by_cases hiL : i < L
              · have hiL' : (i : Int) < (L : Int) := by omega
                obtain ⟨⟨px, py⟩, hpi⟩ : ∃ p, LS[i]? = some p := ⟨_, List.getElem?_eq_getElem (by rw [HLL.out]; exact hiL)⟩
                have hpr : (List.replicate i (0, 2) ++ LS.drop i)[i]? = some (px, py) := by rw [Bd.rep_at]; exact hpi
                have HPI := Lib.hid hpi; have HPR' := Lib.hid hpr
                clear hpi hpr
                go_upto_region 29 with fail
                have hS : MemX w B b W H E L g1 g2 g0 c1 c2 c0 (List.replicate L (1, 0)) (List.replicate i (0, 2) ++ LS.drop i) LS gm cm wr.drew := HX1.out.none (Mod.refl _ _).drew
                go_cut [129] (fun u wx => u = .bool false ∧ MemX w B b W H E L g1 g2 g0 c1 c2 c0 (List.replicate L (1, 0)) (List.replicate i (0, 2) ++ LS.drop i) LS gm cm wx)
                case first =>
                  obtain ⟨a0, a1⟩ := HX1.out.base.p2.cells HPR'.out
                  obtain ⟨b0, b1⟩ := HX1.out.base.p0.cells HPI.out
                  have n1 := fun q : World => neV q px py px py
                  have eb : (!(px == px && py == py)) = false := by simp
                  go_quiet (fail)
                  go_wp2
                  go_meet
                  exact ⟨rfl, HX1.out.none ((Mod.refl _ _).drewN nq)⟩
                case rest =>
                  obtain ⟨rfl, hcut⟩ := hcut
                  obtain ⟨wx, hwx⟩ : ∃ q, q = wc := ⟨_, rfl⟩
                  rw [← hwx] at hcut ⊢
                  obtain ⟨k0, k1⟩ := hcut.base.p2.cells HPR'.out
                  have f0 := hcut.base.p2.frozen (i * 2); have f1 := hcut.base.p2.frozen (i * 2 + 1)
                  have hset : MemX w B b W H E L g1 g2 g0 c1 c2 c0 (List.replicate L (1, 0)) (List.replicate (i + 1) (0, 2) ++ LS.drop (i + 1)) LS gm cm ((wx.setCell ⟨g2, i * 2, none⟩ (.int .i64 0)).setCell ⟨g2, i * 2 + 1, none⟩ (.int .i64 2)) := by
                    refine hcut.mod2 (mod_store wx g2 i (.int .i64 0) (.int .i64 2)) ?_
                    have := hcut.base.p2.set hiL (0, 2)
                    rw [Bd.rep_set _ _ _ (by rw [HLL.out]; exact hiL)] at this
                    exact this
                  have HSET := Lib.hid hset
                  clear hset hcut hwx hS HX1
                  go_wp2_with fail
                  go_roundw
                  case rel => exact ⟨i + 1, by go_num, by omega, HSET.out⟩
                  case measure => simp [intOf]; omega
              · have hiL' : ¬ (i : Int) < (L : Int) := by omega
                have hn1 := HX1.out
                rw [rep_done (0, 2) HLL.out (by omega)] at hn1
                have HX2 := Lib.hid hn1
                clear hn1 HX1 hi hiL
                go_upto_region 33 with (at_builtin; refine wpList_append_pl rfl (.tmp 134) (.tmp 137) rfl rfl (HX2.out.base.p2.none ((Mod.refl none_ wr).alloc _)) ⟨wr.heap.size, 0, none⟩ [(0, 2), (0, 2)] 2 2 rfl rfl (lit2_news wr) (by omega) ?_; intro ga ca wm hpm hold hMm hgm; have HXA := Lib.hid (mem_again HX2.out hpm hold hMm); clear hpm hold hMm hgm)
                clear HX2 hiL'
                go_wp2_with fail
                refine (HSP.out _ _ HXA.out.1.base.brd.to).mono ?_
                rintro r wn ⟨g3, c3, rfl, hg3, hp3, hMn⟩
                have HY := Lib.hid (MemY.mk (HXA.out.1.base.none hMn) (HXA.out.1.more.none hMn) (HXA.out.2.none hMn) hp3)
                clear hg3 hp3 hMn HXA
                go_wp2_with fail
                go_loopw [19] (fun u wr => ∃ i : Nat, u = .int .i64 i ∧ i ≤ L + 3 ∧ MemY w B b W H E L g1 g2 g0 c1 c2 c0 (List.replicate L (1, 0)) (List.replicate L (0, 2)) LS gm cm ga ca g3 c3 wr) (fun u _ => L + 3 - (intOf u).toNat)
                case atStart => exact ⟨0, rfl, by omega, HY.out⟩
                case round =>
                  obtain ⟨i, rfl, hi, hme⟩ := hrel
                  have HY1 := Lib.hid hme
                  clear hme HY
                  by_cases hi3 : i < L + 3
                  · have hi4 : (i : Int) < ((L + 3 : Nat) : Int) := by omega
                    have hi5 : (i : Int) < (L : Int) + 3 := by omega
                    have HMI := Lib.hid (rep_get (L := L + 3) (i := i) (1, 0) hi3)
                    go_upto_region 39 with fail
                    have hS : MemY w B b W H E L g1 g2 g0 c1 c2 c0 (List.replicate L (1, 0)) (List.replicate L (0, 2)) LS gm cm ga ca g3 c3 wr.drew := HY1.out.none (Mod.refl _ _).drew
                    go_cut [190] (fun u wx => u = .bool false ∧ MemY w B b W H E L g1 g2 g0 c1 c2 c0 (List.replicate L (1, 0)) (List.replicate L (0, 2)) LS gm cm ga ca g3 c3 wx)
                    case first =>
                      by_cases hiL : i < L
                      · have hiL' : (i : Int) < (L : Int) := by omega
                        have hlt : decide ((i : Int) < (L : Int)) = true := decide_eq_true hiL'
                        obtain ⟨⟨px, py⟩, hpi⟩ : ∃ p, LS[i]? = some p := ⟨_, List.getElem?_eq_getElem (by rw [HLL.out]; exact hiL)⟩
                        have HPI := Lib.hid hpi
                        have HOI := Lib.hid (rep_get (L := L) (i := i) (1, 0) hiL)
                        have HAI := Lib.hid (rep_get (L := L + 2) (i := i) (0, 2) (by omega))
                        clear hpi
                        obtain ⟨a0, a1⟩ := HY1.out.more.cells HMI.out
                        obtain ⟨b0, b1⟩ := HY1.out.three.cells HPI.out
                        obtain ⟨c0, c1'⟩ := HY1.out.base.p0.cells HPI.out
                        obtain ⟨d0, d1⟩ := HY1.out.again.cells HAI.out
                        obtain ⟨e0, e1⟩ := HY1.out.base.p1.cells HOI.out
                        have n1 := fun q : World => neV q px py px py
                        have eb : (!(px == px && py == py)) = false := by simp
                        go_quiet (fail)
                        go_wp2
                        go_meet
                        exact ⟨rfl, HY1.out.none ((Mod.refl _ _).drewN nq)⟩
                      · have hiL' : ¬ (i : Int) < (L : Int) := by omega
                        have hlt : decide ((i : Int) < (L : Int)) = false := decide_eq_false hiL'
                        obtain ⟨a0, a1⟩ := HY1.out.more.cells HMI.out
                        go_quiet (fail)
                        go_wp2
                        go_meet
                        exact ⟨rfl, HY1.out.none ((Mod.refl _ _).drewN nq)⟩
                    case rest =>
                      obtain ⟨rfl, hcut⟩ := hcut
                      go_wp2
                      go_roundw
                      case rel => exact ⟨i + 1, by go_num, by omega, hcut⟩
                      case measure => simp [intOf]; omega
                  · have hi4 : ¬ (i : Int) < ((L + 3 : Nat) : Int) := by omega
                    have hi5 : ¬ (i : Int) < (L : Int) + 3 := by omega
                    obtain ⟨qx, qy⟩ := p
                    have hfree : ¬ Bd.Blocked W H E qx qy 1 := by
                      have := Bd.mid_free HF.out HJ.out.1 (half := 1) (by decide)
                      rw [← HJ.out.2] at this
                      exact this
                    have hq : Bd.I64 qx ∧ Bd.I64 qy := by
                      have e1 : qx = ((j % W : Nat) : Int) * 524288 + 262144 := congrArg Prod.fst HJ.out.2
                      have e2 : qy = ((j / W : Nat) : Int) * 524288 + 262144 := congrArg Prod.snd HJ.out.2
                      have j1 := (List.getElem?_eq_some_iff.1 HJ.out.1).1
                      rw [HF.out.len] at j1
                      have j2 : W * H ≤ 64 * 64 := Nat.mul_le_mul HF.out.w64 HF.out.h64
                      have j3 : j % W ≤ j := Nat.mod_le _ _
                      have j4 : j / W ≤ j := Nat.div_le_self _ _
                      generalize j % W = a at *
                      generalize j / W = c at *
                      unfold Bd.I64
                      omega
                    have hbl : ∀ q, BrdP q b W H E → Calls Try.prog 23 #[.pointer (some ⟨b, 0, none⟩), .agg #[.int .i64 qx, .int .i64 qy], .int .i64 1] q fun r w' => r = .returned (.bool false) ∧ Mod none_ q w' := fun q h => (blocked_any q h qx qy 1 hq.1 hq.2 (by unfold Bd.I64; decide)).mono (by
                      rintro r w' ⟨⟨t, rfl, ht⟩, hM⟩
                      refine ⟨ret_bool ?_, hM⟩
                      cases t <;> simp_all)
                    have HBL := Lib.hid hbl
                    have h00 : LS[0]? = some (qx, qy) := by rw [HL0.out]; rfl
                    have H00 := Lib.hid h00
                    have hL0 : (0 : Int) < (L : Int) := by omega
                    clear hbl hq hfree h00 hi hi3
                    go_wp2_with fail
                    refine (HPR.out _ _ HY1.out.base.brd.to).mono ?_
                    rintro r wq ⟨rfl, hMq⟩
                    have HYq := Lib.hid (HY1.out.none hMq)
                    have k0 : wq.cell? ⟨g0, 0, none⟩ = some (.int .i64 qx) := (HYq.out.base.p0.cells H00.out).1
                    have k1 : wq.cell? ⟨g0, 1, none⟩ = some (.int .i64 qy) := (HYq.out.base.p0.cells H00.out).2
                    clear hMq HY1
                    go_wp2_with fail
                    refine (HBL.out _ HYq.out.base.brd.to).mono ?_
                    rintro r wz ⟨rfl, hMz⟩
                    have HMZ := Lib.hid hMz
                    clear hMz
                    go_wp2_with fail
                    go_ret
                    exact ⟨rfl, HYq.out.base.m.then HMZ.out⟩
end Go.Proofs.Ytlndgnlkfhlekaa
