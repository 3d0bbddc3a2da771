/- MacMemory: the law's walk. -/
import Derived.Test.YtheamejbfopdaaaDoorMacF
import Derived.Test.YtheamejbfopdaaaDoorStrsO
namespace Go.Proofs.YtheamejbfopdaaaDoor
open Go.RowKit

theorem info_str : (Tryd.prog.info? 9).map (fun i => (i.zero, i.size, i.bytes)) = some (some (.string ⟨#[]⟩), 1, 16) := by kernel_rfl
theorem size_str : (Tryd.prog.info? 9).map (·.size) = some 1 := by kernel_rfl
def strs (ss : List ByteArray) : List Value := ss.map Value.string
theorem one_strs (ss : List ByteArray) : ∀ v ∈ strs ss, v.oneCell' = true := by
  intro v hv
  obtain ⟨s, _, rfl⟩ := List.mem_map.1 hv
  rfl
/-- v is a list of the call's own that holds these texts -/
def OwnS (w : World) (base : Nat) (v : Value) (ss : List ByteArray) : Prop := w.ownsRow base 9 1 v ss.length (strs ss)
theorem OwnS.cases {w : World} {base : Nat} {v : Value} {ss : List ByteArray} (h : OwnS w base v ss) :
    (v = .slice none 0 0 ∧ ss = []) ∨ ∃ g cap rest, v = .slice (some ⟨g, 0, none⟩) ss.length cap ∧ base ≤ g ∧ Blk w g (strs ss ++ rest) 9 ∧ ss.length ≤ cap := by
  obtain ⟨h1, h2 | ⟨g, cap, cur, h3, h4, h5, h6, h7, h8, h9⟩⟩ := h
  · left; exact ⟨h2.1, List.eq_nil_of_length_eq_zero h2.2⟩
  · right
    refine ⟨g, cap, cur.toList.drop ss.length, h3, h4, ?_, h6⟩
    rw [Nat.mul_one] at h9
    have e : strs ss ++ cur.toList.drop ss.length = cur.toList := (congrArg (· ++ cur.toList.drop ss.length) h9).symm.trans (List.take_append_drop _ _)
    rw [Blk, h5, e, Array.toArray_toList]
theorem OwnS.own_ge {w : World} {base : Nat} {v : Value} {xs : List ByteArray} (h : OwnS w base v xs) {b : Nat} (e : v.ownBlock = some b) : base ≤ b := by
  obtain ⟨h1, h2 | ⟨g, cap, cur, h3, h4, h5, h6, h7, h8, h9⟩⟩ := h
  · rw [h2.1] at e; cases e
  · rw [h3] at e
    have : g = b := Option.some.inj e
    omega
theorem OwnS.modO {S : Nat → Prop} {w w' : World} {base : Nat} {v : Value} {xs : List ByteArray} (h : OwnS w base v xs) (hM : Mod S w w') (hS : ∀ g, v.ownBlock = some g → ¬ S g) : OwnS w' base v xs := by
  obtain ⟨h1, h2 | ⟨g, cap, cur, h3, h4, h5, h6, h7, h8, h9⟩⟩ := h
  · exact ⟨h1, Or.inl h2⟩
  · exact ⟨h1, Or.inr ⟨g, cap, cur, h3, h4, (hM.blk (b := g) (cs := cur.toList) (t := 9) h5 (hS g (by rw [h3]; rfl))), h6, h7, h8, h9⟩⟩
theorem wpList_append_strs {ops : Array Oper} {rest : List Oper} {o : Oper} {a : Act} {w : World} {Q : Exit → Act → World → Prop} (hgd : o.guard = none) (s x : Operand)
    (ho : o.op = .call { callee := .builtin .append, args := #[s, x], argTypes := #[44, 44] }) (base : Nat)
    (v : Value) (ss : List ByteArray) (hs : a.eval s = v) (hown : OwnS w base v ss) (sa : Option Addr) (m c : Nat) (us : List ByteArray) (hx : a.eval x = .slice sa m c) (B : Nat) (hu : StrsAt w B sa m us) (h0 : sa = none → m = 0 ∧ c = 0)
    (hlen : (ss.length + m) * 16 ≤ 140737488355328) (hbase : base ≤ w.heap.size)
    (h : ∀ v' w', OwnS w' base v' (ss ++ us) → w.grownBy w' v.ownBlock → wpList Tryd.prog ops Q rest (a.put o.dst v') w') : wpList Tryd.prog ops Q (o :: rest) a w := by
  obtain ⟨i, hi, hz0, hz1, hz2⟩ := info_parts info_str
  cases sa with
  | none =>
    obtain ⟨rfl, rfl⟩ := h0 rfl
    obtain rfl : us = [] := List.eq_nil_of_length_eq_zero hu.1
    refine wpList_append_own_none hgd s x 44 ho base 9 i 1 under_s44 hi v ss.length (strs ss) hs hown hx ?_
    exact h v w (by rw [List.append_nil]; exact hown) ⟨rfl, rfl, rfl, Nat.le_refl _, fun _ _ _ => rfl⟩
  | some ad =>
    refine wpList_append_own w hgd s x 44 ho base 9 i (.string ⟨#[]⟩) 1 16 under_s44 hi hz0 hz1 hz2 rfl (by decide) v ss.length (strs ss) hs hown ad m c (strs us) hx (by rw [strs, List.length_map, hu.1, Nat.mul_one]) ?_ (one_strs us) (by unfold maxLen; omega) hlen hbase ?_
    · intro j y hj
      have hj' : j < us.length := by have := (List.getElem?_eq_some_iff.1 hj).1; simpa [strs] using this
      obtain ⟨lb, lo, e, _, hc⟩ := hu.2 (by rw [← hu.1]; omega)
      obtain rfl : ad = ⟨lb, lo, none⟩ := by simpa using e
      rw [Addr.add_mid, hc j us[j] (List.getElem?_eq_getElem hj'), ← hj, strs, List.getElem?_map, List.getElem?_eq_getElem hj']; rfl
    · intro v' w' ho' hg _
      refine h v' w' ?_ hg
      unfold OwnS
      rw [List.length_append, hu.1]
      simpa [strs] using ho'
theorem strs_at {w : World} {g : Nat} {ss : List ByteArray} {rest : List Value} {n : Nat} (h : Blk w g (strs ss ++ rest) 9) (hn : ss.length = n) {B : Nat} (hB : g < B) : StrsAt w B (some ⟨g, 0, none⟩) n ss := by
  refine ⟨hn, fun _ => ⟨g, 0, rfl, hB, fun i s hi => h.cell ?_⟩⟩
  have hil := (List.getElem?_eq_some_iff.1 hi).1
  rw [Nat.zero_add, List.getElem?_append_left (by simpa [strs] using hil), strs, List.getElem?_map, hi]; rfl
theorem said_len (use : List Int) (L : Nat) (ps : List (List Int)) (h : ∀ p ∈ ps, p.length ≤ L) : (Mac.said use ps).length ≤ use.length + 1 + (8 + L) * ps.length := by
  have h2 : ∀ l : List (List Int), (∀ p ∈ l, p.length ≤ L) → ((l.map fun p => Sha.be p.length ++ p).flatten).length ≤ (8 + L) * l.length := by
    intro l hl
    induction l with
    | nil => simp
    | cons p l ih =>
      have h3 := ih (fun q hq => hl q (List.mem_cons_of_mem _ hq))
      have h4 := hl p (List.mem_cons_self ..)
      simp only [List.map_cons, List.flatten_cons, List.length_append, Sha.length_be, List.length_cons, Nat.mul_succ]
      omega
  have := h2 ps h
  rw [Mac.said_eq]
  simp only [List.length_append, List.length_cons, List.length_nil]
  omega
theorem two_strs (w : World) (s t : ByteArray) (X : TypeId) : StrsAt (w.alloc (.cells #[.string s, .string t] X)) (w.heap.size + 1) (some ⟨w.heap.size, 0, none⟩) 2 [s, t] := by
  refine ⟨rfl, fun _ => ⟨_, _, rfl, Nat.lt_succ_self _, fun i u hi => ?_⟩⟩
  rw [Nat.zero_add, World.cell?_alloc_new]
  match i, hi with
  | 0, hi => obtain rfl : s = u := by simpa using hi
             rfl
  | 1, hi => obtain rfl : t = u := by simpa using hi
             rfl
  | k + 2, hi => simp at hi

def roomB : ByteArray := ⟨#[114, 111, 111, 109]⟩
def bangB : ByteArray := ⟨#[33]⟩
/-- the list with its first k texts written over -/
def banged (ss : List ByteArray) (k : Nat) : List ByteArray := List.replicate k bangB ++ ss.drop k
theorem length_banged (ss : List ByteArray) (k : Nat) (h : k ≤ ss.length) : (banged ss k).length = ss.length := by simp [banged]; omega
theorem banged_get (ss : List ByteArray) (k : Nat) : (banged ss k)[k]? = ss[k]? := by
  rw [banged, List.getElem?_append_right (by simp), List.length_replicate, Nat.sub_self, List.getElem?_drop, Nat.add_zero]
theorem banged_set (ss : List ByteArray) (k : Nat) (h : k < ss.length) : (banged ss k).set k bangB = banged ss (k + 1) := by
  rw [banged, banged, List.set_append_right _ _ (by simp), List.length_replicate, Nat.sub_self, List.replicate_succ', List.append_assoc]
  congr 1
  rw [List.drop_eq_getElem_cons h]
  rfl
set_option maxHeartbeats 2000000 in
set_option maxRecDepth 100000 in
theorem macMemory_any (w : World) (hK : Rounds w) (sec : ByteArray) (sa : Option Addr) (n c : Nat) (ss : List ByteArray) (hp : StrsAt w w.heap.size sa n ss) (h0 : sa = none → n = 0 ∧ c = 0) (hsec : sec.size ≤ 140737488355328)
    (hn : n ≤ 4398046511104) (hl : (Mac.said (num useB) (ss.map num)).length ≤ 70368744177664) :
    Calls Tryd.prog 11 #[.string sec, .slice sa n c] w fun e w' => e = .returned (.bool true) ∧ Mod none_ w w' := by
  have HP := Lib.hid hp; have HL := Lib.hid hl
  clear hp hl
  go_enter Tryd.func11, Tryd.ntmps11
  go_wp2_with fail
  refine (alive2_any w hK).mono ?_
  rintro e w1 ⟨rfl, hM1⟩
  have hp1 := (HP.out.mod hM1 (fun _ _ h => h))
  have hs1 := hM1.size
  have hlen1 : (([] : List ByteArray).length + n) * 16 ≤ 140737488355328 := by simp; omega
  have HP1 := Lib.hid hp1; have H0 := Lib.hid h0
  clear hp1 h0
  go_upto_region 5 with (refine wpList_append_strs rfl _ (.tmp 12) rfl w.heap.size (.slice none 0 0) [] rfl ⟨rfl, Or.inl ⟨rfl, rfl⟩⟩ sa n c ss rfl w.heap.size HP1.out H0.out hlen1 hs1 ?_; intro v2 w2 hv2 hg2)
  rw [List.nil_append] at hv2
  have hM2 : Mod none_ w w2 := hM1.trans (Mod.grownBy (S := none_) hg2 (fun j _ e => by cases e)) (fun _ _ h => h)
  have hsl := HP.out.1
  have hlen2 : (ss.length + 2) * 16 ≤ 140737488355328 := by omega
  have hs2 := hM2.size
  clear hg2 hM1 HP1
  go_upto_region 6 with (refine wpList_append_strs rfl _ (.tmp 15) rfl w.heap.size v2 ss rfl (hv2.modO ((Mod.refl none_ _).alloc _) (fun _ _ h => h)) (some ⟨w2.heap.size, 0, none⟩) 2 2 [roomB, roomB] rfl (w2.heap.size + 1) (two_strs w2 _ _ _) (fun h => by cases h) hlen2 (by simp; omega) ?_; intro v3 w3 hv3 hg3)
  have hM3 : Mod none_ w w3 := (hM2.alloc _).trans (Mod.grownBy (S := fun b => v2.ownBlock = some b) hg3 (fun j _ e => e)) (fun b hb e => by have := hv2.own_ge e; omega)
  rcases hv3.cases with ⟨_, e⟩ | ⟨W, cap, rest, rfl, hW, hB, hcap⟩
  · have := congrArg List.length e
    simp at this
  have hlw : (ss ++ [roomB, roomB]).length = n + 2 := by rw [List.length_append, hsl]; rfl
  rw [hlw] at hcap ⊢
  have hB1 : Blk w3 W (strs ss ++ (strs [roomB, roomB] ++ rest)) 9 := hB.cs (by simp [strs])
  have hK3 := hK.mod hM3 (fun h => h)
  have hde := derive_any w3 hK3 sec useB (some ⟨W, 0, none⟩) n cap ss (strs_at hB1 hsl hB1.lt) hsec (by have := HL.out; omega)
  obtain ⟨a1, e0, e1, hs1'⟩ := slice_to_any (P := Tryd.prog) 44 9 under_s44 size_str (some ⟨W, 0, none⟩) (n + 2) cap n (by omega)
  obtain rfl : a1 = some ⟨W, 0, none⟩ := e1 W 0 rfl
  obtain ⟨X, hX⟩ : ∃ X, strOf (Mac.tag (num sec) (Mac.said (num useB) (ss.map num))) = X := ⟨_, rfl⟩
  rw [hX] at hde
  have HX := Lib.hid hX; have HDE := Lib.hid hde
  clear e0 e1 hv3 hg3 hv2 hM2 hB hX hde hK3
  go_wp2_with fail
  refine HDE.out.mono ?_
  rintro e w4 ⟨rfl, hM4⟩
  have hM4' := hM3.then hM4
  have hB4 := hM4.blk hB1 (fun h => h)
  clear hM3 hM4 hB1 HDE hs1'
  go_wp2_with fail
  go_loopw [7] (fun i wr => ∃ k : Nat, k ≤ n ∧ i = .int .i64 k ∧ Blk wr W (strs (banged ss k) ++ (strs [roomB, roomB] ++ rest)) 9 ∧ Mod none_ w wr) (fun i _ => n - (intOf i).toNat)
  case atStart => exact ⟨0, by omega, rfl, hB4.cs (by simp [banged]), hM4'⟩
  case round =>
    clear hB4 hM4'
    obtain ⟨k, hk, rfl, hB, hM⟩ := hrel
    have hlb := length_banged ss k (by omega)
    by_cases hlt : k < n
    · obtain ⟨lb, lo, rfl, hlb2, hcc⟩ := HP.out.2 (by omega)
      obtain ⟨s, hs⟩ : ∃ s, ss[k]? = some s := ⟨_, List.getElem?_eq_getElem (by omega)⟩
      have qs : ∀ q, (wr.drewN q).cell? ⟨lb, lo + k, none⟩ = some (.string s) := fun q => hM.cellS (hcc k s hs) (fun h => h)
      have hrow : (strs (banged ss k) ++ (strs [roomB, roomB] ++ rest))[k]? = some (.string s) := by
        rw [List.getElem?_append_left (by simp [strs]; omega), strs, List.getElem?_map, banged_get, hs]; rfl
      have qw : ∀ q, (wr.drewN q).cell? ⟨W, k, none⟩ = some (.string s) := fun q => hB.cell hrow
      have hki : (k : Int) < (n : Int) := by omega
      have hset : (strs (banged ss k) ++ (strs [roomB, roomB] ++ rest)).set k (.string bangB) = strs (banged ss (k + 1)) ++ (strs [roomB, roomB] ++ rest) := by
        rw [List.set_append_left _ _ (by simp [strs]; omega), strs, ← List.map_set, banged_set ss k (by omega)]; rfl
      have HSET := Lib.hid hset; have HB := Lib.hid hB
      have qs0 := qs 0
      have qw0 := qw 0
      clear hset hB hrow hcc hs
      go_wp2_with fail
      go_quiet (fail)
      go_upto_region 12 with fail
      have qw1 := qw nq
      have fw1 : (wr.drewN nq).frozen? ⟨W, k, none⟩ = false := (HB.out.drewN nq).frozen k
      have hB9 : Blk ((wr.drewN nq).setCell ⟨W, k, none⟩ (.string ⟨#[33]⟩)) W (strs (banged ss (k + 1)) ++ (strs [roomB, roomB] ++ rest)) 9 := ((HB.out.drewN nq).set k _).cs HSET.out
      have hM9 : Mod none_ w ((wr.drewN nq).setCell ⟨W, k, none⟩ (.string ⟨#[33]⟩)) := (hM.drewN nq).setCell (fun h => by have : W < w.heap.size := h; omega) _
      have HB9 := Lib.hid hB9; have HM9 := Lib.hid hM9
      clear qs qw qs0 qw0 hB9 hM9 HB
      go_wp2_with fail
      go_roundw
      case rel => exact ⟨k + 1, by omega, by go_num, HB9.out, HM9.out⟩
      case measure => simp [intOf]; omega
    · have hkn : k = n := by omega
      subst hkn
      have hki : ¬ (k : Int) < (k : Int) := by omega
      have hWH : Blk wr W (strs (banged ss k ++ [roomB, roomB]) ++ rest) 9 := hB.cs (by simp [strs])
      have hlWH : (banged ss k ++ [roomB, roomB]).length = k + 2 := by rw [List.length_append, hlb, hsl]; rfl
      have qr : wr.cell? ⟨W, k, none⟩ = some (.string ⟨#[114, 111, 111, 109]⟩) := hB.cell (by
        rw [List.getElem?_append_right (by simp [strs]; omega)]
        have : k - (strs (banged ss k)).length = 0 := by simp [strs]; omega
        rw [this]; rfl)
      have qr2 : wr.cell? ⟨W, k + 1, none⟩ = some (.string ⟨#[114, 111, 111, 109]⟩) := hB.cell (by
        rw [List.getElem?_append_right (by simp [strs]; omega)]
        have : k + 1 - (strs (banged ss k)).length = 1 := by simp [strs]; omega
        rw [this]; rfl)
      have hlS : (Mac.said (num useB) ((banged ss k ++ [roomB, roomB]).map num)).length ≤ 140737488355328 := by
        have h1 := said_len (num useB) 4 ((banged ss k ++ [roomB, roomB]).map num) (fun p hp => by
          obtain ⟨u, hu, rfl⟩ := List.mem_map.1 hp
          rw [length_num]
          rcases List.mem_append.1 hu with h | h
          · rw [banged, List.drop_of_length_le (by omega), List.append_nil] at h
            rw [List.eq_of_mem_replicate h]; decide
          · have : u = roomB := by simpa using h
            rw [this]; decide)
        rw [List.length_map, hlWH] at h1
        have hu3 : (num useB).length = 3 := rfl
        omega
      have hnS : num (strOf (Mac.said (num useB) ((banged ss k ++ [roomB, roomB]).map num))) = Mac.said (num useB) ((banged ss k ++ [roomB, roomB]).map num) := num_strOf _ (Mac.bytes_said (bytes_num _) (bytes_nums_map _))
      have hzS : (strOf (Mac.said (num useB) ((banged ss k ++ [roomB, roomB]).map num))).size ≤ 140737488355328 := by rw [size_strOf]; exact hlS
      have hat := strs_at hWH hlWH hWH.lt
      have hde := fun (wx : World) (hK : Rounds wx) (hM : Mod none_ wr wx) => derive_any wx hK sec useB (some ⟨W, 0, none⟩) (k + 2) cap _ ((hat.mod hM (fun _ _ h => h)).mono hM.size) hsec hlS
      have hsa := fun (wx : World) (hM : Mod none_ wr wx) => said_any wx useB (some ⟨W, 0, none⟩) (k + 2) cap _ ((hat.mod hM (fun _ _ h => h)).mono hM.size) hlS
      rw [← hnS] at hde
      obtain ⟨S3, hS3⟩ : ∃ S3, strOf (Mac.said (num useB) ((banged ss k ++ [roomB, roomB]).map num)) = S3 := ⟨_, rfl⟩
      rw [hS3] at hzS hde
      simp only [hS3] at hsa
      have hdp := fun (wx : World) (hM : Mod none_ w wx) => derive_any wx (hK.mod hM (fun h => h)) sec useB sa k c ss ((HP.out.mod hM (fun _ _ h => h)).mono hM.size) hsec (by have := HL.out; omega)
      rw [HX.out] at hdp
      have HDE := Lib.hid hde; have HSA := Lib.hid hsa; have HDP := Lib.hid hdp
      clear hde hsa hdp hnS hlS hat hS3 hB hWH
      have hK6 := hK.mod hM (fun h => h)
      go_wp2_with fail
      refine (HDE.out wr hK6 (Mod.refl _ _)).mono ?_
      rintro e w6 ⟨rfl, hM6⟩
      have hM6' := hM.then hM6
      have HSM := HSA.out
      clear qr qr2
      go_wp2_with fail
      refine (HDP.out w6 hM6').mono ?_
      rintro e w7 ⟨rfl, hM7⟩
      have hM7' := hM6'.then hM7
      have hr7 := hM6.then hM7
      clear hM7 hM6'
      go_wp2_with fail
      refine (HSM w7 hr7).mono ?_
      rintro e w8 ⟨rfl, hM8⟩
      have hM8' := hM7'.then hM8
      have hK8 := hK.mod hM8' (fun h => h)
      clear hM8 hM7' hr7 HSM HSA
      go_wp2_with fail
      refine (tag_b _ hK8 _ _ _ rfl hsec hzS).mono ?_
      rintro e w9 ⟨rfl, hM9⟩
      have hM9' := hM8'.then hM9
      clear hM9 hM8'
      go_wp2_with fail
      go_ret
      exact ⟨rfl, hM9'⟩
open Go.ChangeShapes Go.WideShapes Go.Deep in
/-- a nil list has no room -/
theorem strs_none {H : Type} {enc : TypeId × Value → H} {W : World} {n c : Nat} {d : DataW H} {ps : List MemPlace} (h : DataW.Trod enc Tryd.prog W 0 (fun _ => true) true 44 (.slice none n c) d ps) : n = 0 ∧ c = 0 := by
  obtain ⟨fuel, hf⟩ := h
  rcases open_strs Tryd.underlying44 Tryd.underlying9 (by kernel_rfl) hf with ⟨hcs, _⟩ | ⟨a, len, cap, m, S, hcs, _⟩
  · simp [Value.cells] at hcs
    exact hcs
  · simp [Value.cells] at hcs
end Go.Proofs.YtheamejbfopdaaaDoor
