/- cookie.Jar: New, Epoch, Bake. -/
import Derived.Test.YtlndgnlkfhlekaaDoorCkC
namespace Go.Proofs.YtlndgnlkfhlekaaDoor
open Go.RowKit

/-- the cells of a jar -/
def JarC (e : Int) (now was : ByteArray) : List Value := .int .u64 e :: (Sha.bcells (num now) ++ Sha.bcells (num was))
structure JarAt (w : World) (b : Nat) (e : Int) (now was : ByteArray) : Prop where
  blk : Blk w b (JarC e now was) 41
  now32 : now.size = 32
  was32 : was.size = 32
  e64 : 1 ≤ e ∧ e < 18446744073709551616
theorem JarAt.mod {S : Nat → Prop} {w w' : World} {b : Nat} {e : Int} {now was : ByteArray} (h : JarAt w b e now was) (hM : Mod S w w') (hS : ¬ S b) : JarAt w' b e now was := ⟨hM.blk h.blk hS, h.now32, h.was32, h.e64⟩
theorem bc32 {s : ByteArray} (h : s.size = 32) : (Sha.bcells (num s)).length = 32 := by rw [Sha.bcells, List.length_map, length_num, h]
theorem JarAt.now {w : World} {b : Nat} {e : Int} {now was : ByteArray} (h : JarAt w b e now was) : w.rangeAt b 1 (Sha.bcells (num now)) :=
  h.blk.range 1 _ fun j v hj => by
    have hl := (List.getElem?_eq_some_iff.1 hj).1
    rw [JarC, Nat.add_comm, List.getElem?_cons_succ, List.getElem?_append_left hl, hj]
theorem JarAt.was {w : World} {b : Nat} {e : Int} {now was : ByteArray} (h : JarAt w b e now was) : w.rangeAt b 33 (Sha.bcells (num was)) :=
  h.blk.range 33 _ fun j v hj => by
    have hn := bc32 h.now32
    rw [JarC, show 33 + j = (32 + j) + 1 by omega, List.getElem?_cons_succ, List.getElem?_append_right (by omega), hn, show 32 + j - 32 = j by omega, hj]
theorem JarAt.epoch {w : World} {b : Nat} {e : Int} {now was : ByteArray} (h : JarAt w b e now was) : w.cell? ⟨b, 0, none⟩ = some (.int .u64 e) := h.blk.cell rfl

theorem cons_of_length {n : Nat} {l : List Value} (h : l.length = n + 1) : ∃ x r, l = x :: r ∧ r.length = n := by
  cases l with
  | nil => simp at h
  | cons x r => exact ⟨x, r, rfl, by simpa using h⟩
theorem built_epochs (l : List Value) (hl : l.length = 32) : Tryd.prog.built 39 [(0, .int .u64 1), (1, .agg l.toArray)] = some (Value.int .u64 1 :: (l ++ Sha.bcells (Sha.zeros 32))).toArray := by
  obtain ⟨x0, l0, rfl, h0⟩ := cons_of_length hl
  obtain ⟨x1, l1, rfl, h1⟩ := cons_of_length h0
  obtain ⟨x2, l2, rfl, h2⟩ := cons_of_length h1
  obtain ⟨x3, l3, rfl, h3⟩ := cons_of_length h2
  obtain ⟨x4, l4, rfl, h4⟩ := cons_of_length h3
  obtain ⟨x5, l5, rfl, h5⟩ := cons_of_length h4
  obtain ⟨x6, l6, rfl, h6⟩ := cons_of_length h5
  obtain ⟨x7, l7, rfl, h7⟩ := cons_of_length h6
  obtain ⟨x8, l8, rfl, h8⟩ := cons_of_length h7
  obtain ⟨x9, l9, rfl, h9⟩ := cons_of_length h8
  obtain ⟨x10, l10, rfl, h10⟩ := cons_of_length h9
  obtain ⟨x11, l11, rfl, h11⟩ := cons_of_length h10
  obtain ⟨x12, l12, rfl, h12⟩ := cons_of_length h11
  obtain ⟨x13, l13, rfl, h13⟩ := cons_of_length h12
  obtain ⟨x14, l14, rfl, h14⟩ := cons_of_length h13
  obtain ⟨x15, l15, rfl, h15⟩ := cons_of_length h14
  obtain ⟨x16, l16, rfl, h16⟩ := cons_of_length h15
  obtain ⟨x17, l17, rfl, h17⟩ := cons_of_length h16
  obtain ⟨x18, l18, rfl, h18⟩ := cons_of_length h17
  obtain ⟨x19, l19, rfl, h19⟩ := cons_of_length h18
  obtain ⟨x20, l20, rfl, h20⟩ := cons_of_length h19
  obtain ⟨x21, l21, rfl, h21⟩ := cons_of_length h20
  obtain ⟨x22, l22, rfl, h22⟩ := cons_of_length h21
  obtain ⟨x23, l23, rfl, h23⟩ := cons_of_length h22
  obtain ⟨x24, l24, rfl, h24⟩ := cons_of_length h23
  obtain ⟨x25, l25, rfl, h25⟩ := cons_of_length h24
  obtain ⟨x26, l26, rfl, h26⟩ := cons_of_length h25
  obtain ⟨x27, l27, rfl, h27⟩ := cons_of_length h26
  obtain ⟨x28, l28, rfl, h28⟩ := cons_of_length h27
  obtain ⟨x29, l29, rfl, h29⟩ := cons_of_length h28
  obtain ⟨x30, l30, rfl, h30⟩ := cons_of_length h29
  obtain ⟨x31, l31, rfl, h31⟩ := cons_of_length h30
  obtain rfl : l31 = [] := List.eq_nil_of_length_eq_zero h31
  kernel_rfl
theorem built_jar (e : Int) (l m : List Value) (hl : l.length = 32) (hm : m.length = 32) : Tryd.prog.built 41 [(0, .agg (Value.int .u64 e :: (l ++ m)).toArray)] = some (Value.int .u64 e :: (l ++ m)).toArray := by
  obtain ⟨x0, l0, rfl, h0⟩ := cons_of_length hl
  obtain ⟨x1, l1, rfl, h1⟩ := cons_of_length h0
  obtain ⟨x2, l2, rfl, h2⟩ := cons_of_length h1
  obtain ⟨x3, l3, rfl, h3⟩ := cons_of_length h2
  obtain ⟨x4, l4, rfl, h4⟩ := cons_of_length h3
  obtain ⟨x5, l5, rfl, h5⟩ := cons_of_length h4
  obtain ⟨x6, l6, rfl, h6⟩ := cons_of_length h5
  obtain ⟨x7, l7, rfl, h7⟩ := cons_of_length h6
  obtain ⟨x8, l8, rfl, h8⟩ := cons_of_length h7
  obtain ⟨x9, l9, rfl, h9⟩ := cons_of_length h8
  obtain ⟨x10, l10, rfl, h10⟩ := cons_of_length h9
  obtain ⟨x11, l11, rfl, h11⟩ := cons_of_length h10
  obtain ⟨x12, l12, rfl, h12⟩ := cons_of_length h11
  obtain ⟨x13, l13, rfl, h13⟩ := cons_of_length h12
  obtain ⟨x14, l14, rfl, h14⟩ := cons_of_length h13
  obtain ⟨x15, l15, rfl, h15⟩ := cons_of_length h14
  obtain ⟨x16, l16, rfl, h16⟩ := cons_of_length h15
  obtain ⟨x17, l17, rfl, h17⟩ := cons_of_length h16
  obtain ⟨x18, l18, rfl, h18⟩ := cons_of_length h17
  obtain ⟨x19, l19, rfl, h19⟩ := cons_of_length h18
  obtain ⟨x20, l20, rfl, h20⟩ := cons_of_length h19
  obtain ⟨x21, l21, rfl, h21⟩ := cons_of_length h20
  obtain ⟨x22, l22, rfl, h22⟩ := cons_of_length h21
  obtain ⟨x23, l23, rfl, h23⟩ := cons_of_length h22
  obtain ⟨x24, l24, rfl, h24⟩ := cons_of_length h23
  obtain ⟨x25, l25, rfl, h25⟩ := cons_of_length h24
  obtain ⟨x26, l26, rfl, h26⟩ := cons_of_length h25
  obtain ⟨x27, l27, rfl, h27⟩ := cons_of_length h26
  obtain ⟨x28, l28, rfl, h28⟩ := cons_of_length h27
  obtain ⟨x29, l29, rfl, h29⟩ := cons_of_length h28
  obtain ⟨x30, l30, rfl, h30⟩ := cons_of_length h29
  obtain ⟨x31, l31, rfl, h31⟩ := cons_of_length h30
  obtain rfl : l31 = [] := List.eq_nil_of_length_eq_zero h31
  obtain ⟨y0, m0, rfl, g0⟩ := cons_of_length hm
  obtain ⟨y1, m1, rfl, g1⟩ := cons_of_length g0
  obtain ⟨y2, m2, rfl, g2⟩ := cons_of_length g1
  obtain ⟨y3, m3, rfl, g3⟩ := cons_of_length g2
  obtain ⟨y4, m4, rfl, g4⟩ := cons_of_length g3
  obtain ⟨y5, m5, rfl, g5⟩ := cons_of_length g4
  obtain ⟨y6, m6, rfl, g6⟩ := cons_of_length g5
  obtain ⟨y7, m7, rfl, g7⟩ := cons_of_length g6
  obtain ⟨y8, m8, rfl, g8⟩ := cons_of_length g7
  obtain ⟨y9, m9, rfl, g9⟩ := cons_of_length g8
  obtain ⟨y10, m10, rfl, g10⟩ := cons_of_length g9
  obtain ⟨y11, m11, rfl, g11⟩ := cons_of_length g10
  obtain ⟨y12, m12, rfl, g12⟩ := cons_of_length g11
  obtain ⟨y13, m13, rfl, g13⟩ := cons_of_length g12
  obtain ⟨y14, m14, rfl, g14⟩ := cons_of_length g13
  obtain ⟨y15, m15, rfl, g15⟩ := cons_of_length g14
  obtain ⟨y16, m16, rfl, g16⟩ := cons_of_length g15
  obtain ⟨y17, m17, rfl, g17⟩ := cons_of_length g16
  obtain ⟨y18, m18, rfl, g18⟩ := cons_of_length g17
  obtain ⟨y19, m19, rfl, g19⟩ := cons_of_length g18
  obtain ⟨y20, m20, rfl, g20⟩ := cons_of_length g19
  obtain ⟨y21, m21, rfl, g21⟩ := cons_of_length g20
  obtain ⟨y22, m22, rfl, g22⟩ := cons_of_length g21
  obtain ⟨y23, m23, rfl, g23⟩ := cons_of_length g22
  obtain ⟨y24, m24, rfl, g24⟩ := cons_of_length g23
  obtain ⟨y25, m25, rfl, g25⟩ := cons_of_length g24
  obtain ⟨y26, m26, rfl, g26⟩ := cons_of_length g25
  obtain ⟨y27, m27, rfl, g27⟩ := cons_of_length g26
  obtain ⟨y28, m28, rfl, g28⟩ := cons_of_length g27
  obtain ⟨y29, m29, rfl, g29⟩ := cons_of_length g28
  obtain ⟨y30, m30, rfl, g30⟩ := cons_of_length g29
  obtain ⟨y31, m31, rfl, g31⟩ := cons_of_length g30
  obtain rfl : m31 = [] := List.eq_nil_of_length_eq_zero g31
  kernel_rfl
theorem wpList_built {ops : Array Oper} {rest : List Oper} {o : Oper} {a : Act} {w : World} {Q : Exit → Act → World → Prop} (hg : o.guard = none) (t : TypeId) (parts : Array (Nat × Operand)) (ho : o.op = .build t parts) (cells : Array Value)
    (hf : Tryd.prog.built t (parts.map fun (i, x) => (i, a.eval x)).toList = some cells)
    (h : wpList Tryd.prog ops Q rest (a.put o.dst (.agg cells)) w) : wpList Tryd.prog ops Q (o :: rest) a w := by
  refine wpList_plain hg fun K hK => ?_
  unfold Oper.wp execOp
  simp only [ho, Sem.run_bind, run_build w t _ cells hf, Result.andThen_ok]
  exact hK _ _ h

set_option maxHeartbeats 1000000 in
set_option maxRecDepth 100000 in
theorem ckNew_any (w : World) (hK : Rounds w) (seed : ByteArray) (hf : Fits seed) :
    Calls Tryd.prog 9 #[.string seed] w fun r w' => ∃ b, r = .returned (.pointer (some ⟨b, 0, none⟩)) ∧ w.heap.size ≤ b ∧ JarAt w' b 1 (Ck.dv seed Ck.cookieB []) Ck.zeroB ∧ Mod none_ w w' := by
  go_enter Tryd.func9, Tryd.ntmps9
  go_wp2_with fail
  refine (derive_s w hK seed Ck.cookieB none 0 0 [] (strs_nil _ _) hf fits_cookie (by simp) (by simp)).mono ?_
  rintro r w1 ⟨rfl, hM1⟩
  have hz := Ck.size_dv seed Ck.cookieB []
  obtain ⟨k, hk⟩ : ∃ k, Ck.dv seed Ck.cookieB [] = k := ⟨_, rfl⟩
  rw [hk] at hz ⊢
  go_wp2_with fail
  refine (ckof_any w1 k hz).mono ?_
  rintro r w2 ⟨rfl, hM2⟩
  have hM3 := hM1.then hM2
  have hl := bc32 hz
  have hz2 : (Sha.bcells (Sha.zeros 32)).length = 32 := rfl
  clear hM1 hM2
  go_wp2_with (first | (refine wpList_built rfl 39 _ rfl (Value.int .u64 1 :: (Sha.bcells (num k) ++ Sha.bcells (Sha.zeros 32))).toArray ?hbu ?_; case hbu => (go_simp; exact built_epochs _ hl)) | (refine wpList_built rfl 41 _ rfl (Value.int .u64 1 :: (Sha.bcells (num k) ++ Sha.bcells (Sha.zeros 32))).toArray ?hbu ?_; case hbu => (go_simp; exact built_jar 1 _ _ hl hz2)))
  go_ret
  refine ⟨w2.heap.size, rfl, hM3.size, ?_, hM3.alloc _⟩
  have hzz : num Ck.zeroB = Sha.zeros 32 := num_strOf _ (by intro x hx; simp [Sha.zeros] at hx; omega)
  rw [hk]
  exact ⟨by rw [JarC, hzz]; exact Blk.new w2 (Value.int .u64 1 :: (Sha.bcells (num k) ++ Sha.bcells (Sha.zeros 32))) 41, hz, Ck.size_zero, by omega⟩

theorem ckEpoch_any (w : World) (b : Nat) (e : Int) (now was : ByteArray) (h : JarAt w b e now was) :
    Calls Tryd.prog 12 #[.pointer (some ⟨b, 0, none⟩)] w fun r w' => r = .returned (.int .u64 e) ∧ w' = w := by
  have q := h.epoch
  go_enter Tryd.func12, Tryd.ntmps12
  go_wp2
  go_ret
  exact ⟨rfl, rfl⟩

set_option maxHeartbeats 1000000 in
set_option maxRecDepth 100000 in
theorem ckBake_any (w : World) (hK : Rounds w) (j : Nat) (e : Int) (now was a b : ByteArray) (h : JarAt w j e now was) (ha : Fits a) (hb : Fits b) :
    Calls Tryd.prog 14 #[.pointer (some ⟨j, 0, none⟩), .string a, .string b] w fun r w' => r = .returned (.string (Ck.ck now a b e)) ∧ Mod none_ w w' := by
  have q := h.epoch
  have hr := h.now
  have hl := bc32 h.now32
  go_enter Tryd.func14, Tryd.ntmps14
  have hbk := fun (q : World) (hM : Mod none_ w q) => bake_any q (hK.mod hM (fun h => h)) now a b e (by have := h.e64; omega) h.now32 ha hb
  have hlC : (Sha.bcells (num (Ck.ck now a b e))).length = 32 := bc32 (Ck.size_ck _ _ _ _)
  obtain ⟨C, hC⟩ : ∃ C, Ck.ck now a b e = C := ⟨_, rfl⟩
  rw [hC] at hbk hlC
  have hone := Sha.one_b (num C)
  have hsz := size_sec
  have hun := under_sec
  have hm0 : Mod none_ w w := Mod.refl _ _
  have hle : w.heap.size ≤ w.heap.size := Nat.le_refl _
  have HBK := Lib.hid hbk
  have hr0 := hr
  have q0 := q
  have hsl := fun b wx => sliceAt_whole (P := Tryd.prog) 37 5 32 under_sec size_u8 b wx
  clear hbk
  go_upto_region 1 with fail
  go_cut [7] (fun s wx => ∃ X, s = .pointer (some ⟨X, 0, none⟩) ∧ Blk wx X (Sha.bcells (num C)) 37 ∧ Mod none_ w wx)
  case first =>
    go_region_held3 (fun w' => w'.rangeAt j 1 (Sha.bcells (num now)) ∧ w'.cell? ⟨j, 0, none⟩ = some (.int .u64 e) ∧ Mod none_ w w')
        (first | ((refine ⟨rangeAt_none (w := w) hr0 ?_, Mod.cellS (S := none_) (w := w) ?_ q0 (fun h => h), ?_⟩ <;> (repeat (first | assumption | exact Mod.refl _ _ | refine Mod.drew ?_ | refine Mod.alloc ?_ _ | refine Mod.setCellsN ?_ (by assumption) _ _))); done))
        (first | (go_at_call 26; refine (HBK.out _ (by repeat (first | assumption | exact Mod.refl _ _ | refine Mod.drew ?_ | refine Mod.alloc ?_ _))).mono ?_; rintro r w7 ⟨rfl, hN7⟩; have hM7 : Mod none_ w w7 := Mod.then (by repeat (first | assumption | exact Mod.refl _ _ | refine Mod.drew ?_ | refine Mod.alloc ?_ _)) hN7; have hs7 := hM7.size; have ht7 := there_z32 w7; (first | (have hB7 : Blk w7 w.heap.size (Sha.bcells (Sha.zeros 32)) 37 := Mod.blk hN7 (blk_z32 w.drew) (fun h => h); have hth : w7.there w.heap.size 0 32 := hB7.there (by simp [Sha.bcells, Sha.zeros])) | skip)))
    all_goals (go_wp2_with fail; go_meet)
    · exact ⟨_, rfl, Blk.laid32 (blk_z32 w7) _ hlC, by repeat (first | assumption | refine Mod.setCellsN ?_ (by assumption) _ _ | refine Mod.alloc ?_ _)⟩
    · exact ⟨_, rfl, Blk.laid32 hB7 _ hlC, by repeat (first | assumption | refine Mod.setCellsN ?_ (by assumption) _ _ | refine Mod.alloc ?_ _)⟩
  case rest =>
    obtain ⟨X, rfl, hX, hM⟩ := hcut
    have hcv := str_any wc _ _ _ (bytes_arr hX (by rw [length_num, ← hC, Ck.size_ck]) (bytes_num C) (by decide) hX.lt)
    rw [strOf_num] at hcv
    clear hX HBK
    go_wp2
    go_ret
    exact ⟨by rw [hC]; rfl, hM⟩
end Go.Proofs.YtlndgnlkfhlekaaDoor
