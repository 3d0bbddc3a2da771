/- pack's Reader: NewReader, next, none, fail, Rest, Left, Done. -/
import Derived.Test.YtcmbklofbemclaaPkU
namespace Go.Proofs.Ytcmbklofbemclaa
open Go.RowKit

theorem strOf_inj' (a : ByteArray) (t : List Int) (h : num a = t) : a = strOf t := by rw [← h, strOf_num]
theorem extract_to (t : List Int) (n : Nat) : (strOf t).extract 0 n = strOf (t.take n) := by
  apply ext_data
  rw [strOf_data]
  have : ((strOf t).extract 0 n).data = (strOf t).data.extract 0 n := by simp
  rw [this, Array.toList_extract, strOf_data]
  simp
theorem extract_from (t : List Int) (n : Nat) : (strOf t).extract n (strOf t).size = strOf (t.drop n) := by
  apply ext_data
  rw [strOf_data]
  have : ((strOf t).extract n (strOf t).size).data = (strOf t).data.extract n (strOf t).size := by simp
  rw [this, Array.toList_extract, strOf_data, size_strOf]
  simp [List.map_drop]
  rw [List.take_of_length_le (by simp)]

/-- how a Reader takes -/
def takeOf (G : Nat) (e : Int) : Value := if e = 0 then .func (.func 41) #[.pointer (some ⟨G, 0, none⟩)] #[] else .func (.func 49) #[.pointer (some ⟨G, 0, none⟩)] #[]
/-- block G is a Reader with t left; the first error is e -/
structure RdAt (w : World) (G : Nat) (t : List Int) (e : Int) : Prop where
  row : Blk w G [.string (strOf t), .int .i64 e, takeOf G e] 67
  byt : Sha.bytes t
  dead : e ≠ 0 → t = []
theorem RdAt.mod {S : Nat → Prop} {w w' : World} {G : Nat} {t : List Int} {e : Int} (h : RdAt w G t e) (hM : Mod S w w') (hG : ¬ S G) : RdAt w' G t e := ⟨hM.blk h.row hG, h.byt, h.dead⟩
def RdTo (w w' : World) (G : Nat) (r : List Int × Int) : Prop := Mod (only G) w w' ∧ RdAt w' G r.1 r.2

theorem new_reader (w : World) (s : ByteArray) : Calls Try.prog 23 #[.string s] w fun e w' => e = .returned (.pointer (some ⟨w.heap.size, 0, none⟩)) ∧ Mod none_ w w' ∧ RdAt w' w.heap.size (num s) 0 ∧ w'.heap.size = w.heap.size + 1 := by
  have hmf := make_func
  have hsf := store_func
  go_enter Try.func23, Try.ntmps23
  go_wp2
  go_ret
  exact ⟨rfl, (Mod.refl none_ w).alloc _, ⟨(Blk.new w [Value.string s, Value.int IntKind.i64 0, takeOf w.heap.size 0] _).cs (by rw [strOf_num]), bytes_num s, fun h => absurd rfl h⟩, by simp⟩

theorem none_any (w : World) (G : Nat) (n : Int) : Calls Try.prog 49 #[.pointer (some ⟨G, 0, none⟩), .int .i64 n] w fun en w' => en = .returned (.tuple #[.string ⟨#[]⟩, .bool false]) ∧ w' = w := by
  go_enter Try.func49, Try.ntmps49
  go_wp2
  go_ret2
  exact ⟨rfl, rfl⟩

set_option maxHeartbeats 1000000 in
theorem rd_fail (w : World) (G : Nat) (t : List Int) (e : Int) (h : RdAt w G t e) (x : Int) (hx : x ≠ 0) :
    Calls Try.prog 47 #[.pointer (some ⟨G, 0, none⟩), .int .i64 x] w fun en w' => en = .returned (.tuple #[]) ∧ RdTo w w' G (if e = 0 then ([], x) else (t, e)) := by
  have hmf := make_func
  have hsf := store_func
  have q0 : w.cell? ⟨G, 0, none⟩ = some (.string (strOf t)) := h.row.cell rfl
  have q1 : w.cell? ⟨G, 1, none⟩ = some (.int .i64 e) := h.row.cell rfl
  have q2 : w.cell? ⟨G, 2, none⟩ = some (takeOf G e) := h.row.cell rfl
  have f0 : w.frozen? ⟨G, 0, none⟩ = false := h.row.frozen 0
  have f1 : w.frozen? ⟨G, 1, none⟩ = false := h.row.frozen 1
  have f2 : w.frozen? ⟨G, 2, none⟩ = false := h.row.frozen 2
  by_cases he : e = 0
  · subst he
    have e2 : takeOf G x = .func (.func 49) #[.pointer (some ⟨G, 0, none⟩)] #[] := by rw [takeOf, if_neg hx]
    have HH := Lib.hid h
    have HE := Lib.hid e2
    clear e2 h
    go_enter Try.func47, Try.ntmps47
    go_wp2_with fail
    go_end0
    refine ⟨rfl, (((Mod.refl (only G) w).setCell (fun _ => only_self G) _).setCell (fun _ => only_self G) _).setCell (fun _ => only_self G) _, ⟨(((HH.out.row.set 1 _).set 0 _).set 2 _).cs ?_, fun x hx => by simp at hx, fun _ => rfl⟩⟩
    have e2 := HE.out
    rw [e2]; rfl
  · have he' : (e == 0) = false := by simpa using he
    have HH := Lib.hid h
    clear h
    go_enter Try.func47, Try.ntmps47
    go_wp2_with fail
    go_end0
    exact ⟨rfl, Mod.refl _ _, HH.out⟩

/-- what a Reader gives of n bytes, and what it holds then -/
def Rd.take (t : List Int) (e : Int) (n : Nat) : List Int × (List Int × Int) := if e = 0 then (if n ≤ t.length then (t.take n, (t.drop n, 0)) else ([], ([], 50))) else ([], (t, e))

set_option maxHeartbeats 1000000 in
theorem next_any (w : World) (G : Nat) (t : List Int) (n : Nat) (h : RdAt w G t 0) (hn : n ≤ 9223372036854775807) (r : ByteArray) (hr : strOf (Rd.take t 0 n).1 = r) (β : Bool) (hβ : decide (n ≤ t.length) = β) :
    Calls Try.prog 41 #[.pointer (some ⟨G, 0, none⟩), .int .i64 (n : Int)] w fun en w' => en = .returned (.tuple #[.string r, .bool β]) ∧ RdTo w w' G (Rd.take t 0 n).2 := by
  have q0 : w.cell? ⟨G, 0, none⟩ = some (.string (strOf t)) := h.row.cell rfl
  have f0 : w.frozen? ⟨G, 0, none⟩ = false := h.row.frozen 0
  have hsz := size_strOf t
  by_cases hnl : n ≤ t.length
  · obtain rfl : β = true := by rw [← hβ]; exact decide_eq_true hnl
    have hg : ¬ ((strOf t).size : Int) < (n : Int) := by rw [hsz]; omega
    have hrt : Rd.take t 0 n = (t.take n, (t.drop n, 0)) := by rw [Rd.take, if_pos rfl, if_pos hnl]
    rw [hrt] at hr
    have hs1 : ∀ wx, (Instr.slice 9 (.string (strOf t)) none (some (.int .i64 (n : Int))) none).run Try.prog wx = .ok (.string r) wx := fun wx => by
      rw [run_slice_string_h _ _ _ under_str _ _ (by omega) (by rw [hsz]; omega), Int.toNat_natCast, extract_to, hr]
    obtain ⟨D, hD⟩ : ∃ D, strOf (t.drop n) = D := ⟨_, rfl⟩
    have hs2 : ∀ wx, (Instr.slice 9 (.string (strOf t)) (some (.int .i64 (n : Int))) none none).run Try.prog wx = .ok (.string D) wx := fun wx => by
      rw [run_slice_string_l _ _ _ under_str _ _ (by omega) (by rw [hsz]; omega), Int.toNat_natCast, extract_from, hD]
    have hR : RdTo w (w.setCell ⟨G, 0, none⟩ (.string D)) G (Rd.take t 0 n).2 := by
      rw [hrt]
      exact ⟨(Mod.refl _ _).setCell (fun _ => only_self G) _, ⟨(h.row.set 0 _).cs (by rw [hD]; rfl), Sha.bytes_drop h.byt n, fun h => absurd rfl h⟩⟩
    have HR := Lib.hid hR
    clear hR h hsz hrt hr hβ hD
    generalize strOf t = S at *
    go_enter Try.func41, Try.ntmps41
    go_wp2_with fail
    go_ret2
    exact ⟨rfl, HR.out⟩
  · obtain rfl : β = false := by rw [← hβ]; exact decide_eq_false hnl
    have hg : ((strOf t).size : Int) < (n : Int) := by rw [hsz]; omega
    have hrt : Rd.take t 0 n = ([], ([], 50)) := by rw [Rd.take, if_pos rfl, if_neg hnl]
    rw [hrt] at hr
    obtain rfl : r = ⟨#[]⟩ := by rw [← hr]; rfl
    have HC := Lib.hid (rd_fail w G t 0 h 50 (by decide))
    have HRT := Lib.hid hrt
    clear h hsz hrt hr hβ
    generalize strOf t = S at *
    go_enter Try.func41, Try.ntmps41
    go_wp2_with fail
    refine HC.out.mono ?_
    rintro en w1 ⟨rfl, h1⟩
    go_wp2_with fail
    go_ret2
    exact ⟨rfl, by rw [HRT.out]; exact h1⟩

theorem rd_rest (w : World) (G : Nat) (t : List Int) (e : Int) (h : RdAt w G t e) (r : ByteArray) (hr : strOf t = r) :
    Calls Try.prog 29 #[.pointer (some ⟨G, 0, none⟩)] w fun en w' => en = .returned (.string r) ∧ RdTo w w' G ([], e) := by
  have q0 : w.cell? ⟨G, 0, none⟩ = some (.string r) := h.row.cell (by rw [← hr]; rfl)
  have f0 : w.frozen? ⟨G, 0, none⟩ = false := h.row.frozen 0
  have HR : Hid (RdTo w (w.setCell ⟨G, 0, none⟩ (.string ⟨#[]⟩)) G ([], e)) := Lib.hid ⟨(Mod.refl _ _).setCell (fun _ => only_self G) _, ⟨(h.row.set 0 _).cs rfl, fun x hx => by simp at hx, fun _ => rfl⟩⟩
  clear h hr
  go_enter Try.func29, Try.ntmps29
  go_wp2_with fail
  go_ret
  exact ⟨rfl, HR.out⟩
theorem rd_left (w : World) (G : Nat) (t : List Int) (e : Int) (h : RdAt w G t e) :
    Calls Try.prog 25 #[.pointer (some ⟨G, 0, none⟩)] w fun en w' => en = .returned (.int .i64 (t.length : Int)) ∧ w' = w := by
  have q0 : w.cell? ⟨G, 0, none⟩ = some (.string (strOf t)) := h.row.cell rfl
  have hsz := size_strOf t
  have HS := Lib.hid hsz
  clear h hsz
  go_enter Try.func25, Try.ntmps25
  go_wp2_with fail
  go_ret
  exact ⟨by rw [← HS.out]; rfl, rfl⟩
theorem rd_done (w : World) (G : Nat) (t : List Int) (e : Int) (h : RdAt w G t e) (r : Int) (hr : (if e = 0 ∧ t ≠ [] then 51 else e) = r) :
    Calls Try.prog 27 #[.pointer (some ⟨G, 0, none⟩)] w fun en w' => en = .returned (.int .i64 r) ∧ w' = w := by
  have q0 : w.cell? ⟨G, 0, none⟩ = some (.string (strOf t)) := h.row.cell rfl
  have q1 : w.cell? ⟨G, 1, none⟩ = some (.int .i64 e) := h.row.cell rfl
  have hsz := size_strOf t
  by_cases he : e = 0
  · subst he
    by_cases ht : t = []
    · obtain rfl : r = 0 := by rw [← hr, if_neg (fun h => h.2 ht)]
      have hz : (strOf t).size = 0 := by rw [hsz, ht]; rfl
      have hg : ¬ (0 : Int) < ((strOf t).size : Int) := by omega
      clear h hsz hr hz
      generalize strOf t = S at *
      go_enter Try.func27, Try.ntmps27
      go_wp2_with fail
      go_ret
      exact ⟨rfl, rfl⟩
    · obtain rfl : r = 51 := by rw [← hr, if_pos ⟨rfl, ht⟩]
      have hz : 0 < (strOf t).size := by rw [hsz]; exact List.length_pos_iff.2 ht
      have hg : (0 : Int) < ((strOf t).size : Int) := by omega
      clear h hsz hr hz
      generalize strOf t = S at *
      go_enter Try.func27, Try.ntmps27
      go_wp2_with fail
      go_ret
      exact ⟨rfl, rfl⟩
  · obtain rfl : r = e := by rw [← hr, if_neg (fun h => he h.1)]
    have he' : (r == 0) = false := by simpa using he
    clear h hsz hr
    generalize strOf t = S at *
    go_enter Try.func27, Try.ntmps27
    go_wp2_with fail
    go_ret
    exact ⟨rfl, rfl⟩
end Go.Proofs.Ytcmbklofbemclaa
