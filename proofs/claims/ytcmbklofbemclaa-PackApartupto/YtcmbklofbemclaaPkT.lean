/- The reference's Writer: Text, Signed. -/
import Derived.Test.YtcmbklofbemclaaPkQ
namespace Go.Proofs.Ytcmbklofbemclaa
open Go.RowKit

theorem str_one_drew (w : World) (x : Int) (hx : 0 ≤ x ∧ x ≤ 255) : (convert 56 9 (.slice (some ⟨w.heap.size, 0, none⟩) 1 1)).run Try.prog (w.alloc (.cells #[.int .u8 x] 5)).drew = .ok (.string (strOf [x])) (w.alloc (.cells #[.int .u8 x] 5)).drew :=
  str_any _ _ _ _ ((bytes_one1 w x 5 hx).mod ((Mod.refl none_ _).drew) (fun _ _ h => h))

theorem RwTo.grow {w w1 w2 : World} {R : Nat} {r : List Int × Int} (h : RwTo w w1 R r) (hM : Mod none_ w1 w2) : RwTo w w2 R r := ⟨h.1.trans hM (fun _ _ h => h.elim), h.2.mod hM (fun h => h)⟩

set_option maxHeartbeats 1000000 in
theorem r_text (w : World) (R : Nat) (t : List Int) (e : Int) (s : ByteArray) (h : RwAt w R t e) (hl : t.length + 8 + s.size ≤ 140737488355328) :
    Calls Try.prog 19 #[.pointer (some ⟨R, 0, none⟩), .string s] w fun en w' => en = .returned (.tuple #[]) ∧ RwTo w w' R (Pk.put t e (decide (s.size ≤ 255)) ((s.size : Int) :: num s)) := by
  by_cases he : e = 0
  · subst he
    by_cases hs : s.size ≤ 255
    · have hi : ¬ (255 : Int) < (s.size : Int) := by omega
      have HD := Lib.hid (show decide (s.size ≤ 255) = true from decide_eq_true hs)
      have HF := Lib.hid (r_fails w R t 0 h false 0 rfl false rfl)
      have hcv := fun wx : World => str_one_drew wx (s.size : Int) (by omega)
      have hmod : IntKind.u8.wrap (s.size : Int) = (s.size : Int) := by simp [IntKind.wrap, IntKind.bits, IntKind.signed]; omega
      clear h
      go_enter Try.func19, Try.ntmps19
      go_wp2_with fail
      refine HF.out.mono ?_
      rintro en w3 ⟨rfl, hM3, h3⟩
      have q0 : w3.cell? ⟨R, 0, none⟩ = some (.string (strOf t)) := h3.row.cell rfl
      have f0 : w3.frozen? ⟨R, 0, none⟩ = false := h3.row.frozen 0
      have hRl : R < w3.heap.size := h3.row.lt
      have h1 : (strOf [(s.size : Int)]).size = 1 := by rw [size_strOf]; rfl
      have h2 : (strOf t ++ strOf [(s.size : Int)]).size = t.length + 1 := by rw [ByteArray.size_append, size_strOf, h1]
      have hadd1 := run_cat (strOf t) (strOf [(s.size : Int)]) (by rw [size_strOf, h1]; omega)
      have hadd2 := run_cat (strOf t ++ strOf [(s.size : Int)]) s (by omega)
      have hap : strOf (t ++ ((s.size : Int) :: num s)) = strOf t ++ strOf [(s.size : Int)] ++ s := by
        rw [show t ++ ((s.size : Int) :: num s) = t ++ [(s.size : Int)] ++ num s by simp, strOf_append, strOf_append, strOf_num]
      obtain ⟨S, hS⟩ : ∃ S, strOf (t ++ ((s.size : Int) :: num s)) = S := ⟨_, rfl⟩
      rw [← hap, hS] at hadd2
      have hby : Sha.bytes ((s.size : Int) :: num s) := fun x hx => by
        rcases List.mem_cons.1 hx with h | h
        · subst h; omega
        · exact bytes_num s x h
      have HL := Lib.hid (fun (w4 : World) (hM4 : Mod none_ w3 w4) => rw_laid (hM3.trans hM4 (fun _ _ h => h.elim)) (h3.mod hM4 (fun h => h)) _ hby S hS)
      generalize strOf t ++ strOf [(s.size : Int)] = S2 at *
      generalize strOf [(s.size : Int)] = S1 at *
      generalize strOf t = S0 at *
      clear hap HF hS h3 h1 h2 hby hM3
      go_upto_region 1 with fail
      go_region_law (fail)
      all_goals (try go_wp2_with fail)
      all_goals go_end0
      all_goals exact ⟨rfl, by rw [HD.out, put_ok]; exact (HL.out w3 (Mod.refl _ _)).grow (((Mod.refl _ _).alloc _).drew)⟩
    · have hi : (255 : Int) < (s.size : Int) := by omega
      have HD := Lib.hid (show decide (s.size ≤ 255) = false from decide_eq_false hs)
      have HF := Lib.hid (r_fails w R t 0 h true 51 rfl true rfl)
      clear h
      go_enter Try.func19, Try.ntmps19
      go_wp2_with fail
      refine HF.out.mono ?_
      rintro en w1 ⟨rfl, hM1, h1⟩
      go_wp2_with fail
      go_end0
      exact ⟨rfl, by rw [HD.out, put_no]; exact ⟨hM1, h1⟩⟩
  · have HF := Lib.hid (fun bad => r_fails w R t e h bad e (if_neg (fun h => he h.1)) true (decide_eq_true he))
    have hcase : (255 : Int) < (s.size : Int) ∨ ¬ (255 : Int) < (s.size : Int) := by omega
    clear h
    rcases hcase with hi | hi
    all_goals (
      go_enter Try.func19, Try.ntmps19
      go_wp2_with fail
      refine (HF.out _).mono ?_
      rintro en w1 ⟨rfl, hM1, h1⟩
      go_wp2_with fail
      go_end0
      exact ⟨rfl, by rw [put_dead _ _ _ _ he]; exact ⟨hM1, h1⟩⟩)
end Go.Proofs.Ytcmbklofbemclaa
