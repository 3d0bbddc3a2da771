/- The reference of chapter 2: Said, Derive. -/
import Derived.Test.YtlndgnlkfhlekaaDoorMacR
namespace Go.Proofs.YtlndgnlkfhlekaaDoor
open Go.RowKit

set_option maxHeartbeats 2000000 in
set_option maxRecDepth 100000 in
theorem ref_said (w : World) (use : ByteArray) (sa : Option Addr) (n c : Nat) (ss : List ByteArray) (hp : StrsAt w w.heap.size sa n ss) (hl : (Mac.said (num use) (ss.map num)).length ≤ 140737488355328) :
    Calls Tryd.prog 30 #[.string use, .slice sa n c] w fun e w' => e = .returned (.string (strOf (Mac.said (num use) (ss.map num)))) ∧ Mod none_ w w' := by
  have hrm := Mac.said_room (num use) (ss.map num)
  rw [List.length_map, hp.1, length_num] at hrm
  have hn48 : n ≤ 140737488355328 := by omega
  have hul : use.size + 1 ≤ 140737488355328 := by omega
  have hadd := run_cat use ⟨#[0]⟩ (by show use.size + 1 ≤ _; omega)
  have hst : strOf (Mac.said (num use) []) = use ++ ⟨#[0]⟩ := by
    rw [Mac.said_nil, strOf_append, strOf_num]; rfl
  generalize use ++ ⟨#[0]⟩ = U at *
  have HP := Lib.hid hp; have HL := Lib.hid hl; have HST := Lib.hid hst
  clear hp hl hst hrm
  go_enter Tryd.func30, Tryd.ntmps30
  go_wp2_with fail
  clear hadd
  go_loopw [5, 6] (fun tx i wr => ∃ k : Nat, k ≤ n ∧ i = .int .i64 k ∧ tx = .string (strOf (Mac.said (num use) ((ss.map num).take k))) ∧ Mod none_ w wr) (fun _ i _ => n - (intOf i).toNat)
  case atStart => exact ⟨0, by omega, rfl, by rw [List.take_zero, HST.out], Mod.refl _ _⟩
  case round =>
    obtain ⟨k, hk, rfl, rfl, hM⟩ := hrel
    by_cases hlt : k < n
    · obtain ⟨hsl, hsc⟩ := HP.out
      obtain ⟨lb, lo, rfl, hlb, hcc⟩ := hsc (by omega)
      obtain ⟨s, hs⟩ : ∃ s, ss[k]? = some s := ⟨_, List.getElem?_eq_getElem (by omega)⟩
      have qs : wr.cell? ⟨lb, lo + k, none⟩ = some (.string s) := hM.cellS (hcc k s hs) (fun h => h)
      have htk : (ss.map num)[k]? = some (num s) := by rw [List.getElem?_map, hs]; rfl
      have hsd := Mac.said_take (num use) (ss.map num) k (num s) htk
      have hsl2 := Mac.said_take_le (num use) (ss.map num) (k + 1)
      have hll := HL.out
      have hlen := congrArg List.length hsd
      rw [List.length_append, List.length_append, Sha.length_be, length_num] at hlen
      rw [length_num] at hsd
      have hsz : s.size ≤ 140737488355328 := by omega
      obtain ⟨A, hA⟩ : ∃ A, Mac.said (num use) ((ss.map num).take k) = A := ⟨_, rfl⟩
      rw [hA] at hsd hlen ⊢
      have hS1 : (strOf A).size = A.length := size_strOf _
      have hS2 : (strOf (Sha.be s.size)).size = 8 := by rw [size_strOf, Sha.length_be]
      have hnext : strOf (Mac.said (num use) ((ss.map num).take (k + 1))) = strOf A ++ strOf (Sha.be s.size) ++ s := by rw [hsd, strOf_append, strOf_append, strOf_num]
      obtain ⟨Lb, hLb⟩ : ∃ Lb, strOf (Sha.be (s.size : Int)) = Lb := ⟨_, rfl⟩
      have hlc := fun wx => ref_length wx s.size (by omega)
      simp only [hLb] at hlc
      have hw : (s.size : Int) = IntKind.u64.wrap (s.size : Int) := by rw [IntKind.wrap_u64]; omega
      rw [hw] at hlc
      rw [hLb] at hS2 hnext
      generalize strOf A = SA at *
      have hadd1 := run_cat SA Lb (by omega)
      have hs12 : (SA ++ Lb).size = SA.size + 8 := by rw [ByteArray.size_append, hS2]
      generalize SA ++ Lb = SL at *
      have hadd2 := run_cat SL s (by omega)
      have HN := Lib.hid hnext; have HLC := Lib.hid hlc; have HM := Lib.hid hM
      have hM0 := Mod.refl none_ wr
      have qd := qs
      have hki : (k : Int) < (n : Int) := by omega
      clear hsd hsl2 hll hA htk hcc hsc hsl hs hnext hlen hS1 hS2 hs12 hLb hlc hM hw
      go_upto_region 5 with fail
      go_region_held3 (fun w' => w'.cell? ⟨lb, lo + k, none⟩ = some (.string s) ∧ Mod none_ wr w')
        (first | ((refine ⟨Mod.cellS (S := none_) (w := wr) ?_ qd (fun h => h), ?_⟩ <;> (repeat (first | assumption | refine Mod.drew ?_))); done))
        (first | (go_at_call 31; refine (HLC.out _).mono ?_; rintro e w' ⟨rfl, hN⟩; have hN' : Mod none_ wr w' := Mod.then (by repeat (first | assumption | refine Mod.drew ?_)) hN; clear hN))
      all_goals (go_wp2_with fail; go_roundw)
      all_goals first
        | (exact ⟨k + 1, by omega, by go_num, by rw [HN.out], Mod.then HM.out (by assumption)⟩)
        | (simp [intOf]; omega)
    · have hall : (ss.map num).take k = ss.map num := by rw [List.take_of_length_le]; rw [List.length_map, HP.out.1]; omega
      rw [hall]
      go_wp2
      go_ret
      exact ⟨rfl, hM⟩

theorem ref_derive (w : World) (hT : RefTabs w) (sec use : ByteArray) (sa : Option Addr) (n c : Nat) (ss : List ByteArray) (r : ByteArray) (hr : strOf (Mac.tag (num sec) (Mac.said (num use) (ss.map num))) = r) (hp : StrsAt w w.heap.size sa n ss) (hsec : sec.size ≤ 70368744177664) (hl : (Mac.said (num use) (ss.map num)).length ≤ 70368744177000) :
    Calls Tryd.prog 22 #[.string sec, .string use, .slice sa n c] w fun e w' => e = .returned (.string r) ∧ Mod none_ w w' := by
  have hc := ref_said w use sa n c ss hp (by omega)
  have hnS : num (strOf (Mac.said (num use) (ss.map num))) = Mac.said (num use) (ss.map num) := num_strOf _ (Mac.bytes_said (bytes_num _) (bytes_nums_map _))
  have hzS : (strOf (Mac.said (num use) (ss.map num))).size ≤ 70368744177000 := by rw [size_strOf]; exact hl
  rw [← hnS] at hr
  generalize strOf (Mac.said (num use) (ss.map num)) = S at *
  have HR := Lib.hid hr
  clear hnS hr hl hp
  go_enter Tryd.func22, Tryd.ntmps22
  go_wp2_with fail
  refine hc.mono ?_
  rintro e w1 ⟨rfl, hM1⟩
  clear hc
  go_wp2_with fail
  refine (ref_tag_b w1 (hT.none hM1) sec S r HR.out hsec hzS).mono ?_
  rintro e w2 ⟨rfl, hM2⟩
  have hM2' := hM1.then hM2
  clear hM1 hM2
  go_wp2_with fail
  go_ret
  exact ⟨rfl, hM2'⟩

/-- no parts at all -/
theorem strs_nil (w : World) (B : Nat) : StrsAt w B none 0 [] := ⟨rfl, fun h => absurd h (by omega)⟩
theorem derive_b (w : World) (hK : Rounds w) (sec use : ByteArray) (sa : Option Addr) (n c : Nat) (ss : List ByteArray) (r : ByteArray) (hr : strOf (Mac.tag (num sec) (Mac.said (num use) (ss.map num))) = r) (hp : StrsAt w w.heap.size sa n ss) (hsec : sec.size ≤ 140737488355328) (hl : (Mac.said (num use) (ss.map num)).length ≤ 140737488355328) :
    Calls Tryd.prog 17 #[.string sec, .string use, .slice sa n c] w fun e w' => e = .returned (.string r) ∧ Mod none_ w w' := by
  subst hr; exact derive_any w hK sec use sa n c ss hp hsec hl

end Go.Proofs.YtlndgnlkfhlekaaDoor
