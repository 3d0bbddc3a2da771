/- PackReads: the law's walk. -/
import Derived.Test.YtcmbklofbemclaaPkM
namespace Go.Proofs.Ytcmbklofbemclaa
open Go.RowKit

set_option maxHeartbeats 2000000 in
set_option maxRecDepth 100000 in
theorem packReads_any (w : World) (s : ByteArray) (hs : s.size ≤ 9223372036854775807) (sa : Option Addr) (n c : Nat) (hn : n ≤ 9223372036854775807) (ops : List PkOp) (hp : OpsAt w w.heap.size sa n ops) (hsz : ∀ o ∈ ops, o.size ≤ 9223372036854775807) :
    Calls Try.prog 5 #[.string s, .slice sa n c] w fun e w' => e = .returned (.bool true) ∧ Mod none_ w w' := by
  have HP := Lib.hid hp; have HZ := Lib.hid hsz
  clear hp hsz
  go_enter Try.func5, Try.ntmps5
  go_wp2_with fail
  refine (alive5_any w).mono ?_
  rintro e w1 ⟨rfl, hM1⟩
  go_wp2_with fail
  refine (new_reader w1 s).mono ?_
  rintro e w2 ⟨rfl, hM2, h2, hs2⟩
  have hnum : strOf (num s) = s := strOf_num s
  have hlen : (num s).length ≤ 9223372036854775807 := by rw [length_num]; exact hs
  have hq : RQ w (w2.alloc (.cells #[.string s, .int .i64 0] 45)) w1.heap.size w2.heap.size (num s) 0 :=
    ⟨h2.mod ((Mod.refl none_ _).alloc _) (fun h => h), ⟨⟨num s, (Blk.newA _ _ _).cs (by rw [hnum]), hlen, fun _ => rfl⟩, bytes_num s, fun h => absurd rfl h⟩, (hM1.then hM2).alloc _, ⟨hM1.size, (hM1.then hM2).size⟩, by omega⟩
  have HQ := Lib.hid hq
  generalize w1.heap.size = G at *
  have hR : w2.heap.size = G + 1 := hs2
  clear hq h2 hM1 hM2 hs2 hnum hlen
  go_wp2_with fail
  go_loopw [7] (fun i wr => ∃ (k : Nat) (t : List Int) (e : Int), k ≤ n ∧ i = .int .i64 k ∧ RQ w wr G w2.heap.size t e) (fun i _ => n - (intOf i).toNat)
  case atStart => exact ⟨0, _, _, by omega, rfl, HQ.out⟩
  case round =>
    clear HQ
    obtain ⟨k, t, e, hk, rfl, hB⟩ := hrel
    generalize w2.heap.size = R at *
    subst hR
    by_cases hlt : k < n
    · obtain ⟨hol, hou, hoc⟩ := HP.out
      obtain ⟨lb, lo, rfl, hlb, hcc⟩ := hoc (by omega)
      obtain ⟨o, ho⟩ : ∃ o, ops[k]? = some o := ⟨_, List.getElem?_eq_getElem (by omega)⟩
      have hc := hcc k o ho
      have hz := HZ.out o (List.mem_of_getElem? ho)
      have HC := Lib.hid (fun w0 w => takes_any w0 w G (G + 1) t e (o := o) (ho := hz))
      obtain ⟨ok, ou, oi, os, ob⟩ := o
      have q0 : wr.cell? ⟨lb, lo + k * 5, none⟩ = some (.int .i64 ok) := hB.mod.cellS (hc 0 _ rfl) (fun h => h)
      have q1 : wr.cell? ⟨lb, lo + k * 5 + 1, none⟩ = some (.int .u64 ou) := hB.mod.cellS (hc 1 _ rfl) (fun h => h)
      have q2 : wr.cell? ⟨lb, lo + k * 5 + 2, none⟩ = some (.int .i64 oi) := hB.mod.cellS (hc 2 _ rfl) (fun h => h)
      have q3 : wr.cell? ⟨lb, lo + k * 5 + 3, none⟩ = some (.int .i64 os) := hB.mod.cellS (hc 3 _ rfl) (fun h => h)
      have q4 : wr.cell? ⟨lb, lo + k * 5 + 4, none⟩ = some (.string ob) := hB.mod.cellS (hc 4 _ rfl) (fun h => h)
      have hki : (k : Int) < (n : Int) := by omega
      have HB := Lib.hid hB
      clear hc hcc hoc hou ho hol hB
      go_wp2_with fail
      refine (HC.out w wr HB.out).mono ?_
      rintro en wa ⟨rfl, t', e', hT⟩
      have HT := Lib.hid hT
      clear HC hT
      go_wp2_with fail
      refine (rd_left _ G t' e' HT.out.prog).mono ?_
      rintro en w1 ⟨rfl, rfl⟩
      go_wp2_with fail
      refine (q_left _ (G + 1) t' e' HT.out.ref).mono ?_
      rintro en w1 ⟨rfl, rfl⟩
      go_wp2_with fail
      go_roundw
      case rel => exact ⟨k + 1, _, _, by omega, by go_num, HT.out⟩
      case measure => simp [intOf]; omega
    · have hkn : k = n := by omega
      subst hkn
      have hki : ¬ (k : Int) < (k : Int) := by omega
      have HB := Lib.hid hB
      clear hB
      obtain ⟨v, hv⟩ : ∃ v, (if e = 0 ∧ t ≠ [] then 51 else e) = v := ⟨_, rfl⟩
      obtain ⟨v3, hv3⟩ : ∃ v3, (if e = 0 ∧ ([] : List Int) ≠ [] then 51 else e) = v3 := ⟨_, rfl⟩
      obtain ⟨v2, hv2⟩ : ∃ v2, strOf t = v2 := ⟨_, rfl⟩
      have HV := Lib.hid hv; have HV2 := Lib.hid hv2; have HV3 := Lib.hid hv3
      clear hv hv2 hv3
      go_wp2_with fail
      refine (rd_done _ G t e HB.out.prog v HV.out).mono ?_
      rintro en w1 ⟨rfl, rfl⟩
      go_wp2_with fail
      refine (q_done _ (G + 1) t e HB.out.ref v HV.out).mono ?_
      rintro en w1 ⟨rfl, rfl⟩
      go_wp2_with fail
      refine (rd_rest _ G t e HB.out.prog v2 HV2.out).mono ?_
      rintro en w1 ⟨rfl, hT1⟩
      have hr1 := HB.out.ref1 hT1
      have HT1 := Lib.hid hT1
      clear hT1
      go_wp2_with fail
      refine (q_rest _ (G + 1) t e hr1 v2 HV2.out).mono ?_
      rintro en w2 ⟨rfl, hT2⟩
      have hs := HB.out.step HT1.out hT2
      have HS := Lib.hid hs
      clear hT2 hr1 hs
      go_wp2_with fail
      refine (rd_done _ G _ _ HS.out.prog v3 HV3.out).mono ?_
      rintro en w1 ⟨rfl, rfl⟩
      go_wp2_with fail
      refine (q_done _ (G + 1) _ _ HS.out.ref v3 HV3.out).mono ?_
      rintro en w1 ⟨rfl, rfl⟩
      go_wp2_with fail
      go_ret
      exact ⟨rfl, HS.out.mod⟩
end Go.Proofs.Ytcmbklofbemclaa
