/- BoardReads: the law's walk. -/
import Derived.Test.YtlndgnlkfhlekaaBdRd
import Derived.Test.YtlndgnlkfhlekaaBdRp
import Derived.Test.YtlndgnlkfhlekaaBdK
namespace Go.Proofs.Ytlndgnlkfhlekaa
open Go.RowKit

/-- a text by the program and by the document -/
def BothP (w' : World) (e : Ending) : Bd.Res → Prop
  | .bad => e = .returned (.tuple #[.pointer none, .pointer none, .bool true])
  | .place => e = .returned (.tuple #[.pointer none, .pointer none, .bool true])
  | .board W H E => ∃ b k, e = .returned (.tuple #[.pointer (some ⟨b, 0, none⟩), .pointer (some ⟨k, 0, none⟩), .bool true]) ∧ BrdP w' b W H E ∧ RBrd w' k W H E
theorem parsed_any (w : World) (s : ByteArray) (hs : s.size ≤ 1048576) :
    Calls Try.prog 9 #[.string s] w fun e w' => BothP w' e (Bd.read (Bd.runes s)) ∧ Mod none_ w w' := by
  have hp := parse_any w s (by omega)
  have hr := fun q : World => rparse_any q s hs
  obtain ⟨RR, hRR⟩ : ∃ RR, Bd.read (Bd.runes s) = RR := ⟨_, rfl⟩
  rw [hRR] at hp ⊢
  simp only [hRR] at hr
  have HP := Lib.hid hp; have HR := Lib.hid hr
  clear hp hr hRR hs
  go_enter Try.func9, Try.ntmps9
  go_wp2_with fail
  refine HP.out.mono ?_
  rintro r w2 ⟨hpp, hM2⟩
  have HM2 := Lib.hid hM2
  have hr2 := HR.out w2
  have HR2 := Lib.hid hr2
  clear hM2 HP HR hr2
  cases RR with
  | bad =>
    obtain rfl := hpp
    go_wp2_with fail
    refine HR2.out.mono ?_
    rintro r w3 ⟨hpp, hM3⟩
    obtain rfl := hpp
    have HM3 := Lib.hid (HM2.out.then hM3)
    clear hM3
    go_wp2
    go_ret3
    exact ⟨rfl, HM3.out⟩
  | place =>
    obtain rfl := hpp
    go_wp2_with fail
    refine HR2.out.mono ?_
    rintro r w3 ⟨hpp, hM3⟩
    obtain rfl := hpp
    have HM3 := Lib.hid (HM2.out.then hM3)
    clear hM3
    go_wp2
    go_ret3
    exact ⟨rfl, HM3.out⟩
  | board W H E =>
    obtain ⟨b, rfl, hb, hB⟩ := hpp
    have HB := Lib.hid hB
    clear hB hb
    go_wp2_with fail
    refine HR2.out.mono ?_
    rintro r w3 ⟨hpp, hM3⟩
    obtain ⟨k, rfl, hk, hK⟩ := hpp
    have HM3 := Lib.hid (HM2.out.then hM3); have HB3 := Lib.hid (HB.out.none hM3); have HK := Lib.hid hK
    clear hM3 hK hk
    go_wp2
    go_ret3
    exact ⟨⟨b, k, rfl, HB3.out, HK.out⟩, HM3.out⟩
set_option maxHeartbeats 4000000 in
set_option maxRecDepth 100000 in
theorem boardReads_any (w : World) (s : ByteArray) (hs : s.size ≤ 1048576) :
    Calls Try.prog 3 #[.string s] w fun e w' => e = .returned (.bool true) ∧ Mod none_ w w' := by
  have hp := parsed_any w s hs
  obtain ⟨RR, hRR⟩ : ∃ RR, Bd.read (Bd.runes s) = RR := ⟨_, rfl⟩
  rw [hRR] at hp
  have HP := Lib.hid hp
  clear hp hRR hs
  go_enter Try.func3, Try.ntmps3
  go_wp2_with fail
  refine HP.out.mono ?_
  rintro r w1 ⟨hpp, hM1⟩
  have HM1 := Lib.hid hM1
  clear hM1 HP
  cases RR with
  | bad =>
    obtain rfl := hpp
    go_wp2_with fail
    refine (alive14_any w1).mono ?_
    rintro r w2 ⟨rfl, hM2⟩
    have HM2 := Lib.hid (HM1.out.then hM2)
    clear hM2
    go_wp2
    go_ret
    exact ⟨rfl, HM2.out⟩
  | place =>
    obtain rfl := hpp
    go_wp2_with fail
    refine (alive14_any w1).mono ?_
    rintro r w2 ⟨rfl, hM2⟩
    have HM2 := Lib.hid (HM1.out.then hM2)
    clear hM2
    go_wp2
    go_ret
    exact ⟨rfl, HM2.out⟩
  | board W H E =>
    obtain ⟨b, k, rfl, hB, hK⟩ := hpp
    have HB := Lib.hid hB; have HK := Lib.hid hK; have HF := Lib.hid hB.fine
    have hw3 := hB.fine.w3; have hw64 := hB.fine.w64; have hh3 := hB.fine.h3; have hh64 := hB.fine.h64
    clear hB hK
    go_wp2_with fail
    refine (alive14_any w1).mono ?_
    rintro r w2 ⟨rfl, hM2⟩
    have HM2 := Lib.hid (HM1.out.then hM2); have HB2 := Lib.hid (HB.out.none hM2); have HK2 := Lib.hid (HK.out.none hM2)
    clear hM2 HB HK HM1
    have hSz := fun (q : World) (hM : Mod none_ w2 q) => size_any q (HB2.out.none hM)
    have hRSz := fun (q : World) (hM : Mod none_ w2 q) => rsize_any q (HK2.out.none hM)
    have hPr := fun (q : World) (hM : Mod none_ w2 q) => print_any q (HB2.out.none hM)
    have hRPr := fun (q : World) (hM : Mod none_ w2 q) => rprint_any q (HK2.out.none hM)
    have hCe := fun (q : World) (hM : Mod none_ w2 q) (x y : Int) => cellat_any q (HB2.out.none hM) x y
    have hRCe := fun (q : World) (hM : Mod none_ w2 q) (x y : Int) => rcell_any q (HK2.out.none hM) x y
    obtain ⟨TX, hTX⟩ : ∃ TX, Bd.text W H E = TX := ⟨_, rfl⟩
    simp only [hTX] at hPr hRPr
    have HSZ := Lib.hid hSz; have HRSZ := Lib.hid hRSz; have HPR := Lib.hid hPr; have HRPR := Lib.hid hRPr; have HCE := Lib.hid hCe; have HRCE := Lib.hid hRCe
    have HI := Lib.hid (Mod.refl none_ w2)
    clear hSz hRSz hPr hRPr hCe hRCe hTX
    go_wp2_with fail
    refine (HSZ.out _ HI.out).mono ?_
    rintro r w3 ⟨rfl, hM3⟩
    have HM3 := Lib.hid hM3
    clear hM3
    go_wp2_with fail
    refine (HRSZ.out _ HM3.out).mono ?_
    rintro r w4 ⟨rfl, hM4⟩
    have HM4 := Lib.hid (HM3.out.then hM4)
    clear hM4 HM3
    go_wp2_with fail
    refine (HPR.out _ HM4.out).mono ?_
    rintro r w5 ⟨rfl, hM5⟩
    have HM5 := Lib.hid (HM4.out.then hM5)
    clear hM5 HM4
    go_wp2_with fail
    refine (HRPR.out _ HM5.out).mono ?_
    rintro r w6 ⟨rfl, hM6⟩
    have HM6 := Lib.hid (HM5.out.then hM6)
    clear hM6 HM5
    go_wp2_with fail
    go_loopw [10] (fun t wr => ∃ y : Int, t = .int .i64 y ∧ -2 ≤ y ∧ y ≤ (H : Int) + 2 ∧ Mod none_ w2 wr) (fun t _ => ((H : Int) + 2 - intOf t).toNat)
    case atStart => exact ⟨-2, rfl, by omega, by omega, HM6.out⟩
    case round =>
      obtain ⟨y, rfl, hy1, hy2, hM⟩ := hrel
      have HMR := Lib.hid hM
      clear hM HM6
      by_cases hyH : y ≤ (H : Int) + 1
      · obtain ⟨wo, rfl⟩ : ∃ wo : World, wo = wr := ⟨_, rfl⟩
        go_wp2_with fail
        go_loopw [11] (fun t wz => ∃ x : Int, t = .int .i64 x ∧ -2 ≤ x ∧ x ≤ (W : Int) + 2 ∧ Mod none_ w2 wz) (fun t _ => ((W : Int) + 2 - intOf t).toNat)
        case atStart => exact ⟨-2, rfl, by omega, by omega, HMR.out⟩
        case round =>
          obtain ⟨x, rfl, hx1, hx2, hM⟩ := hrel
          have HMX := Lib.hid hM
          clear hM HMR
          by_cases hxW : x ≤ (W : Int) + 1
          · go_wp2_with fail
            refine (HCE.out _ HMX.out x y).mono ?_
            rintro r wa ⟨rfl, hMa⟩
            have HMA := Lib.hid (HMX.out.then hMa)
            clear hMa
            go_wp2_with fail
            refine (HRCE.out _ HMA.out x y).mono ?_
            rintro r wb ⟨rfl, hMb⟩
            have HMB := Lib.hid (HMA.out.then hMb)
            clear hMb
            generalize Bd.cellOf W H E x y = cc
            go_wp2_with fail
            go_roundw
            case rel => exact ⟨x + 1, rfl, by omega, by omega, HMB.out⟩
            case measure => simp [intOf]; omega
          · go_wp2_with fail
            go_roundw
            case rel => exact ⟨y + 1, rfl, by omega, by omega, HMX.out⟩
            case measure => simp [intOf]; omega
      · have hL := Bd.spawns_small HF.out
        have hsp : ∀ q, Mod none_ w2 q → Calls Try.prog 17 #[.pointer (some ⟨b, 0, none⟩)] q fun e w' => ∃ g cap, e = .returned (.slice (some ⟨g, 0, none⟩) (Bd.spawns W E).length cap) ∧ Pl w' g (Bd.spawns W E).length cap (Bd.spawns W E) ∧ Mod none_ q w' := fun q h => by
          obtain ⟨g', hm⟩ := (HB2.out.none h).toM
          refine (spawns_any q hm).mono ?_
          rintro r w' ⟨v, rfl, hv, hM⟩
          obtain ⟨g, cap, rfl, hg, hp⟩ := Pl.of hv hL.1
          exact ⟨g, cap, rfl, hp, hM⟩
        have hrsp : ∀ q, Mod none_ w2 q → Calls Try.prog 18 #[.pointer (some ⟨k, 0, none⟩)] q fun e w' => ∃ g cap, e = .returned (.slice (some ⟨g, 0, none⟩) (Bd.spawns W E).length cap) ∧ Pl w' g (Bd.spawns W E).length cap (Bd.spawns W E) ∧ Mod none_ q w' := fun q h => by
          refine (rspawns_any q (HK2.out.none h).toM).mono ?_
          rintro r w' ⟨v, rfl, hv, hM⟩
          obtain ⟨g, cap, rfl, hg, hp⟩ := Pl.of hv hL.1
          exact ⟨g, cap, rfl, hp, hM⟩
        obtain ⟨LS, hLS⟩ : ∃ LS, Bd.spawns W E = LS := ⟨_, rfl⟩
        rw [hLS] at hL hsp hrsp
        obtain ⟨L, hLL⟩ : ∃ L, LS.length = L := ⟨_, rfl⟩
        rw [hLL] at hL hsp hrsp
        obtain ⟨hL1, hL2⟩ := hL
        have HSP := Lib.hid hsp; have HRSP := Lib.hid hrsp; have HLL := Lib.hid hLL
        clear hsp hrsp hLL hLS
        go_wp2_with fail
        refine (HSP.out _ HMR.out).mono ?_
        rintro r wa ⟨g1, c1, rfl, hp1, hMa⟩
        have HMA := Lib.hid (HMR.out.then hMa); have HP1 := Lib.hid hp1
        clear hMa hp1
        go_wp2_with fail
        refine (HRSP.out _ HMA.out).mono ?_
        rintro r wb ⟨g2, c2, rfl, hp2, hMb⟩
        have HMB := Lib.hid (HMA.out.then hMb); have HP1' := Lib.hid (HP1.out.none hMb); have HP2 := Lib.hid hp2
        clear hMb hp2 HP1 HMA
        go_wp2_with fail
        go_loopw [14] (fun t wr => ∃ i : Nat, t = .int .i64 i ∧ i ≤ L ∧ Pl wr g1 L c1 LS ∧ Pl wr g2 L c2 LS ∧ Mod none_ w2 wr) (fun t _ => L - (intOf t).toNat)
        case atStart => exact ⟨0, rfl, by omega, HP1'.out, HP2.out, HMB.out⟩
        case round =>
          obtain ⟨i, rfl, hi, hq1, hq2, hM⟩ := hrel
          have HQ1 := Lib.hid hq1; have HQ2 := Lib.hid hq2; have HMI := Lib.hid hM
          clear hq1 hq2 hM HMB HP1' HP2 HMR
          by_cases hiL : i < L
          · have hiL' : (i : Int) < (L : Int) := by omega
            obtain ⟨⟨px, py⟩, hpi⟩ : ∃ p, LS[i]? = some p := ⟨_, List.getElem?_eq_getElem (by rw [HLL.out]; exact hiL)⟩
            obtain ⟨a0, a1⟩ := HQ1.out.cells hpi
            obtain ⟨b0, b1⟩ := HQ2.out.cells hpi
            have hne := fun q : World => neV q px py px py
            have eb : (!(px == px && py == py)) = false := by simp
            clear hpi
            go_upto_region 25 with fail
            go_quiet (fail)
            have HM9 := Lib.hid ((Mod.refl none_ wr).drewN nq)
            go_wp2
            go_roundw
            case rel => exact ⟨i + 1, by go_num, by omega, HQ1.out.none HM9.out, HQ2.out.none HM9.out, HMI.out.then HM9.out⟩
            case measure => simp [intOf]; omega
          · have hiL' : ¬ (i : Int) < (L : Int) := by omega
            go_wp2
            go_ret
            exact ⟨rfl, HM2.out.then HMI.out⟩
end Go.Proofs.Ytlndgnlkfhlekaa
