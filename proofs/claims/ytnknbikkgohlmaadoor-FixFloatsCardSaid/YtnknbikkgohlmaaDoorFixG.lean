/- fix.Sin: the walk. -/
import Derived.Test.YtnknbikkgohlmaaDoorFixP
import Derived.Test.YtnknbikkgohlmaaDoorWWords
namespace Go.Proofs.YtnknbikkgohlmaaDoor
open Go.RowKit Go.Proofs.YtnknbikkgohlmaaDoorW.PrintWords

def fix_Sin.f (_ : Nat) (a0 : Int) : Option (Int) := some (sinT a0)
theorem fix_Sin.mono : ∀ a0 k, LeO (fix_Sin.f k a0) (fix_Sin.f (k + 1) a0) := fun _ _ => LeO.refl _

theorem sinH_any (h : Int) (m : Nat) (hm : m < 128) (ha : Go.bits .and .i64 h 255 = (m : Int)) (w : World) (hG : Sines w) (r : Int) (hr : sinH m = r) :
    Calls Tryd.prog 41 #[.int .i64 h] w fun e w' => e = .returned (.int .i64 r) ∧ Drawn0 w w' := by
  have hg : ¬ (128 : Int) ≤ (m : Int) := by omega
  by_cases h64 : 64 < m
  · have h64' : (64 : Int) < (m : Int) := by omega
    obtain ⟨j, hj⟩ : ∃ j : Nat, j = 128 - m := ⟨_, rfl⟩
    have hc := hG j (by omega)
    rw [sinH, if_pos h64, ← hj] at hr
    rw [hr] at hc
    have HJ : (128 : Int) - (m : Int) = (j : Int) := by omega
    have hj0 : (0 : Int) ≤ (j : Int) := by omega
    have hj1 : (j : Int) < 65 := by omega
    clear hr hG hj
    go_enter Tryd.func41, Tryd.ntmps41
    go_wp2_with fail
    go_ret
    exact ⟨rfl, Drawn0.refl _⟩
  · have h64' : ¬ (64 : Int) < (m : Int) := by omega
    have hc := hG m (by omega)
    rw [sinH, if_neg h64] at hr
    rw [hr] at hc
    have hj0 : (0 : Int) ≤ (m : Int) := by omega
    have hj1 : (m : Int) < 65 := by omega
    clear hr hG
    go_enter Tryd.func41, Tryd.ntmps41
    go_wp2_with fail
    go_ret
    exact ⟨rfl, Drawn0.refl _⟩

theorem fix_Sin.calls (k : Nat) (a0 : Int) (r : Int) (w : World) (h : fix_Sin.f k a0 = some r) (hG : Sines w) :
    Calls Tryd.prog 41 #[.int .i64 a0] w fun e w' => e = .returned (.int .i64 r) ∧ Drawn0 w w' := by
  obtain rfl : sinT a0 = r := Option.some.inj h
  clear h
  obtain ⟨m, hm⟩ : ∃ m : Nat, a0 % 256 = (m : Int) := ⟨(a0 % 256).toNat, by omega⟩
  have ha : Go.bits .and .i64 a0 255 = (m : Int) := by rw [and255, hm]
  have hs : sinT a0 = sinN m := by rw [sinT, hm]; rfl
  rw [hs]
  clear hs
  by_cases hg : 128 ≤ m
  · have hg' : (128 : Int) ≤ (m : Int) := by omega
    have hmm : m < 256 := by omega
    have hb := sinH_bd (m - 128)
    have HC := Lib.hid (fun wx (hx : Sines wx) => sinH_any ((m : Int) - 128) (m - 128) (by omega) (by rw [and255]; omega) wx hx _ rfl)
    have hn : sinN m = - sinH (m - 128) := by rw [sinN, if_pos hg]
    rw [hn]
    generalize sinH (m - 128) = v at *
    have HG := Lib.hid hG
    clear hG hn hm
    go_enter Tryd.func41, Tryd.ntmps41
    go_wp2_with fail
    refine (HC.out _ HG.out).mono ?_
    rintro e w1 ⟨rfl, ⟨n, rfl⟩⟩
    go_wp2_with fail
    go_ret
    exact ⟨rfl, ⟨⟨n, rfl⟩⟩⟩
  · have hn : sinN m = sinH m := by rw [sinN, if_neg hg]
    exact sinH_any a0 m (by omega) ha w hG _ hn.symm
end Go.Proofs.YtnknbikkgohlmaaDoor
