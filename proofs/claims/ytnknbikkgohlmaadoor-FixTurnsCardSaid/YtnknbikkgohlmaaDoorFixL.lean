/- FixBounds, FixRounds, FixTurns: each law's call. -/
import Derived.Test.YtnknbikkgohlmaaDoorFixT
import Derived.Test.YtnknbikkgohlmaaDoorSinL
namespace Go.Proofs.YtnknbikkgohlmaaDoor
open Go.RowKit

theorem fixBounds_any (W : World) (hG : Sines W) (a b : Int) (ha : (Lit.int .i64 a).wf = true) (hb : (Lit.int .i64 b).wf = true) :
    Calls Tryd.prog 12 #[.int .i64 a, .int .i64 b] W fun e W' => e = .returned (.bool true) ∧ Mod none_ W W' := by
  obtain ⟨k, h⟩ := FixM.fixBounds a b ha hb
  exact (VFixBounds.joustlaw03_FixBounds.calls k a b true W h hG).mono fun e W' ⟨he, hd⟩ => ⟨he, Mod.of_below hd⟩
theorem fixRounds_any (W : World) (hG : Sines W) (a b : Int) (ha : (Lit.int .i64 a).wf = true) (hb : (Lit.int .i64 b).wf = true) :
    Calls Tryd.prog 13 #[.int .i64 a, .int .i64 b] W fun e W' => e = .returned (.bool true) ∧ Mod none_ W W' := by
  obtain ⟨k, h⟩ := FixM.fixRounds a b ha hb
  exact (VFixRounds.joustlaw03_FixRounds.calls k a b true W h hG).mono fun e W' ⟨he, hd⟩ => ⟨he, Mod.of_below hd⟩
theorem fixTurns_any (W : World) (hG : Sines W) (a : Int) (ha : (Lit.int .i64 a).wf = true) :
    Calls Tryd.prog 10 #[.int .i64 a] W fun e W' => e = .returned (.bool true) ∧ Mod none_ W W' := by
  obtain ⟨k, h⟩ := FixM.fixTurns a ha
  exact (VFixTurns.joustlaw03_FixTurns.calls k a true W h hG).mono fun e W' ⟨he, hd⟩ => ⟨he, Mod.of_below hd⟩
end Go.Proofs.YtnknbikkgohlmaaDoor
