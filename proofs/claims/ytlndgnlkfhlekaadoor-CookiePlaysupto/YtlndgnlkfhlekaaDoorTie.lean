/-
  DERIVED. GIVEN WITH THE SEED: THE PROGRAM's TIES (one call each: nine closed facts by the kernel) AND EACH ROW's TIE, after the 31st guide's Derived/Test/Toyas{Tie, Card}.lean. No idea stands in it: it is a product of the set-up. Laid BY PROGRAM, IN A SANDBOX (cutbox-door.mjs). By AI agents, Wed Nov 11 2026. No macro, syntax, notation, axiom, sorry.
-/
import Derived.Test.YtlndgnlkfhlekaaDoorRows
import Derived.LaidByTextLater
import Derived.SevenTiedAt
import Derived.LaidSub
import Derived.LaidOnce
namespace Go.Proofs.YtlndgnlkfhlekaaDoor
open Go
set_option maxRecDepth 100000
theorem seatTie1 : Tryd.prog.laidByTextLater [("joust/joustref01.roots", Rows.laid_joust_joustref01_roots), ("joust/joustref01.cubes", Rows.laid_joust_joustref01_cubes), ("joust/sha.rounds", Rows.laid_joust_sha_rounds)] [.data, .data, .data] true :=
  Program.laidByTextLater_by_one 24 8 65 (by kernel_rfl) (by kernel_rfl) (by kernel_rfl) (by kernel_rfl) (by kernel_rfl) (by kernel_rfl) (fun _ _ => by kernel_rfl)
theorem noOwnUnsafe : Tryd.pinned.checked.prog.headLifts.contains "ownunsafe" = false := by kernel_rfl
theorem tie : Tryd.prog.laidByTextLater [("joust/joustref01.roots", Rows.laid_joust_joustref01_roots), ("joust/joustref01.cubes", Rows.laid_joust_joustref01_cubes), ("joust/sha.rounds", Rows.laid_joust_sha_rounds)] [.data, .data, .data] true :=
  Program.laidByTextLater.sub seatTie1 ["joust/joustref01.roots", "joust/joustref01.cubes", "joust/sha.rounds"] (by kernel_rfl) (by kernel_rfl)
theorem cookiePlays_row_tie : Rows.cookiePlaysRow.laidByTextAt .later Tryd.pinned [.data, .data, .data] true :=
  OpenClaim.laidByTextAt_later rfl rfl tie noOwnUnsafe
theorem tie2 : Tryd.prog.laidByTextLater [("joust/sha.rounds", Rows.laid_joust_sha_rounds)] [.data] true :=
  Program.laidByTextLater.sub seatTie1 ["joust/sha.rounds"] (by kernel_rfl) (by kernel_rfl)
theorem cookieOwn_row_tie : Rows.cookieOwnRow.laidByTextAt .later Tryd.pinned [.data] true :=
  OpenClaim.laidByTextAt_later rfl rfl tie2 noOwnUnsafe
theorem cookieEchoed_row_tie : Rows.cookieEchoedRow.laidByTextAt .later Tryd.pinned [.data] true :=
  OpenClaim.laidByTextAt_later rfl rfl tie2 noOwnUnsafe
theorem cookieParts_row_tie : Rows.cookiePartsRow.laidByTextAt .later Tryd.pinned [.data] true :=
  OpenClaim.laidByTextAt_later rfl rfl tie2 noOwnUnsafe
theorem cookieOne_row_tie : Rows.cookieOneRow.laidByTextAt .later Tryd.pinned [.data] true :=
  OpenClaim.laidByTextAt_later rfl rfl tie2 noOwnUnsafe
theorem cookiePlaysUpto_row_tie : Rows.cookiePlaysUptoRow.laidByTextAt .later Tryd.pinned [.data, .data, .data] true :=
  OpenClaim.laidByTextAt_later rfl rfl tie noOwnUnsafe
theorem cookieOwnUpto_row_tie : Rows.cookieOwnUptoRow.laidByTextAt .later Tryd.pinned [.data] true :=
  OpenClaim.laidByTextAt_later rfl rfl tie2 noOwnUnsafe
theorem cookieEchoedUpto_row_tie : Rows.cookieEchoedUptoRow.laidByTextAt .later Tryd.pinned [.data] true :=
  OpenClaim.laidByTextAt_later rfl rfl tie2 noOwnUnsafe
theorem cookiePartsUpto_row_tie : Rows.cookiePartsUptoRow.laidByTextAt .later Tryd.pinned [.data] true :=
  OpenClaim.laidByTextAt_later rfl rfl tie2 noOwnUnsafe
theorem cookieOneUpto_row_tie : Rows.cookieOneUptoRow.laidByTextAt .later Tryd.pinned [.data] true :=
  OpenClaim.laidByTextAt_later rfl rfl tie2 noOwnUnsafe
end Go.Proofs.YtlndgnlkfhlekaaDoor
