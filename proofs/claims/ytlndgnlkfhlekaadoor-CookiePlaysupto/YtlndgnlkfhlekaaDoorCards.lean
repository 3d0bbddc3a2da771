/-
  DERIVED. GIVEN WITH THE SEED: THE CARDS: each row of YtlndgnlkfhlekaaDoorRows.lean that lists a variable, with what it lists TIED to the program's text (the seventh form; the later family's looks); each row that meets fmt, with fmt's text TOLD by the authors' own Lean function (tested against real Go, not proved from fmt's source: count such statements apart). THE CARD IS WHAT COUNTS. Prove the row's statement (the work); the ties are given (YtlndgnlkfhlekaaDoorTie.lean); close each card by the builder's one call (the guide's Derived/Test/ToyasCard.lean, 'card_holds'). Laid BY PROGRAM, IN A SANDBOX (cutbox-door.mjs). By AI agents, Wed Nov 11 2026. No macro, syntax, notation, axiom, sorry.
-/
import Derived.Test.YtlndgnlkfhlekaaDoorRows
import GoSem.ClaimSeven
namespace Go.Proofs.YtlndgnlkfhlekaaDoor
namespace Rows

/-- THE TIED CARD OF 'joustlaw10.CookiePlays'. -/
def cookiePlaysCard : Claim7 := { stood := { row := cookiePlaysRow, standIns := [], harness := (true, "cd876f39fd43ecb519b8d237e520a5e641466716ede1731dce75c25784c6333c"), looks := false }, kinds := [], alts := [], laidByText := true, laidKinds := [.data, .data, .data], laidTests := true, laidLooks := .later }
def CookiePlaysCardSaid : Prop := Claim7.holds Tryd.pinned (.plain (OpenSpec.ofChange cookiePlaysSpec)) cookiePlaysCard

/-- THE TIED CARD OF 'joustlaw10.CookieOwn'. -/
def cookieOwnCard : Claim7 := { stood := { row := cookieOwnRow, standIns := [], harness := (true, "cd876f39fd43ecb519b8d237e520a5e641466716ede1731dce75c25784c6333c"), looks := false }, kinds := [], alts := [], laidByText := true, laidKinds := [.data], laidTests := true, laidLooks := .later }
def CookieOwnCardSaid : Prop := Claim7.holds Tryd.pinned (.plain (OpenSpec.ofChange cookieOwnSpec)) cookieOwnCard

/-- THE TIED CARD OF 'joustlaw10.CookieEchoed'. -/
def cookieEchoedCard : Claim7 := { stood := { row := cookieEchoedRow, standIns := [], harness := (true, "cd876f39fd43ecb519b8d237e520a5e641466716ede1731dce75c25784c6333c"), looks := false }, kinds := [], alts := [], laidByText := true, laidKinds := [.data], laidTests := true, laidLooks := .later }
def CookieEchoedCardSaid : Prop := Claim7.holds Tryd.pinned (.plain (OpenSpec.ofChange cookieEchoedSpec)) cookieEchoedCard

/-- THE TIED CARD OF 'joustlaw10.CookieParts'. -/
def cookiePartsCard : Claim7 := { stood := { row := cookiePartsRow, standIns := [], harness := (true, "cd876f39fd43ecb519b8d237e520a5e641466716ede1731dce75c25784c6333c"), looks := false }, kinds := [], alts := [], laidByText := true, laidKinds := [.data], laidTests := true, laidLooks := .later }
def CookiePartsCardSaid : Prop := Claim7.holds Tryd.pinned (.plain (OpenSpec.ofChange cookiePartsSpec)) cookiePartsCard

/-- THE TIED CARD OF 'joustlaw10.CookieOne'. -/
def cookieOneCard : Claim7 := { stood := { row := cookieOneRow, standIns := [], harness := (true, "cd876f39fd43ecb519b8d237e520a5e641466716ede1731dce75c25784c6333c"), looks := false }, kinds := [], alts := [], laidByText := true, laidKinds := [.data], laidTests := true, laidLooks := .later }
def CookieOneCardSaid : Prop := Claim7.holds Tryd.pinned (.plain (OpenSpec.ofChange cookieOneSpec)) cookieOneCard

/-- THE SECOND FORM's CARD OF 'joustlaw10.CookiePlays'. -/
def cookiePlaysUptoCard : Claim7 := { stood := { row := cookiePlaysUptoRow, standIns := [], harness := (true, "cd876f39fd43ecb519b8d237e520a5e641466716ede1731dce75c25784c6333c"), looks := false }, kinds := [], alts := [], laidByText := true, laidKinds := [.data, .data, .data], laidTests := true, laidLooks := .later }
def CookiePlaysUptoCardSaid : Prop := Claim7.holds Tryd.pinned (.plain (OpenSpec.upto cookiePlaysSpec)) cookiePlaysUptoCard

/-- THE SECOND FORM's CARD OF 'joustlaw10.CookieOwn'. -/
def cookieOwnUptoCard : Claim7 := { stood := { row := cookieOwnUptoRow, standIns := [], harness := (true, "cd876f39fd43ecb519b8d237e520a5e641466716ede1731dce75c25784c6333c"), looks := false }, kinds := [], alts := [], laidByText := true, laidKinds := [.data], laidTests := true, laidLooks := .later }
def CookieOwnUptoCardSaid : Prop := Claim7.holds Tryd.pinned (.plain (OpenSpec.upto cookieOwnSpec)) cookieOwnUptoCard

/-- THE SECOND FORM's CARD OF 'joustlaw10.CookieEchoed'. -/
def cookieEchoedUptoCard : Claim7 := { stood := { row := cookieEchoedUptoRow, standIns := [], harness := (true, "cd876f39fd43ecb519b8d237e520a5e641466716ede1731dce75c25784c6333c"), looks := false }, kinds := [], alts := [], laidByText := true, laidKinds := [.data], laidTests := true, laidLooks := .later }
def CookieEchoedUptoCardSaid : Prop := Claim7.holds Tryd.pinned (.plain (OpenSpec.upto cookieEchoedSpec)) cookieEchoedUptoCard

/-- THE SECOND FORM's CARD OF 'joustlaw10.CookieParts'. -/
def cookiePartsUptoCard : Claim7 := { stood := { row := cookiePartsUptoRow, standIns := [], harness := (true, "cd876f39fd43ecb519b8d237e520a5e641466716ede1731dce75c25784c6333c"), looks := false }, kinds := [], alts := [], laidByText := true, laidKinds := [.data], laidTests := true, laidLooks := .later }
def CookiePartsUptoCardSaid : Prop := Claim7.holds Tryd.pinned (.plain (OpenSpec.upto cookiePartsSpec)) cookiePartsUptoCard

/-- THE SECOND FORM's CARD OF 'joustlaw10.CookieOne'. -/
def cookieOneUptoCard : Claim7 := { stood := { row := cookieOneUptoRow, standIns := [], harness := (true, "cd876f39fd43ecb519b8d237e520a5e641466716ede1731dce75c25784c6333c"), looks := false }, kinds := [], alts := [], laidByText := true, laidKinds := [.data], laidTests := true, laidLooks := .later }
def CookieOneUptoCardSaid : Prop := Claim7.holds Tryd.pinned (.plain (OpenSpec.upto cookieOneSpec)) cookieOneUptoCard
end Rows
end Go.Proofs.YtlndgnlkfhlekaaDoor
