/-
  DERIVED. GIVEN WITH THE SEED: THE CARDS: each row of YtnknbikkgohlmaaDoorRows.lean that lists a variable, with what it lists TIED to the program's text (the seventh form; the later family's looks); each row that meets fmt, with fmt's text TOLD by the authors' own Lean function (tested against real Go, not proved from fmt's source: count such statements apart). THE CARD IS WHAT COUNTS. Prove the row's statement (the work); the ties are given (YtnknbikkgohlmaaDoorTie.lean); close each card by the builder's one call (the guide's Derived/Test/ToyasCard.lean, 'card_holds'). Laid BY PROGRAM, IN A SANDBOX (cutbox-door.mjs). By AI agents, Wed Nov 11 2026. No macro, syntax, notation, axiom, sorry.
-/
import Derived.Test.YtnknbikkgohlmaaDoorRows
import GoSem.ClaimSeven
namespace Go.Proofs.YtnknbikkgohlmaaDoor
namespace Rows

/-- THE TIED CARD OF 'joustlaw16.ShotFires'. -/
def shotFiresCard : Claim7 := { stood := { row := shotFiresRow, standIns := [], harness := (true, "d5165585d9d02afdf90644c150a1ff45c2eea868b16bd28ef24767b0a3733ef4"), looks := false }, kinds := [], alts := [], laidByText := true, laidKinds := [.data], laidTests := true, laidLooks := .later }
def ShotFiresCardSaid : Prop := Claim7.holds Tryd.pinned (.plain (OpenSpec.ofChange shotFiresSpec)) shotFiresCard

/-- THE TIED CARD OF 'joustlaw16.ShotMoves'. -/
def shotMovesCard : Claim7 := { stood := { row := shotMovesRow, standIns := [], harness := (true, "d5165585d9d02afdf90644c150a1ff45c2eea868b16bd28ef24767b0a3733ef4"), looks := false }, kinds := [], alts := [], laidByText := true, laidKinds := [.data], laidTests := true, laidLooks := .later }
def ShotMovesCardSaid : Prop := Claim7.holds Tryd.pinned (.plain (OpenSpec.ofChange shotMovesSpec)) shotMovesCard

/-- THE TIED CARD OF 'joustlaw16.ShotPays'. -/
def shotPaysCard : Claim7 := { stood := { row := shotPaysRow, standIns := [], harness := (true, "d5165585d9d02afdf90644c150a1ff45c2eea868b16bd28ef24767b0a3733ef4"), looks := false }, kinds := [], alts := [], laidByText := true, laidKinds := [.data], laidTests := true, laidLooks := .later }
def ShotPaysCardSaid : Prop := Claim7.holds Tryd.pinned (.plain (OpenSpec.ofChange shotPaysSpec)) shotPaysCard

/-- THE TIED CARD OF 'joustlaw16.ShotFlies'. -/
def shotFliesCard : Claim7 := { stood := { row := shotFliesRow, standIns := [], harness := (true, "d5165585d9d02afdf90644c150a1ff45c2eea868b16bd28ef24767b0a3733ef4"), looks := false }, kinds := [], alts := [], laidByText := true, laidKinds := [.data], laidTests := true, laidLooks := .later }
def ShotFliesCardSaid : Prop := Claim7.holds Tryd.pinned (.plain (OpenSpec.ofChange shotFliesSpec)) shotFliesCard

/-- THE TIED CARD OF 'joustlaw16.ShotBlind'. -/
def shotBlindCard : Claim7 := { stood := { row := shotBlindRow, standIns := [], harness := (true, "d5165585d9d02afdf90644c150a1ff45c2eea868b16bd28ef24767b0a3733ef4"), looks := false }, kinds := [], alts := [], laidByText := true, laidKinds := [.data], laidTests := true, laidLooks := .later }
def ShotBlindCardSaid : Prop := Claim7.holds Tryd.pinned (.plain (OpenSpec.ofChange shotBlindSpec)) shotBlindCard

/-- THE TIED CARD OF 'joustlaw16.ShotJumps'. -/
def shotJumpsCard : Claim7 := { stood := { row := shotJumpsRow, standIns := [], harness := (true, "d5165585d9d02afdf90644c150a1ff45c2eea868b16bd28ef24767b0a3733ef4"), looks := false }, kinds := [], alts := [], laidByText := true, laidKinds := [.data], laidTests := true, laidLooks := .later }
def ShotJumpsCardSaid : Prop := Claim7.holds Tryd.pinned (.plain (OpenSpec.ofChange shotJumpsSpec)) shotJumpsCard

/-- THE TIED CARD OF 'joustlaw03.FixExact'. -/
def fixExactCard : Claim7 := { stood := { row := fixExactRow, standIns := [], harness := (true, "d5165585d9d02afdf90644c150a1ff45c2eea868b16bd28ef24767b0a3733ef4"), looks := false }, kinds := [], alts := [], laidByText := true, laidKinds := [.data], laidTests := true, laidLooks := .later }
def FixExactCardSaid : Prop := Claim7.holds Tryd.pinned (.plain (OpenSpec.ofChange fixExactSpec)) fixExactCard

/-- THE TIED CARD OF 'joustlaw03.FixTurns'. -/
def fixTurnsCard : Claim7 := { stood := { row := fixTurnsRow, standIns := [], harness := (true, "d5165585d9d02afdf90644c150a1ff45c2eea868b16bd28ef24767b0a3733ef4"), looks := false }, kinds := [], alts := [], laidByText := true, laidKinds := [.data], laidTests := true, laidLooks := .later }
def FixTurnsCardSaid : Prop := Claim7.holds Tryd.pinned (.plain (OpenSpec.ofChange fixTurnsSpec)) fixTurnsCard

/-- THE TIED CARD OF 'joustlaw03.FixFloats'. -/
def fixFloatsCard : Claim7 := { stood := { row := fixFloatsRow, standIns := [], harness := (true, "d5165585d9d02afdf90644c150a1ff45c2eea868b16bd28ef24767b0a3733ef4"), looks := false }, kinds := [], alts := [], laidByText := true, laidKinds := [.data], laidTests := true, laidLooks := .later }
def FixFloatsCardSaid : Prop := Claim7.holds Tryd.pinned (.plain (OpenSpec.ofChange fixFloatsSpec)) fixFloatsCard

/-- THE TIED CARD OF 'joustlaw03.FixBounds'. -/
def fixBoundsCard : Claim7 := { stood := { row := fixBoundsRow, standIns := [], harness := (true, "d5165585d9d02afdf90644c150a1ff45c2eea868b16bd28ef24767b0a3733ef4"), looks := false }, kinds := [], alts := [], laidByText := true, laidKinds := [.data], laidTests := true, laidLooks := .later }
def FixBoundsCardSaid : Prop := Claim7.holds Tryd.pinned (.plain (OpenSpec.ofChange fixBoundsSpec)) fixBoundsCard

/-- THE TIED CARD OF 'joustlaw03.FixRounds'. -/
def fixRoundsCard : Claim7 := { stood := { row := fixRoundsRow, standIns := [], harness := (true, "d5165585d9d02afdf90644c150a1ff45c2eea868b16bd28ef24767b0a3733ef4"), looks := false }, kinds := [], alts := [], laidByText := true, laidKinds := [.data], laidTests := true, laidLooks := .later }
def FixRoundsCardSaid : Prop := Claim7.holds Tryd.pinned (.plain (OpenSpec.ofChange fixRoundsSpec)) fixRoundsCard

/-- THE SECOND FORM's CARD OF 'joustlaw16.ShotFires'. -/
def shotFiresUptoCard : Claim7 := { stood := { row := shotFiresUptoRow, standIns := [], harness := (true, "d5165585d9d02afdf90644c150a1ff45c2eea868b16bd28ef24767b0a3733ef4"), looks := false }, kinds := [], alts := [], laidByText := true, laidKinds := [.data], laidTests := true, laidLooks := .later }
def ShotFiresUptoCardSaid : Prop := Claim7.holds Tryd.pinned (.plain (OpenSpec.upto shotFiresSpec)) shotFiresUptoCard

/-- THE SECOND FORM's CARD OF 'joustlaw16.ShotMoves'. -/
def shotMovesUptoCard : Claim7 := { stood := { row := shotMovesUptoRow, standIns := [], harness := (true, "d5165585d9d02afdf90644c150a1ff45c2eea868b16bd28ef24767b0a3733ef4"), looks := false }, kinds := [], alts := [], laidByText := true, laidKinds := [.data], laidTests := true, laidLooks := .later }
def ShotMovesUptoCardSaid : Prop := Claim7.holds Tryd.pinned (.plain (OpenSpec.upto shotMovesSpec)) shotMovesUptoCard

/-- THE SECOND FORM's CARD OF 'joustlaw16.ShotPays'. -/
def shotPaysUptoCard : Claim7 := { stood := { row := shotPaysUptoRow, standIns := [], harness := (true, "d5165585d9d02afdf90644c150a1ff45c2eea868b16bd28ef24767b0a3733ef4"), looks := false }, kinds := [], alts := [], laidByText := true, laidKinds := [.data], laidTests := true, laidLooks := .later }
def ShotPaysUptoCardSaid : Prop := Claim7.holds Tryd.pinned (.plain (OpenSpec.upto shotPaysSpec)) shotPaysUptoCard

/-- THE SECOND FORM's CARD OF 'joustlaw16.ShotFlies'. -/
def shotFliesUptoCard : Claim7 := { stood := { row := shotFliesUptoRow, standIns := [], harness := (true, "d5165585d9d02afdf90644c150a1ff45c2eea868b16bd28ef24767b0a3733ef4"), looks := false }, kinds := [], alts := [], laidByText := true, laidKinds := [.data], laidTests := true, laidLooks := .later }
def ShotFliesUptoCardSaid : Prop := Claim7.holds Tryd.pinned (.plain (OpenSpec.upto shotFliesSpec)) shotFliesUptoCard

/-- THE SECOND FORM's CARD OF 'joustlaw16.ShotBlind'. -/
def shotBlindUptoCard : Claim7 := { stood := { row := shotBlindUptoRow, standIns := [], harness := (true, "d5165585d9d02afdf90644c150a1ff45c2eea868b16bd28ef24767b0a3733ef4"), looks := false }, kinds := [], alts := [], laidByText := true, laidKinds := [.data], laidTests := true, laidLooks := .later }
def ShotBlindUptoCardSaid : Prop := Claim7.holds Tryd.pinned (.plain (OpenSpec.upto shotBlindSpec)) shotBlindUptoCard

/-- THE SECOND FORM's CARD OF 'joustlaw16.ShotJumps'. -/
def shotJumpsUptoCard : Claim7 := { stood := { row := shotJumpsUptoRow, standIns := [], harness := (true, "d5165585d9d02afdf90644c150a1ff45c2eea868b16bd28ef24767b0a3733ef4"), looks := false }, kinds := [], alts := [], laidByText := true, laidKinds := [.data], laidTests := true, laidLooks := .later }
def ShotJumpsUptoCardSaid : Prop := Claim7.holds Tryd.pinned (.plain (OpenSpec.upto shotJumpsSpec)) shotJumpsUptoCard

/-- THE SECOND FORM's CARD OF 'joustlaw03.FixExact'. -/
def fixExactUptoCard : Claim7 := { stood := { row := fixExactUptoRow, standIns := [], harness := (true, "d5165585d9d02afdf90644c150a1ff45c2eea868b16bd28ef24767b0a3733ef4"), looks := false }, kinds := [], alts := [], laidByText := true, laidKinds := [.data], laidTests := true, laidLooks := .later }
def FixExactUptoCardSaid : Prop := Claim7.holds Tryd.pinned (.plain (OpenSpec.upto fixExactSpec)) fixExactUptoCard

/-- THE SECOND FORM's CARD OF 'joustlaw03.FixTurns'. -/
def fixTurnsUptoCard : Claim7 := { stood := { row := fixTurnsUptoRow, standIns := [], harness := (true, "d5165585d9d02afdf90644c150a1ff45c2eea868b16bd28ef24767b0a3733ef4"), looks := false }, kinds := [], alts := [], laidByText := true, laidKinds := [.data], laidTests := true, laidLooks := .later }
def FixTurnsUptoCardSaid : Prop := Claim7.holds Tryd.pinned (.plain (OpenSpec.upto fixTurnsSpec)) fixTurnsUptoCard

/-- THE SECOND FORM's CARD OF 'joustlaw03.FixFloats'. -/
def fixFloatsUptoCard : Claim7 := { stood := { row := fixFloatsUptoRow, standIns := [], harness := (true, "d5165585d9d02afdf90644c150a1ff45c2eea868b16bd28ef24767b0a3733ef4"), looks := false }, kinds := [], alts := [], laidByText := true, laidKinds := [.data], laidTests := true, laidLooks := .later }
def FixFloatsUptoCardSaid : Prop := Claim7.holds Tryd.pinned (.plain (OpenSpec.upto fixFloatsSpec)) fixFloatsUptoCard

/-- THE SECOND FORM's CARD OF 'joustlaw03.FixBounds'. -/
def fixBoundsUptoCard : Claim7 := { stood := { row := fixBoundsUptoRow, standIns := [], harness := (true, "d5165585d9d02afdf90644c150a1ff45c2eea868b16bd28ef24767b0a3733ef4"), looks := false }, kinds := [], alts := [], laidByText := true, laidKinds := [.data], laidTests := true, laidLooks := .later }
def FixBoundsUptoCardSaid : Prop := Claim7.holds Tryd.pinned (.plain (OpenSpec.upto fixBoundsSpec)) fixBoundsUptoCard

/-- THE SECOND FORM's CARD OF 'joustlaw03.FixRounds'. -/
def fixRoundsUptoCard : Claim7 := { stood := { row := fixRoundsUptoRow, standIns := [], harness := (true, "d5165585d9d02afdf90644c150a1ff45c2eea868b16bd28ef24767b0a3733ef4"), looks := false }, kinds := [], alts := [], laidByText := true, laidKinds := [.data], laidTests := true, laidLooks := .later }
def FixRoundsUptoCardSaid : Prop := Claim7.holds Tryd.pinned (.plain (OpenSpec.upto fixRoundsSpec)) fixRoundsUptoCard
end Rows
end Go.Proofs.YtnknbikkgohlmaaDoor
