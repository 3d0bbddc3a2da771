/-
  DERIVED. GIVEN WITH THE SEED: THE CARDS: each row of YtinjlkceplhibaaDoorRows.lean that lists a variable, with what it lists TIED to the program's text (the seventh form; the later family's looks); each row that meets fmt, with fmt's text TOLD by the authors' own Lean function (tested against real Go, not proved from fmt's source: count such statements apart). THE CARD IS WHAT COUNTS. Prove the row's statement (the work); the ties are given (YtinjlkceplhibaaDoorTie.lean); close each card by the builder's one call (the guide's Derived/Test/ToyasCard.lean, 'card_holds'). Laid BY PROGRAM, IN A SANDBOX (cutbox-door.mjs). By AI agents, Wed Nov 11 2026. No macro, syntax, notation, axiom, sorry.
-/
import Derived.Test.YtinjlkceplhibaaDoorRows
import GoSem.ClaimSeven
namespace Go.Proofs.YtinjlkceplhibaaDoor
namespace Rows

/-- THE TIED CARD OF 'joustlaw16.ShotFires'. -/
def shotFiresCard : Claim7 := { stood := { row := shotFiresRow, standIns := [], harness := (true, "85ad101b9b561f296873f291702d4fd0931761ec94ad184c8b923243e8203b08"), looks := false }, kinds := [], alts := [], laidByText := true, laidKinds := [.data], laidTests := true, laidLooks := .later }
def ShotFiresCardSaid : Prop := Claim7.holds Tryd.pinned (.plain (OpenSpec.ofChange shotFiresSpec)) shotFiresCard

/-- THE TIED CARD OF 'joustlaw16.ShotMoves'. -/
def shotMovesCard : Claim7 := { stood := { row := shotMovesRow, standIns := [], harness := (true, "85ad101b9b561f296873f291702d4fd0931761ec94ad184c8b923243e8203b08"), looks := false }, kinds := [], alts := [], laidByText := true, laidKinds := [.data], laidTests := true, laidLooks := .later }
def ShotMovesCardSaid : Prop := Claim7.holds Tryd.pinned (.plain (OpenSpec.ofChange shotMovesSpec)) shotMovesCard

/-- THE TIED CARD OF 'joustlaw16.ShotPays'. -/
def shotPaysCard : Claim7 := { stood := { row := shotPaysRow, standIns := [], harness := (true, "85ad101b9b561f296873f291702d4fd0931761ec94ad184c8b923243e8203b08"), looks := false }, kinds := [], alts := [], laidByText := true, laidKinds := [.data], laidTests := true, laidLooks := .later }
def ShotPaysCardSaid : Prop := Claim7.holds Tryd.pinned (.plain (OpenSpec.ofChange shotPaysSpec)) shotPaysCard

/-- THE TIED CARD OF 'joustlaw16.ShotFlies'. -/
def shotFliesCard : Claim7 := { stood := { row := shotFliesRow, standIns := [], harness := (true, "85ad101b9b561f296873f291702d4fd0931761ec94ad184c8b923243e8203b08"), looks := false }, kinds := [], alts := [], laidByText := true, laidKinds := [.data], laidTests := true, laidLooks := .later }
def ShotFliesCardSaid : Prop := Claim7.holds Tryd.pinned (.plain (OpenSpec.ofChange shotFliesSpec)) shotFliesCard

/-- THE TIED CARD OF 'joustlaw16.ShotBlind'. -/
def shotBlindCard : Claim7 := { stood := { row := shotBlindRow, standIns := [], harness := (true, "85ad101b9b561f296873f291702d4fd0931761ec94ad184c8b923243e8203b08"), looks := false }, kinds := [], alts := [], laidByText := true, laidKinds := [.data], laidTests := true, laidLooks := .later }
def ShotBlindCardSaid : Prop := Claim7.holds Tryd.pinned (.plain (OpenSpec.ofChange shotBlindSpec)) shotBlindCard

/-- THE TIED CARD OF 'joustlaw16.ShotJumps'. -/
def shotJumpsCard : Claim7 := { stood := { row := shotJumpsRow, standIns := [], harness := (true, "85ad101b9b561f296873f291702d4fd0931761ec94ad184c8b923243e8203b08"), looks := false }, kinds := [], alts := [], laidByText := true, laidKinds := [.data], laidTests := true, laidLooks := .later }
def ShotJumpsCardSaid : Prop := Claim7.holds Tryd.pinned (.plain (OpenSpec.ofChange shotJumpsSpec)) shotJumpsCard

/-- THE TIED CARD OF 'joustlaw15.CarDrives'. -/
def carDrivesCard : Claim7 := { stood := { row := carDrivesRow, standIns := [], harness := (true, "85ad101b9b561f296873f291702d4fd0931761ec94ad184c8b923243e8203b08"), looks := false }, kinds := [], alts := [], laidByText := true, laidKinds := [.data], laidTests := true, laidLooks := .later }
def CarDrivesCardSaid : Prop := Claim7.holds Tryd.pinned (.plain (OpenSpec.ofChange carDrivesSpec)) carDrivesCard

/-- THE TIED CARD OF 'joustlaw15.CarFree'. -/
def carFreeCard : Claim7 := { stood := { row := carFreeRow, standIns := [], harness := (true, "85ad101b9b561f296873f291702d4fd0931761ec94ad184c8b923243e8203b08"), looks := false }, kinds := [], alts := [], laidByText := true, laidKinds := [.data], laidTests := true, laidLooks := .later }
def CarFreeCardSaid : Prop := Claim7.holds Tryd.pinned (.plain (OpenSpec.ofChange carFreeSpec)) carFreeCard

/-- THE TIED CARD OF 'joustlaw15.CarComes'. -/
def carComesCard : Claim7 := { stood := { row := carComesRow, standIns := [], harness := (true, "85ad101b9b561f296873f291702d4fd0931761ec94ad184c8b923243e8203b08"), looks := false }, kinds := [], alts := [], laidByText := true, laidKinds := [.data], laidTests := true, laidLooks := .later }
def CarComesCardSaid : Prop := Claim7.holds Tryd.pinned (.plain (OpenSpec.ofChange carComesSpec)) carComesCard

/-- THE TIED CARD OF 'joustlaw15.CarRound'. -/
def carRoundCard : Claim7 := { stood := { row := carRoundRow, standIns := [], harness := (true, "85ad101b9b561f296873f291702d4fd0931761ec94ad184c8b923243e8203b08"), looks := false }, kinds := [], alts := [], laidByText := true, laidKinds := [.data], laidTests := true, laidLooks := .later }
def CarRoundCardSaid : Prop := Claim7.holds Tryd.pinned (.plain (OpenSpec.ofChange carRoundSpec)) carRoundCard

/-- THE TIED CARD OF 'joustlaw15.CarRests'. -/
def carRestsCard : Claim7 := { stood := { row := carRestsRow, standIns := [], harness := (true, "85ad101b9b561f296873f291702d4fd0931761ec94ad184c8b923243e8203b08"), looks := false }, kinds := [], alts := [], laidByText := true, laidKinds := [.data], laidTests := true, laidLooks := .later }
def CarRestsCardSaid : Prop := Claim7.holds Tryd.pinned (.plain (OpenSpec.ofChange carRestsSpec)) carRestsCard

/-- THE TIED CARD OF 'joustlaw15.CarHits'. -/
def carHitsCard : Claim7 := { stood := { row := carHitsRow, standIns := [], harness := (true, "85ad101b9b561f296873f291702d4fd0931761ec94ad184c8b923243e8203b08"), looks := false }, kinds := [], alts := [], laidByText := true, laidKinds := [.data], laidTests := true, laidLooks := .later }
def CarHitsCardSaid : Prop := Claim7.holds Tryd.pinned (.plain (OpenSpec.ofChange carHitsSpec)) carHitsCard

/-- THE SECOND FORM's CARD OF 'joustlaw16.ShotFires'. -/
def shotFiresUptoCard : Claim7 := { stood := { row := shotFiresUptoRow, standIns := [], harness := (true, "85ad101b9b561f296873f291702d4fd0931761ec94ad184c8b923243e8203b08"), looks := false }, kinds := [], alts := [], laidByText := true, laidKinds := [.data], laidTests := true, laidLooks := .later }
def ShotFiresUptoCardSaid : Prop := Claim7.holds Tryd.pinned (.plain (OpenSpec.upto shotFiresSpec)) shotFiresUptoCard

/-- THE SECOND FORM's CARD OF 'joustlaw16.ShotMoves'. -/
def shotMovesUptoCard : Claim7 := { stood := { row := shotMovesUptoRow, standIns := [], harness := (true, "85ad101b9b561f296873f291702d4fd0931761ec94ad184c8b923243e8203b08"), looks := false }, kinds := [], alts := [], laidByText := true, laidKinds := [.data], laidTests := true, laidLooks := .later }
def ShotMovesUptoCardSaid : Prop := Claim7.holds Tryd.pinned (.plain (OpenSpec.upto shotMovesSpec)) shotMovesUptoCard

/-- THE SECOND FORM's CARD OF 'joustlaw16.ShotPays'. -/
def shotPaysUptoCard : Claim7 := { stood := { row := shotPaysUptoRow, standIns := [], harness := (true, "85ad101b9b561f296873f291702d4fd0931761ec94ad184c8b923243e8203b08"), looks := false }, kinds := [], alts := [], laidByText := true, laidKinds := [.data], laidTests := true, laidLooks := .later }
def ShotPaysUptoCardSaid : Prop := Claim7.holds Tryd.pinned (.plain (OpenSpec.upto shotPaysSpec)) shotPaysUptoCard

/-- THE SECOND FORM's CARD OF 'joustlaw16.ShotFlies'. -/
def shotFliesUptoCard : Claim7 := { stood := { row := shotFliesUptoRow, standIns := [], harness := (true, "85ad101b9b561f296873f291702d4fd0931761ec94ad184c8b923243e8203b08"), looks := false }, kinds := [], alts := [], laidByText := true, laidKinds := [.data], laidTests := true, laidLooks := .later }
def ShotFliesUptoCardSaid : Prop := Claim7.holds Tryd.pinned (.plain (OpenSpec.upto shotFliesSpec)) shotFliesUptoCard

/-- THE SECOND FORM's CARD OF 'joustlaw16.ShotBlind'. -/
def shotBlindUptoCard : Claim7 := { stood := { row := shotBlindUptoRow, standIns := [], harness := (true, "85ad101b9b561f296873f291702d4fd0931761ec94ad184c8b923243e8203b08"), looks := false }, kinds := [], alts := [], laidByText := true, laidKinds := [.data], laidTests := true, laidLooks := .later }
def ShotBlindUptoCardSaid : Prop := Claim7.holds Tryd.pinned (.plain (OpenSpec.upto shotBlindSpec)) shotBlindUptoCard

/-- THE SECOND FORM's CARD OF 'joustlaw16.ShotJumps'. -/
def shotJumpsUptoCard : Claim7 := { stood := { row := shotJumpsUptoRow, standIns := [], harness := (true, "85ad101b9b561f296873f291702d4fd0931761ec94ad184c8b923243e8203b08"), looks := false }, kinds := [], alts := [], laidByText := true, laidKinds := [.data], laidTests := true, laidLooks := .later }
def ShotJumpsUptoCardSaid : Prop := Claim7.holds Tryd.pinned (.plain (OpenSpec.upto shotJumpsSpec)) shotJumpsUptoCard

/-- THE SECOND FORM's CARD OF 'joustlaw15.CarDrives'. -/
def carDrivesUptoCard : Claim7 := { stood := { row := carDrivesUptoRow, standIns := [], harness := (true, "85ad101b9b561f296873f291702d4fd0931761ec94ad184c8b923243e8203b08"), looks := false }, kinds := [], alts := [], laidByText := true, laidKinds := [.data], laidTests := true, laidLooks := .later }
def CarDrivesUptoCardSaid : Prop := Claim7.holds Tryd.pinned (.plain (OpenSpec.upto carDrivesSpec)) carDrivesUptoCard

/-- THE SECOND FORM's CARD OF 'joustlaw15.CarFree'. -/
def carFreeUptoCard : Claim7 := { stood := { row := carFreeUptoRow, standIns := [], harness := (true, "85ad101b9b561f296873f291702d4fd0931761ec94ad184c8b923243e8203b08"), looks := false }, kinds := [], alts := [], laidByText := true, laidKinds := [.data], laidTests := true, laidLooks := .later }
def CarFreeUptoCardSaid : Prop := Claim7.holds Tryd.pinned (.plain (OpenSpec.upto carFreeSpec)) carFreeUptoCard

/-- THE SECOND FORM's CARD OF 'joustlaw15.CarComes'. -/
def carComesUptoCard : Claim7 := { stood := { row := carComesUptoRow, standIns := [], harness := (true, "85ad101b9b561f296873f291702d4fd0931761ec94ad184c8b923243e8203b08"), looks := false }, kinds := [], alts := [], laidByText := true, laidKinds := [.data], laidTests := true, laidLooks := .later }
def CarComesUptoCardSaid : Prop := Claim7.holds Tryd.pinned (.plain (OpenSpec.upto carComesSpec)) carComesUptoCard

/-- THE SECOND FORM's CARD OF 'joustlaw15.CarRound'. -/
def carRoundUptoCard : Claim7 := { stood := { row := carRoundUptoRow, standIns := [], harness := (true, "85ad101b9b561f296873f291702d4fd0931761ec94ad184c8b923243e8203b08"), looks := false }, kinds := [], alts := [], laidByText := true, laidKinds := [.data], laidTests := true, laidLooks := .later }
def CarRoundUptoCardSaid : Prop := Claim7.holds Tryd.pinned (.plain (OpenSpec.upto carRoundSpec)) carRoundUptoCard

/-- THE SECOND FORM's CARD OF 'joustlaw15.CarRests'. -/
def carRestsUptoCard : Claim7 := { stood := { row := carRestsUptoRow, standIns := [], harness := (true, "85ad101b9b561f296873f291702d4fd0931761ec94ad184c8b923243e8203b08"), looks := false }, kinds := [], alts := [], laidByText := true, laidKinds := [.data], laidTests := true, laidLooks := .later }
def CarRestsUptoCardSaid : Prop := Claim7.holds Tryd.pinned (.plain (OpenSpec.upto carRestsSpec)) carRestsUptoCard

/-- THE SECOND FORM's CARD OF 'joustlaw15.CarHits'. -/
def carHitsUptoCard : Claim7 := { stood := { row := carHitsUptoRow, standIns := [], harness := (true, "85ad101b9b561f296873f291702d4fd0931761ec94ad184c8b923243e8203b08"), looks := false }, kinds := [], alts := [], laidByText := true, laidKinds := [.data], laidTests := true, laidLooks := .later }
def CarHitsUptoCardSaid : Prop := Claim7.holds Tryd.pinned (.plain (OpenSpec.upto carHitsSpec)) carHitsUptoCard
end Rows
end Go.Proofs.YtinjlkceplhibaaDoor
