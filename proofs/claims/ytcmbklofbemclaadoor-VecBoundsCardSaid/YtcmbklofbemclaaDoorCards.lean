/-
  DERIVED. GIVEN WITH THE SEED: THE CARDS: each row of YtcmbklofbemclaaDoorRows.lean that lists a variable, with what it lists TIED to the program's text (the seventh form; the later family's looks); each row that meets fmt, with fmt's text TOLD by the authors' own Lean function (tested against real Go, not proved from fmt's source: count such statements apart). THE CARD IS WHAT COUNTS. Prove the row's statement (the work); the ties are given (YtcmbklofbemclaaDoorTie.lean); close each card by the builder's one call (the guide's Derived/Test/ToyasCard.lean, 'card_holds'). Laid BY PROGRAM, IN A SANDBOX (cutbox-door.mjs). By AI agents, Wed Nov 11 2026. No macro, syntax, notation, axiom, sorry.
-/
import Derived.Test.YtcmbklofbemclaaDoorRows
import GoSem.ClaimSeven
namespace Go.Proofs.YtcmbklofbemclaaDoor
namespace Rows

/-- THE TIED CARD OF 'joustlaw13.VecTurns'. -/
def vecTurnsCard : Claim7 := { stood := { row := vecTurnsRow, standIns := [], harness := (true, "024c91951367b20f17379ce0ea9f866ae1fb9f227404cdb64eed6bbd80255293"), looks := false }, kinds := [], alts := [], laidByText := true, laidKinds := [.data], laidTests := true, laidLooks := .later }
def VecTurnsCardSaid : Prop := Claim7.holds Tryd.pinned (.plain (OpenSpec.ofChange vecTurnsSpec)) vecTurnsCard

/-- THE TIED CARD OF 'joustlaw13.VecToward'. -/
def vecTowardCard : Claim7 := { stood := { row := vecTowardRow, standIns := [], harness := (true, "024c91951367b20f17379ce0ea9f866ae1fb9f227404cdb64eed6bbd80255293"), looks := false }, kinds := [], alts := [], laidByText := true, laidKinds := [.data], laidTests := true, laidLooks := .later }
def VecTowardCardSaid : Prop := Claim7.holds Tryd.pinned (.plain (OpenSpec.ofChange vecTowardSpec)) vecTowardCard

/-- THE TIED CARD OF 'joustlaw13.VecBounds'. -/
def vecBoundsCard : Claim7 := { stood := { row := vecBoundsRow, standIns := [], harness := (true, "024c91951367b20f17379ce0ea9f866ae1fb9f227404cdb64eed6bbd80255293"), looks := false }, kinds := [], alts := [], laidByText := true, laidKinds := [.data], laidTests := true, laidLooks := .later }
def VecBoundsCardSaid : Prop := Claim7.holds Tryd.pinned (.plain (OpenSpec.ofChange vecBoundsSpec)) vecBoundsCard

/-- THE TIED CARD OF 'joustlaw13.VecNear'. -/
def vecNearCard : Claim7 := { stood := { row := vecNearRow, standIns := [], harness := (true, "024c91951367b20f17379ce0ea9f866ae1fb9f227404cdb64eed6bbd80255293"), looks := false }, kinds := [], alts := [], laidByText := true, laidKinds := [.data], laidTests := true, laidLooks := .later }
def VecNearCardSaid : Prop := Claim7.holds Tryd.pinned (.plain (OpenSpec.ofChange vecNearSpec)) vecNearCard

/-- THE TIED CARD OF 'joustlaw13.VecAsks'. -/
def vecAsksCard : Claim7 := { stood := { row := vecAsksRow, standIns := [], harness := (true, "024c91951367b20f17379ce0ea9f866ae1fb9f227404cdb64eed6bbd80255293"), looks := false }, kinds := [], alts := [], laidByText := true, laidKinds := [.data], laidTests := true, laidLooks := .later }
def VecAsksCardSaid : Prop := Claim7.holds Tryd.pinned (.plain (OpenSpec.ofChange vecAsksSpec)) vecAsksCard

/-- THE SECOND FORM's CARD OF 'joustlaw13.VecTurns'. -/
def vecTurnsUptoCard : Claim7 := { stood := { row := vecTurnsUptoRow, standIns := [], harness := (true, "024c91951367b20f17379ce0ea9f866ae1fb9f227404cdb64eed6bbd80255293"), looks := false }, kinds := [], alts := [], laidByText := true, laidKinds := [.data], laidTests := true, laidLooks := .later }
def VecTurnsUptoCardSaid : Prop := Claim7.holds Tryd.pinned (.plain (OpenSpec.upto vecTurnsSpec)) vecTurnsUptoCard

/-- THE SECOND FORM's CARD OF 'joustlaw13.VecToward'. -/
def vecTowardUptoCard : Claim7 := { stood := { row := vecTowardUptoRow, standIns := [], harness := (true, "024c91951367b20f17379ce0ea9f866ae1fb9f227404cdb64eed6bbd80255293"), looks := false }, kinds := [], alts := [], laidByText := true, laidKinds := [.data], laidTests := true, laidLooks := .later }
def VecTowardUptoCardSaid : Prop := Claim7.holds Tryd.pinned (.plain (OpenSpec.upto vecTowardSpec)) vecTowardUptoCard

/-- THE SECOND FORM's CARD OF 'joustlaw13.VecBounds'. -/
def vecBoundsUptoCard : Claim7 := { stood := { row := vecBoundsUptoRow, standIns := [], harness := (true, "024c91951367b20f17379ce0ea9f866ae1fb9f227404cdb64eed6bbd80255293"), looks := false }, kinds := [], alts := [], laidByText := true, laidKinds := [.data], laidTests := true, laidLooks := .later }
def VecBoundsUptoCardSaid : Prop := Claim7.holds Tryd.pinned (.plain (OpenSpec.upto vecBoundsSpec)) vecBoundsUptoCard

/-- THE SECOND FORM's CARD OF 'joustlaw13.VecNear'. -/
def vecNearUptoCard : Claim7 := { stood := { row := vecNearUptoRow, standIns := [], harness := (true, "024c91951367b20f17379ce0ea9f866ae1fb9f227404cdb64eed6bbd80255293"), looks := false }, kinds := [], alts := [], laidByText := true, laidKinds := [.data], laidTests := true, laidLooks := .later }
def VecNearUptoCardSaid : Prop := Claim7.holds Tryd.pinned (.plain (OpenSpec.upto vecNearSpec)) vecNearUptoCard

/-- THE SECOND FORM's CARD OF 'joustlaw13.VecAsks'. -/
def vecAsksUptoCard : Claim7 := { stood := { row := vecAsksUptoRow, standIns := [], harness := (true, "024c91951367b20f17379ce0ea9f866ae1fb9f227404cdb64eed6bbd80255293"), looks := false }, kinds := [], alts := [], laidByText := true, laidKinds := [.data], laidTests := true, laidLooks := .later }
def VecAsksUptoCardSaid : Prop := Claim7.holds Tryd.pinned (.plain (OpenSpec.upto vecAsksSpec)) vecAsksUptoCard
end Rows
end Go.Proofs.YtcmbklofbemclaaDoor
