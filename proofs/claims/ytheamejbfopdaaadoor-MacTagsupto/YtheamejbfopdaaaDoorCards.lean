/-
  DERIVED. GIVEN WITH THE SEED: THE CARDS: each row of YtheamejbfopdaaaDoorRows.lean that lists a variable, with what it lists TIED to the program's text (the seventh form; the later family's looks); each row that meets fmt, with fmt's text TOLD by the authors' own Lean function (tested against real Go, not proved from fmt's source: count such statements apart). THE CARD IS WHAT COUNTS. Prove the row's statement (the work); the ties are given (YtheamejbfopdaaaDoorTie.lean); close each card by the builder's one call (the guide's Derived/Test/ToyasCard.lean, 'card_holds'). Laid BY PROGRAM, IN A SANDBOX (cutbox-door.mjs). By AI agents, Wed Nov 11 2026. No macro, syntax, notation, axiom, sorry.
-/
import Derived.Test.YtheamejbfopdaaaDoorRows
import GoSem.ClaimSeven
namespace Go.Proofs.YtheamejbfopdaaaDoor
namespace Rows

/-- THE TIED CARD OF 'joustlaw01.ShaKnown'. -/
def shaKnownCard : Claim7 := { stood := { row := shaKnownRow, standIns := [], harness := (true, "780c02fe006c7f63aa80640a8bd4fbe944a56b1841e4fa568b82925c80d2df04"), looks := false }, kinds := [], alts := [], laidByText := true, laidKinds := [.data], laidTests := true, laidLooks := .later }
def ShaKnownCardSaid : Prop := Claim7.holds Tryd.pinned (.plain (OpenSpec.ofChange shaKnownSpec)) shaKnownCard

/-- THE TIED CARD OF 'joustlaw01.ShaSums'. -/
def shaSumsCard : Claim7 := { stood := { row := shaSumsRow, standIns := [], harness := (true, "780c02fe006c7f63aa80640a8bd4fbe944a56b1841e4fa568b82925c80d2df04"), looks := false }, kinds := [], alts := [], laidByText := true, laidKinds := [.data, .data, .data], laidTests := true, laidLooks := .later }
def ShaSumsCardSaid : Prop := Claim7.holds Tryd.pinned (.plain (OpenSpec.ofChange shaSumsSpec)) shaSumsCard

/-- THE TIED CARD OF 'joustlaw01.ShaParts'. -/
def shaPartsCard : Claim7 := { stood := { row := shaPartsRow, standIns := [], harness := (true, "780c02fe006c7f63aa80640a8bd4fbe944a56b1841e4fa568b82925c80d2df04"), looks := false }, kinds := [], alts := [], laidByText := true, laidKinds := [.data], laidTests := true, laidLooks := .later }
def ShaPartsCardSaid : Prop := Claim7.holds Tryd.pinned (.plain (OpenSpec.ofChange shaPartsSpec)) shaPartsCard

/-- THE TIED CARD OF 'joustlaw01.ShaLengths'. -/
def shaLengthsCard : Claim7 := { stood := { row := shaLengthsRow, standIns := [], harness := (true, "780c02fe006c7f63aa80640a8bd4fbe944a56b1841e4fa568b82925c80d2df04"), looks := false }, kinds := [], alts := [], laidByText := true, laidKinds := [.data, .data, .data], laidTests := true, laidLooks := .later }
def ShaLengthsCardSaid : Prop := Claim7.holds Tryd.pinned (.plain (OpenSpec.ofChange shaLengthsSpec)) shaLengthsCard

/-- THE TIED CARD OF 'joustlaw02.MacHmac'. -/
def macHmacCard : Claim7 := { stood := { row := macHmacRow, standIns := [], harness := (true, "780c02fe006c7f63aa80640a8bd4fbe944a56b1841e4fa568b82925c80d2df04"), looks := false }, kinds := [], alts := [], laidByText := true, laidKinds := [.data], laidTests := true, laidLooks := .later }
def MacHmacCardSaid : Prop := Claim7.holds Tryd.pinned (.plain (OpenSpec.ofChange macHmacSpec)) macHmacCard

/-- THE TIED CARD OF 'joustlaw02.MacSame'. -/
def macSameCard : Claim7 := { stood := { row := macSameRow, standIns := [], harness := (true, "780c02fe006c7f63aa80640a8bd4fbe944a56b1841e4fa568b82925c80d2df04"), looks := false }, kinds := [], alts := [], laidByText := true, laidKinds := [.data], laidTests := true, laidLooks := .later }
def MacSameCardSaid : Prop := Claim7.holds Tryd.pinned (.plain (OpenSpec.ofChange macSameSpec)) macSameCard

/-- THE TIED CARD OF 'joustlaw02.MacTags'. -/
def macTagsCard : Claim7 := { stood := { row := macTagsRow, standIns := [], harness := (true, "780c02fe006c7f63aa80640a8bd4fbe944a56b1841e4fa568b82925c80d2df04"), looks := false }, kinds := [], alts := [], laidByText := true, laidKinds := [.data, .data, .data], laidTests := true, laidLooks := .later }
def MacTagsCardSaid : Prop := Claim7.holds Tryd.pinned (.plain (OpenSpec.ofChange macTagsSpec)) macTagsCard

/-- THE TIED CARD OF 'joustlaw02.MacSaid'. -/
def macSaidCard : Claim7 := { stood := { row := macSaidRow, standIns := [], harness := (true, "780c02fe006c7f63aa80640a8bd4fbe944a56b1841e4fa568b82925c80d2df04"), looks := false }, kinds := [], alts := [], laidByText := true, laidKinds := [.data], laidTests := true, laidLooks := .later }
def MacSaidCardSaid : Prop := Claim7.holds Tryd.pinned (.plain (OpenSpec.ofChange macSaidSpec)) macSaidCard

/-- THE TIED CARD OF 'joustlaw02.MacMemory'. -/
def macMemoryCard : Claim7 := { stood := { row := macMemoryRow, standIns := [], harness := (true, "780c02fe006c7f63aa80640a8bd4fbe944a56b1841e4fa568b82925c80d2df04"), looks := false }, kinds := [], alts := [], laidByText := true, laidKinds := [.data], laidTests := true, laidLooks := .later }
def MacMemoryCardSaid : Prop := Claim7.holds Tryd.pinned (.plain (OpenSpec.ofChange macMemorySpec)) macMemoryCard

/-- THE SECOND FORM's CARD OF 'joustlaw01.ShaKnown'. -/
def shaKnownUptoCard : Claim7 := { stood := { row := shaKnownUptoRow, standIns := [], harness := (true, "780c02fe006c7f63aa80640a8bd4fbe944a56b1841e4fa568b82925c80d2df04"), looks := false }, kinds := [], alts := [], laidByText := true, laidKinds := [.data], laidTests := true, laidLooks := .later }
def ShaKnownUptoCardSaid : Prop := Claim7.holds Tryd.pinned (.plain (OpenSpec.upto shaKnownSpec)) shaKnownUptoCard

/-- THE SECOND FORM's CARD OF 'joustlaw01.ShaSums'. -/
def shaSumsUptoCard : Claim7 := { stood := { row := shaSumsUptoRow, standIns := [], harness := (true, "780c02fe006c7f63aa80640a8bd4fbe944a56b1841e4fa568b82925c80d2df04"), looks := false }, kinds := [], alts := [], laidByText := true, laidKinds := [.data, .data, .data], laidTests := true, laidLooks := .later }
def ShaSumsUptoCardSaid : Prop := Claim7.holds Tryd.pinned (.plain (OpenSpec.upto shaSumsSpec)) shaSumsUptoCard

/-- THE SECOND FORM's CARD OF 'joustlaw01.ShaParts'. -/
def shaPartsUptoCard : Claim7 := { stood := { row := shaPartsUptoRow, standIns := [], harness := (true, "780c02fe006c7f63aa80640a8bd4fbe944a56b1841e4fa568b82925c80d2df04"), looks := false }, kinds := [], alts := [], laidByText := true, laidKinds := [.data], laidTests := true, laidLooks := .later }
def ShaPartsUptoCardSaid : Prop := Claim7.holds Tryd.pinned (.plain (OpenSpec.upto shaPartsSpec)) shaPartsUptoCard

/-- THE SECOND FORM's CARD OF 'joustlaw01.ShaLengths'. -/
def shaLengthsUptoCard : Claim7 := { stood := { row := shaLengthsUptoRow, standIns := [], harness := (true, "780c02fe006c7f63aa80640a8bd4fbe944a56b1841e4fa568b82925c80d2df04"), looks := false }, kinds := [], alts := [], laidByText := true, laidKinds := [.data, .data, .data], laidTests := true, laidLooks := .later }
def ShaLengthsUptoCardSaid : Prop := Claim7.holds Tryd.pinned (.plain (OpenSpec.upto shaLengthsSpec)) shaLengthsUptoCard

/-- THE SECOND FORM's CARD OF 'joustlaw02.MacHmac'. -/
def macHmacUptoCard : Claim7 := { stood := { row := macHmacUptoRow, standIns := [], harness := (true, "780c02fe006c7f63aa80640a8bd4fbe944a56b1841e4fa568b82925c80d2df04"), looks := false }, kinds := [], alts := [], laidByText := true, laidKinds := [.data], laidTests := true, laidLooks := .later }
def MacHmacUptoCardSaid : Prop := Claim7.holds Tryd.pinned (.plain (OpenSpec.upto macHmacSpec)) macHmacUptoCard

/-- THE SECOND FORM's CARD OF 'joustlaw02.MacSame'. -/
def macSameUptoCard : Claim7 := { stood := { row := macSameUptoRow, standIns := [], harness := (true, "780c02fe006c7f63aa80640a8bd4fbe944a56b1841e4fa568b82925c80d2df04"), looks := false }, kinds := [], alts := [], laidByText := true, laidKinds := [.data], laidTests := true, laidLooks := .later }
def MacSameUptoCardSaid : Prop := Claim7.holds Tryd.pinned (.plain (OpenSpec.upto macSameSpec)) macSameUptoCard

/-- THE SECOND FORM's CARD OF 'joustlaw02.MacTags'. -/
def macTagsUptoCard : Claim7 := { stood := { row := macTagsUptoRow, standIns := [], harness := (true, "780c02fe006c7f63aa80640a8bd4fbe944a56b1841e4fa568b82925c80d2df04"), looks := false }, kinds := [], alts := [], laidByText := true, laidKinds := [.data, .data, .data], laidTests := true, laidLooks := .later }
def MacTagsUptoCardSaid : Prop := Claim7.holds Tryd.pinned (.plain (OpenSpec.upto macTagsSpec)) macTagsUptoCard

/-- THE SECOND FORM's CARD OF 'joustlaw02.MacSaid'. -/
def macSaidUptoCard : Claim7 := { stood := { row := macSaidUptoRow, standIns := [], harness := (true, "780c02fe006c7f63aa80640a8bd4fbe944a56b1841e4fa568b82925c80d2df04"), looks := false }, kinds := [], alts := [], laidByText := true, laidKinds := [.data], laidTests := true, laidLooks := .later }
def MacSaidUptoCardSaid : Prop := Claim7.holds Tryd.pinned (.plain (OpenSpec.upto macSaidSpec)) macSaidUptoCard

/-- THE SECOND FORM's CARD OF 'joustlaw02.MacMemory'. -/
def macMemoryUptoCard : Claim7 := { stood := { row := macMemoryUptoRow, standIns := [], harness := (true, "780c02fe006c7f63aa80640a8bd4fbe944a56b1841e4fa568b82925c80d2df04"), looks := false }, kinds := [], alts := [], laidByText := true, laidKinds := [.data], laidTests := true, laidLooks := .later }
def MacMemoryUptoCardSaid : Prop := Claim7.holds Tryd.pinned (.plain (OpenSpec.upto macMemorySpec)) macMemoryUptoCard
end Rows
end Go.Proofs.YtheamejbfopdaaaDoor
