/-
  No cell of these rows narrows 'for every input' (looked for: loops, veiled, ifaces, maps, wideKeys, modest, calm, conditions, laid).
  DERIVED. THE GIVEN ROWS OF THIS SEAT. 6 by the template 'for every input the law returns true; each argument reads behind the call as it read before'; 0 by the template 'total and deterministic' (their statements: YtlndgnlkfhlekaaTotals.lean).
  GIVEN WITH THE SEED: the statements are not yours to turn. If you find one false, say at which input.
  Laid BY PROGRAM, IN A SANDBOX (cutbox-rows.mjs): the forced cells as the released guide's own fill.sh prints them over the translation 838bbc189c5dcbe3… (all of the seat's roots in one cut). By AI agents, Wed Nov 11 2026. No macro, syntax, notation, axiom, sorry.
-/
import Derived.Test.YtlndgnlkfhlekaaChecked
import GoSem.Claim
import GoSem.ClaimJoined
import GoSem.ClaimMapViews
import Derived.JoinedTies
import Derived.KernelRfl
namespace Go.Proofs.Ytlndgnlkfhlekaa
/- THE CELL 'sum', in the pinned program and in every row, IS THE sha256 OF THE DUMP (.gsa) THAT YtlndgnlkfhlekaaProg.lean LOADS. Nothing in Lean hashes anything: it is a label: what it is worth is what the hold of that sum in a sandbox is worth. -/
noncomputable def Try.pinned : Pinned := { name := "ytlndgnlkfhlekaa", sum := "838bbc189c5dcbe3b5cd4309739f55228e7efcd7fd7d378644e06f45def3d1b9", checked := Try.checked }
namespace Rows
def none {H : Type} : Left H := { results := [], args := [] }

/-- 'joustlaw14.BoardReads': WHATEVER THE INPUT: true; the input reads as it did. -/
def boardReadsSpec : ChangeSpec := { name := "boardReads", fn := fun _ => fun
  | [d] => { results := [.lit (.bool true)], args := [d] }
  | _ => none }
def boardReadsRow : OpenClaim := { program := "ytlndgnlkfhlekaa", sum := "838bbc189c5dcbe3b5cd4309739f55228e7efcd7fd7d378644e06f45def3d1b9", func := "joust/joustlaw14.BoardReads", spec := "boardReads", inPlace := ["internal/abi.NoEscape"], apart := false }
def BoardReadsSaid : Prop := boardReadsRow.holds Try.pinned (OpenSpec.ofChange boardReadsSpec)

/-- ITS FALSE NEIGHBOUR: 'it returns false'. Refute it at one input. -/
def boardReadsWrong : ChangeSpec := { name := "boardReads", fn := fun _ => fun
  | [d] => { results := [.lit (.bool false)], args := [d] }
  | _ => none }
def BoardReadsWrongFalsely : Prop := boardReadsRow.holds Try.pinned (OpenSpec.ofChange boardReadsWrong)

/-- 'joustlaw14.BoardPlaces': WHATEVER THE INPUT: true; the input reads as it did. -/
def boardPlacesSpec : ChangeSpec := { name := "boardPlaces", fn := fun _ => fun
  | [d1, d2] => { results := [.lit (.bool true)], args := [d1, d2] }
  | _ => none }
def boardPlacesRow : OpenClaim := { program := "ytlndgnlkfhlekaa", sum := "838bbc189c5dcbe3b5cd4309739f55228e7efcd7fd7d378644e06f45def3d1b9", func := "joust/joustlaw14.BoardPlaces", spec := "boardPlaces", inPlace := ["internal/abi.NoEscape"], apart := false }
def BoardPlacesSaid : Prop := boardPlacesRow.holds Try.pinned (OpenSpec.ofChange boardPlacesSpec)

/-- ITS FALSE NEIGHBOUR: 'it returns false'. Refute it at one input. -/
def boardPlacesWrong : ChangeSpec := { name := "boardPlaces", fn := fun _ => fun
  | [d1, d2] => { results := [.lit (.bool false)], args := [d1, d2] }
  | _ => none }
def BoardPlacesWrongFalsely : Prop := boardPlacesRow.holds Try.pinned (OpenSpec.ofChange boardPlacesWrong)

/-- 'joustlaw14.BoardBack': WHATEVER THE INPUT: true; the input reads as it did. -/
def boardBackSpec : ChangeSpec := { name := "boardBack", fn := fun _ => fun
  | [d] => { results := [.lit (.bool true)], args := [d] }
  | _ => none }
def boardBackRow : OpenClaim := { program := "ytlndgnlkfhlekaa", sum := "838bbc189c5dcbe3b5cd4309739f55228e7efcd7fd7d378644e06f45def3d1b9", func := "joust/joustlaw14.BoardBack", spec := "boardBack", inPlace := ["internal/abi.NoEscape"], apart := false }
def BoardBackSaid : Prop := boardBackRow.holds Try.pinned (OpenSpec.ofChange boardBackSpec)

/-- ITS FALSE NEIGHBOUR: 'it returns false'. Refute it at one input. -/
def boardBackWrong : ChangeSpec := { name := "boardBack", fn := fun _ => fun
  | [d] => { results := [.lit (.bool false)], args := [d] }
  | _ => none }
def BoardBackWrongFalsely : Prop := boardBackRow.holds Try.pinned (OpenSpec.ofChange boardBackWrong)

/-- 'joustlaw14.BoardBoxes': WHATEVER THE INPUT: true; the input reads as it did. -/
def boardBoxesSpec : ChangeSpec := { name := "boardBoxes", fn := fun _ => fun
  | [d1, d2, d3] => { results := [.lit (.bool true)], args := [d1, d2, d3] }
  | _ => none }
def boardBoxesRow : OpenClaim := { program := "ytlndgnlkfhlekaa", sum := "838bbc189c5dcbe3b5cd4309739f55228e7efcd7fd7d378644e06f45def3d1b9", func := "joust/joustlaw14.BoardBoxes", spec := "boardBoxes", inPlace := ["internal/abi.NoEscape"], apart := false }
def BoardBoxesSaid : Prop := boardBoxesRow.holds Try.pinned (OpenSpec.ofChange boardBoxesSpec)

/-- ITS FALSE NEIGHBOUR: 'it returns false'. Refute it at one input. -/
def boardBoxesWrong : ChangeSpec := { name := "boardBoxes", fn := fun _ => fun
  | [d1, d2, d3] => { results := [.lit (.bool false)], args := [d1, d2, d3] }
  | _ => none }
def BoardBoxesWrongFalsely : Prop := boardBoxesRow.holds Try.pinned (OpenSpec.ofChange boardBoxesWrong)

/-- 'joustlaw14.BoardSpawns': WHATEVER THE INPUT: true; the input reads as it did. -/
def boardSpawnsSpec : ChangeSpec := { name := "boardSpawns", fn := fun _ => fun
  | [d1, d2] => { results := [.lit (.bool true)], args := [d1, d2] }
  | _ => none }
def boardSpawnsRow : OpenClaim := { program := "ytlndgnlkfhlekaa", sum := "838bbc189c5dcbe3b5cd4309739f55228e7efcd7fd7d378644e06f45def3d1b9", func := "joust/joustlaw14.BoardSpawns", spec := "boardSpawns", inPlace := ["internal/abi.NoEscape"], apart := false }
def BoardSpawnsSaid : Prop := boardSpawnsRow.holds Try.pinned (OpenSpec.ofChange boardSpawnsSpec)

/-- ITS FALSE NEIGHBOUR: 'it returns false'. Refute it at one input. -/
def boardSpawnsWrong : ChangeSpec := { name := "boardSpawns", fn := fun _ => fun
  | [d1, d2] => { results := [.lit (.bool false)], args := [d1, d2] }
  | _ => none }
def BoardSpawnsWrongFalsely : Prop := boardSpawnsRow.holds Try.pinned (OpenSpec.ofChange boardSpawnsWrong)

/-- 'joustlaw14.BoardMemory': WHATEVER THE INPUT: true; the input reads as it did. -/
def boardMemorySpec : ChangeSpec := { name := "boardMemory", fn := fun _ => fun
  | [d1, d2] => { results := [.lit (.bool true)], args := [d1, d2] }
  | _ => none }
def boardMemoryRow : OpenClaim := { program := "ytlndgnlkfhlekaa", sum := "838bbc189c5dcbe3b5cd4309739f55228e7efcd7fd7d378644e06f45def3d1b9", func := "joust/joustlaw14.BoardMemory", spec := "boardMemory", inPlace := ["internal/abi.NoEscape"], apart := false }
def BoardMemorySaid : Prop := boardMemoryRow.holds Try.pinned (OpenSpec.ofChange boardMemorySpec)

/-- ITS FALSE NEIGHBOUR: 'it returns false'. Refute it at one input. -/
def boardMemoryWrong : ChangeSpec := { name := "boardMemory", fn := fun _ => fun
  | [d1, d2] => { results := [.lit (.bool false)], args := [d1, d2] }
  | _ => none }
def BoardMemoryWrongFalsely : Prop := boardMemoryRow.holds Try.pinned (OpenSpec.ofChange boardMemoryWrong)

/- THE SECOND FORM. 'bulk': how many values and letters a reading holds, each counted each time it is reached (what is shared counts as often as it is met; a slice's spare places count too). A statement '..UptoSaid' is the law's where the arguments, and the package variables that the reading takes, are together of bulk at most 1048576: NARROWER than '..Said'. Prove '..Said' where nothing that the law and all that it calls make is longer than what came in: it says more and counts as full. Else prove '..UptoSaid'. A law counts once. -/
mutual
def uptoBulk {H : Type} : DataW H → Nat
  | .lit (.string bytes) => bytes.length + 1
  | .lit _ => 1
  | .nil => 1
  | .ptr d => uptoBulk d + 1
  | .slice elems spare => uptoBulkAll elems + uptoBulkAll spare + 1
  | .agg parts => uptoBulkAll parts + 1
  | .iface _ d => uptoBulk d + 1
  | .map entries => uptoBulkEntries entries + 1
  | .held _ => 1
def uptoBulkAll {H : Type} : List (DataW H) → Nat
  | [] => 0
  | d :: r => uptoBulk d + uptoBulkAll r
def uptoBulkEntries {H : Type} : List (Lit × DataW H) → Nat
  | [] => 0
  | x :: r => uptoBulkEntry x + uptoBulkEntries r
def uptoBulkEntry {H : Type} : Lit × DataW H → Nat
  | (.string bytes, d) => bytes.length + uptoBulk d + 1
  | (_, d) => uptoBulk d + 1
 end
def uptoSmall : (H : Type) → List (DataW H) → Bool := fun _ ds => decide (uptoBulkAll ds ≤ 1048576)
def OpenSpec.upto (s : _root_.Go.ChangeSpec) : _root_.Go.OpenSpec := { _root_.Go.OpenSpec.ofChange s with cond := some uptoSmall }

/-- 'joustlaw14.BoardReads', WHERE WHAT IT READS IS OF BULK AT MOST 1048576: true; the input reads as it did. -/
def boardReadsUptoRow : OpenClaim := { program := "ytlndgnlkfhlekaa", sum := "838bbc189c5dcbe3b5cd4309739f55228e7efcd7fd7d378644e06f45def3d1b9", func := "joust/joustlaw14.BoardReads", spec := "boardReads", inPlace := ["internal/abi.NoEscape"], apart := false, narrowed := true }
def BoardReadsUptoSaid : Prop := boardReadsUptoRow.holds Try.pinned (OpenSpec.upto boardReadsSpec)

/-- 'joustlaw14.BoardPlaces', WHERE WHAT IT READS IS OF BULK AT MOST 1048576: true; the input reads as it did. -/
def boardPlacesUptoRow : OpenClaim := { program := "ytlndgnlkfhlekaa", sum := "838bbc189c5dcbe3b5cd4309739f55228e7efcd7fd7d378644e06f45def3d1b9", func := "joust/joustlaw14.BoardPlaces", spec := "boardPlaces", inPlace := ["internal/abi.NoEscape"], apart := false, narrowed := true }
def BoardPlacesUptoSaid : Prop := boardPlacesUptoRow.holds Try.pinned (OpenSpec.upto boardPlacesSpec)

/-- 'joustlaw14.BoardBack', WHERE WHAT IT READS IS OF BULK AT MOST 1048576: true; the input reads as it did. -/
def boardBackUptoRow : OpenClaim := { program := "ytlndgnlkfhlekaa", sum := "838bbc189c5dcbe3b5cd4309739f55228e7efcd7fd7d378644e06f45def3d1b9", func := "joust/joustlaw14.BoardBack", spec := "boardBack", inPlace := ["internal/abi.NoEscape"], apart := false, narrowed := true }
def BoardBackUptoSaid : Prop := boardBackUptoRow.holds Try.pinned (OpenSpec.upto boardBackSpec)

/-- 'joustlaw14.BoardBoxes', WHERE WHAT IT READS IS OF BULK AT MOST 1048576: true; the input reads as it did. -/
def boardBoxesUptoRow : OpenClaim := { program := "ytlndgnlkfhlekaa", sum := "838bbc189c5dcbe3b5cd4309739f55228e7efcd7fd7d378644e06f45def3d1b9", func := "joust/joustlaw14.BoardBoxes", spec := "boardBoxes", inPlace := ["internal/abi.NoEscape"], apart := false, narrowed := true }
def BoardBoxesUptoSaid : Prop := boardBoxesUptoRow.holds Try.pinned (OpenSpec.upto boardBoxesSpec)

/-- 'joustlaw14.BoardSpawns', WHERE WHAT IT READS IS OF BULK AT MOST 1048576: true; the input reads as it did. -/
def boardSpawnsUptoRow : OpenClaim := { program := "ytlndgnlkfhlekaa", sum := "838bbc189c5dcbe3b5cd4309739f55228e7efcd7fd7d378644e06f45def3d1b9", func := "joust/joustlaw14.BoardSpawns", spec := "boardSpawns", inPlace := ["internal/abi.NoEscape"], apart := false, narrowed := true }
def BoardSpawnsUptoSaid : Prop := boardSpawnsUptoRow.holds Try.pinned (OpenSpec.upto boardSpawnsSpec)

/-- 'joustlaw14.BoardMemory', WHERE WHAT IT READS IS OF BULK AT MOST 1048576: true; the input reads as it did. -/
def boardMemoryUptoRow : OpenClaim := { program := "ytlndgnlkfhlekaa", sum := "838bbc189c5dcbe3b5cd4309739f55228e7efcd7fd7d378644e06f45def3d1b9", func := "joust/joustlaw14.BoardMemory", spec := "boardMemory", inPlace := ["internal/abi.NoEscape"], apart := false, narrowed := true }
def BoardMemoryUptoSaid : Prop := boardMemoryUptoRow.holds Try.pinned (OpenSpec.upto boardMemorySpec)

end Rows
end Go.Proofs.Ytlndgnlkfhlekaa
