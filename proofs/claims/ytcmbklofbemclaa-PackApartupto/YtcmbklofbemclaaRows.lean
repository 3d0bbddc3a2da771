/-
  No cell of these rows narrows 'for every input' (looked for: loops, veiled, ifaces, maps, wideKeys, modest, calm, conditions, laid).
  DERIVED. THE GIVEN ROWS OF THIS SEAT. 7 by the template 'for every input the law returns true; each argument reads behind the call as it read before'; 0 by the template 'total and deterministic' (their statements: YtcmbklofbemclaaTotals.lean).
  GIVEN WITH THE SEED: the statements are not yours to turn. If you find one false, say at which input.
  Laid BY PROGRAM, IN A SANDBOX (cutbox-rows.mjs): the forced cells as the released guide's own fill.sh prints them over the translation 210301b2089a8056… (all of the seat's roots in one cut). By AI agents, Wed Nov 11 2026. No macro, syntax, notation, axiom, sorry.
-/
import Derived.Test.YtcmbklofbemclaaChecked
import GoSem.Claim
import GoSem.ClaimJoined
import GoSem.ClaimMapViews
import Derived.JoinedTies
import Derived.KernelRfl
namespace Go.Proofs.Ytcmbklofbemclaa
/- THE CELL 'sum', in the pinned program and in every row, IS THE sha256 OF THE DUMP (.gsa) THAT YtcmbklofbemclaaProg.lean LOADS. Nothing in Lean hashes anything: it is a label: what it is worth is what the hold of that sum in a sandbox is worth. -/
noncomputable def Try.pinned : Pinned := { name := "ytcmbklofbemclaa", sum := "210301b2089a8056a2bc0da20d2d1fd777d40dba7be9e71aa5bf637d9ad9b7bd", checked := Try.checked }
namespace Rows
def none {H : Type} : Left H := { results := [], args := [] }

/-- 'joustlaw05.PackWrites': WHATEVER THE INPUT: true; the input reads as it did. -/
def packWritesSpec : ChangeSpec := { name := "packWrites", fn := fun _ => fun
  | [d] => { results := [.lit (.bool true)], args := [d] }
  | _ => none }
def packWritesRow : OpenClaim := { program := "ytcmbklofbemclaa", sum := "210301b2089a8056a2bc0da20d2d1fd777d40dba7be9e71aa5bf637d9ad9b7bd", func := "joust/joustlaw05.PackWrites", spec := "packWrites", unfollowed := true, recurses := true, apart := false }
def PackWritesSaid : Prop := packWritesRow.holds Try.pinned (OpenSpec.ofChange packWritesSpec)

/-- ITS FALSE NEIGHBOUR: 'it returns false'. Refute it at one input. -/
def packWritesWrong : ChangeSpec := { name := "packWrites", fn := fun _ => fun
  | [d] => { results := [.lit (.bool false)], args := [d] }
  | _ => none }
def PackWritesWrongFalsely : Prop := packWritesRow.holds Try.pinned (OpenSpec.ofChange packWritesWrong)

/-- 'joustlaw05.PackNumbers': WHATEVER THE INPUT: true; the input reads as it did. -/
def packNumbersSpec : ChangeSpec := { name := "packNumbers", fn := fun _ => fun
  | [d1, d2, d3] => { results := [.lit (.bool true)], args := [d1, d2, d3] }
  | _ => none }
def packNumbersRow : OpenClaim := { program := "ytcmbklofbemclaa", sum := "210301b2089a8056a2bc0da20d2d1fd777d40dba7be9e71aa5bf637d9ad9b7bd", func := "joust/joustlaw05.PackNumbers", spec := "packNumbers", unfollowed := true, recurses := true, apart := false }
def PackNumbersSaid : Prop := packNumbersRow.holds Try.pinned (OpenSpec.ofChange packNumbersSpec)

/-- ITS FALSE NEIGHBOUR: 'it returns false'. Refute it at one input. -/
def packNumbersWrong : ChangeSpec := { name := "packNumbers", fn := fun _ => fun
  | [d1, d2, d3] => { results := [.lit (.bool false)], args := [d1, d2, d3] }
  | _ => none }
def PackNumbersWrongFalsely : Prop := packNumbersRow.holds Try.pinned (OpenSpec.ofChange packNumbersWrong)

/-- 'joustlaw05.PackReads': WHATEVER THE INPUT: true; the input reads as it did. -/
def packReadsSpec : ChangeSpec := { name := "packReads", fn := fun _ => fun
  | [d1, d2] => { results := [.lit (.bool true)], args := [d1, d2] }
  | _ => none }
def packReadsRow : OpenClaim := { program := "ytcmbklofbemclaa", sum := "210301b2089a8056a2bc0da20d2d1fd777d40dba7be9e71aa5bf637d9ad9b7bd", func := "joust/joustlaw05.PackReads", spec := "packReads", unfollowed := true, recurses := true, apart := false }
def PackReadsSaid : Prop := packReadsRow.holds Try.pinned (OpenSpec.ofChange packReadsSpec)

/-- ITS FALSE NEIGHBOUR: 'it returns false'. Refute it at one input. -/
def packReadsWrong : ChangeSpec := { name := "packReads", fn := fun _ => fun
  | [d1, d2] => { results := [.lit (.bool false)], args := [d1, d2] }
  | _ => none }
def PackReadsWrongFalsely : Prop := packReadsRow.holds Try.pinned (OpenSpec.ofChange packReadsWrong)

/-- 'joustlaw05.PackBack': WHATEVER THE INPUT: true; the input reads as it did. -/
def packBackSpec : ChangeSpec := { name := "packBack", fn := fun _ => fun
  | [d] => { results := [.lit (.bool true)], args := [d] }
  | _ => none }
def packBackRow : OpenClaim := { program := "ytcmbklofbemclaa", sum := "210301b2089a8056a2bc0da20d2d1fd777d40dba7be9e71aa5bf637d9ad9b7bd", func := "joust/joustlaw05.PackBack", spec := "packBack", unfollowed := true, recurses := true, apart := false }
def PackBackSaid : Prop := packBackRow.holds Try.pinned (OpenSpec.ofChange packBackSpec)

/-- ITS FALSE NEIGHBOUR: 'it returns false'. Refute it at one input. -/
def packBackWrong : ChangeSpec := { name := "packBack", fn := fun _ => fun
  | [d] => { results := [.lit (.bool false)], args := [d] }
  | _ => none }
def PackBackWrongFalsely : Prop := packBackRow.holds Try.pinned (OpenSpec.ofChange packBackWrong)

/-- 'joustlaw05.PackForm': WHATEVER THE INPUT: true; the input reads as it did. -/
def packFormSpec : ChangeSpec := { name := "packForm", fn := fun _ => fun
  | [d1, d2] => { results := [.lit (.bool true)], args := [d1, d2] }
  | _ => none }
def packFormRow : OpenClaim := { program := "ytcmbklofbemclaa", sum := "210301b2089a8056a2bc0da20d2d1fd777d40dba7be9e71aa5bf637d9ad9b7bd", func := "joust/joustlaw05.PackForm", spec := "packForm", unfollowed := true, recurses := true, apart := false }
def PackFormSaid : Prop := packFormRow.holds Try.pinned (OpenSpec.ofChange packFormSpec)

/-- ITS FALSE NEIGHBOUR: 'it returns false'. Refute it at one input. -/
def packFormWrong : ChangeSpec := { name := "packForm", fn := fun _ => fun
  | [d1, d2] => { results := [.lit (.bool false)], args := [d1, d2] }
  | _ => none }
def PackFormWrongFalsely : Prop := packFormRow.holds Try.pinned (OpenSpec.ofChange packFormWrong)

/-- 'joustlaw05.PackErrors': WHATEVER THE INPUT: true; the input reads as it did. -/
def packErrorsSpec : ChangeSpec := { name := "packErrors", fn := fun _ => fun
  | [d1, d2, d3] => { results := [.lit (.bool true)], args := [d1, d2, d3] }
  | _ => none }
def packErrorsRow : OpenClaim := { program := "ytcmbklofbemclaa", sum := "210301b2089a8056a2bc0da20d2d1fd777d40dba7be9e71aa5bf637d9ad9b7bd", func := "joust/joustlaw05.PackErrors", spec := "packErrors", unfollowed := true, recurses := true, apart := false }
def PackErrorsSaid : Prop := packErrorsRow.holds Try.pinned (OpenSpec.ofChange packErrorsSpec)

/-- ITS FALSE NEIGHBOUR: 'it returns false'. Refute it at one input. -/
def packErrorsWrong : ChangeSpec := { name := "packErrors", fn := fun _ => fun
  | [d1, d2, d3] => { results := [.lit (.bool false)], args := [d1, d2, d3] }
  | _ => none }
def PackErrorsWrongFalsely : Prop := packErrorsRow.holds Try.pinned (OpenSpec.ofChange packErrorsWrong)

/-- 'joustlaw05.PackApart': WHATEVER THE INPUT: true; the input reads as it did. -/
def packApartSpec : ChangeSpec := { name := "packApart", fn := fun _ => fun
  | [d1, d2] => { results := [.lit (.bool true)], args := [d1, d2] }
  | _ => none }
def packApartRow : OpenClaim := { program := "ytcmbklofbemclaa", sum := "210301b2089a8056a2bc0da20d2d1fd777d40dba7be9e71aa5bf637d9ad9b7bd", func := "joust/joustlaw05.PackApart", spec := "packApart", unfollowed := true, recurses := true, apart := false }
def PackApartSaid : Prop := packApartRow.holds Try.pinned (OpenSpec.ofChange packApartSpec)

/-- ITS FALSE NEIGHBOUR: 'it returns false'. Refute it at one input. -/
def packApartWrong : ChangeSpec := { name := "packApart", fn := fun _ => fun
  | [d1, d2] => { results := [.lit (.bool false)], args := [d1, d2] }
  | _ => none }
def PackApartWrongFalsely : Prop := packApartRow.holds Try.pinned (OpenSpec.ofChange packApartWrong)

/- THE SECOND FORM. 'bulk': how many values and letters a reading holds, each counted each time it is reached (what is shared counts as often as it is met; a slice's spare places count too). A statement '..UptoSaid' is the law's where the arguments, and the package variables that the reading takes, are together of bulk at most 1048576: NARROWER than '..Said'. Prove '..Said' where nothing that the law and all that it calls make is longer than what came in: it says more and counts as full. Else prove '..UptoSaid'. A law counts once. -/
mutual
def uptoBulk {H : Type} : DataW H → Nat
  | .lit (.string bytes) => bytes.length + 1
  | .lit _ => 1
  | .nil => 1
  | .ptr d => uptoBulk d + 1
  | .slice elems spare => uptoBulkAll elems + uptoBulkAll spare + 1
  | .agg parts => uptoBulkAll parts + 1
  | .iface _ d => uptoBulk d + 1
  | .map entries => uptoBulkEntries entries + 1
  | .held _ => 1
def uptoBulkAll {H : Type} : List (DataW H) → Nat
  | [] => 0
  | d :: r => uptoBulk d + uptoBulkAll r
def uptoBulkEntries {H : Type} : List (Lit × DataW H) → Nat
  | [] => 0
  | x :: r => uptoBulkEntry x + uptoBulkEntries r
def uptoBulkEntry {H : Type} : Lit × DataW H → Nat
  | (.string bytes, d) => bytes.length + uptoBulk d + 1
  | (_, d) => uptoBulk d + 1
 end
def uptoSmall : (H : Type) → List (DataW H) → Bool := fun _ ds => decide (uptoBulkAll ds ≤ 1048576)
def OpenSpec.upto (s : _root_.Go.ChangeSpec) : _root_.Go.OpenSpec := { _root_.Go.OpenSpec.ofChange s with cond := some uptoSmall }

/-- 'joustlaw05.PackWrites', WHERE WHAT IT READS IS OF BULK AT MOST 1048576: true; the input reads as it did. -/
def packWritesUptoRow : OpenClaim := { program := "ytcmbklofbemclaa", sum := "210301b2089a8056a2bc0da20d2d1fd777d40dba7be9e71aa5bf637d9ad9b7bd", func := "joust/joustlaw05.PackWrites", spec := "packWrites", unfollowed := true, recurses := true, apart := false, narrowed := true }
def PackWritesUptoSaid : Prop := packWritesUptoRow.holds Try.pinned (OpenSpec.upto packWritesSpec)

/-- 'joustlaw05.PackNumbers', WHERE WHAT IT READS IS OF BULK AT MOST 1048576: true; the input reads as it did. -/
def packNumbersUptoRow : OpenClaim := { program := "ytcmbklofbemclaa", sum := "210301b2089a8056a2bc0da20d2d1fd777d40dba7be9e71aa5bf637d9ad9b7bd", func := "joust/joustlaw05.PackNumbers", spec := "packNumbers", unfollowed := true, recurses := true, apart := false, narrowed := true }
def PackNumbersUptoSaid : Prop := packNumbersUptoRow.holds Try.pinned (OpenSpec.upto packNumbersSpec)

/-- 'joustlaw05.PackReads', WHERE WHAT IT READS IS OF BULK AT MOST 1048576: true; the input reads as it did. -/
def packReadsUptoRow : OpenClaim := { program := "ytcmbklofbemclaa", sum := "210301b2089a8056a2bc0da20d2d1fd777d40dba7be9e71aa5bf637d9ad9b7bd", func := "joust/joustlaw05.PackReads", spec := "packReads", unfollowed := true, recurses := true, apart := false, narrowed := true }
def PackReadsUptoSaid : Prop := packReadsUptoRow.holds Try.pinned (OpenSpec.upto packReadsSpec)

/-- 'joustlaw05.PackBack', WHERE WHAT IT READS IS OF BULK AT MOST 1048576: true; the input reads as it did. -/
def packBackUptoRow : OpenClaim := { program := "ytcmbklofbemclaa", sum := "210301b2089a8056a2bc0da20d2d1fd777d40dba7be9e71aa5bf637d9ad9b7bd", func := "joust/joustlaw05.PackBack", spec := "packBack", unfollowed := true, recurses := true, apart := false, narrowed := true }
def PackBackUptoSaid : Prop := packBackUptoRow.holds Try.pinned (OpenSpec.upto packBackSpec)

/-- 'joustlaw05.PackForm', WHERE WHAT IT READS IS OF BULK AT MOST 1048576: true; the input reads as it did. -/
def packFormUptoRow : OpenClaim := { program := "ytcmbklofbemclaa", sum := "210301b2089a8056a2bc0da20d2d1fd777d40dba7be9e71aa5bf637d9ad9b7bd", func := "joust/joustlaw05.PackForm", spec := "packForm", unfollowed := true, recurses := true, apart := false, narrowed := true }
def PackFormUptoSaid : Prop := packFormUptoRow.holds Try.pinned (OpenSpec.upto packFormSpec)

/-- 'joustlaw05.PackErrors', WHERE WHAT IT READS IS OF BULK AT MOST 1048576: true; the input reads as it did. -/
def packErrorsUptoRow : OpenClaim := { program := "ytcmbklofbemclaa", sum := "210301b2089a8056a2bc0da20d2d1fd777d40dba7be9e71aa5bf637d9ad9b7bd", func := "joust/joustlaw05.PackErrors", spec := "packErrors", unfollowed := true, recurses := true, apart := false, narrowed := true }
def PackErrorsUptoSaid : Prop := packErrorsUptoRow.holds Try.pinned (OpenSpec.upto packErrorsSpec)

/-- 'joustlaw05.PackApart', WHERE WHAT IT READS IS OF BULK AT MOST 1048576: true; the input reads as it did. -/
def packApartUptoRow : OpenClaim := { program := "ytcmbklofbemclaa", sum := "210301b2089a8056a2bc0da20d2d1fd777d40dba7be9e71aa5bf637d9ad9b7bd", func := "joust/joustlaw05.PackApart", spec := "packApart", unfollowed := true, recurses := true, apart := false, narrowed := true }
def PackApartUptoSaid : Prop := packApartUptoRow.holds Try.pinned (OpenSpec.upto packApartSpec)

end Rows
end Go.Proofs.Ytcmbklofbemclaa
