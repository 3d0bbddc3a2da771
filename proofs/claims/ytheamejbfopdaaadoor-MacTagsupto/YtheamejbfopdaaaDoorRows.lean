/-
  NARROWER THAN 'FOR EVERY INPUT', by the rows' own cells (each row's printed sentence says how): ShaKnown: laid · ShaSums: laid · ShaParts: laid · ShaLengths: laid · MacHmac: laid · MacSame: laid · MacTags: laid · MacSaid: laid · MacMemory: laid.
  DERIVED. THE GIVEN ROWS OF THIS SEAT. 9 by the template 'for every input the law returns true; each argument reads behind the call as it read before'; 0 by the template 'total and deterministic' (their statements: YtheamejbfopdaaaDoorTotals.lean).
  GIVEN WITH THE SEED: the statements are not yours to turn. If you find one false, say at which input.
  Laid BY PROGRAM, IN A SANDBOX (cutbox-rows.mjs): the forced cells as the released guide's own fill.sh prints them over the translation a7866514a19d2947… (all of the seat's roots in one cut). By AI agents, Wed Nov 11 2026. No macro, syntax, notation, axiom, sorry.
-/
import Derived.Test.YtheamejbfopdaaaDoorChecked
import GoSem.Claim
import GoSem.ClaimJoined
import GoSem.ClaimMapViews
import Derived.JoinedTies
import Derived.KernelRfl
namespace Go.Proofs.YtheamejbfopdaaaDoor
/- THE CELL 'sum', in the pinned program and in every row, IS THE sha256 OF THE DUMP (.gsa) THAT YtheamejbfopdaaaDoorProg.lean LOADS. Nothing in Lean hashes anything: it is a label: what it is worth is what the hold of that sum in a sandbox is worth. -/
noncomputable def Tryd.pinned : Pinned := { name := "ytheamejbfopdaaadoor", sum := "a7866514a19d2947968f38f017b6e1ef49233eab3f15c9ff79a7989c45dd9d02", checked := Tryd.checked }
namespace Rows
def none {H : Type} : Left H := { results := [], args := [] }

/- WHAT THE LISTED PACKAGE-LEVEL VARIABLES READ AS WHEN THE CALL BEGINS. Each datum BY PROGRAM (the guide's laid-datum.mjs) off the statement by which the dump's own 'gosem.cut.vars' lays the variable. In a bare row this is a premise. The card (YtheamejbfopdaaaDoorCards.lean) ties it to the program's text. -/
def laid_joust_sha_rounds {H : Type} : DataW H := .agg [.lit (.int .u32 1116352408), .lit (.int .u32 1899447441), .lit (.int .u32 3049323471), .lit (.int .u32 3921009573), .lit (.int .u32 961987163), .lit (.int .u32 1508970993), .lit (.int .u32 2453635748), .lit (.int .u32 2870763221), .lit (.int .u32 3624381080), .lit (.int .u32 310598401), .lit (.int .u32 607225278), .lit (.int .u32 1426881987), .lit (.int .u32 1925078388), .lit (.int .u32 2162078206), .lit (.int .u32 2614888103), .lit (.int .u32 3248222580), .lit (.int .u32 3835390401), .lit (.int .u32 4022224774), .lit (.int .u32 264347078), .lit (.int .u32 604807628), .lit (.int .u32 770255983), .lit (.int .u32 1249150122), .lit (.int .u32 1555081692), .lit (.int .u32 1996064986), .lit (.int .u32 2554220882), .lit (.int .u32 2821834349), .lit (.int .u32 2952996808), .lit (.int .u32 3210313671), .lit (.int .u32 3336571891), .lit (.int .u32 3584528711), .lit (.int .u32 113926993), .lit (.int .u32 338241895), .lit (.int .u32 666307205), .lit (.int .u32 773529912), .lit (.int .u32 1294757372), .lit (.int .u32 1396182291), .lit (.int .u32 1695183700), .lit (.int .u32 1986661051), .lit (.int .u32 2177026350), .lit (.int .u32 2456956037), .lit (.int .u32 2730485921), .lit (.int .u32 2820302411), .lit (.int .u32 3259730800), .lit (.int .u32 3345764771), .lit (.int .u32 3516065817), .lit (.int .u32 3600352804), .lit (.int .u32 4094571909), .lit (.int .u32 275423344), .lit (.int .u32 430227734), .lit (.int .u32 506948616), .lit (.int .u32 659060556), .lit (.int .u32 883997877), .lit (.int .u32 958139571), .lit (.int .u32 1322822218), .lit (.int .u32 1537002063), .lit (.int .u32 1747873779), .lit (.int .u32 1955562222), .lit (.int .u32 2024104815), .lit (.int .u32 2227730452), .lit (.int .u32 2361852424), .lit (.int .u32 2428436474), .lit (.int .u32 2756734187), .lit (.int .u32 3204031479), .lit (.int .u32 3329325298)]
def laid_joust_joustref01_roots {H : Type} : DataW H := .agg [.lit (.int .u32 1779033703), .lit (.int .u32 3144134277), .lit (.int .u32 1013904242), .lit (.int .u32 2773480762), .lit (.int .u32 1359893119), .lit (.int .u32 2600822924), .lit (.int .u32 528734635), .lit (.int .u32 1541459225)]
def laid_joust_joustref01_cubes {H : Type} : DataW H := .agg [.lit (.int .u32 1116352408), .lit (.int .u32 1899447441), .lit (.int .u32 3049323471), .lit (.int .u32 3921009573), .lit (.int .u32 961987163), .lit (.int .u32 1508970993), .lit (.int .u32 2453635748), .lit (.int .u32 2870763221), .lit (.int .u32 3624381080), .lit (.int .u32 310598401), .lit (.int .u32 607225278), .lit (.int .u32 1426881987), .lit (.int .u32 1925078388), .lit (.int .u32 2162078206), .lit (.int .u32 2614888103), .lit (.int .u32 3248222580), .lit (.int .u32 3835390401), .lit (.int .u32 4022224774), .lit (.int .u32 264347078), .lit (.int .u32 604807628), .lit (.int .u32 770255983), .lit (.int .u32 1249150122), .lit (.int .u32 1555081692), .lit (.int .u32 1996064986), .lit (.int .u32 2554220882), .lit (.int .u32 2821834349), .lit (.int .u32 2952996808), .lit (.int .u32 3210313671), .lit (.int .u32 3336571891), .lit (.int .u32 3584528711), .lit (.int .u32 113926993), .lit (.int .u32 338241895), .lit (.int .u32 666307205), .lit (.int .u32 773529912), .lit (.int .u32 1294757372), .lit (.int .u32 1396182291), .lit (.int .u32 1695183700), .lit (.int .u32 1986661051), .lit (.int .u32 2177026350), .lit (.int .u32 2456956037), .lit (.int .u32 2730485921), .lit (.int .u32 2820302411), .lit (.int .u32 3259730800), .lit (.int .u32 3345764771), .lit (.int .u32 3516065817), .lit (.int .u32 3600352804), .lit (.int .u32 4094571909), .lit (.int .u32 275423344), .lit (.int .u32 430227734), .lit (.int .u32 506948616), .lit (.int .u32 659060556), .lit (.int .u32 883997877), .lit (.int .u32 958139571), .lit (.int .u32 1322822218), .lit (.int .u32 1537002063), .lit (.int .u32 1747873779), .lit (.int .u32 1955562222), .lit (.int .u32 2024104815), .lit (.int .u32 2227730452), .lit (.int .u32 2361852424), .lit (.int .u32 2428436474), .lit (.int .u32 2756734187), .lit (.int .u32 3204031479), .lit (.int .u32 3329325298)]

/-- 'joustlaw01.ShaKnown': WHATEVER THE INPUT: true; the input reads as it did. -/
def shaKnownSpec : ChangeSpec := { name := "shaKnown", fn := fun _ => fun
  | [] => { results := [.lit (.bool true)], args := [] }
  | _ => none }
def shaKnownRow : OpenClaim := { program := "ytheamejbfopdaaadoor", sum := "a7866514a19d2947968f38f017b6e1ef49233eab3f15c9ff79a7989c45dd9d02", func := "joust/joustlaw01.ShaKnown", spec := "shaKnown", named := ["joust/sha.rounds"], apart := false, laid := [("joust/sha.rounds", laid_joust_sha_rounds)] }
def ShaKnownSaid : Prop := shaKnownRow.holds Tryd.pinned (OpenSpec.ofChange shaKnownSpec)

/-- ITS FALSE NEIGHBOUR: 'it returns false'. Refute it at one input. -/
def shaKnownWrong : ChangeSpec := { name := "shaKnown", fn := fun _ => fun
  | [] => { results := [.lit (.bool false)], args := [] }
  | _ => none }
def ShaKnownWrongFalsely : Prop := shaKnownRow.holds Tryd.pinned (OpenSpec.ofChange shaKnownWrong)

/-- 'joustlaw01.ShaSums': WHATEVER THE INPUT: true; the input reads as it did. -/
def shaSumsSpec : ChangeSpec := { name := "shaSums", fn := fun _ => fun
  | [d] => { results := [.lit (.bool true)], args := [d] }
  | _ => none }
def shaSumsRow : OpenClaim := { program := "ytheamejbfopdaaadoor", sum := "a7866514a19d2947968f38f017b6e1ef49233eab3f15c9ff79a7989c45dd9d02", func := "joust/joustlaw01.ShaSums", spec := "shaSums", named := ["joust/sha.rounds", "joust/joustref01.roots", "joust/joustref01.cubes"], apart := false, laid := [("joust/joustref01.roots", laid_joust_joustref01_roots), ("joust/joustref01.cubes", laid_joust_joustref01_cubes), ("joust/sha.rounds", laid_joust_sha_rounds)] }
def ShaSumsSaid : Prop := shaSumsRow.holds Tryd.pinned (OpenSpec.ofChange shaSumsSpec)

/-- ITS FALSE NEIGHBOUR: 'it returns false'. Refute it at one input. -/
def shaSumsWrong : ChangeSpec := { name := "shaSums", fn := fun _ => fun
  | [d] => { results := [.lit (.bool false)], args := [d] }
  | _ => none }
def ShaSumsWrongFalsely : Prop := shaSumsRow.holds Tryd.pinned (OpenSpec.ofChange shaSumsWrong)

/-- 'joustlaw01.ShaParts': WHATEVER THE INPUT: true; the input reads as it did. -/
def shaPartsSpec : ChangeSpec := { name := "shaParts", fn := fun _ => fun
  | [d1, d2, d3] => { results := [.lit (.bool true)], args := [d1, d2, d3] }
  | _ => none }
def shaPartsRow : OpenClaim := { program := "ytheamejbfopdaaadoor", sum := "a7866514a19d2947968f38f017b6e1ef49233eab3f15c9ff79a7989c45dd9d02", func := "joust/joustlaw01.ShaParts", spec := "shaParts", named := ["joust/sha.rounds"], apart := false, laid := [("joust/sha.rounds", laid_joust_sha_rounds)] }
def ShaPartsSaid : Prop := shaPartsRow.holds Tryd.pinned (OpenSpec.ofChange shaPartsSpec)

/-- ITS FALSE NEIGHBOUR: 'it returns false'. Refute it at one input. -/
def shaPartsWrong : ChangeSpec := { name := "shaParts", fn := fun _ => fun
  | [d1, d2, d3] => { results := [.lit (.bool false)], args := [d1, d2, d3] }
  | _ => none }
def ShaPartsWrongFalsely : Prop := shaPartsRow.holds Tryd.pinned (OpenSpec.ofChange shaPartsWrong)

/-- 'joustlaw01.ShaLengths': WHATEVER THE INPUT: true; the input reads as it did. -/
def shaLengthsSpec : ChangeSpec := { name := "shaLengths", fn := fun _ => fun
  | [d1, d2] => { results := [.lit (.bool true)], args := [d1, d2] }
  | _ => none }
def shaLengthsRow : OpenClaim := { program := "ytheamejbfopdaaadoor", sum := "a7866514a19d2947968f38f017b6e1ef49233eab3f15c9ff79a7989c45dd9d02", func := "joust/joustlaw01.ShaLengths", spec := "shaLengths", named := ["joust/sha.rounds", "joust/joustref01.roots", "joust/joustref01.cubes"], apart := false, laid := [("joust/joustref01.roots", laid_joust_joustref01_roots), ("joust/joustref01.cubes", laid_joust_joustref01_cubes), ("joust/sha.rounds", laid_joust_sha_rounds)] }
def ShaLengthsSaid : Prop := shaLengthsRow.holds Tryd.pinned (OpenSpec.ofChange shaLengthsSpec)

/-- ITS FALSE NEIGHBOUR: 'it returns false'. Refute it at one input. -/
def shaLengthsWrong : ChangeSpec := { name := "shaLengths", fn := fun _ => fun
  | [d1, d2] => { results := [.lit (.bool false)], args := [d1, d2] }
  | _ => none }
def ShaLengthsWrongFalsely : Prop := shaLengthsRow.holds Tryd.pinned (OpenSpec.ofChange shaLengthsWrong)

/-- 'joustlaw02.MacHmac': WHATEVER THE INPUT: true; the input reads as it did. -/
def macHmacSpec : ChangeSpec := { name := "macHmac", fn := fun _ => fun
  | [d1, d2, d3] => { results := [.lit (.bool true)], args := [d1, d2, d3] }
  | _ => none }
def macHmacRow : OpenClaim := { program := "ytheamejbfopdaaadoor", sum := "a7866514a19d2947968f38f017b6e1ef49233eab3f15c9ff79a7989c45dd9d02", func := "joust/joustlaw02.MacHmac", spec := "macHmac", named := ["joust/sha.rounds"], apart := false, laid := [("joust/sha.rounds", laid_joust_sha_rounds)] }
def MacHmacSaid : Prop := macHmacRow.holds Tryd.pinned (OpenSpec.ofChange macHmacSpec)

/-- ITS FALSE NEIGHBOUR: 'it returns false'. Refute it at one input. -/
def macHmacWrong : ChangeSpec := { name := "macHmac", fn := fun _ => fun
  | [d1, d2, d3] => { results := [.lit (.bool false)], args := [d1, d2, d3] }
  | _ => none }
def MacHmacWrongFalsely : Prop := macHmacRow.holds Tryd.pinned (OpenSpec.ofChange macHmacWrong)

/-- 'joustlaw02.MacSame': WHATEVER THE INPUT: true; the input reads as it did. -/
def macSameSpec : ChangeSpec := { name := "macSame", fn := fun _ => fun
  | [d1, d2, d3] => { results := [.lit (.bool true)], args := [d1, d2, d3] }
  | _ => none }
def macSameRow : OpenClaim := { program := "ytheamejbfopdaaadoor", sum := "a7866514a19d2947968f38f017b6e1ef49233eab3f15c9ff79a7989c45dd9d02", func := "joust/joustlaw02.MacSame", spec := "macSame", named := ["joust/sha.rounds"], apart := false, laid := [("joust/sha.rounds", laid_joust_sha_rounds)] }
def MacSameSaid : Prop := macSameRow.holds Tryd.pinned (OpenSpec.ofChange macSameSpec)

/-- ITS FALSE NEIGHBOUR: 'it returns false'. Refute it at one input. -/
def macSameWrong : ChangeSpec := { name := "macSame", fn := fun _ => fun
  | [d1, d2, d3] => { results := [.lit (.bool false)], args := [d1, d2, d3] }
  | _ => none }
def MacSameWrongFalsely : Prop := macSameRow.holds Tryd.pinned (OpenSpec.ofChange macSameWrong)

/-- 'joustlaw02.MacTags': WHATEVER THE INPUT: true; the input reads as it did. -/
def macTagsSpec : ChangeSpec := { name := "macTags", fn := fun _ => fun
  | [d1, d2, d3] => { results := [.lit (.bool true)], args := [d1, d2, d3] }
  | _ => none }
def macTagsRow : OpenClaim := { program := "ytheamejbfopdaaadoor", sum := "a7866514a19d2947968f38f017b6e1ef49233eab3f15c9ff79a7989c45dd9d02", func := "joust/joustlaw02.MacTags", spec := "macTags", named := ["joust/sha.rounds", "joust/joustref01.roots", "joust/joustref01.cubes"], apart := false, laid := [("joust/joustref01.roots", laid_joust_joustref01_roots), ("joust/joustref01.cubes", laid_joust_joustref01_cubes), ("joust/sha.rounds", laid_joust_sha_rounds)] }
def MacTagsSaid : Prop := macTagsRow.holds Tryd.pinned (OpenSpec.ofChange macTagsSpec)

/-- ITS FALSE NEIGHBOUR: 'it returns false'. Refute it at one input. -/
def macTagsWrong : ChangeSpec := { name := "macTags", fn := fun _ => fun
  | [d1, d2, d3] => { results := [.lit (.bool false)], args := [d1, d2, d3] }
  | _ => none }
def MacTagsWrongFalsely : Prop := macTagsRow.holds Tryd.pinned (OpenSpec.ofChange macTagsWrong)

/-- 'joustlaw02.MacSaid': WHATEVER THE INPUT: true; the input reads as it did. -/
def macSaidSpec : ChangeSpec := { name := "macSaid", fn := fun _ => fun
  | [d1, d2, d3] => { results := [.lit (.bool true)], args := [d1, d2, d3] }
  | _ => none }
def macSaidRow : OpenClaim := { program := "ytheamejbfopdaaadoor", sum := "a7866514a19d2947968f38f017b6e1ef49233eab3f15c9ff79a7989c45dd9d02", func := "joust/joustlaw02.MacSaid", spec := "macSaid", named := ["joust/sha.rounds"], apart := false, laid := [("joust/sha.rounds", laid_joust_sha_rounds)] }
def MacSaidSaid : Prop := macSaidRow.holds Tryd.pinned (OpenSpec.ofChange macSaidSpec)

/-- ITS FALSE NEIGHBOUR: 'it returns false'. Refute it at one input. -/
def macSaidWrong : ChangeSpec := { name := "macSaid", fn := fun _ => fun
  | [d1, d2, d3] => { results := [.lit (.bool false)], args := [d1, d2, d3] }
  | _ => none }
def MacSaidWrongFalsely : Prop := macSaidRow.holds Tryd.pinned (OpenSpec.ofChange macSaidWrong)

/-- 'joustlaw02.MacMemory': WHATEVER THE INPUT: true; the input reads as it did. -/
def macMemorySpec : ChangeSpec := { name := "macMemory", fn := fun _ => fun
  | [d1, d2] => { results := [.lit (.bool true)], args := [d1, d2] }
  | _ => none }
def macMemoryRow : OpenClaim := { program := "ytheamejbfopdaaadoor", sum := "a7866514a19d2947968f38f017b6e1ef49233eab3f15c9ff79a7989c45dd9d02", func := "joust/joustlaw02.MacMemory", spec := "macMemory", named := ["joust/sha.rounds"], apart := false, laid := [("joust/sha.rounds", laid_joust_sha_rounds)] }
def MacMemorySaid : Prop := macMemoryRow.holds Tryd.pinned (OpenSpec.ofChange macMemorySpec)

/-- ITS FALSE NEIGHBOUR: 'it returns false'. Refute it at one input. -/
def macMemoryWrong : ChangeSpec := { name := "macMemory", fn := fun _ => fun
  | [d1, d2] => { results := [.lit (.bool false)], args := [d1, d2] }
  | _ => none }
def MacMemoryWrongFalsely : Prop := macMemoryRow.holds Tryd.pinned (OpenSpec.ofChange macMemoryWrong)

/- THE SECOND FORM. 'bulk': how many values and letters a reading holds, each counted each time it is reached (what is shared counts as often as it is met; a slice's spare places count too). A statement '..UptoSaid' is the law's where the arguments, and the package variables that the reading takes, are together of bulk at most 1048576: NARROWER than '..Said'. Prove '..Said' where nothing that the law and all that it calls make is longer than what came in: it says more and counts as full. Else prove '..UptoSaid'. A law counts once. -/
mutual
def uptoBulk {H : Type} : DataW H → Nat
  | .lit (.string bytes) => bytes.length + 1
  | .lit _ => 1
  | .nil => 1
  | .ptr d => uptoBulk d + 1
  | .slice elems spare => uptoBulkAll elems + uptoBulkAll spare + 1
  | .agg parts => uptoBulkAll parts + 1
  | .iface _ d => uptoBulk d + 1
  | .map entries => uptoBulkEntries entries + 1
  | .held _ => 1
def uptoBulkAll {H : Type} : List (DataW H) → Nat
  | [] => 0
  | d :: r => uptoBulk d + uptoBulkAll r
def uptoBulkEntries {H : Type} : List (Lit × DataW H) → Nat
  | [] => 0
  | x :: r => uptoBulkEntry x + uptoBulkEntries r
def uptoBulkEntry {H : Type} : Lit × DataW H → Nat
  | (.string bytes, d) => bytes.length + uptoBulk d + 1
  | (_, d) => uptoBulk d + 1
 end
def uptoSmall : (H : Type) → List (DataW H) → Bool := fun _ ds => decide (uptoBulkAll ds ≤ 1048576)
def OpenSpec.upto (s : _root_.Go.ChangeSpec) : _root_.Go.OpenSpec := { _root_.Go.OpenSpec.ofChange s with cond := some uptoSmall }

/-- 'joustlaw01.ShaKnown', WHERE WHAT IT READS IS OF BULK AT MOST 1048576: true; the input reads as it did. -/
def shaKnownUptoRow : OpenClaim := { program := "ytheamejbfopdaaadoor", sum := "a7866514a19d2947968f38f017b6e1ef49233eab3f15c9ff79a7989c45dd9d02", func := "joust/joustlaw01.ShaKnown", spec := "shaKnown", named := ["joust/sha.rounds"], apart := false, laid := [("joust/sha.rounds", laid_joust_sha_rounds)], narrowed := true }
def ShaKnownUptoSaid : Prop := shaKnownUptoRow.holds Tryd.pinned (OpenSpec.upto shaKnownSpec)

/-- 'joustlaw01.ShaSums', WHERE WHAT IT READS IS OF BULK AT MOST 1048576: true; the input reads as it did. -/
def shaSumsUptoRow : OpenClaim := { program := "ytheamejbfopdaaadoor", sum := "a7866514a19d2947968f38f017b6e1ef49233eab3f15c9ff79a7989c45dd9d02", func := "joust/joustlaw01.ShaSums", spec := "shaSums", named := ["joust/sha.rounds", "joust/joustref01.roots", "joust/joustref01.cubes"], apart := false, laid := [("joust/joustref01.roots", laid_joust_joustref01_roots), ("joust/joustref01.cubes", laid_joust_joustref01_cubes), ("joust/sha.rounds", laid_joust_sha_rounds)], narrowed := true }
def ShaSumsUptoSaid : Prop := shaSumsUptoRow.holds Tryd.pinned (OpenSpec.upto shaSumsSpec)

/-- 'joustlaw01.ShaParts', WHERE WHAT IT READS IS OF BULK AT MOST 1048576: true; the input reads as it did. -/
def shaPartsUptoRow : OpenClaim := { program := "ytheamejbfopdaaadoor", sum := "a7866514a19d2947968f38f017b6e1ef49233eab3f15c9ff79a7989c45dd9d02", func := "joust/joustlaw01.ShaParts", spec := "shaParts", named := ["joust/sha.rounds"], apart := false, laid := [("joust/sha.rounds", laid_joust_sha_rounds)], narrowed := true }
def ShaPartsUptoSaid : Prop := shaPartsUptoRow.holds Tryd.pinned (OpenSpec.upto shaPartsSpec)

/-- 'joustlaw01.ShaLengths', WHERE WHAT IT READS IS OF BULK AT MOST 1048576: true; the input reads as it did. -/
def shaLengthsUptoRow : OpenClaim := { program := "ytheamejbfopdaaadoor", sum := "a7866514a19d2947968f38f017b6e1ef49233eab3f15c9ff79a7989c45dd9d02", func := "joust/joustlaw01.ShaLengths", spec := "shaLengths", named := ["joust/sha.rounds", "joust/joustref01.roots", "joust/joustref01.cubes"], apart := false, laid := [("joust/joustref01.roots", laid_joust_joustref01_roots), ("joust/joustref01.cubes", laid_joust_joustref01_cubes), ("joust/sha.rounds", laid_joust_sha_rounds)], narrowed := true }
def ShaLengthsUptoSaid : Prop := shaLengthsUptoRow.holds Tryd.pinned (OpenSpec.upto shaLengthsSpec)

/-- 'joustlaw02.MacHmac', WHERE WHAT IT READS IS OF BULK AT MOST 1048576: true; the input reads as it did. -/
def macHmacUptoRow : OpenClaim := { program := "ytheamejbfopdaaadoor", sum := "a7866514a19d2947968f38f017b6e1ef49233eab3f15c9ff79a7989c45dd9d02", func := "joust/joustlaw02.MacHmac", spec := "macHmac", named := ["joust/sha.rounds"], apart := false, laid := [("joust/sha.rounds", laid_joust_sha_rounds)], narrowed := true }
def MacHmacUptoSaid : Prop := macHmacUptoRow.holds Tryd.pinned (OpenSpec.upto macHmacSpec)

/-- 'joustlaw02.MacSame', WHERE WHAT IT READS IS OF BULK AT MOST 1048576: true; the input reads as it did. -/
def macSameUptoRow : OpenClaim := { program := "ytheamejbfopdaaadoor", sum := "a7866514a19d2947968f38f017b6e1ef49233eab3f15c9ff79a7989c45dd9d02", func := "joust/joustlaw02.MacSame", spec := "macSame", named := ["joust/sha.rounds"], apart := false, laid := [("joust/sha.rounds", laid_joust_sha_rounds)], narrowed := true }
def MacSameUptoSaid : Prop := macSameUptoRow.holds Tryd.pinned (OpenSpec.upto macSameSpec)

/-- 'joustlaw02.MacTags', WHERE WHAT IT READS IS OF BULK AT MOST 1048576: true; the input reads as it did. -/
def macTagsUptoRow : OpenClaim := { program := "ytheamejbfopdaaadoor", sum := "a7866514a19d2947968f38f017b6e1ef49233eab3f15c9ff79a7989c45dd9d02", func := "joust/joustlaw02.MacTags", spec := "macTags", named := ["joust/sha.rounds", "joust/joustref01.roots", "joust/joustref01.cubes"], apart := false, laid := [("joust/joustref01.roots", laid_joust_joustref01_roots), ("joust/joustref01.cubes", laid_joust_joustref01_cubes), ("joust/sha.rounds", laid_joust_sha_rounds)], narrowed := true }
def MacTagsUptoSaid : Prop := macTagsUptoRow.holds Tryd.pinned (OpenSpec.upto macTagsSpec)

/-- 'joustlaw02.MacSaid', WHERE WHAT IT READS IS OF BULK AT MOST 1048576: true; the input reads as it did. -/
def macSaidUptoRow : OpenClaim := { program := "ytheamejbfopdaaadoor", sum := "a7866514a19d2947968f38f017b6e1ef49233eab3f15c9ff79a7989c45dd9d02", func := "joust/joustlaw02.MacSaid", spec := "macSaid", named := ["joust/sha.rounds"], apart := false, laid := [("joust/sha.rounds", laid_joust_sha_rounds)], narrowed := true }
def MacSaidUptoSaid : Prop := macSaidUptoRow.holds Tryd.pinned (OpenSpec.upto macSaidSpec)

/-- 'joustlaw02.MacMemory', WHERE WHAT IT READS IS OF BULK AT MOST 1048576: true; the input reads as it did. -/
def macMemoryUptoRow : OpenClaim := { program := "ytheamejbfopdaaadoor", sum := "a7866514a19d2947968f38f017b6e1ef49233eab3f15c9ff79a7989c45dd9d02", func := "joust/joustlaw02.MacMemory", spec := "macMemory", named := ["joust/sha.rounds"], apart := false, laid := [("joust/sha.rounds", laid_joust_sha_rounds)], narrowed := true }
def MacMemoryUptoSaid : Prop := macMemoryUptoRow.holds Tryd.pinned (OpenSpec.upto macMemorySpec)

end Rows
end Go.Proofs.YtheamejbfopdaaaDoor
