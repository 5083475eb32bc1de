/-
  No cell of these rows narrows 'for every input' (looked for: loops, veiled, ifaces, maps, wideKeys, modest, calm, conditions, laid).
  DERIVED. THE GIVEN ROWS OF THIS SEAT. 23 by the template 'for every input the law returns true; each argument reads behind the call as it read before'; 0 by the template 'total and deterministic' (their statements: YtmigegngooecaaaTotals.lean).
  GIVEN WITH THE SEED: the statements are not yours to turn. If you find one false, say at which input.
  Laid BY PROGRAM, IN A SANDBOX (cutbox-rows.mjs): the forced cells as the released guide's own fill.sh prints them over the translation 76509155ed741bf9… (all of the seat's roots in one cut). By AI agents, Wed Nov 11 2026. No macro, syntax, notation, axiom, sorry.
-/
import Derived.Test.YtmigegngooecaaaChecked
import GoSem.Claim
import GoSem.ClaimJoined
import GoSem.ClaimMapViews
import Derived.JoinedTies
import Derived.KernelRfl
namespace Go.Proofs.Ytmigegngooecaaa
/- THE CELL 'sum', in the pinned program and in every row, IS THE sha256 OF THE DUMP (.gsa) THAT YtmigegngooecaaaProg.lean LOADS. Nothing in Lean hashes anything: it is a label: what it is worth is what the hold of that sum in a sandbox is worth. -/
noncomputable def Try.pinned : Pinned := { name := "ytmigegngooecaaa", sum := "76509155ed741bf9550b731207c061ccfcae520747018951b29074063a2c218d", checked := Try.checked }
namespace Rows
def none {H : Type} : Left H := { results := [], args := [] }

/-- 'coreseclaw26.ContextUnique': WHATEVER THE INPUT: true; the input reads as it did. -/
def contextUniqueSpec : ChangeSpec := { name := "contextUnique", fn := fun _ => fun
  | [d1, d2] => { results := [.lit (.bool true)], args := [d1, d2] }
  | _ => none }
def contextUniqueRow : OpenClaim := { program := "ytmigegngooecaaa", sum := "76509155ed741bf9550b731207c061ccfcae520747018951b29074063a2c218d", func := "coresec/coreseclaw26.ContextUnique", spec := "contextUnique", apart := false }
def ContextUniqueSaid : Prop := contextUniqueRow.holds Try.pinned (OpenSpec.ofChange contextUniqueSpec)

/-- ITS FALSE NEIGHBOUR: 'it returns false'. Refute it at one input. -/
def contextUniqueWrong : ChangeSpec := { name := "contextUnique", fn := fun _ => fun
  | [d1, d2] => { results := [.lit (.bool false)], args := [d1, d2] }
  | _ => none }
def ContextUniqueWrongFalsely : Prop := contextUniqueRow.holds Try.pinned (OpenSpec.ofChange contextUniqueWrong)

/-- 'coreseclaw05.KdfExpands': WHATEVER THE INPUT: true; the input reads as it did. -/
def kdfExpandsSpec : ChangeSpec := { name := "kdfExpands", fn := fun _ => fun
  | [d1, d2, d3] => { results := [.lit (.bool true)], args := [d1, d2, d3] }
  | _ => none }
def kdfExpandsRow : OpenClaim := { program := "ytmigegngooecaaa", sum := "76509155ed741bf9550b731207c061ccfcae520747018951b29074063a2c218d", func := "coresec/coreseclaw05.KdfExpands", spec := "kdfExpands", inPlace := ["math.sqrt", "math.Float64bits", "math.Float64frombits", "math.archFloor", "math.archTrunc", "math/bits.Add64", "math/bits.Sub64"], apart := false }
def KdfExpandsSaid : Prop := kdfExpandsRow.holds Try.pinned (OpenSpec.ofChange kdfExpandsSpec)

/-- ITS FALSE NEIGHBOUR: 'it returns false'. Refute it at one input. -/
def kdfExpandsWrong : ChangeSpec := { name := "kdfExpands", fn := fun _ => fun
  | [d1, d2, d3] => { results := [.lit (.bool false)], args := [d1, d2, d3] }
  | _ => none }
def KdfExpandsWrongFalsely : Prop := kdfExpandsRow.holds Try.pinned (OpenSpec.ofChange kdfExpandsWrong)

/-- 'coreseclaw05.KdfLongest': WHATEVER THE INPUT: true; the input reads as it did. -/
def kdfLongestSpec : ChangeSpec := { name := "kdfLongest", fn := fun _ => fun
  | [d] => { results := [.lit (.bool true)], args := [d] }
  | _ => none }
def kdfLongestRow : OpenClaim := { program := "ytmigegngooecaaa", sum := "76509155ed741bf9550b731207c061ccfcae520747018951b29074063a2c218d", func := "coresec/coreseclaw05.KdfLongest", spec := "kdfLongest", inPlace := ["math.sqrt", "math.Float64bits", "math.Float64frombits", "math.archFloor", "math.archTrunc", "math/bits.Add64", "math/bits.Sub64"], apart := false }
def KdfLongestSaid : Prop := kdfLongestRow.holds Try.pinned (OpenSpec.ofChange kdfLongestSpec)

/-- ITS FALSE NEIGHBOUR: 'it returns false'. Refute it at one input. -/
def kdfLongestWrong : ChangeSpec := { name := "kdfLongest", fn := fun _ => fun
  | [d] => { results := [.lit (.bool false)], args := [d] }
  | _ => none }
def KdfLongestWrongFalsely : Prop := kdfLongestRow.holds Try.pinned (OpenSpec.ofChange kdfLongestWrong)

/-- 'coreseclaw05.KdfPrefix': WHATEVER THE INPUT: true; the input reads as it did. -/
def kdfPrefixSpec : ChangeSpec := { name := "kdfPrefix", fn := fun _ => fun
  | [d1, d2, d3, d4] => { results := [.lit (.bool true)], args := [d1, d2, d3, d4] }
  | _ => none }
def kdfPrefixRow : OpenClaim := { program := "ytmigegngooecaaa", sum := "76509155ed741bf9550b731207c061ccfcae520747018951b29074063a2c218d", func := "coresec/coreseclaw05.KdfPrefix", spec := "kdfPrefix", inPlace := ["math.sqrt", "math.Float64bits", "math.Float64frombits", "math.archFloor", "math.archTrunc", "math/bits.Add64", "math/bits.Sub64"], apart := false }
def KdfPrefixSaid : Prop := kdfPrefixRow.holds Try.pinned (OpenSpec.ofChange kdfPrefixSpec)

/-- ITS FALSE NEIGHBOUR: 'it returns false'. Refute it at one input. -/
def kdfPrefixWrong : ChangeSpec := { name := "kdfPrefix", fn := fun _ => fun
  | [d1, d2, d3, d4] => { results := [.lit (.bool false)], args := [d1, d2, d3, d4] }
  | _ => none }
def KdfPrefixWrongFalsely : Prop := kdfPrefixRow.holds Try.pinned (OpenSpec.ofChange kdfPrefixWrong)

/-- 'coreseclaw05.KdfMacs': WHATEVER THE INPUT: true; the input reads as it did. -/
def kdfMacsSpec : ChangeSpec := { name := "kdfMacs", fn := fun _ => fun
  | [d1, d2, d3] => { results := [.lit (.bool true)], args := [d1, d2, d3] }
  | _ => none }
def kdfMacsRow : OpenClaim := { program := "ytmigegngooecaaa", sum := "76509155ed741bf9550b731207c061ccfcae520747018951b29074063a2c218d", func := "coresec/coreseclaw05.KdfMacs", spec := "kdfMacs", inPlace := ["math.sqrt", "math.Float64bits", "math.Float64frombits", "math.archFloor", "math.archTrunc", "math/bits.Add64", "math/bits.Sub64"], apart := false }
def KdfMacsSaid : Prop := kdfMacsRow.holds Try.pinned (OpenSpec.ofChange kdfMacsSpec)

/-- ITS FALSE NEIGHBOUR: 'it returns false'. Refute it at one input. -/
def kdfMacsWrong : ChangeSpec := { name := "kdfMacs", fn := fun _ => fun
  | [d1, d2, d3] => { results := [.lit (.bool false)], args := [d1, d2, d3] }
  | _ => none }
def KdfMacsWrongFalsely : Prop := kdfMacsRow.holds Try.pinned (OpenSpec.ofChange kdfMacsWrong)

/-- 'coreseclaw05.KdfInner': WHATEVER THE INPUT: true; the input reads as it did. -/
def kdfInnerSpec : ChangeSpec := { name := "kdfInner", fn := fun _ => fun
  | [d1, d2] => { results := [.lit (.bool true)], args := [d1, d2] }
  | _ => none }
def kdfInnerRow : OpenClaim := { program := "ytmigegngooecaaa", sum := "76509155ed741bf9550b731207c061ccfcae520747018951b29074063a2c218d", func := "coresec/coreseclaw05.KdfInner", spec := "kdfInner", inPlace := ["math.sqrt", "math.Float64bits", "math.Float64frombits", "math.archFloor", "math.archTrunc", "math/bits.Add64", "math/bits.Sub64"], apart := false }
def KdfInnerSaid : Prop := kdfInnerRow.holds Try.pinned (OpenSpec.ofChange kdfInnerSpec)

/-- ITS FALSE NEIGHBOUR: 'it returns false'. Refute it at one input. -/
def kdfInnerWrong : ChangeSpec := { name := "kdfInner", fn := fun _ => fun
  | [d1, d2] => { results := [.lit (.bool false)], args := [d1, d2] }
  | _ => none }
def KdfInnerWrongFalsely : Prop := kdfInnerRow.holds Try.pinned (OpenSpec.ofChange kdfInnerWrong)

/-- 'coreseclaw04.ShaSums': WHATEVER THE INPUT: true; the input reads as it did. -/
def shaSumsSpec : ChangeSpec := { name := "shaSums", fn := fun _ => fun
  | [d] => { results := [.lit (.bool true)], args := [d] }
  | _ => none }
def shaSumsRow : OpenClaim := { program := "ytmigegngooecaaa", sum := "76509155ed741bf9550b731207c061ccfcae520747018951b29074063a2c218d", func := "coresec/coreseclaw04.ShaSums", spec := "shaSums", inPlace := ["math.sqrt", "math.Float64bits", "math.Float64frombits", "math.archFloor", "math.archTrunc", "math/bits.Add64", "math/bits.Sub64"], apart := false }
def ShaSumsSaid : Prop := shaSumsRow.holds Try.pinned (OpenSpec.ofChange shaSumsSpec)

/-- ITS FALSE NEIGHBOUR: 'it returns false'. Refute it at one input. -/
def shaSumsWrong : ChangeSpec := { name := "shaSums", fn := fun _ => fun
  | [d] => { results := [.lit (.bool false)], args := [d] }
  | _ => none }
def ShaSumsWrongFalsely : Prop := shaSumsRow.holds Try.pinned (OpenSpec.ofChange shaSumsWrong)

/-- 'coreseclaw04.ShaConstants': WHATEVER THE INPUT: true; the input reads as it did. -/
def shaConstantsSpec : ChangeSpec := { name := "shaConstants", fn := fun _ => fun
  | [d1, d2] => { results := [.lit (.bool true)], args := [d1, d2] }
  | _ => none }
def shaConstantsRow : OpenClaim := { program := "ytmigegngooecaaa", sum := "76509155ed741bf9550b731207c061ccfcae520747018951b29074063a2c218d", func := "coresec/coreseclaw04.ShaConstants", spec := "shaConstants", inPlace := ["math/bits.Add64", "math.sqrt", "math.Float64bits", "math.Float64frombits", "math.archFloor", "math.archTrunc", "math/bits.Sub64"], unfollowed := true, recurses := true, apart := false }
def ShaConstantsSaid : Prop := shaConstantsRow.holds Try.pinned (OpenSpec.ofChange shaConstantsSpec)

/-- ITS FALSE NEIGHBOUR: 'it returns false'. Refute it at one input. -/
def shaConstantsWrong : ChangeSpec := { name := "shaConstants", fn := fun _ => fun
  | [d1, d2] => { results := [.lit (.bool false)], args := [d1, d2] }
  | _ => none }
def ShaConstantsWrongFalsely : Prop := shaConstantsRow.holds Try.pinned (OpenSpec.ofChange shaConstantsWrong)

/-- 'coreseclaw04.ShaOwn': WHATEVER THE INPUT: true; the input reads as it did. -/
def shaOwnSpec : ChangeSpec := { name := "shaOwn", fn := fun _ => fun
  | [d1, d2, d3] => { results := [.lit (.bool true)], args := [d1, d2, d3] }
  | _ => none }
def shaOwnRow : OpenClaim := { program := "ytmigegngooecaaa", sum := "76509155ed741bf9550b731207c061ccfcae520747018951b29074063a2c218d", func := "coresec/coreseclaw04.ShaOwn", spec := "shaOwn", inPlace := ["math.sqrt", "math.Float64bits", "math.Float64frombits", "math.archFloor", "math.archTrunc", "math/bits.Add64", "math/bits.Sub64"], apart := false }
def ShaOwnSaid : Prop := shaOwnRow.holds Try.pinned (OpenSpec.ofChange shaOwnSpec)

/-- ITS FALSE NEIGHBOUR: 'it returns false'. Refute it at one input. -/
def shaOwnWrong : ChangeSpec := { name := "shaOwn", fn := fun _ => fun
  | [d1, d2, d3] => { results := [.lit (.bool false)], args := [d1, d2, d3] }
  | _ => none }
def ShaOwnWrongFalsely : Prop := shaOwnRow.holds Try.pinned (OpenSpec.ofChange shaOwnWrong)

/-- 'coreseclaw05.KdfCalls': WHATEVER THE INPUT: true; the input reads as it did. -/
def kdfCallsSpec : ChangeSpec := { name := "kdfCalls", fn := fun _ => fun
  | [d1, d2, d3] => { results := [.lit (.bool true)], args := [d1, d2, d3] }
  | _ => none }
def kdfCallsRow : OpenClaim := { program := "ytmigegngooecaaa", sum := "76509155ed741bf9550b731207c061ccfcae520747018951b29074063a2c218d", func := "coresec/coreseclaw05.KdfCalls", spec := "kdfCalls", inPlace := ["math.sqrt", "math.Float64bits", "math.Float64frombits", "math.archFloor", "math.archTrunc", "math/bits.Add64", "math/bits.Sub64"], apart := false }
def KdfCallsSaid : Prop := kdfCallsRow.holds Try.pinned (OpenSpec.ofChange kdfCallsSpec)

/-- ITS FALSE NEIGHBOUR: 'it returns false'. Refute it at one input. -/
def kdfCallsWrong : ChangeSpec := { name := "kdfCalls", fn := fun _ => fun
  | [d1, d2, d3] => { results := [.lit (.bool false)], args := [d1, d2, d3] }
  | _ => none }
def KdfCallsWrongFalsely : Prop := kdfCallsRow.holds Try.pinned (OpenSpec.ofChange kdfCallsWrong)

/-- 'coreseclaw04.ShaEdges': WHATEVER THE INPUT: true; the input reads as it did. -/
def shaEdgesSpec : ChangeSpec := { name := "shaEdges", fn := fun _ => fun
  | [d1, d2, d3] => { results := [.lit (.bool true)], args := [d1, d2, d3] }
  | _ => none }
def shaEdgesRow : OpenClaim := { program := "ytmigegngooecaaa", sum := "76509155ed741bf9550b731207c061ccfcae520747018951b29074063a2c218d", func := "coresec/coreseclaw04.ShaEdges", spec := "shaEdges", inPlace := ["math.sqrt", "math.Float64bits", "math.Float64frombits", "math.archFloor", "math.archTrunc", "math/bits.Add64", "math/bits.Sub64"], apart := false }
def ShaEdgesSaid : Prop := shaEdgesRow.holds Try.pinned (OpenSpec.ofChange shaEdgesSpec)

/-- ITS FALSE NEIGHBOUR: 'it returns false'. Refute it at one input. -/
def shaEdgesWrong : ChangeSpec := { name := "shaEdges", fn := fun _ => fun
  | [d1, d2, d3] => { results := [.lit (.bool false)], args := [d1, d2, d3] }
  | _ => none }
def ShaEdgesWrongFalsely : Prop := shaEdgesRow.holds Try.pinned (OpenSpec.ofChange shaEdgesWrong)

/-- 'coreseclaw04.ShaBlocks': WHATEVER THE INPUT: true; the input reads as it did. -/
def shaBlocksSpec : ChangeSpec := { name := "shaBlocks", fn := fun _ => fun
  | [d] => { results := [.lit (.bool true)], args := [d] }
  | _ => none }
def shaBlocksRow : OpenClaim := { program := "ytmigegngooecaaa", sum := "76509155ed741bf9550b731207c061ccfcae520747018951b29074063a2c218d", func := "coresec/coreseclaw04.ShaBlocks", spec := "shaBlocks", inPlace := ["math.sqrt", "math.Float64bits", "math.Float64frombits", "math.archFloor", "math.archTrunc", "math/bits.Add64", "math/bits.Sub64"], apart := false }
def ShaBlocksSaid : Prop := shaBlocksRow.holds Try.pinned (OpenSpec.ofChange shaBlocksSpec)

/-- ITS FALSE NEIGHBOUR: 'it returns false'. Refute it at one input. -/
def shaBlocksWrong : ChangeSpec := { name := "shaBlocks", fn := fun _ => fun
  | [d] => { results := [.lit (.bool false)], args := [d] }
  | _ => none }
def ShaBlocksWrongFalsely : Prop := shaBlocksRow.holds Try.pinned (OpenSpec.ofChange shaBlocksWrong)

/-- 'coreseclaw38.EchoValues': WHATEVER THE INPUT: true; the input reads as it did. -/
def echoValuesSpec : ChangeSpec := { name := "echoValues", fn := fun _ => fun
  | [d1, d2, d3, d4, d5, d6, d7] => { results := [.lit (.bool true)], args := [d1, d2, d3, d4, d5, d6, d7] }
  | _ => none }
def echoValuesRow : OpenClaim := { program := "ytmigegngooecaaa", sum := "76509155ed741bf9550b731207c061ccfcae520747018951b29074063a2c218d", func := "coresec/coreseclaw38.EchoValues", spec := "echoValues", inPlace := ["math.sqrt", "math.Float64bits", "math.Float64frombits", "math.archFloor", "math.archTrunc", "math/bits.Add64", "math/bits.Sub64"], apart := false }
def EchoValuesSaid : Prop := echoValuesRow.holds Try.pinned (OpenSpec.ofChange echoValuesSpec)

/-- ITS FALSE NEIGHBOUR: 'it returns false'. Refute it at one input. -/
def echoValuesWrong : ChangeSpec := { name := "echoValues", fn := fun _ => fun
  | [d1, d2, d3, d4, d5, d6, d7] => { results := [.lit (.bool false)], args := [d1, d2, d3, d4, d5, d6, d7] }
  | _ => none }
def EchoValuesWrongFalsely : Prop := echoValuesRow.holds Try.pinned (OpenSpec.ofChange echoValuesWrong)

/-- 'coreseclaw26.ContextDerives': WHATEVER THE INPUT: true; the input reads as it did. -/
def contextDerivesSpec : ChangeSpec := { name := "contextDerives", fn := fun _ => fun
  | [d1, d2, d3, d4, d5] => { results := [.lit (.bool true)], args := [d1, d2, d3, d4, d5] }
  | _ => none }
def contextDerivesRow : OpenClaim := { program := "ytmigegngooecaaa", sum := "76509155ed741bf9550b731207c061ccfcae520747018951b29074063a2c218d", func := "coresec/coreseclaw26.ContextDerives", spec := "contextDerives", inPlace := ["math.sqrt", "math.Float64bits", "math.Float64frombits", "math.archFloor", "math.archTrunc", "math/bits.Add64", "math/bits.Sub64"], recurses := true, apart := false }
def ContextDerivesSaid : Prop := contextDerivesRow.holds Try.pinned (OpenSpec.ofChange contextDerivesSpec)

/-- ITS FALSE NEIGHBOUR: 'it returns false'. Refute it at one input. -/
def contextDerivesWrong : ChangeSpec := { name := "contextDerives", fn := fun _ => fun
  | [d1, d2, d3, d4, d5] => { results := [.lit (.bool false)], args := [d1, d2, d3, d4, d5] }
  | _ => none }
def ContextDerivesWrongFalsely : Prop := contextDerivesRow.holds Try.pinned (OpenSpec.ofChange contextDerivesWrong)

/-- 'coreseclaw23.TranscriptConns': WHATEVER THE INPUT: true; the input reads as it did. -/
def transcriptConnsSpec : ChangeSpec := { name := "transcriptConns", fn := fun _ => fun
  | [d1, d2, d3] => { results := [.lit (.bool true)], args := [d1, d2, d3] }
  | _ => none }
def transcriptConnsRow : OpenClaim := { program := "ytmigegngooecaaa", sum := "76509155ed741bf9550b731207c061ccfcae520747018951b29074063a2c218d", func := "coresec/coreseclaw23.TranscriptConns", spec := "transcriptConns", inPlace := ["math.sqrt", "math.Float64bits", "math.Float64frombits", "math.archFloor", "math.archTrunc", "math/bits.Add64", "math/bits.Sub64"], apart := false }
def TranscriptConnsSaid : Prop := transcriptConnsRow.holds Try.pinned (OpenSpec.ofChange transcriptConnsSpec)

/-- ITS FALSE NEIGHBOUR: 'it returns false'. Refute it at one input. -/
def transcriptConnsWrong : ChangeSpec := { name := "transcriptConns", fn := fun _ => fun
  | [d1, d2, d3] => { results := [.lit (.bool false)], args := [d1, d2, d3] }
  | _ => none }
def TranscriptConnsWrongFalsely : Prop := transcriptConnsRow.holds Try.pinned (OpenSpec.ofChange transcriptConnsWrong)

/-- 'coreseclaw23.TranscriptReads': WHATEVER THE INPUT: true; the input reads as it did. -/
def transcriptReadsSpec : ChangeSpec := { name := "transcriptReads", fn := fun _ => fun
  | [d1, d2, d3] => { results := [.lit (.bool true)], args := [d1, d2, d3] }
  | _ => none }
def transcriptReadsRow : OpenClaim := { program := "ytmigegngooecaaa", sum := "76509155ed741bf9550b731207c061ccfcae520747018951b29074063a2c218d", func := "coresec/coreseclaw23.TranscriptReads", spec := "transcriptReads", inPlace := ["math.sqrt", "math.Float64bits", "math.Float64frombits", "math.archFloor", "math.archTrunc", "math/bits.Add64", "math/bits.Sub64"], apart := false }
def TranscriptReadsSaid : Prop := transcriptReadsRow.holds Try.pinned (OpenSpec.ofChange transcriptReadsSpec)

/-- ITS FALSE NEIGHBOUR: 'it returns false'. Refute it at one input. -/
def transcriptReadsWrong : ChangeSpec := { name := "transcriptReads", fn := fun _ => fun
  | [d1, d2, d3] => { results := [.lit (.bool false)], args := [d1, d2, d3] }
  | _ => none }
def TranscriptReadsWrongFalsely : Prop := transcriptReadsRow.holds Try.pinned (OpenSpec.ofChange transcriptReadsWrong)

/-- 'coreseclaw26.ContextNumbers': WHATEVER THE INPUT: true; the input reads as it did. -/
def contextNumbersSpec : ChangeSpec := { name := "contextNumbers", fn := fun _ => fun
  | [d1, d2, d3] => { results := [.lit (.bool true)], args := [d1, d2, d3] }
  | _ => none }
def contextNumbersRow : OpenClaim := { program := "ytmigegngooecaaa", sum := "76509155ed741bf9550b731207c061ccfcae520747018951b29074063a2c218d", func := "coresec/coreseclaw26.ContextNumbers", spec := "contextNumbers", inPlace := ["math.sqrt", "math.Float64bits", "math.Float64frombits", "math.archFloor", "math.archTrunc", "math/bits.Add64", "math/bits.Sub64"], apart := false }
def ContextNumbersSaid : Prop := contextNumbersRow.holds Try.pinned (OpenSpec.ofChange contextNumbersSpec)

/-- ITS FALSE NEIGHBOUR: 'it returns false'. Refute it at one input. -/
def contextNumbersWrong : ChangeSpec := { name := "contextNumbers", fn := fun _ => fun
  | [d1, d2, d3] => { results := [.lit (.bool false)], args := [d1, d2, d3] }
  | _ => none }
def ContextNumbersWrongFalsely : Prop := contextNumbersRow.holds Try.pinned (OpenSpec.ofChange contextNumbersWrong)

/-- 'coreseclaw38.EchoAdmits': WHATEVER THE INPUT: true; the input reads as it did. -/
def echoAdmitsSpec : ChangeSpec := { name := "echoAdmits", fn := fun _ => fun
  | [d1, d2, d3, d4, d5] => { results := [.lit (.bool true)], args := [d1, d2, d3, d4, d5] }
  | _ => none }
def echoAdmitsRow : OpenClaim := { program := "ytmigegngooecaaa", sum := "76509155ed741bf9550b731207c061ccfcae520747018951b29074063a2c218d", func := "coresec/coreseclaw38.EchoAdmits", spec := "echoAdmits", inPlace := ["math.sqrt", "math.Float64bits", "math.Float64frombits", "math.archFloor", "math.archTrunc", "math/bits.Add64", "math/bits.Sub64"], apart := false }
def EchoAdmitsSaid : Prop := echoAdmitsRow.holds Try.pinned (OpenSpec.ofChange echoAdmitsSpec)

/-- ITS FALSE NEIGHBOUR: 'it returns false'. Refute it at one input. -/
def echoAdmitsWrong : ChangeSpec := { name := "echoAdmits", fn := fun _ => fun
  | [d1, d2, d3, d4, d5] => { results := [.lit (.bool false)], args := [d1, d2, d3, d4, d5] }
  | _ => none }
def EchoAdmitsWrongFalsely : Prop := echoAdmitsRow.holds Try.pinned (OpenSpec.ofChange echoAdmitsWrong)

/-- 'coreseclaw23.TranscriptContexts': WHATEVER THE INPUT: true; the input reads as it did. -/
def transcriptContextsSpec : ChangeSpec := { name := "transcriptContexts", fn := fun _ => fun
  | [d1, d2, d3, d4, d5, d6, d7] => { results := [.lit (.bool true)], args := [d1, d2, d3, d4, d5, d6, d7] }
  | _ => none }
def transcriptContextsRow : OpenClaim := { program := "ytmigegngooecaaa", sum := "76509155ed741bf9550b731207c061ccfcae520747018951b29074063a2c218d", func := "coresec/coreseclaw23.TranscriptContexts", spec := "transcriptContexts", inPlace := ["math.sqrt", "math.Float64bits", "math.Float64frombits", "math.archFloor", "math.archTrunc", "math/bits.Add64", "math/bits.Sub64"], apart := false }
def TranscriptContextsSaid : Prop := transcriptContextsRow.holds Try.pinned (OpenSpec.ofChange transcriptContextsSpec)

/-- ITS FALSE NEIGHBOUR: 'it returns false'. Refute it at one input. -/
def transcriptContextsWrong : ChangeSpec := { name := "transcriptContexts", fn := fun _ => fun
  | [d1, d2, d3, d4, d5, d6, d7] => { results := [.lit (.bool false)], args := [d1, d2, d3, d4, d5, d6, d7] }
  | _ => none }
def TranscriptContextsWrongFalsely : Prop := transcriptContextsRow.holds Try.pinned (OpenSpec.ofChange transcriptContextsWrong)

/-- 'coreseclaw26.ContextNonces': WHATEVER THE INPUT: true; the input reads as it did. -/
def contextNoncesSpec : ChangeSpec := { name := "contextNonces", fn := fun _ => fun
  | [d1, d2, d3, d4] => { results := [.lit (.bool true)], args := [d1, d2, d3, d4] }
  | _ => none }
def contextNoncesRow : OpenClaim := { program := "ytmigegngooecaaa", sum := "76509155ed741bf9550b731207c061ccfcae520747018951b29074063a2c218d", func := "coresec/coreseclaw26.ContextNonces", spec := "contextNonces", inPlace := ["math.sqrt", "math.Float64bits", "math.Float64frombits", "math.archFloor", "math.archTrunc", "math/bits.Add64", "math/bits.Sub64"], recurses := true, apart := false }
def ContextNoncesSaid : Prop := contextNoncesRow.holds Try.pinned (OpenSpec.ofChange contextNoncesSpec)

/-- ITS FALSE NEIGHBOUR: 'it returns false'. Refute it at one input. -/
def contextNoncesWrong : ChangeSpec := { name := "contextNonces", fn := fun _ => fun
  | [d1, d2, d3, d4] => { results := [.lit (.bool false)], args := [d1, d2, d3, d4] }
  | _ => none }
def ContextNoncesWrongFalsely : Prop := contextNoncesRow.holds Try.pinned (OpenSpec.ofChange contextNoncesWrong)

/-- 'coreseclaw23.TranscriptKeys': WHATEVER THE INPUT: true; the input reads as it did. -/
def transcriptKeysSpec : ChangeSpec := { name := "transcriptKeys", fn := fun _ => fun
  | [d1, d2, d3, d4, d5, d6] => { results := [.lit (.bool true)], args := [d1, d2, d3, d4, d5, d6] }
  | _ => none }
def transcriptKeysRow : OpenClaim := { program := "ytmigegngooecaaa", sum := "76509155ed741bf9550b731207c061ccfcae520747018951b29074063a2c218d", func := "coresec/coreseclaw23.TranscriptKeys", spec := "transcriptKeys", inPlace := ["math.sqrt", "math.Float64bits", "math.Float64frombits", "math.archFloor", "math.archTrunc", "math/bits.Add64", "math/bits.Sub64"], apart := false }
def TranscriptKeysSaid : Prop := transcriptKeysRow.holds Try.pinned (OpenSpec.ofChange transcriptKeysSpec)

/-- ITS FALSE NEIGHBOUR: 'it returns false'. Refute it at one input. -/
def transcriptKeysWrong : ChangeSpec := { name := "transcriptKeys", fn := fun _ => fun
  | [d1, d2, d3, d4, d5, d6] => { results := [.lit (.bool false)], args := [d1, d2, d3, d4, d5, d6] }
  | _ => none }
def TranscriptKeysWrongFalsely : Prop := transcriptKeysRow.holds Try.pinned (OpenSpec.ofChange transcriptKeysWrong)

/-- 'coreseclaw23.TranscriptHashes': WHATEVER THE INPUT: true; the input reads as it did. -/
def transcriptHashesSpec : ChangeSpec := { name := "transcriptHashes", fn := fun _ => fun
  | [d1, d2, d3] => { results := [.lit (.bool true)], args := [d1, d2, d3] }
  | _ => none }
def transcriptHashesRow : OpenClaim := { program := "ytmigegngooecaaa", sum := "76509155ed741bf9550b731207c061ccfcae520747018951b29074063a2c218d", func := "coresec/coreseclaw23.TranscriptHashes", spec := "transcriptHashes", inPlace := ["math.sqrt", "math.Float64bits", "math.Float64frombits", "math.archFloor", "math.archTrunc", "math/bits.Add64", "math/bits.Sub64"], apart := false }
def TranscriptHashesSaid : Prop := transcriptHashesRow.holds Try.pinned (OpenSpec.ofChange transcriptHashesSpec)

/-- ITS FALSE NEIGHBOUR: 'it returns false'. Refute it at one input. -/
def transcriptHashesWrong : ChangeSpec := { name := "transcriptHashes", fn := fun _ => fun
  | [d1, d2, d3] => { results := [.lit (.bool false)], args := [d1, d2, d3] }
  | _ => none }
def TranscriptHashesWrongFalsely : Prop := transcriptHashesRow.holds Try.pinned (OpenSpec.ofChange transcriptHashesWrong)

/-- 'coreseclaw38.EchoFresh': WHATEVER THE INPUT: true; the input reads as it did. -/
def echoFreshSpec : ChangeSpec := { name := "echoFresh", fn := fun _ => fun
  | [d1, d2, d3] => { results := [.lit (.bool true)], args := [d1, d2, d3] }
  | _ => none }
def echoFreshRow : OpenClaim := { program := "ytmigegngooecaaa", sum := "76509155ed741bf9550b731207c061ccfcae520747018951b29074063a2c218d", func := "coresec/coreseclaw38.EchoFresh", spec := "echoFresh", inPlace := ["math.sqrt", "math.Float64bits", "math.Float64frombits", "math.archFloor", "math.archTrunc", "math/bits.Add64", "math/bits.Sub64"], apart := false }
def EchoFreshSaid : Prop := echoFreshRow.holds Try.pinned (OpenSpec.ofChange echoFreshSpec)

/-- ITS FALSE NEIGHBOUR: 'it returns false'. Refute it at one input. -/
def echoFreshWrong : ChangeSpec := { name := "echoFresh", fn := fun _ => fun
  | [d1, d2, d3] => { results := [.lit (.bool false)], args := [d1, d2, d3] }
  | _ => none }
def EchoFreshWrongFalsely : Prop := echoFreshRow.holds Try.pinned (OpenSpec.ofChange echoFreshWrong)

/- THE SECOND FORM. 'bulk': how many values and letters a reading holds, each counted each time it is reached (what is shared counts as often as it is met; a slice's spare places count too). A statement '..UptoSaid' is the law's where the arguments, and the package variables that the reading takes, are together of bulk at most 1048576: NARROWER than '..Said'. Prove '..Said' where nothing that the law and all that it calls make is longer than what came in: it says more and counts as full. Else prove '..UptoSaid'. A law counts once. -/
mutual
def uptoBulk {H : Type} : DataW H → Nat
  | .lit (.string bytes) => bytes.length + 1
  | .lit _ => 1
  | .nil => 1
  | .ptr d => uptoBulk d + 1
  | .slice elems spare => uptoBulkAll elems + uptoBulkAll spare + 1
  | .agg parts => uptoBulkAll parts + 1
  | .iface _ d => uptoBulk d + 1
  | .map entries => uptoBulkEntries entries + 1
  | .held _ => 1
def uptoBulkAll {H : Type} : List (DataW H) → Nat
  | [] => 0
  | d :: r => uptoBulk d + uptoBulkAll r
def uptoBulkEntries {H : Type} : List (Lit × DataW H) → Nat
  | [] => 0
  | x :: r => uptoBulkEntry x + uptoBulkEntries r
def uptoBulkEntry {H : Type} : Lit × DataW H → Nat
  | (.string bytes, d) => bytes.length + uptoBulk d + 1
  | (_, d) => uptoBulk d + 1
 end
def uptoSmall : (H : Type) → List (DataW H) → Bool := fun _ ds => decide (uptoBulkAll ds ≤ 1048576)
def OpenSpec.upto (s : _root_.Go.ChangeSpec) : _root_.Go.OpenSpec := { _root_.Go.OpenSpec.ofChange s with cond := some uptoSmall }

/-- 'coreseclaw26.ContextUnique', WHERE WHAT IT READS IS OF BULK AT MOST 1048576: true; the input reads as it did. -/
def contextUniqueUptoRow : OpenClaim := { program := "ytmigegngooecaaa", sum := "76509155ed741bf9550b731207c061ccfcae520747018951b29074063a2c218d", func := "coresec/coreseclaw26.ContextUnique", spec := "contextUnique", apart := false, narrowed := true }
def ContextUniqueUptoSaid : Prop := contextUniqueUptoRow.holds Try.pinned (OpenSpec.upto contextUniqueSpec)

/-- 'coreseclaw05.KdfExpands', WHERE WHAT IT READS IS OF BULK AT MOST 1048576: true; the input reads as it did. -/
def kdfExpandsUptoRow : OpenClaim := { program := "ytmigegngooecaaa", sum := "76509155ed741bf9550b731207c061ccfcae520747018951b29074063a2c218d", func := "coresec/coreseclaw05.KdfExpands", spec := "kdfExpands", inPlace := ["math.sqrt", "math.Float64bits", "math.Float64frombits", "math.archFloor", "math.archTrunc", "math/bits.Add64", "math/bits.Sub64"], apart := false, narrowed := true }
def KdfExpandsUptoSaid : Prop := kdfExpandsUptoRow.holds Try.pinned (OpenSpec.upto kdfExpandsSpec)

/-- 'coreseclaw05.KdfLongest', WHERE WHAT IT READS IS OF BULK AT MOST 1048576: true; the input reads as it did. -/
def kdfLongestUptoRow : OpenClaim := { program := "ytmigegngooecaaa", sum := "76509155ed741bf9550b731207c061ccfcae520747018951b29074063a2c218d", func := "coresec/coreseclaw05.KdfLongest", spec := "kdfLongest", inPlace := ["math.sqrt", "math.Float64bits", "math.Float64frombits", "math.archFloor", "math.archTrunc", "math/bits.Add64", "math/bits.Sub64"], apart := false, narrowed := true }
def KdfLongestUptoSaid : Prop := kdfLongestUptoRow.holds Try.pinned (OpenSpec.upto kdfLongestSpec)

/-- 'coreseclaw05.KdfPrefix', WHERE WHAT IT READS IS OF BULK AT MOST 1048576: true; the input reads as it did. -/
def kdfPrefixUptoRow : OpenClaim := { program := "ytmigegngooecaaa", sum := "76509155ed741bf9550b731207c061ccfcae520747018951b29074063a2c218d", func := "coresec/coreseclaw05.KdfPrefix", spec := "kdfPrefix", inPlace := ["math.sqrt", "math.Float64bits", "math.Float64frombits", "math.archFloor", "math.archTrunc", "math/bits.Add64", "math/bits.Sub64"], apart := false, narrowed := true }
def KdfPrefixUptoSaid : Prop := kdfPrefixUptoRow.holds Try.pinned (OpenSpec.upto kdfPrefixSpec)

/-- 'coreseclaw05.KdfMacs', WHERE WHAT IT READS IS OF BULK AT MOST 1048576: true; the input reads as it did. -/
def kdfMacsUptoRow : OpenClaim := { program := "ytmigegngooecaaa", sum := "76509155ed741bf9550b731207c061ccfcae520747018951b29074063a2c218d", func := "coresec/coreseclaw05.KdfMacs", spec := "kdfMacs", inPlace := ["math.sqrt", "math.Float64bits", "math.Float64frombits", "math.archFloor", "math.archTrunc", "math/bits.Add64", "math/bits.Sub64"], apart := false, narrowed := true }
def KdfMacsUptoSaid : Prop := kdfMacsUptoRow.holds Try.pinned (OpenSpec.upto kdfMacsSpec)

/-- 'coreseclaw05.KdfInner', WHERE WHAT IT READS IS OF BULK AT MOST 1048576: true; the input reads as it did. -/
def kdfInnerUptoRow : OpenClaim := { program := "ytmigegngooecaaa", sum := "76509155ed741bf9550b731207c061ccfcae520747018951b29074063a2c218d", func := "coresec/coreseclaw05.KdfInner", spec := "kdfInner", inPlace := ["math.sqrt", "math.Float64bits", "math.Float64frombits", "math.archFloor", "math.archTrunc", "math/bits.Add64", "math/bits.Sub64"], apart := false, narrowed := true }
def KdfInnerUptoSaid : Prop := kdfInnerUptoRow.holds Try.pinned (OpenSpec.upto kdfInnerSpec)

/-- 'coreseclaw04.ShaSums', WHERE WHAT IT READS IS OF BULK AT MOST 1048576: true; the input reads as it did. -/
def shaSumsUptoRow : OpenClaim := { program := "ytmigegngooecaaa", sum := "76509155ed741bf9550b731207c061ccfcae520747018951b29074063a2c218d", func := "coresec/coreseclaw04.ShaSums", spec := "shaSums", inPlace := ["math.sqrt", "math.Float64bits", "math.Float64frombits", "math.archFloor", "math.archTrunc", "math/bits.Add64", "math/bits.Sub64"], apart := false, narrowed := true }
def ShaSumsUptoSaid : Prop := shaSumsUptoRow.holds Try.pinned (OpenSpec.upto shaSumsSpec)

/-- 'coreseclaw04.ShaConstants', WHERE WHAT IT READS IS OF BULK AT MOST 1048576: true; the input reads as it did. -/
def shaConstantsUptoRow : OpenClaim := { program := "ytmigegngooecaaa", sum := "76509155ed741bf9550b731207c061ccfcae520747018951b29074063a2c218d", func := "coresec/coreseclaw04.ShaConstants", spec := "shaConstants", inPlace := ["math/bits.Add64", "math.sqrt", "math.Float64bits", "math.Float64frombits", "math.archFloor", "math.archTrunc", "math/bits.Sub64"], unfollowed := true, recurses := true, apart := false, narrowed := true }
def ShaConstantsUptoSaid : Prop := shaConstantsUptoRow.holds Try.pinned (OpenSpec.upto shaConstantsSpec)

/-- 'coreseclaw04.ShaOwn', WHERE WHAT IT READS IS OF BULK AT MOST 1048576: true; the input reads as it did. -/
def shaOwnUptoRow : OpenClaim := { program := "ytmigegngooecaaa", sum := "76509155ed741bf9550b731207c061ccfcae520747018951b29074063a2c218d", func := "coresec/coreseclaw04.ShaOwn", spec := "shaOwn", inPlace := ["math.sqrt", "math.Float64bits", "math.Float64frombits", "math.archFloor", "math.archTrunc", "math/bits.Add64", "math/bits.Sub64"], apart := false, narrowed := true }
def ShaOwnUptoSaid : Prop := shaOwnUptoRow.holds Try.pinned (OpenSpec.upto shaOwnSpec)

/-- 'coreseclaw05.KdfCalls', WHERE WHAT IT READS IS OF BULK AT MOST 1048576: true; the input reads as it did. -/
def kdfCallsUptoRow : OpenClaim := { program := "ytmigegngooecaaa", sum := "76509155ed741bf9550b731207c061ccfcae520747018951b29074063a2c218d", func := "coresec/coreseclaw05.KdfCalls", spec := "kdfCalls", inPlace := ["math.sqrt", "math.Float64bits", "math.Float64frombits", "math.archFloor", "math.archTrunc", "math/bits.Add64", "math/bits.Sub64"], apart := false, narrowed := true }
def KdfCallsUptoSaid : Prop := kdfCallsUptoRow.holds Try.pinned (OpenSpec.upto kdfCallsSpec)

/-- 'coreseclaw04.ShaEdges', WHERE WHAT IT READS IS OF BULK AT MOST 1048576: true; the input reads as it did. -/
def shaEdgesUptoRow : OpenClaim := { program := "ytmigegngooecaaa", sum := "76509155ed741bf9550b731207c061ccfcae520747018951b29074063a2c218d", func := "coresec/coreseclaw04.ShaEdges", spec := "shaEdges", inPlace := ["math.sqrt", "math.Float64bits", "math.Float64frombits", "math.archFloor", "math.archTrunc", "math/bits.Add64", "math/bits.Sub64"], apart := false, narrowed := true }
def ShaEdgesUptoSaid : Prop := shaEdgesUptoRow.holds Try.pinned (OpenSpec.upto shaEdgesSpec)

/-- 'coreseclaw04.ShaBlocks', WHERE WHAT IT READS IS OF BULK AT MOST 1048576: true; the input reads as it did. -/
def shaBlocksUptoRow : OpenClaim := { program := "ytmigegngooecaaa", sum := "76509155ed741bf9550b731207c061ccfcae520747018951b29074063a2c218d", func := "coresec/coreseclaw04.ShaBlocks", spec := "shaBlocks", inPlace := ["math.sqrt", "math.Float64bits", "math.Float64frombits", "math.archFloor", "math.archTrunc", "math/bits.Add64", "math/bits.Sub64"], apart := false, narrowed := true }
def ShaBlocksUptoSaid : Prop := shaBlocksUptoRow.holds Try.pinned (OpenSpec.upto shaBlocksSpec)

/-- 'coreseclaw38.EchoValues', WHERE WHAT IT READS IS OF BULK AT MOST 1048576: true; the input reads as it did. -/
def echoValuesUptoRow : OpenClaim := { program := "ytmigegngooecaaa", sum := "76509155ed741bf9550b731207c061ccfcae520747018951b29074063a2c218d", func := "coresec/coreseclaw38.EchoValues", spec := "echoValues", inPlace := ["math.sqrt", "math.Float64bits", "math.Float64frombits", "math.archFloor", "math.archTrunc", "math/bits.Add64", "math/bits.Sub64"], apart := false, narrowed := true }
def EchoValuesUptoSaid : Prop := echoValuesUptoRow.holds Try.pinned (OpenSpec.upto echoValuesSpec)

/-- 'coreseclaw26.ContextDerives', WHERE WHAT IT READS IS OF BULK AT MOST 1048576: true; the input reads as it did. -/
def contextDerivesUptoRow : OpenClaim := { program := "ytmigegngooecaaa", sum := "76509155ed741bf9550b731207c061ccfcae520747018951b29074063a2c218d", func := "coresec/coreseclaw26.ContextDerives", spec := "contextDerives", inPlace := ["math.sqrt", "math.Float64bits", "math.Float64frombits", "math.archFloor", "math.archTrunc", "math/bits.Add64", "math/bits.Sub64"], recurses := true, apart := false, narrowed := true }
def ContextDerivesUptoSaid : Prop := contextDerivesUptoRow.holds Try.pinned (OpenSpec.upto contextDerivesSpec)

/-- 'coreseclaw23.TranscriptConns', WHERE WHAT IT READS IS OF BULK AT MOST 1048576: true; the input reads as it did. -/
def transcriptConnsUptoRow : OpenClaim := { program := "ytmigegngooecaaa", sum := "76509155ed741bf9550b731207c061ccfcae520747018951b29074063a2c218d", func := "coresec/coreseclaw23.TranscriptConns", spec := "transcriptConns", inPlace := ["math.sqrt", "math.Float64bits", "math.Float64frombits", "math.archFloor", "math.archTrunc", "math/bits.Add64", "math/bits.Sub64"], apart := false, narrowed := true }
def TranscriptConnsUptoSaid : Prop := transcriptConnsUptoRow.holds Try.pinned (OpenSpec.upto transcriptConnsSpec)

/-- 'coreseclaw23.TranscriptReads', WHERE WHAT IT READS IS OF BULK AT MOST 1048576: true; the input reads as it did. -/
def transcriptReadsUptoRow : OpenClaim := { program := "ytmigegngooecaaa", sum := "76509155ed741bf9550b731207c061ccfcae520747018951b29074063a2c218d", func := "coresec/coreseclaw23.TranscriptReads", spec := "transcriptReads", inPlace := ["math.sqrt", "math.Float64bits", "math.Float64frombits", "math.archFloor", "math.archTrunc", "math/bits.Add64", "math/bits.Sub64"], apart := false, narrowed := true }
def TranscriptReadsUptoSaid : Prop := transcriptReadsUptoRow.holds Try.pinned (OpenSpec.upto transcriptReadsSpec)

/-- 'coreseclaw26.ContextNumbers', WHERE WHAT IT READS IS OF BULK AT MOST 1048576: true; the input reads as it did. -/
def contextNumbersUptoRow : OpenClaim := { program := "ytmigegngooecaaa", sum := "76509155ed741bf9550b731207c061ccfcae520747018951b29074063a2c218d", func := "coresec/coreseclaw26.ContextNumbers", spec := "contextNumbers", inPlace := ["math.sqrt", "math.Float64bits", "math.Float64frombits", "math.archFloor", "math.archTrunc", "math/bits.Add64", "math/bits.Sub64"], apart := false, narrowed := true }
def ContextNumbersUptoSaid : Prop := contextNumbersUptoRow.holds Try.pinned (OpenSpec.upto contextNumbersSpec)

/-- 'coreseclaw38.EchoAdmits', WHERE WHAT IT READS IS OF BULK AT MOST 1048576: true; the input reads as it did. -/
def echoAdmitsUptoRow : OpenClaim := { program := "ytmigegngooecaaa", sum := "76509155ed741bf9550b731207c061ccfcae520747018951b29074063a2c218d", func := "coresec/coreseclaw38.EchoAdmits", spec := "echoAdmits", inPlace := ["math.sqrt", "math.Float64bits", "math.Float64frombits", "math.archFloor", "math.archTrunc", "math/bits.Add64", "math/bits.Sub64"], apart := false, narrowed := true }
def EchoAdmitsUptoSaid : Prop := echoAdmitsUptoRow.holds Try.pinned (OpenSpec.upto echoAdmitsSpec)

/-- 'coreseclaw23.TranscriptContexts', WHERE WHAT IT READS IS OF BULK AT MOST 1048576: true; the input reads as it did. -/
def transcriptContextsUptoRow : OpenClaim := { program := "ytmigegngooecaaa", sum := "76509155ed741bf9550b731207c061ccfcae520747018951b29074063a2c218d", func := "coresec/coreseclaw23.TranscriptContexts", spec := "transcriptContexts", inPlace := ["math.sqrt", "math.Float64bits", "math.Float64frombits", "math.archFloor", "math.archTrunc", "math/bits.Add64", "math/bits.Sub64"], apart := false, narrowed := true }
def TranscriptContextsUptoSaid : Prop := transcriptContextsUptoRow.holds Try.pinned (OpenSpec.upto transcriptContextsSpec)

/-- 'coreseclaw26.ContextNonces', WHERE WHAT IT READS IS OF BULK AT MOST 1048576: true; the input reads as it did. -/
def contextNoncesUptoRow : OpenClaim := { program := "ytmigegngooecaaa", sum := "76509155ed741bf9550b731207c061ccfcae520747018951b29074063a2c218d", func := "coresec/coreseclaw26.ContextNonces", spec := "contextNonces", inPlace := ["math.sqrt", "math.Float64bits", "math.Float64frombits", "math.archFloor", "math.archTrunc", "math/bits.Add64", "math/bits.Sub64"], recurses := true, apart := false, narrowed := true }
def ContextNoncesUptoSaid : Prop := contextNoncesUptoRow.holds Try.pinned (OpenSpec.upto contextNoncesSpec)

/-- 'coreseclaw23.TranscriptKeys', WHERE WHAT IT READS IS OF BULK AT MOST 1048576: true; the input reads as it did. -/
def transcriptKeysUptoRow : OpenClaim := { program := "ytmigegngooecaaa", sum := "76509155ed741bf9550b731207c061ccfcae520747018951b29074063a2c218d", func := "coresec/coreseclaw23.TranscriptKeys", spec := "transcriptKeys", inPlace := ["math.sqrt", "math.Float64bits", "math.Float64frombits", "math.archFloor", "math.archTrunc", "math/bits.Add64", "math/bits.Sub64"], apart := false, narrowed := true }
def TranscriptKeysUptoSaid : Prop := transcriptKeysUptoRow.holds Try.pinned (OpenSpec.upto transcriptKeysSpec)

/-- 'coreseclaw23.TranscriptHashes', WHERE WHAT IT READS IS OF BULK AT MOST 1048576: true; the input reads as it did. -/
def transcriptHashesUptoRow : OpenClaim := { program := "ytmigegngooecaaa", sum := "76509155ed741bf9550b731207c061ccfcae520747018951b29074063a2c218d", func := "coresec/coreseclaw23.TranscriptHashes", spec := "transcriptHashes", inPlace := ["math.sqrt", "math.Float64bits", "math.Float64frombits", "math.archFloor", "math.archTrunc", "math/bits.Add64", "math/bits.Sub64"], apart := false, narrowed := true }
def TranscriptHashesUptoSaid : Prop := transcriptHashesUptoRow.holds Try.pinned (OpenSpec.upto transcriptHashesSpec)

/-- 'coreseclaw38.EchoFresh', WHERE WHAT IT READS IS OF BULK AT MOST 1048576: true; the input reads as it did. -/
def echoFreshUptoRow : OpenClaim := { program := "ytmigegngooecaaa", sum := "76509155ed741bf9550b731207c061ccfcae520747018951b29074063a2c218d", func := "coresec/coreseclaw38.EchoFresh", spec := "echoFresh", inPlace := ["math.sqrt", "math.Float64bits", "math.Float64frombits", "math.archFloor", "math.archTrunc", "math/bits.Add64", "math/bits.Sub64"], apart := false, narrowed := true }
def EchoFreshUptoSaid : Prop := echoFreshUptoRow.holds Try.pinned (OpenSpec.upto echoFreshSpec)

end Rows
end Go.Proofs.Ytmigegngooecaaa
