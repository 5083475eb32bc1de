/-
  No cell of these rows narrows 'for every input' (looked for: loops, veiled, ifaces, maps, wideKeys, modest, calm, conditions, laid).
  DERIVED. THE GIVEN ROWS OF THIS SEAT. 9 by the template 'for every input the law returns true; each argument reads behind the call as it read before'; 0 by the template 'total and deterministic' (their statements: YtedccmojbmlkcaaTotals.lean).
  GIVEN WITH THE SEED: the statements are not yours to turn. If you find one false, say at which input.
  Laid BY PROGRAM, IN A SANDBOX (cutbox-rows.mjs): the forced cells as the released guide's own fill.sh prints them over the translation 05ed5d3e56d59733… (all of the seat's roots in one cut). By AI agents, Wed Nov 11 2026. No macro, syntax, notation, axiom, sorry.
-/
import Derived.Test.YtedccmojbmlkcaaChecked
import GoSem.Claim
import GoSem.ClaimJoined
import GoSem.ClaimMapViews
import Derived.JoinedTies
import Derived.KernelRfl
namespace Go.Proofs.Ytedccmojbmlkcaa
/- THE CELL 'sum', in the pinned program and in every row, IS THE sha256 OF THE DUMP (.gsa) THAT YtedccmojbmlkcaaProg.lean LOADS. Nothing in Lean hashes anything: it is a label: what it is worth is what the hold of that sum in a sandbox is worth. -/
noncomputable def Try.pinned : Pinned := { name := "ytedccmojbmlkcaa", sum := "05ed5d3e56d597335885225c4e9c556437ba9920c636314b483fad9c702375e6", checked := Try.checked }
namespace Rows
def none {H : Type} : Left H := { results := [], args := [] }

/-- 'coreseclaw05.KdfPrefix': WHATEVER THE INPUT: true; the input reads as it did. -/
def kdfPrefixSpec : ChangeSpec := { name := "kdfPrefix", fn := fun _ => fun
  | [d1, d2, d3, d4] => { results := [.lit (.bool true)], args := [d1, d2, d3, d4] }
  | _ => none }
def kdfPrefixRow : OpenClaim := { program := "ytedccmojbmlkcaa", sum := "05ed5d3e56d597335885225c4e9c556437ba9920c636314b483fad9c702375e6", func := "coresec/coreseclaw05.KdfPrefix", spec := "kdfPrefix", inPlace := ["math.sqrt", "math.Float64bits", "math.Float64frombits", "math.archFloor", "math.archTrunc", "math/bits.Add64", "math/bits.Sub64"], apart := false }
def KdfPrefixSaid : Prop := kdfPrefixRow.holds Try.pinned (OpenSpec.ofChange kdfPrefixSpec)

/-- ITS FALSE NEIGHBOUR: 'it returns false'. Refute it at one input. -/
def kdfPrefixWrong : ChangeSpec := { name := "kdfPrefix", fn := fun _ => fun
  | [d1, d2, d3, d4] => { results := [.lit (.bool false)], args := [d1, d2, d3, d4] }
  | _ => none }
def KdfPrefixWrongFalsely : Prop := kdfPrefixRow.holds Try.pinned (OpenSpec.ofChange kdfPrefixWrong)

/-- 'coreseclaw05.KdfCalls': WHATEVER THE INPUT: true; the input reads as it did. -/
def kdfCallsSpec : ChangeSpec := { name := "kdfCalls", fn := fun _ => fun
  | [d1, d2, d3] => { results := [.lit (.bool true)], args := [d1, d2, d3] }
  | _ => none }
def kdfCallsRow : OpenClaim := { program := "ytedccmojbmlkcaa", sum := "05ed5d3e56d597335885225c4e9c556437ba9920c636314b483fad9c702375e6", func := "coresec/coreseclaw05.KdfCalls", spec := "kdfCalls", inPlace := ["math.sqrt", "math.Float64bits", "math.Float64frombits", "math.archFloor", "math.archTrunc", "math/bits.Add64", "math/bits.Sub64"], apart := false }
def KdfCallsSaid : Prop := kdfCallsRow.holds Try.pinned (OpenSpec.ofChange kdfCallsSpec)

/-- ITS FALSE NEIGHBOUR: 'it returns false'. Refute it at one input. -/
def kdfCallsWrong : ChangeSpec := { name := "kdfCalls", fn := fun _ => fun
  | [d1, d2, d3] => { results := [.lit (.bool false)], args := [d1, d2, d3] }
  | _ => none }
def KdfCallsWrongFalsely : Prop := kdfCallsRow.holds Try.pinned (OpenSpec.ofChange kdfCallsWrong)

/-- 'coreseclaw04.ShaConstants': WHATEVER THE INPUT: true; the input reads as it did. -/
def shaConstantsSpec : ChangeSpec := { name := "shaConstants", fn := fun _ => fun
  | [d1, d2] => { results := [.lit (.bool true)], args := [d1, d2] }
  | _ => none }
def shaConstantsRow : OpenClaim := { program := "ytedccmojbmlkcaa", sum := "05ed5d3e56d597335885225c4e9c556437ba9920c636314b483fad9c702375e6", func := "coresec/coreseclaw04.ShaConstants", spec := "shaConstants", inPlace := ["math/bits.Add64", "math.sqrt", "math.Float64bits", "math.Float64frombits", "math.archFloor", "math.archTrunc", "math/bits.Sub64"], unfollowed := true, recurses := true, apart := false }
def ShaConstantsSaid : Prop := shaConstantsRow.holds Try.pinned (OpenSpec.ofChange shaConstantsSpec)

/-- ITS FALSE NEIGHBOUR: 'it returns false'. Refute it at one input. -/
def shaConstantsWrong : ChangeSpec := { name := "shaConstants", fn := fun _ => fun
  | [d1, d2] => { results := [.lit (.bool false)], args := [d1, d2] }
  | _ => none }
def ShaConstantsWrongFalsely : Prop := shaConstantsRow.holds Try.pinned (OpenSpec.ofChange shaConstantsWrong)

/-- 'coreseclaw04.ShaBlocks': WHATEVER THE INPUT: true; the input reads as it did. -/
def shaBlocksSpec : ChangeSpec := { name := "shaBlocks", fn := fun _ => fun
  | [d] => { results := [.lit (.bool true)], args := [d] }
  | _ => none }
def shaBlocksRow : OpenClaim := { program := "ytedccmojbmlkcaa", sum := "05ed5d3e56d597335885225c4e9c556437ba9920c636314b483fad9c702375e6", func := "coresec/coreseclaw04.ShaBlocks", spec := "shaBlocks", inPlace := ["math.sqrt", "math.Float64bits", "math.Float64frombits", "math.archFloor", "math.archTrunc", "math/bits.Add64", "math/bits.Sub64"], apart := false }
def ShaBlocksSaid : Prop := shaBlocksRow.holds Try.pinned (OpenSpec.ofChange shaBlocksSpec)

/-- ITS FALSE NEIGHBOUR: 'it returns false'. Refute it at one input. -/
def shaBlocksWrong : ChangeSpec := { name := "shaBlocks", fn := fun _ => fun
  | [d] => { results := [.lit (.bool false)], args := [d] }
  | _ => none }
def ShaBlocksWrongFalsely : Prop := shaBlocksRow.holds Try.pinned (OpenSpec.ofChange shaBlocksWrong)

/-- 'coreseclaw26.ContextDerives': WHATEVER THE INPUT: true; the input reads as it did. -/
def contextDerivesSpec : ChangeSpec := { name := "contextDerives", fn := fun _ => fun
  | [d1, d2, d3, d4, d5] => { results := [.lit (.bool true)], args := [d1, d2, d3, d4, d5] }
  | _ => none }
def contextDerivesRow : OpenClaim := { program := "ytedccmojbmlkcaa", sum := "05ed5d3e56d597335885225c4e9c556437ba9920c636314b483fad9c702375e6", func := "coresec/coreseclaw26.ContextDerives", spec := "contextDerives", inPlace := ["math.sqrt", "math.Float64bits", "math.Float64frombits", "math.archFloor", "math.archTrunc", "math/bits.Add64", "math/bits.Sub64"], recurses := true, apart := false }
def ContextDerivesSaid : Prop := contextDerivesRow.holds Try.pinned (OpenSpec.ofChange contextDerivesSpec)

/-- ITS FALSE NEIGHBOUR: 'it returns false'. Refute it at one input. -/
def contextDerivesWrong : ChangeSpec := { name := "contextDerives", fn := fun _ => fun
  | [d1, d2, d3, d4, d5] => { results := [.lit (.bool false)], args := [d1, d2, d3, d4, d5] }
  | _ => none }
def ContextDerivesWrongFalsely : Prop := contextDerivesRow.holds Try.pinned (OpenSpec.ofChange contextDerivesWrong)

/-- 'coreseclaw26.ContextNonces': WHATEVER THE INPUT: true; the input reads as it did. -/
def contextNoncesSpec : ChangeSpec := { name := "contextNonces", fn := fun _ => fun
  | [d1, d2, d3, d4] => { results := [.lit (.bool true)], args := [d1, d2, d3, d4] }
  | _ => none }
def contextNoncesRow : OpenClaim := { program := "ytedccmojbmlkcaa", sum := "05ed5d3e56d597335885225c4e9c556437ba9920c636314b483fad9c702375e6", func := "coresec/coreseclaw26.ContextNonces", spec := "contextNonces", inPlace := ["math.sqrt", "math.Float64bits", "math.Float64frombits", "math.archFloor", "math.archTrunc", "math/bits.Add64", "math/bits.Sub64"], recurses := true, apart := false }
def ContextNoncesSaid : Prop := contextNoncesRow.holds Try.pinned (OpenSpec.ofChange contextNoncesSpec)

/-- ITS FALSE NEIGHBOUR: 'it returns false'. Refute it at one input. -/
def contextNoncesWrong : ChangeSpec := { name := "contextNonces", fn := fun _ => fun
  | [d1, d2, d3, d4] => { results := [.lit (.bool false)], args := [d1, d2, d3, d4] }
  | _ => none }
def ContextNoncesWrongFalsely : Prop := contextNoncesRow.holds Try.pinned (OpenSpec.ofChange contextNoncesWrong)

/-- 'coreseclaw26.ContextNumbers': WHATEVER THE INPUT: true; the input reads as it did. -/
def contextNumbersSpec : ChangeSpec := { name := "contextNumbers", fn := fun _ => fun
  | [d1, d2, d3] => { results := [.lit (.bool true)], args := [d1, d2, d3] }
  | _ => none }
def contextNumbersRow : OpenClaim := { program := "ytedccmojbmlkcaa", sum := "05ed5d3e56d597335885225c4e9c556437ba9920c636314b483fad9c702375e6", func := "coresec/coreseclaw26.ContextNumbers", spec := "contextNumbers", inPlace := ["math.sqrt", "math.Float64bits", "math.Float64frombits", "math.archFloor", "math.archTrunc", "math/bits.Add64", "math/bits.Sub64"], apart := false }
def ContextNumbersSaid : Prop := contextNumbersRow.holds Try.pinned (OpenSpec.ofChange contextNumbersSpec)

/-- ITS FALSE NEIGHBOUR: 'it returns false'. Refute it at one input. -/
def contextNumbersWrong : ChangeSpec := { name := "contextNumbers", fn := fun _ => fun
  | [d1, d2, d3] => { results := [.lit (.bool false)], args := [d1, d2, d3] }
  | _ => none }
def ContextNumbersWrongFalsely : Prop := contextNumbersRow.holds Try.pinned (OpenSpec.ofChange contextNumbersWrong)

/-- 'coreseclaw26.ContextUnique': WHATEVER THE INPUT: true; the input reads as it did. -/
def contextUniqueSpec : ChangeSpec := { name := "contextUnique", fn := fun _ => fun
  | [d1, d2] => { results := [.lit (.bool true)], args := [d1, d2] }
  | _ => none }
def contextUniqueRow : OpenClaim := { program := "ytedccmojbmlkcaa", sum := "05ed5d3e56d597335885225c4e9c556437ba9920c636314b483fad9c702375e6", func := "coresec/coreseclaw26.ContextUnique", spec := "contextUnique", apart := false }
def ContextUniqueSaid : Prop := contextUniqueRow.holds Try.pinned (OpenSpec.ofChange contextUniqueSpec)

/-- ITS FALSE NEIGHBOUR: 'it returns false'. Refute it at one input. -/
def contextUniqueWrong : ChangeSpec := { name := "contextUnique", fn := fun _ => fun
  | [d1, d2] => { results := [.lit (.bool false)], args := [d1, d2] }
  | _ => none }
def ContextUniqueWrongFalsely : Prop := contextUniqueRow.holds Try.pinned (OpenSpec.ofChange contextUniqueWrong)

/-- 'coreseclaw38.EchoValues': WHATEVER THE INPUT: true; the input reads as it did. -/
def echoValuesSpec : ChangeSpec := { name := "echoValues", fn := fun _ => fun
  | [d1, d2, d3, d4, d5, d6, d7] => { results := [.lit (.bool true)], args := [d1, d2, d3, d4, d5, d6, d7] }
  | _ => none }
def echoValuesRow : OpenClaim := { program := "ytedccmojbmlkcaa", sum := "05ed5d3e56d597335885225c4e9c556437ba9920c636314b483fad9c702375e6", func := "coresec/coreseclaw38.EchoValues", spec := "echoValues", inPlace := ["math.sqrt", "math.Float64bits", "math.Float64frombits", "math.archFloor", "math.archTrunc", "math/bits.Add64", "math/bits.Sub64"], apart := false }
def EchoValuesSaid : Prop := echoValuesRow.holds Try.pinned (OpenSpec.ofChange echoValuesSpec)

/-- ITS FALSE NEIGHBOUR: 'it returns false'. Refute it at one input. -/
def echoValuesWrong : ChangeSpec := { name := "echoValues", fn := fun _ => fun
  | [d1, d2, d3, d4, d5, d6, d7] => { results := [.lit (.bool false)], args := [d1, d2, d3, d4, d5, d6, d7] }
  | _ => none }
def EchoValuesWrongFalsely : Prop := echoValuesRow.holds Try.pinned (OpenSpec.ofChange echoValuesWrong)

/- THE SECOND FORM. 'bulk': how many values and letters a reading holds, each counted each time it is reached (what is shared counts as often as it is met; a slice's spare places count too). A statement '..UptoSaid' is the law's where the arguments, and the package variables that the reading takes, are together of bulk at most 1048576: NARROWER than '..Said'. Prove '..Said' where nothing that the law and all that it calls make is longer than what came in: it says more and counts as full. Else prove '..UptoSaid'. A law counts once. -/
mutual
def uptoBulk {H : Type} : DataW H → Nat
  | .lit (.string bytes) => bytes.length + 1
  | .lit _ => 1
  | .nil => 1
  | .ptr d => uptoBulk d + 1
  | .slice elems spare => uptoBulkAll elems + uptoBulkAll spare + 1
  | .agg parts => uptoBulkAll parts + 1
  | .iface _ d => uptoBulk d + 1
  | .map entries => uptoBulkEntries entries + 1
  | .held _ => 1
def uptoBulkAll {H : Type} : List (DataW H) → Nat
  | [] => 0
  | d :: r => uptoBulk d + uptoBulkAll r
def uptoBulkEntries {H : Type} : List (Lit × DataW H) → Nat
  | [] => 0
  | x :: r => uptoBulkEntry x + uptoBulkEntries r
def uptoBulkEntry {H : Type} : Lit × DataW H → Nat
  | (.string bytes, d) => bytes.length + uptoBulk d + 1
  | (_, d) => uptoBulk d + 1
 end
def uptoSmall : (H : Type) → List (DataW H) → Bool := fun _ ds => decide (uptoBulkAll ds ≤ 1048576)
def OpenSpec.upto (s : _root_.Go.ChangeSpec) : _root_.Go.OpenSpec := { _root_.Go.OpenSpec.ofChange s with cond := some uptoSmall }

/-- 'coreseclaw05.KdfPrefix', WHERE WHAT IT READS IS OF BULK AT MOST 1048576: true; the input reads as it did. -/
def kdfPrefixUptoRow : OpenClaim := { program := "ytedccmojbmlkcaa", sum := "05ed5d3e56d597335885225c4e9c556437ba9920c636314b483fad9c702375e6", func := "coresec/coreseclaw05.KdfPrefix", spec := "kdfPrefix", inPlace := ["math.sqrt", "math.Float64bits", "math.Float64frombits", "math.archFloor", "math.archTrunc", "math/bits.Add64", "math/bits.Sub64"], apart := false, narrowed := true }
def KdfPrefixUptoSaid : Prop := kdfPrefixUptoRow.holds Try.pinned (OpenSpec.upto kdfPrefixSpec)

/-- 'coreseclaw05.KdfCalls', WHERE WHAT IT READS IS OF BULK AT MOST 1048576: true; the input reads as it did. -/
def kdfCallsUptoRow : OpenClaim := { program := "ytedccmojbmlkcaa", sum := "05ed5d3e56d597335885225c4e9c556437ba9920c636314b483fad9c702375e6", func := "coresec/coreseclaw05.KdfCalls", spec := "kdfCalls", inPlace := ["math.sqrt", "math.Float64bits", "math.Float64frombits", "math.archFloor", "math.archTrunc", "math/bits.Add64", "math/bits.Sub64"], apart := false, narrowed := true }
def KdfCallsUptoSaid : Prop := kdfCallsUptoRow.holds Try.pinned (OpenSpec.upto kdfCallsSpec)

/-- 'coreseclaw04.ShaConstants', WHERE WHAT IT READS IS OF BULK AT MOST 1048576: true; the input reads as it did. -/
def shaConstantsUptoRow : OpenClaim := { program := "ytedccmojbmlkcaa", sum := "05ed5d3e56d597335885225c4e9c556437ba9920c636314b483fad9c702375e6", func := "coresec/coreseclaw04.ShaConstants", spec := "shaConstants", inPlace := ["math/bits.Add64", "math.sqrt", "math.Float64bits", "math.Float64frombits", "math.archFloor", "math.archTrunc", "math/bits.Sub64"], unfollowed := true, recurses := true, apart := false, narrowed := true }
def ShaConstantsUptoSaid : Prop := shaConstantsUptoRow.holds Try.pinned (OpenSpec.upto shaConstantsSpec)

/-- 'coreseclaw04.ShaBlocks', WHERE WHAT IT READS IS OF BULK AT MOST 1048576: true; the input reads as it did. -/
def shaBlocksUptoRow : OpenClaim := { program := "ytedccmojbmlkcaa", sum := "05ed5d3e56d597335885225c4e9c556437ba9920c636314b483fad9c702375e6", func := "coresec/coreseclaw04.ShaBlocks", spec := "shaBlocks", inPlace := ["math.sqrt", "math.Float64bits", "math.Float64frombits", "math.archFloor", "math.archTrunc", "math/bits.Add64", "math/bits.Sub64"], apart := false, narrowed := true }
def ShaBlocksUptoSaid : Prop := shaBlocksUptoRow.holds Try.pinned (OpenSpec.upto shaBlocksSpec)

/-- 'coreseclaw26.ContextDerives', WHERE WHAT IT READS IS OF BULK AT MOST 1048576: true; the input reads as it did. -/
def contextDerivesUptoRow : OpenClaim := { program := "ytedccmojbmlkcaa", sum := "05ed5d3e56d597335885225c4e9c556437ba9920c636314b483fad9c702375e6", func := "coresec/coreseclaw26.ContextDerives", spec := "contextDerives", inPlace := ["math.sqrt", "math.Float64bits", "math.Float64frombits", "math.archFloor", "math.archTrunc", "math/bits.Add64", "math/bits.Sub64"], recurses := true, apart := false, narrowed := true }
def ContextDerivesUptoSaid : Prop := contextDerivesUptoRow.holds Try.pinned (OpenSpec.upto contextDerivesSpec)

/-- 'coreseclaw26.ContextNonces', WHERE WHAT IT READS IS OF BULK AT MOST 1048576: true; the input reads as it did. -/
def contextNoncesUptoRow : OpenClaim := { program := "ytedccmojbmlkcaa", sum := "05ed5d3e56d597335885225c4e9c556437ba9920c636314b483fad9c702375e6", func := "coresec/coreseclaw26.ContextNonces", spec := "contextNonces", inPlace := ["math.sqrt", "math.Float64bits", "math.Float64frombits", "math.archFloor", "math.archTrunc", "math/bits.Add64", "math/bits.Sub64"], recurses := true, apart := false, narrowed := true }
def ContextNoncesUptoSaid : Prop := contextNoncesUptoRow.holds Try.pinned (OpenSpec.upto contextNoncesSpec)

/-- 'coreseclaw26.ContextNumbers', WHERE WHAT IT READS IS OF BULK AT MOST 1048576: true; the input reads as it did. -/
def contextNumbersUptoRow : OpenClaim := { program := "ytedccmojbmlkcaa", sum := "05ed5d3e56d597335885225c4e9c556437ba9920c636314b483fad9c702375e6", func := "coresec/coreseclaw26.ContextNumbers", spec := "contextNumbers", inPlace := ["math.sqrt", "math.Float64bits", "math.Float64frombits", "math.archFloor", "math.archTrunc", "math/bits.Add64", "math/bits.Sub64"], apart := false, narrowed := true }
def ContextNumbersUptoSaid : Prop := contextNumbersUptoRow.holds Try.pinned (OpenSpec.upto contextNumbersSpec)

/-- 'coreseclaw26.ContextUnique', WHERE WHAT IT READS IS OF BULK AT MOST 1048576: true; the input reads as it did. -/
def contextUniqueUptoRow : OpenClaim := { program := "ytedccmojbmlkcaa", sum := "05ed5d3e56d597335885225c4e9c556437ba9920c636314b483fad9c702375e6", func := "coresec/coreseclaw26.ContextUnique", spec := "contextUnique", apart := false, narrowed := true }
def ContextUniqueUptoSaid : Prop := contextUniqueUptoRow.holds Try.pinned (OpenSpec.upto contextUniqueSpec)

/-- 'coreseclaw38.EchoValues', WHERE WHAT IT READS IS OF BULK AT MOST 1048576: true; the input reads as it did. -/
def echoValuesUptoRow : OpenClaim := { program := "ytedccmojbmlkcaa", sum := "05ed5d3e56d597335885225c4e9c556437ba9920c636314b483fad9c702375e6", func := "coresec/coreseclaw38.EchoValues", spec := "echoValues", inPlace := ["math.sqrt", "math.Float64bits", "math.Float64frombits", "math.archFloor", "math.archTrunc", "math/bits.Add64", "math/bits.Sub64"], apart := false, narrowed := true }
def EchoValuesUptoSaid : Prop := echoValuesUptoRow.holds Try.pinned (OpenSpec.upto echoValuesSpec)

end Rows
end Go.Proofs.Ytedccmojbmlkcaa
