/-
  No cell of these rows narrows 'for every input' (looked for: loops, veiled, ifaces, maps, wideKeys, modest, calm, conditions, laid).
  DERIVED. THE GIVEN ROWS OF THIS SEAT. 5 by the template 'for every input the law returns true; each argument reads behind the call as it read before'; 0 by the template 'total and deterministic' (their statements: YtlcjoglbppfnhaaTotals.lean).
  GIVEN WITH THE SEED: the statements are not yours to turn. If you find one false, say at which input.
  Laid BY PROGRAM, IN A SANDBOX (cutbox-rows.mjs): the forced cells as the released guide's own fill.sh prints them over the translation 0a117703c3058f5f… (all of the seat's roots in one cut). By AI agents, Wed Nov 11 2026. No macro, syntax, notation, axiom, sorry.
-/
import Derived.Test.YtlcjoglbppfnhaaChecked
import GoSem.Claim
import GoSem.ClaimJoined
import GoSem.ClaimMapViews
import Derived.JoinedTies
import Derived.KernelRfl
namespace Go.Proofs.Ytlcjoglbppfnhaa
/- THE CELL 'sum', in the pinned program and in every row, IS THE sha256 OF THE DUMP (.gsa) THAT YtlcjoglbppfnhaaProg.lean LOADS. Nothing in Lean hashes anything: it is a label: what it is worth is what the hold of that sum in a sandbox is worth. -/
noncomputable def Try.pinned : Pinned := { name := "ytlcjoglbppfnhaa", sum := "0a117703c3058f5ffa1b56d791a2a0601cc3a5fd7c96c54c70a4f67f2fc2e82a", checked := Try.checked }
namespace Rows
def none {H : Type} : Left H := { results := [], args := [] }

/-- 'coreseclaw22.SuiteLists': WHATEVER THE INPUT: true; the input reads as it did. -/
def suiteListsSpec : ChangeSpec := { name := "suiteLists", fn := fun _ => fun
  | [d1, d2, d3, d4] => { results := [.lit (.bool true)], args := [d1, d2, d3, d4] }
  | _ => none }
def suiteListsRow : OpenClaim := { program := "ytlcjoglbppfnhaa", sum := "0a117703c3058f5ffa1b56d791a2a0601cc3a5fd7c96c54c70a4f67f2fc2e82a", func := "coresec/coreseclaw22.SuiteLists", spec := "suiteLists", apart := false }
def SuiteListsSaid : Prop := suiteListsRow.holds Try.pinned (OpenSpec.ofChange suiteListsSpec)

/-- ITS FALSE NEIGHBOUR: 'it returns false'. Refute it at one input. -/
def suiteListsWrong : ChangeSpec := { name := "suiteLists", fn := fun _ => fun
  | [d1, d2, d3, d4] => { results := [.lit (.bool false)], args := [d1, d2, d3, d4] }
  | _ => none }
def SuiteListsWrongFalsely : Prop := suiteListsRow.holds Try.pinned (OpenSpec.ofChange suiteListsWrong)

/-- 'coreseclaw22.SuiteAgrees': WHATEVER THE INPUT: true; the input reads as it did. -/
def suiteAgreesSpec : ChangeSpec := { name := "suiteAgrees", fn := fun _ => fun
  | [d1, d2] => { results := [.lit (.bool true)], args := [d1, d2] }
  | _ => none }
def suiteAgreesRow : OpenClaim := { program := "ytlcjoglbppfnhaa", sum := "0a117703c3058f5ffa1b56d791a2a0601cc3a5fd7c96c54c70a4f67f2fc2e82a", func := "coresec/coreseclaw22.SuiteAgrees", spec := "suiteAgrees", apart := false }
def SuiteAgreesSaid : Prop := suiteAgreesRow.holds Try.pinned (OpenSpec.ofChange suiteAgreesSpec)

/-- ITS FALSE NEIGHBOUR: 'it returns false'. Refute it at one input. -/
def suiteAgreesWrong : ChangeSpec := { name := "suiteAgrees", fn := fun _ => fun
  | [d1, d2] => { results := [.lit (.bool false)], args := [d1, d2] }
  | _ => none }
def SuiteAgreesWrongFalsely : Prop := suiteAgreesRow.holds Try.pinned (OpenSpec.ofChange suiteAgreesWrong)

/-- 'coreseclaw22.SuiteFewer': WHATEVER THE INPUT: true; the input reads as it did. -/
def suiteFewerSpec : ChangeSpec := { name := "suiteFewer", fn := fun _ => fun
  | [d1, d2, d3] => { results := [.lit (.bool true)], args := [d1, d2, d3] }
  | _ => none }
def suiteFewerRow : OpenClaim := { program := "ytlcjoglbppfnhaa", sum := "0a117703c3058f5ffa1b56d791a2a0601cc3a5fd7c96c54c70a4f67f2fc2e82a", func := "coresec/coreseclaw22.SuiteFewer", spec := "suiteFewer", apart := false }
def SuiteFewerSaid : Prop := suiteFewerRow.holds Try.pinned (OpenSpec.ofChange suiteFewerSpec)

/-- ITS FALSE NEIGHBOUR: 'it returns false'. Refute it at one input. -/
def suiteFewerWrong : ChangeSpec := { name := "suiteFewer", fn := fun _ => fun
  | [d1, d2, d3] => { results := [.lit (.bool false)], args := [d1, d2, d3] }
  | _ => none }
def SuiteFewerWrongFalsely : Prop := suiteFewerRow.holds Try.pinned (OpenSpec.ofChange suiteFewerWrong)

/-- 'coreseclaw22.SuiteInfo': WHATEVER THE INPUT: true; the input reads as it did. -/
def suiteInfoSpec : ChangeSpec := { name := "suiteInfo", fn := fun _ => fun
  | [d] => { results := [.lit (.bool true)], args := [d] }
  | _ => none }
def suiteInfoRow : OpenClaim := { program := "ytlcjoglbppfnhaa", sum := "0a117703c3058f5ffa1b56d791a2a0601cc3a5fd7c96c54c70a4f67f2fc2e82a", func := "coresec/coreseclaw22.SuiteInfo", spec := "suiteInfo", apart := false }
def SuiteInfoSaid : Prop := suiteInfoRow.holds Try.pinned (OpenSpec.ofChange suiteInfoSpec)

/-- ITS FALSE NEIGHBOUR: 'it returns false'. Refute it at one input. -/
def suiteInfoWrong : ChangeSpec := { name := "suiteInfo", fn := fun _ => fun
  | [d] => { results := [.lit (.bool false)], args := [d] }
  | _ => none }
def SuiteInfoWrongFalsely : Prop := suiteInfoRow.holds Try.pinned (OpenSpec.ofChange suiteInfoWrong)

/-- 'coreseclaw26.ContextUnique': WHATEVER THE INPUT: true; the input reads as it did. -/
def contextUniqueSpec : ChangeSpec := { name := "contextUnique", fn := fun _ => fun
  | [d1, d2] => { results := [.lit (.bool true)], args := [d1, d2] }
  | _ => none }
def contextUniqueRow : OpenClaim := { program := "ytlcjoglbppfnhaa", sum := "0a117703c3058f5ffa1b56d791a2a0601cc3a5fd7c96c54c70a4f67f2fc2e82a", func := "coresec/coreseclaw26.ContextUnique", spec := "contextUnique", apart := false }
def ContextUniqueSaid : Prop := contextUniqueRow.holds Try.pinned (OpenSpec.ofChange contextUniqueSpec)

/-- ITS FALSE NEIGHBOUR: 'it returns false'. Refute it at one input. -/
def contextUniqueWrong : ChangeSpec := { name := "contextUnique", fn := fun _ => fun
  | [d1, d2] => { results := [.lit (.bool false)], args := [d1, d2] }
  | _ => none }
def ContextUniqueWrongFalsely : Prop := contextUniqueRow.holds Try.pinned (OpenSpec.ofChange contextUniqueWrong)

/- THE SECOND FORM. 'bulk': how many values and letters a reading holds, each counted each time it is reached (what is shared counts as often as it is met; a slice's spare places count too). A statement '..UptoSaid' is the law's where the arguments, and the package variables that the reading takes, are together of bulk at most 1048576: NARROWER than '..Said'. Prove '..Said' where nothing that the law and all that it calls make is longer than what came in: it says more and counts as full. Else prove '..UptoSaid'. A law counts once. -/
mutual
def uptoBulk {H : Type} : DataW H → Nat
  | .lit (.string bytes) => bytes.length + 1
  | .lit _ => 1
  | .nil => 1
  | .ptr d => uptoBulk d + 1
  | .slice elems spare => uptoBulkAll elems + uptoBulkAll spare + 1
  | .agg parts => uptoBulkAll parts + 1
  | .iface _ d => uptoBulk d + 1
  | .map entries => uptoBulkEntries entries + 1
  | .held _ => 1
def uptoBulkAll {H : Type} : List (DataW H) → Nat
  | [] => 0
  | d :: r => uptoBulk d + uptoBulkAll r
def uptoBulkEntries {H : Type} : List (Lit × DataW H) → Nat
  | [] => 0
  | x :: r => uptoBulkEntry x + uptoBulkEntries r
def uptoBulkEntry {H : Type} : Lit × DataW H → Nat
  | (.string bytes, d) => bytes.length + uptoBulk d + 1
  | (_, d) => uptoBulk d + 1
 end
def uptoSmall : (H : Type) → List (DataW H) → Bool := fun _ ds => decide (uptoBulkAll ds ≤ 1048576)
def OpenSpec.upto (s : _root_.Go.ChangeSpec) : _root_.Go.OpenSpec := { _root_.Go.OpenSpec.ofChange s with cond := some uptoSmall }

/-- 'coreseclaw22.SuiteLists', WHERE WHAT IT READS IS OF BULK AT MOST 1048576: true; the input reads as it did. -/
def suiteListsUptoRow : OpenClaim := { program := "ytlcjoglbppfnhaa", sum := "0a117703c3058f5ffa1b56d791a2a0601cc3a5fd7c96c54c70a4f67f2fc2e82a", func := "coresec/coreseclaw22.SuiteLists", spec := "suiteLists", apart := false, narrowed := true }
def SuiteListsUptoSaid : Prop := suiteListsUptoRow.holds Try.pinned (OpenSpec.upto suiteListsSpec)

/-- 'coreseclaw22.SuiteAgrees', WHERE WHAT IT READS IS OF BULK AT MOST 1048576: true; the input reads as it did. -/
def suiteAgreesUptoRow : OpenClaim := { program := "ytlcjoglbppfnhaa", sum := "0a117703c3058f5ffa1b56d791a2a0601cc3a5fd7c96c54c70a4f67f2fc2e82a", func := "coresec/coreseclaw22.SuiteAgrees", spec := "suiteAgrees", apart := false, narrowed := true }
def SuiteAgreesUptoSaid : Prop := suiteAgreesUptoRow.holds Try.pinned (OpenSpec.upto suiteAgreesSpec)

/-- 'coreseclaw22.SuiteFewer', WHERE WHAT IT READS IS OF BULK AT MOST 1048576: true; the input reads as it did. -/
def suiteFewerUptoRow : OpenClaim := { program := "ytlcjoglbppfnhaa", sum := "0a117703c3058f5ffa1b56d791a2a0601cc3a5fd7c96c54c70a4f67f2fc2e82a", func := "coresec/coreseclaw22.SuiteFewer", spec := "suiteFewer", apart := false, narrowed := true }
def SuiteFewerUptoSaid : Prop := suiteFewerUptoRow.holds Try.pinned (OpenSpec.upto suiteFewerSpec)

/-- 'coreseclaw22.SuiteInfo', WHERE WHAT IT READS IS OF BULK AT MOST 1048576: true; the input reads as it did. -/
def suiteInfoUptoRow : OpenClaim := { program := "ytlcjoglbppfnhaa", sum := "0a117703c3058f5ffa1b56d791a2a0601cc3a5fd7c96c54c70a4f67f2fc2e82a", func := "coresec/coreseclaw22.SuiteInfo", spec := "suiteInfo", apart := false, narrowed := true }
def SuiteInfoUptoSaid : Prop := suiteInfoUptoRow.holds Try.pinned (OpenSpec.upto suiteInfoSpec)

/-- 'coreseclaw26.ContextUnique', WHERE WHAT IT READS IS OF BULK AT MOST 1048576: true; the input reads as it did. -/
def contextUniqueUptoRow : OpenClaim := { program := "ytlcjoglbppfnhaa", sum := "0a117703c3058f5ffa1b56d791a2a0601cc3a5fd7c96c54c70a4f67f2fc2e82a", func := "coresec/coreseclaw26.ContextUnique", spec := "contextUnique", apart := false, narrowed := true }
def ContextUniqueUptoSaid : Prop := contextUniqueUptoRow.holds Try.pinned (OpenSpec.upto contextUniqueSpec)

end Rows
end Go.Proofs.Ytlcjoglbppfnhaa
