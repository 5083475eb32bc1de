/-
  No cell of these rows narrows 'for every input' (looked for: loops, veiled, ifaces, maps, wideKeys, modest, calm, conditions, laid).
  DERIVED. THE GIVEN ROWS OF THIS SEAT. 3 by the template 'for every input the law returns true; each argument reads behind the call as it read before'; 0 by the template 'total and deterministic' (their statements: YtjefhfgkeeggoaaTotals.lean).
  GIVEN WITH THE SEED: the statements are not yours to turn. If you find one false, say at which input.
  Laid BY PROGRAM, IN A SANDBOX (cutbox-rows.mjs): the forced cells as the released guide's own fill.sh prints them over the translation 93c8ea74cce4df69… (all of the seat's roots in one cut). By AI agents, Wed Nov 11 2026. No macro, syntax, notation, axiom, sorry.
-/
import Derived.Test.YtjefhfgkeeggoaaChecked
import GoSem.Claim
import GoSem.ClaimJoined
import GoSem.ClaimMapViews
import Derived.JoinedTies
import Derived.KernelRfl
namespace Go.Proofs.Ytjefhfgkeeggoaa
/- THE CELL 'sum', in the pinned program and in every row, IS THE sha256 OF THE DUMP (.gsa) THAT YtjefhfgkeeggoaaProg.lean LOADS. Nothing in Lean hashes anything: it is a label: what it is worth is what the hold of that sum in a sandbox is worth. -/
noncomputable def Try.pinned : Pinned := { name := "ytjefhfgkeeggoaa", sum := "93c8ea74cce4df698212f1634b92c6d83ffa33ac41fc34d280a158ff121b2abc", checked := Try.checked }
namespace Rows
def none {H : Type} : Left H := { results := [], args := [] }

/-- 'coreseclaw10.EdwardsMalleable': WHATEVER THE INPUT: true; the input reads as it did. -/
def edwardsMalleableSpec : ChangeSpec := { name := "edwardsMalleable", fn := fun _ => fun
  | [d1, d2] => { results := [.lit (.bool true)], args := [d1, d2] }
  | _ => none }
def edwardsMalleableRow : OpenClaim := { program := "ytjefhfgkeeggoaa", sum := "93c8ea74cce4df698212f1634b92c6d83ffa33ac41fc34d280a158ff121b2abc", func := "coresec/coreseclaw10.EdwardsMalleable", spec := "edwardsMalleable", inPlace := ["math/bits.Sub64", "math/bits.Add64", "math.sqrt", "math.Float64bits", "math.Float64frombits", "math.archFloor", "math.archTrunc", "internal/bytealg.MakeNoZero"], apart := false }
def EdwardsMalleableSaid : Prop := edwardsMalleableRow.holds Try.pinned (OpenSpec.ofChange edwardsMalleableSpec)

/-- ITS FALSE NEIGHBOUR: 'it returns false'. Refute it at one input. -/
def edwardsMalleableWrong : ChangeSpec := { name := "edwardsMalleable", fn := fun _ => fun
  | [d1, d2] => { results := [.lit (.bool false)], args := [d1, d2] }
  | _ => none }
def EdwardsMalleableWrongFalsely : Prop := edwardsMalleableRow.holds Try.pinned (OpenSpec.ofChange edwardsMalleableWrong)

/-- 'coreseclaw10.EdwardsEquation': WHATEVER THE INPUT: true; the input reads as it did. -/
def edwardsEquationSpec : ChangeSpec := { name := "edwardsEquation", fn := fun _ => fun
  | [d1, d2] => { results := [.lit (.bool true)], args := [d1, d2] }
  | _ => none }
def edwardsEquationRow : OpenClaim := { program := "ytjefhfgkeeggoaa", sum := "93c8ea74cce4df698212f1634b92c6d83ffa33ac41fc34d280a158ff121b2abc", func := "coresec/coreseclaw10.EdwardsEquation", spec := "edwardsEquation", inPlace := ["math/bits.Sub64", "math/bits.Add64", "math.sqrt", "math.Float64bits", "math.Float64frombits", "math.archFloor", "math.archTrunc", "internal/bytealg.MakeNoZero"], apart := false }
def EdwardsEquationSaid : Prop := edwardsEquationRow.holds Try.pinned (OpenSpec.ofChange edwardsEquationSpec)

/-- ITS FALSE NEIGHBOUR: 'it returns false'. Refute it at one input. -/
def edwardsEquationWrong : ChangeSpec := { name := "edwardsEquation", fn := fun _ => fun
  | [d1, d2] => { results := [.lit (.bool false)], args := [d1, d2] }
  | _ => none }
def EdwardsEquationWrongFalsely : Prop := edwardsEquationRow.holds Try.pinned (OpenSpec.ofChange edwardsEquationWrong)

/-- 'coreseclaw09.MontgomeryAgrees': WHATEVER THE INPUT: true; the input reads as it did. -/
def montgomeryAgreesSpec : ChangeSpec := { name := "montgomeryAgrees", fn := fun _ => fun
  | [d1, d2] => { results := [.lit (.bool true)], args := [d1, d2] }
  | _ => none }
def montgomeryAgreesRow : OpenClaim := { program := "ytjefhfgkeeggoaa", sum := "93c8ea74cce4df698212f1634b92c6d83ffa33ac41fc34d280a158ff121b2abc", func := "coresec/coreseclaw09.MontgomeryAgrees", spec := "montgomeryAgrees", inPlace := ["math/bits.Add64", "math/bits.Sub64"], apart := false }
def MontgomeryAgreesSaid : Prop := montgomeryAgreesRow.holds Try.pinned (OpenSpec.ofChange montgomeryAgreesSpec)

/-- ITS FALSE NEIGHBOUR: 'it returns false'. Refute it at one input. -/
def montgomeryAgreesWrong : ChangeSpec := { name := "montgomeryAgrees", fn := fun _ => fun
  | [d1, d2] => { results := [.lit (.bool false)], args := [d1, d2] }
  | _ => none }
def MontgomeryAgreesWrongFalsely : Prop := montgomeryAgreesRow.holds Try.pinned (OpenSpec.ofChange montgomeryAgreesWrong)

/- THE SECOND FORM. 'bulk': how many values and letters a reading holds, each counted each time it is reached (what is shared counts as often as it is met; a slice's spare places count too). A statement '..UptoSaid' is the law's where the arguments, and the package variables that the reading takes, are together of bulk at most 1048576: NARROWER than '..Said'. Prove '..Said' where nothing that the law and all that it calls make is longer than what came in: it says more and counts as full. Else prove '..UptoSaid'. A law counts once. -/
mutual
def uptoBulk {H : Type} : DataW H → Nat
  | .lit (.string bytes) => bytes.length + 1
  | .lit _ => 1
  | .nil => 1
  | .ptr d => uptoBulk d + 1
  | .slice elems spare => uptoBulkAll elems + uptoBulkAll spare + 1
  | .agg parts => uptoBulkAll parts + 1
  | .iface _ d => uptoBulk d + 1
  | .map entries => uptoBulkEntries entries + 1
  | .held _ => 1
def uptoBulkAll {H : Type} : List (DataW H) → Nat
  | [] => 0
  | d :: r => uptoBulk d + uptoBulkAll r
def uptoBulkEntries {H : Type} : List (Lit × DataW H) → Nat
  | [] => 0
  | x :: r => uptoBulkEntry x + uptoBulkEntries r
def uptoBulkEntry {H : Type} : Lit × DataW H → Nat
  | (.string bytes, d) => bytes.length + uptoBulk d + 1
  | (_, d) => uptoBulk d + 1
 end
def uptoSmall : (H : Type) → List (DataW H) → Bool := fun _ ds => decide (uptoBulkAll ds ≤ 1048576)
def OpenSpec.upto (s : _root_.Go.ChangeSpec) : _root_.Go.OpenSpec := { _root_.Go.OpenSpec.ofChange s with cond := some uptoSmall }

/-- 'coreseclaw10.EdwardsMalleable', WHERE WHAT IT READS IS OF BULK AT MOST 1048576: true; the input reads as it did. -/
def edwardsMalleableUptoRow : OpenClaim := { program := "ytjefhfgkeeggoaa", sum := "93c8ea74cce4df698212f1634b92c6d83ffa33ac41fc34d280a158ff121b2abc", func := "coresec/coreseclaw10.EdwardsMalleable", spec := "edwardsMalleable", inPlace := ["math/bits.Sub64", "math/bits.Add64", "math.sqrt", "math.Float64bits", "math.Float64frombits", "math.archFloor", "math.archTrunc", "internal/bytealg.MakeNoZero"], apart := false, narrowed := true }
def EdwardsMalleableUptoSaid : Prop := edwardsMalleableUptoRow.holds Try.pinned (OpenSpec.upto edwardsMalleableSpec)

/-- 'coreseclaw10.EdwardsEquation', WHERE WHAT IT READS IS OF BULK AT MOST 1048576: true; the input reads as it did. -/
def edwardsEquationUptoRow : OpenClaim := { program := "ytjefhfgkeeggoaa", sum := "93c8ea74cce4df698212f1634b92c6d83ffa33ac41fc34d280a158ff121b2abc", func := "coresec/coreseclaw10.EdwardsEquation", spec := "edwardsEquation", inPlace := ["math/bits.Sub64", "math/bits.Add64", "math.sqrt", "math.Float64bits", "math.Float64frombits", "math.archFloor", "math.archTrunc", "internal/bytealg.MakeNoZero"], apart := false, narrowed := true }
def EdwardsEquationUptoSaid : Prop := edwardsEquationUptoRow.holds Try.pinned (OpenSpec.upto edwardsEquationSpec)

/-- 'coreseclaw09.MontgomeryAgrees', WHERE WHAT IT READS IS OF BULK AT MOST 1048576: true; the input reads as it did. -/
def montgomeryAgreesUptoRow : OpenClaim := { program := "ytjefhfgkeeggoaa", sum := "93c8ea74cce4df698212f1634b92c6d83ffa33ac41fc34d280a158ff121b2abc", func := "coresec/coreseclaw09.MontgomeryAgrees", spec := "montgomeryAgrees", inPlace := ["math/bits.Add64", "math/bits.Sub64"], apart := false, narrowed := true }
def MontgomeryAgreesUptoSaid : Prop := montgomeryAgreesUptoRow.holds Try.pinned (OpenSpec.upto montgomeryAgreesSpec)

end Rows
end Go.Proofs.Ytjefhfgkeeggoaa
