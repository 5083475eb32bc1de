/- coreseclaw08.FieldReduces gives true. -/
import Derived.Test.YtclpbijalffdkaaB9
namespace Go.Eng.B
open Go Go.Eng Go.Proofs
theorem law4 (a b : List Nat) (i j : Int) : Contract Try.prog 4 [.arr .u8 32 a, .arr .u8 32 b, .i .i64 i, .i .i64 j] (.b true) := by
  obtain ⟨elem, he⟩ := ok8
  refine contract Try.func4 (body := bodyOf Try.f4) rfl (by kernel_rfl) (by kernel_rfl) rfl ?_
  rintro _ w0 S
  refine hold_end mixed he (unroll := true) (f := 700) (sc := [false, false, false, false, false, false]) (r := (Go.Eng.SV.b Bool.true)) (ob := [(Decidable.decide (Go.Eng.vB a < Go.Eng.P255) != Decidable.decide (Go.Eng.vB a < Go.Eng.P255)) = Bool.false, (Go.Eng.dB (Go.Eng.vB a % Go.Eng.P255) != Go.Eng.dB (Go.Eng.vB a % Go.Eng.P255)) = Bool.false, (Decidable.decide (Go.Eng.vB a < Go.Eng.vB b) != Decidable.decide (Go.Eng.vB a < Go.Eng.vB b)) = Bool.false, (Decidable.decide (Go.Eng.vB (elem a i) < Go.Eng.P255) != Decidable.decide (Go.Eng.vB (elem a i) < Go.Eng.P255)) = Bool.false, (Go.Eng.dB (Go.Eng.vB (elem a i) % Go.Eng.P255) != Go.Eng.dB (Go.Eng.vB (elem a i) % Go.Eng.P255)) = Bool.false, (Decidable.decide (Go.Eng.vB (elem a i) < Go.Eng.vB (elem b j)) != Decidable.decide (Go.Eng.vB (elem a i) < Go.Eng.vB (elem b j))) = Bool.false]) (sc' := []) (by kernel_rfl) ?_ rfl
  refine ⟨?_, ?_, ?_, ?_, ?_, ?_, trivial⟩ <;> simp
end Go.Eng.B
