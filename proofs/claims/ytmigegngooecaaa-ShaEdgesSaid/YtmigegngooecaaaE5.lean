import Derived.Test.YtmigegngooecaaaE4
import Derived.WideShapes
import Derived.OpenShut
import Derived.ChangeSlices
import Derived.RowKit
import Derived.Test.YtmigegngooecaaaRows
import Derived.ProofKit
import Derived.JoinedOf
import Derived.KernelRfl
set_option linter.unusedVariables false
set_option linter.unusedSimpArgs false
set_option linter.unusedSectionVars false
/- ShaSums and ShaBlocks give true. -/
namespace Go.Eng.B
open Go Go.Eng Go.Proofs
set_option maxRecDepth 100000
set_option linter.unusedSimpArgs false
theorem ShaSums_c (b : List Nat) : Contract Try.prog 9 [.sl .u8 b] (.b true) := by
  refine contract Try.func9 (body := bodyOf Try.f9) rfl (by kernel_rfl) (by kernel_rfl) rfl ?_
  intro _ w0 S
  obtain ⟨g, hg⟩ : ∃ g, g = sum32 := ⟨_, rfl⟩
  obtain ⟨h, hh⟩ : ∃ h, h = sum64 := ⟨_, rfl⟩
  rcases Bool.eq_false_or_eq_true (Decidable.decide ((2000 : Nat) < b.length)) with hc0 | hc0
  · have hd0 := of_decide_eq_true hc0
    refine hold_endw mixed (okSW hg hh) (unroll := true) (f := 200) (sc := [true]) (r := (Go.Eng.SV.cb Bool.true)) (ob := [Decidable.decide ((2000 : Nat) < b.length) = Bool.true]) (sc' := []) (by kernel_rfl) ?_ ?_
    · exact ⟨hc0, trivial⟩
    · first | (simp [wkR, wk, wk0]; done) | (exfalso; simp_all; done)
  · have hd0 := of_decide_eq_false hc0
    rcases Bool.eq_false_or_eq_true (g b == g b) with hc1 | hc1
    · rcases Bool.eq_false_or_eq_true (h b == h b) with hc2 | hc2
      · refine hold_endw mixed (okSW hg hh) (unroll := true) (f := 200) (sc := [false, true, true]) (r := (Go.Eng.SV.cb Bool.true)) (ob := [Decidable.decide ((2000 : Nat) < b.length) = Bool.false, b.length ≤ (1000000 : Nat), b.length ≤ (1000000 : Nat), (g b == g b) = Bool.true, b.length ≤ (1000000 : Nat), b.length ≤ (1000000 : Nat), (h b == h b) = Bool.true]) (sc' := []) (by kernel_rfl) ?_ ?_
        · exact ⟨hc0, (by first | trivial | omega | decide), (by first | trivial | omega | decide), hc1, (by first | trivial | omega | decide), (by first | trivial | omega | decide), hc2, trivial⟩
        · first | (simp [wkR, wk, wk0]; done) | (exfalso; simp_all; done)
      · refine hold_endw mixed (okSW hg hh) (unroll := true) (f := 200) (sc := [false, true, false]) (r := (Go.Eng.SV.cb Bool.false)) (ob := [Decidable.decide ((2000 : Nat) < b.length) = Bool.false, b.length ≤ (1000000 : Nat), b.length ≤ (1000000 : Nat), (g b == g b) = Bool.true, b.length ≤ (1000000 : Nat), b.length ≤ (1000000 : Nat), (h b == h b) = Bool.false]) (sc' := []) (by kernel_rfl) ?_ ?_
        · exact ⟨hc0, (by first | trivial | omega | decide), (by first | trivial | omega | decide), hc1, (by first | trivial | omega | decide), (by first | trivial | omega | decide), hc2, trivial⟩
        · first | (simp [wkR, wk, wk0]; done) | (exfalso; simp_all; done)
    · refine hold_endw mixed (okSW hg hh) (unroll := true) (f := 200) (sc := [false, false]) (r := (Go.Eng.SV.cb Bool.false)) (ob := [Decidable.decide ((2000 : Nat) < b.length) = Bool.false, b.length ≤ (1000000 : Nat), b.length ≤ (1000000 : Nat), (g b == g b) = Bool.false]) (sc' := []) (by kernel_rfl) ?_ ?_
      · exact ⟨hc0, (by first | trivial | omega | decide), (by first | trivial | omega | decide), hc1, trivial⟩
      · first | (simp [wkR, wk, wk0]; done) | (exfalso; simp_all; done)
theorem ShaBlocks_c (n : Int) : Contract Try.prog 14 [.i .i64 n] (.b true) := by
  refine contract Try.func14 (body := bodyOf Try.f14) rfl (by kernel_rfl) (by kernel_rfl) rfl ?_
  intro _ w0 S
  obtain ⟨g, hg⟩ : ∃ g, g = sum32 := ⟨_, rfl⟩
  obtain ⟨h, hh⟩ : ∃ h, h = sum64 := ⟨_, rfl⟩
  have hm0 := Int.emod_nonneg n (show (1099511627776 : Int) ≠ 0 by omega)
  have hm1 := Int.emod_lt_of_pos n (show (0 : Int) < 1099511627776 by omega)
  rcases Bool.eq_false_or_eq_true (Decidable.decide ((1099511627776 : Int) < n)) with hc0 | hc0
  · have hd0 := of_decide_eq_true hc0
    rcases Bool.eq_false_or_eq_true (Go.Eng.B.bl256 (↑(n % (1099511627776 : Int)).toNat : Int) == Go.Eng.B.bl256 (↑(n % (1099511627776 : Int)).toNat : Int)) with hc1 | hc1
    · rcases Bool.eq_false_or_eq_true (Go.Eng.B.bl512 (↑(n % (1099511627776 : Int)).toNat : Int) == Go.Eng.B.bl512 (↑(n % (1099511627776 : Int)).toNat : Int)) with hc2 | hc2
      · rcases Bool.eq_false_or_eq_true (Go.Eng.B.bl256 (↑(n % (1099511627776 : Int)).toNat : Int) == Go.Eng.B.bl256 (↑(n % (1099511627776 : Int)).toNat : Int)) with hc3 | hc3
        · rcases Bool.eq_false_or_eq_true (Go.Eng.B.bl512 (↑((n % (1099511627776 : Int)).toNat % (1000 : Nat)) : Int) == Go.Eng.B.bl512 (↑((n % (1099511627776 : Int)).toNat % (1000 : Nat)) : Int)) with hc4 | hc4
          · refine hold_endw mixed (okSW hg hh) (unroll := true) (f := 200) (sc := [true, true, true, true, true]) (r := (Go.Eng.SV.cb Bool.true)) (ob := [(0 : Int) < (1099511627776 : Int), Decidable.decide ((1099511627776 : Int) < n) = Bool.true, (↑(n % (1099511627776 : Int)).toNat : Int) ≤ (1125899906842624 : Int), (↑(n % (1099511627776 : Int)).toNat : Int) ≤ (1125899906842624 : Int), (Go.Eng.B.bl256 (↑(n % (1099511627776 : Int)).toNat : Int) == Go.Eng.B.bl256 (↑(n % (1099511627776 : Int)).toNat : Int)) = Bool.true, (↑(n % (1099511627776 : Int)).toNat : Int) ≤ (1125899906842624 : Int), (↑(n % (1099511627776 : Int)).toNat : Int) ≤ (1125899906842624 : Int), (Go.Eng.B.bl512 (↑(n % (1099511627776 : Int)).toNat : Int) == Go.Eng.B.bl512 (↑(n % (1099511627776 : Int)).toNat : Int)) = Bool.true, (↑(n % (1099511627776 : Int)).toNat : Int) ≤ (1125899906842624 : Int), (↑(n % (1099511627776 : Int)).toNat : Int) ≤ (1125899906842624 : Int), (Go.Eng.B.bl256 (↑(n % (1099511627776 : Int)).toNat : Int) == Go.Eng.B.bl256 (↑(n % (1099511627776 : Int)).toNat : Int)) = Bool.true, (↑((n % (1099511627776 : Int)).toNat % (1000 : Nat)) : Int) ≤ (1125899906842624 : Int), (↑((n % (1099511627776 : Int)).toNat % (1000 : Nat)) : Int) ≤ (1125899906842624 : Int), (Go.Eng.B.bl512 (↑((n % (1099511627776 : Int)).toNat % (1000 : Nat)) : Int) == Go.Eng.B.bl512 (↑((n % (1099511627776 : Int)).toNat % (1000 : Nat)) : Int)) = Bool.true]) (sc' := []) (by kernel_rfl) ?_ ?_
            · exact ⟨(by first | trivial | omega | decide), hc0, (by first | trivial | omega | decide), (by first | trivial | omega | decide), hc1, (by first | trivial | omega | decide), (by first | trivial | omega | decide), hc2, (by first | trivial | omega | decide), (by first | trivial | omega | decide), hc3, (by first | trivial | omega | decide), (by first | trivial | omega | decide), hc4, trivial⟩
            · first | (simp [wkR, wk, wk0]; done) | (exfalso; simp_all; done)
          · refine hold_endw mixed (okSW hg hh) (unroll := true) (f := 200) (sc := [true, true, true, true, false]) (r := (Go.Eng.SV.cb Bool.false)) (ob := [(0 : Int) < (1099511627776 : Int), Decidable.decide ((1099511627776 : Int) < n) = Bool.true, (↑(n % (1099511627776 : Int)).toNat : Int) ≤ (1125899906842624 : Int), (↑(n % (1099511627776 : Int)).toNat : Int) ≤ (1125899906842624 : Int), (Go.Eng.B.bl256 (↑(n % (1099511627776 : Int)).toNat : Int) == Go.Eng.B.bl256 (↑(n % (1099511627776 : Int)).toNat : Int)) = Bool.true, (↑(n % (1099511627776 : Int)).toNat : Int) ≤ (1125899906842624 : Int), (↑(n % (1099511627776 : Int)).toNat : Int) ≤ (1125899906842624 : Int), (Go.Eng.B.bl512 (↑(n % (1099511627776 : Int)).toNat : Int) == Go.Eng.B.bl512 (↑(n % (1099511627776 : Int)).toNat : Int)) = Bool.true, (↑(n % (1099511627776 : Int)).toNat : Int) ≤ (1125899906842624 : Int), (↑(n % (1099511627776 : Int)).toNat : Int) ≤ (1125899906842624 : Int), (Go.Eng.B.bl256 (↑(n % (1099511627776 : Int)).toNat : Int) == Go.Eng.B.bl256 (↑(n % (1099511627776 : Int)).toNat : Int)) = Bool.true, (↑((n % (1099511627776 : Int)).toNat % (1000 : Nat)) : Int) ≤ (1125899906842624 : Int), (↑((n % (1099511627776 : Int)).toNat % (1000 : Nat)) : Int) ≤ (1125899906842624 : Int), (Go.Eng.B.bl512 (↑((n % (1099511627776 : Int)).toNat % (1000 : Nat)) : Int) == Go.Eng.B.bl512 (↑((n % (1099511627776 : Int)).toNat % (1000 : Nat)) : Int)) = Bool.false]) (sc' := []) (by kernel_rfl) ?_ ?_
            · exact ⟨(by first | trivial | omega | decide), hc0, (by first | trivial | omega | decide), (by first | trivial | omega | decide), hc1, (by first | trivial | omega | decide), (by first | trivial | omega | decide), hc2, (by first | trivial | omega | decide), (by first | trivial | omega | decide), hc3, (by first | trivial | omega | decide), (by first | trivial | omega | decide), hc4, trivial⟩
            · first | (simp [wkR, wk, wk0]; done) | (exfalso; simp_all; done)
        · refine hold_endw mixed (okSW hg hh) (unroll := true) (f := 200) (sc := [true, true, true, false]) (r := (Go.Eng.SV.cb Bool.false)) (ob := [(0 : Int) < (1099511627776 : Int), Decidable.decide ((1099511627776 : Int) < n) = Bool.true, (↑(n % (1099511627776 : Int)).toNat : Int) ≤ (1125899906842624 : Int), (↑(n % (1099511627776 : Int)).toNat : Int) ≤ (1125899906842624 : Int), (Go.Eng.B.bl256 (↑(n % (1099511627776 : Int)).toNat : Int) == Go.Eng.B.bl256 (↑(n % (1099511627776 : Int)).toNat : Int)) = Bool.true, (↑(n % (1099511627776 : Int)).toNat : Int) ≤ (1125899906842624 : Int), (↑(n % (1099511627776 : Int)).toNat : Int) ≤ (1125899906842624 : Int), (Go.Eng.B.bl512 (↑(n % (1099511627776 : Int)).toNat : Int) == Go.Eng.B.bl512 (↑(n % (1099511627776 : Int)).toNat : Int)) = Bool.true, (↑(n % (1099511627776 : Int)).toNat : Int) ≤ (1125899906842624 : Int), (↑(n % (1099511627776 : Int)).toNat : Int) ≤ (1125899906842624 : Int), (Go.Eng.B.bl256 (↑(n % (1099511627776 : Int)).toNat : Int) == Go.Eng.B.bl256 (↑(n % (1099511627776 : Int)).toNat : Int)) = Bool.false]) (sc' := []) (by kernel_rfl) ?_ ?_
          · exact ⟨(by first | trivial | omega | decide), hc0, (by first | trivial | omega | decide), (by first | trivial | omega | decide), hc1, (by first | trivial | omega | decide), (by first | trivial | omega | decide), hc2, (by first | trivial | omega | decide), (by first | trivial | omega | decide), hc3, trivial⟩
          · first | (simp [wkR, wk, wk0]; done) | (exfalso; simp_all; done)
      · refine hold_endw mixed (okSW hg hh) (unroll := true) (f := 200) (sc := [true, true, false]) (r := (Go.Eng.SV.cb Bool.false)) (ob := [(0 : Int) < (1099511627776 : Int), Decidable.decide ((1099511627776 : Int) < n) = Bool.true, (↑(n % (1099511627776 : Int)).toNat : Int) ≤ (1125899906842624 : Int), (↑(n % (1099511627776 : Int)).toNat : Int) ≤ (1125899906842624 : Int), (Go.Eng.B.bl256 (↑(n % (1099511627776 : Int)).toNat : Int) == Go.Eng.B.bl256 (↑(n % (1099511627776 : Int)).toNat : Int)) = Bool.true, (↑(n % (1099511627776 : Int)).toNat : Int) ≤ (1125899906842624 : Int), (↑(n % (1099511627776 : Int)).toNat : Int) ≤ (1125899906842624 : Int), (Go.Eng.B.bl512 (↑(n % (1099511627776 : Int)).toNat : Int) == Go.Eng.B.bl512 (↑(n % (1099511627776 : Int)).toNat : Int)) = Bool.false]) (sc' := []) (by kernel_rfl) ?_ ?_
        · exact ⟨(by first | trivial | omega | decide), hc0, (by first | trivial | omega | decide), (by first | trivial | omega | decide), hc1, (by first | trivial | omega | decide), (by first | trivial | omega | decide), hc2, trivial⟩
        · first | (simp [wkR, wk, wk0]; done) | (exfalso; simp_all; done)
    · refine hold_endw mixed (okSW hg hh) (unroll := true) (f := 200) (sc := [true, false]) (r := (Go.Eng.SV.cb Bool.false)) (ob := [(0 : Int) < (1099511627776 : Int), Decidable.decide ((1099511627776 : Int) < n) = Bool.true, (↑(n % (1099511627776 : Int)).toNat : Int) ≤ (1125899906842624 : Int), (↑(n % (1099511627776 : Int)).toNat : Int) ≤ (1125899906842624 : Int), (Go.Eng.B.bl256 (↑(n % (1099511627776 : Int)).toNat : Int) == Go.Eng.B.bl256 (↑(n % (1099511627776 : Int)).toNat : Int)) = Bool.false]) (sc' := []) (by kernel_rfl) ?_ ?_
      · exact ⟨(by first | trivial | omega | decide), hc0, (by first | trivial | omega | decide), (by first | trivial | omega | decide), hc1, trivial⟩
      · first | (simp [wkR, wk, wk0]; done) | (exfalso; simp_all; done)
  · have hd0 := of_decide_eq_false hc0
    rcases Bool.eq_false_or_eq_true (Go.Eng.B.bl256 n == Go.Eng.B.bl256 n) with hc1 | hc1
    · rcases Bool.eq_false_or_eq_true (Go.Eng.B.bl512 n == Go.Eng.B.bl512 n) with hc2 | hc2
      · rcases Bool.eq_false_or_eq_true (Go.Eng.B.bl256 (↑(n % (1099511627776 : Int)).toNat : Int) == Go.Eng.B.bl256 (↑(n % (1099511627776 : Int)).toNat : Int)) with hc3 | hc3
        · rcases Bool.eq_false_or_eq_true (Go.Eng.B.bl512 (↑((n % (1099511627776 : Int)).toNat % (1000 : Nat)) : Int) == Go.Eng.B.bl512 (↑((n % (1099511627776 : Int)).toNat % (1000 : Nat)) : Int)) with hc4 | hc4
          · refine hold_endw mixed (okSW hg hh) (unroll := true) (f := 200) (sc := [false, true, true, true, true]) (r := (Go.Eng.SV.cb Bool.true)) (ob := [(0 : Int) < (1099511627776 : Int), Decidable.decide ((1099511627776 : Int) < n) = Bool.false, n ≤ (1125899906842624 : Int), n ≤ (1125899906842624 : Int), (Go.Eng.B.bl256 n == Go.Eng.B.bl256 n) = Bool.true, n ≤ (1125899906842624 : Int), n ≤ (1125899906842624 : Int), (Go.Eng.B.bl512 n == Go.Eng.B.bl512 n) = Bool.true, (↑(n % (1099511627776 : Int)).toNat : Int) ≤ (1125899906842624 : Int), (↑(n % (1099511627776 : Int)).toNat : Int) ≤ (1125899906842624 : Int), (Go.Eng.B.bl256 (↑(n % (1099511627776 : Int)).toNat : Int) == Go.Eng.B.bl256 (↑(n % (1099511627776 : Int)).toNat : Int)) = Bool.true, (↑((n % (1099511627776 : Int)).toNat % (1000 : Nat)) : Int) ≤ (1125899906842624 : Int), (↑((n % (1099511627776 : Int)).toNat % (1000 : Nat)) : Int) ≤ (1125899906842624 : Int), (Go.Eng.B.bl512 (↑((n % (1099511627776 : Int)).toNat % (1000 : Nat)) : Int) == Go.Eng.B.bl512 (↑((n % (1099511627776 : Int)).toNat % (1000 : Nat)) : Int)) = Bool.true]) (sc' := []) (by kernel_rfl) ?_ ?_
            · exact ⟨(by first | trivial | omega | decide), hc0, (by first | trivial | omega | decide), (by first | trivial | omega | decide), hc1, (by first | trivial | omega | decide), (by first | trivial | omega | decide), hc2, (by first | trivial | omega | decide), (by first | trivial | omega | decide), hc3, (by first | trivial | omega | decide), (by first | trivial | omega | decide), hc4, trivial⟩
            · first | (simp [wkR, wk, wk0]; done) | (exfalso; simp_all; done)
          · refine hold_endw mixed (okSW hg hh) (unroll := true) (f := 200) (sc := [false, true, true, true, false]) (r := (Go.Eng.SV.cb Bool.false)) (ob := [(0 : Int) < (1099511627776 : Int), Decidable.decide ((1099511627776 : Int) < n) = Bool.false, n ≤ (1125899906842624 : Int), n ≤ (1125899906842624 : Int), (Go.Eng.B.bl256 n == Go.Eng.B.bl256 n) = Bool.true, n ≤ (1125899906842624 : Int), n ≤ (1125899906842624 : Int), (Go.Eng.B.bl512 n == Go.Eng.B.bl512 n) = Bool.true, (↑(n % (1099511627776 : Int)).toNat : Int) ≤ (1125899906842624 : Int), (↑(n % (1099511627776 : Int)).toNat : Int) ≤ (1125899906842624 : Int), (Go.Eng.B.bl256 (↑(n % (1099511627776 : Int)).toNat : Int) == Go.Eng.B.bl256 (↑(n % (1099511627776 : Int)).toNat : Int)) = Bool.true, (↑((n % (1099511627776 : Int)).toNat % (1000 : Nat)) : Int) ≤ (1125899906842624 : Int), (↑((n % (1099511627776 : Int)).toNat % (1000 : Nat)) : Int) ≤ (1125899906842624 : Int), (Go.Eng.B.bl512 (↑((n % (1099511627776 : Int)).toNat % (1000 : Nat)) : Int) == Go.Eng.B.bl512 (↑((n % (1099511627776 : Int)).toNat % (1000 : Nat)) : Int)) = Bool.false]) (sc' := []) (by kernel_rfl) ?_ ?_
            · exact ⟨(by first | trivial | omega | decide), hc0, (by first | trivial | omega | decide), (by first | trivial | omega | decide), hc1, (by first | trivial | omega | decide), (by first | trivial | omega | decide), hc2, (by first | trivial | omega | decide), (by first | trivial | omega | decide), hc3, (by first | trivial | omega | decide), (by first | trivial | omega | decide), hc4, trivial⟩
            · first | (simp [wkR, wk, wk0]; done) | (exfalso; simp_all; done)
        · refine hold_endw mixed (okSW hg hh) (unroll := true) (f := 200) (sc := [false, true, true, false]) (r := (Go.Eng.SV.cb Bool.false)) (ob := [(0 : Int) < (1099511627776 : Int), Decidable.decide ((1099511627776 : Int) < n) = Bool.false, n ≤ (1125899906842624 : Int), n ≤ (1125899906842624 : Int), (Go.Eng.B.bl256 n == Go.Eng.B.bl256 n) = Bool.true, n ≤ (1125899906842624 : Int), n ≤ (1125899906842624 : Int), (Go.Eng.B.bl512 n == Go.Eng.B.bl512 n) = Bool.true, (↑(n % (1099511627776 : Int)).toNat : Int) ≤ (1125899906842624 : Int), (↑(n % (1099511627776 : Int)).toNat : Int) ≤ (1125899906842624 : Int), (Go.Eng.B.bl256 (↑(n % (1099511627776 : Int)).toNat : Int) == Go.Eng.B.bl256 (↑(n % (1099511627776 : Int)).toNat : Int)) = Bool.false]) (sc' := []) (by kernel_rfl) ?_ ?_
          · exact ⟨(by first | trivial | omega | decide), hc0, (by first | trivial | omega | decide), (by first | trivial | omega | decide), hc1, (by first | trivial | omega | decide), (by first | trivial | omega | decide), hc2, (by first | trivial | omega | decide), (by first | trivial | omega | decide), hc3, trivial⟩
          · first | (simp [wkR, wk, wk0]; done) | (exfalso; simp_all; done)
      · refine hold_endw mixed (okSW hg hh) (unroll := true) (f := 200) (sc := [false, true, false]) (r := (Go.Eng.SV.cb Bool.false)) (ob := [(0 : Int) < (1099511627776 : Int), Decidable.decide ((1099511627776 : Int) < n) = Bool.false, n ≤ (1125899906842624 : Int), n ≤ (1125899906842624 : Int), (Go.Eng.B.bl256 n == Go.Eng.B.bl256 n) = Bool.true, n ≤ (1125899906842624 : Int), n ≤ (1125899906842624 : Int), (Go.Eng.B.bl512 n == Go.Eng.B.bl512 n) = Bool.false]) (sc' := []) (by kernel_rfl) ?_ ?_
        · exact ⟨(by first | trivial | omega | decide), hc0, (by first | trivial | omega | decide), (by first | trivial | omega | decide), hc1, (by first | trivial | omega | decide), (by first | trivial | omega | decide), hc2, trivial⟩
        · first | (simp [wkR, wk, wk0]; done) | (exfalso; simp_all; done)
    · refine hold_endw mixed (okSW hg hh) (unroll := true) (f := 200) (sc := [false, false]) (r := (Go.Eng.SV.cb Bool.false)) (ob := [(0 : Int) < (1099511627776 : Int), Decidable.decide ((1099511627776 : Int) < n) = Bool.false, n ≤ (1125899906842624 : Int), n ≤ (1125899906842624 : Int), (Go.Eng.B.bl256 n == Go.Eng.B.bl256 n) = Bool.false]) (sc' := []) (by kernel_rfl) ?_ ?_
      · exact ⟨(by first | trivial | omega | decide), hc0, (by first | trivial | omega | decide), (by first | trivial | omega | decide), hc1, trivial⟩
      · first | (simp [wkR, wk, wk0]; done) | (exfalso; simp_all; done)
end Go.Eng.B

/- Authentication codes and derived keys, as functions of lists; g is the hash. -/
namespace Go.Eng.B

def xorL (m : Nat) (l : List Nat) : List Nat := l.map fun x => x ^^^ m
def kk (g : List Nat → List Nat) (key : List Nat) : List Nat := if 64 < key.length then g key else key
def zf (k : List Nat) : List Nat := k ++ List.replicate (64 - k.length) 0
def k64 (g : List Nat → List Nat) (key : List Nat) : List Nat := zf (kk g key)
def hm (g : List Nat → List Nat) (key b : List Nat) : List Nat := g (xorL 92 (k64 g key) ++ g (xorL 54 (k64 g key) ++ b))
def tE (g : List Nat → List Nat) (prk info : List Nat) : Nat → List Nat
  | 0 => []
  | i + 1 => hm g prk (tE g prk info i ++ info ++ [(i + 1) % 256])
def oE (g : List Nat → List Nat) (prk info : List Nat) : Nat → List Nat
  | 0 => []
  | i + 1 => oE g prk info i ++ tE g prk info (i + 1)
def okE (n : Int) : Bool := decide (0 ≤ n) && decide (n ≤ 8160)
def nE (n : Int) : Nat := (n.toNat + 31) / 32
def expE (g : List Nat → List Nat) (prk info : List Nat) (n : Int) : List Nat := if okE n = true then (oE g prk info (nE n)).take n.toNat else []

theorem xorL_len (m : Nat) (l : List Nat) : (xorL m l).length = l.length := by simp [xorL]
theorem xorL_nil (m : Nat) : xorL m [] = [] := rfl
theorem xorL_snoc (m x : Nat) (l : List Nat) : xorL m (l ++ [x]) = xorL m l ++ [x ^^^ m] := by simp [xorL]
theorem xorL_take (m : Nat) (l : List Nat) (i : Nat) (h : i < l.length) : xorL m (l.take (i + 1)) = xorL m (l.take i) ++ [l.getD i 0 ^^^ m] := by
  rw [← xorL_snoc]; congr 1
  rw [List.take_add_one, List.getD_eq_getElem?_getD, List.getElem?_eq_getElem h]; rfl
theorem mix_get (m : Nat) (l : List Nat) (i : Nat) (h : i < l.length) : (xorL m (l.take i) ++ l.drop i).getD i 0 = l.getD i 0 := by
  rw [List.getD_eq_getElem?_getD, List.getElem?_append_right (by simp [xorL]; omega)]
  simp only [xorL_len, List.length_take, List.getElem?_drop, List.getD_eq_getElem?_getD]
  congr 2; omega
theorem mix_set (m : Nat) (l : List Nat) (i : Nat) (h : i < l.length) : (xorL m (l.take i) ++ l.drop i).set i (l.getD i 0 ^^^ m) = xorL m (l.take (i + 1)) ++ l.drop (i + 1) := by
  rw [xorL_take m l i h]
  rw [List.set_append_right _ _ (by simp [xorL]; omega)]
  rw [xorL_len, List.length_take, show i - min i l.length = 0 by omega, List.append_assoc]
  congr 1
  rw [List.drop_eq_getElem_cons h]; rfl
theorem kk_len {g : List Nat → List Nat} (hg : ∀ b, (g b).length = 32) (key : List Nat) : (kk g key).length ≤ 64 := by
  unfold kk; split
  · rw [hg]; omega
  · omega
theorem zf_len {k : List Nat} (h : k.length ≤ 64) : (zf k).length = 64 := by simp [zf]; omega
theorem k64_len {g : List Nat → List Nat} (hg : ∀ b, (g b).length = 32) (key : List Nat) : (k64 g key).length = 64 := zf_len (kk_len hg key)
theorem hm_len {g : List Nat → List Nat} (hg : ∀ b, (g b).length = 32) (key b : List Nat) : (hm g key b).length = 32 := hg _
theorem tE_len {g : List Nat → List Nat} (hg : ∀ b, (g b).length = 32) (prk info : List Nat) (i : Nat) : (tE g prk info (i + 1)).length = 32 := hg _
theorem oE_len {g : List Nat → List Nat} (hg : ∀ b, (g b).length = 32) (prk info : List Nat) : ∀ i, (oE g prk info i).length = 32 * i := by
  intro i
  induction i with
  | zero => rfl
  | succ i ih => simp only [oE, List.length_append, ih, tE_len hg]; omega
theorem expE_len {g : List Nat → List Nat} (hg : ∀ b, (g b).length = 32) (prk info : List Nat) {n : Int} (h : okE n = true) : (expE g prk info n).length = n.toNat := by
  unfold expE; rw [if_pos h, List.length_take, oE_len hg]; unfold nE; omega

/-! ### Shorter keys -/
theorem oE_pre (g : List Nat → List Nat) (prk info : List Nat) : ∀ {i j : Nat}, i ≤ j → ∃ r, oE g prk info j = oE g prk info i ++ r := by
  intro i j h
  induction j with
  | zero => exact ⟨[], by rw [show i = 0 by omega]; simp⟩
  | succ j ih =>
    rcases Nat.eq_or_lt_of_le h with e | h
    · subst e; exact ⟨[], by simp⟩
    · obtain ⟨r, hr⟩ := ih (by omega)
      exact ⟨r ++ tE g prk info (j + 1), by simp only [oE, hr, List.append_assoc]⟩
theorem zf_zero {k : List Nat} (h : k.length < 64) : zf (k ++ [0]) = zf k := by
  unfold zf
  rw [List.append_assoc]
  congr 1
  rw [List.length_append, List.length_singleton, show 64 - k.length = 64 - (k.length + 1) + 1 by omega, List.replicate_succ]
  rfl
theorem k64_zero {g : List Nat → List Nat} {k : List Nat} (h : k.length < 64) : k64 g (k ++ [0]) = k64 g k := by
  unfold k64 kk
  rw [if_neg (by simp; omega), if_neg (by omega), zf_zero h]
theorem hm_key {g : List Nat → List Nat} {k k' : List Nat} (h : k64 g k' = k64 g k) (b : List Nat) : hm g k' b = hm g k b := by unfold hm; rw [h]
theorem tE_key {g : List Nat → List Nat} {k k' : List Nat} (h : k64 g k' = k64 g k) (info : List Nat) : ∀ i, tE g k' info i = tE g k info i := by
  intro i
  induction i with
  | zero => rfl
  | succ i ih => simp only [tE, ih, hm_key h]
theorem oE_key {g : List Nat → List Nat} {k k' : List Nat} (h : k64 g k' = k64 g k) (info : List Nat) : ∀ i, oE g k' info i = oE g k info i := by
  intro i
  induction i with
  | zero => rfl
  | succ i ih => simp only [oE, ih, tE_key h]
theorem expE_key {g : List Nat → List Nat} {k k' : List Nat} (h : k64 g k' = k64 g k) (info : List Nat) (n : Int) : expE g k' info n = expE g k info n := by unfold expE; rw [oE_key h]
theorem expE_pre {g : List Nat → List Nat} (hg : ∀ b, (g b).length = 32) (prk info : List Nat) {n m : Nat} (h : n + m ≤ 8160) : (expE g prk info ((n : Int) + m)).take n = expE g prk info n := by
  unfold expE
  rw [if_pos (by simp [okE]; omega), if_pos (by simp [okE]; omega)]
  obtain ⟨r, hr⟩ := oE_pre g prk info (show nE (n : Int) ≤ nE ((n : Int) + m) by unfold nE; omega)
  rw [List.take_take, hr, List.take_append_of_le_length (by rw [oE_len hg]; unfold nE; omega)]
  congr 1
  omega
end Go.Eng.B

/- coresecmake.Some and Bytes. -/
namespace Go.Eng.B
open Go Go.Eng Go.Proofs
set_option maxRecDepth 100000
set_option linter.unusedSimpArgs false
def smB (k : Int) (i : Nat) : Nat := ((k % 18446744073709551616).toNat / 2 ^ (8 * (i % 8) % 18446744073709551616) % 256 + i / 8 % 256) % 256
def smL (k : Int) (i : Nat) : List Nat := itr (fun b j => b ++ [smB k j]) [] i
def stS : List It := [.lp [0, 1, 0, 1, 1], .blk 0, .at [1, 1, 1]]
def sS (k n : Int) (i : Nat) : St := ⟨28, [(0, .i .i64 k), (5, .row 0 (.sl .u8 (smL k i))), (7, .i .i64 n), (8, .u .i64 i)], [(0, bY)], 3, 0⟩
def eSome (args : List SV) : Option (SV × List Prop) :=
  match args with
  | [x, y] => match x.int?, y.int? with
    | some (.i64, k), some (.i64, n) => some (.sl .u8 (smL k n.toNat), [n ≤ 1000000])
    | _, _ => none
  | _ => none
theorem smL_len (k : Int) : ∀ i, (smL k i).length = i := by
  intro i
  induction i with
  | zero => rfl
  | succ i ih => show (smL k i ++ [smB k i]).length = _; simp [ih]
theorem smL_succ (k : Int) (i : Nat) : smL k (i + 1) = smL k i ++ [smB k i] := rfl
section
variable {w0 : World} {S : Own} {res : SV}
theorem some_l (k n : Int) (hn : n ≤ 1000000) (hr : res = .sl .u8 (smL k n.toNat)) : ∀ d i, n.toNat - i = d → i ≤ n.toNat → Hold Try.prog (bodyOf Try.f30) (Fin Try.prog Try.f30 w0 S res) w0 S stS (sS k n i) := by
  intro d
  induction d using Nat.strongRecOn with
  | _ d ih =>
  intro i hd hi
  have hl := smL_len k i
  refine hold_unroll (c := _) rfl ?_
  by_cases hlt : (i : Int) < n
  · have e := ih (n.toNat - (i + 1)) (by omega) (i + 1) rfl (by omega)
    rw [show sS k n (i + 1) = ⟨28, [(0, .i .i64 k), (5, .row 0 (.sl .u8 (smL k i ++ [smB k i]))), (7, .i .i64 n), (8, .u .i64 (i + 1))], [(0, bY)], 3, 0⟩ from rfl] at e
    unfold smB at e
    refine hold_cut mixed okC1 (unroll := false) (f := 300) (sc := [true]) (ks := [0,5,7,8]) (bs := [0]) (nx := 3) (st' := [Go.Eng.It.lp [(0 : Nat), (1 : Nat), (0 : Nat), (1 : Nat), (1 : Nat)], Go.Eng.It.blk (0 : Nat), Go.Eng.It.at [(1 : Nat), (1 : Nat), (1 : Nat)]]) (σ' := { nt := (28 : Nat), slots := [((0 : Nat), Go.Eng.SV.i Go.IntKind.i64 k), ((5 : Nat), Go.Eng.SV.row (0 : Nat) (Go.Eng.SV.sl Go.IntKind.u8 (smL k i ++ [((k % (18446744073709551616 : Int)).toNat / (2 : Nat) ^ ((8 : Nat) * (i % (8 : Nat)) % (18446744073709551616 : Nat)) % (256 : Nat) + i / (8 : Nat) % (256 : Nat)) % (256 : Nat)]))), ((7 : Nat), Go.Eng.SV.i Go.IntKind.i64 n), ((8 : Nat), Go.Eng.SV.u Go.IntKind.i64 (i + (1 : Nat)))], blks := [((0 : Nat), { ty := (5 : Nat), segs := [], row := Bool.true })], next := (3 : Nat) }) (ob := [Decidable.decide ((↑i : Int) < n) = Bool.true, (8 : Nat) * (i % (8 : Nat)) % (18446744073709551616 : Nat) < (64 : Nat), Go.Eng.slenD (Go.Eng.SV.sl Go.IntKind.u8 (smL k i ++ [((k % (18446744073709551616 : Int)).toNat / (2 : Nat) ^ ((8 : Nat) * (i % (8 : Nat)) % (18446744073709551616 : Nat)) % (256 : Nat) + i / (8 : Nat) % (256 : Nat)) % (256 : Nat)])) * (1 : Nat) ≤ (140737488355328 : Nat), i + (1 : Nat) < (9223372036854775808 : Nat)]) (sc' := []) (by kernel_rfl) (by repeat' first | exact trivial | exact decide_eq_true (by omega) | exact decide_eq_false (by omega) | omega | (simp only [slenD, SV.slen, List.length_append, List.length_cons, List.length_nil]; omega) | (simp only [inR, lo, lim]; omega) | refine ⟨?_, ?_⟩) ?_
    exact e
  · have e : i = n.toNat := by omega
    subst e
    refine hold_end mixed okC1 (unroll := false) (f := 300) (sc := [false]) (r := (Go.Eng.SV.sl Go.IntKind.u8 (smL k n.toNat))) (ob := [Decidable.decide ((↑n.toNat : Int) < n) = Bool.false]) (sc' := []) (by kernel_rfl) (by repeat' first | exact trivial | exact decide_eq_true (by omega) | exact decide_eq_false (by omega) | omega | (simp only [slenD, SV.slen, List.length_append, List.length_cons, List.length_nil]; omega) | (simp only [inR, lo, lim]; omega) | refine ⟨?_, ?_⟩) ?_
    exact hr.symm
theorem some_c (k n : Int) (hn : n ≤ 1000000) : Contract Try.prog 30 [.i .i64 k, .i .i64 n] (.sl .u8 (smL k n.toNat)) := by
  refine contract Try.func30 (body := bodyOf Try.f30) rfl (by kernel_rfl) (by kernel_rfl) rfl ?_
  intro _ w0 S
  refine hold_cut mixed okC1 (unroll := false) (f := 100) (sc := []) (ks := [0,5,7,8]) (bs := []) (nx := 0) (st' := [Go.Eng.It.lp [(0 : Nat), (1 : Nat), (0 : Nat), (1 : Nat), (1 : Nat)], Go.Eng.It.blk (0 : Nat), Go.Eng.It.at [(1 : Nat), (1 : Nat), (1 : Nat)]]) (σ' := { nt := (28 : Nat), slots := [((0 : Nat), Go.Eng.SV.i Go.IntKind.i64 k), ((5 : Nat), Go.Eng.SV.nil), ((7 : Nat), Go.Eng.SV.i Go.IntKind.i64 n), ((8 : Nat), Go.Eng.SV.c Go.IntKind.i64 (0 : Int))], blks := [], next := (0 : Nat) }) (ob := []) (sc' := []) (by kernel_rfl) trivial ?_
  refine hold_nil (t := 5) (e := 5) (s0 := .sl .u8 []) rfl ?_
  refine hold_restrict (ks := [0,5,7,8]) (bs := [0]) (nx := 3) rfl ?_
  exact Hold.weaken (some_l k n hn rfl _ 0 rfl (by omega)) (by simp [wks, wk, wk0, lim, sS, smL, itr])
end
theorem some_ok : ∀ args res ob, eSome args = some (res, ob) → All ob → Contract Try.prog 30 args res := by
  intro args res ob he hob
  unfold eSome at he
  split at he
  · split at he
    · rename_i hx hy
      cases he
      exact Contract.argsF (some_c _ _ hob.1) ⟨int?_wk hx, int?_wk hy, rfl⟩
    · cases he
  · cases he
def atN (l : List Int) (a i : Nat) : Nat := itr (fun a _ => nextA l a) a i
def bys (l : List Int) (a i : Nat) : List Nat := itr (fun b j => b ++ [nextV l (atN l a j) 256 % 256]) [] i
def bysK (l : List Int) (a : Nat) (n : Int) : Nat := nextV l a (n + 1)
def bysL (l : List Int) (a : Nat) (n : Int) : List Nat := bys l (nextA l a) (bysK l a n)
def bysA (l : List Int) (a : Nat) (n : Int) : Nat := atN l (nextA l a) (bysK l a n)
def stBy : List It := [.lp [0, 1, 0, 1, 1], .blk 0, .at [1, 1, 1]]
def sBy (l : List Int) (a m i : Nat) : St := ⟨22, [(0, .ptr 0 0 (.c 0)), (5, .row 1 (.sl .u8 (bys l a i))), (6, .u .i64 (m - i))], [(0, deckB l (atN l a i)), (1, bY)], 4, 1⟩
def eBytes (H : List Bk) (args : List SV) : Option (MRes × List Prop) :=
  match H, args with
  | [⟨116, [.sli l, a], false⟩], [.ptr 0 0 (.c 0), x] => match a.nat?, x.int? with
    | some (.i64, at'), some (.i64, n) => some (⟨.row 1 (.sl .u8 (bysL l at' n)), [deckB l (bysA l at' n)], [bY]⟩, [0 ≤ n, n ≤ 100000])
    | _, _ => none
  | _, _ => none
theorem deck_hand {P : Program} {f : FuncId} {l : List Int} {a : SV} {at' : Nat} {args : List SV} {r : MRes} (ha : a.nat? = some (.i64, at')) (h : ContractM P f [deckB l at'] args r) : ContractM P f [⟨116, [.sli l, a], false⟩] args r := by
  intro w S β vs h1 h2 h3 h4 h5
  have hlt : at' < lim .i64 := by
    obtain ⟨cs, q1, _⟩ := (h3 0 ⟨116, [.sli l, a], false⟩ (by simp [numB])).1 rfl
    simp only [rels] at q1
    obtain ⟨c1, c2, _, _, c3, c4, _, q3, _⟩ := q1
    exact (nat?_ok ha q3).2
  refine ContractM.hand (H := [⟨116, [.sli l, a], false⟩]) (H' := [deckB l at']) (show wkB _ (_ :: []) from ⟨rfl, rfl, show wkl (_ :: a :: []) (_ :: (SV.u .i64 at') :: []) from ⟨wk_refl _, ?_, rfl⟩, rfl⟩) rfl h w S β vs h1 h2 h3 h4 h5
  cases a <;> simp [SV.nat?] at ha
  · obtain ⟨q1, rfl, q3⟩ := ha
    simp only [wk, wk0, wka]
    refine ⟨trivial, by omega, hlt⟩
  · obtain ⟨rfl, rfl⟩ := ha
    exact wk_refl _
theorem bys_len (l : List Int) (a : Nat) : ∀ i, (bys l a i).length = i := by
  intro i
  induction i with
  | zero => rfl
  | succ i ih => show (bys l a i ++ [_]).length = _; simp [ih]
section
variable {F : Fr} {S : Own} {res : MRes}
theorem bytes_l (l : List Int) (a m : Nat) (hm : m ≤ 100000) (hr : res = ⟨.row 1 (.sl .u8 (bys l a m)), [deckB l (atN l a m)], [bY]⟩) : ∀ d i, m - i = d → i ≤ m → Hold Try.prog (bodyOf Try.f27) (FinM Try.prog Try.f27 F S res) F S stBy (sBy l a m i) := by
  intro d
  induction d using Nat.strongRecOn with
  | _ d ih =>
  intro i hd hi
  have hl := bys_len l a i
  refine hold_unroll (c := _) rfl ?_
  by_cases hlt : i < m
  · have e := ih (m - (i + 1)) (by omega) (i + 1) rfl (by omega)
    refine hold_cut mixed okC1 (unroll := false) (f := 300) (sc := [true]) (ks := [0,5,6]) (bs := [0,1]) (nx := 4) (st' := [Go.Eng.It.lp [(0 : Nat), (1 : Nat), (0 : Nat), (1 : Nat), (1 : Nat)], Go.Eng.It.blk (0 : Nat), Go.Eng.It.at [(1 : Nat), (1 : Nat), (1 : Nat)]]) (σ' := { nt := (22 : Nat), slots := [((0 : Nat), Go.Eng.SV.ptr (0 : Nat) (0 : Nat) (Go.Eng.Ix.c (0 : Nat))), ((5 : Nat), Go.Eng.SV.row (1 : Nat) (Go.Eng.SV.sl Go.IntKind.u8 (bys l a i ++ [Go.Eng.B.nextV l (atN l a i) (256 : Int) % (256 : Nat)]))), ((6 : Nat), Go.Eng.SV.i Go.IntKind.i64 ((↑(m - i) : Int) - (1 : Int)))], blks := [((0 : Nat), { ty := (116 : Nat), segs := [Go.Eng.SV.sli l, Go.Eng.SV.u Go.IntKind.i64 (Go.Eng.B.nextA l (atN l a i))] }), ((1 : Nat), { ty := (5 : Nat), segs := [], row := Bool.true })], next := (4 : Nat), m := (1 : Nat) }) (ob := [Decidable.decide ((0 : Nat) < m - i) = Bool.true, (0 : Int) < (256 : Int), Go.Eng.slenD (Go.Eng.SV.sl Go.IntKind.u8 (bys l a i ++ [Go.Eng.B.nextV l (atN l a i) (256 : Int) % (256 : Nat)])) * (1 : Nat) ≤ (140737488355328 : Nat)]) (sc' := []) (by kernel_rfl) (by repeat' first | exact trivial | exact decide_eq_true (by omega) | exact decide_eq_false (by omega) | omega | (simp only [slenD, SV.slen, List.length_append, List.length_cons, List.length_nil]; omega) | (simp only [inR, lo, lim]; omega) | refine ⟨?_, ?_⟩) ?_
    exact Hold.weaken e (by simp only [wks, wk, wk0, sBy, lim, and_true, true_and]; first | omega | (refine ⟨rfl, ?_⟩; omega) | (refine ⟨rfl, rfl, ?_⟩; omega))
  · have e : i = m := by omega
    subst e
    refine hold_endNw mixed okC1 (news := [1]) (unroll := false) (f := 300) (sc := [false]) (r := { res := Go.Eng.SV.row ((0 : Nat) + Go.Eng.wid { ty := (116 : Nat), segs := [Go.Eng.SV.sli l, Go.Eng.SV.u Go.IntKind.i64 (atN l a i)] }) (Go.Eng.SV.sl Go.IntKind.u8 (bys l a i)), upd := [{ ty := (116 : Nat), segs := [Go.Eng.SV.sli l, Go.Eng.SV.u Go.IntKind.i64 (atN l a i)] }], new := [{ ty := (5 : Nat), segs := [], row := Bool.true }] }) (ob := [Decidable.decide ((0 : Nat) < i - i) = Bool.false]) (sc' := []) (by kernel_rfl) (by repeat' first | exact trivial | exact decide_eq_true (by omega) | exact decide_eq_false (by omega) | omega | (simp only [slenD, SV.slen, List.length_append, List.length_cons, List.length_nil]; omega) | (simp only [inR, lo, lim]; omega) | refine ⟨?_, ?_⟩) ?_
    exact wkM_of hr.symm
theorem bytes_m (l : List Int) (a : Nat) (n : Int) (hn0 : 0 ≤ n) (hn : n ≤ 100000) : ContractM Try.prog 27 [deckB l a] [.ptr 0 0 (.c 0), .i .i64 n] ⟨.row 1 (.sl .u8 (bysL l a n)), [deckB l (bysA l a n)], [bY]⟩ := by
  refine contractM Try.func27 (body := bodyOf Try.f27) rfl (by kernel_rfl) (by kernel_rfl) rfl rfl ?_
  rintro _ _ F S hF
  have hk : bysK l a n ≤ 100000 := by
    unfold bysK nextV
    split
    · have := Int.emod_lt_of_pos (l.getD a 0) (show 0 < n + 1 by omega); omega
    · omega
  refine hold_cut mixed okC1 (unroll := false) (f := 100) (sc := []) (ks := [0,5,6]) (bs := [0]) (nx := 1) (st' := [Go.Eng.It.lp [(0 : Nat), (1 : Nat), (0 : Nat), (1 : Nat), (1 : Nat)], Go.Eng.It.blk (0 : Nat), Go.Eng.It.at [(1 : Nat), (1 : Nat), (1 : Nat)]]) (σ' := { nt := (22 : Nat), slots := [((0 : Nat), Go.Eng.SV.ptr (0 : Nat) (0 : Nat) (Go.Eng.Ix.c (0 : Nat))), ((5 : Nat), Go.Eng.SV.nil), ((6 : Nat), Go.Eng.SV.u Go.IntKind.i64 (Go.Eng.B.nextV l a (n + (1 : Int))))], blks := [((0 : Nat), { ty := (116 : Nat), segs := [Go.Eng.SV.sli l, Go.Eng.SV.u Go.IntKind.i64 (Go.Eng.B.nextA l a)] })], next := (1 : Nat), m := (1 : Nat) }) (ob := [Go.Eng.inR Go.IntKind.i64 (n + (1 : Int)), (0 : Int) < n + (1 : Int)]) (sc' := []) (by kernel_rfl) (by repeat' first | exact trivial | exact decide_eq_true (by omega) | exact decide_eq_false (by omega) | omega | (simp only [slenD, SV.slen, List.length_append, List.length_cons, List.length_nil]; omega) | (simp only [inR, lo, lim]; omega) | refine ⟨?_, ?_⟩) ?_
  refine hold_nil (t := 5) (e := 5) (s0 := .sl .u8 []) rfl ?_
  refine hold_restrict (ks := [0,5,6]) (bs := [0,1]) (nx := 4) rfl ?_
  exact Hold.weaken (bytes_l l (nextA l a) (bysK l a n) hk rfl _ 0 rfl (by omega)) (by simp [wks, wk, wk0, lim, sBy, bys, bysK, itr])
end
theorem bytes_ok : ∀ H args r ob, eBytes H args = some (r, ob) → All ob → ContractM Try.prog 27 H args r := by
  intro H args r ob h hob
  unfold eBytes at h
  split at h
  · rename_i l a x
    split at h
    · rename_i at' n ha hx
      cases h
      exact deck_hand ha (ContractM.args (args' := [.ptr 0 0 (.c 0), .i .i64 n]) ⟨wk_refl _, int?_wk hx, rfl⟩ (bytes_m l at' n hob.1 hob.2.1))
    · cases h
  · cases h
end Go.Eng.B

/- ShaEdges gives true. -/
namespace Go.Eng.B
open Go Go.Eng Go.Proofs
set_option maxRecDepth 100000
set_option maxHeartbeats 2000000
set_option linter.unusedSimpArgs false
noncomputable def SWE (g h : List Nat → List Nat) : Ctr := addC 30 eSome (SW g h)
theorem okSWE {g h : List Nat → List Nat} (hg : g = sum32) (hh : h = sum64) : CtrOk Try.prog (SWE g h) := addC_ok (okSW hg hh) some_ok
theorem ShaEdges_c (n k r : Int) : Contract Try.prog 13 [.i .i64 n, .i .i64 k, .i .i64 r] (.b true) := by
  refine contract Try.func13 (body := bodyOf Try.f13) rfl (by kernel_rfl) (by kernel_rfl) rfl ?_
  intro _ w0 S
  obtain ⟨g, hg⟩ : ∃ g, g = sum32 := ⟨_, rfl⟩
  obtain ⟨h, hh⟩ : ∃ h, h = sum64 := ⟨_, rfl⟩
  have h6_0 := Int.emod_nonneg n (show (6 : Int) ≠ 0 by omega)
  have h6_1 := Int.emod_lt_of_pos n (show (0 : Int) < 6 by omega)
  have h20_0 := Int.emod_nonneg k (show (20 : Int) ≠ 0 by omega)
  have h20_1 := Int.emod_lt_of_pos k (show (0 : Int) < 20 by omega)
  rcases Bool.eq_false_or_eq_true (g (Go.Eng.B.smL r (↑((64 : Nat) * (n % (6 : Int)).toNat + (k % (20 : Int)).toNat + (45 : Nat)) : Int).toNat) == g (Go.Eng.B.smL r (↑((64 : Nat) * (n % (6 : Int)).toNat + (k % (20 : Int)).toNat + (45 : Nat)) : Int).toNat)) with hc0 | hc0
  · rcases Bool.eq_false_or_eq_true (h (Go.Eng.B.smL r (↑((64 : Nat) * (n % (6 : Int)).toNat + (k % (20 : Int)).toNat + (45 : Nat)) : Int).toNat) == h (Go.Eng.B.smL r (↑((64 : Nat) * (n % (6 : Int)).toNat + (k % (20 : Int)).toNat + (45 : Nat)) : Int).toNat)) with hc1 | hc1
    · rcases Bool.eq_false_or_eq_true (Go.Eng.B.bl256 (↑((64 : Nat) * (n % (6 : Int)).toNat + (k % (20 : Int)).toNat + (45 : Nat)) : Int) == Go.Eng.B.bl256 (↑((64 : Nat) * (n % (6 : Int)).toNat + (k % (20 : Int)).toNat + (45 : Nat)) : Int)) with hc2 | hc2
      · rcases Bool.eq_false_or_eq_true (Go.Eng.B.bl512 (↑((64 : Nat) * (n % (6 : Int)).toNat + (k % (20 : Int)).toNat + (45 : Nat)) : Int) == Go.Eng.B.bl512 (↑((64 : Nat) * (n % (6 : Int)).toNat + (k % (20 : Int)).toNat + (45 : Nat)) : Int)) with hc3 | hc3
        · refine hold_endw mixed (okSWE hg hh) (unroll := true) (f := 200) (sc := [true, true, true, true]) (r := (Go.Eng.SV.cb Bool.true)) (ob := [(0 : Int) < (6 : Int), (64 : Nat) * (n % (6 : Int)).toNat < (9223372036854775808 : Nat), (0 : Int) < (20 : Int), (64 : Nat) * (n % (6 : Int)).toNat + (k % (20 : Int)).toNat < (9223372036854775808 : Nat), (64 : Nat) * (n % (6 : Int)).toNat + (k % (20 : Int)).toNat + (45 : Nat) < (9223372036854775808 : Nat), (↑((64 : Nat) * (n % (6 : Int)).toNat + (k % (20 : Int)).toNat + (45 : Nat)) : Int) ≤ (1000000 : Int), (Go.Eng.B.smL r (↑((64 : Nat) * (n % (6 : Int)).toNat + (k % (20 : Int)).toNat + (45 : Nat)) : Int).toNat).length ≤ (1000000 : Nat), (Go.Eng.B.smL r (↑((64 : Nat) * (n % (6 : Int)).toNat + (k % (20 : Int)).toNat + (45 : Nat)) : Int).toNat).length ≤ (1000000 : Nat), (g (Go.Eng.B.smL r (↑((64 : Nat) * (n % (6 : Int)).toNat + (k % (20 : Int)).toNat + (45 : Nat)) : Int).toNat) == g (Go.Eng.B.smL r (↑((64 : Nat) * (n % (6 : Int)).toNat + (k % (20 : Int)).toNat + (45 : Nat)) : Int).toNat)) = Bool.true, (Go.Eng.B.smL r (↑((64 : Nat) * (n % (6 : Int)).toNat + (k % (20 : Int)).toNat + (45 : Nat)) : Int).toNat).length ≤ (1000000 : Nat), (Go.Eng.B.smL r (↑((64 : Nat) * (n % (6 : Int)).toNat + (k % (20 : Int)).toNat + (45 : Nat)) : Int).toNat).length ≤ (1000000 : Nat), (h (Go.Eng.B.smL r (↑((64 : Nat) * (n % (6 : Int)).toNat + (k % (20 : Int)).toNat + (45 : Nat)) : Int).toNat) == h (Go.Eng.B.smL r (↑((64 : Nat) * (n % (6 : Int)).toNat + (k % (20 : Int)).toNat + (45 : Nat)) : Int).toNat)) = Bool.true, (↑((64 : Nat) * (n % (6 : Int)).toNat + (k % (20 : Int)).toNat + (45 : Nat)) : Int) ≤ (1125899906842624 : Int), (↑((64 : Nat) * (n % (6 : Int)).toNat + (k % (20 : Int)).toNat + (45 : Nat)) : Int) ≤ (1125899906842624 : Int), (Go.Eng.B.bl256 (↑((64 : Nat) * (n % (6 : Int)).toNat + (k % (20 : Int)).toNat + (45 : Nat)) : Int) == Go.Eng.B.bl256 (↑((64 : Nat) * (n % (6 : Int)).toNat + (k % (20 : Int)).toNat + (45 : Nat)) : Int)) = Bool.true, (↑((64 : Nat) * (n % (6 : Int)).toNat + (k % (20 : Int)).toNat + (45 : Nat)) : Int) ≤ (1125899906842624 : Int), (↑((64 : Nat) * (n % (6 : Int)).toNat + (k % (20 : Int)).toNat + (45 : Nat)) : Int) ≤ (1125899906842624 : Int), (Go.Eng.B.bl512 (↑((64 : Nat) * (n % (6 : Int)).toNat + (k % (20 : Int)).toNat + (45 : Nat)) : Int) == Go.Eng.B.bl512 (↑((64 : Nat) * (n % (6 : Int)).toNat + (k % (20 : Int)).toNat + (45 : Nat)) : Int)) = Bool.true]) (sc' := []) (by kernel_rfl) ?_ ?_
          · exact ⟨(by first | omega | with_reducible trivial | (simp only [smL_len]; omega) | decide), (by first | omega | with_reducible trivial | (simp only [smL_len]; omega) | decide), (by first | omega | with_reducible trivial | (simp only [smL_len]; omega) | decide), (by first | omega | with_reducible trivial | (simp only [smL_len]; omega) | decide), (by first | omega | with_reducible trivial | (simp only [smL_len]; omega) | decide), (by first | omega | with_reducible trivial | (simp only [smL_len]; omega) | decide), (by first | omega | with_reducible trivial | (simp only [smL_len]; omega) | decide), (by first | omega | with_reducible trivial | (simp only [smL_len]; omega) | decide), hc0, (by first | omega | with_reducible trivial | (simp only [smL_len]; omega) | decide), (by first | omega | with_reducible trivial | (simp only [smL_len]; omega) | decide), hc1, (by first | omega | with_reducible trivial | (simp only [smL_len]; omega) | decide), (by first | omega | with_reducible trivial | (simp only [smL_len]; omega) | decide), hc2, (by first | omega | with_reducible trivial | (simp only [smL_len]; omega) | decide), (by first | omega | with_reducible trivial | (simp only [smL_len]; omega) | decide), hc3, trivial⟩
          · first | (simp [wkR, wk, wk0]; done) | (exfalso; simp_all; done)
        · exact Bool.noConfusion ((beq_self_eq_true _).symm.trans hc3)
      · exact Bool.noConfusion ((beq_self_eq_true _).symm.trans hc2)
    · exact Bool.noConfusion ((beq_self_eq_true _).symm.trans hc1)
  · exact Bool.noConfusion ((beq_self_eq_true _).symm.trans hc0)
end Go.Eng.B

/- From a contract to a row: the arguments as they come in. -/
namespace Go.Eng
open Go.RowKit

theorem has_inR {k : IntKind} {n : Int} (h : k.has n) : inR k n := by
  cases k <;> simp only [IntKind.has, IntKind.min, IntKind.max, IntKind.signed, IntKind.bits, inR, lo, lim] at * <;> simp at h ⊢ <;> omega

theorem int_of {P : Program} {w : World} {r : Reach} {base : Nat} {t : TypeId} {v : Value} {k : IntKind} (ht : P.underlying t = some (.int k)) (h : Value.okWide P w r base t v) : ∃ n, v = .int k n ∧ k.has n := by
  obtain ⟨n, rfl⟩ := WideShapes.okWide_int ht h
  refine ⟨n, rfl, ?_⟩
  simpa [Value.okWide, Cell.okWide, Cell.ok, ht] using h

theorem open_i {P : Program} {w : World} {r : Reach} {base : Nat} {t : TypeId} {v : Value} {k : IntKind} (ht : P.underlying t = some (.int k)) (h : Value.okWide P w r base t v) {β : Nat → Nat} {ow : Own} {w' : World} :
    ∃ n, relV1 β ow w' (.i k n) v := by
  obtain ⟨n, rfl, hn⟩ := int_of ht h
  exact ⟨n, _, rel_i (has_inR hn), rfl⟩

theorem ints_of {k : IntKind} (hk : k.signed = false) : ∀ (cs : List Value), (∀ v ∈ cs, ∃ n, v = .int k n ∧ k.has n) → ∃ l : List Nat, cs = ints k l ∧ l.length = cs.length ∧ ∀ x ∈ l, x < lim k := by
  intro cs
  induction cs with
  | nil => intro _; exact ⟨[], rfl, rfl, by simp⟩
  | cons v cs ih =>
    intro h
    obtain ⟨l, h1, h2, h3⟩ := ih fun u hu => h u (by simp [hu])
    obtain ⟨n, rfl, hn⟩ := h v (by simp)
    have hr := has_inR hn
    have h0 : 0 ≤ n := by cases k <;> simp [IntKind.signed] at hk <;> simp only [inR, lo] at hr <;> omega
    refine ⟨n.toNat :: l, ?_, by simp [h2], ?_⟩
    · simp only [ints, List.map_cons, Int.toNat_of_nonneg h0]
      rw [h1]; rfl
    · intro x hx
      rcases List.mem_cons.1 hx with rfl | hx
      · have := hr.2; omega
      · exact h3 x hx

theorem open_arr {P : Program} {w : World} {r : Reach} {base : Nat} {t e u : TypeId} {v : Value} {k : IntKind} {n : Nat} (ht : P.underlying t = some (.array n e)) (hct : P.cellTypes P.depth t = some (List.replicate n u)) (hsz : P.cellsOf t = n)
    (hu : P.underlying u = some (.int k)) (hk : k.signed = false) (h : Value.okWide P w r base t v) {β : Nat → Nat} {ow : Own} {w' : World} : ∃ l, relV1 β ow w' (.arr k n l) v := by
  simp only [Value.okWide, ht] at h
  obtain ⟨cs, rfl, hs, ts, hts, _, hc⟩ := h
  rw [hct] at hts
  cases hts
  obtain ⟨l, h1, h2, h3⟩ := ints_of hk cs.toList fun v hv => by
    obtain ⟨i, hi⟩ := List.getElem?_of_mem hv
    obtain ⟨u', hu', hok⟩ := hc i v (by simpa using hi)
    have : u' = u := by
      have := List.mem_of_getElem? hu'
      exact List.eq_of_mem_replicate this
    subst this
    exact int_of (w := w) (r := r) (base := base) hu (by simp only [Value.okWide, hu]; exact hok)
  refine ⟨l, ints k l, rel_arr ?_ h3, ?_⟩
  · rw [h2]; simp [hs, hsz]
  · simp only [SV.isAgg, toV, if_true]
    rw [← h1]

/-- the call, out of the contract -/
theorem Contract.calls {P : Program} {f : FuncId} {fn : Func} {body : Code} {args : List SV} {res : SV} (h : Contract P f args res) (hf : P.funcs[f]? = some fn) (hb : fn.body = some body) (hname : (fn.name == "runtime.NumGoroutine") = false)
    {w : World} {vs : List Value} (hv : relVs (fun _ => 0) (fun _ _ => False) w args vs) :
    Calls P f vs.toArray w fun e w' => ∃ v, e = .returned v ∧ Below w.heap.size w w' ∧ relV (fun _ => 0) (fun _ _ => False) w' res v := by
  have h1 := h w (fun _ _ => False) vs (fun _ _ h => h.elim) hv
  unfold Invokes at h1
  have hcall : (callFunc f vs.toArray).run P w = .ok (.enter f vs.toArray) w := by
    have hne : ¬ fn.name = "runtime.NumGoroutine" := by simpa using hname
    simp [callFunc, hf, hb, hne]
  rw [hcall] at h1
  exact h1
end Go.Eng

/- From a contract to a row: slices, strings and bools as they come in. -/
namespace Go.Eng
open Go.RowKit Go.ChangeShapes Go.WideShapes

section
variable {H : Type} {enc : TypeId × Value → H} {P : Program} {w : World} {sp : Nat → Bool} {held : Bool} {r : Reach} {b0 : Nat} {t e : TypeId} {v : Value} {d : DataW H} {ps : List MemPlace} {k : IntKind}

theorem wf_inR {n : Int} (h : (Lit.int k n).wf = true) : inR k n := by
  apply has_inR
  have h : k.min ≤ n ∧ n ≤ k.max := by simpa [Lit.wf] using h
  exact h

theorem open_zs (ht : P.underlying t = some (.slice e)) (he : P.underlying e = some (.int k)) (hc : P.cellsOf e = 1) (hval : Value.okWide P w r b0 t v) (hd : DataW.Trod enc P w 0 sp held t v d ps) :
    ∃ zs : List Int, ReadsAs (fun _ _ => False) w v (zs.map fun n : Int => Value.int k n) ∧ ∀ n ∈ zs, inR k n := by
  obtain ⟨a0, len, cap, rfl⟩ := okWide_slice ht hval
  obtain ⟨fuel, hf⟩ := hd
  rcases ChangeShapes.open_ints ht he hc hf with ⟨h1, _⟩ | ⟨a, len', cap', zs, h1, _, hl, hm, hz, _, hcell, hwf⟩
  · simp only [Value.cells, List.cons.injEq, and_true] at h1
    cases h1
    exact ⟨[], ⟨none, 0, 0, rfl, rfl, Nat.le_refl _, by omega, fun h => absurd h (by omega)⟩, by simp⟩
  · simp only [Value.cells, List.cons.injEq, and_true] at h1
    cases h1
    have hle : len ≤ zs.length := by rw [hz]; split <;> omega
    have hmax : cap < 9223372036854775808 := by simp only [maxLen] at hm; omega
    refine ⟨zs.take len, ⟨some a, len, cap, rfl, by simp; omega, hl, hmax, fun hp => ⟨a, rfl, ?_, fun _ _ h => h, fun j u hu => ?_⟩⟩, fun n hn => wf_inR (hwf n (List.mem_of_mem_take hn))⟩
    · have := hcell 0 (by omega)
      simp only [Addr.add, if_true] at this
      cases hs : a.spot with
      | none => rfl
      | some q => simp [World.cell?, hs] at this; split at this <;> cases this
    · have hj : j < len := by
        have := (List.getElem?_eq_some_iff.1 hu).1
        simp at this; omega
      have h0 := hcell 0 (by omega)
      have hs : a.spot = none := by
        simp only [Addr.add, if_true] at h0
        cases hs : a.spot with
        | none => rfl
        | some q => simp [World.cell?, hs] at h0; split at h0 <;> cases h0
      have := hcell j (by omega)
      rw [add_spot hs] at this
      rw [this]
      simp only [List.getElem?_map, List.getElem?_take_of_lt hj, Option.map_eq_some_iff] at hu
      obtain ⟨z, hz1, rfl⟩ := hu
      simp [List.getD_eq_getElem?_getD, hz1]

theorem nats_of (hk : k.signed = false) : ∀ (zs : List Int), (∀ n ∈ zs, inR k n) → ∃ l : List Nat, (zs.map fun n : Int => Value.int k n) = ints k l ∧ ∀ x ∈ l, x < lim k := by
  intro zs
  induction zs with
  | nil => intro _; exact ⟨[], rfl, by simp⟩
  | cons n zs ih =>
    intro h
    obtain ⟨l, h1, h2⟩ := ih fun m hm => h m (by simp [hm])
    have hr := h n (by simp)
    have h0 : 0 ≤ n := by cases k <;> simp [IntKind.signed] at hk <;> simp only [inR, lo] at hr <;> omega
    refine ⟨n.toNat :: l, by simp only [ints, List.map_cons, Int.toNat_of_nonneg h0, h1], ?_⟩
    intro x hx
    rcases List.mem_cons.1 hx with rfl | hx
    · have := hr.2; omega
    · exact h2 x hx

theorem open_bytes {β : Nat → Nat} (ht : P.underlying t = some (.slice e)) (he : P.underlying e = some (.int k)) (hk : k.signed = false) (hc : P.cellsOf e = 1) (hval : Value.okWide P w r b0 t v) (hd : DataW.Trod enc P w 0 sp held t v d ps) :
    ∃ l, relV1 β (fun _ _ => False) w (.sl k l) v := by
  obtain ⟨zs, h1, h2⟩ := open_zs ht he hc hval hd
  obtain ⟨l, h3, h4⟩ := nats_of hk zs h2
  rw [h3] at h1
  exact ⟨l, [v], by simp only [rel]; exact ⟨⟨v, rfl, h1⟩, h4⟩, rfl⟩
theorem open_intl {β : Nat → Nat} (ht : P.underlying t = some (.slice e)) (he : P.underlying e = some (.int .i64)) (hc : P.cellsOf e = 1) (hval : Value.okWide P w r b0 t v) (hd : DataW.Trod enc P w 0 sp held t v d ps) :
    ∃ l, relV1 β (fun _ _ => False) w (.sli l) v := by
  obtain ⟨zs, h1, h2⟩ := open_zs ht he hc hval hd
  exact ⟨zs, [v], by simp only [rel]; exact ⟨⟨v, rfl, h1⟩, h2⟩, rfl⟩
theorem open_b {β : Nat → Nat} {ow : Own} {w' : World} (ht : P.underlying t = some .bool) (hval : Value.okWide P w r b0 t v) : ∃ x, relV1 β ow w' (.b x) v := by
  obtain ⟨b, rfl⟩ := okWide_bool ht hval
  exact ⟨b, _, rel_b, rfl⟩
theorem open_str {β : Nat → Nat} {ow : Own} {w' : World} (ht : P.underlying t = some .string) (hval : Value.okWide P w r b0 t v) : ∃ l, relV1 β ow w' (.str l) v := by
  obtain ⟨s, rfl⟩ := okWide_string ht hval
  have := constSV_ok (β := β) (ow := ow) (w := w') (v := .string s) (s := .str (s.data.toList.map (·.toNat))) rfl
  exact ⟨_, _, this.1, rfl⟩
end
end Go.Eng

/- What the words of the program's start say. -/
namespace Go.Proofs.Ytmigegngooecaaa.Facts
open Go Go.Proofs
set_option maxRecDepth 100000
theorem words_word {r : List Char} : ∀ {l : List Char}, (∀ c ∈ l, c ≠ ' ') → wordsSigns (l ++ ' ' :: r) = l :: wordsSigns r := by
  intro l
  induction l with
  | nil => intro _; rfl
  | cons c l ih =>
    intro h
    have hc : c ≠ ' ' := h c (by simp)
    have e := ih fun x hx => h x (by simp [hx])
    show wordsSigns (c :: (l ++ ' ' :: r)) = _
    rw [wordsSigns, e]
    · intro hh; exact hc hh
theorem order_is : Try.pinned.checked.prog.initOrder = "harness cff2c2cd0cba015eafbf3452765c231f117729f8e64eaa2e98dff4d1c1310757 cut at coresec/coreseclaw26.ContextUnique coresec/coreseclaw05.KdfExpands coresec/coreseclaw05.KdfLongest coresec/coreseclaw05.KdfPrefix coresec/coreseclaw05.KdfMacs coresec/coreseclaw05.KdfInner coresec/coreseclaw04.ShaSums coresec/coreseclaw04.ShaConstants coresec/coreseclaw04.ShaOwn coresec/coreseclaw05.KdfCalls coresec/coreseclaw04.ShaEdges coresec/coreseclaw04.ShaBlocks coresec/coreseclaw38.EchoValues coresec/coreseclaw26.ContextDerives coresec/coreseclaw23.TranscriptConns coresec/coreseclaw23.TranscriptReads coresec/coreseclaw26.ContextNumbers coresec/coreseclaw38.EchoAdmits coresec/coreseclaw23.TranscriptContexts coresec/coreseclaw26.ContextNonces coresec/coreseclaw23.TranscriptKeys coresec/coreseclaw23.TranscriptHashes coresec/coreseclaw38.EchoFresh" := by kernel_rfl
theorem order_lit : ("harness cff2c2cd0cba015eafbf3452765c231f117729f8e64eaa2e98dff4d1c1310757 cut at coresec/coreseclaw26.ContextUnique coresec/coreseclaw05.KdfExpands coresec/coreseclaw05.KdfLongest coresec/coreseclaw05.KdfPrefix coresec/coreseclaw05.KdfMacs coresec/coreseclaw05.KdfInner coresec/coreseclaw04.ShaSums coresec/coreseclaw04.ShaConstants coresec/coreseclaw04.ShaOwn coresec/coreseclaw05.KdfCalls coresec/coreseclaw04.ShaEdges coresec/coreseclaw04.ShaBlocks coresec/coreseclaw38.EchoValues coresec/coreseclaw26.ContextDerives coresec/coreseclaw23.TranscriptConns coresec/coreseclaw23.TranscriptReads coresec/coreseclaw26.ContextNumbers coresec/coreseclaw38.EchoAdmits coresec/coreseclaw23.TranscriptContexts coresec/coreseclaw26.ContextNonces coresec/coreseclaw23.TranscriptKeys coresec/coreseclaw23.TranscriptHashes coresec/coreseclaw38.EchoFresh" : String) = String.ofList (['h', 'a', 'r', 'n', 'e', 's', 's'] ++ ' ' :: (['c', 'f', 'f', '2', 'c', '2', 'c', 'd', '0', 'c', 'b', 'a', '0', '1', '5', 'e', 'a', 'f', 'b', 'f', '3', '4', '5', '2', '7', '6', '5', 'c', '2', '3', '1', 'f', '1', '1', '7', '7', '2', '9', 'f', '8', 'e', '6', '4', 'e', 'a', 'a', '2', 'e', '9', '8', 'd', 'f', 'f', '4', 'd', '1', 'c', '1', '3', '1', '0', '7', '5', '7'] ++ ' ' :: (['c', 'u', 't'] ++ ' ' :: ['a', 't', ' ', 'c', 'o', 'r', 'e', 's', 'e', 'c', '/', 'c', 'o', 'r', 'e', 's', 'e', 'c', 'l', 'a', 'w', '2', '6', '.', 'C', 'o', 'n', 't', 'e', 'x', 't', 'U', 'n', 'i', 'q', 'u', 'e', ' ', 'c', 'o', 'r', 'e', 's', 'e', 'c', '/', 'c', 'o', 'r', 'e', 's', 'e', 'c', 'l', 'a', 'w', '0', '5', '.', 'K', 'd', 'f', 'E', 'x', 'p', 'a', 'n', 'd', 's', ' ', 'c', 'o', 'r', 'e', 's', 'e', 'c', '/', 'c', 'o', 'r', 'e', 's', 'e', 'c', 'l', 'a', 'w', '0', '5', '.', 'K', 'd', 'f', 'L', 'o', 'n', 'g', 'e', 's', 't', ' ', 'c', 'o', 'r', 'e', 's', 'e', 'c', '/', 'c', 'o', 'r', 'e', 's', 'e', 'c', 'l', 'a', 'w', '0', '5', '.', 'K', 'd', 'f', 'P', 'r', 'e', 'f', 'i', 'x', ' ', 'c', 'o', 'r', 'e', 's', 'e', 'c', '/', 'c', 'o', 'r', 'e', 's', 'e', 'c', 'l', 'a', 'w', '0', '5', '.', 'K', 'd', 'f', 'M', 'a', 'c', 's', ' ', 'c', 'o', 'r', 'e', 's', 'e', 'c', '/', 'c', 'o', 'r', 'e', 's', 'e', 'c', 'l', 'a', 'w', '0', '5', '.', 'K', 'd', 'f', 'I', 'n', 'n', 'e', 'r', ' ', 'c', 'o', 'r', 'e', 's', 'e', 'c', '/', 'c', 'o', 'r', 'e', 's', 'e', 'c', 'l', 'a', 'w', '0', '4', '.', 'S', 'h', 'a', 'S', 'u', 'm', 's', ' ', 'c', 'o', 'r', 'e', 's', 'e', 'c', '/', 'c', 'o', 'r', 'e', 's', 'e', 'c', 'l', 'a', 'w', '0', '4', '.', 'S', 'h', 'a', 'C', 'o', 'n', 's', 't', 'a', 'n', 't', 's', ' ', 'c', 'o', 'r', 'e', 's', 'e', 'c', '/', 'c', 'o', 'r', 'e', 's', 'e', 'c', 'l', 'a', 'w', '0', '4', '.', 'S', 'h', 'a', 'O', 'w', 'n', ' ', 'c', 'o', 'r', 'e', 's', 'e', 'c', '/', 'c', 'o', 'r', 'e', 's', 'e', 'c', 'l', 'a', 'w', '0', '5', '.', 'K', 'd', 'f', 'C', 'a', 'l', 'l', 's', ' ', 'c', 'o', 'r', 'e', 's', 'e', 'c', '/', 'c', 'o', 'r', 'e', 's', 'e', 'c', 'l', 'a', 'w', '0', '4', '.', 'S', 'h', 'a', 'E', 'd', 'g', 'e', 's', ' ', 'c', 'o', 'r', 'e', 's', 'e', 'c', '/', 'c', 'o', 'r', 'e', 's', 'e', 'c', 'l', 'a', 'w', '0', '4', '.', 'S', 'h', 'a', 'B', 'l', 'o', 'c', 'k', 's', ' ', 'c', 'o', 'r', 'e', 's', 'e', 'c', '/', 'c', 'o', 'r', 'e', 's', 'e', 'c', 'l', 'a', 'w', '3', '8', '.', 'E', 'c', 'h', 'o', 'V', 'a', 'l', 'u', 'e', 's', ' ', 'c', 'o', 'r', 'e', 's', 'e', 'c', '/', 'c', 'o', 'r', 'e', 's', 'e', 'c', 'l', 'a', 'w', '2', '6', '.', 'C', 'o', 'n', 't', 'e', 'x', 't', 'D', 'e', 'r', 'i', 'v', 'e', 's', ' ', 'c', 'o', 'r', 'e', 's', 'e', 'c', '/', 'c', 'o', 'r', 'e', 's', 'e', 'c', 'l', 'a', 'w', '2', '3', '.', 'T', 'r', 'a', 'n', 's', 'c', 'r', 'i', 'p', 't', 'C', 'o', 'n', 'n', 's', ' ', 'c', 'o', 'r', 'e', 's', 'e', 'c', '/', 'c', 'o', 'r', 'e', 's', 'e', 'c', 'l', 'a', 'w', '2', '3', '.', 'T', 'r', 'a', 'n', 's', 'c', 'r', 'i', 'p', 't', 'R', 'e', 'a', 'd', 's', ' ', 'c', 'o', 'r', 'e', 's', 'e', 'c', '/', 'c', 'o', 'r', 'e', 's', 'e', 'c', 'l', 'a', 'w', '2', '6', '.', 'C', 'o', 'n', 't', 'e', 'x', 't', 'N', 'u', 'm', 'b', 'e', 'r', 's', ' ', 'c', 'o', 'r', 'e', 's', 'e', 'c', '/', 'c', 'o', 'r', 'e', 's', 'e', 'c', 'l', 'a', 'w', '3', '8', '.', 'E', 'c', 'h', 'o', 'A', 'd', 'm', 'i', 't', 's', ' ', 'c', 'o', 'r', 'e', 's', 'e', 'c', '/', 'c', 'o', 'r', 'e', 's', 'e', 'c', 'l', 'a', 'w', '2', '3', '.', 'T', 'r', 'a', 'n', 's', 'c', 'r', 'i', 'p', 't', 'C', 'o', 'n', 't', 'e', 'x', 't', 's', ' ', 'c', 'o', 'r', 'e', 's', 'e', 'c', '/', 'c', 'o', 'r', 'e', 's', 'e', 'c', 'l', 'a', 'w', '2', '6', '.', 'C', 'o', 'n', 't', 'e', 'x', 't', 'N', 'o', 'n', 'c', 'e', 's', ' ', 'c', 'o', 'r', 'e', 's', 'e', 'c', '/', 'c', 'o', 'r', 'e', 's', 'e', 'c', 'l', 'a', 'w', '2', '3', '.', 'T', 'r', 'a', 'n', 's', 'c', 'r', 'i', 'p', 't', 'K', 'e', 'y', 's', ' ', 'c', 'o', 'r', 'e', 's', 'e', 'c', '/', 'c', 'o', 'r', 'e', 's', 'e', 'c', 'l', 'a', 'w', '2', '3', '.', 'T', 'r', 'a', 'n', 's', 'c', 'r', 'i', 'p', 't', 'H', 'a', 's', 'h', 'e', 's', ' ', 'c', 'o', 'r', 'e', 's', 'e', 'c', '/', 'c', 'o', 'r', 'e', 's', 'e', 'c', 'l', 'a', 'w', '3', '8', '.', 'E', 'c', 'h', 'o', 'F', 'r', 'e', 's', 'h']))) := by kernel_rfl
theorem order_words : ∃ R, behindMainWord (wordsSigns Try.pinned.checked.prog.initOrder.toList) = ['c', 'u', 't'] :: R := by
  rw [order_is, order_lit, String.toList_ofList, words_word (by decide), words_word (by decide), words_word (by decide)]
  generalize wordsSigns ['a', 't', ' ', 'c', 'o', 'r', 'e', 's', 'e', 'c', '/', 'c', 'o', 'r', 'e', 's', 'e', 'c', 'l', 'a', 'w', '2', '6', '.', 'C', 'o', 'n', 't', 'e', 'x', 't', 'U', 'n', 'i', 'q', 'u', 'e', ' ', 'c', 'o', 'r', 'e', 's', 'e', 'c', '/', 'c', 'o', 'r', 'e', 's', 'e', 'c', 'l', 'a', 'w', '0', '5', '.', 'K', 'd', 'f', 'E', 'x', 'p', 'a', 'n', 'd', 's', ' ', 'c', 'o', 'r', 'e', 's', 'e', 'c', '/', 'c', 'o', 'r', 'e', 's', 'e', 'c', 'l', 'a', 'w', '0', '5', '.', 'K', 'd', 'f', 'L', 'o', 'n', 'g', 'e', 's', 't', ' ', 'c', 'o', 'r', 'e', 's', 'e', 'c', '/', 'c', 'o', 'r', 'e', 's', 'e', 'c', 'l', 'a', 'w', '0', '5', '.', 'K', 'd', 'f', 'P', 'r', 'e', 'f', 'i', 'x', ' ', 'c', 'o', 'r', 'e', 's', 'e', 'c', '/', 'c', 'o', 'r', 'e', 's', 'e', 'c', 'l', 'a', 'w', '0', '5', '.', 'K', 'd', 'f', 'M', 'a', 'c', 's', ' ', 'c', 'o', 'r', 'e', 's', 'e', 'c', '/', 'c', 'o', 'r', 'e', 's', 'e', 'c', 'l', 'a', 'w', '0', '5', '.', 'K', 'd', 'f', 'I', 'n', 'n', 'e', 'r', ' ', 'c', 'o', 'r', 'e', 's', 'e', 'c', '/', 'c', 'o', 'r', 'e', 's', 'e', 'c', 'l', 'a', 'w', '0', '4', '.', 'S', 'h', 'a', 'S', 'u', 'm', 's', ' ', 'c', 'o', 'r', 'e', 's', 'e', 'c', '/', 'c', 'o', 'r', 'e', 's', 'e', 'c', 'l', 'a', 'w', '0', '4', '.', 'S', 'h', 'a', 'C', 'o', 'n', 's', 't', 'a', 'n', 't', 's', ' ', 'c', 'o', 'r', 'e', 's', 'e', 'c', '/', 'c', 'o', 'r', 'e', 's', 'e', 'c', 'l', 'a', 'w', '0', '4', '.', 'S', 'h', 'a', 'O', 'w', 'n', ' ', 'c', 'o', 'r', 'e', 's', 'e', 'c', '/', 'c', 'o', 'r', 'e', 's', 'e', 'c', 'l', 'a', 'w', '0', '5', '.', 'K', 'd', 'f', 'C', 'a', 'l', 'l', 's', ' ', 'c', 'o', 'r', 'e', 's', 'e', 'c', '/', 'c', 'o', 'r', 'e', 's', 'e', 'c', 'l', 'a', 'w', '0', '4', '.', 'S', 'h', 'a', 'E', 'd', 'g', 'e', 's', ' ', 'c', 'o', 'r', 'e', 's', 'e', 'c', '/', 'c', 'o', 'r', 'e', 's', 'e', 'c', 'l', 'a', 'w', '0', '4', '.', 'S', 'h', 'a', 'B', 'l', 'o', 'c', 'k', 's', ' ', 'c', 'o', 'r', 'e', 's', 'e', 'c', '/', 'c', 'o', 'r', 'e', 's', 'e', 'c', 'l', 'a', 'w', '3', '8', '.', 'E', 'c', 'h', 'o', 'V', 'a', 'l', 'u', 'e', 's', ' ', 'c', 'o', 'r', 'e', 's', 'e', 'c', '/', 'c', 'o', 'r', 'e', 's', 'e', 'c', 'l', 'a', 'w', '2', '6', '.', 'C', 'o', 'n', 't', 'e', 'x', 't', 'D', 'e', 'r', 'i', 'v', 'e', 's', ' ', 'c', 'o', 'r', 'e', 's', 'e', 'c', '/', 'c', 'o', 'r', 'e', 's', 'e', 'c', 'l', 'a', 'w', '2', '3', '.', 'T', 'r', 'a', 'n', 's', 'c', 'r', 'i', 'p', 't', 'C', 'o', 'n', 'n', 's', ' ', 'c', 'o', 'r', 'e', 's', 'e', 'c', '/', 'c', 'o', 'r', 'e', 's', 'e', 'c', 'l', 'a', 'w', '2', '3', '.', 'T', 'r', 'a', 'n', 's', 'c', 'r', 'i', 'p', 't', 'R', 'e', 'a', 'd', 's', ' ', 'c', 'o', 'r', 'e', 's', 'e', 'c', '/', 'c', 'o', 'r', 'e', 's', 'e', 'c', 'l', 'a', 'w', '2', '6', '.', 'C', 'o', 'n', 't', 'e', 'x', 't', 'N', 'u', 'm', 'b', 'e', 'r', 's', ' ', 'c', 'o', 'r', 'e', 's', 'e', 'c', '/', 'c', 'o', 'r', 'e', 's', 'e', 'c', 'l', 'a', 'w', '3', '8', '.', 'E', 'c', 'h', 'o', 'A', 'd', 'm', 'i', 't', 's', ' ', 'c', 'o', 'r', 'e', 's', 'e', 'c', '/', 'c', 'o', 'r', 'e', 's', 'e', 'c', 'l', 'a', 'w', '2', '3', '.', 'T', 'r', 'a', 'n', 's', 'c', 'r', 'i', 'p', 't', 'C', 'o', 'n', 't', 'e', 'x', 't', 's', ' ', 'c', 'o', 'r', 'e', 's', 'e', 'c', '/', 'c', 'o', 'r', 'e', 's', 'e', 'c', 'l', 'a', 'w', '2', '6', '.', 'C', 'o', 'n', 't', 'e', 'x', 't', 'N', 'o', 'n', 'c', 'e', 's', ' ', 'c', 'o', 'r', 'e', 's', 'e', 'c', '/', 'c', 'o', 'r', 'e', 's', 'e', 'c', 'l', 'a', 'w', '2', '3', '.', 'T', 'r', 'a', 'n', 's', 'c', 'r', 'i', 'p', 't', 'K', 'e', 'y', 's', ' ', 'c', 'o', 'r', 'e', 's', 'e', 'c', '/', 'c', 'o', 'r', 'e', 's', 'e', 'c', 'l', 'a', 'w', '2', '3', '.', 'T', 'r', 'a', 'n', 's', 'c', 'r', 'i', 'p', 't', 'H', 'a', 's', 'h', 'e', 's', ' ', 'c', 'o', 'r', 'e', 's', 'e', 'c', '/', 'c', 'o', 'r', 'e', 's', 'e', 'c', 'l', 'a', 'w', '3', '8', '.', 'E', 'c', 'h', 'o', 'F', 'r', 'e', 's', 'h'] = R
  exact ⟨R, by kernel_rfl⟩
theorem c_gc : (['c', 'u', 't'] == "gc".toList) = false := by kernel_rfl
theorem c_spec : (['c', 'u', 't'] == "spec".toList) = false := by kernel_rfl
theorem c_cut : (['c', 'u', 't'] == "cut".toList) = true := by kernel_rfl
theorem c_carried : (['c', 'u', 't'] == "carried".toList) = false := by kernel_rfl
theorem c_strip (R : List (List Char)) : stripLifts liftWords (['c', 'u', 't'] :: R) = ([], ['c', 'u', 't'] :: R) := by kernel_rfl
theorem lifts_of {P : Program} {R : List (List Char)} (h : behindMainWord (wordsSigns P.initOrder.toList) = ['c', 'u', 't'] :: R) : P.liftsFinal = false := by
  unfold Program.liftsFinal Program.headLifts
  rw [h]
  kernel_rfl
theorem make_of {P : Program} {R : List (List Char)} (h : behindMainWord (wordsSigns P.initOrder.toList) = ['c', 'u', 't'] :: R) : P.make = some .cut := by
  unfold Program.make
  rw [h]
  simp only [c_gc, c_spec, c_cut, Bool.or_false, Bool.false_or, Bool.true_or, if_true, if_false, Bool.false_eq_true]
theorem enter_of {P : Program} {R : List (List Char)} (h : behindMainWord (wordsSigns P.initOrder.toList) = ['c', 'u', 't'] :: R) (h2 : P.laysLater = false) (h3 : P.bearsReflect = false) (h4 : P.doorFits [] = true) : P.mayEnter = true := by
  unfold Program.mayEnter
  rw [h]
  simp only [c_gc, c_spec, c_carried, c_strip, h2, h3, h4]
  kernel_rfl
theorem lays_is : Try.pinned.checked.prog.laysLater = false := by kernel_rfl
theorem reflect_is : Try.pinned.checked.prog.bearsReflect = false := by kernel_rfl
theorem door_is : Try.pinned.checked.prog.doorFits [] = true := by kernel_rfl
theorem lifts_is : Try.pinned.checked.prog.liftsFinal = false := by
  obtain ⟨R, h⟩ := order_words
  exact lifts_of h
theorem make_is : Try.pinned.checked.prog.make = some .cut := by
  obtain ⟨R, h⟩ := order_words
  exact make_of h
theorem enter_is : Try.pinned.checked.prog.mayEnter = true := by
  obtain ⟨R, h⟩ := order_words
  exact enter_of h lays_is reflect_is door_is
end Go.Proofs.Ytmigegngooecaaa.Facts

