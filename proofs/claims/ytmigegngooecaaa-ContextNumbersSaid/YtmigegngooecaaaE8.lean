import Derived.Test.YtmigegngooecaaaE7
import Derived.WideShapes
import Derived.OpenShut
import Derived.ChangeSlices
import Derived.RowKit
import Derived.Test.YtmigegngooecaaaRows
import Derived.ProofKit
import Derived.JoinedOf
import Derived.KernelRfl
set_option linter.unusedVariables false
set_option linter.unusedSimpArgs false
set_option linter.unusedSectionVars false
/- Bytes and Number of layer 26, of both; PIV. -/
namespace Go.Eng.B
open Go Go.Eng Go.Proofs
set_option maxRecDepth 100000
set_option linter.unusedSimpArgs false
def pivN (m : Nat) : List Nat :=
  if m < 256 then [m % 256]
  else if m < 65536 then [m / 256 % 256, m % 256]
  else if m < 16777216 then [m / 65536 % 256, m / 256 % 256, m % 256]
  else if m < 4294967296 then [m / 16777216 % 256, m / 65536 % 256, m / 256 % 256, m % 256]
  else [m / 4294967296 % 256, m / 16777216 % 256, m / 65536 % 256, m / 256 % 256, m % 256]
def pivL (n : Int) : List Nat := if n < 0 ∨ 1099511627775 < n then [] else pivN n.toNat
def nbE (b : List Nat) : Nat := if b.length = 0 then 2 else if 5 < b.length then 8 else if 1 < b.length ∧ b.getD 0 0 = 0 then 4 else 0
def nbF (b : List Nat) : Nat → Nat
  | 0 => 0
  | i + 1 => nbF b i * 256 + b.getD i 0
def nbV (b : List Nat) : Nat := if nbE b = 0 then nbF b b.length else 0
def pivs : List Nat := [0, 1, 5, 255, 256, 65535, 16777216, 1099511627775, 1099511627774, 4294967296]
def ePivL (args : List SV) : Option (SV × List Prop) := match args with
  | [x] => match x.int? with | some (.i64, n) => some (.sl .u8 (pivL n), []) | _ => none
  | _ => none
def eNum (args : List SV) : Option (SV × List Prop) := match args with
  | [x] => match part? x with | some b => some (.tup [.u .i64 (nbV b), .u .i64 (nbE b)], []) | _ => none
  | _ => none
def stNb : List It := [.lp [0, 1, 0, 1, 1, 1], .blk 1, .at [1, 1, 1, 1]]
def sNb (b : List Nat) (i : Nat) : St := ⟨38, [(4, .u .i64 (nbF b i)), (25, .sl .u8 b), (26, .u .i64 b.length), (27, .u .i64 i)], [], 0, 0⟩
theorem nbF_lt {b : List Nat} (hb : ∀ x ∈ b, x < 256) : ∀ i, nbF b i < 256 ^ i := by
  intro i
  induction i with
  | zero => simp [nbF]
  | succ i ih =>
    have := getD_lt (by decide) hb i
    rw [Nat.pow_succ]
    show nbF b i * 256 + b.getD i 0 < _
    omega
theorem nbF_le {b : List Nat} (hb : ∀ x ∈ b, x < 256) {i : Nat} (hi : i ≤ 5) : nbF b i < 1099511627776 := by
  have h1 := nbF_lt hb i
  have h2 : 256 ^ i ≤ 256 ^ 5 := Nat.pow_le_pow_right (by decide) hi
  omega
theorem pivN_of (m : Nat) (h : m < 1099511627776) : ∃ k, k ≤ 4 ∧ m / 256 ^ (k + 1) = 0 := ⟨4, by omega, by omega⟩
theorem piv_c (m : Nat) (hm : m ≤ 1099511627775) : Contract Try.prog 34 [.u .i64 m] (.sl .u8 (pivN m)) := by
  refine contract Try.func34 (body := bodyOf Try.f34) rfl (by kernel_rfl) (by kernel_rfl) rfl ?_
  intro _ w0 S
  by_cases h1 : m < 256
  · refine hold_endw mixed ctr0_ok (unroll := true) (f := 300) (sc := [false, false, false]) (r := (Go.Eng.SV.sl Go.IntKind.u8 [m % (256 : Nat)])) (ob := [Decidable.decide (m < (0 : Nat)) = Bool.false, Decidable.decide ((1099511627775 : Nat) < m) = Bool.false, Decidable.decide ((0 : Nat) < m / (256 : Nat)) = Bool.false]) (sc' := []) (by kernel_rfl) (by repeat' first | exact trivial | exact bne_iff_ne.mpr (by omega) | exact bne_eq_false_iff_eq.mpr (by omega) | exact decide_eq_true (by omega) | exact decide_eq_false (by omega) | omega | (simp only [slenD, SV.slen, List.length_append, List.length_cons, List.length_nil]; omega) | (simp only [inR, lo, lim]; omega) | with_reducible rfl | (simp [slenD, SV.slen]; done) | refine ⟨?_, ?_⟩) ?_
    unfold pivN;  rw [if_pos h1]; (first | exact wkR_of rfl | (simp only [Nat.div_div_eq_div_mul, Nat.div_one, Nat.reduceMul]; exact wkR_of rfl))
  by_cases h2 : m < 65536
  · refine hold_endw mixed ctr0_ok (unroll := true) (f := 300) (sc := [false, false, true, false]) (r := (Go.Eng.SV.sl Go.IntKind.u8 [m / (256 : Nat) % (256 : Nat), m % (256 : Nat)])) (ob := [Decidable.decide (m < (0 : Nat)) = Bool.false, Decidable.decide ((1099511627775 : Nat) < m) = Bool.false, Decidable.decide ((0 : Nat) < m / (256 : Nat)) = Bool.true, Go.Eng.slenD (Go.Eng.SV.sl Go.IntKind.u8 [m / (256 : Nat) % (256 : Nat), m % (256 : Nat)]) * (1 : Nat) ≤ (140737488355328 : Nat), Decidable.decide ((0 : Nat) < m / (256 : Nat) / (256 : Nat)) = Bool.false]) (sc' := []) (by kernel_rfl) (by repeat' first | exact trivial | exact bne_iff_ne.mpr (by omega) | exact bne_eq_false_iff_eq.mpr (by omega) | exact decide_eq_true (by omega) | exact decide_eq_false (by omega) | omega | (simp only [slenD, SV.slen, List.length_append, List.length_cons, List.length_nil]; omega) | (simp only [inR, lo, lim]; omega) | with_reducible rfl | (simp [slenD, SV.slen]; done) | refine ⟨?_, ?_⟩) ?_
    unfold pivN; rw [if_neg h1]; rw [if_pos h2]; (first | exact wkR_of rfl | (simp only [Nat.div_div_eq_div_mul, Nat.div_one, Nat.reduceMul]; exact wkR_of rfl))
  by_cases h3 : m < 16777216
  · refine hold_endw mixed ctr0_ok (unroll := true) (f := 300) (sc := [false, false, true, true, false]) (r := (Go.Eng.SV.sl Go.IntKind.u8 [m / (256 : Nat) / (256 : Nat) % (256 : Nat), m / (256 : Nat) % (256 : Nat), m % (256 : Nat)])) (ob := [Decidable.decide (m < (0 : Nat)) = Bool.false, Decidable.decide ((1099511627775 : Nat) < m) = Bool.false, Decidable.decide ((0 : Nat) < m / (256 : Nat)) = Bool.true, Go.Eng.slenD (Go.Eng.SV.sl Go.IntKind.u8 [m / (256 : Nat) % (256 : Nat), m % (256 : Nat)]) * (1 : Nat) ≤ (140737488355328 : Nat), Decidable.decide ((0 : Nat) < m / (256 : Nat) / (256 : Nat)) = Bool.true, Go.Eng.slenD (Go.Eng.SV.sl Go.IntKind.u8 [m / (256 : Nat) / (256 : Nat) % (256 : Nat), m / (256 : Nat) % (256 : Nat), m % (256 : Nat)]) * (1 : Nat) ≤ (140737488355328 : Nat), Decidable.decide ((0 : Nat) < m / (256 : Nat) / (256 : Nat) / (256 : Nat)) = Bool.false]) (sc' := []) (by kernel_rfl) (by repeat' first | exact trivial | exact bne_iff_ne.mpr (by omega) | exact bne_eq_false_iff_eq.mpr (by omega) | exact decide_eq_true (by omega) | exact decide_eq_false (by omega) | omega | (simp only [slenD, SV.slen, List.length_append, List.length_cons, List.length_nil]; omega) | (simp only [inR, lo, lim]; omega) | with_reducible rfl | (simp [slenD, SV.slen]; done) | refine ⟨?_, ?_⟩) ?_
    unfold pivN; rw [if_neg h1]; rw [if_neg h2]; rw [if_pos h3]; (first | exact wkR_of rfl | (simp only [Nat.div_div_eq_div_mul, Nat.div_one, Nat.reduceMul]; exact wkR_of rfl))
  by_cases h4 : m < 4294967296
  · refine hold_endw mixed ctr0_ok (unroll := true) (f := 300) (sc := [false, false, true, true, true, false]) (r := (Go.Eng.SV.sl Go.IntKind.u8 [m / (256 : Nat) / (256 : Nat) / (256 : Nat) % (256 : Nat), m / (256 : Nat) / (256 : Nat) % (256 : Nat), m / (256 : Nat) % (256 : Nat), m % (256 : Nat)])) (ob := [Decidable.decide (m < (0 : Nat)) = Bool.false, Decidable.decide ((1099511627775 : Nat) < m) = Bool.false, Decidable.decide ((0 : Nat) < m / (256 : Nat)) = Bool.true, Go.Eng.slenD (Go.Eng.SV.sl Go.IntKind.u8 [m / (256 : Nat) % (256 : Nat), m % (256 : Nat)]) * (1 : Nat) ≤ (140737488355328 : Nat), Decidable.decide ((0 : Nat) < m / (256 : Nat) / (256 : Nat)) = Bool.true, Go.Eng.slenD (Go.Eng.SV.sl Go.IntKind.u8 [m / (256 : Nat) / (256 : Nat) % (256 : Nat), m / (256 : Nat) % (256 : Nat), m % (256 : Nat)]) * (1 : Nat) ≤ (140737488355328 : Nat), Decidable.decide ((0 : Nat) < m / (256 : Nat) / (256 : Nat) / (256 : Nat)) = Bool.true, Go.Eng.slenD (Go.Eng.SV.sl Go.IntKind.u8 [m / (256 : Nat) / (256 : Nat) / (256 : Nat) % (256 : Nat), m / (256 : Nat) / (256 : Nat) % (256 : Nat), m / (256 : Nat) % (256 : Nat), m % (256 : Nat)]) * (1 : Nat) ≤ (140737488355328 : Nat), Decidable.decide ((0 : Nat) < m / (256 : Nat) / (256 : Nat) / (256 : Nat) / (256 : Nat)) = Bool.false]) (sc' := []) (by kernel_rfl) (by repeat' first | exact trivial | exact bne_iff_ne.mpr (by omega) | exact bne_eq_false_iff_eq.mpr (by omega) | exact decide_eq_true (by omega) | exact decide_eq_false (by omega) | omega | (simp only [slenD, SV.slen, List.length_append, List.length_cons, List.length_nil]; omega) | (simp only [inR, lo, lim]; omega) | with_reducible rfl | (simp [slenD, SV.slen]; done) | refine ⟨?_, ?_⟩) ?_
    unfold pivN; rw [if_neg h1]; rw [if_neg h2]; rw [if_neg h3]; rw [if_pos h4]; (first | exact wkR_of rfl | (simp only [Nat.div_div_eq_div_mul, Nat.div_one, Nat.reduceMul]; exact wkR_of rfl))
  · refine hold_endw mixed ctr0_ok (unroll := true) (f := 300) (sc := [false, false, true, true, true, true, false]) (r := (Go.Eng.SV.sl Go.IntKind.u8 [m / (256 : Nat) / (256 : Nat) / (256 : Nat) / (256 : Nat) % (256 : Nat), m / (256 : Nat) / (256 : Nat) / (256 : Nat) % (256 : Nat), m / (256 : Nat) / (256 : Nat) % (256 : Nat), m / (256 : Nat) % (256 : Nat), m % (256 : Nat)])) (ob := [Decidable.decide (m < (0 : Nat)) = Bool.false, Decidable.decide ((1099511627775 : Nat) < m) = Bool.false, Decidable.decide ((0 : Nat) < m / (256 : Nat)) = Bool.true, Go.Eng.slenD (Go.Eng.SV.sl Go.IntKind.u8 [m / (256 : Nat) % (256 : Nat), m % (256 : Nat)]) * (1 : Nat) ≤ (140737488355328 : Nat), Decidable.decide ((0 : Nat) < m / (256 : Nat) / (256 : Nat)) = Bool.true, Go.Eng.slenD (Go.Eng.SV.sl Go.IntKind.u8 [m / (256 : Nat) / (256 : Nat) % (256 : Nat), m / (256 : Nat) % (256 : Nat), m % (256 : Nat)]) * (1 : Nat) ≤ (140737488355328 : Nat), Decidable.decide ((0 : Nat) < m / (256 : Nat) / (256 : Nat) / (256 : Nat)) = Bool.true, Go.Eng.slenD (Go.Eng.SV.sl Go.IntKind.u8 [m / (256 : Nat) / (256 : Nat) / (256 : Nat) % (256 : Nat), m / (256 : Nat) / (256 : Nat) % (256 : Nat), m / (256 : Nat) % (256 : Nat), m % (256 : Nat)]) * (1 : Nat) ≤ (140737488355328 : Nat), Decidable.decide ((0 : Nat) < m / (256 : Nat) / (256 : Nat) / (256 : Nat) / (256 : Nat)) = Bool.true, Go.Eng.slenD (Go.Eng.SV.sl Go.IntKind.u8 [m / (256 : Nat) / (256 : Nat) / (256 : Nat) / (256 : Nat) % (256 : Nat), m / (256 : Nat) / (256 : Nat) / (256 : Nat) % (256 : Nat), m / (256 : Nat) / (256 : Nat) % (256 : Nat), m / (256 : Nat) % (256 : Nat), m % (256 : Nat)]) * (1 : Nat) ≤ (140737488355328 : Nat), Decidable.decide ((0 : Nat) < m / (256 : Nat) / (256 : Nat) / (256 : Nat) / (256 : Nat) / (256 : Nat)) = Bool.false]) (sc' := []) (by kernel_rfl) (by repeat' first | exact trivial | exact bne_iff_ne.mpr (by omega) | exact bne_eq_false_iff_eq.mpr (by omega) | exact decide_eq_true (by omega) | exact decide_eq_false (by omega) | omega | (simp only [slenD, SV.slen, List.length_append, List.length_cons, List.length_nil]; omega) | (simp only [inR, lo, lim]; omega) | with_reducible rfl | (simp [slenD, SV.slen]; done) | refine ⟨?_, ?_⟩) ?_
    unfold pivN; rw [if_neg h1]; rw [if_neg h2]; rw [if_neg h3]; rw [if_neg h4]; (first | exact wkR_of rfl | (simp only [Nat.div_div_eq_div_mul, Nat.div_one, Nat.reduceMul]; exact wkR_of rfl))
theorem piv_ok : ∀ args res ob, ePivL args = some (res, ob) → All ob → Contract Try.prog 34 args res := by
  intro args res ob he _
  unfold ePivL at he
  split at he
  · split at he
    · rename_i n hx
      cases he
      by_cases h0 : n < 0
      · refine Contract.args (args' := [.i .i64 n]) ⟨int?_wk hx, rfl⟩ ?_
        refine contract Try.func34 (body := bodyOf Try.f34) rfl (by kernel_rfl) (by kernel_rfl) rfl ?_
        intro _ w0 S
        refine hold_endw mixed ctr0_ok (unroll := true) (f := 100) (sc := [true]) (r := (Go.Eng.SV.sl Go.IntKind.u8 [])) (ob := [Decidable.decide (n < (0 : Int)) = Bool.true]) (sc' := []) (by kernel_rfl) (by repeat' first | exact trivial | exact bne_iff_ne.mpr (by omega) | exact bne_eq_false_iff_eq.mpr (by omega) | exact decide_eq_true (by omega) | exact decide_eq_false (by omega) | omega | (simp only [slenD, SV.slen, List.length_append, List.length_cons, List.length_nil]; omega) | (simp only [inR, lo, lim]; omega) | with_reducible rfl | (simp [slenD, SV.slen]; done) | refine ⟨?_, ?_⟩) ?_
        unfold pivL; rw [if_pos (by omega)]; simp [wkR, wk, wk0]
      by_cases h1 : 1099511627775 < n
      · refine Contract.args (args' := [.i .i64 n]) ⟨int?_wk hx, rfl⟩ ?_
        refine contract Try.func34 (body := bodyOf Try.f34) rfl (by kernel_rfl) (by kernel_rfl) rfl ?_
        intro _ w0 S
        refine hold_endw mixed ctr0_ok (unroll := true) (f := 100) (sc := [false, true]) (r := (Go.Eng.SV.sl Go.IntKind.u8 [])) (ob := [Decidable.decide (n < (0 : Int)) = Bool.false, Decidable.decide ((1099511627775 : Int) < n) = Bool.true]) (sc' := []) (by kernel_rfl) (by repeat' first | exact trivial | exact bne_iff_ne.mpr (by omega) | exact bne_eq_false_iff_eq.mpr (by omega) | exact decide_eq_true (by omega) | exact decide_eq_false (by omega) | omega | (simp only [slenD, SV.slen, List.length_append, List.length_cons, List.length_nil]; omega) | (simp only [inR, lo, lim]; omega) | with_reducible rfl | (simp [slenD, SV.slen]; done) | refine ⟨?_, ?_⟩) ?_
        unfold pivL; rw [if_pos (by omega)]; simp [wkR, wk, wk0]
      · unfold pivL; rw [if_neg (by omega)]
        have hw := int?_wk hx
        obtain ⟨m, rfl⟩ : ∃ m : Nat, n = (m : Int) := ⟨n.toNat, by omega⟩
        refine Contract.args (args' := [.i .i64 (m : Int)]) ⟨hw, rfl⟩ ?_
        refine Contract.args (args' := [.u .i64 m]) ⟨by simp [wk, wk0, lim]; omega, rfl⟩ ?_
        exact piv_c m (by omega)
    · cases he
  · cases he
theorem qpiv_c (m : Nat) (hm : m ≤ 1099511627775) : Contract Try.prog 86 [.u .i64 m] (.sl .u8 (pivN m)) := by
  refine contract Try.func86 (body := bodyOf Try.f86) rfl (by kernel_rfl) (by kernel_rfl) rfl ?_
  intro _ w0 S
  by_cases h1 : m < 256
  · by_cases h0 : m = 0
    · refine hold_endw mixed ctr0_ok (unroll := true) (f := 300) (sc := [false, false, false, false, false, false, false, false, false, false, false, false]) (r := (Go.Eng.SV.sl Go.IntKind.u8 [m / (1 : Nat) % (256 : Nat)])) (ob := [Decidable.decide (m < (0 : Nat)) = Bool.false, Decidable.decide ((1099511627775 : Nat) < m) = Bool.false, Bool.false = Bool.false, (m / (4294967296 : Nat) % (256 : Nat) != (0 : Nat)) = Bool.false, Bool.false = Bool.false, (m / (16777216 : Nat) % (256 : Nat) != (0 : Nat)) = Bool.false, Bool.false = Bool.false, (m / (65536 : Nat) % (256 : Nat) != (0 : Nat)) = Bool.false, Bool.false = Bool.false, (m / (256 : Nat) % (256 : Nat) != (0 : Nat)) = Bool.false, Bool.false = Bool.false, (m / (1 : Nat) % (256 : Nat) != (0 : Nat)) = Bool.false, Go.Eng.slenD (Go.Eng.SV.sl Go.IntKind.u8 [m / (1 : Nat) % (256 : Nat)]) * (1 : Nat) ≤ (140737488355328 : Nat)]) (sc' := []) (by kernel_rfl) (by repeat' first | exact trivial | exact bne_iff_ne.mpr (by omega) | exact bne_eq_false_iff_eq.mpr (by omega) | exact decide_eq_true (by omega) | exact decide_eq_false (by omega) | omega | (simp only [slenD, SV.slen, List.length_append, List.length_cons, List.length_nil]; omega) | (simp only [inR, lo, lim]; omega) | with_reducible rfl | (simp [slenD, SV.slen]; done) | refine ⟨?_, ?_⟩) ?_
      unfold pivN;  rw [if_pos h1]; (first | exact wkR_of rfl | (simp only [Nat.div_div_eq_div_mul, Nat.div_one, Nat.reduceMul]; exact wkR_of rfl))
    · refine hold_endw mixed ctr0_ok (unroll := true) (f := 300) (sc := [false, false, false, false, false, false, false, false, false, false, false, true]) (r := (Go.Eng.SV.sl Go.IntKind.u8 [m / (1 : Nat) % (256 : Nat)])) (ob := [Decidable.decide (m < (0 : Nat)) = Bool.false, Decidable.decide ((1099511627775 : Nat) < m) = Bool.false, Bool.false = Bool.false, (m / (4294967296 : Nat) % (256 : Nat) != (0 : Nat)) = Bool.false, Bool.false = Bool.false, (m / (16777216 : Nat) % (256 : Nat) != (0 : Nat)) = Bool.false, Bool.false = Bool.false, (m / (65536 : Nat) % (256 : Nat) != (0 : Nat)) = Bool.false, Bool.false = Bool.false, (m / (256 : Nat) % (256 : Nat) != (0 : Nat)) = Bool.false, Bool.false = Bool.false, (m / (1 : Nat) % (256 : Nat) != (0 : Nat)) = Bool.true, Go.Eng.slenD (Go.Eng.SV.sl Go.IntKind.u8 [m / (1 : Nat) % (256 : Nat)]) * (1 : Nat) ≤ (140737488355328 : Nat)]) (sc' := []) (by kernel_rfl) (by repeat' first | exact trivial | exact bne_iff_ne.mpr (by omega) | exact bne_eq_false_iff_eq.mpr (by omega) | exact decide_eq_true (by omega) | exact decide_eq_false (by omega) | omega | (simp only [slenD, SV.slen, List.length_append, List.length_cons, List.length_nil]; omega) | (simp only [inR, lo, lim]; omega) | with_reducible rfl | (simp [slenD, SV.slen]; done) | refine ⟨?_, ?_⟩) ?_
      unfold pivN;  rw [if_pos h1]; (first | exact wkR_of rfl | (simp only [Nat.div_div_eq_div_mul, Nat.div_one, Nat.reduceMul]; exact wkR_of rfl))
  by_cases h2 : m < 65536
  · refine hold_endw mixed ctr0_ok (unroll := true) (f := 300) (sc := [false, false, false, false, false, false, false, false, false, true, true]) (r := (Go.Eng.SV.sl Go.IntKind.u8 [m / (256 : Nat) % (256 : Nat), m / (1 : Nat) % (256 : Nat)])) (ob := [Decidable.decide (m < (0 : Nat)) = Bool.false, Decidable.decide ((1099511627775 : Nat) < m) = Bool.false, Bool.false = Bool.false, (m / (4294967296 : Nat) % (256 : Nat) != (0 : Nat)) = Bool.false, Bool.false = Bool.false, (m / (16777216 : Nat) % (256 : Nat) != (0 : Nat)) = Bool.false, Bool.false = Bool.false, (m / (65536 : Nat) % (256 : Nat) != (0 : Nat)) = Bool.false, Bool.false = Bool.false, (m / (256 : Nat) % (256 : Nat) != (0 : Nat)) = Bool.true, Go.Eng.slenD (Go.Eng.SV.sl Go.IntKind.u8 [m / (256 : Nat) % (256 : Nat)]) * (1 : Nat) ≤ (140737488355328 : Nat), Decidable.decide ((0 : Nat) < [m / (256 : Nat) % (256 : Nat)].length) = Bool.true, Go.Eng.slenD (Go.Eng.SV.sl Go.IntKind.u8 [m / (256 : Nat) % (256 : Nat), m / (1 : Nat) % (256 : Nat)]) * (1 : Nat) ≤ (140737488355328 : Nat)]) (sc' := []) (by kernel_rfl) (by repeat' first | exact trivial | exact bne_iff_ne.mpr (by omega) | exact bne_eq_false_iff_eq.mpr (by omega) | exact decide_eq_true (by omega) | exact decide_eq_false (by omega) | omega | (simp only [slenD, SV.slen, List.length_append, List.length_cons, List.length_nil]; omega) | (simp only [inR, lo, lim]; omega) | with_reducible rfl | (simp [slenD, SV.slen]; done) | refine ⟨?_, ?_⟩) ?_
    unfold pivN; rw [if_neg h1]; rw [if_pos h2]; (first | exact wkR_of rfl | (simp only [Nat.div_div_eq_div_mul, Nat.div_one, Nat.reduceMul]; exact wkR_of rfl))
  by_cases h3 : m < 16777216
  · refine hold_endw mixed ctr0_ok (unroll := true) (f := 300) (sc := [false, false, false, false, false, false, false, true, true, true]) (r := (Go.Eng.SV.sl Go.IntKind.u8 [m / (65536 : Nat) % (256 : Nat), m / (256 : Nat) % (256 : Nat), m / (1 : Nat) % (256 : Nat)])) (ob := [Decidable.decide (m < (0 : Nat)) = Bool.false, Decidable.decide ((1099511627775 : Nat) < m) = Bool.false, Bool.false = Bool.false, (m / (4294967296 : Nat) % (256 : Nat) != (0 : Nat)) = Bool.false, Bool.false = Bool.false, (m / (16777216 : Nat) % (256 : Nat) != (0 : Nat)) = Bool.false, Bool.false = Bool.false, (m / (65536 : Nat) % (256 : Nat) != (0 : Nat)) = Bool.true, Go.Eng.slenD (Go.Eng.SV.sl Go.IntKind.u8 [m / (65536 : Nat) % (256 : Nat)]) * (1 : Nat) ≤ (140737488355328 : Nat), Decidable.decide ((0 : Nat) < [m / (65536 : Nat) % (256 : Nat)].length) = Bool.true, Go.Eng.slenD (Go.Eng.SV.sl Go.IntKind.u8 [m / (65536 : Nat) % (256 : Nat), m / (256 : Nat) % (256 : Nat)]) * (1 : Nat) ≤ (140737488355328 : Nat), Decidable.decide ((0 : Nat) < [m / (65536 : Nat) % (256 : Nat), m / (256 : Nat) % (256 : Nat)].length) = Bool.true, Go.Eng.slenD (Go.Eng.SV.sl Go.IntKind.u8 [m / (65536 : Nat) % (256 : Nat), m / (256 : Nat) % (256 : Nat), m / (1 : Nat) % (256 : Nat)]) * (1 : Nat) ≤ (140737488355328 : Nat)]) (sc' := []) (by kernel_rfl) (by repeat' first | exact trivial | exact bne_iff_ne.mpr (by omega) | exact bne_eq_false_iff_eq.mpr (by omega) | exact decide_eq_true (by omega) | exact decide_eq_false (by omega) | omega | (simp only [slenD, SV.slen, List.length_append, List.length_cons, List.length_nil]; omega) | (simp only [inR, lo, lim]; omega) | with_reducible rfl | (simp [slenD, SV.slen]; done) | refine ⟨?_, ?_⟩) ?_
    unfold pivN; rw [if_neg h1]; rw [if_neg h2]; rw [if_pos h3]; (first | exact wkR_of rfl | (simp only [Nat.div_div_eq_div_mul, Nat.div_one, Nat.reduceMul]; exact wkR_of rfl))
  by_cases h4 : m < 4294967296
  · refine hold_endw mixed ctr0_ok (unroll := true) (f := 300) (sc := [false, false, false, false, false, true, true, true, true]) (r := (Go.Eng.SV.sl Go.IntKind.u8 [m / (16777216 : Nat) % (256 : Nat), m / (65536 : Nat) % (256 : Nat), m / (256 : Nat) % (256 : Nat), m / (1 : Nat) % (256 : Nat)])) (ob := [Decidable.decide (m < (0 : Nat)) = Bool.false, Decidable.decide ((1099511627775 : Nat) < m) = Bool.false, Bool.false = Bool.false, (m / (4294967296 : Nat) % (256 : Nat) != (0 : Nat)) = Bool.false, Bool.false = Bool.false, (m / (16777216 : Nat) % (256 : Nat) != (0 : Nat)) = Bool.true, Go.Eng.slenD (Go.Eng.SV.sl Go.IntKind.u8 [m / (16777216 : Nat) % (256 : Nat)]) * (1 : Nat) ≤ (140737488355328 : Nat), Decidable.decide ((0 : Nat) < [m / (16777216 : Nat) % (256 : Nat)].length) = Bool.true, Go.Eng.slenD (Go.Eng.SV.sl Go.IntKind.u8 [m / (16777216 : Nat) % (256 : Nat), m / (65536 : Nat) % (256 : Nat)]) * (1 : Nat) ≤ (140737488355328 : Nat), Decidable.decide ((0 : Nat) < [m / (16777216 : Nat) % (256 : Nat), m / (65536 : Nat) % (256 : Nat)].length) = Bool.true, Go.Eng.slenD (Go.Eng.SV.sl Go.IntKind.u8 [m / (16777216 : Nat) % (256 : Nat), m / (65536 : Nat) % (256 : Nat), m / (256 : Nat) % (256 : Nat)]) * (1 : Nat) ≤ (140737488355328 : Nat), Decidable.decide ((0 : Nat) < [m / (16777216 : Nat) % (256 : Nat), m / (65536 : Nat) % (256 : Nat), m / (256 : Nat) % (256 : Nat)].length) = Bool.true, Go.Eng.slenD (Go.Eng.SV.sl Go.IntKind.u8 [m / (16777216 : Nat) % (256 : Nat), m / (65536 : Nat) % (256 : Nat), m / (256 : Nat) % (256 : Nat), m / (1 : Nat) % (256 : Nat)]) * (1 : Nat) ≤ (140737488355328 : Nat)]) (sc' := []) (by kernel_rfl) (by repeat' first | exact trivial | exact bne_iff_ne.mpr (by omega) | exact bne_eq_false_iff_eq.mpr (by omega) | exact decide_eq_true (by omega) | exact decide_eq_false (by omega) | omega | (simp only [slenD, SV.slen, List.length_append, List.length_cons, List.length_nil]; omega) | (simp only [inR, lo, lim]; omega) | with_reducible rfl | (simp [slenD, SV.slen]; done) | refine ⟨?_, ?_⟩) ?_
    unfold pivN; rw [if_neg h1]; rw [if_neg h2]; rw [if_neg h3]; rw [if_pos h4]; (first | exact wkR_of rfl | (simp only [Nat.div_div_eq_div_mul, Nat.div_one, Nat.reduceMul]; exact wkR_of rfl))
  · refine hold_endw mixed ctr0_ok (unroll := true) (f := 300) (sc := [false, false, false, true, true, true, true, true]) (r := (Go.Eng.SV.sl Go.IntKind.u8 [m / (4294967296 : Nat) % (256 : Nat), m / (16777216 : Nat) % (256 : Nat), m / (65536 : Nat) % (256 : Nat), m / (256 : Nat) % (256 : Nat), m / (1 : Nat) % (256 : Nat)])) (ob := [Decidable.decide (m < (0 : Nat)) = Bool.false, Decidable.decide ((1099511627775 : Nat) < m) = Bool.false, Bool.false = Bool.false, (m / (4294967296 : Nat) % (256 : Nat) != (0 : Nat)) = Bool.true, Go.Eng.slenD (Go.Eng.SV.sl Go.IntKind.u8 [m / (4294967296 : Nat) % (256 : Nat)]) * (1 : Nat) ≤ (140737488355328 : Nat), Decidable.decide ((0 : Nat) < [m / (4294967296 : Nat) % (256 : Nat)].length) = Bool.true, Go.Eng.slenD (Go.Eng.SV.sl Go.IntKind.u8 [m / (4294967296 : Nat) % (256 : Nat), m / (16777216 : Nat) % (256 : Nat)]) * (1 : Nat) ≤ (140737488355328 : Nat), Decidable.decide ((0 : Nat) < [m / (4294967296 : Nat) % (256 : Nat), m / (16777216 : Nat) % (256 : Nat)].length) = Bool.true, Go.Eng.slenD (Go.Eng.SV.sl Go.IntKind.u8 [m / (4294967296 : Nat) % (256 : Nat), m / (16777216 : Nat) % (256 : Nat), m / (65536 : Nat) % (256 : Nat)]) * (1 : Nat) ≤ (140737488355328 : Nat), Decidable.decide ((0 : Nat) < [m / (4294967296 : Nat) % (256 : Nat), m / (16777216 : Nat) % (256 : Nat), m / (65536 : Nat) % (256 : Nat)].length) = Bool.true, Go.Eng.slenD (Go.Eng.SV.sl Go.IntKind.u8 [m / (4294967296 : Nat) % (256 : Nat), m / (16777216 : Nat) % (256 : Nat), m / (65536 : Nat) % (256 : Nat), m / (256 : Nat) % (256 : Nat)]) * (1 : Nat) ≤ (140737488355328 : Nat), Decidable.decide ((0 : Nat) < [m / (4294967296 : Nat) % (256 : Nat), m / (16777216 : Nat) % (256 : Nat), m / (65536 : Nat) % (256 : Nat), m / (256 : Nat) % (256 : Nat)].length) = Bool.true, Go.Eng.slenD (Go.Eng.SV.sl Go.IntKind.u8 [m / (4294967296 : Nat) % (256 : Nat), m / (16777216 : Nat) % (256 : Nat), m / (65536 : Nat) % (256 : Nat), m / (256 : Nat) % (256 : Nat), m / (1 : Nat) % (256 : Nat)]) * (1 : Nat) ≤ (140737488355328 : Nat)]) (sc' := []) (by kernel_rfl) (by repeat' first | exact trivial | exact bne_iff_ne.mpr (by omega) | exact bne_eq_false_iff_eq.mpr (by omega) | exact decide_eq_true (by omega) | exact decide_eq_false (by omega) | omega | (simp only [slenD, SV.slen, List.length_append, List.length_cons, List.length_nil]; omega) | (simp only [inR, lo, lim]; omega) | with_reducible rfl | (simp [slenD, SV.slen]; done) | refine ⟨?_, ?_⟩) ?_
    unfold pivN; rw [if_neg h1]; rw [if_neg h2]; rw [if_neg h3]; rw [if_neg h4]; (first | exact wkR_of rfl | (simp only [Nat.div_div_eq_div_mul, Nat.div_one, Nat.reduceMul]; exact wkR_of rfl))
theorem qpiv_ok : ∀ args res ob, ePivL args = some (res, ob) → All ob → Contract Try.prog 86 args res := by
  intro args res ob he _
  unfold ePivL at he
  split at he
  · split at he
    · rename_i n hx
      cases he
      by_cases h0 : n < 0
      · refine Contract.args (args' := [.i .i64 n]) ⟨int?_wk hx, rfl⟩ ?_
        refine contract Try.func86 (body := bodyOf Try.f86) rfl (by kernel_rfl) (by kernel_rfl) rfl ?_
        intro _ w0 S
        refine hold_endw mixed ctr0_ok (unroll := true) (f := 100) (sc := [true]) (r := (Go.Eng.SV.sl Go.IntKind.u8 [])) (ob := [Decidable.decide (n < (0 : Int)) = Bool.true]) (sc' := []) (by kernel_rfl) (by repeat' first | exact trivial | exact bne_iff_ne.mpr (by omega) | exact bne_eq_false_iff_eq.mpr (by omega) | exact decide_eq_true (by omega) | exact decide_eq_false (by omega) | omega | (simp only [slenD, SV.slen, List.length_append, List.length_cons, List.length_nil]; omega) | (simp only [inR, lo, lim]; omega) | with_reducible rfl | (simp [slenD, SV.slen]; done) | refine ⟨?_, ?_⟩) ?_
        unfold pivL; rw [if_pos (by omega)]; simp [wkR, wk, wk0]
      by_cases h1 : 1099511627775 < n
      · refine Contract.args (args' := [.i .i64 n]) ⟨int?_wk hx, rfl⟩ ?_
        refine contract Try.func86 (body := bodyOf Try.f86) rfl (by kernel_rfl) (by kernel_rfl) rfl ?_
        intro _ w0 S
        refine hold_endw mixed ctr0_ok (unroll := true) (f := 100) (sc := [false, true]) (r := (Go.Eng.SV.sl Go.IntKind.u8 [])) (ob := [Decidable.decide (n < (0 : Int)) = Bool.false, Decidable.decide ((1099511627775 : Int) < n) = Bool.true]) (sc' := []) (by kernel_rfl) (by repeat' first | exact trivial | exact bne_iff_ne.mpr (by omega) | exact bne_eq_false_iff_eq.mpr (by omega) | exact decide_eq_true (by omega) | exact decide_eq_false (by omega) | omega | (simp only [slenD, SV.slen, List.length_append, List.length_cons, List.length_nil]; omega) | (simp only [inR, lo, lim]; omega) | with_reducible rfl | (simp [slenD, SV.slen]; done) | refine ⟨?_, ?_⟩) ?_
        unfold pivL; rw [if_pos (by omega)]; simp [wkR, wk, wk0]
      · unfold pivL; rw [if_neg (by omega)]
        have hw := int?_wk hx
        obtain ⟨m, rfl⟩ : ∃ m : Nat, n = (m : Int) := ⟨n.toNat, by omega⟩
        refine Contract.args (args' := [.i .i64 (m : Int)]) ⟨hw, rfl⟩ ?_
        refine Contract.args (args' := [.u .i64 m]) ⟨by simp [wk, wk0, lim]; omega, rfl⟩ ?_
        exact qpiv_c m (by omega)
    · cases he
  · cases he
theorem nb_l {w0 : World} {S : Own} {res : SV} (b : List Nat) (h5 : b.length ≤ 5) (hb : ∀ x ∈ b, x < 256) (hr : res = .tup [.u .i64 (nbF b b.length), .u .i64 0]) : ∀ d i, b.length - i = d → i ≤ b.length → Hold Try.prog (bodyOf Try.f33) (Fin Try.prog Try.f33 w0 S res) w0 S stNb (sNb b i) := by
  intro d
  induction d using Nat.strongRecOn with
  | _ d ih =>
  intro i hd hi
  have hx := getD_lt (by decide) hb i
  have hn := nbF_le hb (i := i) (by omega)
  refine hold_unroll (c := _) rfl ?_
  by_cases hlt : i < b.length
  · have e := ih (b.length - (i + 1)) (by omega) (i + 1) rfl (by omega)
    have hf : nbF b i < 4294967296 := by
      have h1 := nbF_lt hb i
      have h2 : 256 ^ i ≤ 256 ^ 4 := Nat.pow_le_pow_right (by decide) (by omega)
      omega
    have hs : nbF b (i + 1) = nbF b i * 256 + b.getD i 0 := rfl
    have ho : nbF b i * 256 ||| b.getD i 0 = nbF b (i + 1) := by
      rw [hs]; have := Nat.shiftLeft_add_eq_or_of_lt (i := 8) (b := b.getD i 0) (by omega) (nbF b i)
      rw [Nat.shiftLeft_eq] at this; exact this.symm
    refine hold_cut mixed ctr0_ok (unroll := false) (f := 300) (sc := [true]) (ks := [4,25,26,27]) (bs := []) (nx := 0) (st' := [Go.Eng.It.lp [(0 : Nat), (1 : Nat), (0 : Nat), (1 : Nat), (1 : Nat), (1 : Nat)], Go.Eng.It.blk (1 : Nat), Go.Eng.It.at [(1 : Nat), (1 : Nat), (1 : Nat), (1 : Nat)]]) (σ' := { nt := (38 : Nat), slots := [((4 : Nat), Go.Eng.SV.u Go.IntKind.i64 (nbF b i * (256 : Nat) ||| b.getD i (0 : Nat))), ((25 : Nat), Go.Eng.SV.sl Go.IntKind.u8 b), ((26 : Nat), Go.Eng.SV.u Go.IntKind.i64 b.length), ((27 : Nat), Go.Eng.SV.u Go.IntKind.i64 (i + (1 : Nat)))], blks := [], next := (0 : Nat) }) (ob := [Decidable.decide (i < b.length) = Bool.true, i < b.length, nbF b i * (256 : Nat) < (9223372036854775808 : Nat), i + (1 : Nat) < (9223372036854775808 : Nat)]) (sc' := []) (by kernel_rfl) (by repeat' first | exact trivial | exact bne_iff_ne.mpr (by omega) | exact bne_eq_false_iff_eq.mpr (by omega) | exact decide_eq_true (by omega) | exact decide_eq_false (by omega) | omega | (simp only [slenD, SV.slen, List.length_append, List.length_cons, List.length_nil]; omega) | (simp only [inR, lo, lim]; omega) | with_reducible rfl | (simp [slenD, SV.slen]; done) | refine ⟨?_, ?_⟩) ?_
    refine Hold.weaken e ?_
    simp only [wks, wk, wk0, sNb, lim]
    first | (simp only [ho, hs, and_self, true_and, and_true]; done) | (simp [ho, hs]; omega) | (simp [ho, hs]; done) | skip
  · have e : i = b.length := by omega
    subst e
    refine hold_endw mixed ctr0_ok (unroll := false) (f := 300) (sc := [false]) (r := (Go.Eng.SV.tup [Go.Eng.SV.u Go.IntKind.i64 (nbF b b.length), Go.Eng.SV.c Go.IntKind.i64 (0 : Int)])) (ob := [Decidable.decide (b.length < b.length) = Bool.false]) (sc' := []) (by kernel_rfl) (by repeat' first | exact trivial | exact bne_iff_ne.mpr (by omega) | exact bne_eq_false_iff_eq.mpr (by omega) | exact decide_eq_true (by omega) | exact decide_eq_false (by omega) | omega | (simp only [slenD, SV.slen, List.length_append, List.length_cons, List.length_nil]; omega) | (simp only [inR, lo, lim]; omega) | with_reducible rfl | (simp [slenD, SV.slen]; done) | refine ⟨?_, ?_⟩) ?_
    rw [hr]; simp [wkR, wkl, wk, wk0, lim]
theorem nb_ok : ∀ args res ob, eNum args = some (res, ob) → All ob → Contract Try.prog 33 args res := by
  intro args res ob he _
  unfold eNum at he
  split at he
  · split at he
    · rename_i b hx
      cases he
      refine Contract.args (args' := [.sl .u8 b]) ⟨wk_of0 (part_wk hx), rfl⟩ ?_
      refine contract Try.func33 (body := bodyOf Try.f33) rfl (by kernel_rfl) (by kernel_rfl) rfl ?_
      rintro ⟨⟨_, hb⟩, _⟩ w0 S
      have hb : ∀ x ∈ b, x < 256 := hb
      by_cases h0 : b.length = 0
      · refine hold_endw mixed ctr0_ok (unroll := true) (f := 100) (sc := [true]) (r := (Go.Eng.SV.tup [Go.Eng.SV.c Go.IntKind.i64 (0 : Int), Go.Eng.SV.c Go.IntKind.i64 (2 : Int)])) (ob := [(b.length == (0 : Nat)) = Bool.true]) (sc' := []) (by kernel_rfl) (by repeat' first | exact trivial | exact bne_iff_ne.mpr (by omega) | exact bne_eq_false_iff_eq.mpr (by omega) | exact decide_eq_true (by omega) | exact decide_eq_false (by omega) | omega | (simp only [slenD, SV.slen, List.length_append, List.length_cons, List.length_nil]; omega) | (simp only [inR, lo, lim]; omega) | with_reducible rfl | (simp [slenD, SV.slen]; done) | refine ⟨?_, ?_⟩) ?_
        simp [wkR, wkl, wk, wk0, lim, nbV, nbE, h0]
      by_cases h5 : 5 < b.length
      · refine hold_endw mixed ctr0_ok (unroll := true) (f := 100) (sc := [false, true]) (r := (Go.Eng.SV.tup [Go.Eng.SV.c Go.IntKind.i64 (0 : Int), Go.Eng.SV.c Go.IntKind.i64 (8 : Int)])) (ob := [(b.length == (0 : Nat)) = Bool.false, Decidable.decide ((5 : Nat) < b.length) = Bool.true]) (sc' := []) (by kernel_rfl) (by repeat' first | exact trivial | exact bne_iff_ne.mpr (by omega) | exact bne_eq_false_iff_eq.mpr (by omega) | exact decide_eq_true (by omega) | exact decide_eq_false (by omega) | omega | (simp only [slenD, SV.slen, List.length_append, List.length_cons, List.length_nil]; omega) | (simp only [inR, lo, lim]; omega) | with_reducible rfl | (simp [slenD, SV.slen]; done) | refine ⟨?_, ?_⟩) ?_
        simp [wkR, wkl, wk, wk0, lim, nbV, nbE, h0, h5]
      by_cases h1 : 1 < b.length
      · by_cases hz : b.getD 0 0 = 0
        · refine hold_endw mixed ctr0_ok (unroll := true) (f := 100) (sc := [false, false, true, true]) (r := (Go.Eng.SV.tup [Go.Eng.SV.c Go.IntKind.i64 (0 : Int), Go.Eng.SV.c Go.IntKind.i64 (4 : Int)])) (ob := [(b.length == (0 : Nat)) = Bool.false, Decidable.decide ((5 : Nat) < b.length) = Bool.false, Decidable.decide ((1 : Nat) < b.length) = Bool.true, (0 : Nat) < b.length, (b.getD (0 : Nat) (0 : Nat) == (0 : Nat)) = Bool.true]) (sc' := []) (by kernel_rfl) (by repeat' first | exact trivial | exact bne_iff_ne.mpr (by omega) | exact bne_eq_false_iff_eq.mpr (by omega) | exact decide_eq_true (by omega) | exact decide_eq_false (by omega) | omega | (simp only [slenD, SV.slen, List.length_append, List.length_cons, List.length_nil]; omega) | (simp only [inR, lo, lim]; omega) | with_reducible rfl | (simp [slenD, SV.slen]; done) | refine ⟨?_, ?_⟩) ?_
          have e4 : nbE b = 4 := by unfold nbE; rw [if_neg h0, if_neg h5, if_pos ⟨h1, hz⟩]
          simp [wkR, wkl, wk, wk0, lim, nbV, e4]
        · have e4 : nbE b = 0 := by unfold nbE; rw [if_neg h0, if_neg h5, if_neg (fun h => hz h.2)]
          refine hold_cut mixed ctr0_ok (unroll := false) (f := 100) (sc := [false, false, true, false]) (ks := [4,25,26,27]) (bs := []) (nx := 0) (st' := [Go.Eng.It.lp [(0 : Nat), (1 : Nat), (0 : Nat), (1 : Nat), (1 : Nat), (1 : Nat)], Go.Eng.It.blk (1 : Nat), Go.Eng.It.at [(1 : Nat), (1 : Nat), (1 : Nat), (1 : Nat)]]) (σ' := { nt := (38 : Nat), slots := [((4 : Nat), Go.Eng.SV.c Go.IntKind.i64 (0 : Int)), ((25 : Nat), Go.Eng.SV.sl Go.IntKind.u8 b), ((26 : Nat), Go.Eng.SV.u Go.IntKind.i64 b.length), ((27 : Nat), Go.Eng.SV.c Go.IntKind.i64 (0 : Int))], blks := [], next := (0 : Nat) }) (ob := [(b.length == (0 : Nat)) = Bool.false, Decidable.decide ((5 : Nat) < b.length) = Bool.false, Decidable.decide ((1 : Nat) < b.length) = Bool.true, (0 : Nat) < b.length, (b.getD (0 : Nat) (0 : Nat) == (0 : Nat)) = Bool.false]) (sc' := []) (by kernel_rfl) (by repeat' first | exact trivial | exact bne_iff_ne.mpr (by omega) | exact bne_eq_false_iff_eq.mpr (by omega) | exact decide_eq_true (by omega) | exact decide_eq_false (by omega) | omega | (simp only [slenD, SV.slen, List.length_append, List.length_cons, List.length_nil]; omega) | (simp only [inR, lo, lim]; omega) | with_reducible rfl | (simp [slenD, SV.slen]; done) | refine ⟨?_, ?_⟩) ?_
          exact Hold.weaken (nb_l b (by omega) hb (by rw [e4, show nbV b = nbF b b.length by unfold nbV; rw [if_pos e4]]) _ 0 rfl (by omega)) (by simp [wks, wk, wk0, lim, sNb, nbF])
      · have e4 : nbE b = 0 := by unfold nbE; rw [if_neg h0, if_neg h5, if_neg (fun h => h1 h.1)]
        refine hold_cut mixed ctr0_ok (unroll := false) (f := 100) (sc := [false, false, false]) (ks := [4,25,26,27]) (bs := []) (nx := 0) (st' := [Go.Eng.It.lp [(0 : Nat), (1 : Nat), (0 : Nat), (1 : Nat), (1 : Nat), (1 : Nat)], Go.Eng.It.blk (1 : Nat), Go.Eng.It.at [(1 : Nat), (1 : Nat), (1 : Nat), (1 : Nat)]]) (σ' := { nt := (38 : Nat), slots := [((4 : Nat), Go.Eng.SV.c Go.IntKind.i64 (0 : Int)), ((25 : Nat), Go.Eng.SV.sl Go.IntKind.u8 b), ((26 : Nat), Go.Eng.SV.u Go.IntKind.i64 b.length), ((27 : Nat), Go.Eng.SV.c Go.IntKind.i64 (0 : Int))], blks := [], next := (0 : Nat) }) (ob := [(b.length == (0 : Nat)) = Bool.false, Decidable.decide ((5 : Nat) < b.length) = Bool.false, Decidable.decide ((1 : Nat) < b.length) = Bool.false]) (sc' := []) (by kernel_rfl) (by repeat' first | exact trivial | exact bne_iff_ne.mpr (by omega) | exact bne_eq_false_iff_eq.mpr (by omega) | exact decide_eq_true (by omega) | exact decide_eq_false (by omega) | omega | (simp only [slenD, SV.slen, List.length_append, List.length_cons, List.length_nil]; omega) | (simp only [inR, lo, lim]; omega) | with_reducible rfl | (simp [slenD, SV.slen]; done) | refine ⟨?_, ?_⟩) ?_
        exact Hold.weaken (nb_l b (by omega) hb (by rw [e4, show nbV b = nbF b b.length by unfold nbV; rw [if_pos e4]]) _ 0 rfl (by omega)) (by simp [wks, wk, wk0, lim, sNb, nbF])
    · cases he
  · cases he
theorem qnb_l {w0 : World} {S : Own} {res : SV} (b : List Nat) (h5 : b.length ≤ 5) (hb : ∀ x ∈ b, x < 256) (hr : res = .tup [.u .i64 (nbF b b.length), .u .i64 0]) : ∀ d i, b.length - i = d → i ≤ b.length → Hold Try.prog (bodyOf Try.f87) (Fin Try.prog Try.f87 w0 S res) w0 S stNb (sNb b i) := by
  intro d
  induction d using Nat.strongRecOn with
  | _ d ih =>
  intro i hd hi
  have hx := getD_lt (by decide) hb i
  have hn := nbF_le hb (i := i) (by omega)
  refine hold_unroll (c := _) rfl ?_
  by_cases hlt : i < b.length
  · have e := ih (b.length - (i + 1)) (by omega) (i + 1) rfl (by omega)
    have hf : nbF b i < 4294967296 := by
      have h1 := nbF_lt hb i
      have h2 : 256 ^ i ≤ 256 ^ 4 := Nat.pow_le_pow_right (by decide) (by omega)
      omega
    have hs : nbF b (i + 1) = nbF b i * 256 + b.getD i 0 := rfl
    have ho : nbF b i * 256 ||| b.getD i 0 = nbF b (i + 1) := by
      rw [hs]; have := Nat.shiftLeft_add_eq_or_of_lt (i := 8) (b := b.getD i 0) (by omega) (nbF b i)
      rw [Nat.shiftLeft_eq] at this; exact this.symm
    refine hold_cut mixed ctr0_ok (unroll := false) (f := 300) (sc := [true]) (ks := [4,25,26,27]) (bs := []) (nx := 0) (st' := [Go.Eng.It.lp [(0 : Nat), (1 : Nat), (0 : Nat), (1 : Nat), (1 : Nat), (1 : Nat)], Go.Eng.It.blk (1 : Nat), Go.Eng.It.at [(1 : Nat), (1 : Nat), (1 : Nat), (1 : Nat)]]) (σ' := { nt := (38 : Nat), slots := [((4 : Nat), Go.Eng.SV.u Go.IntKind.i64 (nbF b i * (256 : Nat) + b.getD i (0 : Nat))), ((25 : Nat), Go.Eng.SV.sl Go.IntKind.u8 b), ((26 : Nat), Go.Eng.SV.u Go.IntKind.i64 b.length), ((27 : Nat), Go.Eng.SV.u Go.IntKind.i64 (i + (1 : Nat)))], blks := [], next := (0 : Nat) }) (ob := [Decidable.decide (i < b.length) = Bool.true, i < b.length, nbF b i * (256 : Nat) < (9223372036854775808 : Nat), nbF b i * (256 : Nat) + b.getD i (0 : Nat) < (9223372036854775808 : Nat), i + (1 : Nat) < (9223372036854775808 : Nat)]) (sc' := []) (by kernel_rfl) (by repeat' first | exact trivial | exact bne_iff_ne.mpr (by omega) | exact bne_eq_false_iff_eq.mpr (by omega) | exact decide_eq_true (by omega) | exact decide_eq_false (by omega) | omega | (simp only [slenD, SV.slen, List.length_append, List.length_cons, List.length_nil]; omega) | (simp only [inR, lo, lim]; omega) | with_reducible rfl | (simp [slenD, SV.slen]; done) | refine ⟨?_, ?_⟩) ?_
    refine Hold.weaken e ?_
    simp only [wks, wk, wk0, sNb, lim]
    first | (simp only [ho, hs, and_self, true_and, and_true]; done) | (simp [ho, hs]; omega) | (simp [ho, hs]; done) | skip
  · have e : i = b.length := by omega
    subst e
    refine hold_endw mixed ctr0_ok (unroll := false) (f := 300) (sc := [false]) (r := (Go.Eng.SV.tup [Go.Eng.SV.u Go.IntKind.i64 (nbF b b.length), Go.Eng.SV.c Go.IntKind.i64 (0 : Int)])) (ob := [Decidable.decide (b.length < b.length) = Bool.false]) (sc' := []) (by kernel_rfl) (by repeat' first | exact trivial | exact bne_iff_ne.mpr (by omega) | exact bne_eq_false_iff_eq.mpr (by omega) | exact decide_eq_true (by omega) | exact decide_eq_false (by omega) | omega | (simp only [slenD, SV.slen, List.length_append, List.length_cons, List.length_nil]; omega) | (simp only [inR, lo, lim]; omega) | with_reducible rfl | (simp [slenD, SV.slen]; done) | refine ⟨?_, ?_⟩) ?_
    rw [hr]; simp [wkR, wkl, wk, wk0, lim]
theorem qnb_ok : ∀ args res ob, eNum args = some (res, ob) → All ob → Contract Try.prog 87 args res := by
  intro args res ob he _
  unfold eNum at he
  split at he
  · split at he
    · rename_i b hx
      cases he
      refine Contract.args (args' := [.sl .u8 b]) ⟨wk_of0 (part_wk hx), rfl⟩ ?_
      refine contract Try.func87 (body := bodyOf Try.f87) rfl (by kernel_rfl) (by kernel_rfl) rfl ?_
      rintro ⟨⟨_, hb⟩, _⟩ w0 S
      have hb : ∀ x ∈ b, x < 256 := hb
      by_cases h0 : b.length = 0
      · refine hold_endw mixed ctr0_ok (unroll := true) (f := 100) (sc := [true]) (r := (Go.Eng.SV.tup [Go.Eng.SV.c Go.IntKind.i64 (0 : Int), Go.Eng.SV.c Go.IntKind.i64 (2 : Int)])) (ob := [(b.length == (0 : Nat)) = Bool.true]) (sc' := []) (by kernel_rfl) (by repeat' first | exact trivial | exact bne_iff_ne.mpr (by omega) | exact bne_eq_false_iff_eq.mpr (by omega) | exact decide_eq_true (by omega) | exact decide_eq_false (by omega) | omega | (simp only [slenD, SV.slen, List.length_append, List.length_cons, List.length_nil]; omega) | (simp only [inR, lo, lim]; omega) | with_reducible rfl | (simp [slenD, SV.slen]; done) | refine ⟨?_, ?_⟩) ?_
        simp [wkR, wkl, wk, wk0, lim, nbV, nbE, h0]
      by_cases h5 : 5 < b.length
      · refine hold_endw mixed ctr0_ok (unroll := true) (f := 100) (sc := [false, true]) (r := (Go.Eng.SV.tup [Go.Eng.SV.c Go.IntKind.i64 (0 : Int), Go.Eng.SV.c Go.IntKind.i64 (8 : Int)])) (ob := [(b.length == (0 : Nat)) = Bool.false, Decidable.decide ((5 : Nat) < b.length) = Bool.true]) (sc' := []) (by kernel_rfl) (by repeat' first | exact trivial | exact bne_iff_ne.mpr (by omega) | exact bne_eq_false_iff_eq.mpr (by omega) | exact decide_eq_true (by omega) | exact decide_eq_false (by omega) | omega | (simp only [slenD, SV.slen, List.length_append, List.length_cons, List.length_nil]; omega) | (simp only [inR, lo, lim]; omega) | with_reducible rfl | (simp [slenD, SV.slen]; done) | refine ⟨?_, ?_⟩) ?_
        simp [wkR, wkl, wk, wk0, lim, nbV, nbE, h0, h5]
      by_cases h1 : 1 < b.length
      · by_cases hz : b.getD 0 0 = 0
        · refine hold_endw mixed ctr0_ok (unroll := true) (f := 100) (sc := [false, false, true, true]) (r := (Go.Eng.SV.tup [Go.Eng.SV.c Go.IntKind.i64 (0 : Int), Go.Eng.SV.c Go.IntKind.i64 (4 : Int)])) (ob := [(b.length == (0 : Nat)) = Bool.false, Decidable.decide ((5 : Nat) < b.length) = Bool.false, Decidable.decide ((1 : Nat) < b.length) = Bool.true, (0 : Nat) < b.length, (b.getD (0 : Nat) (0 : Nat) == (0 : Nat)) = Bool.true]) (sc' := []) (by kernel_rfl) (by repeat' first | exact trivial | exact bne_iff_ne.mpr (by omega) | exact bne_eq_false_iff_eq.mpr (by omega) | exact decide_eq_true (by omega) | exact decide_eq_false (by omega) | omega | (simp only [slenD, SV.slen, List.length_append, List.length_cons, List.length_nil]; omega) | (simp only [inR, lo, lim]; omega) | with_reducible rfl | (simp [slenD, SV.slen]; done) | refine ⟨?_, ?_⟩) ?_
          have e4 : nbE b = 4 := by unfold nbE; rw [if_neg h0, if_neg h5, if_pos ⟨h1, hz⟩]
          simp [wkR, wkl, wk, wk0, lim, nbV, e4]
        · have e4 : nbE b = 0 := by unfold nbE; rw [if_neg h0, if_neg h5, if_neg (fun h => hz h.2)]
          refine hold_cut mixed ctr0_ok (unroll := false) (f := 100) (sc := [false, false, true, false]) (ks := [4,25,26,27]) (bs := []) (nx := 0) (st' := [Go.Eng.It.lp [(0 : Nat), (1 : Nat), (0 : Nat), (1 : Nat), (1 : Nat), (1 : Nat)], Go.Eng.It.blk (1 : Nat), Go.Eng.It.at [(1 : Nat), (1 : Nat), (1 : Nat), (1 : Nat)]]) (σ' := { nt := (38 : Nat), slots := [((4 : Nat), Go.Eng.SV.c Go.IntKind.i64 (0 : Int)), ((25 : Nat), Go.Eng.SV.sl Go.IntKind.u8 b), ((26 : Nat), Go.Eng.SV.u Go.IntKind.i64 b.length), ((27 : Nat), Go.Eng.SV.c Go.IntKind.i64 (0 : Int))], blks := [], next := (0 : Nat) }) (ob := [(b.length == (0 : Nat)) = Bool.false, Decidable.decide ((5 : Nat) < b.length) = Bool.false, Decidable.decide ((1 : Nat) < b.length) = Bool.true, (0 : Nat) < b.length, (b.getD (0 : Nat) (0 : Nat) == (0 : Nat)) = Bool.false]) (sc' := []) (by kernel_rfl) (by repeat' first | exact trivial | exact bne_iff_ne.mpr (by omega) | exact bne_eq_false_iff_eq.mpr (by omega) | exact decide_eq_true (by omega) | exact decide_eq_false (by omega) | omega | (simp only [slenD, SV.slen, List.length_append, List.length_cons, List.length_nil]; omega) | (simp only [inR, lo, lim]; omega) | with_reducible rfl | (simp [slenD, SV.slen]; done) | refine ⟨?_, ?_⟩) ?_
          exact Hold.weaken (qnb_l b (by omega) hb (by rw [e4, show nbV b = nbF b b.length by unfold nbV; rw [if_pos e4]]) _ 0 rfl (by omega)) (by simp [wks, wk, wk0, lim, sNb, nbF])
      · have e4 : nbE b = 0 := by unfold nbE; rw [if_neg h0, if_neg h5, if_neg (fun h => h1 h.1)]
        refine hold_cut mixed ctr0_ok (unroll := false) (f := 100) (sc := [false, false, false]) (ks := [4,25,26,27]) (bs := []) (nx := 0) (st' := [Go.Eng.It.lp [(0 : Nat), (1 : Nat), (0 : Nat), (1 : Nat), (1 : Nat), (1 : Nat)], Go.Eng.It.blk (1 : Nat), Go.Eng.It.at [(1 : Nat), (1 : Nat), (1 : Nat), (1 : Nat)]]) (σ' := { nt := (38 : Nat), slots := [((4 : Nat), Go.Eng.SV.c Go.IntKind.i64 (0 : Int)), ((25 : Nat), Go.Eng.SV.sl Go.IntKind.u8 b), ((26 : Nat), Go.Eng.SV.u Go.IntKind.i64 b.length), ((27 : Nat), Go.Eng.SV.c Go.IntKind.i64 (0 : Int))], blks := [], next := (0 : Nat) }) (ob := [(b.length == (0 : Nat)) = Bool.false, Decidable.decide ((5 : Nat) < b.length) = Bool.false, Decidable.decide ((1 : Nat) < b.length) = Bool.false]) (sc' := []) (by kernel_rfl) (by repeat' first | exact trivial | exact bne_iff_ne.mpr (by omega) | exact bne_eq_false_iff_eq.mpr (by omega) | exact decide_eq_true (by omega) | exact decide_eq_false (by omega) | omega | (simp only [slenD, SV.slen, List.length_append, List.length_cons, List.length_nil]; omega) | (simp only [inR, lo, lim]; omega) | with_reducible rfl | (simp [slenD, SV.slen]; done) | refine ⟨?_, ?_⟩) ?_
        exact Hold.weaken (qnb_l b (by omega) hb (by rw [e4, show nbV b = nbF b b.length by unfold nbV; rw [if_pos e4]]) _ 0 rfl (by omega)) (by simp [wks, wk, wk0, lim, sNb, nbF])
    · cases he
  · cases he
def ePiv (H : List Bk) (args : List SV) : Option (MRes × List Prop) :=
  match H, args with
  | [⟨116, [.sli l, a], false⟩], [.ptr 0 0 (.c 0)] => match a.nat? with
    | some (.i64, at') => some (⟨.u .i64 (pivs.getD (nextV l at' 10) 0), [deckB l (nextA l at')], []⟩, [])
    | _ => none
  | _, _ => none
theorem nextV_lt (l : List Int) (a : Nat) (n : Int) (hn : 0 < n) : nextV l a n < n.toNat := by
  unfold nextV
  split
  · have := Int.emod_lt_of_pos (l.getD a 0) hn; have := Int.emod_nonneg (l.getD a 0) (show n ≠ 0 by omega); omega
  · omega
def eNextK (k : Nat) (H : List Bk) (args : List SV) : Option (MRes × List Prop) :=
  match H, args with
  | [⟨116, [.sli l, a], false⟩], [.ptr 0 0 (.c 0), x] => match a.nat?, x.int? with
    | some (.i64, at'), some (.i64, 10) => some (⟨.c .i64 k, [deckB l (nextA l at')], []⟩, [nextV l at' 10 = k])
    | _, _ => none
  | _, _ => none
noncomputable def XN (k : Nat) : Ctr := addM 29 (eNextK k) ctr0
theorem ContractM.res {P : Program} {f : FuncId} {H : List Bk} {args : List SV} {r : MRes} {t : SV} (h : ContractM P f H args r) (hw : wkR r.res t) : ContractM P f H args ⟨t, r.upd, r.new⟩ :=
  fun w S β vs h1 h2 h3 h4 h5 => Invokes.mono (h w S β vs h1 h2 h3 h4 h5) fun v w' ⟨β', a, b, c, d⟩ => ⟨β', a, b, wkR_ok hw c, d⟩
theorem okXN (k : Nat) (hk : k < 10) : CtrOk Try.prog (XN k) := by
  refine addM_ok ctr0_ok ?_
  intro H args r ob he hob
  unfold eNextK at he
  split at he
  · rename_i l a x
    split at he
    · rename_i at' ha hx
      cases he
      have hv : nextV l at' 10 = k := hob.1
      exact ContractM.res (r := ⟨.u .i64 (nextV l at' 10), [deckB l (nextA l at')], []⟩) (cNext _ _ _ [0 < (10 : Int)] (by unfold eNext; simp only [ha, hx]) ⟨by decide, trivial⟩) (by simp [wkR, wk, wk0, hv])
    · cases he
  · cases he
theorem piv_m (l : List Int) (a : Nat) : ContractM Try.prog 28 [deckB l a] [.ptr 0 0 (.c 0)] ⟨.u .i64 (pivs.getD (nextV l a 10) 0), [deckB l (nextA l a)], []⟩ := by
  refine contractM Try.func28 (body := bodyOf Try.f28) rfl (by kernel_rfl) (by kernel_rfl) rfl rfl ?_
  intro _ _ F S hF
  have h10 := nextV_lt l a 10 (by omega)
  by_cases e0 : nextV l a 10 = 0
  · rw [e0]
    refine hold_endNw mixed (okXN 0 (by omega)) (news := []) (unroll := true) (f := 100) (sc := []) (r := { res := Go.Eng.SV.c Go.IntKind.i64 (0 : Int), upd := [{ ty := (116 : Nat), segs := [Go.Eng.SV.sli l, Go.Eng.SV.u Go.IntKind.i64 (Go.Eng.B.nextA l a)] }] }) (ob := [Go.Eng.B.nextV l a (10 : Int) = (0 : Nat)]) (sc' := []) (by kernel_rfl) (by repeat' first | exact trivial | exact e0 | omega | refine ⟨?_, ?_⟩) ?_
    exact ⟨by simp [wkR, wk, wk0, lim, pivs], wkB_refl _⟩
  by_cases e1 : nextV l a 10 = 1
  · rw [e1]
    refine hold_endNw mixed (okXN 1 (by omega)) (news := []) (unroll := true) (f := 100) (sc := []) (r := { res := Go.Eng.SV.c Go.IntKind.i64 (1 : Int), upd := [{ ty := (116 : Nat), segs := [Go.Eng.SV.sli l, Go.Eng.SV.u Go.IntKind.i64 (Go.Eng.B.nextA l a)] }] }) (ob := [Go.Eng.B.nextV l a (10 : Int) = (1 : Nat)]) (sc' := []) (by kernel_rfl) (by repeat' first | exact trivial | exact e1 | omega | refine ⟨?_, ?_⟩) ?_
    exact ⟨by simp [wkR, wk, wk0, lim, pivs], wkB_refl _⟩
  by_cases e2 : nextV l a 10 = 2
  · rw [e2]
    refine hold_endNw mixed (okXN 2 (by omega)) (news := []) (unroll := true) (f := 100) (sc := []) (r := { res := Go.Eng.SV.c Go.IntKind.i64 (5 : Int), upd := [{ ty := (116 : Nat), segs := [Go.Eng.SV.sli l, Go.Eng.SV.u Go.IntKind.i64 (Go.Eng.B.nextA l a)] }] }) (ob := [Go.Eng.B.nextV l a (10 : Int) = (2 : Nat)]) (sc' := []) (by kernel_rfl) (by repeat' first | exact trivial | exact e2 | omega | refine ⟨?_, ?_⟩) ?_
    exact ⟨by simp [wkR, wk, wk0, lim, pivs], wkB_refl _⟩
  by_cases e3 : nextV l a 10 = 3
  · rw [e3]
    refine hold_endNw mixed (okXN 3 (by omega)) (news := []) (unroll := true) (f := 100) (sc := []) (r := { res := Go.Eng.SV.c Go.IntKind.i64 (255 : Int), upd := [{ ty := (116 : Nat), segs := [Go.Eng.SV.sli l, Go.Eng.SV.u Go.IntKind.i64 (Go.Eng.B.nextA l a)] }] }) (ob := [Go.Eng.B.nextV l a (10 : Int) = (3 : Nat)]) (sc' := []) (by kernel_rfl) (by repeat' first | exact trivial | exact e3 | omega | refine ⟨?_, ?_⟩) ?_
    exact ⟨by simp [wkR, wk, wk0, lim, pivs], wkB_refl _⟩
  by_cases e4 : nextV l a 10 = 4
  · rw [e4]
    refine hold_endNw mixed (okXN 4 (by omega)) (news := []) (unroll := true) (f := 100) (sc := []) (r := { res := Go.Eng.SV.c Go.IntKind.i64 (256 : Int), upd := [{ ty := (116 : Nat), segs := [Go.Eng.SV.sli l, Go.Eng.SV.u Go.IntKind.i64 (Go.Eng.B.nextA l a)] }] }) (ob := [Go.Eng.B.nextV l a (10 : Int) = (4 : Nat)]) (sc' := []) (by kernel_rfl) (by repeat' first | exact trivial | exact e4 | omega | refine ⟨?_, ?_⟩) ?_
    exact ⟨by simp [wkR, wk, wk0, lim, pivs], wkB_refl _⟩
  by_cases e5 : nextV l a 10 = 5
  · rw [e5]
    refine hold_endNw mixed (okXN 5 (by omega)) (news := []) (unroll := true) (f := 100) (sc := []) (r := { res := Go.Eng.SV.c Go.IntKind.i64 (65535 : Int), upd := [{ ty := (116 : Nat), segs := [Go.Eng.SV.sli l, Go.Eng.SV.u Go.IntKind.i64 (Go.Eng.B.nextA l a)] }] }) (ob := [Go.Eng.B.nextV l a (10 : Int) = (5 : Nat)]) (sc' := []) (by kernel_rfl) (by repeat' first | exact trivial | exact e5 | omega | refine ⟨?_, ?_⟩) ?_
    exact ⟨by simp [wkR, wk, wk0, lim, pivs], wkB_refl _⟩
  by_cases e6 : nextV l a 10 = 6
  · rw [e6]
    refine hold_endNw mixed (okXN 6 (by omega)) (news := []) (unroll := true) (f := 100) (sc := []) (r := { res := Go.Eng.SV.c Go.IntKind.i64 (16777216 : Int), upd := [{ ty := (116 : Nat), segs := [Go.Eng.SV.sli l, Go.Eng.SV.u Go.IntKind.i64 (Go.Eng.B.nextA l a)] }] }) (ob := [Go.Eng.B.nextV l a (10 : Int) = (6 : Nat)]) (sc' := []) (by kernel_rfl) (by repeat' first | exact trivial | exact e6 | omega | refine ⟨?_, ?_⟩) ?_
    exact ⟨by simp [wkR, wk, wk0, lim, pivs], wkB_refl _⟩
  by_cases e7 : nextV l a 10 = 7
  · rw [e7]
    refine hold_endNw mixed (okXN 7 (by omega)) (news := []) (unroll := true) (f := 100) (sc := []) (r := { res := Go.Eng.SV.c Go.IntKind.i64 (1099511627775 : Int), upd := [{ ty := (116 : Nat), segs := [Go.Eng.SV.sli l, Go.Eng.SV.u Go.IntKind.i64 (Go.Eng.B.nextA l a)] }] }) (ob := [Go.Eng.B.nextV l a (10 : Int) = (7 : Nat)]) (sc' := []) (by kernel_rfl) (by repeat' first | exact trivial | exact e7 | omega | refine ⟨?_, ?_⟩) ?_
    exact ⟨by simp [wkR, wk, wk0, lim, pivs], wkB_refl _⟩
  by_cases e8 : nextV l a 10 = 8
  · rw [e8]
    refine hold_endNw mixed (okXN 8 (by omega)) (news := []) (unroll := true) (f := 100) (sc := []) (r := { res := Go.Eng.SV.c Go.IntKind.i64 (1099511627774 : Int), upd := [{ ty := (116 : Nat), segs := [Go.Eng.SV.sli l, Go.Eng.SV.u Go.IntKind.i64 (Go.Eng.B.nextA l a)] }] }) (ob := [Go.Eng.B.nextV l a (10 : Int) = (8 : Nat)]) (sc' := []) (by kernel_rfl) (by repeat' first | exact trivial | exact e8 | omega | refine ⟨?_, ?_⟩) ?_
    exact ⟨by simp [wkR, wk, wk0, lim, pivs], wkB_refl _⟩
  by_cases e9 : nextV l a 10 = 9
  · rw [e9]
    refine hold_endNw mixed (okXN 9 (by omega)) (news := []) (unroll := true) (f := 100) (sc := []) (r := { res := Go.Eng.SV.c Go.IntKind.i64 (4294967296 : Int), upd := [{ ty := (116 : Nat), segs := [Go.Eng.SV.sli l, Go.Eng.SV.u Go.IntKind.i64 (Go.Eng.B.nextA l a)] }] }) (ob := [Go.Eng.B.nextV l a (10 : Int) = (9 : Nat)]) (sc' := []) (by kernel_rfl) (by repeat' first | exact trivial | exact e9 | omega | refine ⟨?_, ?_⟩) ?_
    exact ⟨by simp [wkR, wk, wk0, lim, pivs], wkB_refl _⟩
  omega
theorem piv_mok : ∀ H args r ob, ePiv H args = some (r, ob) → All ob → ContractM Try.prog 28 H args r := by
  intro H args r ob h hob
  unfold ePiv at h
  split at h
  · split at h
    · rename_i ha
      cases h
      exact deck_hand ha (piv_m _ _)
    · cases h
  · cases h
end Go.Eng.B

/- The keys of a context; the example of layer 26. -/
namespace Go.Eng.B
open Go Go.Eng Go.Proofs
set_option maxRecDepth 100000
set_option maxHeartbeats 2000000
set_option linter.unusedSimpArgs false
def validB (s a : List Nat) (q : Bool) (c d r : List Nat) : Bool := decide (1 ≤ s.length) && decide (s.length ≤ 64) && decide (a.length ≤ 64) && decide (c.length ≤ 16) && (q || decide (c.length = 0)) && decide (d.length ≤ 7) && decide (r.length ≤ 7) && !decide (d = r)
def infoL (id c : List Nat) (q : Bool) (kind : List Nat) (n : Int) : List Nat := hd 4 5 ++ strL id ++ (if q = true then strL c else [246]) ++ intL 10 ++ txtL kind ++ intL n
def derK (g : List Nat → List Nat) (s a : List Nat) (id c : List Nat) (q : Bool) : List Nat := expE g (hm g a s) (infoL id c q [75, 101, 121] 16) 16
def derI (g : List Nat → List Nat) (s a : List Nat) (c : List Nat) (q : Bool) : List Nat := expE g (hm g a s) (infoL [] c q [73, 86] 13) 13
def bool? : SV → Option Bool
  | .b x => some x
  | .cb x => some x
  | _ => none
def eCopy (args : List SV) : Option (SV × List Prop) := match args with
  | [x] => match part? x with | some b => some (.sl .u8 b, [b.length ≤ 100000000]) | _ => none
  | _ => none
def eVal (args : List SV) : Option (SV × List Prop) := match args with
  | [.ag [x, y, z, v, u, w]] => match part? x, part? y, bool? z, part? v, part? u, part? w with
    | some s, some a, some q, some c, some d, some r => some (.b (validB s a q c d r), [])
    | _, _, _, _, _, _ => none
  | _ => none
def eInfo (args : List SV) : Option (SV × List Prop) := match args with
  | [x, y, z, .str k, v] => match part? x, part? y, bool? z, v.int? with
    | some i, some c, some q, some (.i64, n) => some (.sl .u8 (infoL i c q k n), [i.length ≤ 10000000, c.length ≤ 10000000, k.length ≤ 10000000])
    | _, _, _, _ => none
  | _ => none
def eDer (g : List Nat → List Nat) (args : List SV) : Option (SV × List Prop) := match args with
  | [.ag [x, y, z, v, u, w]] => match part? x, part? y, bool? z, part? v, part? u, part? w with
    | some s, some a, some q, some c, some d, some r => some (.tup [.ag [.sl .u8 s, .sl .u8 a, .b q, .sl .u8 c, .sl .u8 d, .sl .u8 r, .sl .u8 (derK g s a d c q), .sl .u8 (derK g s a r c q), .sl .u8 (derI g s a c q)], .c .i64 0], [validB s a q c d r = true])
    | _, _, _, _, _, _ => none
  | _ => none
noncomputable def X2a (g h : List Nat → List Nat) : Ctr := addC 129 eCopy (addC 154 eCopy (T9 g h))
theorem vF {s a c d r : List Nat} {q : Bool} (h : s.length < 1 ∨ 64 < s.length ∨ 64 < a.length ∨ 16 < c.length ∨ (q = false ∧ 0 < c.length) ∨ 7 < d.length ∨ 7 < r.length) : validB s a q c d r = false := by
  unfold validB
  rcases h with h | h | h | h | ⟨rfl, h⟩ | h | h
  · rw [decide_eq_false (p := 1 ≤ s.length) (by omega)]; simp
  · rw [decide_eq_false (p := s.length ≤ 64) (by omega)]; simp
  · rw [decide_eq_false (p := a.length ≤ 64) (by omega)]; simp
  · rw [decide_eq_false (p := c.length ≤ 16) (by omega)]; simp
  · rw [decide_eq_false (p := c.length = 0) (by omega)]; simp
  · rw [decide_eq_false (p := d.length ≤ 7) (by omega)]; simp
  · rw [decide_eq_false (p := r.length ≤ 7) (by omega)]; simp
theorem vT {s a c d r : List Nat} {q : Bool} (h1 : 1 ≤ s.length) (h2 : s.length ≤ 64) (h3 : a.length ≤ 64) (h4 : c.length ≤ 16) (h5 : q = true ∨ c.length = 0) (h6 : d.length ≤ 7) (h7 : r.length ≤ 7) : validB s a q c d r = !decide (d = r) := by
  unfold validB
  rw [decide_eq_true h1, decide_eq_true h2, decide_eq_true h3, decide_eq_true h4, decide_eq_true h6, decide_eq_true h7]
  rcases h5 with rfl | h5
  · simp
  · rw [decide_eq_true h5]; simp
theorem bool_wk {x : SV} {q : Bool} (h : bool? x = some q) : wk0 x (.b q) := by
  unfold bool? at h
  split at h
  · cases h; exact wk0_refl _
  · cases h; rfl
  · cases h
section
variable {g h : List Nat → List Nat} (hg : g = sum32) (hh : h = sum64) {w0 : World} {S : Own} {res : SV}
include hg hh
omit hg hh in
theorem copied_ok : ∀ args res ob, eCopy args = some (res, ob) → All ob → Contract Try.prog 129 args res := by
  intro args res ob he hob
  unfold eCopy at he
  split at he
  · split at he
    · rename_i b hx
      cases he
      have hb : b.length ≤ 100000000 := hob.1
      refine Contract.args (args' := [.sl .u8 b]) ⟨wk_of0 (part_wk hx), rfl⟩ ?_
      refine contract Try.func129 (body := bodyOf Try.f129) rfl (by kernel_rfl) (by kernel_rfl) rfl ?_
      intro _ w0 S
      exact hold_endw mixed ctr0_ok (unroll := true) (f := 100) (sc := []) (r := (Go.Eng.SV.sl Go.IntKind.u8 b)) (ob := [Go.Eng.slenD (Go.Eng.SV.sl Go.IntKind.u8 b) * (1 : Nat) ≤ (140737488355328 : Nat)]) (sc' := []) (by kernel_rfl) (by repeat' first | exact trivial | exact decide_eq_true (by omega) | exact decide_eq_false (by omega) | omega | (simp only [slenD, SV.slen, List.length_append, List.length_cons, List.length_nil]; omega) | (simp only [inR, lo, lim]; omega) | with_reducible rfl | (simp [slenD, SV.slen]; done) | refine ⟨?_, ?_⟩) (wkR_of rfl)
    · cases he
  · cases he
omit hg hh in
theorem qcopied_ok : ∀ args res ob, eCopy args = some (res, ob) → All ob → Contract Try.prog 154 args res := by
  intro args res ob he hob
  unfold eCopy at he
  split at he
  · split at he
    · rename_i b hx
      cases he
      have hb : b.length ≤ 100000000 := hob.1
      refine Contract.args (args' := [.sl .u8 b]) ⟨wk_of0 (part_wk hx), rfl⟩ ?_
      refine contract Try.func154 (body := bodyOf Try.f154) rfl (by kernel_rfl) (by kernel_rfl) rfl ?_
      intro _ w0 S
      exact hold_endw mixed ctr0_ok (unroll := true) (f := 100) (sc := []) (r := (Go.Eng.SV.sl Go.IntKind.u8 b)) (ob := [Go.Eng.slenD (Go.Eng.SV.sl Go.IntKind.u8 b) * (1 : Nat) ≤ (140737488355328 : Nat)]) (sc' := []) (by kernel_rfl) (by repeat' first | exact trivial | exact decide_eq_true (by omega) | exact decide_eq_false (by omega) | omega | (simp only [slenD, SV.slen, List.length_append, List.length_cons, List.length_nil]; omega) | (simp only [inR, lo, lim]; omega) | with_reducible rfl | (simp [slenD, SV.slen]; done) | refine ⟨?_, ?_⟩) (wkR_of rfl)
    · cases he
  · cases he
theorem okX2a : CtrOk Try.prog (X2a g h) := addC_ok (addC_ok (okT9 hg hh) qcopied_ok) copied_ok
theorem valid_ok : ∀ args res ob, eVal args = some (res, ob) → All ob → Contract Try.prog 74 args res := by
  intro args res ob he _
  unfold eVal at he
  split at he
  · split at he
    · rename_i s a q c d r h1 h2 h3 h4 h5 h6
      cases he
      refine Contract.args (args' := [.ag [.sl .u8 s, .sl .u8 a, .b q, .sl .u8 c, .sl .u8 d, .sl .u8 r]]) ⟨⟨part_wk h1, part_wk h2, bool_wk h3, part_wk h4, part_wk h5, part_wk h6, rfl⟩, rfl⟩ ?_
      refine contract Try.func74 (body := bodyOf Try.f74) rfl (by kernel_rfl) (by kernel_rfl) rfl ?_
      intro _ w0 S
      cases q with
      | true =>
        rcases Bool.eq_false_or_eq_true (Decidable.decide (s.length < (1 : Nat))) with hc0 | hc0
        · have hd0 := of_decide_eq_true hc0
          refine hold_endw mixed (okX2a hg hh) (unroll := true) (f := 200) (sc := [true]) (r := (Go.Eng.SV.cb Bool.false)) (ob := [Decidable.decide (s.length < (1 : Nat)) = Bool.true]) (sc' := []) (by kernel_rfl) ?_ ?_
          · exact ⟨hc0, trivial⟩
          · first | (rw [vF (q := true) (by omega)]; simp [wkR, wk, wk0]; done) | (rw [vT (q := true) (by omega) (by omega) (by omega) (by omega) (by first | exact .inl rfl | exact .inr (by omega)) (by omega) (by omega)]; first | (simp [wkR, wk, wk0]; done) | (by_cases e : d = r <;> simp_all [wkR, wk, wk0]; done))
        · have hd0 := of_decide_eq_false hc0
          rcases Bool.eq_false_or_eq_true (Decidable.decide ((64 : Nat) < s.length)) with hc1 | hc1
          · have hd1 := of_decide_eq_true hc1
            refine hold_endw mixed (okX2a hg hh) (unroll := true) (f := 200) (sc := [false, true]) (r := (Go.Eng.SV.cb Bool.false)) (ob := [Decidable.decide (s.length < (1 : Nat)) = Bool.false, Decidable.decide ((64 : Nat) < s.length) = Bool.true]) (sc' := []) (by kernel_rfl) ?_ ?_
            · exact ⟨hc0, hc1, trivial⟩
            · first | (rw [vF (q := true) (by omega)]; simp [wkR, wk, wk0]; done) | (rw [vT (q := true) (by omega) (by omega) (by omega) (by omega) (by first | exact .inl rfl | exact .inr (by omega)) (by omega) (by omega)]; first | (simp [wkR, wk, wk0]; done) | (by_cases e : d = r <;> simp_all [wkR, wk, wk0]; done))
          · have hd1 := of_decide_eq_false hc1
            rcases Bool.eq_false_or_eq_true (Decidable.decide ((64 : Nat) < a.length)) with hc2 | hc2
            · have hd2 := of_decide_eq_true hc2
              refine hold_endw mixed (okX2a hg hh) (unroll := true) (f := 200) (sc := [false, false, true]) (r := (Go.Eng.SV.cb Bool.false)) (ob := [Decidable.decide (s.length < (1 : Nat)) = Bool.false, Decidable.decide ((64 : Nat) < s.length) = Bool.false, Decidable.decide ((64 : Nat) < a.length) = Bool.true]) (sc' := []) (by kernel_rfl) ?_ ?_
              · exact ⟨hc0, hc1, hc2, trivial⟩
              · first | (rw [vF (q := true) (by omega)]; simp [wkR, wk, wk0]; done) | (rw [vT (q := true) (by omega) (by omega) (by omega) (by omega) (by first | exact .inl rfl | exact .inr (by omega)) (by omega) (by omega)]; first | (simp [wkR, wk, wk0]; done) | (by_cases e : d = r <;> simp_all [wkR, wk, wk0]; done))
            · have hd2 := of_decide_eq_false hc2
              rcases Bool.eq_false_or_eq_true (Decidable.decide ((16 : Nat) < c.length)) with hc3 | hc3
              · have hd3 := of_decide_eq_true hc3
                refine hold_endw mixed (okX2a hg hh) (unroll := true) (f := 200) (sc := [false, false, false, true]) (r := (Go.Eng.SV.cb Bool.false)) (ob := [Decidable.decide (s.length < (1 : Nat)) = Bool.false, Decidable.decide ((64 : Nat) < s.length) = Bool.false, Decidable.decide ((64 : Nat) < a.length) = Bool.false, Decidable.decide ((16 : Nat) < c.length) = Bool.true]) (sc' := []) (by kernel_rfl) ?_ ?_
                · exact ⟨hc0, hc1, hc2, hc3, trivial⟩
                · first | (rw [vF (q := true) (by omega)]; simp [wkR, wk, wk0]; done) | (rw [vT (q := true) (by omega) (by omega) (by omega) (by omega) (by first | exact .inl rfl | exact .inr (by omega)) (by omega) (by omega)]; first | (simp [wkR, wk, wk0]; done) | (by_cases e : d = r <;> simp_all [wkR, wk, wk0]; done))
              · have hd3 := of_decide_eq_false hc3
                rcases Bool.eq_false_or_eq_true (Bool.false) with hc4 | hc4
                · exact Bool.noConfusion hc4
                · rcases Bool.eq_false_or_eq_true (Decidable.decide (d.length ≤ (7 : Nat))) with hc5 | hc5
                  · have hd5 := of_decide_eq_true hc5
                    rcases Bool.eq_false_or_eq_true (Decidable.decide (r.length ≤ (7 : Nat))) with hc6 | hc6
                    · have hd6 := of_decide_eq_true hc6
                      refine hold_endw mixed (okX2a hg hh) (unroll := true) (f := 200) (sc := [false, false, false, false, false, true, true]) (r := (Go.Eng.SV.b (d != r))) (ob := [Decidable.decide (s.length < (1 : Nat)) = Bool.false, Decidable.decide ((64 : Nat) < s.length) = Bool.false, Decidable.decide ((64 : Nat) < a.length) = Bool.false, Decidable.decide ((16 : Nat) < c.length) = Bool.false, Bool.false = Bool.false, Decidable.decide (d.length ≤ (7 : Nat)) = Bool.true, Decidable.decide (r.length ≤ (7 : Nat)) = Bool.true]) (sc' := []) (by kernel_rfl) ?_ ?_
                      · exact ⟨hc0, hc1, hc2, hc3, hc4, hc5, hc6, trivial⟩
                      · first | (rw [vF (q := true) (by omega)]; simp [wkR, wk, wk0]; done) | (rw [vT (q := true) (by omega) (by omega) (by omega) (by omega) (by first | exact .inl rfl | exact .inr (by omega)) (by omega) (by omega)]; first | (simp [wkR, wk, wk0]; done) | (by_cases e : d = r <;> simp_all [wkR, wk, wk0]; done))
                    · have hd6 := of_decide_eq_false hc6
                      refine hold_endw mixed (okX2a hg hh) (unroll := true) (f := 200) (sc := [false, false, false, false, false, true, false]) (r := (Go.Eng.SV.cb Bool.false)) (ob := [Decidable.decide (s.length < (1 : Nat)) = Bool.false, Decidable.decide ((64 : Nat) < s.length) = Bool.false, Decidable.decide ((64 : Nat) < a.length) = Bool.false, Decidable.decide ((16 : Nat) < c.length) = Bool.false, Bool.false = Bool.false, Decidable.decide (d.length ≤ (7 : Nat)) = Bool.true, Decidable.decide (r.length ≤ (7 : Nat)) = Bool.false]) (sc' := []) (by kernel_rfl) ?_ ?_
                      · exact ⟨hc0, hc1, hc2, hc3, hc4, hc5, hc6, trivial⟩
                      · first | (rw [vF (q := true) (by omega)]; simp [wkR, wk, wk0]; done) | (rw [vT (q := true) (by omega) (by omega) (by omega) (by omega) (by first | exact .inl rfl | exact .inr (by omega)) (by omega) (by omega)]; first | (simp [wkR, wk, wk0]; done) | (by_cases e : d = r <;> simp_all [wkR, wk, wk0]; done))
                  · have hd5 := of_decide_eq_false hc5
                    refine hold_endw mixed (okX2a hg hh) (unroll := true) (f := 200) (sc := [false, false, false, false, false, false]) (r := (Go.Eng.SV.cb Bool.false)) (ob := [Decidable.decide (s.length < (1 : Nat)) = Bool.false, Decidable.decide ((64 : Nat) < s.length) = Bool.false, Decidable.decide ((64 : Nat) < a.length) = Bool.false, Decidable.decide ((16 : Nat) < c.length) = Bool.false, Bool.false = Bool.false, Decidable.decide (d.length ≤ (7 : Nat)) = Bool.false]) (sc' := []) (by kernel_rfl) ?_ ?_
                    · exact ⟨hc0, hc1, hc2, hc3, hc4, hc5, trivial⟩
                    · first | (rw [vF (q := true) (by omega)]; simp [wkR, wk, wk0]; done) | (rw [vT (q := true) (by omega) (by omega) (by omega) (by omega) (by first | exact .inl rfl | exact .inr (by omega)) (by omega) (by omega)]; first | (simp [wkR, wk, wk0]; done) | (by_cases e : d = r <;> simp_all [wkR, wk, wk0]; done))
      | false =>
        rcases Bool.eq_false_or_eq_true (Decidable.decide (s.length < (1 : Nat))) with hc0 | hc0
        · have hd0 := of_decide_eq_true hc0
          refine hold_endw mixed (okX2a hg hh) (unroll := true) (f := 200) (sc := [true]) (r := (Go.Eng.SV.cb Bool.false)) (ob := [Decidable.decide (s.length < (1 : Nat)) = Bool.true]) (sc' := []) (by kernel_rfl) ?_ ?_
          · exact ⟨hc0, trivial⟩
          · first | (rw [vF (q := false) (by omega)]; simp [wkR, wk, wk0]; done) | (rw [vF (q := false) (.inr (.inr (.inr (.inr (.inl ⟨rfl, by omega⟩)))))]; simp [wkR, wk, wk0]; done) | (rw [vT (q := false) (by omega) (by omega) (by omega) (by omega) (by first | exact .inl rfl | exact .inr (by omega)) (by omega) (by omega)]; first | (simp [wkR, wk, wk0]; done) | (by_cases e : d = r <;> simp_all [wkR, wk, wk0]; done))
        · have hd0 := of_decide_eq_false hc0
          rcases Bool.eq_false_or_eq_true (Decidable.decide ((64 : Nat) < s.length)) with hc1 | hc1
          · have hd1 := of_decide_eq_true hc1
            refine hold_endw mixed (okX2a hg hh) (unroll := true) (f := 200) (sc := [false, true]) (r := (Go.Eng.SV.cb Bool.false)) (ob := [Decidable.decide (s.length < (1 : Nat)) = Bool.false, Decidable.decide ((64 : Nat) < s.length) = Bool.true]) (sc' := []) (by kernel_rfl) ?_ ?_
            · exact ⟨hc0, hc1, trivial⟩
            · first | (rw [vF (q := false) (by omega)]; simp [wkR, wk, wk0]; done) | (rw [vF (q := false) (.inr (.inr (.inr (.inr (.inl ⟨rfl, by omega⟩)))))]; simp [wkR, wk, wk0]; done) | (rw [vT (q := false) (by omega) (by omega) (by omega) (by omega) (by first | exact .inl rfl | exact .inr (by omega)) (by omega) (by omega)]; first | (simp [wkR, wk, wk0]; done) | (by_cases e : d = r <;> simp_all [wkR, wk, wk0]; done))
          · have hd1 := of_decide_eq_false hc1
            rcases Bool.eq_false_or_eq_true (Decidable.decide ((64 : Nat) < a.length)) with hc2 | hc2
            · have hd2 := of_decide_eq_true hc2
              refine hold_endw mixed (okX2a hg hh) (unroll := true) (f := 200) (sc := [false, false, true]) (r := (Go.Eng.SV.cb Bool.false)) (ob := [Decidable.decide (s.length < (1 : Nat)) = Bool.false, Decidable.decide ((64 : Nat) < s.length) = Bool.false, Decidable.decide ((64 : Nat) < a.length) = Bool.true]) (sc' := []) (by kernel_rfl) ?_ ?_
              · exact ⟨hc0, hc1, hc2, trivial⟩
              · first | (rw [vF (q := false) (by omega)]; simp [wkR, wk, wk0]; done) | (rw [vF (q := false) (.inr (.inr (.inr (.inr (.inl ⟨rfl, by omega⟩)))))]; simp [wkR, wk, wk0]; done) | (rw [vT (q := false) (by omega) (by omega) (by omega) (by omega) (by first | exact .inl rfl | exact .inr (by omega)) (by omega) (by omega)]; first | (simp [wkR, wk, wk0]; done) | (by_cases e : d = r <;> simp_all [wkR, wk, wk0]; done))
            · have hd2 := of_decide_eq_false hc2
              rcases Bool.eq_false_or_eq_true (Decidable.decide ((16 : Nat) < c.length)) with hc3 | hc3
              · have hd3 := of_decide_eq_true hc3
                refine hold_endw mixed (okX2a hg hh) (unroll := true) (f := 200) (sc := [false, false, false, true]) (r := (Go.Eng.SV.cb Bool.false)) (ob := [Decidable.decide (s.length < (1 : Nat)) = Bool.false, Decidable.decide ((64 : Nat) < s.length) = Bool.false, Decidable.decide ((64 : Nat) < a.length) = Bool.false, Decidable.decide ((16 : Nat) < c.length) = Bool.true]) (sc' := []) (by kernel_rfl) ?_ ?_
                · exact ⟨hc0, hc1, hc2, hc3, trivial⟩
                · first | (rw [vF (q := false) (by omega)]; simp [wkR, wk, wk0]; done) | (rw [vF (q := false) (.inr (.inr (.inr (.inr (.inl ⟨rfl, by omega⟩)))))]; simp [wkR, wk, wk0]; done) | (rw [vT (q := false) (by omega) (by omega) (by omega) (by omega) (by first | exact .inl rfl | exact .inr (by omega)) (by omega) (by omega)]; first | (simp [wkR, wk, wk0]; done) | (by_cases e : d = r <;> simp_all [wkR, wk, wk0]; done))
              · have hd3 := of_decide_eq_false hc3
                rcases Bool.eq_false_or_eq_true (Bool.true) with hc4 | hc4
                · rcases Bool.eq_false_or_eq_true (Decidable.decide ((0 : Nat) < c.length)) with hc5 | hc5
                  · have hd5 := of_decide_eq_true hc5
                    refine hold_endw mixed (okX2a hg hh) (unroll := true) (f := 200) (sc := [false, false, false, false, true, true]) (r := (Go.Eng.SV.cb Bool.false)) (ob := [Decidable.decide (s.length < (1 : Nat)) = Bool.false, Decidable.decide ((64 : Nat) < s.length) = Bool.false, Decidable.decide ((64 : Nat) < a.length) = Bool.false, Decidable.decide ((16 : Nat) < c.length) = Bool.false, Bool.true = Bool.true, Decidable.decide ((0 : Nat) < c.length) = Bool.true]) (sc' := []) (by kernel_rfl) ?_ ?_
                    · exact ⟨hc0, hc1, hc2, hc3, hc4, hc5, trivial⟩
                    · first | (rw [vF (q := false) (by omega)]; simp [wkR, wk, wk0]; done) | (rw [vF (q := false) (.inr (.inr (.inr (.inr (.inl ⟨rfl, by omega⟩)))))]; simp [wkR, wk, wk0]; done) | (rw [vT (q := false) (by omega) (by omega) (by omega) (by omega) (by first | exact .inl rfl | exact .inr (by omega)) (by omega) (by omega)]; first | (simp [wkR, wk, wk0]; done) | (by_cases e : d = r <;> simp_all [wkR, wk, wk0]; done))
                  · have hd5 := of_decide_eq_false hc5
                    rcases Bool.eq_false_or_eq_true (Decidable.decide (d.length ≤ (7 : Nat))) with hc6 | hc6
                    · have hd6 := of_decide_eq_true hc6
                      rcases Bool.eq_false_or_eq_true (Decidable.decide (r.length ≤ (7 : Nat))) with hc7 | hc7
                      · have hd7 := of_decide_eq_true hc7
                        refine hold_endw mixed (okX2a hg hh) (unroll := true) (f := 200) (sc := [false, false, false, false, true, false, true, true]) (r := (Go.Eng.SV.b (d != r))) (ob := [Decidable.decide (s.length < (1 : Nat)) = Bool.false, Decidable.decide ((64 : Nat) < s.length) = Bool.false, Decidable.decide ((64 : Nat) < a.length) = Bool.false, Decidable.decide ((16 : Nat) < c.length) = Bool.false, Bool.true = Bool.true, Decidable.decide ((0 : Nat) < c.length) = Bool.false, Decidable.decide (d.length ≤ (7 : Nat)) = Bool.true, Decidable.decide (r.length ≤ (7 : Nat)) = Bool.true]) (sc' := []) (by kernel_rfl) ?_ ?_
                        · exact ⟨hc0, hc1, hc2, hc3, hc4, hc5, hc6, hc7, trivial⟩
                        · first | (rw [vF (q := false) (by omega)]; simp [wkR, wk, wk0]; done) | (rw [vF (q := false) (.inr (.inr (.inr (.inr (.inl ⟨rfl, by omega⟩)))))]; simp [wkR, wk, wk0]; done) | (rw [vT (q := false) (by omega) (by omega) (by omega) (by omega) (by first | exact .inl rfl | exact .inr (by omega)) (by omega) (by omega)]; first | (simp [wkR, wk, wk0]; done) | (by_cases e : d = r <;> simp_all [wkR, wk, wk0]; done))
                      · have hd7 := of_decide_eq_false hc7
                        refine hold_endw mixed (okX2a hg hh) (unroll := true) (f := 200) (sc := [false, false, false, false, true, false, true, false]) (r := (Go.Eng.SV.cb Bool.false)) (ob := [Decidable.decide (s.length < (1 : Nat)) = Bool.false, Decidable.decide ((64 : Nat) < s.length) = Bool.false, Decidable.decide ((64 : Nat) < a.length) = Bool.false, Decidable.decide ((16 : Nat) < c.length) = Bool.false, Bool.true = Bool.true, Decidable.decide ((0 : Nat) < c.length) = Bool.false, Decidable.decide (d.length ≤ (7 : Nat)) = Bool.true, Decidable.decide (r.length ≤ (7 : Nat)) = Bool.false]) (sc' := []) (by kernel_rfl) ?_ ?_
                        · exact ⟨hc0, hc1, hc2, hc3, hc4, hc5, hc6, hc7, trivial⟩
                        · first | (rw [vF (q := false) (by omega)]; simp [wkR, wk, wk0]; done) | (rw [vF (q := false) (.inr (.inr (.inr (.inr (.inl ⟨rfl, by omega⟩)))))]; simp [wkR, wk, wk0]; done) | (rw [vT (q := false) (by omega) (by omega) (by omega) (by omega) (by first | exact .inl rfl | exact .inr (by omega)) (by omega) (by omega)]; first | (simp [wkR, wk, wk0]; done) | (by_cases e : d = r <;> simp_all [wkR, wk, wk0]; done))
                    · have hd6 := of_decide_eq_false hc6
                      refine hold_endw mixed (okX2a hg hh) (unroll := true) (f := 200) (sc := [false, false, false, false, true, false, false]) (r := (Go.Eng.SV.cb Bool.false)) (ob := [Decidable.decide (s.length < (1 : Nat)) = Bool.false, Decidable.decide ((64 : Nat) < s.length) = Bool.false, Decidable.decide ((64 : Nat) < a.length) = Bool.false, Decidable.decide ((16 : Nat) < c.length) = Bool.false, Bool.true = Bool.true, Decidable.decide ((0 : Nat) < c.length) = Bool.false, Decidable.decide (d.length ≤ (7 : Nat)) = Bool.false]) (sc' := []) (by kernel_rfl) ?_ ?_
                      · exact ⟨hc0, hc1, hc2, hc3, hc4, hc5, hc6, trivial⟩
                      · first | (rw [vF (q := false) (by omega)]; simp [wkR, wk, wk0]; done) | (rw [vF (q := false) (.inr (.inr (.inr (.inr (.inl ⟨rfl, by omega⟩)))))]; simp [wkR, wk, wk0]; done) | (rw [vT (q := false) (by omega) (by omega) (by omega) (by omega) (by first | exact .inl rfl | exact .inr (by omega)) (by omega) (by omega)]; first | (simp [wkR, wk, wk0]; done) | (by_cases e : d = r <;> simp_all [wkR, wk, wk0]; done))
                · exact Bool.noConfusion hc4
    · cases he
  · cases he
theorem info_ok : ∀ args res ob, eInfo args = some (res, ob) → All ob → Contract Try.prog 78 args res := by
  intro args res ob he hob
  unfold eInfo at he
  split at he
  · rename_i x y z k v
    split at he
    · rename_i i c q n h1 h2 h3 h4
      cases he
      obtain ⟨b1, b2, b3, _⟩ := hob
      refine Contract.args (args' := [.sl .u8 i, .sl .u8 c, .b q, .str _, .i .i64 n]) ⟨wk_of0 (part_wk h1), wk_of0 (part_wk h2), wk_of0 (bool_wk h3), wk_refl _, int?_wk h4, rfl⟩ ?_
      refine contract Try.func78 (body := bodyOf Try.f78) rfl (by kernel_rfl) (by kernel_rfl) rfl ?_
      intro _ w0 S
      have s1 := strL_len i; have s2 := strL_len c; have s3 := intL_len n; have s4 := intL_len 10
      have s5 : (txtL k).length ≤ k.length + 9 := by have := hd_len 3 k.length; simp [txtL]; omega
      cases q with
      | true => exact hold_endw mixed (okX2a hg hh) (unroll := true) (f := 200) (sc := [true]) (r := (Go.Eng.SV.sl Go.IntKind.u8 (Go.Eng.B.hd (4 : Nat) (5 : Nat) ++ Go.Eng.B.strL i ++ Go.Eng.B.strL c ++ Go.Eng.B.intL (10 : Int) ++ Go.Eng.B.txtL k ++ Go.Eng.B.intL n))) (ob := [Bool.true = Bool.true, c.length ≤ (100000000 : Nat), i.length ≤ (100000000 : Nat), k.length ≤ (100000000 : Nat), (Go.Eng.B.strL i).length + (Go.Eng.B.strL c).length + (1 : Nat) + (Go.Eng.B.txtL k).length + (Go.Eng.B.intL n).length ≤ (100000000 : Nat)]) (sc' := []) (by kernel_rfl) (by repeat' first | exact trivial | exact decide_eq_true (by omega) | exact decide_eq_false (by omega) | omega | (simp only [slenD, SV.slen, List.length_append, List.length_cons, List.length_nil]; omega) | (simp only [inR, lo, lim]; omega) | with_reducible rfl | (simp [slenD, SV.slen]; done) | refine ⟨?_, ?_⟩) (wkR_of rfl)
      | false => exact hold_endw mixed (okX2a hg hh) (unroll := true) (f := 200) (sc := [false]) (r := (Go.Eng.SV.sl Go.IntKind.u8 (Go.Eng.B.hd (4 : Nat) (5 : Nat) ++ Go.Eng.B.strL i ++ [(246 : Nat)] ++ Go.Eng.B.intL (10 : Int) ++ Go.Eng.B.txtL k ++ Go.Eng.B.intL n))) (ob := [Bool.false = Bool.false, i.length ≤ (100000000 : Nat), k.length ≤ (100000000 : Nat), (Go.Eng.B.strL i).length + (1 : Nat) + (1 : Nat) + (Go.Eng.B.txtL k).length + (Go.Eng.B.intL n).length ≤ (100000000 : Nat)]) (sc' := []) (by kernel_rfl) (by repeat' first | exact trivial | exact decide_eq_true (by omega) | exact decide_eq_false (by omega) | omega | (simp only [slenD, SV.slen, List.length_append, List.length_cons, List.length_nil]; omega) | (simp only [inR, lo, lim]; omega) | with_reducible rfl | (simp [slenD, SV.slen]; done) | refine ⟨?_, ?_⟩) (wkR_of rfl)
    · cases he
  · cases he
noncomputable def X2b (g h : List Nat → List Nat) : Ctr := addC 74 eVal (addC 78 eInfo (X2a g h))
theorem okX2b : CtrOk Try.prog (X2b g h) := addC_ok (addC_ok (okX2a hg hh) (info_ok hg hh)) (valid_ok hg hh)
omit hg hh in
theorem infoL_len (i c k : List Nat) (q : Bool) (n : Int) : (infoL i c q k n).length ≤ i.length + c.length + k.length + 60 := by
  have s1 := strL_len i; have s2 := strL_len c; have s3 := intL_len n; have s4 := intL_len 10
  have s5 : (txtL k).length ≤ k.length + 9 := by have := hd_len 3 k.length; simp [txtL]; omega
  have s6 := hd_len 4 5
  unfold infoL
  cases q <;> simp <;> omega
theorem der_ok : ∀ args res ob, eDer g args = some (res, ob) → All ob → Contract Try.prog 71 args res := by
  have hl : ∀ b, (g b).length = 32 := by rw [hg]; exact sum32_len
  intro args res ob he hob
  unfold eDer at he
  split at he
  · split at he
    · rename_i s a q c d r h1 h2 h3 h4 h5 h6
      cases he
      have hv := hob.1
      have hv' : s.length ≤ 64 ∧ a.length ≤ 64 ∧ c.length ≤ 16 ∧ d.length ≤ 7 ∧ r.length ≤ 7 := by
        simp only [validB, Bool.and_eq_true, decide_eq_true_eq] at hv; omega
      obtain ⟨b1, b2, b3, b4, b5⟩ := hv'
      refine Contract.args (args' := [.ag [.sl .u8 s, .sl .u8 a, .b q, .sl .u8 c, .sl .u8 d, .sl .u8 r]]) ⟨⟨part_wk h1, part_wk h2, bool_wk h3, part_wk h4, part_wk h5, part_wk h6, rfl⟩, rfl⟩ ?_
      have i1 := infoL_len d c [75, 101, 121] q 16; have i2 := infoL_len r c [75, 101, 121] q 16; have i3 := infoL_len [] c [73, 86] q 13
      simp only [List.length_cons, List.length_nil] at i1 i2 i3
      have m1 := hm_len hl a s
      refine contract Try.func71 (body := bodyOf Try.f71) rfl (by kernel_rfl) (by kernel_rfl) rfl ?_
      intro _ w0 S
      exact hold_endw mixed (okX2b hg hh) (unroll := true) (f := 400) (sc := [false]) (r := (Go.Eng.SV.tup [Go.Eng.SV.ag [Go.Eng.SV.sl Go.IntKind.u8 s, Go.Eng.SV.sl Go.IntKind.u8 a, Go.Eng.SV.b q, Go.Eng.SV.sl Go.IntKind.u8 c, Go.Eng.SV.sl Go.IntKind.u8 d, Go.Eng.SV.sl Go.IntKind.u8 r, Go.Eng.SV.sl Go.IntKind.u8 (Go.Eng.B.expE g (Go.Eng.B.hm g a s) (infoL d c q [(75 : Nat), (101 : Nat), (121 : Nat)] (16 : Int)) (16 : Int)), Go.Eng.SV.sl Go.IntKind.u8 (Go.Eng.B.expE g (Go.Eng.B.hm g a s) (infoL r c q [(75 : Nat), (101 : Nat), (121 : Nat)] (16 : Int)) (16 : Int)), Go.Eng.SV.sl Go.IntKind.u8 (Go.Eng.B.expE g (Go.Eng.B.hm g a s) (infoL [] c q [(73 : Nat), (86 : Nat)] (13 : Int)) (13 : Int))], Go.Eng.SV.c Go.IntKind.i64 (0 : Int)])) (ob := [(!validB s a q c d r) = Bool.false, a.length ≤ (900000 : Nat), s.length ≤ (900000 : Nat), s.length ≤ (100000000 : Nat), a.length ≤ (100000000 : Nat), c.length ≤ (100000000 : Nat), d.length ≤ (100000000 : Nat), r.length ≤ (100000000 : Nat), d.length ≤ (10000000 : Nat), c.length ≤ (10000000 : Nat), (3 : Nat) ≤ (10000000 : Nat), (Go.Eng.B.hm g a s).length ≤ (900000 : Nat), (infoL d c q [(75 : Nat), (101 : Nat), (121 : Nat)] (16 : Int)).length ≤ (800000 : Nat), r.length ≤ (10000000 : Nat), c.length ≤ (10000000 : Nat), (3 : Nat) ≤ (10000000 : Nat), (Go.Eng.B.hm g a s).length ≤ (900000 : Nat), (infoL r c q [(75 : Nat), (101 : Nat), (121 : Nat)] (16 : Int)).length ≤ (800000 : Nat), (0 : Nat) ≤ (10000000 : Nat), c.length ≤ (10000000 : Nat), (2 : Nat) ≤ (10000000 : Nat), (Go.Eng.B.hm g a s).length ≤ (900000 : Nat), (infoL [] c q [(73 : Nat), (86 : Nat)] (13 : Int)).length ≤ (800000 : Nat)]) (sc' := []) (by kernel_rfl) (by repeat' first | exact trivial | exact (by rw [hv]; rfl) | omega | (simp only [List.length_cons, List.length_nil]; omega) | refine ⟨?_, ?_⟩) (wkR_of rfl)
    · cases he
  · cases he
noncomputable def X2 (g h : List Nat → List Nat) : Ctr := addC 71 (eDer g) (X2b g h)
theorem okX2 : CtrOk Try.prog (X2 g h) := addC_ok (okX2b hg hh) (der_ok hg hh)
end
theorem exK : derK sum32 [1, 2, 3, 4, 5, 6, 7, 8, 9, 10, 11, 12, 13, 14, 15, 16] [158, 124, 169, 34, 35, 120, 99, 64] [] [] false = [240, 145, 14, 215, 41, 94, 106, 212, 181, 79, 199, 147, 21, 67, 2, 255] := by kernel_rfl
theorem exI : derI sum32 [1, 2, 3, 4, 5, 6, 7, 8, 9, 10, 11, 12, 13, 14, 15, 16] [158, 124, 169, 34, 35, 120, 99, 64] [] false = [70, 34, 212, 221, 109, 148, 65, 104, 238, 251, 84, 152, 124] := by kernel_rfl
section
variable {g h : List Nat → List Nat} (hg : g = sum32) (hh : h = sum64) {w0 : World} {S : Own} {res : SV}
include hg hh
theorem awake26_c : Contract Try.prog 69 [] (.cb true) := by
  refine contract Try.func69 (body := bodyOf Try.f69) rfl (by kernel_rfl) (by kernel_rfl) rfl ?_
  intro _ w0 S
  have e1 : derK g [1, 2, 3, 4, 5, 6, 7, 8, 9, 10, 11, 12, 13, 14, 15, 16] [158, 124, 169, 34, 35, 120, 99, 64] [] [] false = [240, 145, 14, 215, 41, 94, 106, 212, 181, 79, 199, 147, 21, 67, 2, 255] := by rw [hg]; exact exK
  have e2 : derI g [1, 2, 3, 4, 5, 6, 7, 8, 9, 10, 11, 12, 13, 14, 15, 16] [158, 124, 169, 34, 35, 120, 99, 64] [] false = [70, 34, 212, 221, 109, 148, 65, 104, 238, 251, 84, 152, 124] := by rw [hg]; exact exI
  rcases Bool.eq_false_or_eq_true ((derK g [(1 : Nat), (2 : Nat), (3 : Nat), (4 : Nat), (5 : Nat), (6 : Nat), (7 : Nat), (8 : Nat), (9 : Nat), (10 : Nat), (11 : Nat), (12 : Nat), (13 : Nat), (14 : Nat), (15 : Nat), (16 : Nat)] [(158 : Nat), (124 : Nat), (169 : Nat), (34 : Nat), (35 : Nat), (120 : Nat), (99 : Nat), (64 : Nat)] [] [] Bool.false).length == (16 : Nat)) with hc0 | hc0
  · have hd0 := eq_of_beq hc0
    rcases Bool.eq_false_or_eq_true ((derK g [(1 : Nat), (2 : Nat), (3 : Nat), (4 : Nat), (5 : Nat), (6 : Nat), (7 : Nat), (8 : Nat), (9 : Nat), (10 : Nat), (11 : Nat), (12 : Nat), (13 : Nat), (14 : Nat), (15 : Nat), (16 : Nat)] [(158 : Nat), (124 : Nat), (169 : Nat), (34 : Nat), (35 : Nat), (120 : Nat), (99 : Nat), (64 : Nat)] [] [] Bool.false).getD (0 : Nat) (0 : Nat) == (240 : Nat)) with hc1 | hc1
    · have hd1 := eq_of_beq hc1
      rcases Bool.eq_false_or_eq_true ((derK g [(1 : Nat), (2 : Nat), (3 : Nat), (4 : Nat), (5 : Nat), (6 : Nat), (7 : Nat), (8 : Nat), (9 : Nat), (10 : Nat), (11 : Nat), (12 : Nat), (13 : Nat), (14 : Nat), (15 : Nat), (16 : Nat)] [(158 : Nat), (124 : Nat), (169 : Nat), (34 : Nat), (35 : Nat), (120 : Nat), (99 : Nat), (64 : Nat)] [] [] Bool.false).getD (15 : Nat) (0 : Nat) == (255 : Nat)) with hc2 | hc2
      · have hd2 := eq_of_beq hc2
        rcases Bool.eq_false_or_eq_true ((derI g [(1 : Nat), (2 : Nat), (3 : Nat), (4 : Nat), (5 : Nat), (6 : Nat), (7 : Nat), (8 : Nat), (9 : Nat), (10 : Nat), (11 : Nat), (12 : Nat), (13 : Nat), (14 : Nat), (15 : Nat), (16 : Nat)] [(158 : Nat), (124 : Nat), (169 : Nat), (34 : Nat), (35 : Nat), (120 : Nat), (99 : Nat), (64 : Nat)] [] Bool.false).length == (13 : Nat)) with hc3 | hc3
        · have hd3 := eq_of_beq hc3
          rcases Bool.eq_false_or_eq_true ((derI g [(1 : Nat), (2 : Nat), (3 : Nat), (4 : Nat), (5 : Nat), (6 : Nat), (7 : Nat), (8 : Nat), (9 : Nat), (10 : Nat), (11 : Nat), (12 : Nat), (13 : Nat), (14 : Nat), (15 : Nat), (16 : Nat)] [(158 : Nat), (124 : Nat), (169 : Nat), (34 : Nat), (35 : Nat), (120 : Nat), (99 : Nat), (64 : Nat)] [] Bool.false).getD (0 : Nat) (0 : Nat) == (70 : Nat)) with hc4 | hc4
          · have hd4 := eq_of_beq hc4
            refine hold_endw mixed (okX2 hg hh) (unroll := true) (f := 400) (sc := [true, true, true, true, true]) (r := (Go.Eng.SV.b ((derI g [(1 : Nat), (2 : Nat), (3 : Nat), (4 : Nat), (5 : Nat), (6 : Nat), (7 : Nat), (8 : Nat), (9 : Nat), (10 : Nat), (11 : Nat), (12 : Nat), (13 : Nat), (14 : Nat), (15 : Nat), (16 : Nat)] [(158 : Nat), (124 : Nat), (169 : Nat), (34 : Nat), (35 : Nat), (120 : Nat), (99 : Nat), (64 : Nat)] [] Bool.false).getD (12 : Nat) (0 : Nat) == (124 : Nat)))) (ob := [Bool.true = Bool.true, ((derK g [(1 : Nat), (2 : Nat), (3 : Nat), (4 : Nat), (5 : Nat), (6 : Nat), (7 : Nat), (8 : Nat), (9 : Nat), (10 : Nat), (11 : Nat), (12 : Nat), (13 : Nat), (14 : Nat), (15 : Nat), (16 : Nat)] [(158 : Nat), (124 : Nat), (169 : Nat), (34 : Nat), (35 : Nat), (120 : Nat), (99 : Nat), (64 : Nat)] [] [] Bool.false).length == (16 : Nat)) = Bool.true, (0 : Nat) < (derK g [(1 : Nat), (2 : Nat), (3 : Nat), (4 : Nat), (5 : Nat), (6 : Nat), (7 : Nat), (8 : Nat), (9 : Nat), (10 : Nat), (11 : Nat), (12 : Nat), (13 : Nat), (14 : Nat), (15 : Nat), (16 : Nat)] [(158 : Nat), (124 : Nat), (169 : Nat), (34 : Nat), (35 : Nat), (120 : Nat), (99 : Nat), (64 : Nat)] [] [] Bool.false).length, ((derK g [(1 : Nat), (2 : Nat), (3 : Nat), (4 : Nat), (5 : Nat), (6 : Nat), (7 : Nat), (8 : Nat), (9 : Nat), (10 : Nat), (11 : Nat), (12 : Nat), (13 : Nat), (14 : Nat), (15 : Nat), (16 : Nat)] [(158 : Nat), (124 : Nat), (169 : Nat), (34 : Nat), (35 : Nat), (120 : Nat), (99 : Nat), (64 : Nat)] [] [] Bool.false).getD (0 : Nat) (0 : Nat) == (240 : Nat)) = Bool.true, (15 : Nat) < (derK g [(1 : Nat), (2 : Nat), (3 : Nat), (4 : Nat), (5 : Nat), (6 : Nat), (7 : Nat), (8 : Nat), (9 : Nat), (10 : Nat), (11 : Nat), (12 : Nat), (13 : Nat), (14 : Nat), (15 : Nat), (16 : Nat)] [(158 : Nat), (124 : Nat), (169 : Nat), (34 : Nat), (35 : Nat), (120 : Nat), (99 : Nat), (64 : Nat)] [] [] Bool.false).length, ((derK g [(1 : Nat), (2 : Nat), (3 : Nat), (4 : Nat), (5 : Nat), (6 : Nat), (7 : Nat), (8 : Nat), (9 : Nat), (10 : Nat), (11 : Nat), (12 : Nat), (13 : Nat), (14 : Nat), (15 : Nat), (16 : Nat)] [(158 : Nat), (124 : Nat), (169 : Nat), (34 : Nat), (35 : Nat), (120 : Nat), (99 : Nat), (64 : Nat)] [] [] Bool.false).getD (15 : Nat) (0 : Nat) == (255 : Nat)) = Bool.true, ((derI g [(1 : Nat), (2 : Nat), (3 : Nat), (4 : Nat), (5 : Nat), (6 : Nat), (7 : Nat), (8 : Nat), (9 : Nat), (10 : Nat), (11 : Nat), (12 : Nat), (13 : Nat), (14 : Nat), (15 : Nat), (16 : Nat)] [(158 : Nat), (124 : Nat), (169 : Nat), (34 : Nat), (35 : Nat), (120 : Nat), (99 : Nat), (64 : Nat)] [] Bool.false).length == (13 : Nat)) = Bool.true, (0 : Nat) < (derI g [(1 : Nat), (2 : Nat), (3 : Nat), (4 : Nat), (5 : Nat), (6 : Nat), (7 : Nat), (8 : Nat), (9 : Nat), (10 : Nat), (11 : Nat), (12 : Nat), (13 : Nat), (14 : Nat), (15 : Nat), (16 : Nat)] [(158 : Nat), (124 : Nat), (169 : Nat), (34 : Nat), (35 : Nat), (120 : Nat), (99 : Nat), (64 : Nat)] [] Bool.false).length, ((derI g [(1 : Nat), (2 : Nat), (3 : Nat), (4 : Nat), (5 : Nat), (6 : Nat), (7 : Nat), (8 : Nat), (9 : Nat), (10 : Nat), (11 : Nat), (12 : Nat), (13 : Nat), (14 : Nat), (15 : Nat), (16 : Nat)] [(158 : Nat), (124 : Nat), (169 : Nat), (34 : Nat), (35 : Nat), (120 : Nat), (99 : Nat), (64 : Nat)] [] Bool.false).getD (0 : Nat) (0 : Nat) == (70 : Nat)) = Bool.true, (12 : Nat) < (derI g [(1 : Nat), (2 : Nat), (3 : Nat), (4 : Nat), (5 : Nat), (6 : Nat), (7 : Nat), (8 : Nat), (9 : Nat), (10 : Nat), (11 : Nat), (12 : Nat), (13 : Nat), (14 : Nat), (15 : Nat), (16 : Nat)] [(158 : Nat), (124 : Nat), (169 : Nat), (34 : Nat), (35 : Nat), (120 : Nat), (99 : Nat), (64 : Nat)] [] Bool.false).length]) (sc' := []) (by kernel_rfl) ?_ ?_
            · exact ⟨(by first | omega | with_reducible trivial | decide | (rw [e1]; decide) | (rw [e2]; decide)), hc0, (by first | omega | with_reducible trivial | decide | (rw [e1]; decide) | (rw [e2]; decide)), hc1, (by first | omega | with_reducible trivial | decide | (rw [e1]; decide) | (rw [e2]; decide)), hc2, hc3, (by first | omega | with_reducible trivial | decide | (rw [e1]; decide) | (rw [e2]; decide)), hc4, (by first | omega | with_reducible trivial | decide | (rw [e1]; decide) | (rw [e2]; decide)), trivial⟩
            · first | (exfalso; simp_all; done) | (simp_all [wkR, wk, wk0]; done)
          · have hd4 := ne_of_beq_false hc4
            refine hold_endw mixed (okX2 hg hh) (unroll := true) (f := 400) (sc := [true, true, true, true, false]) (r := (Go.Eng.SV.cb Bool.false)) (ob := [Bool.true = Bool.true, ((derK g [(1 : Nat), (2 : Nat), (3 : Nat), (4 : Nat), (5 : Nat), (6 : Nat), (7 : Nat), (8 : Nat), (9 : Nat), (10 : Nat), (11 : Nat), (12 : Nat), (13 : Nat), (14 : Nat), (15 : Nat), (16 : Nat)] [(158 : Nat), (124 : Nat), (169 : Nat), (34 : Nat), (35 : Nat), (120 : Nat), (99 : Nat), (64 : Nat)] [] [] Bool.false).length == (16 : Nat)) = Bool.true, (0 : Nat) < (derK g [(1 : Nat), (2 : Nat), (3 : Nat), (4 : Nat), (5 : Nat), (6 : Nat), (7 : Nat), (8 : Nat), (9 : Nat), (10 : Nat), (11 : Nat), (12 : Nat), (13 : Nat), (14 : Nat), (15 : Nat), (16 : Nat)] [(158 : Nat), (124 : Nat), (169 : Nat), (34 : Nat), (35 : Nat), (120 : Nat), (99 : Nat), (64 : Nat)] [] [] Bool.false).length, ((derK g [(1 : Nat), (2 : Nat), (3 : Nat), (4 : Nat), (5 : Nat), (6 : Nat), (7 : Nat), (8 : Nat), (9 : Nat), (10 : Nat), (11 : Nat), (12 : Nat), (13 : Nat), (14 : Nat), (15 : Nat), (16 : Nat)] [(158 : Nat), (124 : Nat), (169 : Nat), (34 : Nat), (35 : Nat), (120 : Nat), (99 : Nat), (64 : Nat)] [] [] Bool.false).getD (0 : Nat) (0 : Nat) == (240 : Nat)) = Bool.true, (15 : Nat) < (derK g [(1 : Nat), (2 : Nat), (3 : Nat), (4 : Nat), (5 : Nat), (6 : Nat), (7 : Nat), (8 : Nat), (9 : Nat), (10 : Nat), (11 : Nat), (12 : Nat), (13 : Nat), (14 : Nat), (15 : Nat), (16 : Nat)] [(158 : Nat), (124 : Nat), (169 : Nat), (34 : Nat), (35 : Nat), (120 : Nat), (99 : Nat), (64 : Nat)] [] [] Bool.false).length, ((derK g [(1 : Nat), (2 : Nat), (3 : Nat), (4 : Nat), (5 : Nat), (6 : Nat), (7 : Nat), (8 : Nat), (9 : Nat), (10 : Nat), (11 : Nat), (12 : Nat), (13 : Nat), (14 : Nat), (15 : Nat), (16 : Nat)] [(158 : Nat), (124 : Nat), (169 : Nat), (34 : Nat), (35 : Nat), (120 : Nat), (99 : Nat), (64 : Nat)] [] [] Bool.false).getD (15 : Nat) (0 : Nat) == (255 : Nat)) = Bool.true, ((derI g [(1 : Nat), (2 : Nat), (3 : Nat), (4 : Nat), (5 : Nat), (6 : Nat), (7 : Nat), (8 : Nat), (9 : Nat), (10 : Nat), (11 : Nat), (12 : Nat), (13 : Nat), (14 : Nat), (15 : Nat), (16 : Nat)] [(158 : Nat), (124 : Nat), (169 : Nat), (34 : Nat), (35 : Nat), (120 : Nat), (99 : Nat), (64 : Nat)] [] Bool.false).length == (13 : Nat)) = Bool.true, (0 : Nat) < (derI g [(1 : Nat), (2 : Nat), (3 : Nat), (4 : Nat), (5 : Nat), (6 : Nat), (7 : Nat), (8 : Nat), (9 : Nat), (10 : Nat), (11 : Nat), (12 : Nat), (13 : Nat), (14 : Nat), (15 : Nat), (16 : Nat)] [(158 : Nat), (124 : Nat), (169 : Nat), (34 : Nat), (35 : Nat), (120 : Nat), (99 : Nat), (64 : Nat)] [] Bool.false).length, ((derI g [(1 : Nat), (2 : Nat), (3 : Nat), (4 : Nat), (5 : Nat), (6 : Nat), (7 : Nat), (8 : Nat), (9 : Nat), (10 : Nat), (11 : Nat), (12 : Nat), (13 : Nat), (14 : Nat), (15 : Nat), (16 : Nat)] [(158 : Nat), (124 : Nat), (169 : Nat), (34 : Nat), (35 : Nat), (120 : Nat), (99 : Nat), (64 : Nat)] [] Bool.false).getD (0 : Nat) (0 : Nat) == (70 : Nat)) = Bool.false]) (sc' := []) (by kernel_rfl) ?_ ?_
            · exact ⟨(by first | omega | with_reducible trivial | decide | (rw [e1]; decide) | (rw [e2]; decide)), hc0, (by first | omega | with_reducible trivial | decide | (rw [e1]; decide) | (rw [e2]; decide)), hc1, (by first | omega | with_reducible trivial | decide | (rw [e1]; decide) | (rw [e2]; decide)), hc2, hc3, (by first | omega | with_reducible trivial | decide | (rw [e1]; decide) | (rw [e2]; decide)), hc4, trivial⟩
            · first | (exfalso; simp_all; done) | (simp_all [wkR, wk, wk0]; done)
        · have hd3 := ne_of_beq_false hc3
          refine hold_endw mixed (okX2 hg hh) (unroll := true) (f := 400) (sc := [true, true, true, false]) (r := (Go.Eng.SV.cb Bool.false)) (ob := [Bool.true = Bool.true, ((derK g [(1 : Nat), (2 : Nat), (3 : Nat), (4 : Nat), (5 : Nat), (6 : Nat), (7 : Nat), (8 : Nat), (9 : Nat), (10 : Nat), (11 : Nat), (12 : Nat), (13 : Nat), (14 : Nat), (15 : Nat), (16 : Nat)] [(158 : Nat), (124 : Nat), (169 : Nat), (34 : Nat), (35 : Nat), (120 : Nat), (99 : Nat), (64 : Nat)] [] [] Bool.false).length == (16 : Nat)) = Bool.true, (0 : Nat) < (derK g [(1 : Nat), (2 : Nat), (3 : Nat), (4 : Nat), (5 : Nat), (6 : Nat), (7 : Nat), (8 : Nat), (9 : Nat), (10 : Nat), (11 : Nat), (12 : Nat), (13 : Nat), (14 : Nat), (15 : Nat), (16 : Nat)] [(158 : Nat), (124 : Nat), (169 : Nat), (34 : Nat), (35 : Nat), (120 : Nat), (99 : Nat), (64 : Nat)] [] [] Bool.false).length, ((derK g [(1 : Nat), (2 : Nat), (3 : Nat), (4 : Nat), (5 : Nat), (6 : Nat), (7 : Nat), (8 : Nat), (9 : Nat), (10 : Nat), (11 : Nat), (12 : Nat), (13 : Nat), (14 : Nat), (15 : Nat), (16 : Nat)] [(158 : Nat), (124 : Nat), (169 : Nat), (34 : Nat), (35 : Nat), (120 : Nat), (99 : Nat), (64 : Nat)] [] [] Bool.false).getD (0 : Nat) (0 : Nat) == (240 : Nat)) = Bool.true, (15 : Nat) < (derK g [(1 : Nat), (2 : Nat), (3 : Nat), (4 : Nat), (5 : Nat), (6 : Nat), (7 : Nat), (8 : Nat), (9 : Nat), (10 : Nat), (11 : Nat), (12 : Nat), (13 : Nat), (14 : Nat), (15 : Nat), (16 : Nat)] [(158 : Nat), (124 : Nat), (169 : Nat), (34 : Nat), (35 : Nat), (120 : Nat), (99 : Nat), (64 : Nat)] [] [] Bool.false).length, ((derK g [(1 : Nat), (2 : Nat), (3 : Nat), (4 : Nat), (5 : Nat), (6 : Nat), (7 : Nat), (8 : Nat), (9 : Nat), (10 : Nat), (11 : Nat), (12 : Nat), (13 : Nat), (14 : Nat), (15 : Nat), (16 : Nat)] [(158 : Nat), (124 : Nat), (169 : Nat), (34 : Nat), (35 : Nat), (120 : Nat), (99 : Nat), (64 : Nat)] [] [] Bool.false).getD (15 : Nat) (0 : Nat) == (255 : Nat)) = Bool.true, ((derI g [(1 : Nat), (2 : Nat), (3 : Nat), (4 : Nat), (5 : Nat), (6 : Nat), (7 : Nat), (8 : Nat), (9 : Nat), (10 : Nat), (11 : Nat), (12 : Nat), (13 : Nat), (14 : Nat), (15 : Nat), (16 : Nat)] [(158 : Nat), (124 : Nat), (169 : Nat), (34 : Nat), (35 : Nat), (120 : Nat), (99 : Nat), (64 : Nat)] [] Bool.false).length == (13 : Nat)) = Bool.false]) (sc' := []) (by kernel_rfl) ?_ ?_
          · exact ⟨(by first | omega | with_reducible trivial | decide | (rw [e1]; decide) | (rw [e2]; decide)), hc0, (by first | omega | with_reducible trivial | decide | (rw [e1]; decide) | (rw [e2]; decide)), hc1, (by first | omega | with_reducible trivial | decide | (rw [e1]; decide) | (rw [e2]; decide)), hc2, hc3, trivial⟩
          · first | (exfalso; simp_all; done) | (simp_all [wkR, wk, wk0]; done)
      · have hd2 := ne_of_beq_false hc2
        refine hold_endw mixed (okX2 hg hh) (unroll := true) (f := 400) (sc := [true, true, false]) (r := (Go.Eng.SV.cb Bool.false)) (ob := [Bool.true = Bool.true, ((derK g [(1 : Nat), (2 : Nat), (3 : Nat), (4 : Nat), (5 : Nat), (6 : Nat), (7 : Nat), (8 : Nat), (9 : Nat), (10 : Nat), (11 : Nat), (12 : Nat), (13 : Nat), (14 : Nat), (15 : Nat), (16 : Nat)] [(158 : Nat), (124 : Nat), (169 : Nat), (34 : Nat), (35 : Nat), (120 : Nat), (99 : Nat), (64 : Nat)] [] [] Bool.false).length == (16 : Nat)) = Bool.true, (0 : Nat) < (derK g [(1 : Nat), (2 : Nat), (3 : Nat), (4 : Nat), (5 : Nat), (6 : Nat), (7 : Nat), (8 : Nat), (9 : Nat), (10 : Nat), (11 : Nat), (12 : Nat), (13 : Nat), (14 : Nat), (15 : Nat), (16 : Nat)] [(158 : Nat), (124 : Nat), (169 : Nat), (34 : Nat), (35 : Nat), (120 : Nat), (99 : Nat), (64 : Nat)] [] [] Bool.false).length, ((derK g [(1 : Nat), (2 : Nat), (3 : Nat), (4 : Nat), (5 : Nat), (6 : Nat), (7 : Nat), (8 : Nat), (9 : Nat), (10 : Nat), (11 : Nat), (12 : Nat), (13 : Nat), (14 : Nat), (15 : Nat), (16 : Nat)] [(158 : Nat), (124 : Nat), (169 : Nat), (34 : Nat), (35 : Nat), (120 : Nat), (99 : Nat), (64 : Nat)] [] [] Bool.false).getD (0 : Nat) (0 : Nat) == (240 : Nat)) = Bool.true, (15 : Nat) < (derK g [(1 : Nat), (2 : Nat), (3 : Nat), (4 : Nat), (5 : Nat), (6 : Nat), (7 : Nat), (8 : Nat), (9 : Nat), (10 : Nat), (11 : Nat), (12 : Nat), (13 : Nat), (14 : Nat), (15 : Nat), (16 : Nat)] [(158 : Nat), (124 : Nat), (169 : Nat), (34 : Nat), (35 : Nat), (120 : Nat), (99 : Nat), (64 : Nat)] [] [] Bool.false).length, ((derK g [(1 : Nat), (2 : Nat), (3 : Nat), (4 : Nat), (5 : Nat), (6 : Nat), (7 : Nat), (8 : Nat), (9 : Nat), (10 : Nat), (11 : Nat), (12 : Nat), (13 : Nat), (14 : Nat), (15 : Nat), (16 : Nat)] [(158 : Nat), (124 : Nat), (169 : Nat), (34 : Nat), (35 : Nat), (120 : Nat), (99 : Nat), (64 : Nat)] [] [] Bool.false).getD (15 : Nat) (0 : Nat) == (255 : Nat)) = Bool.false]) (sc' := []) (by kernel_rfl) ?_ ?_
        · exact ⟨(by first | omega | with_reducible trivial | decide | (rw [e1]; decide) | (rw [e2]; decide)), hc0, (by first | omega | with_reducible trivial | decide | (rw [e1]; decide) | (rw [e2]; decide)), hc1, (by first | omega | with_reducible trivial | decide | (rw [e1]; decide) | (rw [e2]; decide)), hc2, trivial⟩
        · first | (exfalso; simp_all; done) | (simp_all [wkR, wk, wk0]; done)
    · have hd1 := ne_of_beq_false hc1
      refine hold_endw mixed (okX2 hg hh) (unroll := true) (f := 400) (sc := [true, false]) (r := (Go.Eng.SV.cb Bool.false)) (ob := [Bool.true = Bool.true, ((derK g [(1 : Nat), (2 : Nat), (3 : Nat), (4 : Nat), (5 : Nat), (6 : Nat), (7 : Nat), (8 : Nat), (9 : Nat), (10 : Nat), (11 : Nat), (12 : Nat), (13 : Nat), (14 : Nat), (15 : Nat), (16 : Nat)] [(158 : Nat), (124 : Nat), (169 : Nat), (34 : Nat), (35 : Nat), (120 : Nat), (99 : Nat), (64 : Nat)] [] [] Bool.false).length == (16 : Nat)) = Bool.true, (0 : Nat) < (derK g [(1 : Nat), (2 : Nat), (3 : Nat), (4 : Nat), (5 : Nat), (6 : Nat), (7 : Nat), (8 : Nat), (9 : Nat), (10 : Nat), (11 : Nat), (12 : Nat), (13 : Nat), (14 : Nat), (15 : Nat), (16 : Nat)] [(158 : Nat), (124 : Nat), (169 : Nat), (34 : Nat), (35 : Nat), (120 : Nat), (99 : Nat), (64 : Nat)] [] [] Bool.false).length, ((derK g [(1 : Nat), (2 : Nat), (3 : Nat), (4 : Nat), (5 : Nat), (6 : Nat), (7 : Nat), (8 : Nat), (9 : Nat), (10 : Nat), (11 : Nat), (12 : Nat), (13 : Nat), (14 : Nat), (15 : Nat), (16 : Nat)] [(158 : Nat), (124 : Nat), (169 : Nat), (34 : Nat), (35 : Nat), (120 : Nat), (99 : Nat), (64 : Nat)] [] [] Bool.false).getD (0 : Nat) (0 : Nat) == (240 : Nat)) = Bool.false]) (sc' := []) (by kernel_rfl) ?_ ?_
      · exact ⟨(by first | omega | with_reducible trivial | decide | (rw [e1]; decide) | (rw [e2]; decide)), hc0, (by first | omega | with_reducible trivial | decide | (rw [e1]; decide) | (rw [e2]; decide)), hc1, trivial⟩
      · first | (exfalso; simp_all; done) | (simp_all [wkR, wk, wk0]; done)
  · have hd0 := ne_of_beq_false hc0
    refine hold_endw mixed (okX2 hg hh) (unroll := true) (f := 400) (sc := [false]) (r := (Go.Eng.SV.cb Bool.false)) (ob := [Bool.true = Bool.true, ((derK g [(1 : Nat), (2 : Nat), (3 : Nat), (4 : Nat), (5 : Nat), (6 : Nat), (7 : Nat), (8 : Nat), (9 : Nat), (10 : Nat), (11 : Nat), (12 : Nat), (13 : Nat), (14 : Nat), (15 : Nat), (16 : Nat)] [(158 : Nat), (124 : Nat), (169 : Nat), (34 : Nat), (35 : Nat), (120 : Nat), (99 : Nat), (64 : Nat)] [] [] Bool.false).length == (16 : Nat)) = Bool.false]) (sc' := []) (by kernel_rfl) ?_ ?_
    · exact ⟨(by first | omega | with_reducible trivial | decide | (rw [e1]; decide) | (rw [e2]; decide)), hc0, trivial⟩
    · first | (exfalso; simp_all; done) | (simp_all [wkR, wk, wk0]; done)
end
end Go.Eng.B

/- ContextNumbers gives true. -/
namespace Go.Eng.B
open Go Go.Eng Go.Proofs
set_option maxRecDepth 100000
set_option maxHeartbeats 2000000
set_option linter.unusedSimpArgs false
noncomputable def X3 (g h : List Nat → List Nat) : Ctr := addC 68 eSmall (addC 69 eT (addC 34 ePivL (addC 86 ePivL (addC 33 eNum (addC 87 eNum (addM 28 ePiv (X2 g h)))))))
section
variable {g h : List Nat → List Nat} (hg : g = sum32) (hh : h = sum64)
include hg hh
theorem okX3 : CtrOk Try.prog (X3 g h) := addC_ok (addC_ok (addC_ok (addC_ok (addC_ok (addC_ok (addM_ok (okX2 hg hh) piv_mok) qnb_ok) nb_ok) qpiv_ok) piv_ok) (eT_ok (awake26_c hg hh))) small_ok
end
theorem ContextNumbers_c (n : Int) (l : List Int) (b : List Nat) : Contract Try.prog 19 [.i .i64 n, .sli l, .sl .u8 b] (.b true) := by
  refine contract Try.func19 (body := bodyOf Try.f19) rfl (by kernel_rfl) (by kernel_rfl) rfl ?_
  intro _ w0 S
  obtain ⟨g, hg⟩ : ∃ g, g = sum32 := ⟨_, rfl⟩
  obtain ⟨h, hh⟩ : ∃ h, h = sum64 := ⟨_, rfl⟩
  rcases Bool.eq_false_or_eq_true (!Decidable.decide (b.length ≤ (900 : Nat))) with hc0 | hc0
  · have hd0 := of_decide_eq_false ((Bool.not_eq_true' _).mp hc0)
    refine hold_endw mixed (okX3 hg hh) (unroll := true) (f := 800) (sc := [true]) (r := (Go.Eng.SV.cb Bool.true)) (ob := [(!Decidable.decide (b.length ≤ (900 : Nat))) = Bool.true]) (sc' := []) (by kernel_rfl) ?_ ?_
    · exact ⟨hc0, trivial⟩
    · first | (simp [wkR, wk, wk0]; done) | (exfalso; simp_all; done) | (simp_all [wkR, wk, wk0]; done)
  · have hd0 := of_decide_eq_true ((Bool.not_eq_false' _).mp hc0)
    rcases Bool.eq_false_or_eq_true (!Decidable.decide (Go.Eng.B.pivL n = Go.Eng.B.pivL n)) with hc1 | hc1
    · exact Bool.noConfusion ((decide_eq_true rfl).symm.trans ((Bool.not_eq_true' _).mp hc1))
    · rcases Bool.eq_false_or_eq_true (!Decidable.decide (Go.Eng.B.pivL (↑(Go.Eng.B.pivs.getD (Go.Eng.B.nextV l (0 : Nat) (10 : Int)) (0 : Nat)) : Int) = Go.Eng.B.pivL (↑(Go.Eng.B.pivs.getD (Go.Eng.B.nextV l (0 : Nat) (10 : Int)) (0 : Nat)) : Int))) with hc2 | hc2
      · exact Bool.noConfusion ((decide_eq_true rfl).symm.trans ((Bool.not_eq_true' _).mp hc2))
      · rcases Bool.eq_false_or_eq_true (Go.Eng.B.nbV b != Go.Eng.B.nbV b) with hc3 | hc3
        · exact Bool.noConfusion ((bne_self_eq_false _).symm.trans hc3)
        · rcases Bool.eq_false_or_eq_true (Go.Eng.B.nbE b != Go.Eng.B.nbE b) with hc4 | hc4
          · exact Bool.noConfusion ((bne_self_eq_false _).symm.trans hc4)
          · rcases Bool.eq_false_or_eq_true (Go.Eng.B.nbV (Go.Eng.B.bysL l (0 : Nat) (6 : Int)) != Go.Eng.B.nbV (Go.Eng.B.bysL l (0 : Nat) (6 : Int))) with hc5 | hc5
            · exact Bool.noConfusion ((bne_self_eq_false _).symm.trans hc5)
            · rcases Bool.eq_false_or_eq_true (Go.Eng.B.nbE (Go.Eng.B.bysL l (0 : Nat) (6 : Int)) != Go.Eng.B.nbE (Go.Eng.B.bysL l (0 : Nat) (6 : Int))) with hc6 | hc6
              · exact Bool.noConfusion ((bne_self_eq_false _).symm.trans hc6)
              · refine hold_endw mixed (okX3 hg hh) (unroll := true) (f := 800) (sc := [false, false, false, false, false, false, false]) (r := (Go.Eng.SV.cb Bool.true)) (ob := [(!Decidable.decide (b.length ≤ (900 : Nat))) = Bool.false, (!Decidable.decide (Go.Eng.B.pivL n = Go.Eng.B.pivL n)) = Bool.false, (!Decidable.decide (Go.Eng.B.pivL (↑(Go.Eng.B.pivs.getD (Go.Eng.B.nextV l (0 : Nat) (10 : Int)) (0 : Nat)) : Int) = Go.Eng.B.pivL (↑(Go.Eng.B.pivs.getD (Go.Eng.B.nextV l (0 : Nat) (10 : Int)) (0 : Nat)) : Int))) = Bool.false, (0 : Int) ≤ (6 : Int), (6 : Int) ≤ (100000 : Int), (Go.Eng.B.nbV b != Go.Eng.B.nbV b) = Bool.false, (Go.Eng.B.nbE b != Go.Eng.B.nbE b) = Bool.false, (Go.Eng.B.nbV (Go.Eng.B.bysL l (0 : Nat) (6 : Int)) != Go.Eng.B.nbV (Go.Eng.B.bysL l (0 : Nat) (6 : Int))) = Bool.false, (Go.Eng.B.nbE (Go.Eng.B.bysL l (0 : Nat) (6 : Int)) != Go.Eng.B.nbE (Go.Eng.B.bysL l (0 : Nat) (6 : Int))) = Bool.false]) (sc' := []) (by kernel_rfl) ?_ ?_
                · exact ⟨hc0, hc1, hc2, (by first | omega | with_reducible trivial | decide), (by first | omega | with_reducible trivial | decide), hc3, hc4, hc5, hc6, trivial⟩
                · first | (simp [wkR, wk, wk0]; done) | (exfalso; simp_all; done) | (simp_all [wkR, wk, wk0]; done)
end Go.Eng.B

/- From a contract to a row: the arguments as they come in. -/
namespace Go.Eng
open Go.RowKit

theorem has_inR {k : IntKind} {n : Int} (h : k.has n) : inR k n := by
  cases k <;> simp only [IntKind.has, IntKind.min, IntKind.max, IntKind.signed, IntKind.bits, inR, lo, lim] at * <;> simp at h ⊢ <;> omega

theorem int_of {P : Program} {w : World} {r : Reach} {base : Nat} {t : TypeId} {v : Value} {k : IntKind} (ht : P.underlying t = some (.int k)) (h : Value.okWide P w r base t v) : ∃ n, v = .int k n ∧ k.has n := by
  obtain ⟨n, rfl⟩ := WideShapes.okWide_int ht h
  refine ⟨n, rfl, ?_⟩
  simpa [Value.okWide, Cell.okWide, Cell.ok, ht] using h

theorem open_i {P : Program} {w : World} {r : Reach} {base : Nat} {t : TypeId} {v : Value} {k : IntKind} (ht : P.underlying t = some (.int k)) (h : Value.okWide P w r base t v) {β : Nat → Nat} {ow : Own} {w' : World} :
    ∃ n, relV1 β ow w' (.i k n) v := by
  obtain ⟨n, rfl, hn⟩ := int_of ht h
  exact ⟨n, _, rel_i (has_inR hn), rfl⟩

theorem ints_of {k : IntKind} (hk : k.signed = false) : ∀ (cs : List Value), (∀ v ∈ cs, ∃ n, v = .int k n ∧ k.has n) → ∃ l : List Nat, cs = ints k l ∧ l.length = cs.length ∧ ∀ x ∈ l, x < lim k := by
  intro cs
  induction cs with
  | nil => intro _; exact ⟨[], rfl, rfl, by simp⟩
  | cons v cs ih =>
    intro h
    obtain ⟨l, h1, h2, h3⟩ := ih fun u hu => h u (by simp [hu])
    obtain ⟨n, rfl, hn⟩ := h v (by simp)
    have hr := has_inR hn
    have h0 : 0 ≤ n := by cases k <;> simp [IntKind.signed] at hk <;> simp only [inR, lo] at hr <;> omega
    refine ⟨n.toNat :: l, ?_, by simp [h2], ?_⟩
    · simp only [ints, List.map_cons, Int.toNat_of_nonneg h0]
      rw [h1]; rfl
    · intro x hx
      rcases List.mem_cons.1 hx with rfl | hx
      · have := hr.2; omega
      · exact h3 x hx

theorem open_arr {P : Program} {w : World} {r : Reach} {base : Nat} {t e u : TypeId} {v : Value} {k : IntKind} {n : Nat} (ht : P.underlying t = some (.array n e)) (hct : P.cellTypes P.depth t = some (List.replicate n u)) (hsz : P.cellsOf t = n)
    (hu : P.underlying u = some (.int k)) (hk : k.signed = false) (h : Value.okWide P w r base t v) {β : Nat → Nat} {ow : Own} {w' : World} : ∃ l, relV1 β ow w' (.arr k n l) v := by
  simp only [Value.okWide, ht] at h
  obtain ⟨cs, rfl, hs, ts, hts, _, hc⟩ := h
  rw [hct] at hts
  cases hts
  obtain ⟨l, h1, h2, h3⟩ := ints_of hk cs.toList fun v hv => by
    obtain ⟨i, hi⟩ := List.getElem?_of_mem hv
    obtain ⟨u', hu', hok⟩ := hc i v (by simpa using hi)
    have : u' = u := by
      have := List.mem_of_getElem? hu'
      exact List.eq_of_mem_replicate this
    subst this
    exact int_of (w := w) (r := r) (base := base) hu (by simp only [Value.okWide, hu]; exact hok)
  refine ⟨l, ints k l, rel_arr ?_ h3, ?_⟩
  · rw [h2]; simp [hs, hsz]
  · simp only [SV.isAgg, toV, if_true]
    rw [← h1]

/-- the call, out of the contract -/
theorem Contract.calls {P : Program} {f : FuncId} {fn : Func} {body : Code} {args : List SV} {res : SV} (h : Contract P f args res) (hf : P.funcs[f]? = some fn) (hb : fn.body = some body) (hname : (fn.name == "runtime.NumGoroutine") = false)
    {w : World} {vs : List Value} (hv : relVs (fun _ => 0) (fun _ _ => False) w args vs) :
    Calls P f vs.toArray w fun e w' => ∃ v, e = .returned v ∧ Below w.heap.size w w' ∧ relV (fun _ => 0) (fun _ _ => False) w' res v := by
  have h1 := h w (fun _ _ => False) vs (fun _ _ h => h.elim) hv
  unfold Invokes at h1
  have hcall : (callFunc f vs.toArray).run P w = .ok (.enter f vs.toArray) w := by
    have hne : ¬ fn.name = "runtime.NumGoroutine" := by simpa using hname
    simp [callFunc, hf, hb, hne]
  rw [hcall] at h1
  exact h1
end Go.Eng

/- From a contract to a row: slices, strings and bools as they come in. -/
namespace Go.Eng
open Go.RowKit Go.ChangeShapes Go.WideShapes

section
variable {H : Type} {enc : TypeId × Value → H} {P : Program} {w : World} {sp : Nat → Bool} {held : Bool} {r : Reach} {b0 : Nat} {t e : TypeId} {v : Value} {d : DataW H} {ps : List MemPlace} {k : IntKind}

theorem wf_inR {n : Int} (h : (Lit.int k n).wf = true) : inR k n := by
  apply has_inR
  have h : k.min ≤ n ∧ n ≤ k.max := by simpa [Lit.wf] using h
  exact h

theorem open_zs (ht : P.underlying t = some (.slice e)) (he : P.underlying e = some (.int k)) (hc : P.cellsOf e = 1) (hval : Value.okWide P w r b0 t v) (hd : DataW.Trod enc P w 0 sp held t v d ps) :
    ∃ zs : List Int, ReadsAs (fun _ _ => False) w v (zs.map fun n : Int => Value.int k n) ∧ ∀ n ∈ zs, inR k n := by
  obtain ⟨a0, len, cap, rfl⟩ := okWide_slice ht hval
  obtain ⟨fuel, hf⟩ := hd
  rcases ChangeShapes.open_ints ht he hc hf with ⟨h1, _⟩ | ⟨a, len', cap', zs, h1, _, hl, hm, hz, _, hcell, hwf⟩
  · simp only [Value.cells, List.cons.injEq, and_true] at h1
    cases h1
    exact ⟨[], ⟨none, 0, 0, rfl, rfl, Nat.le_refl _, by omega, fun h => absurd h (by omega)⟩, by simp⟩
  · simp only [Value.cells, List.cons.injEq, and_true] at h1
    cases h1
    have hle : len ≤ zs.length := by rw [hz]; split <;> omega
    have hmax : cap < 9223372036854775808 := by simp only [maxLen] at hm; omega
    refine ⟨zs.take len, ⟨some a, len, cap, rfl, by simp; omega, hl, hmax, fun hp => ⟨a, rfl, ?_, fun _ _ h => h, fun j u hu => ?_⟩⟩, fun n hn => wf_inR (hwf n (List.mem_of_mem_take hn))⟩
    · have := hcell 0 (by omega)
      simp only [Addr.add, if_true] at this
      cases hs : a.spot with
      | none => rfl
      | some q => simp [World.cell?, hs] at this; split at this <;> cases this
    · have hj : j < len := by
        have := (List.getElem?_eq_some_iff.1 hu).1
        simp at this; omega
      have h0 := hcell 0 (by omega)
      have hs : a.spot = none := by
        simp only [Addr.add, if_true] at h0
        cases hs : a.spot with
        | none => rfl
        | some q => simp [World.cell?, hs] at h0; split at h0 <;> cases h0
      have := hcell j (by omega)
      rw [add_spot hs] at this
      rw [this]
      simp only [List.getElem?_map, List.getElem?_take_of_lt hj, Option.map_eq_some_iff] at hu
      obtain ⟨z, hz1, rfl⟩ := hu
      simp [List.getD_eq_getElem?_getD, hz1]

theorem nats_of (hk : k.signed = false) : ∀ (zs : List Int), (∀ n ∈ zs, inR k n) → ∃ l : List Nat, (zs.map fun n : Int => Value.int k n) = ints k l ∧ ∀ x ∈ l, x < lim k := by
  intro zs
  induction zs with
  | nil => intro _; exact ⟨[], rfl, by simp⟩
  | cons n zs ih =>
    intro h
    obtain ⟨l, h1, h2⟩ := ih fun m hm => h m (by simp [hm])
    have hr := h n (by simp)
    have h0 : 0 ≤ n := by cases k <;> simp [IntKind.signed] at hk <;> simp only [inR, lo] at hr <;> omega
    refine ⟨n.toNat :: l, by simp only [ints, List.map_cons, Int.toNat_of_nonneg h0, h1], ?_⟩
    intro x hx
    rcases List.mem_cons.1 hx with rfl | hx
    · have := hr.2; omega
    · exact h2 x hx

theorem open_bytes {β : Nat → Nat} (ht : P.underlying t = some (.slice e)) (he : P.underlying e = some (.int k)) (hk : k.signed = false) (hc : P.cellsOf e = 1) (hval : Value.okWide P w r b0 t v) (hd : DataW.Trod enc P w 0 sp held t v d ps) :
    ∃ l, relV1 β (fun _ _ => False) w (.sl k l) v := by
  obtain ⟨zs, h1, h2⟩ := open_zs ht he hc hval hd
  obtain ⟨l, h3, h4⟩ := nats_of hk zs h2
  rw [h3] at h1
  exact ⟨l, [v], by simp only [rel]; exact ⟨⟨v, rfl, h1⟩, h4⟩, rfl⟩
theorem open_intl {β : Nat → Nat} (ht : P.underlying t = some (.slice e)) (he : P.underlying e = some (.int .i64)) (hc : P.cellsOf e = 1) (hval : Value.okWide P w r b0 t v) (hd : DataW.Trod enc P w 0 sp held t v d ps) :
    ∃ l, relV1 β (fun _ _ => False) w (.sli l) v := by
  obtain ⟨zs, h1, h2⟩ := open_zs ht he hc hval hd
  exact ⟨zs, [v], by simp only [rel]; exact ⟨⟨v, rfl, h1⟩, h2⟩, rfl⟩
theorem open_b {β : Nat → Nat} {ow : Own} {w' : World} (ht : P.underlying t = some .bool) (hval : Value.okWide P w r b0 t v) : ∃ x, relV1 β ow w' (.b x) v := by
  obtain ⟨b, rfl⟩ := okWide_bool ht hval
  exact ⟨b, _, rel_b, rfl⟩
theorem open_str {β : Nat → Nat} {ow : Own} {w' : World} (ht : P.underlying t = some .string) (hval : Value.okWide P w r b0 t v) : ∃ l, relV1 β ow w' (.str l) v := by
  obtain ⟨s, rfl⟩ := okWide_string ht hval
  have := constSV_ok (β := β) (ow := ow) (w := w') (v := .string s) (s := .str (s.data.toList.map (·.toNat))) rfl
  exact ⟨_, _, this.1, rfl⟩
end
end Go.Eng

/- What the words of the program's start say. -/
namespace Go.Proofs.Ytmigegngooecaaa.Facts
open Go Go.Proofs
set_option maxRecDepth 100000
theorem words_word {r : List Char} : ∀ {l : List Char}, (∀ c ∈ l, c ≠ ' ') → wordsSigns (l ++ ' ' :: r) = l :: wordsSigns r := by
  intro l
  induction l with
  | nil => intro _; rfl
  | cons c l ih =>
    intro h
    have hc : c ≠ ' ' := h c (by simp)
    have e := ih fun x hx => h x (by simp [hx])
    show wordsSigns (c :: (l ++ ' ' :: r)) = _
    rw [wordsSigns, e]
    · intro hh; exact hc hh
theorem order_is : Try.pinned.checked.prog.initOrder = "harness cff2c2cd0cba015eafbf3452765c231f117729f8e64eaa2e98dff4d1c1310757 cut at coresec/coreseclaw26.ContextUnique coresec/coreseclaw05.KdfExpands coresec/coreseclaw05.KdfLongest coresec/coreseclaw05.KdfPrefix coresec/coreseclaw05.KdfMacs coresec/coreseclaw05.KdfInner coresec/coreseclaw04.ShaSums coresec/coreseclaw04.ShaConstants coresec/coreseclaw04.ShaOwn coresec/coreseclaw05.KdfCalls coresec/coreseclaw04.ShaEdges coresec/coreseclaw04.ShaBlocks coresec/coreseclaw38.EchoValues coresec/coreseclaw26.ContextDerives coresec/coreseclaw23.TranscriptConns coresec/coreseclaw23.TranscriptReads coresec/coreseclaw26.ContextNumbers coresec/coreseclaw38.EchoAdmits coresec/coreseclaw23.TranscriptContexts coresec/coreseclaw26.ContextNonces coresec/coreseclaw23.TranscriptKeys coresec/coreseclaw23.TranscriptHashes coresec/coreseclaw38.EchoFresh" := by kernel_rfl
theorem order_lit : ("harness cff2c2cd0cba015eafbf3452765c231f117729f8e64eaa2e98dff4d1c1310757 cut at coresec/coreseclaw26.ContextUnique coresec/coreseclaw05.KdfExpands coresec/coreseclaw05.KdfLongest coresec/coreseclaw05.KdfPrefix coresec/coreseclaw05.KdfMacs coresec/coreseclaw05.KdfInner coresec/coreseclaw04.ShaSums coresec/coreseclaw04.ShaConstants coresec/coreseclaw04.ShaOwn coresec/coreseclaw05.KdfCalls coresec/coreseclaw04.ShaEdges coresec/coreseclaw04.ShaBlocks coresec/coreseclaw38.EchoValues coresec/coreseclaw26.ContextDerives coresec/coreseclaw23.TranscriptConns coresec/coreseclaw23.TranscriptReads coresec/coreseclaw26.ContextNumbers coresec/coreseclaw38.EchoAdmits coresec/coreseclaw23.TranscriptContexts coresec/coreseclaw26.ContextNonces coresec/coreseclaw23.TranscriptKeys coresec/coreseclaw23.TranscriptHashes coresec/coreseclaw38.EchoFresh" : String) = String.ofList (['h', 'a', 'r', 'n', 'e', 's', 's'] ++ ' ' :: (['c', 'f', 'f', '2', 'c', '2', 'c', 'd', '0', 'c', 'b', 'a', '0', '1', '5', 'e', 'a', 'f', 'b', 'f', '3', '4', '5', '2', '7', '6', '5', 'c', '2', '3', '1', 'f', '1', '1', '7', '7', '2', '9', 'f', '8', 'e', '6', '4', 'e', 'a', 'a', '2', 'e', '9', '8', 'd', 'f', 'f', '4', 'd', '1', 'c', '1', '3', '1', '0', '7', '5', '7'] ++ ' ' :: (['c', 'u', 't'] ++ ' ' :: ['a', 't', ' ', 'c', 'o', 'r', 'e', 's', 'e', 'c', '/', 'c', 'o', 'r', 'e', 's', 'e', 'c', 'l', 'a', 'w', '2', '6', '.', 'C', 'o', 'n', 't', 'e', 'x', 't', 'U', 'n', 'i', 'q', 'u', 'e', ' ', 'c', 'o', 'r', 'e', 's', 'e', 'c', '/', 'c', 'o', 'r', 'e', 's', 'e', 'c', 'l', 'a', 'w', '0', '5', '.', 'K', 'd', 'f', 'E', 'x', 'p', 'a', 'n', 'd', 's', ' ', 'c', 'o', 'r', 'e', 's', 'e', 'c', '/', 'c', 'o', 'r', 'e', 's', 'e', 'c', 'l', 'a', 'w', '0', '5', '.', 'K', 'd', 'f', 'L', 'o', 'n', 'g', 'e', 's', 't', ' ', 'c', 'o', 'r', 'e', 's', 'e', 'c', '/', 'c', 'o', 'r', 'e', 's', 'e', 'c', 'l', 'a', 'w', '0', '5', '.', 'K', 'd', 'f', 'P', 'r', 'e', 'f', 'i', 'x', ' ', 'c', 'o', 'r', 'e', 's', 'e', 'c', '/', 'c', 'o', 'r', 'e', 's', 'e', 'c', 'l', 'a', 'w', '0', '5', '.', 'K', 'd', 'f', 'M', 'a', 'c', 's', ' ', 'c', 'o', 'r', 'e', 's', 'e', 'c', '/', 'c', 'o', 'r', 'e', 's', 'e', 'c', 'l', 'a', 'w', '0', '5', '.', 'K', 'd', 'f', 'I', 'n', 'n', 'e', 'r', ' ', 'c', 'o', 'r', 'e', 's', 'e', 'c', '/', 'c', 'o', 'r', 'e', 's', 'e', 'c', 'l', 'a', 'w', '0', '4', '.', 'S', 'h', 'a', 'S', 'u', 'm', 's', ' ', 'c', 'o', 'r', 'e', 's', 'e', 'c', '/', 'c', 'o', 'r', 'e', 's', 'e', 'c', 'l', 'a', 'w', '0', '4', '.', 'S', 'h', 'a', 'C', 'o', 'n', 's', 't', 'a', 'n', 't', 's', ' ', 'c', 'o', 'r', 'e', 's', 'e', 'c', '/', 'c', 'o', 'r', 'e', 's', 'e', 'c', 'l', 'a', 'w', '0', '4', '.', 'S', 'h', 'a', 'O', 'w', 'n', ' ', 'c', 'o', 'r', 'e', 's', 'e', 'c', '/', 'c', 'o', 'r', 'e', 's', 'e', 'c', 'l', 'a', 'w', '0', '5', '.', 'K', 'd', 'f', 'C', 'a', 'l', 'l', 's', ' ', 'c', 'o', 'r', 'e', 's', 'e', 'c', '/', 'c', 'o', 'r', 'e', 's', 'e', 'c', 'l', 'a', 'w', '0', '4', '.', 'S', 'h', 'a', 'E', 'd', 'g', 'e', 's', ' ', 'c', 'o', 'r', 'e', 's', 'e', 'c', '/', 'c', 'o', 'r', 'e', 's', 'e', 'c', 'l', 'a', 'w', '0', '4', '.', 'S', 'h', 'a', 'B', 'l', 'o', 'c', 'k', 's', ' ', 'c', 'o', 'r', 'e', 's', 'e', 'c', '/', 'c', 'o', 'r', 'e', 's', 'e', 'c', 'l', 'a', 'w', '3', '8', '.', 'E', 'c', 'h', 'o', 'V', 'a', 'l', 'u', 'e', 's', ' ', 'c', 'o', 'r', 'e', 's', 'e', 'c', '/', 'c', 'o', 'r', 'e', 's', 'e', 'c', 'l', 'a', 'w', '2', '6', '.', 'C', 'o', 'n', 't', 'e', 'x', 't', 'D', 'e', 'r', 'i', 'v', 'e', 's', ' ', 'c', 'o', 'r', 'e', 's', 'e', 'c', '/', 'c', 'o', 'r', 'e', 's', 'e', 'c', 'l', 'a', 'w', '2', '3', '.', 'T', 'r', 'a', 'n', 's', 'c', 'r', 'i', 'p', 't', 'C', 'o', 'n', 'n', 's', ' ', 'c', 'o', 'r', 'e', 's', 'e', 'c', '/', 'c', 'o', 'r', 'e', 's', 'e', 'c', 'l', 'a', 'w', '2', '3', '.', 'T', 'r', 'a', 'n', 's', 'c', 'r', 'i', 'p', 't', 'R', 'e', 'a', 'd', 's', ' ', 'c', 'o', 'r', 'e', 's', 'e', 'c', '/', 'c', 'o', 'r', 'e', 's', 'e', 'c', 'l', 'a', 'w', '2', '6', '.', 'C', 'o', 'n', 't', 'e', 'x', 't', 'N', 'u', 'm', 'b', 'e', 'r', 's', ' ', 'c', 'o', 'r', 'e', 's', 'e', 'c', '/', 'c', 'o', 'r', 'e', 's', 'e', 'c', 'l', 'a', 'w', '3', '8', '.', 'E', 'c', 'h', 'o', 'A', 'd', 'm', 'i', 't', 's', ' ', 'c', 'o', 'r', 'e', 's', 'e', 'c', '/', 'c', 'o', 'r', 'e', 's', 'e', 'c', 'l', 'a', 'w', '2', '3', '.', 'T', 'r', 'a', 'n', 's', 'c', 'r', 'i', 'p', 't', 'C', 'o', 'n', 't', 'e', 'x', 't', 's', ' ', 'c', 'o', 'r', 'e', 's', 'e', 'c', '/', 'c', 'o', 'r', 'e', 's', 'e', 'c', 'l', 'a', 'w', '2', '6', '.', 'C', 'o', 'n', 't', 'e', 'x', 't', 'N', 'o', 'n', 'c', 'e', 's', ' ', 'c', 'o', 'r', 'e', 's', 'e', 'c', '/', 'c', 'o', 'r', 'e', 's', 'e', 'c', 'l', 'a', 'w', '2', '3', '.', 'T', 'r', 'a', 'n', 's', 'c', 'r', 'i', 'p', 't', 'K', 'e', 'y', 's', ' ', 'c', 'o', 'r', 'e', 's', 'e', 'c', '/', 'c', 'o', 'r', 'e', 's', 'e', 'c', 'l', 'a', 'w', '2', '3', '.', 'T', 'r', 'a', 'n', 's', 'c', 'r', 'i', 'p', 't', 'H', 'a', 's', 'h', 'e', 's', ' ', 'c', 'o', 'r', 'e', 's', 'e', 'c', '/', 'c', 'o', 'r', 'e', 's', 'e', 'c', 'l', 'a', 'w', '3', '8', '.', 'E', 'c', 'h', 'o', 'F', 'r', 'e', 's', 'h']))) := by kernel_rfl
theorem order_words : ∃ R, behindMainWord (wordsSigns Try.pinned.checked.prog.initOrder.toList) = ['c', 'u', 't'] :: R := by
  rw [order_is, order_lit, String.toList_ofList, words_word (by decide), words_word (by decide), words_word (by decide)]
  generalize wordsSigns ['a', 't', ' ', 'c', 'o', 'r', 'e', 's', 'e', 'c', '/', 'c', 'o', 'r', 'e', 's', 'e', 'c', 'l', 'a', 'w', '2', '6', '.', 'C', 'o', 'n', 't', 'e', 'x', 't', 'U', 'n', 'i', 'q', 'u', 'e', ' ', 'c', 'o', 'r', 'e', 's', 'e', 'c', '/', 'c', 'o', 'r', 'e', 's', 'e', 'c', 'l', 'a', 'w', '0', '5', '.', 'K', 'd', 'f', 'E', 'x', 'p', 'a', 'n', 'd', 's', ' ', 'c', 'o', 'r', 'e', 's', 'e', 'c', '/', 'c', 'o', 'r', 'e', 's', 'e', 'c', 'l', 'a', 'w', '0', '5', '.', 'K', 'd', 'f', 'L', 'o', 'n', 'g', 'e', 's', 't', ' ', 'c', 'o', 'r', 'e', 's', 'e', 'c', '/', 'c', 'o', 'r', 'e', 's', 'e', 'c', 'l', 'a', 'w', '0', '5', '.', 'K', 'd', 'f', 'P', 'r', 'e', 'f', 'i', 'x', ' ', 'c', 'o', 'r', 'e', 's', 'e', 'c', '/', 'c', 'o', 'r', 'e', 's', 'e', 'c', 'l', 'a', 'w', '0', '5', '.', 'K', 'd', 'f', 'M', 'a', 'c', 's', ' ', 'c', 'o', 'r', 'e', 's', 'e', 'c', '/', 'c', 'o', 'r', 'e', 's', 'e', 'c', 'l', 'a', 'w', '0', '5', '.', 'K', 'd', 'f', 'I', 'n', 'n', 'e', 'r', ' ', 'c', 'o', 'r', 'e', 's', 'e', 'c', '/', 'c', 'o', 'r', 'e', 's', 'e', 'c', 'l', 'a', 'w', '0', '4', '.', 'S', 'h', 'a', 'S', 'u', 'm', 's', ' ', 'c', 'o', 'r', 'e', 's', 'e', 'c', '/', 'c', 'o', 'r', 'e', 's', 'e', 'c', 'l', 'a', 'w', '0', '4', '.', 'S', 'h', 'a', 'C', 'o', 'n', 's', 't', 'a', 'n', 't', 's', ' ', 'c', 'o', 'r', 'e', 's', 'e', 'c', '/', 'c', 'o', 'r', 'e', 's', 'e', 'c', 'l', 'a', 'w', '0', '4', '.', 'S', 'h', 'a', 'O', 'w', 'n', ' ', 'c', 'o', 'r', 'e', 's', 'e', 'c', '/', 'c', 'o', 'r', 'e', 's', 'e', 'c', 'l', 'a', 'w', '0', '5', '.', 'K', 'd', 'f', 'C', 'a', 'l', 'l', 's', ' ', 'c', 'o', 'r', 'e', 's', 'e', 'c', '/', 'c', 'o', 'r', 'e', 's', 'e', 'c', 'l', 'a', 'w', '0', '4', '.', 'S', 'h', 'a', 'E', 'd', 'g', 'e', 's', ' ', 'c', 'o', 'r', 'e', 's', 'e', 'c', '/', 'c', 'o', 'r', 'e', 's', 'e', 'c', 'l', 'a', 'w', '0', '4', '.', 'S', 'h', 'a', 'B', 'l', 'o', 'c', 'k', 's', ' ', 'c', 'o', 'r', 'e', 's', 'e', 'c', '/', 'c', 'o', 'r', 'e', 's', 'e', 'c', 'l', 'a', 'w', '3', '8', '.', 'E', 'c', 'h', 'o', 'V', 'a', 'l', 'u', 'e', 's', ' ', 'c', 'o', 'r', 'e', 's', 'e', 'c', '/', 'c', 'o', 'r', 'e', 's', 'e', 'c', 'l', 'a', 'w', '2', '6', '.', 'C', 'o', 'n', 't', 'e', 'x', 't', 'D', 'e', 'r', 'i', 'v', 'e', 's', ' ', 'c', 'o', 'r', 'e', 's', 'e', 'c', '/', 'c', 'o', 'r', 'e', 's', 'e', 'c', 'l', 'a', 'w', '2', '3', '.', 'T', 'r', 'a', 'n', 's', 'c', 'r', 'i', 'p', 't', 'C', 'o', 'n', 'n', 's', ' ', 'c', 'o', 'r', 'e', 's', 'e', 'c', '/', 'c', 'o', 'r', 'e', 's', 'e', 'c', 'l', 'a', 'w', '2', '3', '.', 'T', 'r', 'a', 'n', 's', 'c', 'r', 'i', 'p', 't', 'R', 'e', 'a', 'd', 's', ' ', 'c', 'o', 'r', 'e', 's', 'e', 'c', '/', 'c', 'o', 'r', 'e', 's', 'e', 'c', 'l', 'a', 'w', '2', '6', '.', 'C', 'o', 'n', 't', 'e', 'x', 't', 'N', 'u', 'm', 'b', 'e', 'r', 's', ' ', 'c', 'o', 'r', 'e', 's', 'e', 'c', '/', 'c', 'o', 'r', 'e', 's', 'e', 'c', 'l', 'a', 'w', '3', '8', '.', 'E', 'c', 'h', 'o', 'A', 'd', 'm', 'i', 't', 's', ' ', 'c', 'o', 'r', 'e', 's', 'e', 'c', '/', 'c', 'o', 'r', 'e', 's', 'e', 'c', 'l', 'a', 'w', '2', '3', '.', 'T', 'r', 'a', 'n', 's', 'c', 'r', 'i', 'p', 't', 'C', 'o', 'n', 't', 'e', 'x', 't', 's', ' ', 'c', 'o', 'r', 'e', 's', 'e', 'c', '/', 'c', 'o', 'r', 'e', 's', 'e', 'c', 'l', 'a', 'w', '2', '6', '.', 'C', 'o', 'n', 't', 'e', 'x', 't', 'N', 'o', 'n', 'c', 'e', 's', ' ', 'c', 'o', 'r', 'e', 's', 'e', 'c', '/', 'c', 'o', 'r', 'e', 's', 'e', 'c', 'l', 'a', 'w', '2', '3', '.', 'T', 'r', 'a', 'n', 's', 'c', 'r', 'i', 'p', 't', 'K', 'e', 'y', 's', ' ', 'c', 'o', 'r', 'e', 's', 'e', 'c', '/', 'c', 'o', 'r', 'e', 's', 'e', 'c', 'l', 'a', 'w', '2', '3', '.', 'T', 'r', 'a', 'n', 's', 'c', 'r', 'i', 'p', 't', 'H', 'a', 's', 'h', 'e', 's', ' ', 'c', 'o', 'r', 'e', 's', 'e', 'c', '/', 'c', 'o', 'r', 'e', 's', 'e', 'c', 'l', 'a', 'w', '3', '8', '.', 'E', 'c', 'h', 'o', 'F', 'r', 'e', 's', 'h'] = R
  exact ⟨R, by kernel_rfl⟩
theorem c_gc : (['c', 'u', 't'] == "gc".toList) = false := by kernel_rfl
theorem c_spec : (['c', 'u', 't'] == "spec".toList) = false := by kernel_rfl
theorem c_cut : (['c', 'u', 't'] == "cut".toList) = true := by kernel_rfl
theorem c_carried : (['c', 'u', 't'] == "carried".toList) = false := by kernel_rfl
theorem c_strip (R : List (List Char)) : stripLifts liftWords (['c', 'u', 't'] :: R) = ([], ['c', 'u', 't'] :: R) := by kernel_rfl
theorem lifts_of {P : Program} {R : List (List Char)} (h : behindMainWord (wordsSigns P.initOrder.toList) = ['c', 'u', 't'] :: R) : P.liftsFinal = false := by
  unfold Program.liftsFinal Program.headLifts
  rw [h]
  kernel_rfl
theorem make_of {P : Program} {R : List (List Char)} (h : behindMainWord (wordsSigns P.initOrder.toList) = ['c', 'u', 't'] :: R) : P.make = some .cut := by
  unfold Program.make
  rw [h]
  simp only [c_gc, c_spec, c_cut, Bool.or_false, Bool.false_or, Bool.true_or, if_true, if_false, Bool.false_eq_true]
theorem enter_of {P : Program} {R : List (List Char)} (h : behindMainWord (wordsSigns P.initOrder.toList) = ['c', 'u', 't'] :: R) (h2 : P.laysLater = false) (h3 : P.bearsReflect = false) (h4 : P.doorFits [] = true) : P.mayEnter = true := by
  unfold Program.mayEnter
  rw [h]
  simp only [c_gc, c_spec, c_carried, c_strip, h2, h3, h4]
  kernel_rfl
theorem lays_is : Try.pinned.checked.prog.laysLater = false := by kernel_rfl
theorem reflect_is : Try.pinned.checked.prog.bearsReflect = false := by kernel_rfl
theorem door_is : Try.pinned.checked.prog.doorFits [] = true := by kernel_rfl
theorem lifts_is : Try.pinned.checked.prog.liftsFinal = false := by
  obtain ⟨R, h⟩ := order_words
  exact lifts_of h
theorem make_is : Try.pinned.checked.prog.make = some .cut := by
  obtain ⟨R, h⟩ := order_words
  exact make_of h
theorem enter_is : Try.pinned.checked.prog.mayEnter = true := by
  obtain ⟨R, h⟩ := order_words
  exact enter_of h lays_is reflect_is door_is
end Go.Proofs.Ytmigegngooecaaa.Facts

