import Derived.Test.YtmigegngooecaaaE5
set_option linter.unusedVariables false
set_option linter.unusedSimpArgs false
set_option linter.unusedSectionVars false
/- More functions of layer 23, of both; comparisons. -/
namespace Go.Eng.B
open Go Go.Eng Go.Proofs
set_option maxRecDepth 100000
set_option linter.unusedSimpArgs false
def cmpV : List Nat → List Nat → Int
  | [], [] => 0
  | [], _ :: _ => -1
  | _ :: _, [] => 1
  | x :: a, y :: b => if x < y then -1 else if y < x then 1 else cmpV a b
def allB (l : List (List Nat)) : Bool := l.all fun p => decide (p.length ≤ 900)
def eCmp (args : List SV) : Option (SV × List Prop) := match args with
  | [x, y] => match part? x, part? y with | some a, some b => some (.i .i64 (cmpV a b), []) | _, _ => none
  | _ => none
def eEq (args : List SV) : Option (SV × List Prop) := match args with
  | [x, y] => match part? x, part? y with | some a, some b => some (.b (decide (a = b)), []) | _, _ => none
  | _ => none
def eSmall (args : List SV) : Option (SV × List Prop) := match args with
  | [x] => match part? x with | some a => some (.b (decide (a.length ≤ 900)), []) | _ => none
  | _ => none
def eAll (args : List SV) : Option (SV × List Prop) := match args with
  | [.slv 1 [x, y]] => match part? x, part? y with | some a, some b => some (.b (allB [a, b]), []) | _, _ => none
  | [.slv 1 [x, y, z]] => match part? x, part? y, part? z with | some a, some b, some c => some (.b (allB [a, b, c]), []) | _, _, _ => none
  | [.slv 1 [x, y, z, v, u]] => match part? x, part? y, part? z, part? v, part? u with | some a, some b, some c, some d, some e => some (.b (allB [a, b, c, d, e]), []) | _, _, _, _, _ => none
  | _ => none
def sCmp (a b : List Nat) (i : Nat) : St := ⟨48, [(0, .sl .u8 a), (1, .sl .u8 b), (5, .u .i64 i)], [], 0, 0⟩
def stCmp : List It := [.lp [0, 1, 0, 1], .blk 0, .at [1, 1]]
theorem cmpV_eq : ∀ a b : List Nat, cmpV a b = 0 ↔ a = b := by
  intro a
  induction a with
  | nil => intro b; cases b <;> simp [cmpV]
  | cons x a ih =>
    intro b
    cases b with
    | nil => simp [cmpV]
    | cons y b =>
      simp only [cmpV]
      split
      · rename_i h; simp; omega
      · split
        · rename_i h; simp; omega
        · rename_i h1 h2
          rw [ih b]
          have : x = y := by omega
          simp [this]
theorem cmpV_drop (a b : List Nat) : ∀ i, i < a.length → i < b.length → cmpV (a.drop i) (b.drop i) = if a.getD i 0 < b.getD i 0 then -1 else if b.getD i 0 < a.getD i 0 then 1 else cmpV (a.drop (i + 1)) (b.drop (i + 1)) := by
  intro i h1 h2
  rw [List.drop_eq_getElem_cons h1, List.drop_eq_getElem_cons h2]
  simp only [cmpV, List.getD_eq_getElem?_getD, List.getElem?_eq_getElem h1, List.getElem?_eq_getElem h2, Option.getD_some]
section
variable {w0 : World} {S : Own} {res : SV}
theorem cmp_l (a b : List Nat) (hr : res = .i .i64 (cmpV a b)) (hla : a.length < 9223372036854775808) : ∀ d i, a.length - i = d → i ≤ a.length → i ≤ b.length → cmpV a b = cmpV (a.drop i) (b.drop i) → Hold Try.prog (bodyOf Try.f134) (Fin Try.prog Try.f134 w0 S res) w0 S stCmp (sCmp a b i) := by
  intro d
  induction d using Nat.strongRecOn with
  | _ d ih =>
  intro i hd hi hj he
  refine hold_unroll (c := _) rfl ?_
  by_cases ha : i < a.length
  · by_cases hb : i < b.length
    · have hc := cmpV_drop a b i ha hb
      by_cases h1 : a.getD i 0 < b.getD i 0
      · rw [if_pos h1] at hc
        refine hold_endw mixed ctr0_ok (unroll := true) (f := 300) (sc := [true, true, true, true]) (r := (Go.Eng.SV.c Go.IntKind.i64 (-1 : Int))) (ob := [Decidable.decide (i < a.length) = Bool.true, Decidable.decide (i < b.length) = Bool.true, i < a.length, i < b.length, (a.getD i (0 : Nat) != b.getD i (0 : Nat)) = Bool.true, i < a.length, i < b.length, Decidable.decide (a.getD i (0 : Nat) < b.getD i (0 : Nat)) = Bool.true]) (sc' := []) (by kernel_rfl) (by repeat' first | exact trivial | exact decide_eq_true (by omega) | exact decide_eq_false (by omega) | omega | (simp_all; done) | (simp_all; omega) | refine ⟨?_, ?_⟩) ?_
        rw [hr, he, hc]; simp [wkR, wk, wk0]
      · rw [if_neg h1] at hc
        by_cases h2 : b.getD i 0 < a.getD i 0
        · rw [if_pos h2] at hc
          refine hold_endw mixed ctr0_ok (unroll := true) (f := 300) (sc := [true, true, true, false]) (r := (Go.Eng.SV.c Go.IntKind.i64 (1 : Int))) (ob := [Decidable.decide (i < a.length) = Bool.true, Decidable.decide (i < b.length) = Bool.true, i < a.length, i < b.length, (a.getD i (0 : Nat) != b.getD i (0 : Nat)) = Bool.true, i < a.length, i < b.length, Decidable.decide (a.getD i (0 : Nat) < b.getD i (0 : Nat)) = Bool.false]) (sc' := []) (by kernel_rfl) (by repeat' first | exact trivial | exact decide_eq_true (by omega) | exact decide_eq_false (by omega) | omega | (simp_all; done) | (simp_all; omega) | refine ⟨?_, ?_⟩) ?_
          rw [hr, he, hc]; simp [wkR, wk, wk0]
        · rw [if_neg h2] at hc
          have e := ih (a.length - (i + 1)) (by omega) (i + 1) rfl (by omega) (by omega) (by rw [he, hc])
          have heq : a.getD i 0 = b.getD i 0 := by omega
          refine hold_cut mixed ctr0_ok (unroll := false) (f := 300) (sc := [true, true, false]) (ks := [0,1,5]) (bs := []) (nx := 0) (st' := [Go.Eng.It.lp [(0 : Nat), (1 : Nat), (0 : Nat), (1 : Nat)], Go.Eng.It.blk (0 : Nat), Go.Eng.It.at [(1 : Nat), (1 : Nat)]]) (σ' := { nt := (48 : Nat), slots := [((0 : Nat), Go.Eng.SV.sl Go.IntKind.u8 a), ((1 : Nat), Go.Eng.SV.sl Go.IntKind.u8 b), ((5 : Nat), Go.Eng.SV.u Go.IntKind.i64 (i + (1 : Nat)))], blks := [], next := (0 : Nat) }) (ob := [Decidable.decide (i < a.length) = Bool.true, Decidable.decide (i < b.length) = Bool.true, i < a.length, i < b.length, (a.getD i (0 : Nat) != b.getD i (0 : Nat)) = Bool.false, i + (1 : Nat) < (9223372036854775808 : Nat)]) (sc' := []) (by kernel_rfl) (by repeat' first | exact trivial | exact decide_eq_true (by omega) | exact decide_eq_false (by omega) | omega | (simp_all; done) | (simp_all; omega) | refine ⟨?_, ?_⟩) ?_
          exact e
    · refine hold_endw mixed ctr0_ok (unroll := true) (f := 300) (sc := [true, false, false, true]) (r := (Go.Eng.SV.c Go.IntKind.i64 (1 : Int))) (ob := [Decidable.decide (i < a.length) = Bool.true, Decidable.decide (i < b.length) = Bool.false, Decidable.decide (a.length < b.length) = Bool.false, Decidable.decide (b.length < a.length) = Bool.true]) (sc' := []) (by kernel_rfl) (by repeat' first | exact trivial | exact decide_eq_true (by omega) | exact decide_eq_false (by omega) | omega | (simp_all; done) | (simp_all; omega) | refine ⟨?_, ?_⟩) ?_
      rw [hr, he, List.drop_eq_getElem_cons ha, List.drop_of_length_le (by omega : b.length ≤ i)]; simp [cmpV, wkR, wk, wk0]
  · by_cases hb : i < b.length
    · refine hold_endw mixed ctr0_ok (unroll := true) (f := 300) (sc := [false, true]) (r := (Go.Eng.SV.c Go.IntKind.i64 (-1 : Int))) (ob := [Decidable.decide (i < a.length) = Bool.false, Decidable.decide (a.length < b.length) = Bool.true]) (sc' := []) (by kernel_rfl) (by repeat' first | exact trivial | exact decide_eq_true (by omega) | exact decide_eq_false (by omega) | omega | (simp_all; done) | (simp_all; omega) | refine ⟨?_, ?_⟩) ?_
      rw [hr, he, List.drop_eq_getElem_cons hb, List.drop_of_length_le (by omega : a.length ≤ i)]; simp [cmpV, wkR, wk, wk0]
    · refine hold_endw mixed ctr0_ok (unroll := true) (f := 300) (sc := [false, false, false]) (r := (Go.Eng.SV.c Go.IntKind.i64 (0 : Int))) (ob := [Decidable.decide (i < a.length) = Bool.false, Decidable.decide (a.length < b.length) = Bool.false, Decidable.decide (b.length < a.length) = Bool.false]) (sc' := []) (by kernel_rfl) (by repeat' first | exact trivial | exact decide_eq_true (by omega) | exact decide_eq_false (by omega) | omega | (simp_all; done) | (simp_all; omega) | refine ⟨?_, ?_⟩) ?_
      rw [hr, he, List.drop_of_length_le (by omega : a.length ≤ i), List.drop_of_length_le (by omega : b.length ≤ i)]; simp [cmpV, wkR, wk, wk0]
theorem cmp_c (a b : List Nat) : Contract Try.prog 134 [.sl .u8 a, .sl .u8 b] (.i .i64 (cmpV a b)) := by
  refine contract Try.func134 (body := bodyOf Try.f134) rfl (by kernel_rfl) (by kernel_rfl) rfl ?_
  rintro ⟨⟨ha, _⟩, _⟩ w0 S
  refine hold_cut mixed ctr0_ok (unroll := false) (f := 100) (sc := []) (ks := [0,1,5]) (bs := []) (nx := 0) (st' := [Go.Eng.It.lp [(0 : Nat), (1 : Nat), (0 : Nat), (1 : Nat)], Go.Eng.It.blk (0 : Nat), Go.Eng.It.at [(1 : Nat), (1 : Nat)]]) (σ' := { nt := (48 : Nat), slots := [((0 : Nat), Go.Eng.SV.sl Go.IntKind.u8 a), ((1 : Nat), Go.Eng.SV.sl Go.IntKind.u8 b), ((5 : Nat), Go.Eng.SV.c Go.IntKind.i64 (0 : Int))], blks := [], next := (0 : Nat) }) (ob := []) (sc' := []) (by kernel_rfl) trivial ?_
  exact Hold.weaken (cmp_l a b rfl ha _ 0 rfl (by omega) (by omega) (by rw [List.drop_zero, List.drop_zero])) (by simp [wks, wk, wk0, lim, sCmp])
end
theorem cmp_ok : ∀ args res ob, eCmp args = some (res, ob) → All ob → Contract Try.prog 134 args res := by
  intro args res ob he _
  unfold eCmp at he
  split at he
  · split at he
    · rename_i hx hy
      cases he
      exact Contract.argsF (cmp_c _ _) ⟨wk_of0 (part_wk hx), wk_of0 (part_wk hy), rfl⟩
    · cases he
  · cases he
noncomputable def T4a : Ctr := addC 134 eCmp (addC 68 eSmall ctr0)
theorem small_ok : ∀ args res ob, eSmall args = some (res, ob) → All ob → Contract Try.prog 68 args res := by
  intro args res ob he _
  unfold eSmall at he
  split at he
  · split at he
    · rename_i a hx
      cases he
      refine Contract.args (args' := [.sl .u8 a]) ⟨wk_of0 (part_wk hx), rfl⟩ ?_
      refine contract Try.func68 (body := bodyOf Try.f68) rfl (by kernel_rfl) (by kernel_rfl) rfl ?_
      intro _ w0 S
      exact hold_endw mixed ctr0_ok (unroll := true) (f := 100) (sc := []) (r := (Go.Eng.SV.b (Decidable.decide (a.length ≤ (900 : Nat))))) (ob := []) (sc' := []) (by kernel_rfl) trivial (wkR_of rfl)
    · cases he
  · cases he
theorem okT4a : CtrOk Try.prog T4a := addC_ok (addC_ok ctr0_ok small_ok) cmp_ok
theorem equal_ok : ∀ args res ob, eEq args = some (res, ob) → All ob → Contract Try.prog 35 args res := by
  intro args res ob he _
  unfold eEq at he
  split at he
  · split at he
    · rename_i a b hx hy
      cases he
      refine Contract.args (args' := [.sl .u8 a, .sl .u8 b]) ⟨wk_of0 (part_wk hx), wk_of0 (part_wk hy), rfl⟩ ?_
      refine contract Try.func35 (body := bodyOf Try.f35) rfl (by kernel_rfl) (by kernel_rfl) rfl ?_
      intro _ w0 S
      have hc := cmpV_eq a b
      rcases Bool.eq_false_or_eq_true (cmpV a b == (0 : Int)) with hc0 | hc0
      · have hd0 := eq_of_beq hc0
        refine hold_endw mixed okT4a (unroll := true) (f := 100) (sc := [true]) (r := (Go.Eng.SV.b (a.length == b.length))) (ob := [(cmpV a b == (0 : Int)) = Bool.true]) (sc' := []) (by kernel_rfl) ?_ ?_
        · exact ⟨hc0, trivial⟩
        · first | (simp_all [wkR, wk, wk0]; done) | (simp only [wkR, wk, wk0]; by_cases q : a = b <;> simp_all; done) | (simp only [wkR, wk, wk0]; by_cases q : a = b <;> simp_all; omega)
      · have hd0 := ne_of_beq_false hc0
        refine hold_endw mixed okT4a (unroll := true) (f := 100) (sc := [false]) (r := (Go.Eng.SV.cb Bool.false)) (ob := [(cmpV a b == (0 : Int)) = Bool.false]) (sc' := []) (by kernel_rfl) ?_ ?_
        · exact ⟨hc0, trivial⟩
        · first | (simp_all [wkR, wk, wk0]; done) | (simp only [wkR, wk, wk0]; by_cases q : a = b <;> simp_all; done) | (simp only [wkR, wk, wk0]; by_cases q : a = b <;> simp_all; omega)
    · cases he
  · cases he
theorem all2_c (a b : List Nat) : Contract Try.prog 60 [.slv 1 [.sl .u8 a, .sl .u8 b]] (.b (allB [a, b])) := by
  refine contract Try.func60 (body := bodyOf Try.f60) rfl (by kernel_rfl) (by kernel_rfl) rfl ?_
  intro _ w0 S
  rcases Bool.eq_false_or_eq_true (!Decidable.decide (a.length ≤ (900 : Nat))) with hc0 | hc0
  · have hd0 := of_decide_eq_false ((Bool.not_eq_true' _).mp hc0)
    refine hold_endw mixed okT4a (unroll := true) (f := 300) (sc := [true]) (r := (Go.Eng.SV.cb Bool.false)) (ob := [(!Decidable.decide (a.length ≤ (900 : Nat))) = Bool.true]) (sc' := []) (by kernel_rfl) ?_ ?_
    · exact ⟨hc0, trivial⟩
    · first | (simp_all [wkR, wk, wk0, allB]; done) | (simp_all [wkR, wk, wk0, allB]; omega)
  · have hd0 := of_decide_eq_true ((Bool.not_eq_false' _).mp hc0)
    rcases Bool.eq_false_or_eq_true (!Decidable.decide (b.length ≤ (900 : Nat))) with hc1 | hc1
    · have hd1 := of_decide_eq_false ((Bool.not_eq_true' _).mp hc1)
      refine hold_endw mixed okT4a (unroll := true) (f := 300) (sc := [false, true]) (r := (Go.Eng.SV.cb Bool.false)) (ob := [(!Decidable.decide (a.length ≤ (900 : Nat))) = Bool.false, (!Decidable.decide (b.length ≤ (900 : Nat))) = Bool.true]) (sc' := []) (by kernel_rfl) ?_ ?_
      · exact ⟨hc0, hc1, trivial⟩
      · first | (simp_all [wkR, wk, wk0, allB]; done) | (simp_all [wkR, wk, wk0, allB]; omega)
    · have hd1 := of_decide_eq_true ((Bool.not_eq_false' _).mp hc1)
      refine hold_endw mixed okT4a (unroll := true) (f := 300) (sc := [false, false]) (r := (Go.Eng.SV.cb (Decidable.decide ((↑(2 : Nat) : Int) ≤ (20 : Int))))) (ob := [(!Decidable.decide (a.length ≤ (900 : Nat))) = Bool.false, (!Decidable.decide (b.length ≤ (900 : Nat))) = Bool.false]) (sc' := []) (by kernel_rfl) ?_ ?_
      · exact ⟨hc0, hc1, trivial⟩
      · first | (simp_all [wkR, wk, wk0, allB]; done) | (simp_all [wkR, wk, wk0, allB]; omega)
theorem all3_c (a b c : List Nat) : Contract Try.prog 60 [.slv 1 [.sl .u8 a, .sl .u8 b, .sl .u8 c]] (.b (allB [a, b, c])) := by
  refine contract Try.func60 (body := bodyOf Try.f60) rfl (by kernel_rfl) (by kernel_rfl) rfl ?_
  intro _ w0 S
  rcases Bool.eq_false_or_eq_true (!Decidable.decide (a.length ≤ (900 : Nat))) with hc0 | hc0
  · have hd0 := of_decide_eq_false ((Bool.not_eq_true' _).mp hc0)
    refine hold_endw mixed okT4a (unroll := true) (f := 300) (sc := [true]) (r := (Go.Eng.SV.cb Bool.false)) (ob := [(!Decidable.decide (a.length ≤ (900 : Nat))) = Bool.true]) (sc' := []) (by kernel_rfl) ?_ ?_
    · exact ⟨hc0, trivial⟩
    · first | (simp_all [wkR, wk, wk0, allB]; done) | (simp_all [wkR, wk, wk0, allB]; omega)
  · have hd0 := of_decide_eq_true ((Bool.not_eq_false' _).mp hc0)
    rcases Bool.eq_false_or_eq_true (!Decidable.decide (b.length ≤ (900 : Nat))) with hc1 | hc1
    · have hd1 := of_decide_eq_false ((Bool.not_eq_true' _).mp hc1)
      refine hold_endw mixed okT4a (unroll := true) (f := 300) (sc := [false, true]) (r := (Go.Eng.SV.cb Bool.false)) (ob := [(!Decidable.decide (a.length ≤ (900 : Nat))) = Bool.false, (!Decidable.decide (b.length ≤ (900 : Nat))) = Bool.true]) (sc' := []) (by kernel_rfl) ?_ ?_
      · exact ⟨hc0, hc1, trivial⟩
      · first | (simp_all [wkR, wk, wk0, allB]; done) | (simp_all [wkR, wk, wk0, allB]; omega)
    · have hd1 := of_decide_eq_true ((Bool.not_eq_false' _).mp hc1)
      rcases Bool.eq_false_or_eq_true (!Decidable.decide (c.length ≤ (900 : Nat))) with hc2 | hc2
      · have hd2 := of_decide_eq_false ((Bool.not_eq_true' _).mp hc2)
        refine hold_endw mixed okT4a (unroll := true) (f := 300) (sc := [false, false, true]) (r := (Go.Eng.SV.cb Bool.false)) (ob := [(!Decidable.decide (a.length ≤ (900 : Nat))) = Bool.false, (!Decidable.decide (b.length ≤ (900 : Nat))) = Bool.false, (!Decidable.decide (c.length ≤ (900 : Nat))) = Bool.true]) (sc' := []) (by kernel_rfl) ?_ ?_
        · exact ⟨hc0, hc1, hc2, trivial⟩
        · first | (simp_all [wkR, wk, wk0, allB]; done) | (simp_all [wkR, wk, wk0, allB]; omega)
      · have hd2 := of_decide_eq_true ((Bool.not_eq_false' _).mp hc2)
        refine hold_endw mixed okT4a (unroll := true) (f := 300) (sc := [false, false, false]) (r := (Go.Eng.SV.cb (Decidable.decide ((↑(3 : Nat) : Int) ≤ (20 : Int))))) (ob := [(!Decidable.decide (a.length ≤ (900 : Nat))) = Bool.false, (!Decidable.decide (b.length ≤ (900 : Nat))) = Bool.false, (!Decidable.decide (c.length ≤ (900 : Nat))) = Bool.false]) (sc' := []) (by kernel_rfl) ?_ ?_
        · exact ⟨hc0, hc1, hc2, trivial⟩
        · first | (simp_all [wkR, wk, wk0, allB]; done) | (simp_all [wkR, wk, wk0, allB]; omega)
theorem all5_c (a b c d e : List Nat) : Contract Try.prog 60 [.slv 1 [.sl .u8 a, .sl .u8 b, .sl .u8 c, .sl .u8 d, .sl .u8 e]] (.b (allB [a, b, c, d, e])) := by
  refine contract Try.func60 (body := bodyOf Try.f60) rfl (by kernel_rfl) (by kernel_rfl) rfl ?_
  intro _ w0 S
  rcases Bool.eq_false_or_eq_true (!Decidable.decide (a.length ≤ (900 : Nat))) with hc0 | hc0
  · have hd0 := of_decide_eq_false ((Bool.not_eq_true' _).mp hc0)
    refine hold_endw mixed okT4a (unroll := true) (f := 300) (sc := [true]) (r := (Go.Eng.SV.cb Bool.false)) (ob := [(!Decidable.decide (a.length ≤ (900 : Nat))) = Bool.true]) (sc' := []) (by kernel_rfl) ?_ ?_
    · exact ⟨hc0, trivial⟩
    · first | (simp_all [wkR, wk, wk0, allB]; done) | (simp_all [wkR, wk, wk0, allB]; omega)
  · have hd0 := of_decide_eq_true ((Bool.not_eq_false' _).mp hc0)
    rcases Bool.eq_false_or_eq_true (!Decidable.decide (b.length ≤ (900 : Nat))) with hc1 | hc1
    · have hd1 := of_decide_eq_false ((Bool.not_eq_true' _).mp hc1)
      refine hold_endw mixed okT4a (unroll := true) (f := 300) (sc := [false, true]) (r := (Go.Eng.SV.cb Bool.false)) (ob := [(!Decidable.decide (a.length ≤ (900 : Nat))) = Bool.false, (!Decidable.decide (b.length ≤ (900 : Nat))) = Bool.true]) (sc' := []) (by kernel_rfl) ?_ ?_
      · exact ⟨hc0, hc1, trivial⟩
      · first | (simp_all [wkR, wk, wk0, allB]; done) | (simp_all [wkR, wk, wk0, allB]; omega)
    · have hd1 := of_decide_eq_true ((Bool.not_eq_false' _).mp hc1)
      rcases Bool.eq_false_or_eq_true (!Decidable.decide (c.length ≤ (900 : Nat))) with hc2 | hc2
      · have hd2 := of_decide_eq_false ((Bool.not_eq_true' _).mp hc2)
        refine hold_endw mixed okT4a (unroll := true) (f := 300) (sc := [false, false, true]) (r := (Go.Eng.SV.cb Bool.false)) (ob := [(!Decidable.decide (a.length ≤ (900 : Nat))) = Bool.false, (!Decidable.decide (b.length ≤ (900 : Nat))) = Bool.false, (!Decidable.decide (c.length ≤ (900 : Nat))) = Bool.true]) (sc' := []) (by kernel_rfl) ?_ ?_
        · exact ⟨hc0, hc1, hc2, trivial⟩
        · first | (simp_all [wkR, wk, wk0, allB]; done) | (simp_all [wkR, wk, wk0, allB]; omega)
      · have hd2 := of_decide_eq_true ((Bool.not_eq_false' _).mp hc2)
        rcases Bool.eq_false_or_eq_true (!Decidable.decide (d.length ≤ (900 : Nat))) with hc3 | hc3
        · have hd3 := of_decide_eq_false ((Bool.not_eq_true' _).mp hc3)
          refine hold_endw mixed okT4a (unroll := true) (f := 300) (sc := [false, false, false, true]) (r := (Go.Eng.SV.cb Bool.false)) (ob := [(!Decidable.decide (a.length ≤ (900 : Nat))) = Bool.false, (!Decidable.decide (b.length ≤ (900 : Nat))) = Bool.false, (!Decidable.decide (c.length ≤ (900 : Nat))) = Bool.false, (!Decidable.decide (d.length ≤ (900 : Nat))) = Bool.true]) (sc' := []) (by kernel_rfl) ?_ ?_
          · exact ⟨hc0, hc1, hc2, hc3, trivial⟩
          · first | (simp_all [wkR, wk, wk0, allB]; done) | (simp_all [wkR, wk, wk0, allB]; omega)
        · have hd3 := of_decide_eq_true ((Bool.not_eq_false' _).mp hc3)
          rcases Bool.eq_false_or_eq_true (!Decidable.decide (e.length ≤ (900 : Nat))) with hc4 | hc4
          · have hd4 := of_decide_eq_false ((Bool.not_eq_true' _).mp hc4)
            refine hold_endw mixed okT4a (unroll := true) (f := 300) (sc := [false, false, false, false, true]) (r := (Go.Eng.SV.cb Bool.false)) (ob := [(!Decidable.decide (a.length ≤ (900 : Nat))) = Bool.false, (!Decidable.decide (b.length ≤ (900 : Nat))) = Bool.false, (!Decidable.decide (c.length ≤ (900 : Nat))) = Bool.false, (!Decidable.decide (d.length ≤ (900 : Nat))) = Bool.false, (!Decidable.decide (e.length ≤ (900 : Nat))) = Bool.true]) (sc' := []) (by kernel_rfl) ?_ ?_
            · exact ⟨hc0, hc1, hc2, hc3, hc4, trivial⟩
            · first | (simp_all [wkR, wk, wk0, allB]; done) | (simp_all [wkR, wk, wk0, allB]; omega)
          · have hd4 := of_decide_eq_true ((Bool.not_eq_false' _).mp hc4)
            refine hold_endw mixed okT4a (unroll := true) (f := 300) (sc := [false, false, false, false, false]) (r := (Go.Eng.SV.cb (Decidable.decide ((↑(5 : Nat) : Int) ≤ (20 : Int))))) (ob := [(!Decidable.decide (a.length ≤ (900 : Nat))) = Bool.false, (!Decidable.decide (b.length ≤ (900 : Nat))) = Bool.false, (!Decidable.decide (c.length ≤ (900 : Nat))) = Bool.false, (!Decidable.decide (d.length ≤ (900 : Nat))) = Bool.false, (!Decidable.decide (e.length ≤ (900 : Nat))) = Bool.false]) (sc' := []) (by kernel_rfl) ?_ ?_
            · exact ⟨hc0, hc1, hc2, hc3, hc4, trivial⟩
            · first | (simp_all [wkR, wk, wk0, allB]; done) | (simp_all [wkR, wk, wk0, allB]; omega)
theorem all_ok : ∀ args res ob, eAll args = some (res, ob) → All ob → Contract Try.prog 60 args res := by
  intro args res ob he _
  unfold eAll at he
  split at he
  · split at he
    · rename_i ha hb
      cases he
      exact slv_argsF (all2_c _ _) ⟨part_wk ha, part_wk hb, rfl⟩ (by simp [SV.size]) rfl
    · cases he
  · split at he
    · rename_i ha hb hc
      cases he
      exact slv_argsF (all3_c _ _ _) ⟨part_wk ha, part_wk hb, part_wk hc, rfl⟩ (by simp [SV.size]) rfl
    · cases he
  · split at he
    · rename_i ha hb hc hd he
      cases he
      exact slv_argsF (all5_c _ _ _ _ _) ⟨part_wk ha, part_wk hb, part_wk hc, part_wk hd, part_wk he, rfl⟩ (by simp [SV.size]) rfl
    · cases he
  · cases he
section
variable {g h : List Nat → List Nat} (hg : g = sum32) (hh : h = sum64) {w0 : World} {S : Own} {res : SV}
include hg hh
theorem early_c (a b : List Nat) (ha : a.length ≤ 900000) (hb : b.length ≤ 900000) : Contract Try.prog 105 [.sl .u8 a, .sl .u8 b] (.sl .u8 (hm g a b)) := by
  have hl : ∀ b, (g b).length = 32 := by rw [hg]; exact sum32_len
  refine contract Try.func105 (body := bodyOf Try.f105) rfl (by kernel_rfl) (by kernel_rfl) rfl ?_
  intro _ w0 S
  exact hold_endw mixed (okT3b hg hh) (unroll := true) (f := 200) (sc := []) (r := (Go.Eng.SV.sl Go.IntKind.u8 (Go.Eng.B.hm g a b))) (ob := [a.length ≤ (900000 : Nat), b.length ≤ (900000 : Nat)]) (sc' := []) (by kernel_rfl) (by repeat' first | exact trivial | omega | (simp only [List.length_append]; omega) | refine ⟨?_, ?_⟩) (wkR_of rfl)
theorem out_c (a b : List Nat) (ha : a.length ≤ 900000) (hb : b.length ≤ 900000) : Contract Try.prog 115 [.sl .u8 a, .sl .u8 b] (.tup [.sl .u8 (kV g a 7 b 32), .u .i64 (kErr 7 b 32)]) := by
  have hl : ∀ b, (g b).length = 32 := by rw [hg]; exact sum32_len
  refine contract Try.func115 (body := bodyOf Try.f115) rfl (by kernel_rfl) (by kernel_rfl) rfl ?_
  intro _ w0 S
  exact hold_endw mixed (okT3b hg hh) (unroll := true) (f := 200) (sc := []) (r := (Go.Eng.SV.tup [Go.Eng.SV.sl Go.IntKind.u8 (Go.Eng.B.kV g a (7 : Int) b (32 : Int)), Go.Eng.SV.u Go.IntKind.i64 (Go.Eng.B.kErr (7 : Int) b (32 : Int))])) (ob := [a.length ≤ (900000 : Nat)]) (sc' := []) (by kernel_rfl) (by repeat' first | exact trivial | omega | (simp only [List.length_append]; omega) | refine ⟨?_, ?_⟩) (wkR_of rfl)
theorem update_c (a b : List Nat) (ha : a.length ≤ 900000) (hb : b.length ≤ 900000) : Contract Try.prog 117 [.sl .u8 a, .sl .u8 b] (.tup [.sl .u8 (kV g a 11 b 32), .u .i64 (kErr 11 b 32)]) := by
  have hl : ∀ b, (g b).length = 32 := by rw [hg]; exact sum32_len
  refine contract Try.func117 (body := bodyOf Try.f117) rfl (by kernel_rfl) (by kernel_rfl) rfl ?_
  intro _ w0 S
  exact hold_endw mixed (okT3b hg hh) (unroll := true) (f := 200) (sc := []) (r := (Go.Eng.SV.tup [Go.Eng.SV.sl Go.IntKind.u8 (Go.Eng.B.kV g a (11 : Int) b (32 : Int)), Go.Eng.SV.u Go.IntKind.i64 (Go.Eng.B.kErr (11 : Int) b (32 : Int))])) (ob := [a.length ≤ (900000 : Nat)]) (sc' := []) (by kernel_rfl) (by repeat' first | exact trivial | omega | (simp only [List.length_append]; omega) | refine ⟨?_, ?_⟩) (wkR_of rfl)
theorem stream_c (a b : List Nat) (n : Int) (ha : a.length ≤ 900000) : Contract Try.prog 113 [.sl .u8 a, .sl .u8 b, .i .i64 n] (.tup [.sl .u8 (kV g a 0 b n), .u .i64 (kErr 0 b n)]) := by
  have hl : ∀ b, (g b).length = 32 := by rw [hg]; exact sum32_len
  refine contract Try.func113 (body := bodyOf Try.f113) rfl (by kernel_rfl) (by kernel_rfl) rfl ?_
  intro _ w0 S
  exact hold_endw mixed (okT3b hg hh) (unroll := true) (f := 200) (sc := []) (r := (Go.Eng.SV.tup [Go.Eng.SV.sl Go.IntKind.u8 (Go.Eng.B.kV g a (0 : Int) b n), Go.Eng.SV.u Go.IntKind.i64 (Go.Eng.B.kErr (0 : Int) b n)])) (ob := [a.length ≤ (900000 : Nat)]) (sc' := []) (by kernel_rfl) (by repeat' first | exact trivial | omega | (simp only [List.length_append]; omega) | refine ⟨?_, ?_⟩) (wkR_of rfl)
theorem mix_c (a b s : List Nat) (l : Int) (ha : a.length ≤ 900000) (hs : s.length ≤ 900000) : Contract Try.prog 107 [.sl .u8 a, .i .i64 l, .sl .u8 b, .sl .u8 s] (.tup [.sl .u8 (mixV g a l b s), .u .i64 (kErr l b 32)]) := by
  have hl : ∀ b, (g b).length = 32 := by rw [hg]; exact sum32_len
  refine contract Try.func107 (body := bodyOf Try.f107) rfl (by kernel_rfl) (by kernel_rfl) rfl ?_
  intro _ w0 S
  have hk := kV_len hl a l b 32
  rcases Bool.eq_false_or_eq_true (Go.Eng.B.kErr l b (32 : Int) != (0 : Nat)) with hc0 | hc0
  · have hd0 := bne_iff_ne.mp hc0
    refine hold_endw mixed (okT3b hg hh) (unroll := true) (f := 200) (sc := [true]) (r := (Go.Eng.SV.tup [Go.Eng.SV.sl Go.IntKind.u8 [], Go.Eng.SV.u Go.IntKind.i64 (Go.Eng.B.kErr l b (32 : Int))])) (ob := [a.length ≤ (900000 : Nat), (Go.Eng.B.kErr l b (32 : Int) != (0 : Nat)) = Bool.true]) (sc' := []) (by kernel_rfl) ?_ ?_
    · exact ⟨(by first | omega | with_reducible trivial), hc0, trivial⟩
    · first | (have e : kErr l b 32 = 0 := by simp_all); (unfold mixV; rw [e, if_pos rfl]; simp [wkR, wkl, wk, wk0, lim]; done) | (have e : kErr l b 32 ≠ 0 := by simp_all); (unfold mixV; rw [if_neg e]; simp [wkR, wkl, wk, wk0, lim]; done)
  · have hd0 := bne_eq_false_iff_eq.mp hc0
    refine hold_endw mixed (okT3b hg hh) (unroll := true) (f := 200) (sc := [false]) (r := (Go.Eng.SV.tup [Go.Eng.SV.sl Go.IntKind.u8 (Go.Eng.B.hm g (Go.Eng.B.kV g a l b (32 : Int)) s), Go.Eng.SV.c Go.IntKind.i64 (0 : Int)])) (ob := [a.length ≤ (900000 : Nat), (Go.Eng.B.kErr l b (32 : Int) != (0 : Nat)) = Bool.false, (Go.Eng.B.kV g a l b (32 : Int)).length ≤ (900000 : Nat), s.length ≤ (900000 : Nat)]) (sc' := []) (by kernel_rfl) ?_ ?_
    · exact ⟨(by first | omega | with_reducible trivial), hc0, (by first | omega | with_reducible trivial), (by first | omega | with_reducible trivial), trivial⟩
    · first | (have e : kErr l b 32 = 0 := by simp_all); (unfold mixV; rw [e, if_pos rfl]; simp [wkR, wkl, wk, wk0, lim]; done) | (have e : kErr l b 32 ≠ 0 := by simp_all); (unfold mixV; rw [if_neg e]; simp [wkR, wkl, wk, wk0, lim]; done)
theorem keyiv_c (a b : List Nat) (l : Int) (ha : a.length ≤ 900000) (hl0 : inR .i64 l) : Contract Try.prog 109 [.sl .u8 a, .i .i64 l, .sl .u8 b] (.tup [.sl .u8 (ivK g a l b), .sl .u8 (ivI g a l b), .u .i64 (ivErr l b)]) := by
  have hl : ∀ b, (g b).length = 32 := by rw [hg]; exact sum32_len
  refine contract Try.func109 (body := bodyOf Try.f109) rfl (by kernel_rfl) (by kernel_rfl) rfl ?_
  intro _ w0 S
  simp only [inR, lo, lim] at hl0
  rcases Bool.eq_false_or_eq_true (Go.Eng.B.kErr l b (16 : Int) != (0 : Nat)) with hc0 | hc0
  · have hd0 := bne_iff_ne.mp hc0
    refine hold_endw mixed (okT3b hg hh) (unroll := true) (f := 200) (sc := [true]) (r := (Go.Eng.SV.tup [Go.Eng.SV.sl Go.IntKind.u8 [], Go.Eng.SV.sl Go.IntKind.u8 [], Go.Eng.SV.u Go.IntKind.i64 (Go.Eng.B.kErr l b (16 : Int))])) (ob := [a.length ≤ (900000 : Nat), (Go.Eng.B.kErr l b (16 : Int) != (0 : Nat)) = Bool.true]) (sc' := []) (by kernel_rfl) ?_ ?_
    · exact ⟨(by first | omega | with_reducible trivial | (simp only [inR, lo, lim]; omega) | (have e : kErr l b 16 = 0 := by simp_all); (have q : l ≤ 1048576 := by (unfold kErr at e; split at e <;> omega)); (simp only [inR, lo, lim]; omega)), hc0, trivial⟩
    · first | (simp_all [ivK, ivI, ivErr, wkR, wkl, wk, wk0, lim]; done) | (unfold ivK ivI ivErr; simp_all [wkR, wkl, wk, wk0, lim]; done)
  · have hd0 := bne_eq_false_iff_eq.mp hc0
    rcases Bool.eq_false_or_eq_true (Go.Eng.B.kErr (l + (1 : Int)) b (13 : Int) != (0 : Nat)) with hc1 | hc1
    · have hd1 := bne_iff_ne.mp hc1
      refine hold_endw mixed (okT3b hg hh) (unroll := true) (f := 200) (sc := [false, true]) (r := (Go.Eng.SV.tup [Go.Eng.SV.sl Go.IntKind.u8 [], Go.Eng.SV.sl Go.IntKind.u8 [], Go.Eng.SV.u Go.IntKind.i64 (Go.Eng.B.kErr (l + (1 : Int)) b (13 : Int))])) (ob := [a.length ≤ (900000 : Nat), (Go.Eng.B.kErr l b (16 : Int) != (0 : Nat)) = Bool.false, Go.Eng.inR Go.IntKind.i64 (l + (1 : Int)), a.length ≤ (900000 : Nat), (Go.Eng.B.kErr (l + (1 : Int)) b (13 : Int) != (0 : Nat)) = Bool.true]) (sc' := []) (by kernel_rfl) ?_ ?_
      · exact ⟨(by first | omega | with_reducible trivial | (simp only [inR, lo, lim]; omega) | (have e : kErr l b 16 = 0 := by simp_all); (have q : l ≤ 1048576 := by (unfold kErr at e; split at e <;> omega)); (simp only [inR, lo, lim]; omega)), hc0, (by first | omega | with_reducible trivial | (simp only [inR, lo, lim]; omega) | (have e : kErr l b 16 = 0 := by simp_all); (have q : l ≤ 1048576 := by (unfold kErr at e; split at e <;> omega)); (simp only [inR, lo, lim]; omega)), (by first | omega | with_reducible trivial | (simp only [inR, lo, lim]; omega) | (have e : kErr l b 16 = 0 := by simp_all); (have q : l ≤ 1048576 := by (unfold kErr at e; split at e <;> omega)); (simp only [inR, lo, lim]; omega)), hc1, trivial⟩
      · first | (simp_all [ivK, ivI, ivErr, wkR, wkl, wk, wk0, lim]; done) | (unfold ivK ivI ivErr; simp_all [wkR, wkl, wk, wk0, lim]; done)
    · have hd1 := bne_eq_false_iff_eq.mp hc1
      refine hold_endw mixed (okT3b hg hh) (unroll := true) (f := 200) (sc := [false, false]) (r := (Go.Eng.SV.tup [Go.Eng.SV.sl Go.IntKind.u8 (Go.Eng.B.kV g a l b (16 : Int)), Go.Eng.SV.sl Go.IntKind.u8 (Go.Eng.B.kV g a (l + (1 : Int)) b (13 : Int)), Go.Eng.SV.c Go.IntKind.i64 (0 : Int)])) (ob := [a.length ≤ (900000 : Nat), (Go.Eng.B.kErr l b (16 : Int) != (0 : Nat)) = Bool.false, Go.Eng.inR Go.IntKind.i64 (l + (1 : Int)), a.length ≤ (900000 : Nat), (Go.Eng.B.kErr (l + (1 : Int)) b (13 : Int) != (0 : Nat)) = Bool.false]) (sc' := []) (by kernel_rfl) ?_ ?_
      · exact ⟨(by first | omega | with_reducible trivial | (simp only [inR, lo, lim]; omega) | (have e : kErr l b 16 = 0 := by simp_all); (have q : l ≤ 1048576 := by (unfold kErr at e; split at e <;> omega)); (simp only [inR, lo, lim]; omega)), hc0, (by first | omega | with_reducible trivial | (simp only [inR, lo, lim]; omega) | (have e : kErr l b 16 = 0 := by simp_all); (have q : l ≤ 1048576 := by (unfold kErr at e; split at e <;> omega)); (simp only [inR, lo, lim]; omega)), (by first | omega | with_reducible trivial | (simp only [inR, lo, lim]; omega) | (have e : kErr l b 16 = 0 := by simp_all); (have q : l ≤ 1048576 := by (unfold kErr at e; split at e <;> omega)); (simp only [inR, lo, lim]; omega)), hc1, trivial⟩
      · first | (simp_all [ivK, ivI, ivErr, wkR, wkl, wk, wk0, lim]; done) | (unfold ivK ivI ivErr; simp_all [wkR, wkl, wk, wk0, lim]; done)
theorem exporter_c (a c : List Nat) (l n : Int) (ha : a.length ≤ 900000) : Contract Try.prog 111 [.sl .u8 a, .i .i64 l, .sl .u8 c, .i .i64 n] (.tup [.sl .u8 (kV g (expO g a) l c n), .u .i64 (kErr l c n)]) := by
  have hl : ∀ b, (g b).length = 32 := by rw [hg]; exact sum32_len
  refine contract Try.func111 (body := bodyOf Try.f111) rfl (by kernel_rfl) (by kernel_rfl) rfl ?_
  intro _ w0 S
  have hk := expO_len hl a
  unfold expO at hk ⊢
  rcases Bool.eq_false_or_eq_true (Bool.false) with hc0 | hc0
  · exact Bool.noConfusion hc0
  · refine hold_endw mixed (okT3b hg hh) (unroll := true) (f := 200) (sc := [false]) (r := (Go.Eng.SV.tup [Go.Eng.SV.sl Go.IntKind.u8 (Go.Eng.B.kV g (Go.Eng.B.kV g a (10 : Int) [] (32 : Int)) l c n), Go.Eng.SV.u Go.IntKind.i64 (Go.Eng.B.kErr l c n)])) (ob := [a.length ≤ (900000 : Nat), Bool.false = Bool.false, (Go.Eng.B.kV g a (10 : Int) [] (32 : Int)).length ≤ (900000 : Nat)]) (sc' := []) (by kernel_rfl) ?_ ?_
    · exact ⟨(by first | omega | with_reducible trivial), hc0, (by first | omega | with_reducible trivial), trivial⟩
    · first | (exact wkR_refl _) | (exfalso; have e : kErr 10 [] 32 = 0 := by decide); (simp_all; done)
theorem qearly_c (a b : List Nat) (ha : a.length ≤ 900000) (hb : b.length ≤ 900000) : Contract Try.prog 106 [.sl .u8 a, .sl .u8 b] (.sl .u8 (hm g a b)) := by
  have hl : ∀ b, (g b).length = 32 := by rw [hg]; exact sum32_len
  refine contract Try.func106 (body := bodyOf Try.f106) rfl (by kernel_rfl) (by kernel_rfl) rfl ?_
  intro _ w0 S
  exact hold_endw mixed (okT3b hg hh) (unroll := true) (f := 200) (sc := []) (r := (Go.Eng.SV.sl Go.IntKind.u8 (Go.Eng.B.hm g a b))) (ob := [a.length ≤ (900000 : Nat), b.length ≤ (900000 : Nat)]) (sc' := []) (by kernel_rfl) (by repeat' first | exact trivial | omega | (simp only [List.length_append]; omega) | refine ⟨?_, ?_⟩) (wkR_of rfl)
theorem qout_c (a b : List Nat) (ha : a.length ≤ 900000) (hb : b.length ≤ 900000) : Contract Try.prog 116 [.sl .u8 a, .sl .u8 b] (.tup [.sl .u8 (kV g a 7 b 32), .u .i64 (kErr 7 b 32)]) := by
  have hl : ∀ b, (g b).length = 32 := by rw [hg]; exact sum32_len
  refine contract Try.func116 (body := bodyOf Try.f116) rfl (by kernel_rfl) (by kernel_rfl) rfl ?_
  intro _ w0 S
  exact hold_endw mixed (okT3b hg hh) (unroll := true) (f := 200) (sc := []) (r := (Go.Eng.SV.tup [Go.Eng.SV.sl Go.IntKind.u8 (Go.Eng.B.kV g a (7 : Int) b (32 : Int)), Go.Eng.SV.u Go.IntKind.i64 (Go.Eng.B.kErr (7 : Int) b (32 : Int))])) (ob := [a.length ≤ (900000 : Nat)]) (sc' := []) (by kernel_rfl) (by repeat' first | exact trivial | omega | (simp only [List.length_append]; omega) | refine ⟨?_, ?_⟩) (wkR_of rfl)
theorem qupdate_c (a b : List Nat) (ha : a.length ≤ 900000) (hb : b.length ≤ 900000) : Contract Try.prog 118 [.sl .u8 a, .sl .u8 b] (.tup [.sl .u8 (kV g a 11 b 32), .u .i64 (kErr 11 b 32)]) := by
  have hl : ∀ b, (g b).length = 32 := by rw [hg]; exact sum32_len
  refine contract Try.func118 (body := bodyOf Try.f118) rfl (by kernel_rfl) (by kernel_rfl) rfl ?_
  intro _ w0 S
  exact hold_endw mixed (okT3b hg hh) (unroll := true) (f := 200) (sc := []) (r := (Go.Eng.SV.tup [Go.Eng.SV.sl Go.IntKind.u8 (Go.Eng.B.kV g a (11 : Int) b (32 : Int)), Go.Eng.SV.u Go.IntKind.i64 (Go.Eng.B.kErr (11 : Int) b (32 : Int))])) (ob := [a.length ≤ (900000 : Nat)]) (sc' := []) (by kernel_rfl) (by repeat' first | exact trivial | omega | (simp only [List.length_append]; omega) | refine ⟨?_, ?_⟩) (wkR_of rfl)
theorem qstream_c (a b : List Nat) (n : Int) (ha : a.length ≤ 900000) : Contract Try.prog 114 [.sl .u8 a, .sl .u8 b, .i .i64 n] (.tup [.sl .u8 (kV g a 0 b n), .u .i64 (kErr 0 b n)]) := by
  have hl : ∀ b, (g b).length = 32 := by rw [hg]; exact sum32_len
  refine contract Try.func114 (body := bodyOf Try.f114) rfl (by kernel_rfl) (by kernel_rfl) rfl ?_
  intro _ w0 S
  exact hold_endw mixed (okT3b hg hh) (unroll := true) (f := 200) (sc := []) (r := (Go.Eng.SV.tup [Go.Eng.SV.sl Go.IntKind.u8 (Go.Eng.B.kV g a (0 : Int) b n), Go.Eng.SV.u Go.IntKind.i64 (Go.Eng.B.kErr (0 : Int) b n)])) (ob := [a.length ≤ (900000 : Nat)]) (sc' := []) (by kernel_rfl) (by repeat' first | exact trivial | omega | (simp only [List.length_append]; omega) | refine ⟨?_, ?_⟩) (wkR_of rfl)
theorem qmix_c (a b s : List Nat) (l : Int) (ha : a.length ≤ 900000) (hs : s.length ≤ 900000) : Contract Try.prog 108 [.sl .u8 a, .i .i64 l, .sl .u8 b, .sl .u8 s] (.tup [.sl .u8 (mixV g a l b s), .u .i64 (kErr l b 32)]) := by
  have hl : ∀ b, (g b).length = 32 := by rw [hg]; exact sum32_len
  refine contract Try.func108 (body := bodyOf Try.f108) rfl (by kernel_rfl) (by kernel_rfl) rfl ?_
  intro _ w0 S
  have hk := kV_len hl a l b 32
  rcases Bool.eq_false_or_eq_true (Go.Eng.B.kErr l b (32 : Int) != (0 : Nat)) with hc0 | hc0
  · have hd0 := bne_iff_ne.mp hc0
    refine hold_endw mixed (okT3b hg hh) (unroll := true) (f := 200) (sc := [true]) (r := (Go.Eng.SV.tup [Go.Eng.SV.sl Go.IntKind.u8 [], Go.Eng.SV.u Go.IntKind.i64 (Go.Eng.B.kErr l b (32 : Int))])) (ob := [a.length ≤ (900000 : Nat), (Go.Eng.B.kErr l b (32 : Int) != (0 : Nat)) = Bool.true]) (sc' := []) (by kernel_rfl) ?_ ?_
    · exact ⟨(by first | omega | with_reducible trivial), hc0, trivial⟩
    · first | (have e : kErr l b 32 = 0 := by simp_all); (unfold mixV; rw [e, if_pos rfl]; simp [wkR, wkl, wk, wk0, lim]; done) | (have e : kErr l b 32 ≠ 0 := by simp_all); (unfold mixV; rw [if_neg e]; simp [wkR, wkl, wk, wk0, lim]; done)
  · have hd0 := bne_eq_false_iff_eq.mp hc0
    refine hold_endw mixed (okT3b hg hh) (unroll := true) (f := 200) (sc := [false]) (r := (Go.Eng.SV.tup [Go.Eng.SV.sl Go.IntKind.u8 (Go.Eng.B.hm g (Go.Eng.B.kV g a l b (32 : Int)) s), Go.Eng.SV.c Go.IntKind.i64 (0 : Int)])) (ob := [a.length ≤ (900000 : Nat), (Go.Eng.B.kErr l b (32 : Int) != (0 : Nat)) = Bool.false, (Go.Eng.B.kV g a l b (32 : Int)).length ≤ (900000 : Nat), s.length ≤ (900000 : Nat)]) (sc' := []) (by kernel_rfl) ?_ ?_
    · exact ⟨(by first | omega | with_reducible trivial), hc0, (by first | omega | with_reducible trivial), (by first | omega | with_reducible trivial), trivial⟩
    · first | (have e : kErr l b 32 = 0 := by simp_all); (unfold mixV; rw [e, if_pos rfl]; simp [wkR, wkl, wk, wk0, lim]; done) | (have e : kErr l b 32 ≠ 0 := by simp_all); (unfold mixV; rw [if_neg e]; simp [wkR, wkl, wk, wk0, lim]; done)
theorem qkeyiv_c (a b : List Nat) (l : Int) (ha : a.length ≤ 900000) (hl0 : inR .i64 l) : Contract Try.prog 110 [.sl .u8 a, .i .i64 l, .sl .u8 b] (.tup [.sl .u8 (ivK g a l b), .sl .u8 (ivI g a l b), .u .i64 (ivErr l b)]) := by
  have hl : ∀ b, (g b).length = 32 := by rw [hg]; exact sum32_len
  refine contract Try.func110 (body := bodyOf Try.f110) rfl (by kernel_rfl) (by kernel_rfl) rfl ?_
  intro _ w0 S
  simp only [inR, lo, lim] at hl0
  rcases Bool.eq_false_or_eq_true (Go.Eng.B.kErr l b (16 : Int) != (0 : Nat)) with hc0 | hc0
  · have hd0 := bne_iff_ne.mp hc0
    refine hold_endw mixed (okT3b hg hh) (unroll := true) (f := 200) (sc := [true]) (r := (Go.Eng.SV.tup [Go.Eng.SV.sl Go.IntKind.u8 [], Go.Eng.SV.sl Go.IntKind.u8 [], Go.Eng.SV.u Go.IntKind.i64 (Go.Eng.B.kErr l b (16 : Int))])) (ob := [a.length ≤ (900000 : Nat), (Go.Eng.B.kErr l b (16 : Int) != (0 : Nat)) = Bool.true]) (sc' := []) (by kernel_rfl) ?_ ?_
    · exact ⟨(by first | omega | with_reducible trivial | (simp only [inR, lo, lim]; omega) | (have e : kErr l b 16 = 0 := by simp_all); (have q : l ≤ 1048576 := by (unfold kErr at e; split at e <;> omega)); (simp only [inR, lo, lim]; omega)), hc0, trivial⟩
    · first | (simp_all [ivK, ivI, ivErr, wkR, wkl, wk, wk0, lim]; done) | (unfold ivK ivI ivErr; simp_all [wkR, wkl, wk, wk0, lim]; done)
  · have hd0 := bne_eq_false_iff_eq.mp hc0
    rcases Bool.eq_false_or_eq_true (Go.Eng.B.kErr (l + (1 : Int)) b (13 : Int) != (0 : Nat)) with hc1 | hc1
    · have hd1 := bne_iff_ne.mp hc1
      refine hold_endw mixed (okT3b hg hh) (unroll := true) (f := 200) (sc := [false, true]) (r := (Go.Eng.SV.tup [Go.Eng.SV.sl Go.IntKind.u8 [], Go.Eng.SV.sl Go.IntKind.u8 [], Go.Eng.SV.u Go.IntKind.i64 (Go.Eng.B.kErr (l + (1 : Int)) b (13 : Int))])) (ob := [a.length ≤ (900000 : Nat), (Go.Eng.B.kErr l b (16 : Int) != (0 : Nat)) = Bool.false, Go.Eng.inR Go.IntKind.i64 (l + (1 : Int)), a.length ≤ (900000 : Nat), (Go.Eng.B.kErr (l + (1 : Int)) b (13 : Int) != (0 : Nat)) = Bool.true]) (sc' := []) (by kernel_rfl) ?_ ?_
      · exact ⟨(by first | omega | with_reducible trivial | (simp only [inR, lo, lim]; omega) | (have e : kErr l b 16 = 0 := by simp_all); (have q : l ≤ 1048576 := by (unfold kErr at e; split at e <;> omega)); (simp only [inR, lo, lim]; omega)), hc0, (by first | omega | with_reducible trivial | (simp only [inR, lo, lim]; omega) | (have e : kErr l b 16 = 0 := by simp_all); (have q : l ≤ 1048576 := by (unfold kErr at e; split at e <;> omega)); (simp only [inR, lo, lim]; omega)), (by first | omega | with_reducible trivial | (simp only [inR, lo, lim]; omega) | (have e : kErr l b 16 = 0 := by simp_all); (have q : l ≤ 1048576 := by (unfold kErr at e; split at e <;> omega)); (simp only [inR, lo, lim]; omega)), hc1, trivial⟩
      · first | (simp_all [ivK, ivI, ivErr, wkR, wkl, wk, wk0, lim]; done) | (unfold ivK ivI ivErr; simp_all [wkR, wkl, wk, wk0, lim]; done)
    · have hd1 := bne_eq_false_iff_eq.mp hc1
      refine hold_endw mixed (okT3b hg hh) (unroll := true) (f := 200) (sc := [false, false]) (r := (Go.Eng.SV.tup [Go.Eng.SV.sl Go.IntKind.u8 (Go.Eng.B.kV g a l b (16 : Int)), Go.Eng.SV.sl Go.IntKind.u8 (Go.Eng.B.kV g a (l + (1 : Int)) b (13 : Int)), Go.Eng.SV.c Go.IntKind.i64 (0 : Int)])) (ob := [a.length ≤ (900000 : Nat), (Go.Eng.B.kErr l b (16 : Int) != (0 : Nat)) = Bool.false, Go.Eng.inR Go.IntKind.i64 (l + (1 : Int)), a.length ≤ (900000 : Nat), (Go.Eng.B.kErr (l + (1 : Int)) b (13 : Int) != (0 : Nat)) = Bool.false]) (sc' := []) (by kernel_rfl) ?_ ?_
      · exact ⟨(by first | omega | with_reducible trivial | (simp only [inR, lo, lim]; omega) | (have e : kErr l b 16 = 0 := by simp_all); (have q : l ≤ 1048576 := by (unfold kErr at e; split at e <;> omega)); (simp only [inR, lo, lim]; omega)), hc0, (by first | omega | with_reducible trivial | (simp only [inR, lo, lim]; omega) | (have e : kErr l b 16 = 0 := by simp_all); (have q : l ≤ 1048576 := by (unfold kErr at e; split at e <;> omega)); (simp only [inR, lo, lim]; omega)), (by first | omega | with_reducible trivial | (simp only [inR, lo, lim]; omega) | (have e : kErr l b 16 = 0 := by simp_all); (have q : l ≤ 1048576 := by (unfold kErr at e; split at e <;> omega)); (simp only [inR, lo, lim]; omega)), hc1, trivial⟩
      · first | (simp_all [ivK, ivI, ivErr, wkR, wkl, wk, wk0, lim]; done) | (unfold ivK ivI ivErr; simp_all [wkR, wkl, wk, wk0, lim]; done)
theorem qexporter_c (a c : List Nat) (l n : Int) (ha : a.length ≤ 900000) : Contract Try.prog 112 [.sl .u8 a, .i .i64 l, .sl .u8 c, .i .i64 n] (.tup [.sl .u8 (kV g (expO g a) l c n), .u .i64 (kErr l c n)]) := by
  have hl : ∀ b, (g b).length = 32 := by rw [hg]; exact sum32_len
  refine contract Try.func112 (body := bodyOf Try.f112) rfl (by kernel_rfl) (by kernel_rfl) rfl ?_
  intro _ w0 S
  have hk := expO_len hl a
  unfold expO at hk ⊢
  exact hold_endw mixed (okT3b hg hh) (unroll := true) (f := 200) (sc := []) (r := (Go.Eng.SV.tup [Go.Eng.SV.sl Go.IntKind.u8 (Go.Eng.B.kV g (Go.Eng.B.kV g a (10 : Int) [] (32 : Int)) l c n), Go.Eng.SV.u Go.IntKind.i64 (Go.Eng.B.kErr l c n)])) (ob := [a.length ≤ (900000 : Nat), (Go.Eng.B.kV g a (10 : Int) [] (32 : Int)).length ≤ (900000 : Nat)]) (sc' := []) (by kernel_rfl) (by repeat' first | exact trivial | omega | (simp only [List.length_append]; omega) | refine ⟨?_, ?_⟩) (wkR_refl _)
theorem th2_c (a b : List Nat) (ha : a.length ≤ 90000) (hb : b.length ≤ 90000) : Contract Try.prog 121 [.sl .u8 a, .sl .u8 b] (.tup [.sl .u8 (th2V g a b), .u .i64 (lErr (longB [a, b]))]) := by
  have hl : ∀ b, (g b).length = 32 := by rw [hg]; exact sum32_len
  refine contract Try.func121 (body := bodyOf Try.f121) rfl (by kernel_rfl) (by kernel_rfl) rfl ?_
  intro _ w0 S
  have s1 := strL_len a; have s2 := strL_len (g b); have s3 := hl b
  rcases Bool.eq_false_or_eq_true (Go.Eng.B.longB [a, b]) with hc0 | hc0
  · refine hold_endw mixed (okT3b hg hh) (unroll := true) (f := 200) (sc := [true]) (r := (Go.Eng.SV.tup [Go.Eng.SV.sl Go.IntKind.u8 [], Go.Eng.SV.c Go.IntKind.i64 (8 : Int)])) (ob := [Go.Eng.B.longB [a, b] = Bool.true]) (sc' := []) (by kernel_rfl) ?_ ?_
    · exact ⟨hc0, trivial⟩
    · first | (simp_all [th2V, lErr, wkR, wkl, wk, wk0, lim]; done)
  · refine hold_endw mixed (okT3b hg hh) (unroll := true) (f := 200) (sc := [false]) (r := (Go.Eng.SV.tup [Go.Eng.SV.sl Go.IntKind.u8 (g (Go.Eng.B.strL a ++ Go.Eng.B.strL (g b))), Go.Eng.SV.c Go.IntKind.i64 (0 : Int)])) (ob := [Go.Eng.B.longB [a, b] = Bool.false, a.length ≤ (100000000 : Nat), b.length ≤ (100000 : Nat), (g b).length ≤ (100000000 : Nat), (Go.Eng.B.strL a).length ≤ (100000 : Nat), (Go.Eng.B.strL (g b)).length ≤ (100000 : Nat)]) (sc' := []) (by kernel_rfl) ?_ ?_
    · exact ⟨hc0, (by first | omega | with_reducible trivial), (by first | omega | with_reducible trivial), (by first | omega | with_reducible trivial), (by first | omega | with_reducible trivial), (by first | omega | with_reducible trivial), trivial⟩
    · first | (simp_all [th2V, lErr, wkR, wkl, wk, wk0, lim]; done)
theorem qth2_c (a b : List Nat) (ha : a.length ≤ 90000) (hb : b.length ≤ 90000) : Contract Try.prog 122 [.sl .u8 a, .sl .u8 b] (.tup [.sl .u8 (th2V g a b), .u .i64 (lErr (longB [a, b]))]) := by
  have hl : ∀ b, (g b).length = 32 := by rw [hg]; exact sum32_len
  refine contract Try.func122 (body := bodyOf Try.f122) rfl (by kernel_rfl) (by kernel_rfl) rfl ?_
  intro _ w0 S
  have s1 := strL_len a; have s2 := strL_len (g b); have s3 := hl b
  rcases Bool.eq_false_or_eq_true (Go.Eng.B.longB [a, b]) with hc0 | hc0
  · refine hold_endw mixed (okT3b hg hh) (unroll := true) (f := 200) (sc := [true]) (r := (Go.Eng.SV.tup [Go.Eng.SV.sl Go.IntKind.u8 [], Go.Eng.SV.c Go.IntKind.i64 (8 : Int)])) (ob := [Go.Eng.B.longB [a, b] = Bool.true]) (sc' := []) (by kernel_rfl) ?_ ?_
    · exact ⟨hc0, trivial⟩
    · first | (simp_all [th2V, lErr, wkR, wkl, wk, wk0, lim]; done)
  · refine hold_endw mixed (okT3b hg hh) (unroll := true) (f := 200) (sc := [false]) (r := (Go.Eng.SV.tup [Go.Eng.SV.sl Go.IntKind.u8 (g (Go.Eng.B.strL a ++ Go.Eng.B.strL (g b))), Go.Eng.SV.c Go.IntKind.i64 (0 : Int)])) (ob := [Go.Eng.B.longB [a, b] = Bool.false, a.length ≤ (100000000 : Nat), b.length ≤ (1000000 : Nat), (g b).length ≤ (100000000 : Nat), (Go.Eng.B.strL a).length + (Go.Eng.B.strL (g b)).length ≤ (100000000 : Nat), (Go.Eng.B.strL a ++ Go.Eng.B.strL (g b)).length ≤ (1000000 : Nat)]) (sc' := []) (by kernel_rfl) ?_ ?_
    · exact ⟨hc0, (by first | omega | with_reducible trivial | (simp only [List.length_append]; omega)), (by first | omega | with_reducible trivial | (simp only [List.length_append]; omega)), (by first | omega | with_reducible trivial | (simp only [List.length_append]; omega)), (by first | omega | with_reducible trivial | (simp only [List.length_append]; omega)), (by first | omega | with_reducible trivial | (simp only [List.length_append]; omega)), trivial⟩
    · first | (simp_all [th2V, lErr, wkR, wkl, wk, wk0, lim]; done)
theorem next23_c (a b c : List Nat) (ha : a.length ≤ 90000) (hb : b.length ≤ 90000) (hc : c.length ≤ 90000) : Contract Try.prog 123 [.sl .u8 a, .sl .u8 b, .sl .u8 c] (.tup [.sl .u8 (nxV g a b c), .u .i64 (lErr (longB [a, b, c]))]) := by
  have hl : ∀ b, (g b).length = 32 := by rw [hg]; exact sum32_len
  refine contract Try.func123 (body := bodyOf Try.f123) rfl (by kernel_rfl) (by kernel_rfl) rfl ?_
  intro _ w0 S
  have s1 := strL_len a
  rcases Bool.eq_false_or_eq_true (Go.Eng.B.longB [a, b, c]) with hc0 | hc0
  · refine hold_endw mixed (okT3b hg hh) (unroll := true) (f := 200) (sc := [true]) (r := (Go.Eng.SV.tup [Go.Eng.SV.sl Go.IntKind.u8 [], Go.Eng.SV.c Go.IntKind.i64 (8 : Int)])) (ob := [Go.Eng.B.longB [a, b, c] = Bool.true]) (sc' := []) (by kernel_rfl) ?_ ?_
    · exact ⟨hc0, trivial⟩
    · first | (simp_all [nxV, lErr, wkR, wkl, wk, wk0, lim]; done)
  · refine hold_endw mixed (okT3b hg hh) (unroll := true) (f := 200) (sc := [false]) (r := (Go.Eng.SV.tup [Go.Eng.SV.sl Go.IntKind.u8 (g (Go.Eng.B.strL a ++ b ++ c)), Go.Eng.SV.c Go.IntKind.i64 (0 : Int)])) (ob := [Go.Eng.B.longB [a, b, c] = Bool.false, a.length ≤ (100000000 : Nat), (Go.Eng.B.strL a).length ≤ (100000 : Nat), b.length ≤ (100000 : Nat), c.length ≤ (100000 : Nat)]) (sc' := []) (by kernel_rfl) ?_ ?_
    · exact ⟨hc0, (by first | omega | with_reducible trivial | (simp only [List.length_append]; omega)), (by first | omega | with_reducible trivial | (simp only [List.length_append]; omega)), (by first | omega | with_reducible trivial | (simp only [List.length_append]; omega)), (by first | omega | with_reducible trivial | (simp only [List.length_append]; omega)), trivial⟩
    · first | (simp_all [nxV, lErr, wkR, wkl, wk, wk0, lim]; done)
theorem mac_c (n : Int) (s : Bool) : Contract Try.prog 95 [.i .i64 n, .b s] (.u .i64 (macN n s)) := by
  have hl : ∀ b, (g b).length = 32 := by rw [hg]; exact sum32_len
  refine contract Try.func95 (body := bodyOf Try.f95) rfl (by kernel_rfl) (by kernel_rfl) rfl ?_
  intro _ w0 S
  rcases Bool.eq_false_or_eq_true (n != (0 : Int)) with hc0 | hc0
  · have hd0 := bne_iff_ne.mp hc0
    rcases Bool.eq_false_or_eq_true (n != (1 : Int)) with hc1 | hc1
    · have hd1 := bne_iff_ne.mp hc1
      refine hold_endw mixed (okT3b hg hh) (unroll := true) (f := 200) (sc := [true, true]) (r := (Go.Eng.SV.c Go.IntKind.i64 (0 : Int))) (ob := [(n != (0 : Int)) = Bool.true, (n != (1 : Int)) = Bool.true]) (sc' := []) (by kernel_rfl) ?_ ?_
      · exact ⟨hc0, hc1, trivial⟩
      · first | (simp_all [macN, wkR, wk, wk0, lim]; done) | (simp_all [macN, wkR, wk, wk0, lim]; omega)
    · have hd1 := bne_eq_false_iff_eq.mp hc1
      rcases Bool.eq_false_or_eq_true (!s) with hc2 | hc2
      · refine hold_endw mixed (okT3b hg hh) (unroll := true) (f := 200) (sc := [true, false, true]) (r := (Go.Eng.SV.c Go.IntKind.i64 (32 : Int))) (ob := [(n != (0 : Int)) = Bool.true, (n != (1 : Int)) = Bool.false, (!s) = Bool.true]) (sc' := []) (by kernel_rfl) ?_ ?_
        · exact ⟨hc0, hc1, hc2, trivial⟩
        · first | (simp_all [macN, wkR, wk, wk0, lim]; done) | (simp_all [macN, wkR, wk, wk0, lim]; omega)
      · refine hold_endw mixed (okT3b hg hh) (unroll := true) (f := 200) (sc := [true, false, false]) (r := (Go.Eng.SV.i Go.IntKind.i64 ((8 : Int) + (8 : Int) * n))) (ob := [(n != (0 : Int)) = Bool.true, (n != (1 : Int)) = Bool.false, (!s) = Bool.false, Go.Eng.inR Go.IntKind.i64 ((8 : Int) * n), Go.Eng.inR Go.IntKind.i64 ((8 : Int) + (8 : Int) * n)]) (sc' := []) (by kernel_rfl) ?_ ?_
        · exact ⟨hc0, hc1, hc2, (by first | omega | with_reducible trivial | (simp only [inR, lo, lim]; omega) | (have q : n = 1 := by simp_all); (subst q; simp [inR, lo, lim]; done) | (have q : n = 0 := by simp_all); (subst q; simp [inR, lo, lim]; done)), (by first | omega | with_reducible trivial | (simp only [inR, lo, lim]; omega) | (have q : n = 1 := by simp_all); (subst q; simp [inR, lo, lim]; done) | (have q : n = 0 := by simp_all); (subst q; simp [inR, lo, lim]; done)), trivial⟩
        · first | (simp_all [macN, wkR, wk, wk0, lim]; done) | (simp_all [macN, wkR, wk, wk0, lim]; omega)
  · have hd0 := bne_eq_false_iff_eq.mp hc0
    rcases Bool.eq_false_or_eq_true (!s) with hc1 | hc1
    · refine hold_endw mixed (okT3b hg hh) (unroll := true) (f := 200) (sc := [false, true]) (r := (Go.Eng.SV.c Go.IntKind.i64 (32 : Int))) (ob := [(n != (0 : Int)) = Bool.false, (!s) = Bool.true]) (sc' := []) (by kernel_rfl) ?_ ?_
      · exact ⟨hc0, hc1, trivial⟩
      · first | (simp_all [macN, wkR, wk, wk0, lim]; done) | (simp_all [macN, wkR, wk, wk0, lim]; omega)
    · refine hold_endw mixed (okT3b hg hh) (unroll := true) (f := 200) (sc := [false, false]) (r := (Go.Eng.SV.i Go.IntKind.i64 ((8 : Int) + (8 : Int) * n))) (ob := [(n != (0 : Int)) = Bool.false, (!s) = Bool.false, Go.Eng.inR Go.IntKind.i64 ((8 : Int) * n), Go.Eng.inR Go.IntKind.i64 ((8 : Int) + (8 : Int) * n)]) (sc' := []) (by kernel_rfl) ?_ ?_
      · exact ⟨hc0, hc1, (by first | omega | with_reducible trivial | (simp only [inR, lo, lim]; omega) | (have q : n = 1 := by simp_all); (subst q; simp [inR, lo, lim]; done) | (have q : n = 0 := by simp_all); (subst q; simp [inR, lo, lim]; done)), (by first | omega | with_reducible trivial | (simp only [inR, lo, lim]; omega) | (have q : n = 1 := by simp_all); (subst q; simp [inR, lo, lim]; done) | (have q : n = 0 := by simp_all); (subst q; simp [inR, lo, lim]; done)), trivial⟩
      · first | (simp_all [macN, wkR, wk, wk0, lim]; done) | (simp_all [macN, wkR, wk, wk0, lim]; omega)
theorem ctx2_c (a b c d e : List Nat) (ha : a.length ≤ 90000) (hb : b.length ≤ 90000) (hc : c.length ≤ 90000) (hd : d.length ≤ 90000) (he : e.length ≤ 90000) : Contract Try.prog 97 [.sl .u8 a, .sl .u8 b, .sl .u8 c, .sl .u8 d, .sl .u8 e] (.sl .u8 (ctx2 a b c d e)) := by
  have hl : ∀ b, (g b).length = 32 := by rw [hg]; exact sum32_len
  refine contract Try.func97 (body := bodyOf Try.f97) rfl (by kernel_rfl) (by kernel_rfl) rfl ?_
  intro _ w0 S
  have s1 := strL_len c; have s2 := connL_len a
  exact hold_endw mixed (okT3b hg hh) (unroll := true) (f := 200) (sc := []) (r := (Go.Eng.SV.sl Go.IntKind.u8 (Go.Eng.B.connL a ++ b ++ Go.Eng.B.strL c ++ d ++ e))) (ob := [a.length ≤ (100000 : Nat), c.length ≤ (100000000 : Nat), (Go.Eng.B.connL a).length + b.length + (Go.Eng.B.strL c).length + d.length + e.length ≤ (100000000 : Nat)]) (sc' := []) (by kernel_rfl) (by repeat' first | exact trivial | omega | (simp only [List.length_append]; omega) | refine ⟨?_, ?_⟩) (wkR_of rfl)
theorem ctx3_c (a b c d : List Nat) (ha : a.length ≤ 90000) (hb : b.length ≤ 90000) (hc : c.length ≤ 90000) (hd : d.length ≤ 90000) : Contract Try.prog 99 [.sl .u8 a, .sl .u8 b, .sl .u8 c, .sl .u8 d] (.sl .u8 (ctx3 a b c d)) := by
  have hl : ∀ b, (g b).length = 32 := by rw [hg]; exact sum32_len
  refine contract Try.func99 (body := bodyOf Try.f99) rfl (by kernel_rfl) (by kernel_rfl) rfl ?_
  intro _ w0 S
  have s1 := strL_len b
  exact hold_endw mixed (okT3b hg hh) (unroll := true) (f := 200) (sc := []) (r := (Go.Eng.SV.sl Go.IntKind.u8 (a ++ Go.Eng.B.strL b ++ c ++ d))) (ob := [b.length ≤ (100000000 : Nat), a.length + (Go.Eng.B.strL b).length + c.length + d.length ≤ (100000000 : Nat)]) (sc' := []) (by kernel_rfl) (by repeat' first | exact trivial | omega | (simp only [List.length_append]; omega) | refine ⟨?_, ?_⟩) (wkR_of rfl)
theorem qnext23_c (a b c : List Nat) (ha : a.length ≤ 90000) (hb : b.length ≤ 90000) (hc : c.length ≤ 90000) : Contract Try.prog 124 [.sl .u8 a, .sl .u8 b, .sl .u8 c] (.tup [.sl .u8 (nxV g a b c), .u .i64 (lErr (longB [a, b, c]))]) := by
  have hl : ∀ b, (g b).length = 32 := by rw [hg]; exact sum32_len
  refine contract Try.func124 (body := bodyOf Try.f124) rfl (by kernel_rfl) (by kernel_rfl) rfl ?_
  intro _ w0 S
  have s1 := strL_len a
  rcases Bool.eq_false_or_eq_true (Go.Eng.B.longB [a, b, c]) with hc0 | hc0
  · refine hold_endw mixed (okT3b hg hh) (unroll := true) (f := 200) (sc := [true]) (r := (Go.Eng.SV.tup [Go.Eng.SV.sl Go.IntKind.u8 [], Go.Eng.SV.c Go.IntKind.i64 (8 : Int)])) (ob := [Go.Eng.B.longB [a, b, c] = Bool.true]) (sc' := []) (by kernel_rfl) ?_ ?_
    · exact ⟨hc0, trivial⟩
    · first | (simp_all [nxV, lErr, wkR, wkl, wk, wk0, lim]; done)
  · refine hold_endw mixed (okT3b hg hh) (unroll := true) (f := 200) (sc := [false]) (r := (Go.Eng.SV.tup [Go.Eng.SV.sl Go.IntKind.u8 (g (Go.Eng.B.strL a ++ b ++ c)), Go.Eng.SV.c Go.IntKind.i64 (0 : Int)])) (ob := [Go.Eng.B.longB [a, b, c] = Bool.false, a.length ≤ (100000000 : Nat), (Go.Eng.B.strL a).length + b.length + c.length ≤ (100000000 : Nat), (Go.Eng.B.strL a ++ b ++ c).length ≤ (1000000 : Nat)]) (sc' := []) (by kernel_rfl) ?_ ?_
    · exact ⟨hc0, (by first | omega | with_reducible trivial | (simp only [List.length_append]; omega)), (by first | omega | with_reducible trivial | (simp only [List.length_append]; omega)), (by first | omega | with_reducible trivial | (simp only [List.length_append]; omega)), trivial⟩
    · first | (simp_all [nxV, lErr, wkR, wkl, wk, wk0, lim]; done)
theorem qmac_c (n : Int) (s : Bool) : Contract Try.prog 96 [.i .i64 n, .b s] (.u .i64 (macN n s)) := by
  have hl : ∀ b, (g b).length = 32 := by rw [hg]; exact sum32_len
  refine contract Try.func96 (body := bodyOf Try.f96) rfl (by kernel_rfl) (by kernel_rfl) rfl ?_
  intro _ w0 S
  rcases Bool.eq_false_or_eq_true (n != (0 : Int)) with hc0 | hc0
  · have hd0 := bne_iff_ne.mp hc0
    rcases Bool.eq_false_or_eq_true (n != (1 : Int)) with hc1 | hc1
    · have hd1 := bne_iff_ne.mp hc1
      refine hold_endw mixed (okT3b hg hh) (unroll := true) (f := 200) (sc := [true, true]) (r := (Go.Eng.SV.c Go.IntKind.i64 (0 : Int))) (ob := [(n != (0 : Int)) = Bool.true, (n != (1 : Int)) = Bool.true]) (sc' := []) (by kernel_rfl) ?_ ?_
      · exact ⟨hc0, hc1, trivial⟩
      · first | (simp_all [macN, wkR, wk, wk0, lim]; done) | (simp_all [macN, wkR, wk, wk0, lim]; omega)
    · have hd1 := bne_eq_false_iff_eq.mp hc1
      rcases Bool.eq_false_or_eq_true (!s) with hc2 | hc2
      · refine hold_endw mixed (okT3b hg hh) (unroll := true) (f := 200) (sc := [true, false, true]) (r := (Go.Eng.SV.c Go.IntKind.i64 (32 : Int))) (ob := [(n != (0 : Int)) = Bool.true, (n != (1 : Int)) = Bool.false, (!s) = Bool.true]) (sc' := []) (by kernel_rfl) ?_ ?_
        · exact ⟨hc0, hc1, hc2, trivial⟩
        · first | (simp_all [macN, wkR, wk, wk0, lim]; done) | (simp_all [macN, wkR, wk, wk0, lim]; omega)
      · rcases Bool.eq_false_or_eq_true (n == (0 : Int)) with hc3 | hc3
        · have hd3 := eq_of_beq hc3
          refine hold_endw mixed (okT3b hg hh) (unroll := true) (f := 200) (sc := [true, false, false, true]) (r := (Go.Eng.SV.c Go.IntKind.i64 (8 : Int))) (ob := [(n != (0 : Int)) = Bool.true, (n != (1 : Int)) = Bool.false, (!s) = Bool.false, (n == (0 : Int)) = Bool.true]) (sc' := []) (by kernel_rfl) ?_ ?_
          · exact ⟨hc0, hc1, hc2, hc3, trivial⟩
          · first | (simp_all [macN, wkR, wk, wk0, lim]; done) | (simp_all [macN, wkR, wk, wk0, lim]; omega)
        · have hd3 := ne_of_beq_false hc3
          refine hold_endw mixed (okT3b hg hh) (unroll := true) (f := 200) (sc := [true, false, false, false]) (r := (Go.Eng.SV.c Go.IntKind.i64 (16 : Int))) (ob := [(n != (0 : Int)) = Bool.true, (n != (1 : Int)) = Bool.false, (!s) = Bool.false, (n == (0 : Int)) = Bool.false]) (sc' := []) (by kernel_rfl) ?_ ?_
          · exact ⟨hc0, hc1, hc2, hc3, trivial⟩
          · first | (simp_all [macN, wkR, wk, wk0, lim]; done) | (simp_all [macN, wkR, wk, wk0, lim]; omega)
  · have hd0 := bne_eq_false_iff_eq.mp hc0
    rcases Bool.eq_false_or_eq_true (!s) with hc1 | hc1
    · refine hold_endw mixed (okT3b hg hh) (unroll := true) (f := 200) (sc := [false, true]) (r := (Go.Eng.SV.c Go.IntKind.i64 (32 : Int))) (ob := [(n != (0 : Int)) = Bool.false, (!s) = Bool.true]) (sc' := []) (by kernel_rfl) ?_ ?_
      · exact ⟨hc0, hc1, trivial⟩
      · first | (simp_all [macN, wkR, wk, wk0, lim]; done) | (simp_all [macN, wkR, wk, wk0, lim]; omega)
    · rcases Bool.eq_false_or_eq_true (n == (0 : Int)) with hc2 | hc2
      · have hd2 := eq_of_beq hc2
        refine hold_endw mixed (okT3b hg hh) (unroll := true) (f := 200) (sc := [false, false, true]) (r := (Go.Eng.SV.c Go.IntKind.i64 (8 : Int))) (ob := [(n != (0 : Int)) = Bool.false, (!s) = Bool.false, (n == (0 : Int)) = Bool.true]) (sc' := []) (by kernel_rfl) ?_ ?_
        · exact ⟨hc0, hc1, hc2, trivial⟩
        · first | (simp_all [macN, wkR, wk, wk0, lim]; done) | (simp_all [macN, wkR, wk, wk0, lim]; omega)
      · have hd2 := ne_of_beq_false hc2
        refine hold_endw mixed (okT3b hg hh) (unroll := true) (f := 200) (sc := [false, false, false]) (r := (Go.Eng.SV.c Go.IntKind.i64 (16 : Int))) (ob := [(n != (0 : Int)) = Bool.false, (!s) = Bool.false, (n == (0 : Int)) = Bool.false]) (sc' := []) (by kernel_rfl) ?_ ?_
        · exact ⟨hc0, hc1, hc2, trivial⟩
        · first | (simp_all [macN, wkR, wk, wk0, lim]; done) | (simp_all [macN, wkR, wk, wk0, lim]; omega)
theorem qctx2_c (a b c d e : List Nat) (ha : a.length ≤ 90000) (hb : b.length ≤ 90000) (hc : c.length ≤ 90000) (hd : d.length ≤ 90000) (he : e.length ≤ 90000) : Contract Try.prog 98 [.sl .u8 a, .sl .u8 b, .sl .u8 c, .sl .u8 d, .sl .u8 e] (.sl .u8 (ctx2 a b c d e)) := by
  have hl : ∀ b, (g b).length = 32 := by rw [hg]; exact sum32_len
  refine contract Try.func98 (body := bodyOf Try.f98) rfl (by kernel_rfl) (by kernel_rfl) rfl ?_
  intro _ w0 S
  have s1 := strL_len c; have s2 := connL_len a
  exact hold_endw mixed (okT3b hg hh) (unroll := true) (f := 200) (sc := []) (r := (Go.Eng.SV.sl Go.IntKind.u8 (Go.Eng.B.connL a ++ b ++ Go.Eng.B.strL c ++ d ++ e))) (ob := [a.length ≤ (100000 : Nat), c.length ≤ (100000000 : Nat), (Go.Eng.B.connL a).length + b.length + (Go.Eng.B.strL c).length + d.length + e.length ≤ (100000000 : Nat)]) (sc' := []) (by kernel_rfl) (by repeat' first | exact trivial | omega | (simp only [List.length_append]; omega) | refine ⟨?_, ?_⟩) (wkR_of rfl)
theorem qctx3_c (a b c d : List Nat) (ha : a.length ≤ 90000) (hb : b.length ≤ 90000) (hc : c.length ≤ 90000) (hd : d.length ≤ 90000) : Contract Try.prog 100 [.sl .u8 a, .sl .u8 b, .sl .u8 c, .sl .u8 d] (.sl .u8 (ctx3 a b c d)) := by
  have hl : ∀ b, (g b).length = 32 := by rw [hg]; exact sum32_len
  refine contract Try.func100 (body := bodyOf Try.f100) rfl (by kernel_rfl) (by kernel_rfl) rfl ?_
  intro _ w0 S
  have s1 := strL_len b
  exact hold_endw mixed (okT3b hg hh) (unroll := true) (f := 200) (sc := []) (r := (Go.Eng.SV.sl Go.IntKind.u8 (a ++ Go.Eng.B.strL b ++ c ++ d))) (ob := [b.length ≤ (100000000 : Nat), a.length + (Go.Eng.B.strL b).length + c.length + d.length ≤ (100000000 : Nat)]) (sc' := []) (by kernel_rfl) (by repeat' first | exact trivial | omega | (simp only [List.length_append]; omega) | refine ⟨?_, ?_⟩) (wkR_of rfl)
end
end Go.Eng.B

/- The table of layer 23; its sanity check. -/
namespace Go.Eng.B
open Go Go.Eng Go.Proofs
set_option maxRecDepth 100000
set_option linter.unusedSimpArgs false
def eOut (g : List Nat → List Nat) (k : Int) (args : List SV) : Option (SV × List Prop) := match args with
  | [x, y] => match part? x, part? y with | some a, some b => some (.tup [.sl .u8 (kV g a k b 32), .u .i64 (kErr k b 32)], [a.length ≤ 900000, b.length ≤ 900000]) | _, _ => none
  | _ => none
def eTH2 (g : List Nat → List Nat) (args : List SV) : Option (SV × List Prop) := match args with
  | [x, y] => match part? x, part? y with | some a, some b => some (.tup [.sl .u8 (th2V g a b), .u .i64 (lErr (longB [a, b]))], [a.length ≤ 90000, b.length ≤ 90000]) | _, _ => none
  | _ => none
def eNx (g : List Nat → List Nat) (args : List SV) : Option (SV × List Prop) := match args with
  | [x, y, z] => match part? x, part? y, part? z with | some a, some b, some c => some (.tup [.sl .u8 (nxV g a b c), .u .i64 (lErr (longB [a, b, c]))], [a.length ≤ 90000, b.length ≤ 90000, c.length ≤ 90000]) | _, _, _ => none
  | _ => none
def eSame (args : List SV) : Option (SV × List Prop) := match args with
  | [x, y, z, v] => match part? x, y.int?, part? z, v.int? with
    | some a, some (.i64, e), some b, some (.i64, f) => some (.b (decide (e = f) && decide (a = b)), [])
    | _, _, _, _ => none
  | _ => none
def eMst (g : List Nat → List Nat) (args : List SV) : Option (SV × List Prop) := match args with
  | [x] => match part? x with | some a => some (.tup [.sl .u8 (kV g (expO g a) 0 [] 16), .sl .u8 (kV g (expO g a) 1 [] 8)], [a.length ≤ 900000]) | _ => none
  | _ => none
def pb0 (b : List Nat) : Nat := b.getD 0 0
def pcErr (b : List Nat) : Nat :=
  if b.length = 0 then 2 else if shortB (pb0 b) = true then 0 else if pb0 b < 64 ∨ 88 < pb0 b then 4 else if 71 < pb0 b then 8 else if b.length < pb0 b - 63 then 2 else if pb0 b = 65 ∧ shortB (b.getD 1 0) = true then 4 else 0
def pcN (b : List Nat) : Nat := if pcErr b = 0 then (if shortB (pb0 b) = true then 1 else pb0 b - 63) else 0
def pcL (b : List Nat) : List Nat := if pcErr b = 0 then (if shortB (pb0 b) = true then [pb0 b] else (b.take (pb0 b - 63)).drop 1) else []
def ePC (args : List SV) : Option (SV × List Prop) := match args with
  | [x] => match part? x with | some b => some (.tup [.sl .u8 (pcL b), .u .i64 (pcN b), .u .i64 (pcErr b)], [b.length ≤ 1000000]) | _ => none
  | _ => none
noncomputable def T5a (g h : List Nat → List Nat) : Ctr := addC 35 eEq (addC 111 (eEx g) (addC 112 (eEx g) (T3b g h)))
theorem pc_empty {b : List Nat} (h : b.length = 0) : pcErr b = 2 := by unfold pcErr; rw [if_pos h]
theorem pc_short {b : List Nat} (h0 : ¬ b.length = 0) (h : shortB (b.getD 0 0) = true) : pcErr b = 0 ∧ pcN b = 1 ∧ pcL b = [b.getD 0 0] := by
  have q : pcErr b = 0 := by unfold pcErr pb0; rw [if_neg h0, if_pos h]
  exact ⟨q, by unfold pcN pb0; rw [if_pos q, if_pos h], by unfold pcL pb0; rw [if_pos q, if_pos h]⟩
section
variable {b : List Nat} (h0 : ¬ b.length = 0) (h1 : shortB (b.getD 0 0) = false)
include h0 h1
theorem pc_form (h : b.getD 0 0 < 64 ∨ 88 < b.getD 0 0) : pcErr b = 4 := by
  unfold pcErr pb0; rw [if_neg h0, if_neg (by rw [h1]; decide), if_pos h]
theorem pc_limit (h2 : ¬ (b.getD 0 0 < 64 ∨ 88 < b.getD 0 0)) (h : 71 < b.getD 0 0) : pcErr b = 8 := by
  unfold pcErr pb0; rw [if_neg h0, if_neg (by rw [h1]; decide), if_neg h2, if_pos h]
theorem pc_few (h2 : ¬ (b.getD 0 0 < 64 ∨ 88 < b.getD 0 0)) (h3 : ¬ 71 < b.getD 0 0) (h : b.length < b.getD 0 0 - 63) : pcErr b = 2 := by
  unfold pcErr pb0; rw [if_neg h0, if_neg (by rw [h1]; decide), if_neg h2, if_neg h3, if_pos h]
theorem pc_bad (h2 : ¬ (b.getD 0 0 < 64 ∨ 88 < b.getD 0 0)) (h3 : ¬ 71 < b.getD 0 0) (h4 : ¬ b.length < b.getD 0 0 - 63) (h5 : b.getD 0 0 = 65) (h6 : shortB (b.getD 1 0) = true) : pcErr b = 4 := by
  unfold pcErr pb0; rw [if_neg h0, if_neg (by rw [h1]; decide), if_neg h2, if_neg h3, if_neg h4, if_pos ⟨h5, h6⟩]
theorem pc_ok (h2 : ¬ (b.getD 0 0 < 64 ∨ 88 < b.getD 0 0)) (h3 : ¬ 71 < b.getD 0 0) (h4 : ¬ b.length < b.getD 0 0 - 63) (h5 : ¬ (b.getD 0 0 = 65 ∧ shortB (b.getD 1 0) = true)) : pcErr b = 0 ∧ pcN b = b.getD 0 0 - 63 ∧ pcL b = (b.take (b.getD 0 0 - 63)).drop 1 := by
  have q : pcErr b = 0 := by unfold pcErr pb0; rw [if_neg h0, if_neg (by rw [h1]; decide), if_neg h2, if_neg h3, if_neg h4, if_neg h5]
  exact ⟨q, by unfold pcN pb0; rw [if_pos q, if_neg (by rw [h1]; decide)], by unfold pcL pb0; rw [if_pos q, if_neg (by rw [h1]; decide)]⟩
end
theorem pc_err {b : List Nat} {e : Nat} {z : Int} (h : pcErr b = e) (hz : z = (e : Int)) (he : e ≠ 0) (hlt : e < 100) : wkR (.tup [.sl .u8 [], .c .i64 0, .c .i64 z]) (.tup [.sl .u8 (pcL b), .u .i64 (pcN b), .u .i64 (pcErr b)]) := by
  unfold pcL pcN; rw [h, if_neg he, if_neg he]; subst hz; simp [wkR, wkl, wk, wk0, lim]; omega
theorem pc_err0 {b : List Nat} {e : Nat} {z : Int} (h : pcErr b = e) (hz : z = (e : Int)) (he : e ≠ 0) (hlt : e < 100) : wkR (.tup [.nil, .c .i64 0, .c .i64 z]) (.tup [.sl .u8 (pcL b), .u .i64 (pcN b), .u .i64 (pcErr b)]) := by
  unfold pcL pcN; rw [h, if_neg he, if_neg he]; subst hz; simp [wkR, wkl, wk, wk0, lim]; omega
section
variable {g h : List Nat → List Nat} (hg : g = sum32) (hh : h = sum64) {w0 : World} {S : Own} {res : SV}
include hg hh
theorem eEx_ok {f : FuncId} (hc : ∀ (prk c : List Nat) (l n : Int), prk.length ≤ 900000 → Contract Try.prog f [.sl .u8 prk, .i .i64 l, .sl .u8 c, .i .i64 n] (.tup [.sl .u8 (kV g (expO g prk) l c n), .u .i64 (kErr l c n)])) : ∀ args res ob, eEx g args = some (res, ob) → All ob → Contract Try.prog f args res := by
  intro args res ob he hob
  unfold eEx at he
  split at he
  · split at he
    · rename_i hx hy hz hv
      cases he
      exact Contract.argsF (hc _ _ _ _ hob.1) ⟨wk_of0 (part_wk hx), int?_wk hy, wk_of0 (part_wk hz), int?_wk hv, rfl⟩
    · cases he
  · cases he
theorem okT5a : CtrOk Try.prog (T5a g h) := addC_ok (addC_ok (addC_ok (okT3b hg hh) (eEx_ok hg hh (qexporter_c hg hh))) (eEx_ok hg hh (exporter_c hg hh))) equal_ok
theorem same_ok : ∀ args res ob, eSame args = some (res, ob) → All ob → Contract Try.prog 84 args res := by
  intro args res ob he _
  unfold eSame at he
  split at he
  · split at he
    · rename_i a e b f hx hy hz hv
      cases he
      refine Contract.args (args' := [.sl .u8 a, .i .i64 e, .sl .u8 b, .i .i64 f]) ⟨wk_of0 (part_wk hx), int?_wk hy, wk_of0 (part_wk hz), int?_wk hv, rfl⟩ ?_
      refine contract Try.func84 (body := bodyOf Try.f84) rfl (by kernel_rfl) (by kernel_rfl) rfl ?_
      intro _ w0 S
      rcases Bool.eq_false_or_eq_true (e == f) with hc0 | hc0
      · have hd0 := eq_of_beq hc0
        refine hold_endw mixed (okT5a hg hh) (unroll := true) (f := 100) (sc := [true]) (r := (Go.Eng.SV.b (Decidable.decide (a = b)))) (ob := [(e == f) = Bool.true]) (sc' := []) (by kernel_rfl) ?_ ?_
        · exact ⟨hc0, trivial⟩
        · first | (simp_all [wkR, wk, wk0]; done) | (by_cases q : e = f <;> simp_all [wkR, wk, wk0]; done)
      · have hd0 := ne_of_beq_false hc0
        refine hold_endw mixed (okT5a hg hh) (unroll := true) (f := 100) (sc := [false]) (r := (Go.Eng.SV.cb Bool.false)) (ob := [(e == f) = Bool.false]) (sc' := []) (by kernel_rfl) ?_ ?_
        · exact ⟨hc0, trivial⟩
        · first | (simp_all [wkR, wk, wk0]; done) | (by_cases q : e = f <;> simp_all [wkR, wk, wk0]; done)
    · cases he
  · cases he
theorem master_c (a : List Nat) (ha : a.length ≤ 900000) : Contract Try.prog 119 [.sl .u8 a] (.tup [.sl .u8 (kV g (expO g a) 0 [] 16), .sl .u8 (kV g (expO g a) 1 [] 8)]) := by
  refine contract Try.func119 (body := bodyOf Try.f119) rfl (by kernel_rfl) (by kernel_rfl) rfl ?_
  intro _ w0 S
  exact hold_endw mixed (okT5a hg hh) (unroll := true) (f := 100) (sc := []) (r := (Go.Eng.SV.tup [Go.Eng.SV.sl Go.IntKind.u8 (Go.Eng.B.kV g (Go.Eng.B.expO g a) (0 : Int) [] (16 : Int)), Go.Eng.SV.sl Go.IntKind.u8 (Go.Eng.B.kV g (Go.Eng.B.expO g a) (1 : Int) [] (8 : Int))])) (ob := [a.length ≤ (900000 : Nat), a.length ≤ (900000 : Nat)]) (sc' := []) (by kernel_rfl) (by repeat' first | exact trivial | omega | refine ⟨?_, ?_⟩) (wkR_refl _)
theorem parse_c (b : List Nat) (hb : b.length ≤ 1000000) : Contract Try.prog 82 [.sl .u8 b] (.tup [.sl .u8 (pcL b), .u .i64 (pcN b), .u .i64 (pcErr b)]) := by
  refine contract Try.func82 (body := bodyOf Try.f82) rfl (by kernel_rfl) (by kernel_rfl) rfl ?_
  rintro ⟨⟨_, hm⟩, _⟩ w0 S
  have h256 : b.getD 0 0 < 256 := getD_lt (b := 256) (by decide) hm 0
  rcases Bool.eq_false_or_eq_true (b.length == (0 : Nat)) with hc0 | hc0
  · have hd0 := eq_of_beq hc0
    refine hold_endw mixed (okT5a hg hh) (unroll := true) (f := 200) (sc := [true]) (r := (Go.Eng.SV.tup [Go.Eng.SV.sl Go.IntKind.u8 [], Go.Eng.SV.c Go.IntKind.i64 (0 : Int), Go.Eng.SV.c Go.IntKind.i64 (2 : Int)])) (ob := [(b.length == (0 : Nat)) = Bool.true]) (sc' := []) (by kernel_rfl) ?_ ?_
    · exact ⟨hc0, trivial⟩
    · first | exact pc_err (e := 2) (pc_empty (by omega)) rfl (by decide) (by decide) | exact pc_err (e := 4) (pc_form (by omega) (by assumption) (by omega)) rfl (by decide) (by decide) | exact pc_err (e := 8) (pc_limit (by omega) (by assumption) (by omega) (by omega)) rfl (by decide) (by decide) | exact pc_err (e := 2) (pc_few (by omega) (by assumption) (by omega) (by omega) (by omega)) rfl (by decide) (by decide) | exact pc_err (e := 4) (pc_bad (by omega) (by assumption) (by omega) (by omega) (by omega) (by omega) (by assumption)) rfl (by decide) (by decide) | (obtain ⟨q1, q2, q3⟩ := pc_short (b := b) (by omega) (by assumption); rw [q1, q2, q3]; simp [wkR, wkl, wk, wk0, lim]; done) | (obtain ⟨q1, q2, q3⟩ := pc_ok (b := b) (by omega) (by assumption) (by omega) (by omega) (by omega) (by first | exact (fun h9 => Bool.noConfusion ((show shortB (b.getD 1 0) = false by assumption).symm.trans h9.2)) | exact (fun h9 => absurd h9.1 (by omega))); rw [q1, q2, q3, show (1 + (((b.getD 0 0 : Nat) : Int) - 64)).toNat = b.getD 0 0 - 63 by omega]; simp only [wkR, wkl, wk, wk0, lim, and_true, true_and]; refine ⟨?_, ?_⟩ <;> omega)
  · have hd0 := ne_of_beq_false hc0
    rcases Bool.eq_false_or_eq_true (Go.Eng.B.shortB (b.getD (0 : Nat) (0 : Nat))) with hc1 | hc1
    · refine hold_endw mixed (okT5a hg hh) (unroll := true) (f := 200) (sc := [false, true]) (r := (Go.Eng.SV.tup [Go.Eng.SV.sl Go.IntKind.u8 [b.getD (0 : Nat) (0 : Nat)], Go.Eng.SV.c Go.IntKind.i64 (1 : Int), Go.Eng.SV.c Go.IntKind.i64 (0 : Int)])) (ob := [(b.length == (0 : Nat)) = Bool.false, (0 : Nat) < b.length, Go.Eng.B.shortB (b.getD (0 : Nat) (0 : Nat)) = Bool.true]) (sc' := []) (by kernel_rfl) ?_ ?_
      · exact ⟨hc0, (by first | omega | with_reducible trivial | (simp only [inR, lo, lim]; omega) | (simp only [List.length_drop, List.length_take]; omega)), hc1, trivial⟩
      · first | exact pc_err (e := 2) (pc_empty (by omega)) rfl (by decide) (by decide) | exact pc_err (e := 4) (pc_form (by omega) (by assumption) (by omega)) rfl (by decide) (by decide) | exact pc_err (e := 8) (pc_limit (by omega) (by assumption) (by omega) (by omega)) rfl (by decide) (by decide) | exact pc_err (e := 2) (pc_few (by omega) (by assumption) (by omega) (by omega) (by omega)) rfl (by decide) (by decide) | exact pc_err (e := 4) (pc_bad (by omega) (by assumption) (by omega) (by omega) (by omega) (by omega) (by assumption)) rfl (by decide) (by decide) | (obtain ⟨q1, q2, q3⟩ := pc_short (b := b) (by omega) (by assumption); rw [q1, q2, q3]; simp [wkR, wkl, wk, wk0, lim]; done) | (obtain ⟨q1, q2, q3⟩ := pc_ok (b := b) (by omega) (by assumption) (by omega) (by omega) (by omega) (by first | exact (fun h9 => Bool.noConfusion ((show shortB (b.getD 1 0) = false by assumption).symm.trans h9.2)) | exact (fun h9 => absurd h9.1 (by omega))); rw [q1, q2, q3, show (1 + (((b.getD 0 0 : Nat) : Int) - 64)).toNat = b.getD 0 0 - 63 by omega]; simp only [wkR, wkl, wk, wk0, lim, and_true, true_and]; refine ⟨?_, ?_⟩ <;> omega)
    · rcases Bool.eq_false_or_eq_true (Decidable.decide (b.getD (0 : Nat) (0 : Nat) < (64 : Nat))) with hc2 | hc2
      · have hd2 := of_decide_eq_true hc2
        refine hold_endw mixed (okT5a hg hh) (unroll := true) (f := 200) (sc := [false, false, true]) (r := (Go.Eng.SV.tup [Go.Eng.SV.sl Go.IntKind.u8 [], Go.Eng.SV.c Go.IntKind.i64 (0 : Int), Go.Eng.SV.c Go.IntKind.i64 (4 : Int)])) (ob := [(b.length == (0 : Nat)) = Bool.false, (0 : Nat) < b.length, Go.Eng.B.shortB (b.getD (0 : Nat) (0 : Nat)) = Bool.false, Decidable.decide (b.getD (0 : Nat) (0 : Nat) < (64 : Nat)) = Bool.true]) (sc' := []) (by kernel_rfl) ?_ ?_
        · exact ⟨hc0, (by first | omega | with_reducible trivial | (simp only [inR, lo, lim]; omega) | (simp only [List.length_drop, List.length_take]; omega)), hc1, hc2, trivial⟩
        · first | exact pc_err (e := 2) (pc_empty (by omega)) rfl (by decide) (by decide) | exact pc_err (e := 4) (pc_form (by omega) (by assumption) (by omega)) rfl (by decide) (by decide) | exact pc_err (e := 8) (pc_limit (by omega) (by assumption) (by omega) (by omega)) rfl (by decide) (by decide) | exact pc_err (e := 2) (pc_few (by omega) (by assumption) (by omega) (by omega) (by omega)) rfl (by decide) (by decide) | exact pc_err (e := 4) (pc_bad (by omega) (by assumption) (by omega) (by omega) (by omega) (by omega) (by assumption)) rfl (by decide) (by decide) | (obtain ⟨q1, q2, q3⟩ := pc_short (b := b) (by omega) (by assumption); rw [q1, q2, q3]; simp [wkR, wkl, wk, wk0, lim]; done) | (obtain ⟨q1, q2, q3⟩ := pc_ok (b := b) (by omega) (by assumption) (by omega) (by omega) (by omega) (by first | exact (fun h9 => Bool.noConfusion ((show shortB (b.getD 1 0) = false by assumption).symm.trans h9.2)) | exact (fun h9 => absurd h9.1 (by omega))); rw [q1, q2, q3, show (1 + (((b.getD 0 0 : Nat) : Int) - 64)).toNat = b.getD 0 0 - 63 by omega]; simp only [wkR, wkl, wk, wk0, lim, and_true, true_and]; refine ⟨?_, ?_⟩ <;> omega)
      · have hd2 := of_decide_eq_false hc2
        rcases Bool.eq_false_or_eq_true (Decidable.decide ((88 : Nat) < b.getD (0 : Nat) (0 : Nat))) with hc3 | hc3
        · have hd3 := of_decide_eq_true hc3
          refine hold_endw mixed (okT5a hg hh) (unroll := true) (f := 200) (sc := [false, false, false, true]) (r := (Go.Eng.SV.tup [Go.Eng.SV.sl Go.IntKind.u8 [], Go.Eng.SV.c Go.IntKind.i64 (0 : Int), Go.Eng.SV.c Go.IntKind.i64 (4 : Int)])) (ob := [(b.length == (0 : Nat)) = Bool.false, (0 : Nat) < b.length, Go.Eng.B.shortB (b.getD (0 : Nat) (0 : Nat)) = Bool.false, Decidable.decide (b.getD (0 : Nat) (0 : Nat) < (64 : Nat)) = Bool.false, Decidable.decide ((88 : Nat) < b.getD (0 : Nat) (0 : Nat)) = Bool.true]) (sc' := []) (by kernel_rfl) ?_ ?_
          · exact ⟨hc0, (by first | omega | with_reducible trivial | (simp only [inR, lo, lim]; omega) | (simp only [List.length_drop, List.length_take]; omega)), hc1, hc2, hc3, trivial⟩
          · first | exact pc_err (e := 2) (pc_empty (by omega)) rfl (by decide) (by decide) | exact pc_err (e := 4) (pc_form (by omega) (by assumption) (by omega)) rfl (by decide) (by decide) | exact pc_err (e := 8) (pc_limit (by omega) (by assumption) (by omega) (by omega)) rfl (by decide) (by decide) | exact pc_err (e := 2) (pc_few (by omega) (by assumption) (by omega) (by omega) (by omega)) rfl (by decide) (by decide) | exact pc_err (e := 4) (pc_bad (by omega) (by assumption) (by omega) (by omega) (by omega) (by omega) (by assumption)) rfl (by decide) (by decide) | (obtain ⟨q1, q2, q3⟩ := pc_short (b := b) (by omega) (by assumption); rw [q1, q2, q3]; simp [wkR, wkl, wk, wk0, lim]; done) | (obtain ⟨q1, q2, q3⟩ := pc_ok (b := b) (by omega) (by assumption) (by omega) (by omega) (by omega) (by first | exact (fun h9 => Bool.noConfusion ((show shortB (b.getD 1 0) = false by assumption).symm.trans h9.2)) | exact (fun h9 => absurd h9.1 (by omega))); rw [q1, q2, q3, show (1 + (((b.getD 0 0 : Nat) : Int) - 64)).toNat = b.getD 0 0 - 63 by omega]; simp only [wkR, wkl, wk, wk0, lim, and_true, true_and]; refine ⟨?_, ?_⟩ <;> omega)
        · have hd3 := of_decide_eq_false hc3
          rcases Bool.eq_false_or_eq_true (Decidable.decide ((7 : Int) < (↑(b.getD (0 : Nat) (0 : Nat)) : Int) - (64 : Int))) with hc4 | hc4
          · have hd4 := of_decide_eq_true hc4
            refine hold_endw mixed (okT5a hg hh) (unroll := true) (f := 200) (sc := [false, false, false, false, true]) (r := (Go.Eng.SV.tup [Go.Eng.SV.sl Go.IntKind.u8 [], Go.Eng.SV.c Go.IntKind.i64 (0 : Int), Go.Eng.SV.c Go.IntKind.i64 (8 : Int)])) (ob := [(b.length == (0 : Nat)) = Bool.false, (0 : Nat) < b.length, Go.Eng.B.shortB (b.getD (0 : Nat) (0 : Nat)) = Bool.false, Decidable.decide (b.getD (0 : Nat) (0 : Nat) < (64 : Nat)) = Bool.false, Decidable.decide ((88 : Nat) < b.getD (0 : Nat) (0 : Nat)) = Bool.false, Decidable.decide ((7 : Int) < (↑(b.getD (0 : Nat) (0 : Nat)) : Int) - (64 : Int)) = Bool.true]) (sc' := []) (by kernel_rfl) ?_ ?_
            · exact ⟨hc0, (by first | omega | with_reducible trivial | (simp only [inR, lo, lim]; omega) | (simp only [List.length_drop, List.length_take]; omega)), hc1, hc2, hc3, hc4, trivial⟩
            · first | exact pc_err (e := 2) (pc_empty (by omega)) rfl (by decide) (by decide) | exact pc_err (e := 4) (pc_form (by omega) (by assumption) (by omega)) rfl (by decide) (by decide) | exact pc_err (e := 8) (pc_limit (by omega) (by assumption) (by omega) (by omega)) rfl (by decide) (by decide) | exact pc_err (e := 2) (pc_few (by omega) (by assumption) (by omega) (by omega) (by omega)) rfl (by decide) (by decide) | exact pc_err (e := 4) (pc_bad (by omega) (by assumption) (by omega) (by omega) (by omega) (by omega) (by assumption)) rfl (by decide) (by decide) | (obtain ⟨q1, q2, q3⟩ := pc_short (b := b) (by omega) (by assumption); rw [q1, q2, q3]; simp [wkR, wkl, wk, wk0, lim]; done) | (obtain ⟨q1, q2, q3⟩ := pc_ok (b := b) (by omega) (by assumption) (by omega) (by omega) (by omega) (by first | exact (fun h9 => Bool.noConfusion ((show shortB (b.getD 1 0) = false by assumption).symm.trans h9.2)) | exact (fun h9 => absurd h9.1 (by omega))); rw [q1, q2, q3, show (1 + (((b.getD 0 0 : Nat) : Int) - 64)).toNat = b.getD 0 0 - 63 by omega]; simp only [wkR, wkl, wk, wk0, lim, and_true, true_and]; refine ⟨?_, ?_⟩ <;> omega)
          · have hd4 := of_decide_eq_false hc4
            rcases Bool.eq_false_or_eq_true (Decidable.decide ((↑b.length : Int) < (1 : Int) + ((↑(b.getD (0 : Nat) (0 : Nat)) : Int) - (64 : Int)))) with hc5 | hc5
            · have hd5 := of_decide_eq_true hc5
              refine hold_endw mixed (okT5a hg hh) (unroll := true) (f := 200) (sc := [false, false, false, false, false, true]) (r := (Go.Eng.SV.tup [Go.Eng.SV.sl Go.IntKind.u8 [], Go.Eng.SV.c Go.IntKind.i64 (0 : Int), Go.Eng.SV.c Go.IntKind.i64 (2 : Int)])) (ob := [(b.length == (0 : Nat)) = Bool.false, (0 : Nat) < b.length, Go.Eng.B.shortB (b.getD (0 : Nat) (0 : Nat)) = Bool.false, Decidable.decide (b.getD (0 : Nat) (0 : Nat) < (64 : Nat)) = Bool.false, Decidable.decide ((88 : Nat) < b.getD (0 : Nat) (0 : Nat)) = Bool.false, Decidable.decide ((7 : Int) < (↑(b.getD (0 : Nat) (0 : Nat)) : Int) - (64 : Int)) = Bool.false, Go.Eng.inR Go.IntKind.i64 ((1 : Int) + ((↑(b.getD (0 : Nat) (0 : Nat)) : Int) - (64 : Int))), Decidable.decide ((↑b.length : Int) < (1 : Int) + ((↑(b.getD (0 : Nat) (0 : Nat)) : Int) - (64 : Int))) = Bool.true]) (sc' := []) (by kernel_rfl) ?_ ?_
              · exact ⟨hc0, (by first | omega | with_reducible trivial | (simp only [inR, lo, lim]; omega) | (simp only [List.length_drop, List.length_take]; omega)), hc1, hc2, hc3, hc4, (by first | omega | with_reducible trivial | (simp only [inR, lo, lim]; omega) | (simp only [List.length_drop, List.length_take]; omega)), hc5, trivial⟩
              · first | exact pc_err (e := 2) (pc_empty (by omega)) rfl (by decide) (by decide) | exact pc_err (e := 4) (pc_form (by omega) (by assumption) (by omega)) rfl (by decide) (by decide) | exact pc_err (e := 8) (pc_limit (by omega) (by assumption) (by omega) (by omega)) rfl (by decide) (by decide) | exact pc_err (e := 2) (pc_few (by omega) (by assumption) (by omega) (by omega) (by omega)) rfl (by decide) (by decide) | exact pc_err (e := 4) (pc_bad (by omega) (by assumption) (by omega) (by omega) (by omega) (by omega) (by assumption)) rfl (by decide) (by decide) | (obtain ⟨q1, q2, q3⟩ := pc_short (b := b) (by omega) (by assumption); rw [q1, q2, q3]; simp [wkR, wkl, wk, wk0, lim]; done) | (obtain ⟨q1, q2, q3⟩ := pc_ok (b := b) (by omega) (by assumption) (by omega) (by omega) (by omega) (by first | exact (fun h9 => Bool.noConfusion ((show shortB (b.getD 1 0) = false by assumption).symm.trans h9.2)) | exact (fun h9 => absurd h9.1 (by omega))); rw [q1, q2, q3, show (1 + (((b.getD 0 0 : Nat) : Int) - 64)).toNat = b.getD 0 0 - 63 by omega]; simp only [wkR, wkl, wk, wk0, lim, and_true, true_and]; refine ⟨?_, ?_⟩ <;> omega)
            · have hd5 := of_decide_eq_false hc5
              rcases Bool.eq_false_or_eq_true ((↑(b.getD (0 : Nat) (0 : Nat)) : Int) - (64 : Int) == (1 : Int)) with hc6 | hc6
              · have hd6 := eq_of_beq hc6
                rcases Bool.eq_false_or_eq_true (Go.Eng.B.shortB (b.getD (1 : Nat) (0 : Nat))) with hc7 | hc7
                · refine hold_endw mixed (okT5a hg hh) (unroll := true) (f := 200) (sc := [false, false, false, false, false, false, true, true]) (r := (Go.Eng.SV.tup [Go.Eng.SV.sl Go.IntKind.u8 [], Go.Eng.SV.c Go.IntKind.i64 (0 : Int), Go.Eng.SV.c Go.IntKind.i64 (4 : Int)])) (ob := [(b.length == (0 : Nat)) = Bool.false, (0 : Nat) < b.length, Go.Eng.B.shortB (b.getD (0 : Nat) (0 : Nat)) = Bool.false, Decidable.decide (b.getD (0 : Nat) (0 : Nat) < (64 : Nat)) = Bool.false, Decidable.decide ((88 : Nat) < b.getD (0 : Nat) (0 : Nat)) = Bool.false, Decidable.decide ((7 : Int) < (↑(b.getD (0 : Nat) (0 : Nat)) : Int) - (64 : Int)) = Bool.false, Go.Eng.inR Go.IntKind.i64 ((1 : Int) + ((↑(b.getD (0 : Nat) (0 : Nat)) : Int) - (64 : Int))), Decidable.decide ((↑b.length : Int) < (1 : Int) + ((↑(b.getD (0 : Nat) (0 : Nat)) : Int) - (64 : Int))) = Bool.false, ((↑(b.getD (0 : Nat) (0 : Nat)) : Int) - (64 : Int) == (1 : Int)) = Bool.true, (1 : Nat) < b.length, Go.Eng.B.shortB (b.getD (1 : Nat) (0 : Nat)) = Bool.true]) (sc' := []) (by kernel_rfl) ?_ ?_
                  · exact ⟨hc0, (by first | omega | with_reducible trivial | (simp only [inR, lo, lim]; omega) | (simp only [List.length_drop, List.length_take]; omega)), hc1, hc2, hc3, hc4, (by first | omega | with_reducible trivial | (simp only [inR, lo, lim]; omega) | (simp only [List.length_drop, List.length_take]; omega)), hc5, hc6, (by first | omega | with_reducible trivial | (simp only [inR, lo, lim]; omega) | (simp only [List.length_drop, List.length_take]; omega)), hc7, trivial⟩
                  · first | exact pc_err (e := 2) (pc_empty (by omega)) rfl (by decide) (by decide) | exact pc_err (e := 4) (pc_form (by omega) (by assumption) (by omega)) rfl (by decide) (by decide) | exact pc_err (e := 8) (pc_limit (by omega) (by assumption) (by omega) (by omega)) rfl (by decide) (by decide) | exact pc_err (e := 2) (pc_few (by omega) (by assumption) (by omega) (by omega) (by omega)) rfl (by decide) (by decide) | exact pc_err (e := 4) (pc_bad (by omega) (by assumption) (by omega) (by omega) (by omega) (by omega) (by assumption)) rfl (by decide) (by decide) | (obtain ⟨q1, q2, q3⟩ := pc_short (b := b) (by omega) (by assumption); rw [q1, q2, q3]; simp [wkR, wkl, wk, wk0, lim]; done) | (obtain ⟨q1, q2, q3⟩ := pc_ok (b := b) (by omega) (by assumption) (by omega) (by omega) (by omega) (by first | exact (fun h9 => Bool.noConfusion ((show shortB (b.getD 1 0) = false by assumption).symm.trans h9.2)) | exact (fun h9 => absurd h9.1 (by omega))); rw [q1, q2, q3, show (1 + (((b.getD 0 0 : Nat) : Int) - 64)).toNat = b.getD 0 0 - 63 by omega]; simp only [wkR, wkl, wk, wk0, lim, and_true, true_and]; refine ⟨?_, ?_⟩ <;> omega)
                · refine hold_endw mixed (okT5a hg hh) (unroll := true) (f := 200) (sc := [false, false, false, false, false, false, true, false]) (r := (Go.Eng.SV.tup [Go.Eng.SV.sl Go.IntKind.u8 (List.drop (1 : Nat) (List.take ((1 : Int) + ((↑(b.getD (0 : Nat) (0 : Nat)) : Int) - (64 : Int))).toNat b)), Go.Eng.SV.i Go.IntKind.i64 ((1 : Int) + ((↑(b.getD (0 : Nat) (0 : Nat)) : Int) - (64 : Int))), Go.Eng.SV.c Go.IntKind.i64 (0 : Int)])) (ob := [(b.length == (0 : Nat)) = Bool.false, (0 : Nat) < b.length, Go.Eng.B.shortB (b.getD (0 : Nat) (0 : Nat)) = Bool.false, Decidable.decide (b.getD (0 : Nat) (0 : Nat) < (64 : Nat)) = Bool.false, Decidable.decide ((88 : Nat) < b.getD (0 : Nat) (0 : Nat)) = Bool.false, Decidable.decide ((7 : Int) < (↑(b.getD (0 : Nat) (0 : Nat)) : Int) - (64 : Int)) = Bool.false, Go.Eng.inR Go.IntKind.i64 ((1 : Int) + ((↑(b.getD (0 : Nat) (0 : Nat)) : Int) - (64 : Int))), Decidable.decide ((↑b.length : Int) < (1 : Int) + ((↑(b.getD (0 : Nat) (0 : Nat)) : Int) - (64 : Int))) = Bool.false, ((↑(b.getD (0 : Nat) (0 : Nat)) : Int) - (64 : Int) == (1 : Int)) = Bool.true, (1 : Nat) < b.length, Go.Eng.B.shortB (b.getD (1 : Nat) (0 : Nat)) = Bool.false, Go.Eng.inR Go.IntKind.i64 ((1 : Int) + ((↑(b.getD (0 : Nat) (0 : Nat)) : Int) - (64 : Int))), (0 : Int) ≤ (1 : Int) + ((↑(b.getD (0 : Nat) (0 : Nat)) : Int) - (64 : Int)), (1 : Nat) ≤ ((1 : Int) + ((↑(b.getD (0 : Nat) (0 : Nat)) : Int) - (64 : Int))).toNat, ((1 : Int) + ((↑(b.getD (0 : Nat) (0 : Nat)) : Int) - (64 : Int))).toNat ≤ b.length, (List.drop (1 : Nat) (List.take ((1 : Int) + ((↑(b.getD (0 : Nat) (0 : Nat)) : Int) - (64 : Int))).toNat b)).length ≤ (100000000 : Nat), Go.Eng.inR Go.IntKind.i64 ((1 : Int) + ((↑(b.getD (0 : Nat) (0 : Nat)) : Int) - (64 : Int)))]) (sc' := []) (by kernel_rfl) ?_ ?_
                  · exact ⟨hc0, (by first | omega | with_reducible trivial | (simp only [inR, lo, lim]; omega) | (simp only [List.length_drop, List.length_take]; omega)), hc1, hc2, hc3, hc4, (by first | omega | with_reducible trivial | (simp only [inR, lo, lim]; omega) | (simp only [List.length_drop, List.length_take]; omega)), hc5, hc6, (by first | omega | with_reducible trivial | (simp only [inR, lo, lim]; omega) | (simp only [List.length_drop, List.length_take]; omega)), hc7, (by first | omega | with_reducible trivial | (simp only [inR, lo, lim]; omega) | (simp only [List.length_drop, List.length_take]; omega)), (by first | omega | with_reducible trivial | (simp only [inR, lo, lim]; omega) | (simp only [List.length_drop, List.length_take]; omega)), (by first | omega | with_reducible trivial | (simp only [inR, lo, lim]; omega) | (simp only [List.length_drop, List.length_take]; omega)), (by first | omega | with_reducible trivial | (simp only [inR, lo, lim]; omega) | (simp only [List.length_drop, List.length_take]; omega)), (by first | omega | with_reducible trivial | (simp only [inR, lo, lim]; omega) | (simp only [List.length_drop, List.length_take]; omega)), (by first | omega | with_reducible trivial | (simp only [inR, lo, lim]; omega) | (simp only [List.length_drop, List.length_take]; omega)), trivial⟩
                  · first | exact pc_err (e := 2) (pc_empty (by omega)) rfl (by decide) (by decide) | exact pc_err (e := 4) (pc_form (by omega) (by assumption) (by omega)) rfl (by decide) (by decide) | exact pc_err (e := 8) (pc_limit (by omega) (by assumption) (by omega) (by omega)) rfl (by decide) (by decide) | exact pc_err (e := 2) (pc_few (by omega) (by assumption) (by omega) (by omega) (by omega)) rfl (by decide) (by decide) | exact pc_err (e := 4) (pc_bad (by omega) (by assumption) (by omega) (by omega) (by omega) (by omega) (by assumption)) rfl (by decide) (by decide) | (obtain ⟨q1, q2, q3⟩ := pc_short (b := b) (by omega) (by assumption); rw [q1, q2, q3]; simp [wkR, wkl, wk, wk0, lim]; done) | (obtain ⟨q1, q2, q3⟩ := pc_ok (b := b) (by omega) (by assumption) (by omega) (by omega) (by omega) (by first | exact (fun h9 => Bool.noConfusion ((show shortB (b.getD 1 0) = false by assumption).symm.trans h9.2)) | exact (fun h9 => absurd h9.1 (by omega))); rw [q1, q2, q3, show (1 + (((b.getD 0 0 : Nat) : Int) - 64)).toNat = b.getD 0 0 - 63 by omega]; simp only [wkR, wkl, wk, wk0, lim, and_true, true_and]; refine ⟨?_, ?_⟩ <;> omega)
              · have hd6 := ne_of_beq_false hc6
                refine hold_endw mixed (okT5a hg hh) (unroll := true) (f := 200) (sc := [false, false, false, false, false, false, false]) (r := (Go.Eng.SV.tup [Go.Eng.SV.sl Go.IntKind.u8 (List.drop (1 : Nat) (List.take ((1 : Int) + ((↑(b.getD (0 : Nat) (0 : Nat)) : Int) - (64 : Int))).toNat b)), Go.Eng.SV.i Go.IntKind.i64 ((1 : Int) + ((↑(b.getD (0 : Nat) (0 : Nat)) : Int) - (64 : Int))), Go.Eng.SV.c Go.IntKind.i64 (0 : Int)])) (ob := [(b.length == (0 : Nat)) = Bool.false, (0 : Nat) < b.length, Go.Eng.B.shortB (b.getD (0 : Nat) (0 : Nat)) = Bool.false, Decidable.decide (b.getD (0 : Nat) (0 : Nat) < (64 : Nat)) = Bool.false, Decidable.decide ((88 : Nat) < b.getD (0 : Nat) (0 : Nat)) = Bool.false, Decidable.decide ((7 : Int) < (↑(b.getD (0 : Nat) (0 : Nat)) : Int) - (64 : Int)) = Bool.false, Go.Eng.inR Go.IntKind.i64 ((1 : Int) + ((↑(b.getD (0 : Nat) (0 : Nat)) : Int) - (64 : Int))), Decidable.decide ((↑b.length : Int) < (1 : Int) + ((↑(b.getD (0 : Nat) (0 : Nat)) : Int) - (64 : Int))) = Bool.false, ((↑(b.getD (0 : Nat) (0 : Nat)) : Int) - (64 : Int) == (1 : Int)) = Bool.false, Go.Eng.inR Go.IntKind.i64 ((1 : Int) + ((↑(b.getD (0 : Nat) (0 : Nat)) : Int) - (64 : Int))), (0 : Int) ≤ (1 : Int) + ((↑(b.getD (0 : Nat) (0 : Nat)) : Int) - (64 : Int)), (1 : Nat) ≤ ((1 : Int) + ((↑(b.getD (0 : Nat) (0 : Nat)) : Int) - (64 : Int))).toNat, ((1 : Int) + ((↑(b.getD (0 : Nat) (0 : Nat)) : Int) - (64 : Int))).toNat ≤ b.length, (List.drop (1 : Nat) (List.take ((1 : Int) + ((↑(b.getD (0 : Nat) (0 : Nat)) : Int) - (64 : Int))).toNat b)).length ≤ (100000000 : Nat), Go.Eng.inR Go.IntKind.i64 ((1 : Int) + ((↑(b.getD (0 : Nat) (0 : Nat)) : Int) - (64 : Int)))]) (sc' := []) (by kernel_rfl) ?_ ?_
                · exact ⟨hc0, (by first | omega | with_reducible trivial | (simp only [inR, lo, lim]; omega) | (simp only [List.length_drop, List.length_take]; omega)), hc1, hc2, hc3, hc4, (by first | omega | with_reducible trivial | (simp only [inR, lo, lim]; omega) | (simp only [List.length_drop, List.length_take]; omega)), hc5, hc6, (by first | omega | with_reducible trivial | (simp only [inR, lo, lim]; omega) | (simp only [List.length_drop, List.length_take]; omega)), (by first | omega | with_reducible trivial | (simp only [inR, lo, lim]; omega) | (simp only [List.length_drop, List.length_take]; omega)), (by first | omega | with_reducible trivial | (simp only [inR, lo, lim]; omega) | (simp only [List.length_drop, List.length_take]; omega)), (by first | omega | with_reducible trivial | (simp only [inR, lo, lim]; omega) | (simp only [List.length_drop, List.length_take]; omega)), (by first | omega | with_reducible trivial | (simp only [inR, lo, lim]; omega) | (simp only [List.length_drop, List.length_take]; omega)), (by first | omega | with_reducible trivial | (simp only [inR, lo, lim]; omega) | (simp only [List.length_drop, List.length_take]; omega)), trivial⟩
                · first | exact pc_err (e := 2) (pc_empty (by omega)) rfl (by decide) (by decide) | exact pc_err (e := 4) (pc_form (by omega) (by assumption) (by omega)) rfl (by decide) (by decide) | exact pc_err (e := 8) (pc_limit (by omega) (by assumption) (by omega) (by omega)) rfl (by decide) (by decide) | exact pc_err (e := 2) (pc_few (by omega) (by assumption) (by omega) (by omega) (by omega)) rfl (by decide) (by decide) | exact pc_err (e := 4) (pc_bad (by omega) (by assumption) (by omega) (by omega) (by omega) (by omega) (by assumption)) rfl (by decide) (by decide) | (obtain ⟨q1, q2, q3⟩ := pc_short (b := b) (by omega) (by assumption); rw [q1, q2, q3]; simp [wkR, wkl, wk, wk0, lim]; done) | (obtain ⟨q1, q2, q3⟩ := pc_ok (b := b) (by omega) (by assumption) (by omega) (by omega) (by omega) (by first | exact (fun h9 => Bool.noConfusion ((show shortB (b.getD 1 0) = false by assumption).symm.trans h9.2)) | exact (fun h9 => absurd h9.1 (by omega))); rw [q1, q2, q3, show (1 + (((b.getD 0 0 : Nat) : Int) - 64)).toNat = b.getD 0 0 - 63 by omega]; simp only [wkR, wkl, wk, wk0, lim, and_true, true_and]; refine ⟨?_, ?_⟩ <;> omega)
theorem qmaster_c (a : List Nat) (ha : a.length ≤ 900000) : Contract Try.prog 120 [.sl .u8 a] (.tup [.sl .u8 (kV g (expO g a) 0 [] 16), .sl .u8 (kV g (expO g a) 1 [] 8)]) := by
  refine contract Try.func120 (body := bodyOf Try.f120) rfl (by kernel_rfl) (by kernel_rfl) rfl ?_
  intro _ w0 S
  exact hold_endw mixed (okT5a hg hh) (unroll := true) (f := 100) (sc := []) (r := (Go.Eng.SV.tup [Go.Eng.SV.sl Go.IntKind.u8 (Go.Eng.B.kV g (Go.Eng.B.expO g a) (0 : Int) [] (16 : Int)), Go.Eng.SV.sl Go.IntKind.u8 (Go.Eng.B.kV g (Go.Eng.B.expO g a) (1 : Int) [] (8 : Int))])) (ob := [a.length ≤ (900000 : Nat), a.length ≤ (900000 : Nat)]) (sc' := []) (by kernel_rfl) (by repeat' first | exact trivial | omega | refine ⟨?_, ?_⟩) (wkR_refl _)
theorem qparse_c (b : List Nat) (hb : b.length ≤ 1000000) : Contract Try.prog 83 [.sl .u8 b] (.tup [.sl .u8 (pcL b), .u .i64 (pcN b), .u .i64 (pcErr b)]) := by
  refine contract Try.func83 (body := bodyOf Try.f83) rfl (by kernel_rfl) (by kernel_rfl) rfl ?_
  rintro ⟨⟨_, hm⟩, _⟩ w0 S
  have h256 : b.getD 0 0 < 256 := getD_lt (b := 256) (by decide) hm 0
  rcases Bool.eq_false_or_eq_true (b.length == (0 : Nat)) with hc0 | hc0
  · have hd0 := eq_of_beq hc0
    refine hold_endw mixed (okT5a hg hh) (unroll := true) (f := 200) (sc := [true]) (r := (Go.Eng.SV.tup [Go.Eng.SV.sl Go.IntKind.u8 [], Go.Eng.SV.c Go.IntKind.i64 (0 : Int), Go.Eng.SV.c Go.IntKind.i64 (2 : Int)])) (ob := [(b.length == (0 : Nat)) = Bool.true]) (sc' := []) (by kernel_rfl) ?_ ?_
    · exact ⟨hc0, trivial⟩
    · first | exact pc_err (e := 2) (pc_empty (by omega)) rfl (by decide) (by decide) | exact pc_err (e := 4) (pc_form (by omega) (by assumption) (by omega)) rfl (by decide) (by decide) | exact pc_err (e := 8) (pc_limit (by omega) (by assumption) (by omega) (by omega)) rfl (by decide) (by decide) | exact pc_err (e := 2) (pc_few (by omega) (by assumption) (by omega) (by omega) (by omega)) rfl (by decide) (by decide) | exact pc_err (e := 4) (pc_bad (by omega) (by assumption) (by omega) (by omega) (by omega) (by omega) (by assumption)) rfl (by decide) (by decide) | (obtain ⟨q1, q2, q3⟩ := pc_short (b := b) (by omega) (by assumption); rw [q1, q2, q3]; simp [wkR, wkl, wk, wk0, lim]; done) | (obtain ⟨q1, q2, q3⟩ := pc_ok (b := b) (by omega) (by assumption) (by omega) (by omega) (by omega) (by first | exact (fun h9 => Bool.noConfusion ((show shortB (b.getD 1 0) = false by assumption).symm.trans h9.2)) | exact (fun h9 => absurd h9.1 (by omega))); rw [q1, q2, q3, show (1 + (((b.getD 0 0 : Nat) : Int) - 64)).toNat = b.getD 0 0 - 63 by omega]; simp only [wkR, wkl, wk, wk0, lim, and_true, true_and]; refine ⟨?_, ?_⟩ <;> omega)
  · have hd0 := ne_of_beq_false hc0
    rcases Bool.eq_false_or_eq_true (Go.Eng.B.shortB (b.getD (0 : Nat) (0 : Nat))) with hc1 | hc1
    · refine hold_endw mixed (okT5a hg hh) (unroll := true) (f := 200) (sc := [false, true]) (r := (Go.Eng.SV.tup [Go.Eng.SV.sl Go.IntKind.u8 [b.getD (0 : Nat) (0 : Nat)], Go.Eng.SV.c Go.IntKind.i64 (1 : Int), Go.Eng.SV.c Go.IntKind.i64 (0 : Int)])) (ob := [(b.length == (0 : Nat)) = Bool.false, (0 : Nat) < b.length, (0 : Nat) < b.length, Go.Eng.B.shortB (b.getD (0 : Nat) (0 : Nat)) = Bool.true, (0 : Nat) < b.length]) (sc' := []) (by kernel_rfl) ?_ ?_
      · exact ⟨hc0, (by first | omega | with_reducible trivial | (simp only [inR, lo, lim]; omega) | (simp only [List.length_drop, List.length_take]; omega)), (by first | omega | with_reducible trivial | (simp only [inR, lo, lim]; omega) | (simp only [List.length_drop, List.length_take]; omega)), hc1, (by first | omega | with_reducible trivial | (simp only [inR, lo, lim]; omega) | (simp only [List.length_drop, List.length_take]; omega)), trivial⟩
      · first | exact pc_err (e := 2) (pc_empty (by omega)) rfl (by decide) (by decide) | exact pc_err (e := 4) (pc_form (by omega) (by assumption) (by omega)) rfl (by decide) (by decide) | exact pc_err (e := 8) (pc_limit (by omega) (by assumption) (by omega) (by omega)) rfl (by decide) (by decide) | exact pc_err (e := 2) (pc_few (by omega) (by assumption) (by omega) (by omega) (by omega)) rfl (by decide) (by decide) | exact pc_err (e := 4) (pc_bad (by omega) (by assumption) (by omega) (by omega) (by omega) (by omega) (by assumption)) rfl (by decide) (by decide) | (obtain ⟨q1, q2, q3⟩ := pc_short (b := b) (by omega) (by assumption); rw [q1, q2, q3]; simp [wkR, wkl, wk, wk0, lim]; done) | (obtain ⟨q1, q2, q3⟩ := pc_ok (b := b) (by omega) (by assumption) (by omega) (by omega) (by omega) (by first | exact (fun h9 => Bool.noConfusion ((show shortB (b.getD 1 0) = false by assumption).symm.trans h9.2)) | exact (fun h9 => absurd h9.1 (by omega))); rw [q1, q2, q3, show (1 + (((b.getD 0 0 : Nat) : Int) - 64)).toNat = b.getD 0 0 - 63 by omega]; simp only [wkR, wkl, wk, wk0, lim, and_true, true_and]; refine ⟨?_, ?_⟩ <;> omega)
    · rcases Bool.eq_false_or_eq_true (Decidable.decide (b.getD (0 : Nat) (0 : Nat) < (64 : Nat))) with hc2 | hc2
      · have hd2 := of_decide_eq_true hc2
        refine hold_endw mixed (okT5a hg hh) (unroll := true) (f := 200) (sc := [false, false, true]) (r := (Go.Eng.SV.tup [Go.Eng.SV.sl Go.IntKind.u8 [], Go.Eng.SV.c Go.IntKind.i64 (0 : Int), Go.Eng.SV.c Go.IntKind.i64 (4 : Int)])) (ob := [(b.length == (0 : Nat)) = Bool.false, (0 : Nat) < b.length, (0 : Nat) < b.length, Go.Eng.B.shortB (b.getD (0 : Nat) (0 : Nat)) = Bool.false, Decidable.decide (b.getD (0 : Nat) (0 : Nat) < (64 : Nat)) = Bool.true]) (sc' := []) (by kernel_rfl) ?_ ?_
        · exact ⟨hc0, (by first | omega | with_reducible trivial | (simp only [inR, lo, lim]; omega) | (simp only [List.length_drop, List.length_take]; omega)), (by first | omega | with_reducible trivial | (simp only [inR, lo, lim]; omega) | (simp only [List.length_drop, List.length_take]; omega)), hc1, hc2, trivial⟩
        · first | exact pc_err (e := 2) (pc_empty (by omega)) rfl (by decide) (by decide) | exact pc_err (e := 4) (pc_form (by omega) (by assumption) (by omega)) rfl (by decide) (by decide) | exact pc_err (e := 8) (pc_limit (by omega) (by assumption) (by omega) (by omega)) rfl (by decide) (by decide) | exact pc_err (e := 2) (pc_few (by omega) (by assumption) (by omega) (by omega) (by omega)) rfl (by decide) (by decide) | exact pc_err (e := 4) (pc_bad (by omega) (by assumption) (by omega) (by omega) (by omega) (by omega) (by assumption)) rfl (by decide) (by decide) | (obtain ⟨q1, q2, q3⟩ := pc_short (b := b) (by omega) (by assumption); rw [q1, q2, q3]; simp [wkR, wkl, wk, wk0, lim]; done) | (obtain ⟨q1, q2, q3⟩ := pc_ok (b := b) (by omega) (by assumption) (by omega) (by omega) (by omega) (by first | exact (fun h9 => Bool.noConfusion ((show shortB (b.getD 1 0) = false by assumption).symm.trans h9.2)) | exact (fun h9 => absurd h9.1 (by omega))); rw [q1, q2, q3, show (1 + (((b.getD 0 0 : Nat) : Int) - 64)).toNat = b.getD 0 0 - 63 by omega]; simp only [wkR, wkl, wk, wk0, lim, and_true, true_and]; refine ⟨?_, ?_⟩ <;> omega)
      · have hd2 := of_decide_eq_false hc2
        rcases Bool.eq_false_or_eq_true (Decidable.decide ((88 : Nat) < b.getD (0 : Nat) (0 : Nat))) with hc3 | hc3
        · have hd3 := of_decide_eq_true hc3
          refine hold_endw mixed (okT5a hg hh) (unroll := true) (f := 200) (sc := [false, false, false, true]) (r := (Go.Eng.SV.tup [Go.Eng.SV.sl Go.IntKind.u8 [], Go.Eng.SV.c Go.IntKind.i64 (0 : Int), Go.Eng.SV.c Go.IntKind.i64 (4 : Int)])) (ob := [(b.length == (0 : Nat)) = Bool.false, (0 : Nat) < b.length, (0 : Nat) < b.length, Go.Eng.B.shortB (b.getD (0 : Nat) (0 : Nat)) = Bool.false, Decidable.decide (b.getD (0 : Nat) (0 : Nat) < (64 : Nat)) = Bool.false, Decidable.decide ((88 : Nat) < b.getD (0 : Nat) (0 : Nat)) = Bool.true]) (sc' := []) (by kernel_rfl) ?_ ?_
          · exact ⟨hc0, (by first | omega | with_reducible trivial | (simp only [inR, lo, lim]; omega) | (simp only [List.length_drop, List.length_take]; omega)), (by first | omega | with_reducible trivial | (simp only [inR, lo, lim]; omega) | (simp only [List.length_drop, List.length_take]; omega)), hc1, hc2, hc3, trivial⟩
          · first | exact pc_err (e := 2) (pc_empty (by omega)) rfl (by decide) (by decide) | exact pc_err (e := 4) (pc_form (by omega) (by assumption) (by omega)) rfl (by decide) (by decide) | exact pc_err (e := 8) (pc_limit (by omega) (by assumption) (by omega) (by omega)) rfl (by decide) (by decide) | exact pc_err (e := 2) (pc_few (by omega) (by assumption) (by omega) (by omega) (by omega)) rfl (by decide) (by decide) | exact pc_err (e := 4) (pc_bad (by omega) (by assumption) (by omega) (by omega) (by omega) (by omega) (by assumption)) rfl (by decide) (by decide) | (obtain ⟨q1, q2, q3⟩ := pc_short (b := b) (by omega) (by assumption); rw [q1, q2, q3]; simp [wkR, wkl, wk, wk0, lim]; done) | (obtain ⟨q1, q2, q3⟩ := pc_ok (b := b) (by omega) (by assumption) (by omega) (by omega) (by omega) (by first | exact (fun h9 => Bool.noConfusion ((show shortB (b.getD 1 0) = false by assumption).symm.trans h9.2)) | exact (fun h9 => absurd h9.1 (by omega))); rw [q1, q2, q3, show (1 + (((b.getD 0 0 : Nat) : Int) - 64)).toNat = b.getD 0 0 - 63 by omega]; simp only [wkR, wkl, wk, wk0, lim, and_true, true_and]; refine ⟨?_, ?_⟩ <;> omega)
        · have hd3 := of_decide_eq_false hc3
          rcases Bool.eq_false_or_eq_true (Decidable.decide ((7 : Int) < (↑(b.getD (0 : Nat) (0 : Nat)) : Int) - (64 : Int))) with hc4 | hc4
          · have hd4 := of_decide_eq_true hc4
            refine hold_endw mixed (okT5a hg hh) (unroll := true) (f := 200) (sc := [false, false, false, false, true]) (r := (Go.Eng.SV.tup [Go.Eng.SV.sl Go.IntKind.u8 [], Go.Eng.SV.c Go.IntKind.i64 (0 : Int), Go.Eng.SV.c Go.IntKind.i64 (8 : Int)])) (ob := [(b.length == (0 : Nat)) = Bool.false, (0 : Nat) < b.length, (0 : Nat) < b.length, Go.Eng.B.shortB (b.getD (0 : Nat) (0 : Nat)) = Bool.false, Decidable.decide (b.getD (0 : Nat) (0 : Nat) < (64 : Nat)) = Bool.false, Decidable.decide ((88 : Nat) < b.getD (0 : Nat) (0 : Nat)) = Bool.false, Decidable.decide ((7 : Int) < (↑(b.getD (0 : Nat) (0 : Nat)) : Int) - (64 : Int)) = Bool.true]) (sc' := []) (by kernel_rfl) ?_ ?_
            · exact ⟨hc0, (by first | omega | with_reducible trivial | (simp only [inR, lo, lim]; omega) | (simp only [List.length_drop, List.length_take]; omega)), (by first | omega | with_reducible trivial | (simp only [inR, lo, lim]; omega) | (simp only [List.length_drop, List.length_take]; omega)), hc1, hc2, hc3, hc4, trivial⟩
            · first | exact pc_err (e := 2) (pc_empty (by omega)) rfl (by decide) (by decide) | exact pc_err (e := 4) (pc_form (by omega) (by assumption) (by omega)) rfl (by decide) (by decide) | exact pc_err (e := 8) (pc_limit (by omega) (by assumption) (by omega) (by omega)) rfl (by decide) (by decide) | exact pc_err (e := 2) (pc_few (by omega) (by assumption) (by omega) (by omega) (by omega)) rfl (by decide) (by decide) | exact pc_err (e := 4) (pc_bad (by omega) (by assumption) (by omega) (by omega) (by omega) (by omega) (by assumption)) rfl (by decide) (by decide) | (obtain ⟨q1, q2, q3⟩ := pc_short (b := b) (by omega) (by assumption); rw [q1, q2, q3]; simp [wkR, wkl, wk, wk0, lim]; done) | (obtain ⟨q1, q2, q3⟩ := pc_ok (b := b) (by omega) (by assumption) (by omega) (by omega) (by omega) (by first | exact (fun h9 => Bool.noConfusion ((show shortB (b.getD 1 0) = false by assumption).symm.trans h9.2)) | exact (fun h9 => absurd h9.1 (by omega))); rw [q1, q2, q3, show (1 + (((b.getD 0 0 : Nat) : Int) - 64)).toNat = b.getD 0 0 - 63 by omega]; simp only [wkR, wkl, wk, wk0, lim, and_true, true_and]; refine ⟨?_, ?_⟩ <;> omega)
          · have hd4 := of_decide_eq_false hc4
            rcases Bool.eq_false_or_eq_true (Decidable.decide ((↑b.length : Int) < (1 : Int) + ((↑(b.getD (0 : Nat) (0 : Nat)) : Int) - (64 : Int)))) with hc5 | hc5
            · have hd5 := of_decide_eq_true hc5
              refine hold_endw mixed (okT5a hg hh) (unroll := true) (f := 200) (sc := [false, false, false, false, false, true]) (r := (Go.Eng.SV.tup [Go.Eng.SV.sl Go.IntKind.u8 [], Go.Eng.SV.c Go.IntKind.i64 (0 : Int), Go.Eng.SV.c Go.IntKind.i64 (2 : Int)])) (ob := [(b.length == (0 : Nat)) = Bool.false, (0 : Nat) < b.length, (0 : Nat) < b.length, Go.Eng.B.shortB (b.getD (0 : Nat) (0 : Nat)) = Bool.false, Decidable.decide (b.getD (0 : Nat) (0 : Nat) < (64 : Nat)) = Bool.false, Decidable.decide ((88 : Nat) < b.getD (0 : Nat) (0 : Nat)) = Bool.false, Decidable.decide ((7 : Int) < (↑(b.getD (0 : Nat) (0 : Nat)) : Int) - (64 : Int)) = Bool.false, Go.Eng.inR Go.IntKind.i64 ((1 : Int) + ((↑(b.getD (0 : Nat) (0 : Nat)) : Int) - (64 : Int))), Decidable.decide ((↑b.length : Int) < (1 : Int) + ((↑(b.getD (0 : Nat) (0 : Nat)) : Int) - (64 : Int))) = Bool.true]) (sc' := []) (by kernel_rfl) ?_ ?_
              · exact ⟨hc0, (by first | omega | with_reducible trivial | (simp only [inR, lo, lim]; omega) | (simp only [List.length_drop, List.length_take]; omega)), (by first | omega | with_reducible trivial | (simp only [inR, lo, lim]; omega) | (simp only [List.length_drop, List.length_take]; omega)), hc1, hc2, hc3, hc4, (by first | omega | with_reducible trivial | (simp only [inR, lo, lim]; omega) | (simp only [List.length_drop, List.length_take]; omega)), hc5, trivial⟩
              · first | exact pc_err (e := 2) (pc_empty (by omega)) rfl (by decide) (by decide) | exact pc_err (e := 4) (pc_form (by omega) (by assumption) (by omega)) rfl (by decide) (by decide) | exact pc_err (e := 8) (pc_limit (by omega) (by assumption) (by omega) (by omega)) rfl (by decide) (by decide) | exact pc_err (e := 2) (pc_few (by omega) (by assumption) (by omega) (by omega) (by omega)) rfl (by decide) (by decide) | exact pc_err (e := 4) (pc_bad (by omega) (by assumption) (by omega) (by omega) (by omega) (by omega) (by assumption)) rfl (by decide) (by decide) | (obtain ⟨q1, q2, q3⟩ := pc_short (b := b) (by omega) (by assumption); rw [q1, q2, q3]; simp [wkR, wkl, wk, wk0, lim]; done) | (obtain ⟨q1, q2, q3⟩ := pc_ok (b := b) (by omega) (by assumption) (by omega) (by omega) (by omega) (by first | exact (fun h9 => Bool.noConfusion ((show shortB (b.getD 1 0) = false by assumption).symm.trans h9.2)) | exact (fun h9 => absurd h9.1 (by omega))); rw [q1, q2, q3, show (1 + (((b.getD 0 0 : Nat) : Int) - 64)).toNat = b.getD 0 0 - 63 by omega]; simp only [wkR, wkl, wk, wk0, lim, and_true, true_and]; refine ⟨?_, ?_⟩ <;> omega)
            · have hd5 := of_decide_eq_false hc5
              rcases Bool.eq_false_or_eq_true ((↑(b.getD (0 : Nat) (0 : Nat)) : Int) - (64 : Int) == (1 : Int)) with hc6 | hc6
              · have hd6 := eq_of_beq hc6
                rcases Bool.eq_false_or_eq_true (Go.Eng.B.shortB (b.getD (1 : Nat) (0 : Nat))) with hc7 | hc7
                · refine hold_endw mixed (okT5a hg hh) (unroll := true) (f := 200) (sc := [false, false, false, false, false, false, true, true]) (r := (Go.Eng.SV.tup [Go.Eng.SV.sl Go.IntKind.u8 [], Go.Eng.SV.c Go.IntKind.i64 (0 : Int), Go.Eng.SV.c Go.IntKind.i64 (4 : Int)])) (ob := [(b.length == (0 : Nat)) = Bool.false, (0 : Nat) < b.length, (0 : Nat) < b.length, Go.Eng.B.shortB (b.getD (0 : Nat) (0 : Nat)) = Bool.false, Decidable.decide (b.getD (0 : Nat) (0 : Nat) < (64 : Nat)) = Bool.false, Decidable.decide ((88 : Nat) < b.getD (0 : Nat) (0 : Nat)) = Bool.false, Decidable.decide ((7 : Int) < (↑(b.getD (0 : Nat) (0 : Nat)) : Int) - (64 : Int)) = Bool.false, Go.Eng.inR Go.IntKind.i64 ((1 : Int) + ((↑(b.getD (0 : Nat) (0 : Nat)) : Int) - (64 : Int))), Decidable.decide ((↑b.length : Int) < (1 : Int) + ((↑(b.getD (0 : Nat) (0 : Nat)) : Int) - (64 : Int))) = Bool.false, ((↑(b.getD (0 : Nat) (0 : Nat)) : Int) - (64 : Int) == (1 : Int)) = Bool.true, (1 : Nat) < b.length, Go.Eng.B.shortB (b.getD (1 : Nat) (0 : Nat)) = Bool.true]) (sc' := []) (by kernel_rfl) ?_ ?_
                  · exact ⟨hc0, (by first | omega | with_reducible trivial | (simp only [inR, lo, lim]; omega) | (simp only [List.length_drop, List.length_take]; omega)), (by first | omega | with_reducible trivial | (simp only [inR, lo, lim]; omega) | (simp only [List.length_drop, List.length_take]; omega)), hc1, hc2, hc3, hc4, (by first | omega | with_reducible trivial | (simp only [inR, lo, lim]; omega) | (simp only [List.length_drop, List.length_take]; omega)), hc5, hc6, (by first | omega | with_reducible trivial | (simp only [inR, lo, lim]; omega) | (simp only [List.length_drop, List.length_take]; omega)), hc7, trivial⟩
                  · first | exact pc_err (e := 2) (pc_empty (by omega)) rfl (by decide) (by decide) | exact pc_err (e := 4) (pc_form (by omega) (by assumption) (by omega)) rfl (by decide) (by decide) | exact pc_err (e := 8) (pc_limit (by omega) (by assumption) (by omega) (by omega)) rfl (by decide) (by decide) | exact pc_err (e := 2) (pc_few (by omega) (by assumption) (by omega) (by omega) (by omega)) rfl (by decide) (by decide) | exact pc_err (e := 4) (pc_bad (by omega) (by assumption) (by omega) (by omega) (by omega) (by omega) (by assumption)) rfl (by decide) (by decide) | (obtain ⟨q1, q2, q3⟩ := pc_short (b := b) (by omega) (by assumption); rw [q1, q2, q3]; simp [wkR, wkl, wk, wk0, lim]; done) | (obtain ⟨q1, q2, q3⟩ := pc_ok (b := b) (by omega) (by assumption) (by omega) (by omega) (by omega) (by first | exact (fun h9 => Bool.noConfusion ((show shortB (b.getD 1 0) = false by assumption).symm.trans h9.2)) | exact (fun h9 => absurd h9.1 (by omega))); rw [q1, q2, q3, show (1 + (((b.getD 0 0 : Nat) : Int) - 64)).toNat = b.getD 0 0 - 63 by omega]; simp only [wkR, wkl, wk, wk0, lim, and_true, true_and]; refine ⟨?_, ?_⟩ <;> omega)
                · refine hold_endw mixed (okT5a hg hh) (unroll := true) (f := 200) (sc := [false, false, false, false, false, false, true, false]) (r := (Go.Eng.SV.tup [Go.Eng.SV.sl Go.IntKind.u8 (List.drop (1 : Nat) (List.take ((1 : Int) + ((↑(b.getD (0 : Nat) (0 : Nat)) : Int) - (64 : Int))).toNat b)), Go.Eng.SV.i Go.IntKind.i64 ((1 : Int) + ((↑(b.getD (0 : Nat) (0 : Nat)) : Int) - (64 : Int))), Go.Eng.SV.c Go.IntKind.i64 (0 : Int)])) (ob := [(b.length == (0 : Nat)) = Bool.false, (0 : Nat) < b.length, (0 : Nat) < b.length, Go.Eng.B.shortB (b.getD (0 : Nat) (0 : Nat)) = Bool.false, Decidable.decide (b.getD (0 : Nat) (0 : Nat) < (64 : Nat)) = Bool.false, Decidable.decide ((88 : Nat) < b.getD (0 : Nat) (0 : Nat)) = Bool.false, Decidable.decide ((7 : Int) < (↑(b.getD (0 : Nat) (0 : Nat)) : Int) - (64 : Int)) = Bool.false, Go.Eng.inR Go.IntKind.i64 ((1 : Int) + ((↑(b.getD (0 : Nat) (0 : Nat)) : Int) - (64 : Int))), Decidable.decide ((↑b.length : Int) < (1 : Int) + ((↑(b.getD (0 : Nat) (0 : Nat)) : Int) - (64 : Int))) = Bool.false, ((↑(b.getD (0 : Nat) (0 : Nat)) : Int) - (64 : Int) == (1 : Int)) = Bool.true, (1 : Nat) < b.length, Go.Eng.B.shortB (b.getD (1 : Nat) (0 : Nat)) = Bool.false, Go.Eng.inR Go.IntKind.i64 ((1 : Int) + ((↑(b.getD (0 : Nat) (0 : Nat)) : Int) - (64 : Int))), (0 : Int) ≤ (1 : Int) + ((↑(b.getD (0 : Nat) (0 : Nat)) : Int) - (64 : Int)), (1 : Nat) ≤ ((1 : Int) + ((↑(b.getD (0 : Nat) (0 : Nat)) : Int) - (64 : Int))).toNat, ((1 : Int) + ((↑(b.getD (0 : Nat) (0 : Nat)) : Int) - (64 : Int))).toNat ≤ b.length, (List.drop (1 : Nat) (List.take ((1 : Int) + ((↑(b.getD (0 : Nat) (0 : Nat)) : Int) - (64 : Int))).toNat b)).length ≤ (100000000 : Nat), Go.Eng.inR Go.IntKind.i64 ((1 : Int) + ((↑(b.getD (0 : Nat) (0 : Nat)) : Int) - (64 : Int)))]) (sc' := []) (by kernel_rfl) ?_ ?_
                  · exact ⟨hc0, (by first | omega | with_reducible trivial | (simp only [inR, lo, lim]; omega) | (simp only [List.length_drop, List.length_take]; omega)), (by first | omega | with_reducible trivial | (simp only [inR, lo, lim]; omega) | (simp only [List.length_drop, List.length_take]; omega)), hc1, hc2, hc3, hc4, (by first | omega | with_reducible trivial | (simp only [inR, lo, lim]; omega) | (simp only [List.length_drop, List.length_take]; omega)), hc5, hc6, (by first | omega | with_reducible trivial | (simp only [inR, lo, lim]; omega) | (simp only [List.length_drop, List.length_take]; omega)), hc7, (by first | omega | with_reducible trivial | (simp only [inR, lo, lim]; omega) | (simp only [List.length_drop, List.length_take]; omega)), (by first | omega | with_reducible trivial | (simp only [inR, lo, lim]; omega) | (simp only [List.length_drop, List.length_take]; omega)), (by first | omega | with_reducible trivial | (simp only [inR, lo, lim]; omega) | (simp only [List.length_drop, List.length_take]; omega)), (by first | omega | with_reducible trivial | (simp only [inR, lo, lim]; omega) | (simp only [List.length_drop, List.length_take]; omega)), (by first | omega | with_reducible trivial | (simp only [inR, lo, lim]; omega) | (simp only [List.length_drop, List.length_take]; omega)), (by first | omega | with_reducible trivial | (simp only [inR, lo, lim]; omega) | (simp only [List.length_drop, List.length_take]; omega)), trivial⟩
                  · first | exact pc_err (e := 2) (pc_empty (by omega)) rfl (by decide) (by decide) | exact pc_err (e := 4) (pc_form (by omega) (by assumption) (by omega)) rfl (by decide) (by decide) | exact pc_err (e := 8) (pc_limit (by omega) (by assumption) (by omega) (by omega)) rfl (by decide) (by decide) | exact pc_err (e := 2) (pc_few (by omega) (by assumption) (by omega) (by omega) (by omega)) rfl (by decide) (by decide) | exact pc_err (e := 4) (pc_bad (by omega) (by assumption) (by omega) (by omega) (by omega) (by omega) (by assumption)) rfl (by decide) (by decide) | (obtain ⟨q1, q2, q3⟩ := pc_short (b := b) (by omega) (by assumption); rw [q1, q2, q3]; simp [wkR, wkl, wk, wk0, lim]; done) | (obtain ⟨q1, q2, q3⟩ := pc_ok (b := b) (by omega) (by assumption) (by omega) (by omega) (by omega) (by first | exact (fun h9 => Bool.noConfusion ((show shortB (b.getD 1 0) = false by assumption).symm.trans h9.2)) | exact (fun h9 => absurd h9.1 (by omega))); rw [q1, q2, q3, show (1 + (((b.getD 0 0 : Nat) : Int) - 64)).toNat = b.getD 0 0 - 63 by omega]; simp only [wkR, wkl, wk, wk0, lim, and_true, true_and]; refine ⟨?_, ?_⟩ <;> omega)
              · have hd6 := ne_of_beq_false hc6
                refine hold_endw mixed (okT5a hg hh) (unroll := true) (f := 200) (sc := [false, false, false, false, false, false, false]) (r := (Go.Eng.SV.tup [Go.Eng.SV.sl Go.IntKind.u8 (List.drop (1 : Nat) (List.take ((1 : Int) + ((↑(b.getD (0 : Nat) (0 : Nat)) : Int) - (64 : Int))).toNat b)), Go.Eng.SV.i Go.IntKind.i64 ((1 : Int) + ((↑(b.getD (0 : Nat) (0 : Nat)) : Int) - (64 : Int))), Go.Eng.SV.c Go.IntKind.i64 (0 : Int)])) (ob := [(b.length == (0 : Nat)) = Bool.false, (0 : Nat) < b.length, (0 : Nat) < b.length, Go.Eng.B.shortB (b.getD (0 : Nat) (0 : Nat)) = Bool.false, Decidable.decide (b.getD (0 : Nat) (0 : Nat) < (64 : Nat)) = Bool.false, Decidable.decide ((88 : Nat) < b.getD (0 : Nat) (0 : Nat)) = Bool.false, Decidable.decide ((7 : Int) < (↑(b.getD (0 : Nat) (0 : Nat)) : Int) - (64 : Int)) = Bool.false, Go.Eng.inR Go.IntKind.i64 ((1 : Int) + ((↑(b.getD (0 : Nat) (0 : Nat)) : Int) - (64 : Int))), Decidable.decide ((↑b.length : Int) < (1 : Int) + ((↑(b.getD (0 : Nat) (0 : Nat)) : Int) - (64 : Int))) = Bool.false, ((↑(b.getD (0 : Nat) (0 : Nat)) : Int) - (64 : Int) == (1 : Int)) = Bool.false, Go.Eng.inR Go.IntKind.i64 ((1 : Int) + ((↑(b.getD (0 : Nat) (0 : Nat)) : Int) - (64 : Int))), (0 : Int) ≤ (1 : Int) + ((↑(b.getD (0 : Nat) (0 : Nat)) : Int) - (64 : Int)), (1 : Nat) ≤ ((1 : Int) + ((↑(b.getD (0 : Nat) (0 : Nat)) : Int) - (64 : Int))).toNat, ((1 : Int) + ((↑(b.getD (0 : Nat) (0 : Nat)) : Int) - (64 : Int))).toNat ≤ b.length, (List.drop (1 : Nat) (List.take ((1 : Int) + ((↑(b.getD (0 : Nat) (0 : Nat)) : Int) - (64 : Int))).toNat b)).length ≤ (100000000 : Nat), Go.Eng.inR Go.IntKind.i64 ((1 : Int) + ((↑(b.getD (0 : Nat) (0 : Nat)) : Int) - (64 : Int)))]) (sc' := []) (by kernel_rfl) ?_ ?_
                · exact ⟨hc0, (by first | omega | with_reducible trivial | (simp only [inR, lo, lim]; omega) | (simp only [List.length_drop, List.length_take]; omega)), (by first | omega | with_reducible trivial | (simp only [inR, lo, lim]; omega) | (simp only [List.length_drop, List.length_take]; omega)), hc1, hc2, hc3, hc4, (by first | omega | with_reducible trivial | (simp only [inR, lo, lim]; omega) | (simp only [List.length_drop, List.length_take]; omega)), hc5, hc6, (by first | omega | with_reducible trivial | (simp only [inR, lo, lim]; omega) | (simp only [List.length_drop, List.length_take]; omega)), (by first | omega | with_reducible trivial | (simp only [inR, lo, lim]; omega) | (simp only [List.length_drop, List.length_take]; omega)), (by first | omega | with_reducible trivial | (simp only [inR, lo, lim]; omega) | (simp only [List.length_drop, List.length_take]; omega)), (by first | omega | with_reducible trivial | (simp only [inR, lo, lim]; omega) | (simp only [List.length_drop, List.length_take]; omega)), (by first | omega | with_reducible trivial | (simp only [inR, lo, lim]; omega) | (simp only [List.length_drop, List.length_take]; omega)), (by first | omega | with_reducible trivial | (simp only [inR, lo, lim]; omega) | (simp only [List.length_drop, List.length_take]; omega)), trivial⟩
                · first | exact pc_err (e := 2) (pc_empty (by omega)) rfl (by decide) (by decide) | exact pc_err (e := 4) (pc_form (by omega) (by assumption) (by omega)) rfl (by decide) (by decide) | exact pc_err (e := 8) (pc_limit (by omega) (by assumption) (by omega) (by omega)) rfl (by decide) (by decide) | exact pc_err (e := 2) (pc_few (by omega) (by assumption) (by omega) (by omega) (by omega)) rfl (by decide) (by decide) | exact pc_err (e := 4) (pc_bad (by omega) (by assumption) (by omega) (by omega) (by omega) (by omega) (by assumption)) rfl (by decide) (by decide) | (obtain ⟨q1, q2, q3⟩ := pc_short (b := b) (by omega) (by assumption); rw [q1, q2, q3]; simp [wkR, wkl, wk, wk0, lim]; done) | (obtain ⟨q1, q2, q3⟩ := pc_ok (b := b) (by omega) (by assumption) (by omega) (by omega) (by omega) (by first | exact (fun h9 => Bool.noConfusion ((show shortB (b.getD 1 0) = false by assumption).symm.trans h9.2)) | exact (fun h9 => absurd h9.1 (by omega))); rw [q1, q2, q3, show (1 + (((b.getD 0 0 : Nat) : Int) - 64)).toNat = b.getD 0 0 - 63 by omega]; simp only [wkR, wkl, wk, wk0, lim, and_true, true_and]; refine ⟨?_, ?_⟩ <;> omega)
end
section
variable {g h : List Nat → List Nat} (hg : g = sum32) (hh : h = sum64)
include hg hh
theorem eOut_ok {k : Int} {f : FuncId} (hc : ∀ a b : List Nat, a.length ≤ 900000 → b.length ≤ 900000 → Contract Try.prog f [.sl .u8 a, .sl .u8 b] (.tup [.sl .u8 (kV g a k b 32), .u .i64 (kErr k b 32)])) : ∀ args res ob, eOut g k args = some (res, ob) → All ob → Contract Try.prog f args res := by
  intro args res ob he hob
  unfold eOut at he
  split at he
  · split at he
    · rename_i hx hy
      cases he
      exact Contract.argsF (hc _ _ hob.1 hob.2.1) ⟨wk_of0 (part_wk hx), wk_of0 (part_wk hy), rfl⟩
    · cases he
  · cases he
theorem eTH2_ok {f : FuncId} (hc : ∀ a b : List Nat, a.length ≤ 90000 → b.length ≤ 90000 → Contract Try.prog f [.sl .u8 a, .sl .u8 b] (.tup [.sl .u8 (th2V g a b), .u .i64 (lErr (longB [a, b]))])) : ∀ args res ob, eTH2 g args = some (res, ob) → All ob → Contract Try.prog f args res := by
  intro args res ob he hob
  unfold eTH2 at he
  split at he
  · split at he
    · rename_i hx hy
      cases he
      exact Contract.argsF (hc _ _ hob.1 hob.2.1) ⟨wk_of0 (part_wk hx), wk_of0 (part_wk hy), rfl⟩
    · cases he
  · cases he
theorem eNx_ok {f : FuncId} (hc : ∀ a b c : List Nat, a.length ≤ 90000 → b.length ≤ 90000 → c.length ≤ 90000 → Contract Try.prog f [.sl .u8 a, .sl .u8 b, .sl .u8 c] (.tup [.sl .u8 (nxV g a b c), .u .i64 (lErr (longB [a, b, c]))])) : ∀ args res ob, eNx g args = some (res, ob) → All ob → Contract Try.prog f args res := by
  intro args res ob he hob
  unfold eNx at he
  split at he
  · split at he
    · rename_i hx hy hz
      cases he
      exact Contract.argsF (hc _ _ _ hob.1 hob.2.1 hob.2.2.1) ⟨wk_of0 (part_wk hx), wk_of0 (part_wk hy), wk_of0 (part_wk hz), rfl⟩
    · cases he
  · cases he
theorem eMst_ok {f : FuncId} (hc : ∀ a : List Nat, a.length ≤ 900000 → Contract Try.prog f [.sl .u8 a] (.tup [.sl .u8 (kV g (expO g a) 0 [] 16), .sl .u8 (kV g (expO g a) 1 [] 8)])) : ∀ args res ob, eMst g args = some (res, ob) → All ob → Contract Try.prog f args res := by
  intro args res ob he hob
  unfold eMst at he
  split at he
  · split at he
    · rename_i hx
      cases he
      exact Contract.argsF (hc _ hob.1) ⟨wk_of0 (part_wk hx), rfl⟩
    · cases he
  · cases he
theorem ePC_ok {f : FuncId} (hc : ∀ b : List Nat, b.length ≤ 1000000 → Contract Try.prog f [.sl .u8 b] (.tup [.sl .u8 (pcL b), .u .i64 (pcN b), .u .i64 (pcErr b)])) : ∀ args res ob, ePC args = some (res, ob) → All ob → Contract Try.prog f args res := by
  intro args res ob he hob
  unfold ePC at he
  split at he
  · split at he
    · rename_i hx
      cases he
      exact Contract.argsF (hc _ hob.1) ⟨wk_of0 (part_wk hx), rfl⟩
    · cases he
  · cases he
theorem eMix_ok {f : FuncId} (hc : ∀ (a b s : List Nat) (l : Int), a.length ≤ 900000 → s.length ≤ 900000 → Contract Try.prog f [.sl .u8 a, .i .i64 l, .sl .u8 b, .sl .u8 s] (.tup [.sl .u8 (mixV g a l b s), .u .i64 (kErr l b 32)])) : ∀ args res ob, eMix g args = some (res, ob) → All ob → Contract Try.prog f args res := by
  intro args res ob he hob
  unfold eMix at he
  split at he
  · split at he
    · rename_i hx hy hz hv
      cases he
      exact Contract.argsF (hc _ _ _ _ hob.1 hob.2.1) ⟨wk_of0 (part_wk hx), int?_wk hy, wk_of0 (part_wk hz), wk_of0 (part_wk hv), rfl⟩
    · cases he
  · cases he
theorem eStm_ok {f : FuncId} (hc : ∀ (a b : List Nat) (n : Int), a.length ≤ 900000 → Contract Try.prog f [.sl .u8 a, .sl .u8 b, .i .i64 n] (.tup [.sl .u8 (kV g a 0 b n), .u .i64 (kErr 0 b n)])) : ∀ args res ob, eStm g args = some (res, ob) → All ob → Contract Try.prog f args res := by
  intro args res ob he hob
  unfold eStm at he
  split at he
  · split at he
    · rename_i hx hy hz
      cases he
      exact Contract.argsF (hc _ _ _ hob.1) ⟨wk_of0 (part_wk hx), wk_of0 (part_wk hy), int?_wk hz, rfl⟩
    · cases he
  · cases he
theorem eIV_ok {f : FuncId} (hc : ∀ (a b : List Nat) (l : Int), a.length ≤ 900000 → inR .i64 l → Contract Try.prog f [.sl .u8 a, .i .i64 l, .sl .u8 b] (.tup [.sl .u8 (ivK g a l b), .sl .u8 (ivI g a l b), .u .i64 (ivErr l b)])) : ∀ args res ob, eIV g args = some (res, ob) → All ob → Contract Try.prog f args res := by
  intro args res ob he hob
  unfold eIV at he
  split at he
  · split at he
    · rename_i hx hy hz
      cases he
      exact Contract.argsF (Contract.pure fun hp => hc _ _ _ hob.1 hp.2.1) ⟨wk_of0 (part_wk hx), int?_wk hy, wk_of0 (part_wk hz), rfl⟩
    · cases he
  · cases he
theorem eMac_ok {f : FuncId} (hc : ∀ (n : Int) (s : Bool), Contract Try.prog f [.i .i64 n, .b s] (.u .i64 (macN n s))) : ∀ args res ob, eMac args = some (res, ob) → All ob → Contract Try.prog f args res := by
  intro args res ob he hob
  unfold eMac at he
  split at he
  · split at he
    · rename_i hx
      cases he
      exact Contract.argsF (hc _ _) ⟨int?_wk hx, wk_refl _, rfl⟩
    · cases he
  · cases he
end
noncomputable def T5b (g h : List Nat → List Nat) : Ctr := addC 60 eAll (addC 84 eSame (addC 100 (e4 90000 fun a b c d => .sl .u8 (ctx3 a b c d)) (addC 98 (e5 90000 fun a b c d e => .sl .u8 (ctx2 a b c d e)) (addC 96 eMac (addC 124 (eNx g) (addC 122 (eTH2 g) (addC 110 (eIV g) (addC 108 (eMix g) (addC 114 (eStm g) (addC 118 (eOut g 11) (addC 116 (eOut g 7) (addC 106 (eHm g) (addC 83 ePC (addC 120 (eMst g) (addC 99 (e4 90000 fun a b c d => .sl .u8 (ctx3 a b c d)) (addC 97 (e5 90000 fun a b c d e => .sl .u8 (ctx2 a b c d e)) (addC 95 eMac (addC 123 (eNx g) (addC 121 (eTH2 g) (addC 109 (eIV g) (addC 107 (eMix g) (addC 113 (eStm g) (addC 117 (eOut g 11) (addC 115 (eOut g 7) (addC 105 (eHm g) (addC 82 ePC (addC 119 (eMst g) (T5a g h))))))))))))))))))))))))))))
noncomputable def T5 (g h : List Nat → List Nat) : Ctr := addC 80 eT (T5b g h)
theorem okT5b {g h : List Nat → List Nat} (hg : g = sum32) (hh : h = sum64) : CtrOk Try.prog (T5b g h) := addC_ok (addC_ok (addC_ok (addC_ok (addC_ok (addC_ok (addC_ok (addC_ok (addC_ok (addC_ok (addC_ok (addC_ok (addC_ok (addC_ok (addC_ok (addC_ok (addC_ok (addC_ok (addC_ok (addC_ok (addC_ok (addC_ok (addC_ok (addC_ok (addC_ok (addC_ok (addC_ok (addC_ok (okT5a hg hh) (eMst_ok hg hh (master_c hg hh))) (ePC_ok hg hh (parse_c hg hh))) (eHm_ok (early_c hg hh))) (eOut_ok hg hh (out_c hg hh))) (eOut_ok hg hh (update_c hg hh))) (eStm_ok hg hh (stream_c hg hh))) (eMix_ok hg hh (mix_c hg hh))) (eIV_ok hg hh (keyiv_c hg hh))) (eTH2_ok hg hh (th2_c hg hh))) (eNx_ok hg hh (next23_c hg hh))) (eMac_ok hg hh (mac_c hg hh))) (e5_ok (ctx2_c hg hh))) (e4_ok (ctx3_c hg hh))) (eMst_ok hg hh (qmaster_c hg hh))) (ePC_ok hg hh (qparse_c hg hh))) (eHm_ok (qearly_c hg hh))) (eOut_ok hg hh (qout_c hg hh))) (eOut_ok hg hh (qupdate_c hg hh))) (eStm_ok hg hh (qstream_c hg hh))) (eMix_ok hg hh (qmix_c hg hh))) (eIV_ok hg hh (qkeyiv_c hg hh))) (eTH2_ok hg hh (qth2_c hg hh))) (eNx_ok hg hh (qnext23_c hg hh))) (eMac_ok hg hh (qmac_c hg hh))) (e5_ok (qctx2_c hg hh))) (e4_ok (qctx3_c hg hh))) (same_ok hg hh)) (all_ok)
section
variable {g h : List Nat → List Nat} (hg : g = sum32) (hh : h = sum64)
include hg hh
theorem awake23_c : Contract Try.prog 80 [] (.cb true) := by
  have hl : ∀ b, (g b).length = 32 := by rw [hg]; exact sum32_len
  refine contract Try.func80 (body := bodyOf Try.f80) rfl (by kernel_rfl) (by kernel_rfl) rfl ?_
  intro _ w0 S
  have e1 : pcErr [66, 45, 14, 9] = 0 := by decide
  have e2 : pcN [66, 45, 14, 9] = 3 := by decide
  have e3 : (pcL [66, 45, 14, 9]).length = 2 := by decide
  have e4 : (connL [55]).length = 1 := by decide
  have e5 : (connL [24]).length = 2 := by decide
  have e6 : ∀ x l, l = 0 ∨ l = 1 → (kV g x l [] 16).length = 16 ∧ (kV g x l [] 8).length = 8 := by
    intro x l hl'
    unfold kV
    rw [kErr0 (by omega) (by simp), kErr0 (by omega) (by simp), if_pos rfl, if_pos rfl]
    exact ⟨expE_len hl _ _ rfl, expE_len hl _ _ rfl⟩
  have e7 := (e6 (expO g [1]) 0 (by omega)).1
  have e8 := (e6 (expO g [1]) 1 (by omega)).2
  rcases Bool.eq_false_or_eq_true (Bool.true) with hc0 | hc0
  · rcases Bool.eq_false_or_eq_true (Bool.true) with hc1 | hc1
    · rcases Bool.eq_false_or_eq_true (Bool.true) with hc2 | hc2
      · rcases Bool.eq_false_or_eq_true (Bool.true) with hc3 | hc3
        · rcases Bool.eq_false_or_eq_true (Bool.true) with hc4 | hc4
          · rcases Bool.eq_false_or_eq_true ((Go.Eng.B.kV g (Go.Eng.B.expO g [(1 : Nat)]) (0 : Int) [] (16 : Int)).length == (16 : Nat)) with hc5 | hc5
            · have hd5 := eq_of_beq hc5
              refine hold_endw mixed (okT5b hg hh) (unroll := true) (f := 300) (sc := [true, true, true, true, true, true]) (r := (Go.Eng.SV.b ((Go.Eng.B.kV g (Go.Eng.B.expO g [(1 : Nat)]) (1 : Int) [] (8 : Int)).length == (8 : Nat)))) (ob := [(4 : Nat) ≤ (1000000 : Nat), (1 : Nat) ≤ (900000 : Nat), Bool.true = Bool.true, Bool.true = Bool.true, Bool.true = Bool.true, (1 : Nat) ≤ (100000 : Nat), Bool.true = Bool.true, (1 : Nat) ≤ (100000 : Nat), Bool.true = Bool.true, ((Go.Eng.B.kV g (Go.Eng.B.expO g [(1 : Nat)]) (0 : Int) [] (16 : Int)).length == (16 : Nat)) = Bool.true]) (sc' := []) (by kernel_rfl) ?_ ?_
              · exact ⟨(by first | omega | with_reducible trivial | decide), (by first | omega | with_reducible trivial | decide), hc0, hc1, hc2, (by first | omega | with_reducible trivial | decide), hc3, (by first | omega | with_reducible trivial | decide), hc4, hc5, trivial⟩
              · first | (exfalso; simp_all; done) | (simp_all [wkR, wk, wk0]; done)
            · have hd5 := ne_of_beq_false hc5
              refine hold_endw mixed (okT5b hg hh) (unroll := true) (f := 300) (sc := [true, true, true, true, true, false]) (r := (Go.Eng.SV.cb Bool.false)) (ob := [(4 : Nat) ≤ (1000000 : Nat), (1 : Nat) ≤ (900000 : Nat), Bool.true = Bool.true, Bool.true = Bool.true, Bool.true = Bool.true, (1 : Nat) ≤ (100000 : Nat), Bool.true = Bool.true, (1 : Nat) ≤ (100000 : Nat), Bool.true = Bool.true, ((Go.Eng.B.kV g (Go.Eng.B.expO g [(1 : Nat)]) (0 : Int) [] (16 : Int)).length == (16 : Nat)) = Bool.false]) (sc' := []) (by kernel_rfl) ?_ ?_
              · exact ⟨(by first | omega | with_reducible trivial | decide), (by first | omega | with_reducible trivial | decide), hc0, hc1, hc2, (by first | omega | with_reducible trivial | decide), hc3, (by first | omega | with_reducible trivial | decide), hc4, hc5, trivial⟩
              · first | (exfalso; simp_all; done) | (simp_all [wkR, wk, wk0]; done)
          · exact Bool.noConfusion hc4
        · exact Bool.noConfusion hc3
      · exact Bool.noConfusion hc2
    · exact Bool.noConfusion hc1
  · exact Bool.noConfusion hc0
theorem okT5 : CtrOk Try.prog (T5 g h) := addC_ok (okT5b hg hh) (eT_ok (awake23_c hg hh))
end
theorem allB2_le {a b : List Nat} (h : allB [a, b] = true) : a.length ≤ 900 ∧ b.length ≤ 900 := by
  simpa [allB] using h
theorem allB3_le {a b c : List Nat} (h : allB [a, b, c] = true) : a.length ≤ 900 ∧ b.length ≤ 900 ∧ c.length ≤ 900 := by
  simpa [allB] using h
theorem allB5_le {a b c d e : List Nat} (h : allB [a, b, c, d, e] = true) : a.length ≤ 900 ∧ b.length ≤ 900 ∧ c.length ≤ 900 ∧ d.length ≤ 900 ∧ e.length ≤ 900 := by
  simpa [allB] using h
end Go.Eng.B

