import Derived.Test.YtlcjoglbppfnhaaE2
import Derived.WideShapes
import Derived.OpenShut
import Derived.ChangeSlices
import Derived.RowKit
/- suite.Info; lists that decks give; the examples. -/
namespace Go.Eng.B
open Go Go.Eng Go.Proofs
def inf (n a b : Int) : Int := if n = 0 then a else if n = 1 then b else 0
def infI (n : Int) : Int := if 0 ≤ n ∧ n ≤ 3 then n else 0
def gInfo (n : Int) : SV := .tup [.ag [.i .i64 (infI n), .i .i64 (inf n 10 30), .i .i64 (inf n 8 16), .i .i64 (inf n 8 16), .i .i64 (inf n 32 32), .i .i64 (inf n 16 16), .i .i64 (inf n 13 13), .i .i64 (inf n 10 10), .b (decide (n = 0 ∨ n = 1))], .b (decide (0 ≤ n ∧ n ≤ 3))]
section
variable {w0 : World} {S : Own} {res : SV}
theorem cInfo (n : Int) : Contract Try.prog 19 [.i .i64 n] (gInfo n) := by
  refine contract Try.func19 (body := bodyOf Try.f19) rfl (by kernel_rfl) (by kernel_rfl) rfl ?_
  rintro _ w0 S
  have h3 : n ≠ 0 → n ≠ 1 → n ≠ 2 → n ≠ 3 → ¬ (0 ≤ n ∧ n ≤ 3) := fun a b c d => by omega
  rcases Bool.eq_false_or_eq_true (n == (0 : Int)) with hc0 | hc0
  · refine hold_endw mixed okL3 (unroll := true) (f := 100) (sc := [true]) (r := (Go.Eng.SV.tup [Go.Eng.SV.ag [Go.Eng.SV.i Go.IntKind.i64 n, Go.Eng.SV.c Go.IntKind.i64 (10 : Int), Go.Eng.SV.c Go.IntKind.i64 (8 : Int), Go.Eng.SV.c Go.IntKind.i64 (8 : Int), Go.Eng.SV.c Go.IntKind.i64 (32 : Int), Go.Eng.SV.c Go.IntKind.i64 (16 : Int), Go.Eng.SV.c Go.IntKind.i64 (13 : Int), Go.Eng.SV.c Go.IntKind.i64 (10 : Int), Go.Eng.SV.cb Bool.true], Go.Eng.SV.cb Bool.true])) (ob := [(n == (0 : Int)) = Bool.true]) (sc' := []) (by kernel_rfl) ?_ ?_
    · exact ⟨hc0, trivial⟩
    · simp_all [wkR, wkl, wk, wk0, wka, gInfo, infI, inf]; try omega
  · rcases Bool.eq_false_or_eq_true (n == (1 : Int)) with hc1 | hc1
    · refine hold_endw mixed okL3 (unroll := true) (f := 100) (sc := [false, true]) (r := (Go.Eng.SV.tup [Go.Eng.SV.ag [Go.Eng.SV.i Go.IntKind.i64 n, Go.Eng.SV.c Go.IntKind.i64 (30 : Int), Go.Eng.SV.c Go.IntKind.i64 (16 : Int), Go.Eng.SV.c Go.IntKind.i64 (16 : Int), Go.Eng.SV.c Go.IntKind.i64 (32 : Int), Go.Eng.SV.c Go.IntKind.i64 (16 : Int), Go.Eng.SV.c Go.IntKind.i64 (13 : Int), Go.Eng.SV.c Go.IntKind.i64 (10 : Int), Go.Eng.SV.cb Bool.true], Go.Eng.SV.cb Bool.true])) (ob := [(n == (0 : Int)) = Bool.false, (n == (1 : Int)) = Bool.true]) (sc' := []) (by kernel_rfl) ?_ ?_
      · exact ⟨hc0, hc1, trivial⟩
      · simp_all [wkR, wkl, wk, wk0, wka, gInfo, infI, inf]; try omega
    · rcases Bool.eq_false_or_eq_true (n == (2 : Int)) with hc2 | hc2
      · rcases Bool.eq_false_or_eq_true (n == (2 : Int)) with hc3 | hc3
        · refine hold_endw mixed okL3 (unroll := true) (f := 100) (sc := [false, false, true, true]) (r := (Go.Eng.SV.tup [Go.Eng.SV.ag [Go.Eng.SV.i Go.IntKind.i64 n, Go.Eng.SV.c Go.IntKind.i64 (0 : Int), Go.Eng.SV.c Go.IntKind.i64 (0 : Int), Go.Eng.SV.c Go.IntKind.i64 (0 : Int), Go.Eng.SV.c Go.IntKind.i64 (0 : Int), Go.Eng.SV.c Go.IntKind.i64 (0 : Int), Go.Eng.SV.c Go.IntKind.i64 (0 : Int), Go.Eng.SV.c Go.IntKind.i64 (0 : Int), Go.Eng.SV.cb Bool.false], Go.Eng.SV.cb Bool.true])) (ob := [(n == (0 : Int)) = Bool.false, (n == (1 : Int)) = Bool.false, (n == (2 : Int)) = Bool.true, (n == (2 : Int)) = Bool.true]) (sc' := []) (by kernel_rfl) ?_ ?_
          · exact ⟨hc0, hc1, hc2, hc3, trivial⟩
          · simp_all [wkR, wkl, wk, wk0, wka, gInfo, infI, inf]; try omega
        · refine hold_endw mixed okL3 (unroll := true) (f := 100) (sc := [false, false, true, false]) (r := (Go.Eng.SV.tup [Go.Eng.SV.ag [Go.Eng.SV.c Go.IntKind.i64 (0 : Int), Go.Eng.SV.c Go.IntKind.i64 (0 : Int), Go.Eng.SV.c Go.IntKind.i64 (0 : Int), Go.Eng.SV.c Go.IntKind.i64 (0 : Int), Go.Eng.SV.c Go.IntKind.i64 (0 : Int), Go.Eng.SV.c Go.IntKind.i64 (0 : Int), Go.Eng.SV.c Go.IntKind.i64 (0 : Int), Go.Eng.SV.c Go.IntKind.i64 (0 : Int), Go.Eng.SV.cb Bool.false], Go.Eng.SV.cb Bool.false])) (ob := [(n == (0 : Int)) = Bool.false, (n == (1 : Int)) = Bool.false, (n == (2 : Int)) = Bool.true, (n == (2 : Int)) = Bool.false]) (sc' := []) (by kernel_rfl) ?_ ?_
          · exact ⟨hc0, hc1, hc2, hc3, trivial⟩
          · simp_all [wkR, wkl, wk, wk0, wka, gInfo, infI, inf]; try omega
      · rcases Bool.eq_false_or_eq_true (n == (3 : Int)) with hc3 | hc3
        · refine hold_endw mixed okL3 (unroll := true) (f := 100) (sc := [false, false, false, true]) (r := (Go.Eng.SV.tup [Go.Eng.SV.ag [Go.Eng.SV.i Go.IntKind.i64 n, Go.Eng.SV.c Go.IntKind.i64 (0 : Int), Go.Eng.SV.c Go.IntKind.i64 (0 : Int), Go.Eng.SV.c Go.IntKind.i64 (0 : Int), Go.Eng.SV.c Go.IntKind.i64 (0 : Int), Go.Eng.SV.c Go.IntKind.i64 (0 : Int), Go.Eng.SV.c Go.IntKind.i64 (0 : Int), Go.Eng.SV.c Go.IntKind.i64 (0 : Int), Go.Eng.SV.cb Bool.false], Go.Eng.SV.cb Bool.true])) (ob := [(n == (0 : Int)) = Bool.false, (n == (1 : Int)) = Bool.false, (n == (2 : Int)) = Bool.false, (n == (3 : Int)) = Bool.true]) (sc' := []) (by kernel_rfl) ?_ ?_
          · exact ⟨hc0, hc1, hc2, hc3, trivial⟩
          · simp_all [wkR, wkl, wk, wk0, wka, gInfo, infI, inf]; try omega
        · refine hold_endw mixed okL3 (unroll := true) (f := 100) (sc := [false, false, false, false]) (r := (Go.Eng.SV.tup [Go.Eng.SV.ag [Go.Eng.SV.c Go.IntKind.i64 (0 : Int), Go.Eng.SV.c Go.IntKind.i64 (0 : Int), Go.Eng.SV.c Go.IntKind.i64 (0 : Int), Go.Eng.SV.c Go.IntKind.i64 (0 : Int), Go.Eng.SV.c Go.IntKind.i64 (0 : Int), Go.Eng.SV.c Go.IntKind.i64 (0 : Int), Go.Eng.SV.c Go.IntKind.i64 (0 : Int), Go.Eng.SV.c Go.IntKind.i64 (0 : Int), Go.Eng.SV.cb Bool.false], Go.Eng.SV.cb Bool.false])) (ob := [(n == (0 : Int)) = Bool.false, (n == (1 : Int)) = Bool.false, (n == (2 : Int)) = Bool.false, (n == (3 : Int)) = Bool.false]) (sc' := []) (by kernel_rfl) ?_ ?_
          · exact ⟨hc0, hc1, hc2, hc3, trivial⟩
          · simp_all [wkR, wkl, wk, wk0, wka, gInfo, infI, inf]; try omega
theorem cRInfo (n : Int) : Contract Try.prog 20 [.i .i64 n] (gInfo n) := by
  refine contract Try.func20 (body := bodyOf Try.f20) rfl (by kernel_rfl) (by kernel_rfl) rfl ?_
  rintro _ w0 S
  have h3 : n ≠ 0 → n ≠ 1 → n ≠ 2 → n ≠ 3 → ¬ (0 ≤ n ∧ n ≤ 3) := fun a b c d => by omega
  rcases Bool.eq_false_or_eq_true (n == (0 : Int)) with hc0 | hc0
  · refine hold_endw mixed okL3 (unroll := true) (f := 100) (sc := [true]) (r := (Go.Eng.SV.tup [Go.Eng.SV.ag [Go.Eng.SV.i Go.IntKind.i64 n, Go.Eng.SV.c Go.IntKind.i64 (10 : Int), Go.Eng.SV.c Go.IntKind.i64 (8 : Int), Go.Eng.SV.c Go.IntKind.i64 (8 : Int), Go.Eng.SV.c Go.IntKind.i64 (32 : Int), Go.Eng.SV.c Go.IntKind.i64 (16 : Int), Go.Eng.SV.c Go.IntKind.i64 (13 : Int), Go.Eng.SV.c Go.IntKind.i64 (10 : Int), Go.Eng.SV.cb Bool.true], Go.Eng.SV.cb Bool.true])) (ob := [(n == (0 : Int)) = Bool.true]) (sc' := []) (by kernel_rfl) ?_ ?_
    · exact ⟨hc0, trivial⟩
    · simp_all [wkR, wkl, wk, wk0, wka, gInfo, infI, inf]; try omega
  · rcases Bool.eq_false_or_eq_true (n == (1 : Int)) with hc1 | hc1
    · refine hold_endw mixed okL3 (unroll := true) (f := 100) (sc := [false, true]) (r := (Go.Eng.SV.tup [Go.Eng.SV.ag [Go.Eng.SV.i Go.IntKind.i64 n, Go.Eng.SV.c Go.IntKind.i64 (30 : Int), Go.Eng.SV.c Go.IntKind.i64 (16 : Int), Go.Eng.SV.c Go.IntKind.i64 (16 : Int), Go.Eng.SV.c Go.IntKind.i64 (32 : Int), Go.Eng.SV.c Go.IntKind.i64 (16 : Int), Go.Eng.SV.c Go.IntKind.i64 (13 : Int), Go.Eng.SV.c Go.IntKind.i64 (10 : Int), Go.Eng.SV.cb Bool.true], Go.Eng.SV.cb Bool.true])) (ob := [(n == (0 : Int)) = Bool.false, (n == (1 : Int)) = Bool.true]) (sc' := []) (by kernel_rfl) ?_ ?_
      · exact ⟨hc0, hc1, trivial⟩
      · simp_all [wkR, wkl, wk, wk0, wka, gInfo, infI, inf]; try omega
    · rcases Bool.eq_false_or_eq_true (n == (2 : Int)) with hc2 | hc2
      · rcases Bool.eq_false_or_eq_true (n == (2 : Int)) with hc3 | hc3
        · refine hold_endw mixed okL3 (unroll := true) (f := 100) (sc := [false, false, true, true]) (r := (Go.Eng.SV.tup [Go.Eng.SV.ag [Go.Eng.SV.i Go.IntKind.i64 n, Go.Eng.SV.c Go.IntKind.i64 (0 : Int), Go.Eng.SV.c Go.IntKind.i64 (0 : Int), Go.Eng.SV.c Go.IntKind.i64 (0 : Int), Go.Eng.SV.c Go.IntKind.i64 (0 : Int), Go.Eng.SV.c Go.IntKind.i64 (0 : Int), Go.Eng.SV.c Go.IntKind.i64 (0 : Int), Go.Eng.SV.c Go.IntKind.i64 (0 : Int), Go.Eng.SV.cb Bool.false], Go.Eng.SV.cb Bool.true])) (ob := [(n == (0 : Int)) = Bool.false, (n == (1 : Int)) = Bool.false, (n == (2 : Int)) = Bool.true, (n == (2 : Int)) = Bool.true]) (sc' := []) (by kernel_rfl) ?_ ?_
          · exact ⟨hc0, hc1, hc2, hc3, trivial⟩
          · simp_all [wkR, wkl, wk, wk0, wka, gInfo, infI, inf]; try omega
        · refine hold_endw mixed okL3 (unroll := true) (f := 100) (sc := [false, false, true, false]) (r := (Go.Eng.SV.tup [Go.Eng.SV.ag [Go.Eng.SV.c Go.IntKind.i64 (0 : Int), Go.Eng.SV.c Go.IntKind.i64 (0 : Int), Go.Eng.SV.c Go.IntKind.i64 (0 : Int), Go.Eng.SV.c Go.IntKind.i64 (0 : Int), Go.Eng.SV.c Go.IntKind.i64 (0 : Int), Go.Eng.SV.c Go.IntKind.i64 (0 : Int), Go.Eng.SV.c Go.IntKind.i64 (0 : Int), Go.Eng.SV.c Go.IntKind.i64 (0 : Int), Go.Eng.SV.cb Bool.false], Go.Eng.SV.cb Bool.false])) (ob := [(n == (0 : Int)) = Bool.false, (n == (1 : Int)) = Bool.false, (n == (2 : Int)) = Bool.true, (n == (2 : Int)) = Bool.false]) (sc' := []) (by kernel_rfl) ?_ ?_
          · exact ⟨hc0, hc1, hc2, hc3, trivial⟩
          · simp_all [wkR, wkl, wk, wk0, wka, gInfo, infI, inf]; try omega
      · rcases Bool.eq_false_or_eq_true (n == (3 : Int)) with hc3 | hc3
        · refine hold_endw mixed okL3 (unroll := true) (f := 100) (sc := [false, false, false, true]) (r := (Go.Eng.SV.tup [Go.Eng.SV.ag [Go.Eng.SV.i Go.IntKind.i64 n, Go.Eng.SV.c Go.IntKind.i64 (0 : Int), Go.Eng.SV.c Go.IntKind.i64 (0 : Int), Go.Eng.SV.c Go.IntKind.i64 (0 : Int), Go.Eng.SV.c Go.IntKind.i64 (0 : Int), Go.Eng.SV.c Go.IntKind.i64 (0 : Int), Go.Eng.SV.c Go.IntKind.i64 (0 : Int), Go.Eng.SV.c Go.IntKind.i64 (0 : Int), Go.Eng.SV.cb Bool.false], Go.Eng.SV.cb Bool.true])) (ob := [(n == (0 : Int)) = Bool.false, (n == (1 : Int)) = Bool.false, (n == (2 : Int)) = Bool.false, (n == (3 : Int)) = Bool.true]) (sc' := []) (by kernel_rfl) ?_ ?_
          · exact ⟨hc0, hc1, hc2, hc3, trivial⟩
          · simp_all [wkR, wkl, wk, wk0, wka, gInfo, infI, inf]; try omega
        · refine hold_endw mixed okL3 (unroll := true) (f := 100) (sc := [false, false, false, false]) (r := (Go.Eng.SV.tup [Go.Eng.SV.ag [Go.Eng.SV.c Go.IntKind.i64 (0 : Int), Go.Eng.SV.c Go.IntKind.i64 (0 : Int), Go.Eng.SV.c Go.IntKind.i64 (0 : Int), Go.Eng.SV.c Go.IntKind.i64 (0 : Int), Go.Eng.SV.c Go.IntKind.i64 (0 : Int), Go.Eng.SV.c Go.IntKind.i64 (0 : Int), Go.Eng.SV.c Go.IntKind.i64 (0 : Int), Go.Eng.SV.c Go.IntKind.i64 (0 : Int), Go.Eng.SV.cb Bool.false], Go.Eng.SV.cb Bool.false])) (ob := [(n == (0 : Int)) = Bool.false, (n == (1 : Int)) = Bool.false, (n == (2 : Int)) = Bool.false, (n == (3 : Int)) = Bool.false]) (sc' := []) (by kernel_rfl) ?_ ?_
          · exact ⟨hc0, hc1, hc2, hc3, trivial⟩
          · simp_all [wkR, wkl, wk, wk0, wka, gInfo, infI, inf]; try omega
theorem cAwake : Contract Try.prog 8 [] (.b true) := by
  refine contract Try.func8 (body := bodyOf Try.f8) rfl (by kernel_rfl) (by kernel_rfl) rfl ?_
  rintro _ w0 S
  refine hold_endw mixed okL3 (unroll := true) (f := 200) (sc := [true, true, true, true, true, true]) (r := (Go.Eng.SV.b Bool.true)) (ob := [Bool.true = Bool.true, Bool.true = Bool.true, (1 : Nat) < (2 : Nat), Bool.true = Bool.true, Bool.true = Bool.true, Bool.true = Bool.true, Bool.true = Bool.true]) (sc' := []) (by kernel_rfl) ?_ ?_
  · exact ⟨rfl, rfl, by decide, rfl, rfl, rfl, rfl, trivial⟩
  · exact wkR_of rfl
def stepL (l : List Int) (acc : List Int) (at' : Nat) : List Int × Nat :=
  let n : Int := nextV l at' 7
  let a1 := nextA l at'
  if acc.any (fun x => x == n) = false then (acc ++ [n], a1) else if nextV l a1 9 = 8 then (acc ++ [n], nextA l a1) else (acc, nextA l a1)
def listN (l : List Int) : Nat → List Int → Nat → List Int × Nat
  | 0, acc, at' => (acc, at')
  | k + 1, acc, at' => listN l k (stepL l acc at').1 (stepL l acc at').2
def listP (l : List Int) : List Int × Nat := listN l (nextV l 0 10) [] (nextA l 0)
def listV (l : List Int) : List Int := (listP l).1
def sLs (l acc : List Int) (at' k : Nat) : St := ⟨42, [(0, .ptr 0 0 (.c 0)), (3, .row 1 (.sli acc)), (4, .u .i64 k)], [(1, ⟨3, [], true⟩), (0, ⟨55, [.sli l, .u .i64 at'], false⟩)], 4, 1⟩
def sLi (l acc : List Int) (at' k i : Nat) (n : Int) (y : Bool) : St := ⟨42, [(0, .ptr 0 0 (.c 0)), (3, .row 1 (.sli acc)), (4, .u .i64 k), (5, .i .i64 n), (6, .b y), (17, .row 1 (.sli acc)), (18, .u .i64 acc.length), (19, .u .i64 i)], [(1, ⟨3, [], true⟩), (0, ⟨55, [.sli l, .u .i64 at'], false⟩)], 4, 1⟩
end
end Go.Eng.B

/- coreseclaw22.list. -/
namespace Go.Eng.B
open Go Go.Eng Go.Proofs
def stLo : List It := [.lp [0, 1, 0, 1, 1], .blk 0, .at [1, 1, 1]]
def stLi : List It := [.lp [0, 1, 0, 1, 1, 0, 0, 1, 0, 0, 1, 0, 1, 1], .blk 2, .at [1, 1, 1, 0, 0, 1, 0, 0, 1, 0, 1, 1], .blk 1, .at [1, 1, 0, 0, 1, 0, 1, 1], .lp [0, 1, 0, 1, 1], .blk 0, .at [1, 1, 1]]
section
variable {F : Fr} {S : Own} {res : MRes}
theorem any_take {acc : List Int} {n : Int} {i : Nat} (h : i < acc.length) : (acc.take (i + 1)).any (fun x => x == n) = ((acc.take i).any (fun x => x == n) || acc.getD i 0 == n) := by
  rw [List.take_add_one, List.any_append, List.getD_eq_getElem?_getD, List.getElem?_eq_getElem h]
  simp
theorem li_in (l acc : List Int) (a1 k : Nat) (n : Nat) (hk0 : 0 < k) (hkl : k ≤ 10) (hn : n < 9223372036854775808) (ha : acc.length ≤ 20)
    (hk : ∀ (acc' : List Int) (at' : Nat), (acc.any (fun x => x == (n : Int)) = false ∧ acc' = acc ++ [(n : Int)] ∧ at' = a1 ∨ acc.any (fun x => x == (n : Int)) = true ∧ nextV l a1 9 = 8 ∧ acc' = acc ++ [(n : Int)] ∧ at' = nextA l a1 ∨ acc.any (fun x => x == (n : Int)) = true ∧ nextV l a1 9 ≠ 8 ∧ acc' = acc ∧ at' = nextA l a1) →
      Hold Try.prog (bodyOf Try.f9) (FinM Try.prog Try.f9 F S res) F S stLo (sLs l acc' at' (k - 1))) :
    ∀ d i, acc.length - i = d → i ≤ acc.length → Hold Try.prog (bodyOf Try.f9) (FinM Try.prog Try.f9 F S res) F S stLi (sLi l acc a1 k i n ((acc.take i).any fun x => x == (n : Int))) := by
  intro d
  induction d using Nat.strongRecOn with
  | _ d ih =>
  intro i hd hi
  have hfull : ¬ i < acc.length → (acc.take i).any (fun x => x == (n : Int)) = acc.any (fun x => x == (n : Int)) := fun h => by rw [List.take_of_length_le (by omega)]
  refine hold_unroll (c := _) rfl ?_
  rcases Bool.eq_false_or_eq_true (Decidable.decide (i < acc.length)) with hc0 | hc0
  · have hd0 := of_decide_eq_true hc0
    rcases Bool.eq_false_or_eq_true ((List.take i acc).any fun x => x == (↑n : Int)) with hc1 | hc1
    · refine hold_cut mixed okL3 (unroll := false) (f := 100) (sc := [true, true]) (ks := [0,3,4,5,6,17,18,19]) (bs := [1,0]) (nx := 4) (st' := [Go.Eng.It.lp [(0 : Nat), (1 : Nat), (0 : Nat), (1 : Nat), (1 : Nat), (0 : Nat), (0 : Nat), (1 : Nat), (0 : Nat), (0 : Nat), (1 : Nat), (0 : Nat), (1 : Nat), (1 : Nat)], Go.Eng.It.blk (2 : Nat), Go.Eng.It.at [(1 : Nat), (1 : Nat), (1 : Nat), (0 : Nat), (0 : Nat), (1 : Nat), (0 : Nat), (0 : Nat), (1 : Nat), (0 : Nat), (1 : Nat), (1 : Nat)], Go.Eng.It.blk (1 : Nat), Go.Eng.It.at [(1 : Nat), (1 : Nat), (0 : Nat), (0 : Nat), (1 : Nat), (0 : Nat), (1 : Nat), (1 : Nat)], Go.Eng.It.lp [(0 : Nat), (1 : Nat), (0 : Nat), (1 : Nat), (1 : Nat)], Go.Eng.It.blk (0 : Nat), Go.Eng.It.at [(1 : Nat), (1 : Nat), (1 : Nat)]]) (σ' := { nt := (42 : Nat), slots := [((0 : Nat), Go.Eng.SV.ptr (0 : Nat) (0 : Nat) (Go.Eng.Ix.c (0 : Nat))), ((3 : Nat), Go.Eng.SV.row (1 : Nat) (Go.Eng.SV.sli acc)), ((4 : Nat), Go.Eng.SV.u Go.IntKind.i64 k), ((5 : Nat), Go.Eng.SV.i Go.IntKind.i64 (↑n : Int)), ((6 : Nat), Go.Eng.SV.cb Bool.true), ((17 : Nat), Go.Eng.SV.row (1 : Nat) (Go.Eng.SV.sli acc)), ((18 : Nat), Go.Eng.SV.u Go.IntKind.i64 acc.length), ((19 : Nat), Go.Eng.SV.u Go.IntKind.i64 (i + (1 : Nat)))], blks := [((1 : Nat), { ty := (3 : Nat), segs := [], row := Bool.true }), ((0 : Nat), { ty := (55 : Nat), segs := [Go.Eng.SV.sli l, Go.Eng.SV.u Go.IntKind.i64 a1] })], next := (4 : Nat), m := (1 : Nat) }) (ob := [Decidable.decide (i < acc.length) = Bool.true, i < acc.length, ((List.take i acc).any fun x => x == (↑n : Int)) = Bool.true, i + (1 : Nat) < (9223372036854775808 : Nat)]) (sc' := []) (by kernel_rfl) ?_ ?_
      · exact ⟨hc0, (by first | omega | assumption | (simp [slenD, SV.slen]; omega) | (simp [inR, lo, lim]; omega) | trivial), hc1, (by first | omega | assumption | (simp [slenD, SV.slen]; omega) | (simp [inR, lo, lim]; omega) | trivial), trivial⟩
      · first | (have e := ih (acc.length - (i + 1)) (by omega) (i + 1) rfl (by omega); rw [any_take (by omega), hc1] at e; exact Hold.weaken e (by simp [wks, wk, wk0, sLi])) | (have e := hfull (by omega); exact hold_restrict (ks := [0,3,4]) (bs := [1,0]) (nx := 4) rfl (Hold.weaken (hk (acc ++ [(n : Int)]) a1 (.inl ⟨by rw [← e]; simpa using hc1, rfl, rfl⟩)) (by simp only [wks, wk, wk0, wka, lim, true_and, and_true]; omega))) | (have e := hfull (by omega); exact hold_restrict (ks := [0,3,4]) (bs := [1,0]) (nx := 4) rfl (Hold.weaken (hk (acc ++ [(n : Int)]) (nextA l a1) (.inr (.inl ⟨by rw [← e]; simpa using hc1, by simpa using hc2, rfl, rfl⟩))) (by simp only [wks, wk, wk0, wka, lim, true_and, and_true]; omega))) | (have e := hfull (by omega); exact hold_restrict (ks := [0,3,4]) (bs := [1,0]) (nx := 4) rfl (Hold.weaken (hk acc (nextA l a1) (.inr (.inr ⟨by rw [← e]; simpa using hc1, by simpa using hc2, rfl, rfl⟩))) (by simp only [wks, wk, wk0, wka, lim, true_and, and_true]; omega)))
    · refine hold_cut mixed okL3 (unroll := false) (f := 100) (sc := [true, false]) (ks := [0,3,4,5,6,17,18,19]) (bs := [1,0]) (nx := 4) (st' := [Go.Eng.It.lp [(0 : Nat), (1 : Nat), (0 : Nat), (1 : Nat), (1 : Nat), (0 : Nat), (0 : Nat), (1 : Nat), (0 : Nat), (0 : Nat), (1 : Nat), (0 : Nat), (1 : Nat), (1 : Nat)], Go.Eng.It.blk (2 : Nat), Go.Eng.It.at [(1 : Nat), (1 : Nat), (1 : Nat), (0 : Nat), (0 : Nat), (1 : Nat), (0 : Nat), (0 : Nat), (1 : Nat), (0 : Nat), (1 : Nat), (1 : Nat)], Go.Eng.It.blk (1 : Nat), Go.Eng.It.at [(1 : Nat), (1 : Nat), (0 : Nat), (0 : Nat), (1 : Nat), (0 : Nat), (1 : Nat), (1 : Nat)], Go.Eng.It.lp [(0 : Nat), (1 : Nat), (0 : Nat), (1 : Nat), (1 : Nat)], Go.Eng.It.blk (0 : Nat), Go.Eng.It.at [(1 : Nat), (1 : Nat), (1 : Nat)]]) (σ' := { nt := (42 : Nat), slots := [((0 : Nat), Go.Eng.SV.ptr (0 : Nat) (0 : Nat) (Go.Eng.Ix.c (0 : Nat))), ((3 : Nat), Go.Eng.SV.row (1 : Nat) (Go.Eng.SV.sli acc)), ((4 : Nat), Go.Eng.SV.u Go.IntKind.i64 k), ((5 : Nat), Go.Eng.SV.i Go.IntKind.i64 (↑n : Int)), ((6 : Nat), Go.Eng.SV.b (acc.getD i (0 : Int) == (↑n : Int))), ((17 : Nat), Go.Eng.SV.row (1 : Nat) (Go.Eng.SV.sli acc)), ((18 : Nat), Go.Eng.SV.u Go.IntKind.i64 acc.length), ((19 : Nat), Go.Eng.SV.u Go.IntKind.i64 (i + (1 : Nat)))], blks := [((1 : Nat), { ty := (3 : Nat), segs := [], row := Bool.true }), ((0 : Nat), { ty := (55 : Nat), segs := [Go.Eng.SV.sli l, Go.Eng.SV.u Go.IntKind.i64 a1] })], next := (4 : Nat), m := (1 : Nat) }) (ob := [Decidable.decide (i < acc.length) = Bool.true, i < acc.length, ((List.take i acc).any fun x => x == (↑n : Int)) = Bool.false, i + (1 : Nat) < (9223372036854775808 : Nat)]) (sc' := []) (by kernel_rfl) ?_ ?_
      · exact ⟨hc0, (by first | omega | assumption | (simp [slenD, SV.slen]; omega) | (simp [inR, lo, lim]; omega) | trivial), hc1, (by first | omega | assumption | (simp [slenD, SV.slen]; omega) | (simp [inR, lo, lim]; omega) | trivial), trivial⟩
      · first | (have e := ih (acc.length - (i + 1)) (by omega) (i + 1) rfl (by omega); rw [any_take (by omega), hc1] at e; exact Hold.weaken e (by simp [wks, wk, wk0, sLi])) | (have e := hfull (by omega); exact hold_restrict (ks := [0,3,4]) (bs := [1,0]) (nx := 4) rfl (Hold.weaken (hk (acc ++ [(n : Int)]) a1 (.inl ⟨by rw [← e]; simpa using hc1, rfl, rfl⟩)) (by simp only [wks, wk, wk0, wka, lim, true_and, and_true]; omega))) | (have e := hfull (by omega); exact hold_restrict (ks := [0,3,4]) (bs := [1,0]) (nx := 4) rfl (Hold.weaken (hk (acc ++ [(n : Int)]) (nextA l a1) (.inr (.inl ⟨by rw [← e]; simpa using hc1, by simpa using hc2, rfl, rfl⟩))) (by simp only [wks, wk, wk0, wka, lim, true_and, and_true]; omega))) | (have e := hfull (by omega); exact hold_restrict (ks := [0,3,4]) (bs := [1,0]) (nx := 4) rfl (Hold.weaken (hk acc (nextA l a1) (.inr (.inr ⟨by rw [← e]; simpa using hc1, by simpa using hc2, rfl, rfl⟩))) (by simp only [wks, wk, wk0, wka, lim, true_and, and_true]; omega)))
  · have hd0 := of_decide_eq_false hc0
    rcases Bool.eq_false_or_eq_true (!(List.take i acc).any fun x => x == (↑n : Int)) with hc1 | hc1
    · refine hold_cut mixed okL3 (unroll := false) (f := 100) (sc := [false, true]) (ks := [0,3,4,5,6,17,18,19]) (bs := [1,0]) (nx := 4) (st' := [Go.Eng.It.lp [(0 : Nat), (1 : Nat), (0 : Nat), (1 : Nat), (1 : Nat)], Go.Eng.It.blk (0 : Nat), Go.Eng.It.at [(1 : Nat), (1 : Nat), (1 : Nat)]]) (σ' := { nt := (42 : Nat), slots := [((0 : Nat), Go.Eng.SV.ptr (0 : Nat) (0 : Nat) (Go.Eng.Ix.c (0 : Nat))), ((3 : Nat), Go.Eng.SV.row (1 : Nat) (Go.Eng.SV.sli (acc ++ [(↑n : Int)]))), ((4 : Nat), Go.Eng.SV.i Go.IntKind.i64 ((↑k : Int) - (1 : Int))), ((5 : Nat), Go.Eng.SV.i Go.IntKind.i64 (↑n : Int)), ((6 : Nat), Go.Eng.SV.b ((List.take i acc).any fun x => x == (↑n : Int))), ((17 : Nat), Go.Eng.SV.sli acc), ((18 : Nat), Go.Eng.SV.u Go.IntKind.i64 acc.length), ((19 : Nat), Go.Eng.SV.u Go.IntKind.i64 i)], blks := [((1 : Nat), { ty := (3 : Nat), segs := [], row := Bool.true }), ((0 : Nat), { ty := (55 : Nat), segs := [Go.Eng.SV.sli l, Go.Eng.SV.u Go.IntKind.i64 a1] })], next := (4 : Nat), m := (1 : Nat) }) (ob := [Decidable.decide (i < acc.length) = Bool.false, (!(List.take i acc).any fun x => x == (↑n : Int)) = Bool.true, Go.Eng.slenD (Go.Eng.SV.sli (acc ++ [(↑n : Int)])) * (8 : Nat) ≤ (140737488355328 : Nat)]) (sc' := []) (by kernel_rfl) ?_ ?_
      · exact ⟨hc0, hc1, (by first | omega | assumption | (simp [slenD, SV.slen]; omega) | (simp [inR, lo, lim]; omega) | trivial), trivial⟩
      · first | (have e := ih (acc.length - (i + 1)) (by omega) (i + 1) rfl (by omega); rw [any_take (by omega), hc1] at e; exact Hold.weaken e (by simp [wks, wk, wk0, sLi])) | (have e := hfull (by omega); exact hold_restrict (ks := [0,3,4]) (bs := [1,0]) (nx := 4) rfl (Hold.weaken (hk (acc ++ [(n : Int)]) a1 (.inl ⟨by rw [← e]; simpa using hc1, rfl, rfl⟩)) (by simp only [wks, wk, wk0, wka, lim, true_and, and_true]; omega))) | (have e := hfull (by omega); exact hold_restrict (ks := [0,3,4]) (bs := [1,0]) (nx := 4) rfl (Hold.weaken (hk (acc ++ [(n : Int)]) (nextA l a1) (.inr (.inl ⟨by rw [← e]; simpa using hc1, by simpa using hc2, rfl, rfl⟩))) (by simp only [wks, wk, wk0, wka, lim, true_and, and_true]; omega))) | (have e := hfull (by omega); exact hold_restrict (ks := [0,3,4]) (bs := [1,0]) (nx := 4) rfl (Hold.weaken (hk acc (nextA l a1) (.inr (.inr ⟨by rw [← e]; simpa using hc1, by simpa using hc2, rfl, rfl⟩))) (by simp only [wks, wk, wk0, wka, lim, true_and, and_true]; omega)))
    · rcases Bool.eq_false_or_eq_true (Go.Eng.B.nextV l a1 (9 : Int) == (8 : Nat)) with hc2 | hc2
      · refine hold_cut mixed okL3 (unroll := false) (f := 100) (sc := [false, false, true]) (ks := [0,3,4,5,6,17,18,19]) (bs := [1,0]) (nx := 4) (st' := [Go.Eng.It.lp [(0 : Nat), (1 : Nat), (0 : Nat), (1 : Nat), (1 : Nat)], Go.Eng.It.blk (0 : Nat), Go.Eng.It.at [(1 : Nat), (1 : Nat), (1 : Nat)]]) (σ' := { nt := (42 : Nat), slots := [((0 : Nat), Go.Eng.SV.ptr (0 : Nat) (0 : Nat) (Go.Eng.Ix.c (0 : Nat))), ((3 : Nat), Go.Eng.SV.row (1 : Nat) (Go.Eng.SV.sli (acc ++ [(↑n : Int)]))), ((4 : Nat), Go.Eng.SV.i Go.IntKind.i64 ((↑k : Int) - (1 : Int))), ((5 : Nat), Go.Eng.SV.i Go.IntKind.i64 (↑n : Int)), ((6 : Nat), Go.Eng.SV.b ((List.take i acc).any fun x => x == (↑n : Int))), ((17 : Nat), Go.Eng.SV.sli acc), ((18 : Nat), Go.Eng.SV.u Go.IntKind.i64 acc.length), ((19 : Nat), Go.Eng.SV.u Go.IntKind.i64 i)], blks := [((1 : Nat), { ty := (3 : Nat), segs := [], row := Bool.true }), ((0 : Nat), { ty := (55 : Nat), segs := [Go.Eng.SV.sli l, Go.Eng.SV.u Go.IntKind.i64 (Go.Eng.B.nextA l a1)] })], next := (4 : Nat), m := (1 : Nat) }) (ob := [Decidable.decide (i < acc.length) = Bool.false, (!(List.take i acc).any fun x => x == (↑n : Int)) = Bool.false, (0 : Int) < (9 : Int), (Go.Eng.B.nextV l a1 (9 : Int) == (8 : Nat)) = Bool.true, Go.Eng.slenD (Go.Eng.SV.sli (acc ++ [(↑n : Int)])) * (8 : Nat) ≤ (140737488355328 : Nat)]) (sc' := []) (by kernel_rfl) ?_ ?_
        · exact ⟨hc0, hc1, (by first | omega | assumption | (simp [slenD, SV.slen]; omega) | (simp [inR, lo, lim]; omega) | trivial), hc2, (by first | omega | assumption | (simp [slenD, SV.slen]; omega) | (simp [inR, lo, lim]; omega) | trivial), trivial⟩
        · first | (have e := ih (acc.length - (i + 1)) (by omega) (i + 1) rfl (by omega); rw [any_take (by omega), hc1] at e; exact Hold.weaken e (by simp [wks, wk, wk0, sLi])) | (have e := hfull (by omega); exact hold_restrict (ks := [0,3,4]) (bs := [1,0]) (nx := 4) rfl (Hold.weaken (hk (acc ++ [(n : Int)]) a1 (.inl ⟨by rw [← e]; simpa using hc1, rfl, rfl⟩)) (by simp only [wks, wk, wk0, wka, lim, true_and, and_true]; omega))) | (have e := hfull (by omega); exact hold_restrict (ks := [0,3,4]) (bs := [1,0]) (nx := 4) rfl (Hold.weaken (hk (acc ++ [(n : Int)]) (nextA l a1) (.inr (.inl ⟨by rw [← e]; simpa using hc1, by simpa using hc2, rfl, rfl⟩))) (by simp only [wks, wk, wk0, wka, lim, true_and, and_true]; omega))) | (have e := hfull (by omega); exact hold_restrict (ks := [0,3,4]) (bs := [1,0]) (nx := 4) rfl (Hold.weaken (hk acc (nextA l a1) (.inr (.inr ⟨by rw [← e]; simpa using hc1, by simpa using hc2, rfl, rfl⟩))) (by simp only [wks, wk, wk0, wka, lim, true_and, and_true]; omega)))
      · refine hold_cut mixed okL3 (unroll := false) (f := 100) (sc := [false, false, false]) (ks := [0,3,4,5,6,17,18,19]) (bs := [1,0]) (nx := 4) (st' := [Go.Eng.It.lp [(0 : Nat), (1 : Nat), (0 : Nat), (1 : Nat), (1 : Nat)], Go.Eng.It.blk (0 : Nat), Go.Eng.It.at [(1 : Nat), (1 : Nat), (1 : Nat)]]) (σ' := { nt := (42 : Nat), slots := [((0 : Nat), Go.Eng.SV.ptr (0 : Nat) (0 : Nat) (Go.Eng.Ix.c (0 : Nat))), ((3 : Nat), Go.Eng.SV.row (1 : Nat) (Go.Eng.SV.sli acc)), ((4 : Nat), Go.Eng.SV.i Go.IntKind.i64 ((↑k : Int) - (1 : Int))), ((5 : Nat), Go.Eng.SV.i Go.IntKind.i64 (↑n : Int)), ((6 : Nat), Go.Eng.SV.b ((List.take i acc).any fun x => x == (↑n : Int))), ((17 : Nat), Go.Eng.SV.row (1 : Nat) (Go.Eng.SV.sli acc)), ((18 : Nat), Go.Eng.SV.u Go.IntKind.i64 acc.length), ((19 : Nat), Go.Eng.SV.u Go.IntKind.i64 i)], blks := [((1 : Nat), { ty := (3 : Nat), segs := [], row := Bool.true }), ((0 : Nat), { ty := (55 : Nat), segs := [Go.Eng.SV.sli l, Go.Eng.SV.u Go.IntKind.i64 (Go.Eng.B.nextA l a1)] })], next := (4 : Nat), m := (1 : Nat) }) (ob := [Decidable.decide (i < acc.length) = Bool.false, (!(List.take i acc).any fun x => x == (↑n : Int)) = Bool.false, (0 : Int) < (9 : Int), (Go.Eng.B.nextV l a1 (9 : Int) == (8 : Nat)) = Bool.false]) (sc' := []) (by kernel_rfl) ?_ ?_
        · exact ⟨hc0, hc1, (by first | omega | assumption | (simp [slenD, SV.slen]; omega) | (simp [inR, lo, lim]; omega) | trivial), hc2, trivial⟩
        · first | (have e := ih (acc.length - (i + 1)) (by omega) (i + 1) rfl (by omega); rw [any_take (by omega), hc1] at e; exact Hold.weaken e (by simp [wks, wk, wk0, sLi])) | (have e := hfull (by omega); exact hold_restrict (ks := [0,3,4]) (bs := [1,0]) (nx := 4) rfl (Hold.weaken (hk (acc ++ [(n : Int)]) a1 (.inl ⟨by rw [← e]; simpa using hc1, rfl, rfl⟩)) (by simp only [wks, wk, wk0, wka, lim, true_and, and_true]; omega))) | (have e := hfull (by omega); exact hold_restrict (ks := [0,3,4]) (bs := [1,0]) (nx := 4) rfl (Hold.weaken (hk (acc ++ [(n : Int)]) (nextA l a1) (.inr (.inl ⟨by rw [← e]; simpa using hc1, by simpa using hc2, rfl, rfl⟩))) (by simp only [wks, wk, wk0, wka, lim, true_and, and_true]; omega))) | (have e := hfull (by omega); exact hold_restrict (ks := [0,3,4]) (bs := [1,0]) (nx := 4) rfl (Hold.weaken (hk acc (nextA l a1) (.inr (.inr ⟨by rw [← e]; simpa using hc1, by simpa using hc2, rfl, rfl⟩))) (by simp only [wks, wk, wk0, wka, lim, true_and, and_true]; omega)))
theorem nextV_lt {l : List Int} {a : Nat} {n : Int} (hn : 0 < n) : (nextV l a n : Int) < n := by
  unfold nextV
  split
  · have := Int.emod_lt_of_pos (l.getD a 0) hn
    have := Int.emod_nonneg (l.getD a 0) (show n ≠ 0 by omega)
    omega
  · simpa using hn
theorem stepL_of {l acc acc' : List Int} {at0 at' : Nat} (h : acc.any (fun x => x == (nextV l at0 7 : Int)) = false ∧ acc' = acc ++ [(nextV l at0 7 : Int)] ∧ at' = nextA l at0 ∨ acc.any (fun x => x == (nextV l at0 7 : Int)) = true ∧ nextV l (nextA l at0) 9 = 8 ∧ acc' = acc ++ [(nextV l at0 7 : Int)] ∧ at' = nextA l (nextA l at0) ∨ acc.any (fun x => x == (nextV l at0 7 : Int)) = true ∧ nextV l (nextA l at0) 9 ≠ 8 ∧ acc' = acc ∧ at' = nextA l (nextA l at0)) :
    (acc', at') = stepL l acc at0 := by
  unfold stepL
  rcases h with ⟨h1, rfl, rfl⟩ | ⟨h1, h2, rfl, rfl⟩ | ⟨h1, h2, rfl, rfl⟩
  · simp only [h1, if_true]
  · simp only [h1, h2, if_true, Bool.true_eq_false, if_false]
  · simp only [h1, h2, Bool.true_eq_false, if_false]
theorem lo_in (l : List Int) (hr : res = ⟨.sli (listV l), [deckB l (listP l).2], []⟩) : ∀ (k : Nat) (acc : List Int) (at' : Nat), acc.length + k ≤ 10 → listN l k acc at' = listP l →
    Hold Try.prog (bodyOf Try.f9) (FinM Try.prog Try.f9 F S res) F S stLo (sLs l acc at' k) := by
  intro k
  induction k using Nat.strongRecOn with
  | _ k ih =>
  intro acc at' hk hl
  have hend : k = 0 → acc = listV l ∧ at' = (listP l).2 := fun h => by
    subst h
    simp only [listN] at hl
    unfold listV
    rw [← hl]
    exact ⟨rfl, rfl⟩
  have hn : nextV l at' 7 < 9223372036854775808 := by have := nextV_lt (l := l) (a := at') (show (0 : Int) < 7 by decide); omega
  have hgo : 0 < k → ∀ (acc2 : List Int) (at2 : Nat), (acc2, at2) = stepL l acc at' → Hold Try.prog (bodyOf Try.f9) (FinM Try.prog Try.f9 F S res) F S stLo (sLs l acc2 at2 (k - 1)) := fun h acc2 at2 he => by
    refine ih (k - 1) (by omega) acc2 at2 ?_ ?_
    · have : acc2.length ≤ acc.length + 1 := by
        have e : acc2 = (stepL l acc at').1 := by rw [← he]
        rw [e]
        unfold stepL
        simp only
        split
        · simp
        · split <;> simp
      omega
    · obtain ⟨m, rfl⟩ : ∃ m, k = m + 1 := ⟨k - 1, by omega⟩
      rw [← hl]
      simp only [listN, Nat.add_sub_cancel, ← he]
  refine hold_unroll (c := _) rfl ?_
  rcases Bool.eq_false_or_eq_true (Decidable.decide ((0 : Nat) < k)) with hc0 | hc0
  · have hd0 := of_decide_eq_true hc0
    refine hold_cut mixed okL3 (unroll := false) (f := 100) (sc := [true]) (ks := [0,3,4,5,6,17,18,19]) (bs := [1,0]) (nx := 4) (st' := [Go.Eng.It.lp [(0 : Nat), (1 : Nat), (0 : Nat), (1 : Nat), (1 : Nat), (0 : Nat), (0 : Nat), (1 : Nat), (0 : Nat), (0 : Nat), (1 : Nat), (0 : Nat), (1 : Nat), (1 : Nat)], Go.Eng.It.blk (2 : Nat), Go.Eng.It.at [(1 : Nat), (1 : Nat), (1 : Nat), (0 : Nat), (0 : Nat), (1 : Nat), (0 : Nat), (0 : Nat), (1 : Nat), (0 : Nat), (1 : Nat), (1 : Nat)], Go.Eng.It.blk (1 : Nat), Go.Eng.It.at [(1 : Nat), (1 : Nat), (0 : Nat), (0 : Nat), (1 : Nat), (0 : Nat), (1 : Nat), (1 : Nat)], Go.Eng.It.lp [(0 : Nat), (1 : Nat), (0 : Nat), (1 : Nat), (1 : Nat)], Go.Eng.It.blk (0 : Nat), Go.Eng.It.at [(1 : Nat), (1 : Nat), (1 : Nat)]]) (σ' := { nt := (42 : Nat), slots := [((0 : Nat), Go.Eng.SV.ptr (0 : Nat) (0 : Nat) (Go.Eng.Ix.c (0 : Nat))), ((3 : Nat), Go.Eng.SV.row (1 : Nat) (Go.Eng.SV.sli acc)), ((4 : Nat), Go.Eng.SV.u Go.IntKind.i64 k), ((5 : Nat), Go.Eng.SV.u Go.IntKind.i64 (Go.Eng.B.nextV l at' (7 : Int))), ((6 : Nat), Go.Eng.SV.cb Bool.false), ((17 : Nat), Go.Eng.SV.row (1 : Nat) (Go.Eng.SV.sli acc)), ((18 : Nat), Go.Eng.SV.u Go.IntKind.i64 acc.length), ((19 : Nat), Go.Eng.SV.c Go.IntKind.i64 (0 : Int))], blks := [((1 : Nat), { ty := (3 : Nat), segs := [], row := Bool.true }), ((0 : Nat), { ty := (55 : Nat), segs := [Go.Eng.SV.sli l, Go.Eng.SV.u Go.IntKind.i64 (Go.Eng.B.nextA l at')] })], next := (4 : Nat), m := (1 : Nat) }) (ob := [Decidable.decide ((0 : Nat) < k) = Bool.true, (0 : Int) < (7 : Int)]) (sc' := []) (by kernel_rfl) ?_ ?_
    · exact ⟨hc0, (by omega), trivial⟩
    · exact Hold.weaken (li_in l acc (nextA l at') k (nextV l at' 7) (by omega) (by omega) hn (by omega) (fun acc' at2 h => hgo (by omega) acc' at2 (stepL_of h)) _ 0 rfl (Nat.zero_le _)) (by simp [wks, wk, wk0, lim])
  · have hd0 := of_decide_eq_false hc0
    refine hold_endMw mixed okL3 (news := []) (unroll := false) (f := 100) (sc := [false]) (r := { res := Go.Eng.SV.sli acc, upd := [{ ty := (55 : Nat), segs := [Go.Eng.SV.sli l, Go.Eng.SV.u Go.IntKind.i64 at'] }] }) (ob := [Decidable.decide ((0 : Nat) < k) = Bool.false]) (sc' := []) (by kernel_rfl) ?_ ?_
    · exact ⟨hc0, trivial⟩
    · obtain ⟨e1, e2⟩ := hend (by omega); rw [hr, e1, e2]; exact wkM_of rfl
def eList (H : List Bk) (args : List SV) : Option (MRes × List Prop) :=
  match H, args with
  | [⟨55, [.sli l, .c .i64 0], false⟩], [.ptr 0 0 (.c 0)] => some (⟨.sli (listV l), [deckB l (listP l).2], []⟩, [])
  | _, _ => none
theorem cList : ∀ H args r ob, eList H args = some (r, ob) → All ob → ContractM Try.prog 9 H args r := by
  intro H args r ob h hob
  unfold eList at h
  split at h
  · rename_i l
    cases h
    refine contractM Try.func9 (body := bodyOf Try.f9) rfl (by kernel_rfl) (by kernel_rfl) rfl rfl ?_
    intro _ _ F S _
    refine hold_cut mixed okL3 (unroll := false) (f := 100) (sc := []) (ks := [0,3,4]) (bs := [0]) (nx := 1) (st' := [Go.Eng.It.lp [(0 : Nat), (1 : Nat), (0 : Nat), (1 : Nat), (1 : Nat)], Go.Eng.It.blk (0 : Nat), Go.Eng.It.at [(1 : Nat), (1 : Nat), (1 : Nat)]]) (σ' := { nt := (42 : Nat), slots := [((0 : Nat), Go.Eng.SV.ptr (0 : Nat) (0 : Nat) (Go.Eng.Ix.c (0 : Nat))), ((3 : Nat), Go.Eng.SV.nil), ((4 : Nat), Go.Eng.SV.u Go.IntKind.i64 (Go.Eng.B.nextV l (0 : Nat) (10 : Int)))], blks := [((0 : Nat), { ty := (55 : Nat), segs := [Go.Eng.SV.sli l, Go.Eng.SV.u Go.IntKind.i64 (Go.Eng.B.nextA l (0 : Nat))] })], next := (1 : Nat), m := (1 : Nat) }) (ob := [(0 : Int) < (10 : Int)]) (sc' := []) (by kernel_rfl) ⟨by decide, trivial⟩ ?_
    refine hold_nil (t := 3) (e := 3) (s0 := .sli []) rfl ?_
    have := nextV_lt (l := l) (a := 0) (show (0 : Int) < 10 by decide)
    refine hold_restrict (ks := [0,3,4]) (bs := [1,0]) (nx := 4) rfl ?_
    exact Hold.weaken (lo_in l rfl (nextV l 0 10) [] (nextA l 0) (by simp; omega) rfl) (by simp [wks, wk, wk0])
  · cases h
def L5 : Ctr := addM 9 eList (addC 8 (t0 (.b true)) (addC 20 (eN gInfo) (addC 19 (eN gInfo) L3)))
theorem t0_ok {P : Program} {f : FuncId} {r : SV} (h : Contract P f [] r) : ∀ args res ob, t0 r args = some (res, ob) → All ob → Contract P f args res := by
  intro args res ob h0 _
  unfold t0 at h0
  split at h0
  · cases h0; exact h
  · cases h0
theorem okL5 : CtrOk Try.prog L5 := addM_ok (addC_ok (addC_ok (addC_ok okL3 (eN_ok cInfo)) (eN_ok cRInfo)) (t0_ok cAwake)) cList
end
end Go.Eng.B

/- Plain laws of lists of suites. -/
namespace Go.Eng.B
open Go Go.Eng Go.Proofs
theorem hasV_iff {l : List Int} {n : Int} : hasV l n = true ↔ n ∈ l := by
  rw [has_eq, List.any_eq_true]
  constructor
  · rintro ⟨x, hx, e⟩; rw [beq_iff_eq] at e; exact e ▸ hx
  · intro h; exact ⟨n, h, by simp⟩
theorem sound_iff {l : List Int} : soundV l = true ↔ (∀ x ∈ l, 0 ≤ x) ∧ l.Nodup ∧ 1 ≤ l.length ∧ l.length ≤ 8 := by
  unfold soundV
  simp only [Bool.and_eq_true, decide_eq_true_eq, List.all_eq_true, List.mem_range]
  have hb : (∀ i, i < l.length → (!badAt l i) = true) ↔ (∀ x ∈ l, 0 ≤ x) ∧ l.Nodup := by
    have key : ∀ i, (hi : i < l.length) → ((!badAt l i) = true ↔ 0 ≤ l[i] ∧ l[i] ∉ l.take i) := by
      intro i hi
      unfold badAt
      rw [List.getD_eq_getElem?_getD, List.getElem?_eq_getElem hi]
      simp only [Option.getD_some, Bool.not_or, Bool.and_eq_true, Bool.not_eq_true', decide_eq_false_iff_not]
      rw [← Bool.not_eq_true (hasV _ _), hasV_iff, Int.not_lt]
    constructor
    · intro h
      refine ⟨fun x hx => ?_, ?_⟩
      · obtain ⟨i, hi, rfl⟩ := List.getElem_of_mem hx
        exact ((key i hi).1 (h i hi)).1
      · rw [List.nodup_iff_pairwise_ne, List.pairwise_iff_getElem]
        intro i j hi hj hij e
        refine ((key j hj).1 (h j hj)).2 ?_
        rw [← e]
        exact List.mem_iff_getElem.2 ⟨i, by simp; omega, by simp⟩
    · rintro ⟨h1, h2⟩ i hi
      refine (key i hi).2 ⟨h1 _ (List.getElem_mem hi), fun hm => ?_⟩
      obtain ⟨j, hj, e⟩ := List.mem_iff_getElem.1 hm
      simp only [List.length_take] at hj
      rw [List.getElem_take] at e
      have := (List.getElem_inj h2).1 e
      omega
  rw [hb]
  constructor
  · rintro ⟨⟨h1, h2⟩, h3, h4⟩; exact ⟨h3, h4, h1, h2⟩
  · rintro ⟨h3, h4, h1, h2⟩; exact ⟨⟨h1, h2⟩, h3, h4⟩
theorem okS_iff {i : List Int} {x : Int} {own : List Int} : okS (i ++ [x]) own = true ↔ (∀ y ∈ i, hasV own y = false) ∧ hasV own x = true := by
  unfold okS
  have h1 : (i ++ [x]).length - 1 = i.length := by simp
  rw [h1, Bool.and_eq_true, decide_eq_true_eq, List.take_left' rfl]
  rw [show (i ++ [x]).getD i.length 0 = x by simp [List.getD_eq_getElem?_getD]]
  rw [List.findIdx_eq_length]
theorem split_last {l : List Int} (h : 1 ≤ l.length) : l = l.dropLast ++ [l.getD (l.length - 1) 0] := by
  have hne : l ≠ [] := by intro e; subst e; simp at h
  conv => lhs; rw [← List.dropLast_concat_getLast hne]
  congr 2
  rw [List.getLast_eq_getElem, List.getD_eq_getElem?_getD, List.getElem?_eq_getElem (by omega)]
  rfl
def bestN (th : List Int) : List Int → Int → Int
  | [], b => b
  | x :: r, b => bestN th r (if b < 0 ∧ hasV th x = true then x else b)
theorem bestN_keep {th : List Int} : ∀ {l : List Int} {b : Int}, 0 ≤ b → bestN th l b = b := by
  intro l
  induction l with
  | nil => intro b _; rfl
  | cons x r ih => intro b hb; simp only [bestN]; rw [if_neg (by omega)]; exact ih hb
theorem bestN_idx {th : List Int} : ∀ {l : List Int}, (∀ x ∈ l, 0 ≤ x) → bestN th l (-1) = if l.findIdx (hasV th) < l.length then l.getD (l.findIdx (hasV th)) 0 else -1 := by
  intro l
  induction l with
  | nil => intro _; simp [bestN]
  | cons x r ih =>
    intro h
    simp only [bestN, List.findIdx_cons]
    cases hx : hasV th x with
    | true =>
      simp only [and_true, cond_true]
      rw [if_pos (by omega), bestN_keep (h x (by simp))]
      simp
    | false =>
      simp only [Bool.false_eq_true, and_false, if_false, cond_false]
      rw [ih fun y hy => h y (by simp [hy])]
      simp only [List.length_cons, Nat.add_lt_add_iff_right, List.getD_cons_succ]
theorem off_nil {own : List Int} : (soundV own = false → offL own [] = [] ∧ offE own [] = 1) ∧ (soundV own = true → offL own [] = [own.getD 0 0] ∧ offE own [] = 0) := by
  constructor
  · intro h; simp [offL, offE, badO, h]
  · intro h
    have hl := sound_len h
    have hp : pO [] = fun _ => true := by funext x; simp [pO]
    cases own with
    | nil => simp at hl
    | cons x r => simp [offL, offE, badO, h, hp, List.findIdx_cons]
theorem sel_one {x : Int} {th : List Int} (hx : 0 ≤ x) : selE [x] th = (if soundV th = false then 1 else if hasV th x = true then 0 else 18) ∧ selV [x] th = (if soundV th = true ∧ hasV th x = true then x else 0) := by
  have h1 : soundV [x] = true := sound_iff.2 ⟨by simpa using hx, by simp, by simp, by simp⟩
  have h2 : okS [x] th = hasV th x := by
    have := okS_iff (i := []) (x := x) (own := th)
    simp only [List.nil_append, List.not_mem_nil, false_implies, implies_true, true_and] at this
    cases h3 : okS [x] th <;> cases h4 : hasV th x <;> simp_all
  unfold selE selV
  simp [h1, h2]
theorem agrees {own th : List Int} (h1 : soundV own = true) (h2 : soundV th = true) (h3 : hasV th (own.getD 0 0) = false) :
    offE own th = (if own.findIdx (hasV th) < own.length then 0 else 18) ∧
    (own.findIdx (hasV th) < own.length → selE (offL own th) th = 0 ∧ selV (offL own th) th = own.getD (own.findIdx (hasV th)) 0) := by
  have hl := sound_len h2
  have hb : badO own th = false := by simp [badO, h1, h2]
  have hp : pO th = hasV th := by funext x; simp [pO]; intro h; subst h; simp at hl
  refine ⟨by simp [offE, hb, hp], fun hlt => ?_⟩
  obtain ⟨s1, s2, s3, s4⟩ := sound_iff.1 h1
  have e : offL own th = own.take (own.findIdx (hasV th)) ++ [own.getD (own.findIdx (hasV th)) 0] := by
    simp only [offL, hb, hp, Bool.false_eq_true, if_false, if_pos hlt]
    rw [List.take_add_one, List.getD_eq_getElem?_getD, List.getElem?_eq_getElem hlt]
    rfl
  have e2 : offL own th = own.take (own.findIdx (hasV th) + 1) := by simp only [offL, hb, hp, Bool.false_eq_true, if_false, if_pos hlt]
  have hs : soundV (offL own th) = true := by
    rw [e2]
    exact sound_iff.2 ⟨fun x hx => s1 x (List.mem_of_mem_take hx), s2.sublist (List.take_sublist _ _), by simp; omega, by simp; omega⟩
  have hok : okS (offL own th) th = true := by
    rw [e, okS_iff]
    refine ⟨fun y hy => ?_, ?_⟩
    · obtain ⟨j, hj, rfl⟩ := List.mem_iff_getElem.1 hy
      simp only [List.length_take] at hj
      rw [List.getElem_take]
      have := List.not_of_lt_findIdx (show j < own.findIdx (hasV th) by omega)
      simpa using this
    · rw [List.getD_eq_getElem?_getD, List.getElem?_eq_getElem hlt]
      exact List.findIdx_getElem (w := hlt)
  unfold selE selV
  rw [hs, h2, hok]
  simp only [Bool.true_eq_false, if_false, if_true, and_self, true_and]
  rw [e]
  simp [List.getD_eq_getElem?_getD]
/-- a suite less, ahead of the last one -/
def fewL (a : List Int) (k : Nat) : List Int := a.take k ++ a.drop (k + 1)
theorem few_last {a : List Int} {k : Nat} (hk : k + 1 < a.length) : ∃ i, fewL a k = i ++ [a.getD (a.length - 1) 0] ∧ (∀ y ∈ i, y ∈ a.dropLast) ∧ (fewL a k).Sublist a := by
  have hs := split_last (l := a) (by omega)
  have hd : a.dropLast.length = a.length - 1 := by simp
  refine ⟨a.dropLast.take k ++ a.dropLast.drop (k + 1), ?_, ?_, ?_⟩
  · unfold fewL
    conv => lhs; rw [hs]
    rw [List.take_append_of_le_length (by omega), List.drop_append_of_le_length (by omega), List.append_assoc]
  · intro y hy
    rcases List.mem_append.1 hy with h | h
    · exact List.mem_of_mem_take h
    · exact List.mem_of_mem_drop h
  · unfold fewL
    rw [← List.eraseIdx_eq_take_drop_succ]
    exact List.eraseIdx_sublist _ _
theorem fewer_law {a th : List Int} {k : Nat} (hk : k + 1 < a.length) :
    (selE a th = 0 → selV a th = a.getD (a.length - 1) 0 ∧ selE (fewL a k) th = 0) ∧ (selE (fewL a k) th = 0 → selV (fewL a k) th = a.getD (a.length - 1) 0) := by
  obtain ⟨i, e, hi, hsub⟩ := few_last hk
  have hs := split_last (l := a) (by omega)
  have hE : ∀ l : List Int, selE l th = 0 → soundV l = true ∧ soundV th = true ∧ okS l th = true := by
    intro l h
    unfold selE at h
    split at h
    · omega
    · split at h
      · omega
      · split at h
        · rename_i h1 h2 h3; exact ⟨by simpa using h1, by simpa using h2, h3⟩
        · omega
  have hV : ∀ l : List Int, selE l th = 0 → selV l th = l.getD (l.length - 1) 0 := by
    intro l h
    unfold selV
    rw [if_pos (hE l h)]
  constructor
  · intro h
    refine ⟨hV a h, ?_⟩
    obtain ⟨h1, h2, h3⟩ := hE a h
    obtain ⟨s1, s2, s3, s4⟩ := sound_iff.1 h1
    rw [hs] at h3
    obtain ⟨o1, o2⟩ := okS_iff.1 h3
    have hlen : (fewL a k).length = a.length - 1 := by unfold fewL; simp; omega
    have hs' : soundV (fewL a k) = true := sound_iff.2 ⟨fun x hx => s1 x (hsub.subset hx), s2.sublist hsub, by omega, by omega⟩
    have hok : okS (fewL a k) th = true := by
      rw [e, okS_iff]
      exact ⟨fun y hy => o1 y (hi y hy), o2⟩
    unfold selE
    simp [hs', h2, hok]
  · intro h
    rw [hV _ h, e]
    simp [List.getD_eq_getElem?_getD]
end Go.Eng.B

/- SuiteFewer gives true. -/
namespace Go.Eng.B
open Go Go.Eng Go.Proofs
theorem listN_len (l : List Int) : ∀ (k : Nat) (acc : List Int) (at' : Nat), (listN l k acc at').1.length ≤ acc.length + k := by
  intro k
  induction k with
  | zero => intro acc at'; exact Nat.le_refl _
  | succ k ih =>
    intro acc at'
    simp only [listN]
    have h1 := ih (stepL l acc at').1 (stepL l acc at').2
    have h2 : (stepL l acc at').1.length ≤ acc.length + 1 := by
      unfold stepL
      simp only
      split
      · simp
      · split <;> simp
    omega
theorem listV_len (l : List Int) : (listV l).length ≤ 9 := by
  have h1 := listN_len l (nextV l 0 10) [] (nextA l 0)
  have h2 := nextV_lt (l := l) (a := 0) (show (0 : Int) < 10 by decide)
  unfold listV listP
  simp only [List.length_nil] at h1
  omega
theorem lawFewer (l m : List Int) (n : Int) : Contract Try.prog 5 [.sli l, .sli m, .i .i64 n] (.b true) := by
  refine contract Try.func5 (body := bodyOf Try.f5) rfl (by kernel_rfl) (by kernel_rfl) rfl ?_
  rintro _ w0 S
  have hlen := listV_len l
  have hk : 2 ≤ (listV l).length → (n % (((listV l).length : Int) - 1)).toNat + 1 < (listV l).length := fun h => by
    have h1 := Int.emod_lt_of_pos n (show (0 : Int) < ((listV l).length : Int) - 1 by omega)
    have h2 := Int.emod_nonneg n (show ((listV l).length : Int) - 1 ≠ 0 by omega)
    omega
  have hF : List.drop 0 (List.take (n % (↑(listV l).length - 1)).toNat (listV l)) ++ List.drop ((n % (↑(listV l).length - 1)).toNat + 1) (List.take (listV l).length (listV l)) = fewL (listV l) (n % (↑(listV l).length - 1)).toNat := by simp [fewL]
  have law : 2 ≤ (listV l).length → _ := fun h => fewer_law (th := listV m) (hk h)
  rcases Bool.eq_false_or_eq_true (Decidable.decide ((Go.Eng.B.listV l).length < (2 : Nat))) with hc0 | hc0
  · have hd0 := of_decide_eq_true hc0
    refine hold_endw mixed okL5 (unroll := true) (f := 400) (sc := [true]) (r := (Go.Eng.SV.b Bool.true)) (ob := [Decidable.decide ((Go.Eng.B.listV l).length < (2 : Nat)) = Bool.true]) (sc' := []) (by kernel_rfl) ?_ ?_
    · exact ⟨hc0, trivial⟩
    · first | exact wkR_of rfl | (exfalso; obtain ⟨q1, q2⟩ := law (by omega); rw [hF] at *; simp_all [sub1]; done) | (obtain ⟨q1, q2⟩ := law (by omega); simp only [hF, sub1] at *; refine wkR_of (congrArg SV.b ?_); first | (simp_all; done) | rfl)
  · have hd0 := of_decide_eq_false hc0
    rcases Bool.eq_false_or_eq_true (Go.Eng.B.selE (Go.Eng.B.listV l) (Go.Eng.B.listV m) != (0 : Int)) with hc1 | hc1
    · rcases Bool.eq_false_or_eq_true (Go.Eng.B.selE (List.drop (0 : Nat) (List.take (n % ((↑(Go.Eng.B.listV l).length : Int) - (1 : Int))).toNat (Go.Eng.B.listV l)) ++ List.drop ((n % ((↑(Go.Eng.B.listV l).length : Int) - (1 : Int))).toNat + (1 : Nat)) (List.take (Go.Eng.B.listV l).length (Go.Eng.B.listV l))) (Go.Eng.B.listV m) != (0 : Int)) with hc2 | hc2
      · refine hold_endw mixed okL5 (unroll := true) (f := 400) (sc := [false, true, true]) (r := (Go.Eng.SV.b Bool.true)) (ob := [Decidable.decide ((Go.Eng.B.listV l).length < (2 : Nat)) = Bool.false, (0 : Int) < (↑(Go.Eng.B.listV l).length : Int) - (1 : Int), (0 : Nat) ≤ (n % ((↑(Go.Eng.B.listV l).length : Int) - (1 : Int))).toNat, (n % ((↑(Go.Eng.B.listV l).length : Int) - (1 : Int))).toNat ≤ (Go.Eng.B.listV l).length, (n % ((↑(Go.Eng.B.listV l).length : Int) - (1 : Int))).toNat + (1 : Nat) < (9223372036854775808 : Nat), (n % ((↑(Go.Eng.B.listV l).length : Int) - (1 : Int))).toNat + (1 : Nat) ≤ (Go.Eng.B.listV l).length, (Go.Eng.B.listV l).length ≤ (Go.Eng.B.listV l).length, Go.Eng.slenD (Go.Eng.SV.sli (List.drop (0 : Nat) (List.take (n % ((↑(Go.Eng.B.listV l).length : Int) - (1 : Int))).toNat (Go.Eng.B.listV l)))) * (8 : Nat) ≤ (140737488355328 : Nat), Go.Eng.slenD (Go.Eng.SV.sli (List.drop (0 : Nat) (List.take (n % ((↑(Go.Eng.B.listV l).length : Int) - (1 : Int))).toNat (Go.Eng.B.listV l)) ++ List.drop ((n % ((↑(Go.Eng.B.listV l).length : Int) - (1 : Int))).toNat + (1 : Nat)) (List.take (Go.Eng.B.listV l).length (Go.Eng.B.listV l)))) * (8 : Nat) ≤ (140737488355328 : Nat), (Go.Eng.B.selE (Go.Eng.B.listV l) (Go.Eng.B.listV m) != (0 : Int)) = Bool.true, (Go.Eng.B.selE (List.drop (0 : Nat) (List.take (n % ((↑(Go.Eng.B.listV l).length : Int) - (1 : Int))).toNat (Go.Eng.B.listV l)) ++ List.drop ((n % ((↑(Go.Eng.B.listV l).length : Int) - (1 : Int))).toNat + (1 : Nat)) (List.take (Go.Eng.B.listV l).length (Go.Eng.B.listV l))) (Go.Eng.B.listV m) != (0 : Int)) = Bool.true]) (sc' := []) (by kernel_rfl) ?_ ?_
        · exact ⟨hc0, (by first | assumption | omega | (have := hk (by omega); first | omega | (simp [slenD, SV.slen]; omega))), (by first | assumption | omega | (have := hk (by omega); first | omega | (simp [slenD, SV.slen]; omega))), (by first | assumption | omega | (have := hk (by omega); first | omega | (simp [slenD, SV.slen]; omega))), (by first | assumption | omega | (have := hk (by omega); first | omega | (simp [slenD, SV.slen]; omega))), (by first | assumption | omega | (have := hk (by omega); first | omega | (simp [slenD, SV.slen]; omega))), (by first | assumption | omega | (have := hk (by omega); first | omega | (simp [slenD, SV.slen]; omega))), (by first | assumption | omega | (have := hk (by omega); first | omega | (simp [slenD, SV.slen]; omega))), (by first | assumption | omega | (have := hk (by omega); first | omega | (simp [slenD, SV.slen]; omega))), hc1, hc2, trivial⟩
        · first | exact wkR_of rfl | (exfalso; obtain ⟨q1, q2⟩ := law (by omega); rw [hF] at *; simp_all [sub1]; done) | (obtain ⟨q1, q2⟩ := law (by omega); simp only [hF, sub1] at *; refine wkR_of (congrArg SV.b ?_); first | (simp_all; done) | rfl)
      · rcases Bool.eq_false_or_eq_true (Go.Eng.B.selV (List.drop (0 : Nat) (List.take (n % ((↑(Go.Eng.B.listV l).length : Int) - (1 : Int))).toNat (Go.Eng.B.listV l)) ++ List.drop ((n % ((↑(Go.Eng.B.listV l).length : Int) - (1 : Int))).toNat + (1 : Nat)) (List.take (Go.Eng.B.listV l).length (Go.Eng.B.listV l))) (Go.Eng.B.listV m) == (Go.Eng.B.listV l).getD ((↑(Go.Eng.B.listV l).length : Int) - (1 : Int)).toNat (0 : Int)) with hc3 | hc3
        · refine hold_endw mixed okL5 (unroll := true) (f := 400) (sc := [false, true, false, true]) (r := (Go.Eng.SV.b Bool.true)) (ob := [Decidable.decide ((Go.Eng.B.listV l).length < (2 : Nat)) = Bool.false, (0 : Int) < (↑(Go.Eng.B.listV l).length : Int) - (1 : Int), (0 : Nat) ≤ (n % ((↑(Go.Eng.B.listV l).length : Int) - (1 : Int))).toNat, (n % ((↑(Go.Eng.B.listV l).length : Int) - (1 : Int))).toNat ≤ (Go.Eng.B.listV l).length, (n % ((↑(Go.Eng.B.listV l).length : Int) - (1 : Int))).toNat + (1 : Nat) < (9223372036854775808 : Nat), (n % ((↑(Go.Eng.B.listV l).length : Int) - (1 : Int))).toNat + (1 : Nat) ≤ (Go.Eng.B.listV l).length, (Go.Eng.B.listV l).length ≤ (Go.Eng.B.listV l).length, Go.Eng.slenD (Go.Eng.SV.sli (List.drop (0 : Nat) (List.take (n % ((↑(Go.Eng.B.listV l).length : Int) - (1 : Int))).toNat (Go.Eng.B.listV l)))) * (8 : Nat) ≤ (140737488355328 : Nat), Go.Eng.slenD (Go.Eng.SV.sli (List.drop (0 : Nat) (List.take (n % ((↑(Go.Eng.B.listV l).length : Int) - (1 : Int))).toNat (Go.Eng.B.listV l)) ++ List.drop ((n % ((↑(Go.Eng.B.listV l).length : Int) - (1 : Int))).toNat + (1 : Nat)) (List.take (Go.Eng.B.listV l).length (Go.Eng.B.listV l)))) * (8 : Nat) ≤ (140737488355328 : Nat), (Go.Eng.B.selE (Go.Eng.B.listV l) (Go.Eng.B.listV m) != (0 : Int)) = Bool.true, (Go.Eng.B.selE (List.drop (0 : Nat) (List.take (n % ((↑(Go.Eng.B.listV l).length : Int) - (1 : Int))).toNat (Go.Eng.B.listV l)) ++ List.drop ((n % ((↑(Go.Eng.B.listV l).length : Int) - (1 : Int))).toNat + (1 : Nat)) (List.take (Go.Eng.B.listV l).length (Go.Eng.B.listV l))) (Go.Eng.B.listV m) != (0 : Int)) = Bool.false, (0 : Int) ≤ (↑(Go.Eng.B.listV l).length : Int) - (1 : Int), ((↑(Go.Eng.B.listV l).length : Int) - (1 : Int)).toNat < (Go.Eng.B.listV l).length, (Go.Eng.B.selV (List.drop (0 : Nat) (List.take (n % ((↑(Go.Eng.B.listV l).length : Int) - (1 : Int))).toNat (Go.Eng.B.listV l)) ++ List.drop ((n % ((↑(Go.Eng.B.listV l).length : Int) - (1 : Int))).toNat + (1 : Nat)) (List.take (Go.Eng.B.listV l).length (Go.Eng.B.listV l))) (Go.Eng.B.listV m) == (Go.Eng.B.listV l).getD ((↑(Go.Eng.B.listV l).length : Int) - (1 : Int)).toNat (0 : Int)) = Bool.true]) (sc' := []) (by kernel_rfl) ?_ ?_
          · exact ⟨hc0, (by first | assumption | omega | (have := hk (by omega); first | omega | (simp [slenD, SV.slen]; omega))), (by first | assumption | omega | (have := hk (by omega); first | omega | (simp [slenD, SV.slen]; omega))), (by first | assumption | omega | (have := hk (by omega); first | omega | (simp [slenD, SV.slen]; omega))), (by first | assumption | omega | (have := hk (by omega); first | omega | (simp [slenD, SV.slen]; omega))), (by first | assumption | omega | (have := hk (by omega); first | omega | (simp [slenD, SV.slen]; omega))), (by first | assumption | omega | (have := hk (by omega); first | omega | (simp [slenD, SV.slen]; omega))), (by first | assumption | omega | (have := hk (by omega); first | omega | (simp [slenD, SV.slen]; omega))), (by first | assumption | omega | (have := hk (by omega); first | omega | (simp [slenD, SV.slen]; omega))), hc1, hc2, (by first | assumption | omega | (have := hk (by omega); first | omega | (simp [slenD, SV.slen]; omega))), (by first | assumption | omega | (have := hk (by omega); first | omega | (simp [slenD, SV.slen]; omega))), hc3, trivial⟩
          · first | exact wkR_of rfl | (exfalso; obtain ⟨q1, q2⟩ := law (by omega); rw [hF] at *; simp_all [sub1]; done) | (obtain ⟨q1, q2⟩ := law (by omega); simp only [hF, sub1] at *; refine wkR_of (congrArg SV.b ?_); first | (simp_all; done) | rfl)
        · refine hold_endw mixed okL5 (unroll := true) (f := 400) (sc := [false, true, false, false]) (r := (Go.Eng.SV.cb Bool.false)) (ob := [Decidable.decide ((Go.Eng.B.listV l).length < (2 : Nat)) = Bool.false, (0 : Int) < (↑(Go.Eng.B.listV l).length : Int) - (1 : Int), (0 : Nat) ≤ (n % ((↑(Go.Eng.B.listV l).length : Int) - (1 : Int))).toNat, (n % ((↑(Go.Eng.B.listV l).length : Int) - (1 : Int))).toNat ≤ (Go.Eng.B.listV l).length, (n % ((↑(Go.Eng.B.listV l).length : Int) - (1 : Int))).toNat + (1 : Nat) < (9223372036854775808 : Nat), (n % ((↑(Go.Eng.B.listV l).length : Int) - (1 : Int))).toNat + (1 : Nat) ≤ (Go.Eng.B.listV l).length, (Go.Eng.B.listV l).length ≤ (Go.Eng.B.listV l).length, Go.Eng.slenD (Go.Eng.SV.sli (List.drop (0 : Nat) (List.take (n % ((↑(Go.Eng.B.listV l).length : Int) - (1 : Int))).toNat (Go.Eng.B.listV l)))) * (8 : Nat) ≤ (140737488355328 : Nat), Go.Eng.slenD (Go.Eng.SV.sli (List.drop (0 : Nat) (List.take (n % ((↑(Go.Eng.B.listV l).length : Int) - (1 : Int))).toNat (Go.Eng.B.listV l)) ++ List.drop ((n % ((↑(Go.Eng.B.listV l).length : Int) - (1 : Int))).toNat + (1 : Nat)) (List.take (Go.Eng.B.listV l).length (Go.Eng.B.listV l)))) * (8 : Nat) ≤ (140737488355328 : Nat), (Go.Eng.B.selE (Go.Eng.B.listV l) (Go.Eng.B.listV m) != (0 : Int)) = Bool.true, (Go.Eng.B.selE (List.drop (0 : Nat) (List.take (n % ((↑(Go.Eng.B.listV l).length : Int) - (1 : Int))).toNat (Go.Eng.B.listV l)) ++ List.drop ((n % ((↑(Go.Eng.B.listV l).length : Int) - (1 : Int))).toNat + (1 : Nat)) (List.take (Go.Eng.B.listV l).length (Go.Eng.B.listV l))) (Go.Eng.B.listV m) != (0 : Int)) = Bool.false, (0 : Int) ≤ (↑(Go.Eng.B.listV l).length : Int) - (1 : Int), ((↑(Go.Eng.B.listV l).length : Int) - (1 : Int)).toNat < (Go.Eng.B.listV l).length, (Go.Eng.B.selV (List.drop (0 : Nat) (List.take (n % ((↑(Go.Eng.B.listV l).length : Int) - (1 : Int))).toNat (Go.Eng.B.listV l)) ++ List.drop ((n % ((↑(Go.Eng.B.listV l).length : Int) - (1 : Int))).toNat + (1 : Nat)) (List.take (Go.Eng.B.listV l).length (Go.Eng.B.listV l))) (Go.Eng.B.listV m) == (Go.Eng.B.listV l).getD ((↑(Go.Eng.B.listV l).length : Int) - (1 : Int)).toNat (0 : Int)) = Bool.false]) (sc' := []) (by kernel_rfl) ?_ ?_
          · exact ⟨hc0, (by first | assumption | omega | (have := hk (by omega); first | omega | (simp [slenD, SV.slen]; omega))), (by first | assumption | omega | (have := hk (by omega); first | omega | (simp [slenD, SV.slen]; omega))), (by first | assumption | omega | (have := hk (by omega); first | omega | (simp [slenD, SV.slen]; omega))), (by first | assumption | omega | (have := hk (by omega); first | omega | (simp [slenD, SV.slen]; omega))), (by first | assumption | omega | (have := hk (by omega); first | omega | (simp [slenD, SV.slen]; omega))), (by first | assumption | omega | (have := hk (by omega); first | omega | (simp [slenD, SV.slen]; omega))), (by first | assumption | omega | (have := hk (by omega); first | omega | (simp [slenD, SV.slen]; omega))), (by first | assumption | omega | (have := hk (by omega); first | omega | (simp [slenD, SV.slen]; omega))), hc1, hc2, (by first | assumption | omega | (have := hk (by omega); first | omega | (simp [slenD, SV.slen]; omega))), (by first | assumption | omega | (have := hk (by omega); first | omega | (simp [slenD, SV.slen]; omega))), hc3, trivial⟩
          · first | exact wkR_of rfl | (exfalso; obtain ⟨q1, q2⟩ := law (by omega); rw [hF] at *; simp_all [sub1]; done) | (obtain ⟨q1, q2⟩ := law (by omega); simp only [hF, sub1] at *; refine wkR_of (congrArg SV.b ?_); first | (simp_all; done) | rfl)
    · rcases Bool.eq_false_or_eq_true (Go.Eng.B.selV (Go.Eng.B.listV l) (Go.Eng.B.listV m) == (Go.Eng.B.listV l).getD ((↑(Go.Eng.B.listV l).length : Int) - (1 : Int)).toNat (0 : Int)) with hc2 | hc2
      · rcases Bool.eq_false_or_eq_true (Go.Eng.B.selE (List.drop (0 : Nat) (List.take (n % ((↑(Go.Eng.B.listV l).length : Int) - (1 : Int))).toNat (Go.Eng.B.listV l)) ++ List.drop ((n % ((↑(Go.Eng.B.listV l).length : Int) - (1 : Int))).toNat + (1 : Nat)) (List.take (Go.Eng.B.listV l).length (Go.Eng.B.listV l))) (Go.Eng.B.listV m) == (0 : Int)) with hc3 | hc3
        · rcases Bool.eq_false_or_eq_true (Go.Eng.B.selE (List.drop (0 : Nat) (List.take (n % ((↑(Go.Eng.B.listV l).length : Int) - (1 : Int))).toNat (Go.Eng.B.listV l)) ++ List.drop ((n % ((↑(Go.Eng.B.listV l).length : Int) - (1 : Int))).toNat + (1 : Nat)) (List.take (Go.Eng.B.listV l).length (Go.Eng.B.listV l))) (Go.Eng.B.listV m) != (0 : Int)) with hc4 | hc4
          · refine hold_endw mixed okL5 (unroll := true) (f := 400) (sc := [false, false, true, true, true]) (r := (Go.Eng.SV.b Bool.true)) (ob := [Decidable.decide ((Go.Eng.B.listV l).length < (2 : Nat)) = Bool.false, (0 : Int) < (↑(Go.Eng.B.listV l).length : Int) - (1 : Int), (0 : Nat) ≤ (n % ((↑(Go.Eng.B.listV l).length : Int) - (1 : Int))).toNat, (n % ((↑(Go.Eng.B.listV l).length : Int) - (1 : Int))).toNat ≤ (Go.Eng.B.listV l).length, (n % ((↑(Go.Eng.B.listV l).length : Int) - (1 : Int))).toNat + (1 : Nat) < (9223372036854775808 : Nat), (n % ((↑(Go.Eng.B.listV l).length : Int) - (1 : Int))).toNat + (1 : Nat) ≤ (Go.Eng.B.listV l).length, (Go.Eng.B.listV l).length ≤ (Go.Eng.B.listV l).length, Go.Eng.slenD (Go.Eng.SV.sli (List.drop (0 : Nat) (List.take (n % ((↑(Go.Eng.B.listV l).length : Int) - (1 : Int))).toNat (Go.Eng.B.listV l)))) * (8 : Nat) ≤ (140737488355328 : Nat), Go.Eng.slenD (Go.Eng.SV.sli (List.drop (0 : Nat) (List.take (n % ((↑(Go.Eng.B.listV l).length : Int) - (1 : Int))).toNat (Go.Eng.B.listV l)) ++ List.drop ((n % ((↑(Go.Eng.B.listV l).length : Int) - (1 : Int))).toNat + (1 : Nat)) (List.take (Go.Eng.B.listV l).length (Go.Eng.B.listV l)))) * (8 : Nat) ≤ (140737488355328 : Nat), (Go.Eng.B.selE (Go.Eng.B.listV l) (Go.Eng.B.listV m) != (0 : Int)) = Bool.false, (0 : Int) ≤ (↑(Go.Eng.B.listV l).length : Int) - (1 : Int), ((↑(Go.Eng.B.listV l).length : Int) - (1 : Int)).toNat < (Go.Eng.B.listV l).length, (Go.Eng.B.selV (Go.Eng.B.listV l) (Go.Eng.B.listV m) == (Go.Eng.B.listV l).getD ((↑(Go.Eng.B.listV l).length : Int) - (1 : Int)).toNat (0 : Int)) = Bool.true, (Go.Eng.B.selE (List.drop (0 : Nat) (List.take (n % ((↑(Go.Eng.B.listV l).length : Int) - (1 : Int))).toNat (Go.Eng.B.listV l)) ++ List.drop ((n % ((↑(Go.Eng.B.listV l).length : Int) - (1 : Int))).toNat + (1 : Nat)) (List.take (Go.Eng.B.listV l).length (Go.Eng.B.listV l))) (Go.Eng.B.listV m) == (0 : Int)) = Bool.true, (Go.Eng.B.selE (List.drop (0 : Nat) (List.take (n % ((↑(Go.Eng.B.listV l).length : Int) - (1 : Int))).toNat (Go.Eng.B.listV l)) ++ List.drop ((n % ((↑(Go.Eng.B.listV l).length : Int) - (1 : Int))).toNat + (1 : Nat)) (List.take (Go.Eng.B.listV l).length (Go.Eng.B.listV l))) (Go.Eng.B.listV m) != (0 : Int)) = Bool.true]) (sc' := []) (by kernel_rfl) ?_ ?_
            · exact ⟨hc0, (by first | assumption | omega | (have := hk (by omega); first | omega | (simp [slenD, SV.slen]; omega))), (by first | assumption | omega | (have := hk (by omega); first | omega | (simp [slenD, SV.slen]; omega))), (by first | assumption | omega | (have := hk (by omega); first | omega | (simp [slenD, SV.slen]; omega))), (by first | assumption | omega | (have := hk (by omega); first | omega | (simp [slenD, SV.slen]; omega))), (by first | assumption | omega | (have := hk (by omega); first | omega | (simp [slenD, SV.slen]; omega))), (by first | assumption | omega | (have := hk (by omega); first | omega | (simp [slenD, SV.slen]; omega))), (by first | assumption | omega | (have := hk (by omega); first | omega | (simp [slenD, SV.slen]; omega))), (by first | assumption | omega | (have := hk (by omega); first | omega | (simp [slenD, SV.slen]; omega))), hc1, (by first | assumption | omega | (have := hk (by omega); first | omega | (simp [slenD, SV.slen]; omega))), (by first | assumption | omega | (have := hk (by omega); first | omega | (simp [slenD, SV.slen]; omega))), hc2, hc3, hc4, trivial⟩
            · first | exact wkR_of rfl | (exfalso; obtain ⟨q1, q2⟩ := law (by omega); rw [hF] at *; simp_all [sub1]; done) | (obtain ⟨q1, q2⟩ := law (by omega); simp only [hF, sub1] at *; refine wkR_of (congrArg SV.b ?_); first | (simp_all; done) | rfl)
          · rcases Bool.eq_false_or_eq_true (Go.Eng.B.selV (List.drop (0 : Nat) (List.take (n % ((↑(Go.Eng.B.listV l).length : Int) - (1 : Int))).toNat (Go.Eng.B.listV l)) ++ List.drop ((n % ((↑(Go.Eng.B.listV l).length : Int) - (1 : Int))).toNat + (1 : Nat)) (List.take (Go.Eng.B.listV l).length (Go.Eng.B.listV l))) (Go.Eng.B.listV m) == (Go.Eng.B.listV l).getD ((↑(Go.Eng.B.listV l).length : Int) - (1 : Int)).toNat (0 : Int)) with hc5 | hc5
            · refine hold_endw mixed okL5 (unroll := true) (f := 400) (sc := [false, false, true, true, false, true]) (r := (Go.Eng.SV.b Bool.true)) (ob := [Decidable.decide ((Go.Eng.B.listV l).length < (2 : Nat)) = Bool.false, (0 : Int) < (↑(Go.Eng.B.listV l).length : Int) - (1 : Int), (0 : Nat) ≤ (n % ((↑(Go.Eng.B.listV l).length : Int) - (1 : Int))).toNat, (n % ((↑(Go.Eng.B.listV l).length : Int) - (1 : Int))).toNat ≤ (Go.Eng.B.listV l).length, (n % ((↑(Go.Eng.B.listV l).length : Int) - (1 : Int))).toNat + (1 : Nat) < (9223372036854775808 : Nat), (n % ((↑(Go.Eng.B.listV l).length : Int) - (1 : Int))).toNat + (1 : Nat) ≤ (Go.Eng.B.listV l).length, (Go.Eng.B.listV l).length ≤ (Go.Eng.B.listV l).length, Go.Eng.slenD (Go.Eng.SV.sli (List.drop (0 : Nat) (List.take (n % ((↑(Go.Eng.B.listV l).length : Int) - (1 : Int))).toNat (Go.Eng.B.listV l)))) * (8 : Nat) ≤ (140737488355328 : Nat), Go.Eng.slenD (Go.Eng.SV.sli (List.drop (0 : Nat) (List.take (n % ((↑(Go.Eng.B.listV l).length : Int) - (1 : Int))).toNat (Go.Eng.B.listV l)) ++ List.drop ((n % ((↑(Go.Eng.B.listV l).length : Int) - (1 : Int))).toNat + (1 : Nat)) (List.take (Go.Eng.B.listV l).length (Go.Eng.B.listV l)))) * (8 : Nat) ≤ (140737488355328 : Nat), (Go.Eng.B.selE (Go.Eng.B.listV l) (Go.Eng.B.listV m) != (0 : Int)) = Bool.false, (0 : Int) ≤ (↑(Go.Eng.B.listV l).length : Int) - (1 : Int), ((↑(Go.Eng.B.listV l).length : Int) - (1 : Int)).toNat < (Go.Eng.B.listV l).length, (Go.Eng.B.selV (Go.Eng.B.listV l) (Go.Eng.B.listV m) == (Go.Eng.B.listV l).getD ((↑(Go.Eng.B.listV l).length : Int) - (1 : Int)).toNat (0 : Int)) = Bool.true, (Go.Eng.B.selE (List.drop (0 : Nat) (List.take (n % ((↑(Go.Eng.B.listV l).length : Int) - (1 : Int))).toNat (Go.Eng.B.listV l)) ++ List.drop ((n % ((↑(Go.Eng.B.listV l).length : Int) - (1 : Int))).toNat + (1 : Nat)) (List.take (Go.Eng.B.listV l).length (Go.Eng.B.listV l))) (Go.Eng.B.listV m) == (0 : Int)) = Bool.true, (Go.Eng.B.selE (List.drop (0 : Nat) (List.take (n % ((↑(Go.Eng.B.listV l).length : Int) - (1 : Int))).toNat (Go.Eng.B.listV l)) ++ List.drop ((n % ((↑(Go.Eng.B.listV l).length : Int) - (1 : Int))).toNat + (1 : Nat)) (List.take (Go.Eng.B.listV l).length (Go.Eng.B.listV l))) (Go.Eng.B.listV m) != (0 : Int)) = Bool.false, (0 : Int) ≤ (↑(Go.Eng.B.listV l).length : Int) - (1 : Int), ((↑(Go.Eng.B.listV l).length : Int) - (1 : Int)).toNat < (Go.Eng.B.listV l).length, (Go.Eng.B.selV (List.drop (0 : Nat) (List.take (n % ((↑(Go.Eng.B.listV l).length : Int) - (1 : Int))).toNat (Go.Eng.B.listV l)) ++ List.drop ((n % ((↑(Go.Eng.B.listV l).length : Int) - (1 : Int))).toNat + (1 : Nat)) (List.take (Go.Eng.B.listV l).length (Go.Eng.B.listV l))) (Go.Eng.B.listV m) == (Go.Eng.B.listV l).getD ((↑(Go.Eng.B.listV l).length : Int) - (1 : Int)).toNat (0 : Int)) = Bool.true]) (sc' := []) (by kernel_rfl) ?_ ?_
              · exact ⟨hc0, (by first | assumption | omega | (have := hk (by omega); first | omega | (simp [slenD, SV.slen]; omega))), (by first | assumption | omega | (have := hk (by omega); first | omega | (simp [slenD, SV.slen]; omega))), (by first | assumption | omega | (have := hk (by omega); first | omega | (simp [slenD, SV.slen]; omega))), (by first | assumption | omega | (have := hk (by omega); first | omega | (simp [slenD, SV.slen]; omega))), (by first | assumption | omega | (have := hk (by omega); first | omega | (simp [slenD, SV.slen]; omega))), (by first | assumption | omega | (have := hk (by omega); first | omega | (simp [slenD, SV.slen]; omega))), (by first | assumption | omega | (have := hk (by omega); first | omega | (simp [slenD, SV.slen]; omega))), (by first | assumption | omega | (have := hk (by omega); first | omega | (simp [slenD, SV.slen]; omega))), hc1, (by first | assumption | omega | (have := hk (by omega); first | omega | (simp [slenD, SV.slen]; omega))), (by first | assumption | omega | (have := hk (by omega); first | omega | (simp [slenD, SV.slen]; omega))), hc2, hc3, hc4, (by first | assumption | omega | (have := hk (by omega); first | omega | (simp [slenD, SV.slen]; omega))), (by first | assumption | omega | (have := hk (by omega); first | omega | (simp [slenD, SV.slen]; omega))), hc5, trivial⟩
              · first | exact wkR_of rfl | (exfalso; obtain ⟨q1, q2⟩ := law (by omega); rw [hF] at *; simp_all [sub1]; done) | (obtain ⟨q1, q2⟩ := law (by omega); simp only [hF, sub1] at *; refine wkR_of (congrArg SV.b ?_); first | (simp_all; done) | rfl)
            · refine hold_endw mixed okL5 (unroll := true) (f := 400) (sc := [false, false, true, true, false, false]) (r := (Go.Eng.SV.cb Bool.false)) (ob := [Decidable.decide ((Go.Eng.B.listV l).length < (2 : Nat)) = Bool.false, (0 : Int) < (↑(Go.Eng.B.listV l).length : Int) - (1 : Int), (0 : Nat) ≤ (n % ((↑(Go.Eng.B.listV l).length : Int) - (1 : Int))).toNat, (n % ((↑(Go.Eng.B.listV l).length : Int) - (1 : Int))).toNat ≤ (Go.Eng.B.listV l).length, (n % ((↑(Go.Eng.B.listV l).length : Int) - (1 : Int))).toNat + (1 : Nat) < (9223372036854775808 : Nat), (n % ((↑(Go.Eng.B.listV l).length : Int) - (1 : Int))).toNat + (1 : Nat) ≤ (Go.Eng.B.listV l).length, (Go.Eng.B.listV l).length ≤ (Go.Eng.B.listV l).length, Go.Eng.slenD (Go.Eng.SV.sli (List.drop (0 : Nat) (List.take (n % ((↑(Go.Eng.B.listV l).length : Int) - (1 : Int))).toNat (Go.Eng.B.listV l)))) * (8 : Nat) ≤ (140737488355328 : Nat), Go.Eng.slenD (Go.Eng.SV.sli (List.drop (0 : Nat) (List.take (n % ((↑(Go.Eng.B.listV l).length : Int) - (1 : Int))).toNat (Go.Eng.B.listV l)) ++ List.drop ((n % ((↑(Go.Eng.B.listV l).length : Int) - (1 : Int))).toNat + (1 : Nat)) (List.take (Go.Eng.B.listV l).length (Go.Eng.B.listV l)))) * (8 : Nat) ≤ (140737488355328 : Nat), (Go.Eng.B.selE (Go.Eng.B.listV l) (Go.Eng.B.listV m) != (0 : Int)) = Bool.false, (0 : Int) ≤ (↑(Go.Eng.B.listV l).length : Int) - (1 : Int), ((↑(Go.Eng.B.listV l).length : Int) - (1 : Int)).toNat < (Go.Eng.B.listV l).length, (Go.Eng.B.selV (Go.Eng.B.listV l) (Go.Eng.B.listV m) == (Go.Eng.B.listV l).getD ((↑(Go.Eng.B.listV l).length : Int) - (1 : Int)).toNat (0 : Int)) = Bool.true, (Go.Eng.B.selE (List.drop (0 : Nat) (List.take (n % ((↑(Go.Eng.B.listV l).length : Int) - (1 : Int))).toNat (Go.Eng.B.listV l)) ++ List.drop ((n % ((↑(Go.Eng.B.listV l).length : Int) - (1 : Int))).toNat + (1 : Nat)) (List.take (Go.Eng.B.listV l).length (Go.Eng.B.listV l))) (Go.Eng.B.listV m) == (0 : Int)) = Bool.true, (Go.Eng.B.selE (List.drop (0 : Nat) (List.take (n % ((↑(Go.Eng.B.listV l).length : Int) - (1 : Int))).toNat (Go.Eng.B.listV l)) ++ List.drop ((n % ((↑(Go.Eng.B.listV l).length : Int) - (1 : Int))).toNat + (1 : Nat)) (List.take (Go.Eng.B.listV l).length (Go.Eng.B.listV l))) (Go.Eng.B.listV m) != (0 : Int)) = Bool.false, (0 : Int) ≤ (↑(Go.Eng.B.listV l).length : Int) - (1 : Int), ((↑(Go.Eng.B.listV l).length : Int) - (1 : Int)).toNat < (Go.Eng.B.listV l).length, (Go.Eng.B.selV (List.drop (0 : Nat) (List.take (n % ((↑(Go.Eng.B.listV l).length : Int) - (1 : Int))).toNat (Go.Eng.B.listV l)) ++ List.drop ((n % ((↑(Go.Eng.B.listV l).length : Int) - (1 : Int))).toNat + (1 : Nat)) (List.take (Go.Eng.B.listV l).length (Go.Eng.B.listV l))) (Go.Eng.B.listV m) == (Go.Eng.B.listV l).getD ((↑(Go.Eng.B.listV l).length : Int) - (1 : Int)).toNat (0 : Int)) = Bool.false]) (sc' := []) (by kernel_rfl) ?_ ?_
              · exact ⟨hc0, (by first | assumption | omega | (have := hk (by omega); first | omega | (simp [slenD, SV.slen]; omega))), (by first | assumption | omega | (have := hk (by omega); first | omega | (simp [slenD, SV.slen]; omega))), (by first | assumption | omega | (have := hk (by omega); first | omega | (simp [slenD, SV.slen]; omega))), (by first | assumption | omega | (have := hk (by omega); first | omega | (simp [slenD, SV.slen]; omega))), (by first | assumption | omega | (have := hk (by omega); first | omega | (simp [slenD, SV.slen]; omega))), (by first | assumption | omega | (have := hk (by omega); first | omega | (simp [slenD, SV.slen]; omega))), (by first | assumption | omega | (have := hk (by omega); first | omega | (simp [slenD, SV.slen]; omega))), (by first | assumption | omega | (have := hk (by omega); first | omega | (simp [slenD, SV.slen]; omega))), hc1, (by first | assumption | omega | (have := hk (by omega); first | omega | (simp [slenD, SV.slen]; omega))), (by first | assumption | omega | (have := hk (by omega); first | omega | (simp [slenD, SV.slen]; omega))), hc2, hc3, hc4, (by first | assumption | omega | (have := hk (by omega); first | omega | (simp [slenD, SV.slen]; omega))), (by first | assumption | omega | (have := hk (by omega); first | omega | (simp [slenD, SV.slen]; omega))), hc5, trivial⟩
              · first | exact wkR_of rfl | (exfalso; obtain ⟨q1, q2⟩ := law (by omega); rw [hF] at *; simp_all [sub1]; done) | (obtain ⟨q1, q2⟩ := law (by omega); simp only [hF, sub1] at *; refine wkR_of (congrArg SV.b ?_); first | (simp_all; done) | rfl)
        · refine hold_endw mixed okL5 (unroll := true) (f := 400) (sc := [false, false, true, false]) (r := (Go.Eng.SV.cb Bool.false)) (ob := [Decidable.decide ((Go.Eng.B.listV l).length < (2 : Nat)) = Bool.false, (0 : Int) < (↑(Go.Eng.B.listV l).length : Int) - (1 : Int), (0 : Nat) ≤ (n % ((↑(Go.Eng.B.listV l).length : Int) - (1 : Int))).toNat, (n % ((↑(Go.Eng.B.listV l).length : Int) - (1 : Int))).toNat ≤ (Go.Eng.B.listV l).length, (n % ((↑(Go.Eng.B.listV l).length : Int) - (1 : Int))).toNat + (1 : Nat) < (9223372036854775808 : Nat), (n % ((↑(Go.Eng.B.listV l).length : Int) - (1 : Int))).toNat + (1 : Nat) ≤ (Go.Eng.B.listV l).length, (Go.Eng.B.listV l).length ≤ (Go.Eng.B.listV l).length, Go.Eng.slenD (Go.Eng.SV.sli (List.drop (0 : Nat) (List.take (n % ((↑(Go.Eng.B.listV l).length : Int) - (1 : Int))).toNat (Go.Eng.B.listV l)))) * (8 : Nat) ≤ (140737488355328 : Nat), Go.Eng.slenD (Go.Eng.SV.sli (List.drop (0 : Nat) (List.take (n % ((↑(Go.Eng.B.listV l).length : Int) - (1 : Int))).toNat (Go.Eng.B.listV l)) ++ List.drop ((n % ((↑(Go.Eng.B.listV l).length : Int) - (1 : Int))).toNat + (1 : Nat)) (List.take (Go.Eng.B.listV l).length (Go.Eng.B.listV l)))) * (8 : Nat) ≤ (140737488355328 : Nat), (Go.Eng.B.selE (Go.Eng.B.listV l) (Go.Eng.B.listV m) != (0 : Int)) = Bool.false, (0 : Int) ≤ (↑(Go.Eng.B.listV l).length : Int) - (1 : Int), ((↑(Go.Eng.B.listV l).length : Int) - (1 : Int)).toNat < (Go.Eng.B.listV l).length, (Go.Eng.B.selV (Go.Eng.B.listV l) (Go.Eng.B.listV m) == (Go.Eng.B.listV l).getD ((↑(Go.Eng.B.listV l).length : Int) - (1 : Int)).toNat (0 : Int)) = Bool.true, (Go.Eng.B.selE (List.drop (0 : Nat) (List.take (n % ((↑(Go.Eng.B.listV l).length : Int) - (1 : Int))).toNat (Go.Eng.B.listV l)) ++ List.drop ((n % ((↑(Go.Eng.B.listV l).length : Int) - (1 : Int))).toNat + (1 : Nat)) (List.take (Go.Eng.B.listV l).length (Go.Eng.B.listV l))) (Go.Eng.B.listV m) == (0 : Int)) = Bool.false]) (sc' := []) (by kernel_rfl) ?_ ?_
          · exact ⟨hc0, (by first | assumption | omega | (have := hk (by omega); first | omega | (simp [slenD, SV.slen]; omega))), (by first | assumption | omega | (have := hk (by omega); first | omega | (simp [slenD, SV.slen]; omega))), (by first | assumption | omega | (have := hk (by omega); first | omega | (simp [slenD, SV.slen]; omega))), (by first | assumption | omega | (have := hk (by omega); first | omega | (simp [slenD, SV.slen]; omega))), (by first | assumption | omega | (have := hk (by omega); first | omega | (simp [slenD, SV.slen]; omega))), (by first | assumption | omega | (have := hk (by omega); first | omega | (simp [slenD, SV.slen]; omega))), (by first | assumption | omega | (have := hk (by omega); first | omega | (simp [slenD, SV.slen]; omega))), (by first | assumption | omega | (have := hk (by omega); first | omega | (simp [slenD, SV.slen]; omega))), hc1, (by first | assumption | omega | (have := hk (by omega); first | omega | (simp [slenD, SV.slen]; omega))), (by first | assumption | omega | (have := hk (by omega); first | omega | (simp [slenD, SV.slen]; omega))), hc2, hc3, trivial⟩
          · first | exact wkR_of rfl | (exfalso; obtain ⟨q1, q2⟩ := law (by omega); rw [hF] at *; simp_all [sub1]; done) | (obtain ⟨q1, q2⟩ := law (by omega); simp only [hF, sub1] at *; refine wkR_of (congrArg SV.b ?_); first | (simp_all; done) | rfl)
      · refine hold_endw mixed okL5 (unroll := true) (f := 400) (sc := [false, false, false]) (r := (Go.Eng.SV.cb Bool.false)) (ob := [Decidable.decide ((Go.Eng.B.listV l).length < (2 : Nat)) = Bool.false, (0 : Int) < (↑(Go.Eng.B.listV l).length : Int) - (1 : Int), (0 : Nat) ≤ (n % ((↑(Go.Eng.B.listV l).length : Int) - (1 : Int))).toNat, (n % ((↑(Go.Eng.B.listV l).length : Int) - (1 : Int))).toNat ≤ (Go.Eng.B.listV l).length, (n % ((↑(Go.Eng.B.listV l).length : Int) - (1 : Int))).toNat + (1 : Nat) < (9223372036854775808 : Nat), (n % ((↑(Go.Eng.B.listV l).length : Int) - (1 : Int))).toNat + (1 : Nat) ≤ (Go.Eng.B.listV l).length, (Go.Eng.B.listV l).length ≤ (Go.Eng.B.listV l).length, Go.Eng.slenD (Go.Eng.SV.sli (List.drop (0 : Nat) (List.take (n % ((↑(Go.Eng.B.listV l).length : Int) - (1 : Int))).toNat (Go.Eng.B.listV l)))) * (8 : Nat) ≤ (140737488355328 : Nat), Go.Eng.slenD (Go.Eng.SV.sli (List.drop (0 : Nat) (List.take (n % ((↑(Go.Eng.B.listV l).length : Int) - (1 : Int))).toNat (Go.Eng.B.listV l)) ++ List.drop ((n % ((↑(Go.Eng.B.listV l).length : Int) - (1 : Int))).toNat + (1 : Nat)) (List.take (Go.Eng.B.listV l).length (Go.Eng.B.listV l)))) * (8 : Nat) ≤ (140737488355328 : Nat), (Go.Eng.B.selE (Go.Eng.B.listV l) (Go.Eng.B.listV m) != (0 : Int)) = Bool.false, (0 : Int) ≤ (↑(Go.Eng.B.listV l).length : Int) - (1 : Int), ((↑(Go.Eng.B.listV l).length : Int) - (1 : Int)).toNat < (Go.Eng.B.listV l).length, (Go.Eng.B.selV (Go.Eng.B.listV l) (Go.Eng.B.listV m) == (Go.Eng.B.listV l).getD ((↑(Go.Eng.B.listV l).length : Int) - (1 : Int)).toNat (0 : Int)) = Bool.false]) (sc' := []) (by kernel_rfl) ?_ ?_
        · exact ⟨hc0, (by first | assumption | omega | (have := hk (by omega); first | omega | (simp [slenD, SV.slen]; omega))), (by first | assumption | omega | (have := hk (by omega); first | omega | (simp [slenD, SV.slen]; omega))), (by first | assumption | omega | (have := hk (by omega); first | omega | (simp [slenD, SV.slen]; omega))), (by first | assumption | omega | (have := hk (by omega); first | omega | (simp [slenD, SV.slen]; omega))), (by first | assumption | omega | (have := hk (by omega); first | omega | (simp [slenD, SV.slen]; omega))), (by first | assumption | omega | (have := hk (by omega); first | omega | (simp [slenD, SV.slen]; omega))), (by first | assumption | omega | (have := hk (by omega); first | omega | (simp [slenD, SV.slen]; omega))), (by first | assumption | omega | (have := hk (by omega); first | omega | (simp [slenD, SV.slen]; omega))), hc1, (by first | assumption | omega | (have := hk (by omega); first | omega | (simp [slenD, SV.slen]; omega))), (by first | assumption | omega | (have := hk (by omega); first | omega | (simp [slenD, SV.slen]; omega))), hc2, trivial⟩
        · first | exact wkR_of rfl | (exfalso; obtain ⟨q1, q2⟩ := law (by omega); rw [hF] at *; simp_all [sub1]; done) | (obtain ⟨q1, q2⟩ := law (by omega); simp only [hF, sub1] at *; refine wkR_of (congrArg SV.b ?_); first | (simp_all; done) | rfl)
end Go.Eng.B

/- SuiteAgrees gives true. -/
namespace Go.Eng.B
open Go Go.Eng Go.Proofs
def sAo (own th : List Int) (b : Int) (o : Nat) : St := ⟨132, [(5, .sli own), (6, .sli th), (7, .sli (offL own [])), (9, .i .i64 b), (38, .sli own), (39, .u .i64 own.length), (40, .u .i64 o)], [], 0, 0⟩
def sAi (own th : List Int) (b x : Int) (o i : Nat) : St := ⟨132, [(5, .sli own), (6, .sli th), (7, .sli (offL own [])), (9, .i .i64 b), (11, .i .i64 x), (38, .sli own), (39, .u .i64 own.length), (40, .u .i64 o), (44, .sli th), (45, .u .i64 th.length), (46, .u .i64 i)], [], 0, 0⟩
def stAo : List It := [.lp [0, 1, 0, 1, 1, 1, 1, 1], .blk 0, .at [1, 1, 1, 1, 1, 1]]
def stAi : List It := [.lp [0, 1, 1, 0, 0, 1, 1, 0, 0, 1, 0, 1, 1, 1, 1, 1], .blk 2, .blk 1, .at [1, 1, 1, 0, 0, 1, 0, 1, 1, 1, 1, 1], .lp [0, 1, 0, 1, 1, 1, 1, 1], .blk 0, .at [1, 1, 1, 1, 1, 1]]
section
variable {w0 : World} {S : Own}
def upB (th : List Int) (x b : Int) : Int := if b < 0 ∧ hasV th x = true then x else b
theorem has_take {th : List Int} {x : Int} {i : Nat} (h : i < th.length) : hasV (th.take (i + 1)) x = (hasV (th.take i) x || x == th.getD i 0) := by
  rw [has_eq, has_eq, List.take_add_one, List.any_append, List.getD_eq_getElem?_getD, List.getElem?_eq_getElem h]
  simp
theorem upB_same {th : List Int} {x b : Int} {i : Nat} (h : i < th.length) (hne : (x == th.getD i 0) = false) : upB (th.take (i + 1)) x b = upB (th.take i) x b := by
  unfold upB; rw [has_take h, hne, Bool.or_false]
theorem upB_hit {th : List Int} {x b : Int} {i : Nat} (hx : 0 ≤ x) (h : i < th.length) (he : (x == th.getD i 0) = true) : (upB (th.take i) x b < 0 → upB (th.take (i + 1)) x b = x) ∧ (¬ upB (th.take i) x b < 0 → upB (th.take (i + 1)) x b = upB (th.take i) x b) := by
  unfold upB
  rw [has_take h, he, Bool.or_true]
  simp only [and_true]
  constructor
  · intro h1
    split at h1
    · omega
    · rw [if_pos h1]
  · intro h1
    split at h1
    · rename_i hc; rw [if_pos hc.1, if_pos hc]
    · rename_i hc; rw [if_neg hc, if_neg h1]
theorem inR_upB {th : List Int} {x b : Int} (hx : inR .i64 x) (hb : inR .i64 b) : inR .i64 (upB th x b) := by unfold upB; split <;> assumption
theorem ai_in (own th : List Int) (x b : Int) (o : Nat) (hx : 0 ≤ x) (ho : o < 1000) (ht : th.length < 9223372036854775808)
    (hk : Hold Try.prog (bodyOf Try.f4) (Fin Try.prog Try.f4 w0 S (.b true)) w0 S stAo (sAo own th (upB th x b) (o + 1))) :
    ∀ d i, th.length - i = d → i ≤ th.length → Hold Try.prog (bodyOf Try.f4) (Fin Try.prog Try.f4 w0 S (.b true)) w0 S stAi (sAi own th (upB (th.take i) x b) x o i) := by
  intro d
  induction d using Nat.strongRecOn with
  | _ d ih =>
  intro i hd hi
  have hfull : ¬ i < th.length → upB (th.take i) x b = upB th x b := fun h => by rw [List.take_of_length_le (by omega)]
  have hih : i < th.length → Hold Try.prog (bodyOf Try.f4) (Fin Try.prog Try.f4 w0 S (.b true)) w0 S stAi (sAi own th (upB (th.take (i + 1)) x b) x o (i + 1)) := fun h => ih (th.length - (i + 1)) (by omega) (i + 1) rfl (by omega)
  generalize hB : upB (th.take i) x b = B at *
  refine hold_unroll (c := _) rfl ?_
  rcases Bool.eq_false_or_eq_true (Decidable.decide (i < th.length)) with hc0 | hc0
  · have hd0 := of_decide_eq_true hc0
    rcases Bool.eq_false_or_eq_true (x == th.getD i (0 : Int)) with hc1 | hc1
    · rcases Bool.eq_false_or_eq_true (Decidable.decide (B < (0 : Int))) with hc2 | hc2
      · have hd2 := of_decide_eq_true hc2
        refine hold_cut mixed okL5 (unroll := false) (f := 100) (sc := [true, true, true]) (ks := [5,6,7,9,11,38,39,40,44,45,46]) (bs := []) (nx := 0) (st' := [Go.Eng.It.lp [(0 : Nat), (1 : Nat), (1 : Nat), (0 : Nat), (0 : Nat), (1 : Nat), (1 : Nat), (0 : Nat), (0 : Nat), (1 : Nat), (0 : Nat), (1 : Nat), (1 : Nat), (1 : Nat), (1 : Nat), (1 : Nat)], Go.Eng.It.blk (2 : Nat), Go.Eng.It.blk (1 : Nat), Go.Eng.It.at [(1 : Nat), (1 : Nat), (1 : Nat), (0 : Nat), (0 : Nat), (1 : Nat), (0 : Nat), (1 : Nat), (1 : Nat), (1 : Nat), (1 : Nat), (1 : Nat)], Go.Eng.It.lp [(0 : Nat), (1 : Nat), (0 : Nat), (1 : Nat), (1 : Nat), (1 : Nat), (1 : Nat), (1 : Nat)], Go.Eng.It.blk (0 : Nat), Go.Eng.It.at [(1 : Nat), (1 : Nat), (1 : Nat), (1 : Nat), (1 : Nat), (1 : Nat)]]) (σ' := { nt := (132 : Nat), slots := [((5 : Nat), Go.Eng.SV.sli own), ((6 : Nat), Go.Eng.SV.sli th), ((7 : Nat), Go.Eng.SV.sli (Go.Eng.B.offL own [])), ((9 : Nat), Go.Eng.SV.i Go.IntKind.i64 x), ((11 : Nat), Go.Eng.SV.i Go.IntKind.i64 x), ((38 : Nat), Go.Eng.SV.sli own), ((39 : Nat), Go.Eng.SV.u Go.IntKind.i64 own.length), ((40 : Nat), Go.Eng.SV.u Go.IntKind.i64 o), ((44 : Nat), Go.Eng.SV.sli th), ((45 : Nat), Go.Eng.SV.u Go.IntKind.i64 th.length), ((46 : Nat), Go.Eng.SV.u Go.IntKind.i64 (i + (1 : Nat)))], blks := [], next := (0 : Nat) }) (ob := [Decidable.decide (i < th.length) = Bool.true, i < th.length, (x == th.getD i (0 : Int)) = Bool.true, Decidable.decide (B < (0 : Int)) = Bool.true, i + (1 : Nat) < (9223372036854775808 : Nat)]) (sc' := []) (by kernel_rfl) ?_ ?_
        · exact ⟨hc0, (by first | assumption | omega), hc1, hc2, (by first | assumption | omega), trivial⟩
        · first | (have e := hih (by assumption); rw [upB_same (by assumption) (by assumption), hB] at e; exact Hold.weaken e (by simp [wks, wk, wk0, sAi])) | (have e := hih (by assumption); rw [(upB_hit hx (by assumption) (by assumption)).1 (by rw [hB]; assumption)] at e; exact Hold.weaken e (by simp [wks, wk, wk0, sAi])) | (have e := hih (by assumption); rw [(upB_hit hx (by assumption) (by assumption)).2 (by rw [hB]; assumption), hB] at e; exact Hold.weaken e (by simp [wks, wk, wk0, sAi])) | (rw [← hfull (by assumption)] at hk; exact hold_restrict (ks := [5,6,7,9,38,39,40]) (bs := []) (nx := 0) rfl (Hold.weaken hk (by simp [wks, wk, wk0, sAo])))
      · have hd2 := of_decide_eq_false hc2
        refine hold_cut mixed okL5 (unroll := false) (f := 100) (sc := [true, true, false]) (ks := [5,6,7,9,11,38,39,40,44,45,46]) (bs := []) (nx := 0) (st' := [Go.Eng.It.lp [(0 : Nat), (1 : Nat), (1 : Nat), (0 : Nat), (0 : Nat), (1 : Nat), (1 : Nat), (0 : Nat), (0 : Nat), (1 : Nat), (0 : Nat), (1 : Nat), (1 : Nat), (1 : Nat), (1 : Nat), (1 : Nat)], Go.Eng.It.blk (2 : Nat), Go.Eng.It.blk (1 : Nat), Go.Eng.It.at [(1 : Nat), (1 : Nat), (1 : Nat), (0 : Nat), (0 : Nat), (1 : Nat), (0 : Nat), (1 : Nat), (1 : Nat), (1 : Nat), (1 : Nat), (1 : Nat)], Go.Eng.It.lp [(0 : Nat), (1 : Nat), (0 : Nat), (1 : Nat), (1 : Nat), (1 : Nat), (1 : Nat), (1 : Nat)], Go.Eng.It.blk (0 : Nat), Go.Eng.It.at [(1 : Nat), (1 : Nat), (1 : Nat), (1 : Nat), (1 : Nat), (1 : Nat)]]) (σ' := { nt := (132 : Nat), slots := [((5 : Nat), Go.Eng.SV.sli own), ((6 : Nat), Go.Eng.SV.sli th), ((7 : Nat), Go.Eng.SV.sli (Go.Eng.B.offL own [])), ((9 : Nat), Go.Eng.SV.i Go.IntKind.i64 B), ((11 : Nat), Go.Eng.SV.i Go.IntKind.i64 x), ((38 : Nat), Go.Eng.SV.sli own), ((39 : Nat), Go.Eng.SV.u Go.IntKind.i64 own.length), ((40 : Nat), Go.Eng.SV.u Go.IntKind.i64 o), ((44 : Nat), Go.Eng.SV.sli th), ((45 : Nat), Go.Eng.SV.u Go.IntKind.i64 th.length), ((46 : Nat), Go.Eng.SV.u Go.IntKind.i64 (i + (1 : Nat)))], blks := [], next := (0 : Nat) }) (ob := [Decidable.decide (i < th.length) = Bool.true, i < th.length, (x == th.getD i (0 : Int)) = Bool.true, Decidable.decide (B < (0 : Int)) = Bool.false, i + (1 : Nat) < (9223372036854775808 : Nat)]) (sc' := []) (by kernel_rfl) ?_ ?_
        · exact ⟨hc0, (by first | assumption | omega), hc1, hc2, (by first | assumption | omega), trivial⟩
        · first | (have e := hih (by assumption); rw [upB_same (by assumption) (by assumption), hB] at e; exact Hold.weaken e (by simp [wks, wk, wk0, sAi])) | (have e := hih (by assumption); rw [(upB_hit hx (by assumption) (by assumption)).1 (by rw [hB]; assumption)] at e; exact Hold.weaken e (by simp [wks, wk, wk0, sAi])) | (have e := hih (by assumption); rw [(upB_hit hx (by assumption) (by assumption)).2 (by rw [hB]; assumption), hB] at e; exact Hold.weaken e (by simp [wks, wk, wk0, sAi])) | (rw [← hfull (by assumption)] at hk; exact hold_restrict (ks := [5,6,7,9,38,39,40]) (bs := []) (nx := 0) rfl (Hold.weaken hk (by simp [wks, wk, wk0, sAo])))
    · refine hold_cut mixed okL5 (unroll := false) (f := 100) (sc := [true, false]) (ks := [5,6,7,9,11,38,39,40,44,45,46]) (bs := []) (nx := 0) (st' := [Go.Eng.It.lp [(0 : Nat), (1 : Nat), (1 : Nat), (0 : Nat), (0 : Nat), (1 : Nat), (1 : Nat), (0 : Nat), (0 : Nat), (1 : Nat), (0 : Nat), (1 : Nat), (1 : Nat), (1 : Nat), (1 : Nat), (1 : Nat)], Go.Eng.It.blk (2 : Nat), Go.Eng.It.blk (1 : Nat), Go.Eng.It.at [(1 : Nat), (1 : Nat), (1 : Nat), (0 : Nat), (0 : Nat), (1 : Nat), (0 : Nat), (1 : Nat), (1 : Nat), (1 : Nat), (1 : Nat), (1 : Nat)], Go.Eng.It.lp [(0 : Nat), (1 : Nat), (0 : Nat), (1 : Nat), (1 : Nat), (1 : Nat), (1 : Nat), (1 : Nat)], Go.Eng.It.blk (0 : Nat), Go.Eng.It.at [(1 : Nat), (1 : Nat), (1 : Nat), (1 : Nat), (1 : Nat), (1 : Nat)]]) (σ' := { nt := (132 : Nat), slots := [((5 : Nat), Go.Eng.SV.sli own), ((6 : Nat), Go.Eng.SV.sli th), ((7 : Nat), Go.Eng.SV.sli (Go.Eng.B.offL own [])), ((9 : Nat), Go.Eng.SV.i Go.IntKind.i64 B), ((11 : Nat), Go.Eng.SV.i Go.IntKind.i64 x), ((38 : Nat), Go.Eng.SV.sli own), ((39 : Nat), Go.Eng.SV.u Go.IntKind.i64 own.length), ((40 : Nat), Go.Eng.SV.u Go.IntKind.i64 o), ((44 : Nat), Go.Eng.SV.sli th), ((45 : Nat), Go.Eng.SV.u Go.IntKind.i64 th.length), ((46 : Nat), Go.Eng.SV.u Go.IntKind.i64 (i + (1 : Nat)))], blks := [], next := (0 : Nat) }) (ob := [Decidable.decide (i < th.length) = Bool.true, i < th.length, (x == th.getD i (0 : Int)) = Bool.false, i + (1 : Nat) < (9223372036854775808 : Nat)]) (sc' := []) (by kernel_rfl) ?_ ?_
      · exact ⟨hc0, (by first | assumption | omega), hc1, (by first | assumption | omega), trivial⟩
      · first | (have e := hih (by assumption); rw [upB_same (by assumption) (by assumption), hB] at e; exact Hold.weaken e (by simp [wks, wk, wk0, sAi])) | (have e := hih (by assumption); rw [(upB_hit hx (by assumption) (by assumption)).1 (by rw [hB]; assumption)] at e; exact Hold.weaken e (by simp [wks, wk, wk0, sAi])) | (have e := hih (by assumption); rw [(upB_hit hx (by assumption) (by assumption)).2 (by rw [hB]; assumption), hB] at e; exact Hold.weaken e (by simp [wks, wk, wk0, sAi])) | (rw [← hfull (by assumption)] at hk; exact hold_restrict (ks := [5,6,7,9,38,39,40]) (bs := []) (nx := 0) rfl (Hold.weaken hk (by simp [wks, wk, wk0, sAo])))
  · have hd0 := of_decide_eq_false hc0
    refine hold_cut mixed okL5 (unroll := false) (f := 100) (sc := [false]) (ks := [5,6,7,9,11,38,39,40,44,45,46]) (bs := []) (nx := 0) (st' := [Go.Eng.It.lp [(0 : Nat), (1 : Nat), (0 : Nat), (1 : Nat), (1 : Nat), (1 : Nat), (1 : Nat), (1 : Nat)], Go.Eng.It.blk (0 : Nat), Go.Eng.It.at [(1 : Nat), (1 : Nat), (1 : Nat), (1 : Nat), (1 : Nat), (1 : Nat)]]) (σ' := { nt := (132 : Nat), slots := [((5 : Nat), Go.Eng.SV.sli own), ((6 : Nat), Go.Eng.SV.sli th), ((7 : Nat), Go.Eng.SV.sli (Go.Eng.B.offL own [])), ((9 : Nat), Go.Eng.SV.i Go.IntKind.i64 B), ((11 : Nat), Go.Eng.SV.i Go.IntKind.i64 x), ((38 : Nat), Go.Eng.SV.sli own), ((39 : Nat), Go.Eng.SV.u Go.IntKind.i64 own.length), ((40 : Nat), Go.Eng.SV.u Go.IntKind.i64 (o + (1 : Nat))), ((44 : Nat), Go.Eng.SV.sli th), ((45 : Nat), Go.Eng.SV.u Go.IntKind.i64 th.length), ((46 : Nat), Go.Eng.SV.u Go.IntKind.i64 i)], blks := [], next := (0 : Nat) }) (ob := [Decidable.decide (i < th.length) = Bool.false, o + (1 : Nat) < (9223372036854775808 : Nat)]) (sc' := []) (by kernel_rfl) ?_ ?_
    · exact ⟨hc0, (by first | assumption | omega), trivial⟩
    · first | (have e := hih (by assumption); rw [upB_same (by assumption) (by assumption), hB] at e; exact Hold.weaken e (by simp [wks, wk, wk0, sAi])) | (have e := hih (by assumption); rw [(upB_hit hx (by assumption) (by assumption)).1 (by rw [hB]; assumption)] at e; exact Hold.weaken e (by simp [wks, wk, wk0, sAi])) | (have e := hih (by assumption); rw [(upB_hit hx (by assumption) (by assumption)).2 (by rw [hB]; assumption), hB] at e; exact Hold.weaken e (by simp [wks, wk, wk0, sAi])) | (rw [← hfull (by assumption)] at hk; exact hold_restrict (ks := [5,6,7,9,38,39,40]) (bs := []) (nx := 0) rfl (Hold.weaken hk (by simp [wks, wk, wk0, sAo])))
theorem ag_end (own th : List Int) (b : Int) (h1 : soundV own = true) (hb : b = bestN th own (-1)) (o : Nat) (ho : ¬ o < own.length) :
    Hold Try.prog (bodyOf Try.f4) (Fin Try.prog Try.f4 w0 S (.b true)) w0 S stAo (sAo own th b o) := by
  obtain ⟨s1, s2, s3, s4⟩ := sound_iff.1 h1
  obtain ⟨o1, o2⟩ := off_nil.2 h1
  have hx : 0 ≤ own.getD 0 0 := by
    rw [List.getD_eq_getElem?_getD, List.getElem?_eq_getElem (by omega)]
    exact s1 _ (List.getElem_mem _)
  obtain ⟨e1, e2⟩ := sel_one (th := th) hx
  rw [← o1] at e1 e2
  have hbi := bestN_idx (th := th) s1
  rw [← hb] at hbi
  have ho' : decide (o < own.length) = false := decide_eq_false ho
  refine hold_unroll (c := _) rfl ?_
  by_cases h2 : soundV th = false
  · rw [if_pos h2] at e1
    exact hold_endw mixed okL5 (unroll := false) (f := 300) (sc := [false, true]) (r := (Go.Eng.SV.b Bool.true)) (ob := [Decidable.decide (o < own.length) = Bool.false, (Go.Eng.B.selE (Go.Eng.B.offL own []) th == (1 : Int)) = Bool.true]) (sc' := []) (by kernel_rfl) ⟨ho', by rw [e1]; rfl, trivial⟩ (wkR_of rfl)
  rw [if_neg h2] at e1
  have h2 : soundV th = true := by simpa using h2
  by_cases h3 : hasV th (own.getD 0 0) = true
  · rw [if_pos h3] at e1
    rw [if_pos ⟨h2, h3⟩] at e2
    have hi : own.findIdx (hasV th) = 0 := fi_hit (Nat.zero_le _) (by omega) h3
    rw [hi, if_pos (by omega)] at hbi
    exact hold_endw mixed okL5 (unroll := false) (f := 300) (sc := [false, false, true, true, true, true]) (r := (Go.Eng.SV.b Bool.true)) (ob := [Decidable.decide (o < own.length) = Bool.false, (Go.Eng.B.selE (Go.Eng.B.offL own []) th == (1 : Int)) = Bool.false, (Go.Eng.B.selE (Go.Eng.B.offL own []) th == (0 : Int)) = Bool.true, (Go.Eng.B.selV (Go.Eng.B.offL own []) th == b) = Bool.true, (0 : Nat) < own.length, (Go.Eng.B.selV (Go.Eng.B.offL own []) th == own.getD (0 : Nat) (0 : Int)) = Bool.true, (Go.Eng.B.selE (Go.Eng.B.offL own []) th == (0 : Int)) = Bool.true]) (sc' := []) (by kernel_rfl) ⟨ho', by rw [e1]; rfl, by rw [e1]; rfl, by rw [e2, hbi]; exact beq_self_eq_true _, by omega, by rw [e2]; exact beq_self_eq_true _, by rw [e1]; rfl, trivial⟩ (wkR_of rfl)
  rw [if_neg h3] at e1
  have h3 : hasV th (own.getD 0 0) = false := by simpa using h3
  obtain ⟨g1, g2⟩ := agrees h1 h2 h3
  by_cases h4 : own.findIdx (hasV th) < own.length
  · rw [if_pos h4] at g1 hbi
    obtain ⟨g3, g4⟩ := g2 h4
    exact hold_endw mixed okL5 (unroll := false) (f := 300) (sc := [false, false, false, false, true, true, true, true]) (r := (Go.Eng.SV.b Bool.true)) (ob := [Decidable.decide (o < own.length) = Bool.false, (Go.Eng.B.selE (Go.Eng.B.offL own []) th == (1 : Int)) = Bool.false, (Go.Eng.B.selE (Go.Eng.B.offL own []) th == (0 : Int)) = Bool.false, (Go.Eng.B.offE own th != (0 : Int)) = Bool.false, (Go.Eng.B.selE (Go.Eng.B.offL own []) th == (18 : Int)) = Bool.true, (Go.Eng.B.selE (Go.Eng.B.offL own th) th == (0 : Int)) = Bool.true, (Go.Eng.B.selV (Go.Eng.B.offL own th) th == b) = Bool.true, (!Go.Eng.B.selE (Go.Eng.B.offL own []) th == (0 : Int)) = Bool.true]) (sc' := []) (by kernel_rfl) ⟨ho', by rw [e1]; rfl, by rw [e1]; rfl, by rw [g1]; rfl, by rw [e1]; rfl, by rw [g3]; rfl, by rw [g4, hbi]; exact beq_self_eq_true _, by rw [e1]; rfl, trivial⟩ (wkR_of rfl)
  · rw [if_neg h4] at g1 hbi
    exact hold_endw mixed okL5 (unroll := false) (f := 300) (sc := [false, false, false, true, true, true]) (r := (Go.Eng.SV.b Bool.true)) (ob := [Decidable.decide (o < own.length) = Bool.false, (Go.Eng.B.selE (Go.Eng.B.offL own []) th == (1 : Int)) = Bool.false, (Go.Eng.B.selE (Go.Eng.B.offL own []) th == (0 : Int)) = Bool.false, (Go.Eng.B.offE own th != (0 : Int)) = Bool.true, (Go.Eng.B.offE own th == (18 : Int)) = Bool.true, Decidable.decide (b < (0 : Int)) = Bool.true]) (sc' := []) (by kernel_rfl) ⟨ho', by rw [e1]; rfl, by rw [e1]; rfl, by rw [g1]; rfl, by rw [g1]; rfl, by rw [hbi]; rfl, trivial⟩ (wkR_of rfl)
theorem ao_in (own th : List Int) (h1 : soundV own = true) (ht : th.length < 9223372036854775808) : ∀ d o (b : Int), own.length - o = d → o ≤ own.length → inR .i64 b → bestN th (own.drop o) b = bestN th own (-1) →
    Hold Try.prog (bodyOf Try.f4) (Fin Try.prog Try.f4 w0 S (.b true)) w0 S stAo (sAo own th b o) := by
  obtain ⟨s1, s2, s3, s4⟩ := sound_iff.1 h1
  intro d
  induction d using Nat.strongRecOn with
  | _ d ih =>
  intro o b hd ho hbR hb
  by_cases hlt : o < own.length
  · have hx : 0 ≤ own.getD o 0 := by
      rw [List.getD_eq_getElem?_getD, List.getElem?_eq_getElem hlt]
      exact s1 _ (List.getElem_mem _)
    have hdrop : own.drop o = own.getD o 0 :: own.drop (o + 1) := by
      rw [List.drop_eq_getElem_cons hlt, List.getD_eq_getElem?_getD, List.getElem?_eq_getElem hlt]
      rfl
    have hup : upB th (own.getD o 0) b = (if b < 0 ∧ hasV th (own.getD o 0) = true then own.getD o 0 else b) := rfl
    have hlo : decide (o < own.length) = true := decide_eq_true hlt
    rw [hdrop] at hb
    simp only [bestN] at hb
    rw [← hup] at hb
    have hu0 : upB (th.take 0) (own.getD o 0) b = b := by unfold upB; simp [hasV, fiV]
    refine hold_unroll (c := _) rfl ?_
    refine hold_cut mixed okL5 (unroll := false) (f := 100) (sc := [true]) (ks := [5,6,7,9,11,38,39,40,44,45,46]) (bs := []) (nx := 0) (st' := [Go.Eng.It.lp [(0 : Nat), (1 : Nat), (1 : Nat), (0 : Nat), (0 : Nat), (1 : Nat), (1 : Nat), (0 : Nat), (0 : Nat), (1 : Nat), (0 : Nat), (1 : Nat), (1 : Nat), (1 : Nat), (1 : Nat), (1 : Nat)], Go.Eng.It.blk (2 : Nat), Go.Eng.It.blk (1 : Nat), Go.Eng.It.at [(1 : Nat), (1 : Nat), (1 : Nat), (0 : Nat), (0 : Nat), (1 : Nat), (0 : Nat), (1 : Nat), (1 : Nat), (1 : Nat), (1 : Nat), (1 : Nat)], Go.Eng.It.lp [(0 : Nat), (1 : Nat), (0 : Nat), (1 : Nat), (1 : Nat), (1 : Nat), (1 : Nat), (1 : Nat)], Go.Eng.It.blk (0 : Nat), Go.Eng.It.at [(1 : Nat), (1 : Nat), (1 : Nat), (1 : Nat), (1 : Nat), (1 : Nat)]]) (σ' := { nt := (132 : Nat), slots := [((5 : Nat), Go.Eng.SV.sli own), ((6 : Nat), Go.Eng.SV.sli th), ((7 : Nat), Go.Eng.SV.sli (Go.Eng.B.offL own [])), ((9 : Nat), Go.Eng.SV.i Go.IntKind.i64 b), ((11 : Nat), Go.Eng.SV.i Go.IntKind.i64 (own.getD o (0 : Int))), ((38 : Nat), Go.Eng.SV.sli own), ((39 : Nat), Go.Eng.SV.u Go.IntKind.i64 own.length), ((40 : Nat), Go.Eng.SV.u Go.IntKind.i64 o), ((44 : Nat), Go.Eng.SV.sli th), ((45 : Nat), Go.Eng.SV.u Go.IntKind.i64 th.length), ((46 : Nat), Go.Eng.SV.c Go.IntKind.i64 (0 : Int))], blks := [], next := (0 : Nat) }) (ob := [Decidable.decide (o < own.length) = Bool.true, o < own.length]) (sc' := []) (by kernel_rfl) ⟨hlo, hlt, trivial⟩ ?_
    intro β a w hS
    have hxR : inR .i64 (own.getD o 0) := by
      exact pureF_ok (.i .i64 (own.getD o 0)) _ (relV_scalar rfl rfl (hS.slot 11 (.i .i64 (own.getD o 0)) (by simp)))
    have := ai_in (w0 := w0) (S := S) own th (own.getD o 0) b o hx (by omega) ht (ih (own.length - (o + 1)) (by omega) (o + 1) _ rfl (by omega) (inR_upB hxR hbR) hb) th.length 0 rfl (Nat.zero_le _)
    rw [hu0] at this
    exact Hold.weaken this (by simp [wks, wk, wk0, lim]) β a w hS
  · exact ag_end own th b h1 (by rw [List.drop_of_length_le (by omega)] at hb; exact hb) o hlt
theorem lawAgrees (l m : List Int) : Contract Try.prog 4 [.sli l, .sli m] (.b true) := by
  refine contract Try.func4 (body := bodyOf Try.f4) rfl (by kernel_rfl) (by kernel_rfl) rfl ?_
  rintro _ w0 S
  have hlen := listV_len m
  obtain ⟨o1, o2⟩ := off_nil (own := listV l)
  by_cases h1 : soundV (listV l) = true
  · obtain ⟨q1, q2⟩ := o2 h1
    refine hold_cut mixed okL5 (unroll := false) (f := 100) (sc := [false]) (ks := [5,6,7,9,38,39,40]) (bs := []) (nx := 0) (st' := [Go.Eng.It.lp [(0 : Nat), (1 : Nat), (0 : Nat), (1 : Nat), (1 : Nat), (1 : Nat), (1 : Nat), (1 : Nat)], Go.Eng.It.blk (0 : Nat), Go.Eng.It.at [(1 : Nat), (1 : Nat), (1 : Nat), (1 : Nat), (1 : Nat), (1 : Nat)]]) (σ' := { nt := (132 : Nat), slots := [((5 : Nat), Go.Eng.SV.sli (Go.Eng.B.listV l)), ((6 : Nat), Go.Eng.SV.sli (Go.Eng.B.listV m)), ((7 : Nat), Go.Eng.SV.sli (Go.Eng.B.offL (Go.Eng.B.listV l) [])), ((9 : Nat), Go.Eng.SV.c Go.IntKind.i64 (-1 : Int)), ((38 : Nat), Go.Eng.SV.sli (Go.Eng.B.listV l)), ((39 : Nat), Go.Eng.SV.u Go.IntKind.i64 (Go.Eng.B.listV l).length), ((40 : Nat), Go.Eng.SV.c Go.IntKind.i64 (0 : Int))], blks := [], next := (0 : Nat) }) (ob := [(Go.Eng.B.offE (Go.Eng.B.listV l) [] != (0 : Int)) = Bool.false]) (sc' := []) (by kernel_rfl) ⟨by rw [q2]; rfl, trivial⟩ ?_
    exact Hold.weaken (ao_in (listV l) (listV m) h1 (by omega) _ 0 (-1) rfl (Nat.zero_le _) (by decide) rfl) (by simp [wks, wk, wk0, lim])
  · obtain ⟨q1, q2⟩ := o1 (by simpa using h1)
    exact hold_endw mixed okL5 (unroll := false) (f := 300) (sc := [true, true]) (r := (Go.Eng.SV.b Bool.true)) (ob := [(Go.Eng.B.offE (Go.Eng.B.listV l) [] != (0 : Int)) = Bool.true, (Go.Eng.B.offE (Go.Eng.B.listV l) [] == (1 : Int)) = Bool.true]) (sc' := []) (by kernel_rfl) ⟨by rw [q2]; rfl, by rw [q2]; rfl, trivial⟩ (wkR_of rfl)
end
end Go.Eng.B

/- From a contract to a row: the arguments as they come in. -/
namespace Go.Eng
open Go.RowKit

theorem has_inR {k : IntKind} {n : Int} (h : k.has n) : inR k n := by
  cases k <;> simp only [IntKind.has, IntKind.min, IntKind.max, IntKind.signed, IntKind.bits, inR, lo, lim] at * <;> simp at h ⊢ <;> omega

theorem int_of {P : Program} {w : World} {r : Reach} {base : Nat} {t : TypeId} {v : Value} {k : IntKind} (ht : P.underlying t = some (.int k)) (h : Value.okWide P w r base t v) : ∃ n, v = .int k n ∧ k.has n := by
  obtain ⟨n, rfl⟩ := WideShapes.okWide_int ht h
  refine ⟨n, rfl, ?_⟩
  simpa [Value.okWide, Cell.okWide, Cell.ok, ht] using h

theorem open_i {P : Program} {w : World} {r : Reach} {base : Nat} {t : TypeId} {v : Value} {k : IntKind} (ht : P.underlying t = some (.int k)) (h : Value.okWide P w r base t v) {β : Nat → Nat} {ow : Own} {w' : World} :
    ∃ n, relV1 β ow w' (.i k n) v := by
  obtain ⟨n, rfl, hn⟩ := int_of ht h
  exact ⟨n, _, rel_i (has_inR hn), rfl⟩

theorem ints_of {k : IntKind} (hk : k.signed = false) : ∀ (cs : List Value), (∀ v ∈ cs, ∃ n, v = .int k n ∧ k.has n) → ∃ l : List Nat, cs = ints k l ∧ l.length = cs.length ∧ ∀ x ∈ l, x < lim k := by
  intro cs
  induction cs with
  | nil => intro _; exact ⟨[], rfl, rfl, by simp⟩
  | cons v cs ih =>
    intro h
    obtain ⟨l, h1, h2, h3⟩ := ih fun u hu => h u (by simp [hu])
    obtain ⟨n, rfl, hn⟩ := h v (by simp)
    have hr := has_inR hn
    have h0 : 0 ≤ n := by cases k <;> simp [IntKind.signed] at hk <;> simp only [inR, lo] at hr <;> omega
    refine ⟨n.toNat :: l, ?_, by simp [h2], ?_⟩
    · simp only [ints, List.map_cons, Int.toNat_of_nonneg h0]
      rw [h1]; rfl
    · intro x hx
      rcases List.mem_cons.1 hx with rfl | hx
      · have := hr.2; omega
      · exact h3 x hx

theorem open_arr {P : Program} {w : World} {r : Reach} {base : Nat} {t e u : TypeId} {v : Value} {k : IntKind} {n : Nat} (ht : P.underlying t = some (.array n e)) (hct : P.cellTypes P.depth t = some (List.replicate n u)) (hsz : P.cellsOf t = n)
    (hu : P.underlying u = some (.int k)) (hk : k.signed = false) (h : Value.okWide P w r base t v) {β : Nat → Nat} {ow : Own} {w' : World} : ∃ l, relV1 β ow w' (.arr k n l) v := by
  simp only [Value.okWide, ht] at h
  obtain ⟨cs, rfl, hs, ts, hts, _, hc⟩ := h
  rw [hct] at hts
  cases hts
  obtain ⟨l, h1, h2, h3⟩ := ints_of hk cs.toList fun v hv => by
    obtain ⟨i, hi⟩ := List.getElem?_of_mem hv
    obtain ⟨u', hu', hok⟩ := hc i v (by simpa using hi)
    have : u' = u := by
      have := List.mem_of_getElem? hu'
      exact List.eq_of_mem_replicate this
    subst this
    exact int_of (w := w) (r := r) (base := base) hu (by simp only [Value.okWide, hu]; exact hok)
  refine ⟨l, ints k l, rel_arr ?_ h3, ?_⟩
  · rw [h2]; simp [hs, hsz]
  · simp only [SV.isAgg, toV, if_true]
    rw [← h1]

/-- the call, out of the contract -/
theorem Contract.calls {P : Program} {f : FuncId} {fn : Func} {body : Code} {args : List SV} {res : SV} (h : Contract P f args res) (hf : P.funcs[f]? = some fn) (hb : fn.body = some body) (hname : (fn.name == "runtime.NumGoroutine") = false)
    {w : World} {vs : List Value} (hv : relVs (fun _ => 0) (fun _ _ => False) w args vs) :
    Calls P f vs.toArray w fun e w' => ∃ v, e = .returned v ∧ Below w.heap.size w w' ∧ relV (fun _ => 0) (fun _ _ => False) w' res v := by
  have h1 := h w (fun _ _ => False) vs (fun _ _ h => h.elim) hv
  unfold Invokes at h1
  have hcall : (callFunc f vs.toArray).run P w = .ok (.enter f vs.toArray) w := by
    have hne : ¬ fn.name = "runtime.NumGoroutine" := by simpa using hname
    simp [callFunc, hf, hb, hne]
  rw [hcall] at h1
  exact h1
end Go.Eng

/- From a contract to a row: slices, strings and bools as they come in. -/
namespace Go.Eng
open Go.RowKit Go.ChangeShapes Go.WideShapes

section
variable {H : Type} {enc : TypeId × Value → H} {P : Program} {w : World} {sp : Nat → Bool} {held : Bool} {r : Reach} {b0 : Nat} {t e : TypeId} {v : Value} {d : DataW H} {ps : List MemPlace} {k : IntKind}

theorem wf_inR {n : Int} (h : (Lit.int k n).wf = true) : inR k n := by
  apply has_inR
  have h : k.min ≤ n ∧ n ≤ k.max := by simpa [Lit.wf] using h
  exact h

theorem open_zs (ht : P.underlying t = some (.slice e)) (he : P.underlying e = some (.int k)) (hc : P.cellsOf e = 1) (hval : Value.okWide P w r b0 t v) (hd : DataW.Trod enc P w 0 sp held t v d ps) :
    ∃ zs : List Int, ReadsAs (fun _ _ => False) w v (zs.map fun n : Int => Value.int k n) ∧ ∀ n ∈ zs, inR k n := by
  obtain ⟨a0, len, cap, rfl⟩ := okWide_slice ht hval
  obtain ⟨fuel, hf⟩ := hd
  rcases ChangeShapes.open_ints ht he hc hf with ⟨h1, _⟩ | ⟨a, len', cap', zs, h1, _, hl, hm, hz, _, hcell, hwf⟩
  · simp only [Value.cells, List.cons.injEq, and_true] at h1
    cases h1
    exact ⟨[], ⟨none, 0, 0, rfl, rfl, Nat.le_refl _, by omega, fun h => absurd h (by omega)⟩, by simp⟩
  · simp only [Value.cells, List.cons.injEq, and_true] at h1
    cases h1
    have hle : len ≤ zs.length := by rw [hz]; split <;> omega
    have hmax : cap < 9223372036854775808 := by simp only [maxLen] at hm; omega
    refine ⟨zs.take len, ⟨some a, len, cap, rfl, by simp; omega, hl, hmax, fun hp => ⟨a, rfl, ?_, fun _ _ h => h, fun j u hu => ?_⟩⟩, fun n hn => wf_inR (hwf n (List.mem_of_mem_take hn))⟩
    · have := hcell 0 (by omega)
      simp only [Addr.add, if_true] at this
      cases hs : a.spot with
      | none => rfl
      | some q => simp [World.cell?, hs] at this; split at this <;> cases this
    · have hj : j < len := by
        have := (List.getElem?_eq_some_iff.1 hu).1
        simp at this; omega
      have h0 := hcell 0 (by omega)
      have hs : a.spot = none := by
        simp only [Addr.add, if_true] at h0
        cases hs : a.spot with
        | none => rfl
        | some q => simp [World.cell?, hs] at h0; split at h0 <;> cases h0
      have := hcell j (by omega)
      rw [add_spot hs] at this
      rw [this]
      simp only [List.getElem?_map, List.getElem?_take_of_lt hj, Option.map_eq_some_iff] at hu
      obtain ⟨z, hz1, rfl⟩ := hu
      simp [List.getD_eq_getElem?_getD, hz1]

theorem nats_of (hk : k.signed = false) : ∀ (zs : List Int), (∀ n ∈ zs, inR k n) → ∃ l : List Nat, (zs.map fun n : Int => Value.int k n) = ints k l ∧ ∀ x ∈ l, x < lim k := by
  intro zs
  induction zs with
  | nil => intro _; exact ⟨[], rfl, by simp⟩
  | cons n zs ih =>
    intro h
    obtain ⟨l, h1, h2⟩ := ih fun m hm => h m (by simp [hm])
    have hr := h n (by simp)
    have h0 : 0 ≤ n := by cases k <;> simp [IntKind.signed] at hk <;> simp only [inR, lo] at hr <;> omega
    refine ⟨n.toNat :: l, by simp only [ints, List.map_cons, Int.toNat_of_nonneg h0, h1], ?_⟩
    intro x hx
    rcases List.mem_cons.1 hx with rfl | hx
    · have := hr.2; omega
    · exact h2 x hx

theorem open_bytes {β : Nat → Nat} (ht : P.underlying t = some (.slice e)) (he : P.underlying e = some (.int k)) (hk : k.signed = false) (hc : P.cellsOf e = 1) (hval : Value.okWide P w r b0 t v) (hd : DataW.Trod enc P w 0 sp held t v d ps) :
    ∃ l, relV1 β (fun _ _ => False) w (.sl k l) v := by
  obtain ⟨zs, h1, h2⟩ := open_zs ht he hc hval hd
  obtain ⟨l, h3, h4⟩ := nats_of hk zs h2
  rw [h3] at h1
  exact ⟨l, [v], by simp only [rel]; exact ⟨⟨v, rfl, h1⟩, h4⟩, rfl⟩
theorem open_intl {β : Nat → Nat} (ht : P.underlying t = some (.slice e)) (he : P.underlying e = some (.int .i64)) (hc : P.cellsOf e = 1) (hval : Value.okWide P w r b0 t v) (hd : DataW.Trod enc P w 0 sp held t v d ps) :
    ∃ l, relV1 β (fun _ _ => False) w (.sli l) v := by
  obtain ⟨zs, h1, h2⟩ := open_zs ht he hc hval hd
  exact ⟨zs, [v], by simp only [rel]; exact ⟨⟨v, rfl, h1⟩, h2⟩, rfl⟩
theorem open_b {β : Nat → Nat} {ow : Own} {w' : World} (ht : P.underlying t = some .bool) (hval : Value.okWide P w r b0 t v) : ∃ x, relV1 β ow w' (.b x) v := by
  obtain ⟨b, rfl⟩ := okWide_bool ht hval
  exact ⟨b, _, rel_b, rfl⟩
theorem open_str {β : Nat → Nat} {ow : Own} {w' : World} (ht : P.underlying t = some .string) (hval : Value.okWide P w r b0 t v) : ∃ l, relV1 β ow w' (.str l) v := by
  obtain ⟨s, rfl⟩ := okWide_string ht hval
  have := constSV_ok (β := β) (ow := ow) (w := w') (v := .string s) (s := .str (s.data.toList.map (·.toNat))) rfl
  exact ⟨_, _, this.1, rfl⟩
end
end Go.Eng

