import Derived.Test.YtmigegngooecaaaE3
set_option linter.unusedVariables false
set_option linter.unusedSimpArgs false
set_option linter.unusedSectionVars false
/- The rounds of SHA-512, of both. -/
namespace Go.Eng.B
open Go Go.Eng Go.Proofs
set_option maxRecDepth 100000
set_option linter.unusedSimpArgs false
def q64 (a b x : Nat) : Nat := x * a % 18446744073709551616 ||| x / b
def wB64 (w : List Nat) (i : Nat) : Nat :=
  ((((q64 35184372088832 524288 (w.getD ((i : Int) - 2).toNat 0) ^^^ q64 8 2305843009213693952 (w.getD ((i : Int) - 2).toNat 0) ^^^ w.getD ((i : Int) - 2).toNat 0 / 64) + w.getD ((i : Int) - 7).toNat 0) % 18446744073709551616 + (q64 9223372036854775808 2 (w.getD ((i : Int) - 15).toNat 0) ^^^ q64 72057594037927936 256 (w.getD ((i : Int) - 15).toNat 0) ^^^ w.getD ((i : Int) - 15).toNat 0 / 128)) % 18446744073709551616 + w.getD ((i : Int) - 16).toNat 0) % 18446744073709551616
def stepI64 (m : List Nat) (i : Nat) (w : List Nat) (j : Nat) : List Nat := w.set i (w.getD i 0 * 256 % 18446744073709551616 ||| m.getD (8 * i + j) 0)
def I64 (m : List Nat) (i : Nat) (w : List Nat) (j : Nat) : List Nat := itr (stepI64 m i) w j
def stepW64 (m w : List Nat) (i : Nat) : List Nat := if i < 16 then I64 m i w 8 else w.set i (wB64 w i)
def t64 (k : Nat → Nat) (w s : List Nat) (i : Nat) : Nat :=
  ((((s.getD 7 0 + (q64 1125899906842624 16384 (s.getD 4 0) ^^^ q64 70368744177664 262144 (s.getD 4 0) ^^^ q64 8388608 2199023255552 (s.getD 4 0))) % 18446744073709551616 + (s.getD 4 0 &&& s.getD 5 0 ^^^ 18446744073709551615 - s.getD 4 0 &&& s.getD 6 0)) % 18446744073709551616 + k i) % 18446744073709551616 + w.getD i 0) % 18446744073709551616
def u64 (s : List Nat) : Nat := ((q64 68719476736 268435456 (s.getD 0 0) ^^^ q64 1073741824 17179869184 (s.getD 0 0) ^^^ q64 33554432 549755813888 (s.getD 0 0)) + (s.getD 0 0 &&& s.getD 1 0 ^^^ s.getD 0 0 &&& s.getD 2 0 ^^^ s.getD 1 0 &&& s.getD 2 0)) % 18446744073709551616
def stepR64 (k : Nat → Nat) (w s : List Nat) (i : Nat) : List Nat := [(t64 k w s i + u64 s) % 18446744073709551616, s.getD 0 0, s.getD 1 0, s.getD 2 0, (s.getD 3 0 + t64 k w s i) % 18446744073709551616, s.getD 4 0, s.getD 5 0, s.getD 6 0]
def stepA64 (s h : List Nat) (i : Nat) : List Nat := h.set i ((h.getD i 0 + s.getD i 0) % 18446744073709551616)
def W64 (m : List Nat) (i : Nat) : List Nat := itr (stepW64 m) (List.replicate 80 0) i
def R64 (m h : List Nat) (i : Nat) : List Nat := itr (stepR64 (gd kL) (W64 m 80)) h i
def A64 (m h : List Nat) (i : Nat) : List Nat := itr (stepA64 (R64 m h 80)) h i
def b64 (h : List Nat) : Bk := ⟨125, [.arr .u64 8 h], false⟩
def bw64 (h : List Nat) : Bk := ⟨143, [.arr .u64 80 h], false⟩
def pW : List It := [.lp [0, 1, 0, 1], .blk 0, .at [1, 1]]
def pI : List It := [.lp [0, 1, 0, 0, 1, 0, 1, 0, 0, 1, 1, 0, 0, 1, 0, 1], .blk 2, .at [1, 0, 1, 0, 1, 0, 0, 1, 1, 0, 0, 1, 0, 1], .at [1, 1, 0, 0, 1, 1, 0, 0, 1, 0, 1], .blk 1, .at [1, 1, 1, 0, 0, 1, 0, 1]] ++ pW
def pR : List It := [.lp [0, 1, 0, 1, 1, 1], .blk 4, .at [1, 1, 1, 1]]
def pA : List It := [.lp [0, 1, 1, 1, 1, 1], .blk 6]
def uW (h m w : List Nat) (i : Nat) : St := ⟨183, [(0, .ptr 0 0 (.c 0)), (1, .sl .u64 kL), (2, .sl .u8 m), (6, .ptr 1 0 (.c 0)), (19, .u .i64 i)], [(0, b64 h), (1, bw64 w)], 2, 1⟩
def uI (h m w : List Nat) (i j : Nat) : St := ⟨183, [(0, .ptr 0 0 (.c 0)), (1, .sl .u64 kL), (2, .sl .u8 m), (6, .ptr 1 0 (.c 0)), (7, .u .i64 i), (19, .u .i64 i), (30, .sl .u8 ((m.take (8 * i + 8)).drop (8 * i))), (31, .u .i64 8), (32, .u .i64 j)], [(0, b64 h), (1, bw64 w)], 2, 1⟩
def uR (h m w s : List Nat) (i : Nat) : St := ⟨183, [(0, .ptr 0 0 (.c 0)), (1, .sl .u64 kL), (2, .sl .u8 m), (6, .ptr 1 0 (.c 0)), (12, .ptr 2 0 (.c 0)), (87, .u .i64 i)], [(0, b64 h), (1, bw64 w), (2, b64 s)], 3, 1⟩
def uA (h s : List Nat) (i : Nat) : St := ⟨183, [(0, .ptr 0 0 (.c 0)), (12, .ptr 2 0 (.c 0)), (168, .u .i64 i)], [(0, b64 h), (2, b64 s)], 3, 1⟩
def vW : List It := [.lp [0, 1, 0, 1, 1, 1], .blk 0, .at [1, 1, 1, 1]]
def vI : List It := [.lp [0, 1, 0, 0, 1, 0, 1, 0, 0, 1, 1, 0, 0, 1, 0, 1, 1, 1], .blk 2, .at [1, 0, 1, 0, 1, 0, 0, 1, 1, 0, 0, 1, 0, 1, 1, 1], .at [1, 1, 0, 0, 1, 1, 0, 0, 1, 0, 1, 1, 1], .blk 1, .at [1, 1, 1, 0, 0, 1, 0, 1, 1, 1]] ++ vW
def vR : List It := [.lp [0, 1, 0, 1, 1, 1, 1, 1], .blk 4, .at [1, 1, 1, 1, 1, 1]]
def vA : List It := [.lp [0, 1, 0, 1, 1, 1, 1, 1, 1], .blk 6, .at [1, 1, 1, 1, 1, 1, 1]]
def xW (h m w : List Nat) (i : Nat) : St := ⟨175, [(1, .sl .u8 m), (2, .ptr 0 0 (.c 0)), (4, .ptr 1 0 (.c 0)), (5, .ptr 2 0 (.c 0)), (6, .ptr 3 0 (.c 0)), (19, .u .i64 i)], [(0, b64 h), (1, b64 (List.replicate 8 0)), (2, bw64 kL), (3, bw64 w)], 4, 0⟩
def xI (h m w : List Nat) (i j : Nat) : St := ⟨175, [(1, .sl .u8 m), (2, .ptr 0 0 (.c 0)), (4, .ptr 1 0 (.c 0)), (5, .ptr 2 0 (.c 0)), (6, .ptr 3 0 (.c 0)), (7, .u .i64 i), (19, .u .i64 i), (24, .u .i64 j)], [(0, b64 h), (1, b64 (List.replicate 8 0)), (2, bw64 kL), (3, bw64 w)], 4, 0⟩
def xR (h m w s : List Nat) (i : Nat) : St := ⟨175, [(1, .sl .u8 m), (2, .ptr 0 0 (.c 0)), (4, .ptr 1 0 (.c 0)), (5, .ptr 2 0 (.c 0)), (6, .ptr 3 0 (.c 0)), (11, .ptr 4 0 (.c 0)), (82, .u .i64 i)], [(0, b64 h), (1, b64 (List.replicate 8 0)), (2, bw64 kL), (3, bw64 w), (4, b64 s)], 5, 0⟩
def xA (h s : List Nat) (i : Nat) : St := ⟨175, [(2, .ptr 0 0 (.c 0)), (4, .ptr 1 0 (.c 0)), (11, .ptr 4 0 (.c 0)), (162, .u .i64 i)], [(0, b64 h), (1, b64 (List.replicate 8 0)), (4, b64 s)], 5, 0⟩
theorem kL_len : kL.length = 80 := by kernel_rfl
theorem cut_get (m : List Nat) (i j : Nat) (h : j < 8) : ((m.take (8 * i + 8)).drop (8 * i)).getD j 0 = m.getD (8 * i + j) 0 := by
  rw [List.getD_eq_getElem?_getD, List.getD_eq_getElem?_getD, List.getElem?_drop, List.getElem?_take_of_lt (by omega)]
section
variable {F : Fr} {S : Own} {r : MRes}
theorem p64_A (h m : List Nat) (hr : r = ⟨.tup [], [b64 (A64 m h 8)], []⟩) : ∀ d i, 8 - i = d → i ≤ 8 → Hold Try.prog (bodyOf Try.f144) (FinM Try.prog Try.f144 F S r) F S pA (uA (A64 m h i) (R64 m h 80) i) := by
  intro d
  induction d using Nat.strongRecOn with
  | _ d ih =>
  intro i hd hi
  by_cases hlt : i < 8
  · refine hold_unroll (c := _) rfl ?_
    refine hold_cut mixed okM12a (unroll := false) (f := 300) (sc := [true]) (ks := [0,12,168]) (bs := [0,2]) (nx := 3) (st' := [Go.Eng.It.lp [(0 : Nat), (1 : Nat), (1 : Nat), (1 : Nat), (1 : Nat), (1 : Nat)], Go.Eng.It.blk (6 : Nat)]) (σ' := { nt := (183 : Nat), slots := [((0 : Nat), Go.Eng.SV.ptr (0 : Nat) (0 : Nat) (Go.Eng.Ix.c (0 : Nat))), ((12 : Nat), Go.Eng.SV.ptr (2 : Nat) (0 : Nat) (Go.Eng.Ix.c (0 : Nat))), ((168 : Nat), Go.Eng.SV.u Go.IntKind.i64 (i + (1 : Nat)))], blks := [((0 : Nat), { ty := (125 : Nat), segs := [Go.Eng.SV.arr Go.IntKind.u64 (8 : Nat) ((A64 m h i).set i (((A64 m h i).getD i (0 : Nat) + (R64 m h (80 : Nat)).getD i (0 : Nat)) % (18446744073709551616 : Nat)))] }), ((2 : Nat), { ty := (125 : Nat), segs := [Go.Eng.SV.arr Go.IntKind.u64 (8 : Nat) (R64 m h (80 : Nat))] })], next := (3 : Nat), m := (1 : Nat) }) (ob := [Decidable.decide (i < (8 : Nat)) = Bool.true, i < (8 : Nat), i < (8 : Nat), i < (8 : Nat), i < (8 : Nat), i < (8 : Nat), i < (8 : Nat), i + (1 : Nat) < (9223372036854775808 : Nat)]) (sc' := []) (by kernel_rfl) (by repeat' first | exact trivial | exact decide_eq_true (by omega) | exact decide_eq_false (by omega) | omega | (simp only [List.length_drop, List.length_take]; omega) | (simp only [decide_eq_true_eq, decide_eq_false_iff_not, List.length_drop, List.length_take]; omega) | refine ⟨?_, ?_⟩) ?_
    exact ih (8 - (i + 1)) (by omega) (i + 1) rfl (by omega)
  · have e : i = 8 := by omega
    subst e
    refine hold_unroll (c := _) rfl ?_
    exact hold_endMw mixed okM12a (news := []) (unroll := false) (f := 300) (sc := [false]) (r := { res := Go.Eng.SV.tup [], upd := [{ ty := (125 : Nat), segs := [Go.Eng.SV.arr Go.IntKind.u64 (8 : Nat) (A64 m h (8 : Nat))] }] }) (ob := [Bool.false = Bool.false]) (sc' := []) (by kernel_rfl) (by repeat' first | exact trivial | exact decide_eq_true (by omega) | exact decide_eq_false (by omega) | omega | (simp only [List.length_drop, List.length_take]; omega) | (simp only [decide_eq_true_eq, decide_eq_false_iff_not, List.length_drop, List.length_take]; omega) | refine ⟨?_, ?_⟩) (wkM_of hr.symm)
theorem p64_R (h m : List Nat) (hr : r = ⟨.tup [], [b64 (A64 m h 8)], []⟩) : ∀ d i, 80 - i = d → i ≤ 80 → Hold Try.prog (bodyOf Try.f144) (FinM Try.prog Try.f144 F S r) F S pR (uR h m (W64 m 80) (R64 m h i) i) := by
  intro d
  induction d using Nat.strongRecOn with
  | _ d ih =>
  intro i hd hi
  have hkl := kL_len
  by_cases hlt : i < 80
  · refine hold_unroll (c := _) rfl ?_
    refine hold_cut mixed okM12a (unroll := false) (f := 300) (sc := [true]) (ks := [0,1,2,6,12,87]) (bs := [0,1,2]) (nx := 3) (st' := [Go.Eng.It.lp [(0 : Nat), (1 : Nat), (0 : Nat), (1 : Nat), (1 : Nat), (1 : Nat)], Go.Eng.It.blk (4 : Nat), Go.Eng.It.at [(1 : Nat), (1 : Nat), (1 : Nat), (1 : Nat)]]) (σ' := { nt := (183 : Nat), slots := [((0 : Nat), Go.Eng.SV.ptr (0 : Nat) (0 : Nat) (Go.Eng.Ix.c (0 : Nat))), ((1 : Nat), Go.Eng.SV.sl Go.IntKind.u64 Go.Eng.B.kL), ((2 : Nat), Go.Eng.SV.sl Go.IntKind.u8 m), ((6 : Nat), Go.Eng.SV.ptr (1 : Nat) (0 : Nat) (Go.Eng.Ix.c (0 : Nat))), ((12 : Nat), Go.Eng.SV.ptr (2 : Nat) (0 : Nat) (Go.Eng.Ix.c (0 : Nat))), ((87 : Nat), Go.Eng.SV.u Go.IntKind.i64 (i + (1 : Nat)))], blks := [((0 : Nat), { ty := (125 : Nat), segs := [Go.Eng.SV.arr Go.IntKind.u64 (8 : Nat) h] }), ((1 : Nat), { ty := (143 : Nat), segs := [Go.Eng.SV.arr Go.IntKind.u64 (80 : Nat) (W64 m (80 : Nat))] }), ((2 : Nat), { ty := (125 : Nat), segs := [Go.Eng.SV.arr Go.IntKind.u64 (8 : Nat) [((((((R64 m h i).getD (7 : Nat) (0 : Nat) + (((R64 m h i).getD (4 : Nat) (0 : Nat) * (1125899906842624 : Nat) % (18446744073709551616 : Nat) ||| (R64 m h i).getD (4 : Nat) (0 : Nat) / (16384 : Nat)) ^^^ ((R64 m h i).getD (4 : Nat) (0 : Nat) * (70368744177664 : Nat) % (18446744073709551616 : Nat) ||| (R64 m h i).getD (4 : Nat) (0 : Nat) / (262144 : Nat)) ^^^ ((R64 m h i).getD (4 : Nat) (0 : Nat) * (8388608 : Nat) % (18446744073709551616 : Nat) ||| (R64 m h i).getD (4 : Nat) (0 : Nat) / (2199023255552 : Nat)))) % (18446744073709551616 : Nat) + ((R64 m h i).getD (4 : Nat) (0 : Nat) &&& (R64 m h i).getD (5 : Nat) (0 : Nat) ^^^ (18446744073709551615 : Nat) - (R64 m h i).getD (4 : Nat) (0 : Nat) &&& (R64 m h i).getD (6 : Nat) (0 : Nat))) % (18446744073709551616 : Nat) + Go.Eng.B.kL.getD i (0 : Nat)) % (18446744073709551616 : Nat) + (W64 m (80 : Nat)).getD i (0 : Nat)) % (18446744073709551616 : Nat) + ((((R64 m h i).getD (0 : Nat) (0 : Nat) * (68719476736 : Nat) % (18446744073709551616 : Nat) ||| (R64 m h i).getD (0 : Nat) (0 : Nat) / (268435456 : Nat)) ^^^ ((R64 m h i).getD (0 : Nat) (0 : Nat) * (1073741824 : Nat) % (18446744073709551616 : Nat) ||| (R64 m h i).getD (0 : Nat) (0 : Nat) / (17179869184 : Nat)) ^^^ ((R64 m h i).getD (0 : Nat) (0 : Nat) * (33554432 : Nat) % (18446744073709551616 : Nat) ||| (R64 m h i).getD (0 : Nat) (0 : Nat) / (549755813888 : Nat))) + ((R64 m h i).getD (0 : Nat) (0 : Nat) &&& (R64 m h i).getD (1 : Nat) (0 : Nat) ^^^ (R64 m h i).getD (0 : Nat) (0 : Nat) &&& (R64 m h i).getD (2 : Nat) (0 : Nat) ^^^ (R64 m h i).getD (1 : Nat) (0 : Nat) &&& (R64 m h i).getD (2 : Nat) (0 : Nat))) % (18446744073709551616 : Nat)) % (18446744073709551616 : Nat), (R64 m h i).getD (0 : Nat) (0 : Nat), (R64 m h i).getD (1 : Nat) (0 : Nat), (R64 m h i).getD (2 : Nat) (0 : Nat), ((R64 m h i).getD (3 : Nat) (0 : Nat) + (((((R64 m h i).getD (7 : Nat) (0 : Nat) + (((R64 m h i).getD (4 : Nat) (0 : Nat) * (1125899906842624 : Nat) % (18446744073709551616 : Nat) ||| (R64 m h i).getD (4 : Nat) (0 : Nat) / (16384 : Nat)) ^^^ ((R64 m h i).getD (4 : Nat) (0 : Nat) * (70368744177664 : Nat) % (18446744073709551616 : Nat) ||| (R64 m h i).getD (4 : Nat) (0 : Nat) / (262144 : Nat)) ^^^ ((R64 m h i).getD (4 : Nat) (0 : Nat) * (8388608 : Nat) % (18446744073709551616 : Nat) ||| (R64 m h i).getD (4 : Nat) (0 : Nat) / (2199023255552 : Nat)))) % (18446744073709551616 : Nat) + ((R64 m h i).getD (4 : Nat) (0 : Nat) &&& (R64 m h i).getD (5 : Nat) (0 : Nat) ^^^ (18446744073709551615 : Nat) - (R64 m h i).getD (4 : Nat) (0 : Nat) &&& (R64 m h i).getD (6 : Nat) (0 : Nat))) % (18446744073709551616 : Nat) + Go.Eng.B.kL.getD i (0 : Nat)) % (18446744073709551616 : Nat) + (W64 m (80 : Nat)).getD i (0 : Nat)) % (18446744073709551616 : Nat)) % (18446744073709551616 : Nat), (R64 m h i).getD (4 : Nat) (0 : Nat), (R64 m h i).getD (5 : Nat) (0 : Nat), (R64 m h i).getD (6 : Nat) (0 : Nat)]] })], next := (3 : Nat), m := (1 : Nat) }) (ob := [Decidable.decide (i < (80 : Nat)) = Bool.true, i < (80 : Nat), i < (80 : Nat), i < (80 : Nat), i + (1 : Nat) < (9223372036854775808 : Nat)]) (sc' := []) (by kernel_rfl) (by repeat' first | exact trivial | exact decide_eq_true (by omega) | exact decide_eq_false (by omega) | omega | (simp only [List.length_drop, List.length_take]; omega) | (simp only [decide_eq_true_eq, decide_eq_false_iff_not, List.length_drop, List.length_take]; omega) | refine ⟨?_, ?_⟩) ?_
    exact ih (80 - (i + 1)) (by omega) (i + 1) rfl (by omega)
  · have e : i = 80 := by omega
    subst e
    refine hold_unroll (c := _) rfl ?_
    refine hold_cut mixed okM12a (unroll := false) (f := 300) (sc := [false]) (ks := [0,12,168]) (bs := [0,2]) (nx := 3) (st' := [Go.Eng.It.lp [(0 : Nat), (1 : Nat), (1 : Nat), (1 : Nat), (1 : Nat), (1 : Nat)], Go.Eng.It.blk (6 : Nat)]) (σ' := { nt := (183 : Nat), slots := [((0 : Nat), Go.Eng.SV.ptr (0 : Nat) (0 : Nat) (Go.Eng.Ix.c (0 : Nat))), ((12 : Nat), Go.Eng.SV.ptr (2 : Nat) (0 : Nat) (Go.Eng.Ix.c (0 : Nat))), ((168 : Nat), Go.Eng.SV.c Go.IntKind.i64 (0 : Int))], blks := [((0 : Nat), { ty := (125 : Nat), segs := [Go.Eng.SV.arr Go.IntKind.u64 (8 : Nat) h] }), ((2 : Nat), { ty := (125 : Nat), segs := [Go.Eng.SV.arr Go.IntKind.u64 (8 : Nat) (R64 m h (80 : Nat))] })], next := (3 : Nat), m := (1 : Nat) }) (ob := [Bool.false = Bool.false]) (sc' := []) (by kernel_rfl) (by repeat' first | exact trivial | exact decide_eq_true (by omega) | exact decide_eq_false (by omega) | omega | (simp only [List.length_drop, List.length_take]; omega) | (simp only [decide_eq_true_eq, decide_eq_false_iff_not, List.length_drop, List.length_take]; omega) | refine ⟨?_, ?_⟩) ?_
    exact Hold.weaken (p64_A h m hr _ 0 rfl (by omega)) (by simp [wks, wk, wk0, lim, uA])
theorem p64_I (h m w : List Nat) (i : Nat) (hm : m.length = 128) (hi : i < 16) (hk : Hold Try.prog (bodyOf Try.f144) (FinM Try.prog Try.f144 F S r) F S pW (uW h m (I64 m i w 8) (i + 1))) : ∀ d j, 8 - j = d → j ≤ 8 → Hold Try.prog (bodyOf Try.f144) (FinM Try.prog Try.f144 F S r) F S pI (uI h m (I64 m i w j) i j) := by
  intro d
  induction d using Nat.strongRecOn with
  | _ d ih =>
  intro j hd hj
  by_cases hlt : j < 8
  · refine hold_unroll (c := _) rfl ?_
    refine hold_cut mixed okM12a (unroll := false) (f := 300) (sc := [true]) (ks := [0,1,2,6,7,19,30,31,32]) (bs := [0,1]) (nx := 2) (st' := [Go.Eng.It.lp [(0 : Nat), (1 : Nat), (0 : Nat), (0 : Nat), (1 : Nat), (0 : Nat), (1 : Nat), (0 : Nat), (0 : Nat), (1 : Nat), (1 : Nat), (0 : Nat), (0 : Nat), (1 : Nat), (0 : Nat), (1 : Nat)], Go.Eng.It.blk (2 : Nat), Go.Eng.It.at [(1 : Nat), (0 : Nat), (1 : Nat), (0 : Nat), (1 : Nat), (0 : Nat), (0 : Nat), (1 : Nat), (1 : Nat), (0 : Nat), (0 : Nat), (1 : Nat), (0 : Nat), (1 : Nat)], Go.Eng.It.at [(1 : Nat), (1 : Nat), (0 : Nat), (0 : Nat), (1 : Nat), (1 : Nat), (0 : Nat), (0 : Nat), (1 : Nat), (0 : Nat), (1 : Nat)], Go.Eng.It.blk (1 : Nat), Go.Eng.It.at [(1 : Nat), (1 : Nat), (1 : Nat), (0 : Nat), (0 : Nat), (1 : Nat), (0 : Nat), (1 : Nat)], Go.Eng.It.lp [(0 : Nat), (1 : Nat), (0 : Nat), (1 : Nat)], Go.Eng.It.blk (0 : Nat), Go.Eng.It.at [(1 : Nat), (1 : Nat)]]) (σ' := { nt := (183 : Nat), slots := [((0 : Nat), Go.Eng.SV.ptr (0 : Nat) (0 : Nat) (Go.Eng.Ix.c (0 : Nat))), ((1 : Nat), Go.Eng.SV.sl Go.IntKind.u64 Go.Eng.B.kL), ((2 : Nat), Go.Eng.SV.sl Go.IntKind.u8 m), ((6 : Nat), Go.Eng.SV.ptr (1 : Nat) (0 : Nat) (Go.Eng.Ix.c (0 : Nat))), ((7 : Nat), Go.Eng.SV.u Go.IntKind.i64 i), ((19 : Nat), Go.Eng.SV.u Go.IntKind.i64 i), ((30 : Nat), Go.Eng.SV.sl Go.IntKind.u8 (List.drop ((8 : Nat) * i) (List.take ((8 : Nat) * i + (8 : Nat)) m))), ((31 : Nat), Go.Eng.SV.u Go.IntKind.i64 (8 : Nat)), ((32 : Nat), Go.Eng.SV.u Go.IntKind.i64 (j + (1 : Nat)))], blks := [((0 : Nat), { ty := (125 : Nat), segs := [Go.Eng.SV.arr Go.IntKind.u64 (8 : Nat) h] }), ((1 : Nat), { ty := (143 : Nat), segs := [Go.Eng.SV.arr Go.IntKind.u64 (80 : Nat) ((I64 m i w j).set i ((I64 m i w j).getD i (0 : Nat) * (256 : Nat) % (18446744073709551616 : Nat) ||| (List.drop ((8 : Nat) * i) (List.take ((8 : Nat) * i + (8 : Nat)) m)).getD j (0 : Nat)))] })], next := (2 : Nat), m := (1 : Nat) }) (ob := [Decidable.decide (j < (8 : Nat)) = Bool.true, j < (List.drop ((8 : Nat) * i) (List.take ((8 : Nat) * i + (8 : Nat)) m)).length, i < (80 : Nat), i < (80 : Nat), i < (80 : Nat), i < (80 : Nat), j + (1 : Nat) < (9223372036854775808 : Nat)]) (sc' := []) (by kernel_rfl) (by repeat' first | exact trivial | exact decide_eq_true (by omega) | exact decide_eq_false (by omega) | omega | (simp only [List.length_drop, List.length_take]; omega) | (simp only [decide_eq_true_eq, decide_eq_false_iff_not, List.length_drop, List.length_take]; omega) | refine ⟨?_, ?_⟩) ?_
    rw [cut_get m i j hlt]
    exact ih (8 - (j + 1)) (by omega) (j + 1) rfl (by omega)
  · have e : j = 8 := by omega
    subst e
    refine hold_unroll (c := _) rfl ?_
    refine hold_cut mixed okM12a (unroll := false) (f := 300) (sc := [false]) (ks := [0,1,2,6,19]) (bs := [0,1]) (nx := 2) (st' := [Go.Eng.It.lp [(0 : Nat), (1 : Nat), (0 : Nat), (1 : Nat)], Go.Eng.It.blk (0 : Nat), Go.Eng.It.at [(1 : Nat), (1 : Nat)]]) (σ' := { nt := (183 : Nat), slots := [((0 : Nat), Go.Eng.SV.ptr (0 : Nat) (0 : Nat) (Go.Eng.Ix.c (0 : Nat))), ((1 : Nat), Go.Eng.SV.sl Go.IntKind.u64 Go.Eng.B.kL), ((2 : Nat), Go.Eng.SV.sl Go.IntKind.u8 m), ((6 : Nat), Go.Eng.SV.ptr (1 : Nat) (0 : Nat) (Go.Eng.Ix.c (0 : Nat))), ((19 : Nat), Go.Eng.SV.u Go.IntKind.i64 (i + (1 : Nat)))], blks := [((0 : Nat), { ty := (125 : Nat), segs := [Go.Eng.SV.arr Go.IntKind.u64 (8 : Nat) h] }), ((1 : Nat), { ty := (143 : Nat), segs := [Go.Eng.SV.arr Go.IntKind.u64 (80 : Nat) (I64 m i w (8 : Nat))] })], next := (2 : Nat), m := (1 : Nat) }) (ob := [Bool.false = Bool.false, i + (1 : Nat) < (9223372036854775808 : Nat)]) (sc' := []) (by kernel_rfl) (by repeat' first | exact trivial | exact decide_eq_true (by omega) | exact decide_eq_false (by omega) | omega | (simp only [List.length_drop, List.length_take]; omega) | (simp only [decide_eq_true_eq, decide_eq_false_iff_not, List.length_drop, List.length_take]; omega) | refine ⟨?_, ?_⟩) ?_
    exact hk
theorem p64_W (h m : List Nat) (hm : m.length = 128) (hr : r = ⟨.tup [], [b64 (A64 m h 8)], []⟩) : ∀ d i, 80 - i = d → i ≤ 80 → Hold Try.prog (bodyOf Try.f144) (FinM Try.prog Try.f144 F S r) F S pW (uW h m (W64 m i) i) := by
  intro d
  induction d using Nat.strongRecOn with
  | _ d ih =>
  intro i hd hi
  have hs : W64 m (i + 1) = if i < 16 then I64 m i (W64 m i) 8 else (W64 m i).set i (wB64 (W64 m i) i) := rfl
  by_cases hlt : i < 80
  · have e := ih (80 - (i + 1)) (by omega) (i + 1) rfl (by omega)
    refine hold_unroll (c := _) rfl ?_
    by_cases hl2 : i < 16
    · rw [hs, if_pos hl2] at e
      have hcl : (List.drop (8 * i) (List.take (8 * i + 8) m)).length = 8 := by rw [List.length_drop, List.length_take]; omega
      refine hold_cut mixed okM12a (unroll := false) (f := 300) (sc := [true, true]) (ks := [0,1,2,6,7,19,30,31,32]) (bs := [0,1]) (nx := 2) (st' := [Go.Eng.It.lp [(0 : Nat), (1 : Nat), (0 : Nat), (0 : Nat), (1 : Nat), (0 : Nat), (1 : Nat), (0 : Nat), (0 : Nat), (1 : Nat), (1 : Nat), (0 : Nat), (0 : Nat), (1 : Nat), (0 : Nat), (1 : Nat)], Go.Eng.It.blk (2 : Nat), Go.Eng.It.at [(1 : Nat), (0 : Nat), (1 : Nat), (0 : Nat), (1 : Nat), (0 : Nat), (0 : Nat), (1 : Nat), (1 : Nat), (0 : Nat), (0 : Nat), (1 : Nat), (0 : Nat), (1 : Nat)], Go.Eng.It.at [(1 : Nat), (1 : Nat), (0 : Nat), (0 : Nat), (1 : Nat), (1 : Nat), (0 : Nat), (0 : Nat), (1 : Nat), (0 : Nat), (1 : Nat)], Go.Eng.It.blk (1 : Nat), Go.Eng.It.at [(1 : Nat), (1 : Nat), (1 : Nat), (0 : Nat), (0 : Nat), (1 : Nat), (0 : Nat), (1 : Nat)], Go.Eng.It.lp [(0 : Nat), (1 : Nat), (0 : Nat), (1 : Nat)], Go.Eng.It.blk (0 : Nat), Go.Eng.It.at [(1 : Nat), (1 : Nat)]]) (σ' := { nt := (183 : Nat), slots := [((0 : Nat), Go.Eng.SV.ptr (0 : Nat) (0 : Nat) (Go.Eng.Ix.c (0 : Nat))), ((1 : Nat), Go.Eng.SV.sl Go.IntKind.u64 Go.Eng.B.kL), ((2 : Nat), Go.Eng.SV.sl Go.IntKind.u8 m), ((6 : Nat), Go.Eng.SV.ptr (1 : Nat) (0 : Nat) (Go.Eng.Ix.c (0 : Nat))), ((7 : Nat), Go.Eng.SV.u Go.IntKind.i64 i), ((19 : Nat), Go.Eng.SV.u Go.IntKind.i64 i), ((30 : Nat), Go.Eng.SV.sl Go.IntKind.u8 (List.drop ((8 : Nat) * i) (List.take ((8 : Nat) * i + (8 : Nat)) m))), ((31 : Nat), Go.Eng.SV.u Go.IntKind.i64 (List.drop ((8 : Nat) * i) (List.take ((8 : Nat) * i + (8 : Nat)) m)).length), ((32 : Nat), Go.Eng.SV.c Go.IntKind.i64 (0 : Int))], blks := [((0 : Nat), { ty := (125 : Nat), segs := [Go.Eng.SV.arr Go.IntKind.u64 (8 : Nat) h] }), ((1 : Nat), { ty := (143 : Nat), segs := [Go.Eng.SV.arr Go.IntKind.u64 (80 : Nat) (W64 m i)] })], next := (2 : Nat), m := (1 : Nat) }) (ob := [Decidable.decide (i < (80 : Nat)) = Bool.true, Decidable.decide (i < (16 : Nat)) = Bool.true, (8 : Nat) * i < (9223372036854775808 : Nat), (8 : Nat) * i < (9223372036854775808 : Nat), (8 : Nat) * i + (8 : Nat) < (9223372036854775808 : Nat), (8 : Nat) * i ≤ (8 : Nat) * i + (8 : Nat), (8 : Nat) * i + (8 : Nat) ≤ m.length]) (sc' := []) (by kernel_rfl) (by repeat' first | exact trivial | exact decide_eq_true (by omega) | exact decide_eq_false (by omega) | omega | (simp only [List.length_drop, List.length_take]; omega) | (simp only [decide_eq_true_eq, decide_eq_false_iff_not, List.length_drop, List.length_take]; omega) | refine ⟨?_, ?_⟩) ?_
      exact Hold.weaken (p64_I h m (W64 m i) i hm hl2 e _ 0 rfl (by omega)) (by simp [wks, wk, wk0, lim, uI]; try omega)
    · rw [hs, if_neg hl2] at e
      refine hold_cut mixed okM12a (unroll := false) (f := 300) (sc := [true, false]) (ks := [0,1,2,6,19]) (bs := [0,1]) (nx := 2) (st' := [Go.Eng.It.lp [(0 : Nat), (1 : Nat), (0 : Nat), (1 : Nat)], Go.Eng.It.blk (0 : Nat), Go.Eng.It.at [(1 : Nat), (1 : Nat)]]) (σ' := { nt := (183 : Nat), slots := [((0 : Nat), Go.Eng.SV.ptr (0 : Nat) (0 : Nat) (Go.Eng.Ix.c (0 : Nat))), ((1 : Nat), Go.Eng.SV.sl Go.IntKind.u64 Go.Eng.B.kL), ((2 : Nat), Go.Eng.SV.sl Go.IntKind.u8 m), ((6 : Nat), Go.Eng.SV.ptr (1 : Nat) (0 : Nat) (Go.Eng.Ix.c (0 : Nat))), ((19 : Nat), Go.Eng.SV.u Go.IntKind.i64 (i + (1 : Nat)))], blks := [((0 : Nat), { ty := (125 : Nat), segs := [Go.Eng.SV.arr Go.IntKind.u64 (8 : Nat) h] }), ((1 : Nat), { ty := (143 : Nat), segs := [Go.Eng.SV.arr Go.IntKind.u64 (80 : Nat) ((W64 m i).set i (((((((W64 m i).getD ((↑i : Int) - (2 : Int)).toNat (0 : Nat) * (35184372088832 : Nat) % (18446744073709551616 : Nat) ||| (W64 m i).getD ((↑i : Int) - (2 : Int)).toNat (0 : Nat) / (524288 : Nat)) ^^^ ((W64 m i).getD ((↑i : Int) - (2 : Int)).toNat (0 : Nat) * (8 : Nat) % (18446744073709551616 : Nat) ||| (W64 m i).getD ((↑i : Int) - (2 : Int)).toNat (0 : Nat) / (2305843009213693952 : Nat)) ^^^ (W64 m i).getD ((↑i : Int) - (2 : Int)).toNat (0 : Nat) / (64 : Nat)) + (W64 m i).getD ((↑i : Int) - (7 : Int)).toNat (0 : Nat)) % (18446744073709551616 : Nat) + (((W64 m i).getD ((↑i : Int) - (15 : Int)).toNat (0 : Nat) * (9223372036854775808 : Nat) % (18446744073709551616 : Nat) ||| (W64 m i).getD ((↑i : Int) - (15 : Int)).toNat (0 : Nat) / (2 : Nat)) ^^^ ((W64 m i).getD ((↑i : Int) - (15 : Int)).toNat (0 : Nat) * (72057594037927936 : Nat) % (18446744073709551616 : Nat) ||| (W64 m i).getD ((↑i : Int) - (15 : Int)).toNat (0 : Nat) / (256 : Nat)) ^^^ (W64 m i).getD ((↑i : Int) - (15 : Int)).toNat (0 : Nat) / (128 : Nat))) % (18446744073709551616 : Nat) + (W64 m i).getD ((↑i : Int) - (16 : Int)).toNat (0 : Nat)) % (18446744073709551616 : Nat)))] })], next := (2 : Nat), m := (1 : Nat) }) (ob := [Decidable.decide (i < (80 : Nat)) = Bool.true, Decidable.decide (i < (16 : Nat)) = Bool.false, (0 : Int) ≤ (↑i : Int) - (15 : Int), ((↑i : Int) - (15 : Int)).toNat < (80 : Nat), ((↑i : Int) - (15 : Int)).toNat < (80 : Nat), (0 : Int) ≤ (↑i : Int) - (2 : Int), ((↑i : Int) - (2 : Int)).toNat < (80 : Nat), ((↑i : Int) - (2 : Int)).toNat < (80 : Nat), (0 : Int) ≤ (↑i : Int) - (7 : Int), ((↑i : Int) - (7 : Int)).toNat < (80 : Nat), ((↑i : Int) - (7 : Int)).toNat < (80 : Nat), (0 : Int) ≤ (↑i : Int) - (16 : Int), ((↑i : Int) - (16 : Int)).toNat < (80 : Nat), ((↑i : Int) - (16 : Int)).toNat < (80 : Nat), i < (80 : Nat), i < (80 : Nat), i + (1 : Nat) < (9223372036854775808 : Nat)]) (sc' := []) (by kernel_rfl) (by repeat' first | exact trivial | exact decide_eq_true (by omega) | exact decide_eq_false (by omega) | omega | (simp only [List.length_drop, List.length_take]; omega) | (simp only [decide_eq_true_eq, decide_eq_false_iff_not, List.length_drop, List.length_take]; omega) | refine ⟨?_, ?_⟩) ?_
      exact e
  · have e : i = 80 := by omega
    subst e
    refine hold_unroll (c := _) rfl ?_
    refine hold_cut mixed okM12a (unroll := false) (f := 300) (sc := [false]) (ks := [0,1,2,6,12,87]) (bs := [0,1,2]) (nx := 3) (st' := [Go.Eng.It.lp [(0 : Nat), (1 : Nat), (0 : Nat), (1 : Nat), (1 : Nat), (1 : Nat)], Go.Eng.It.blk (4 : Nat), Go.Eng.It.at [(1 : Nat), (1 : Nat), (1 : Nat), (1 : Nat)]]) (σ' := { nt := (183 : Nat), slots := [((0 : Nat), Go.Eng.SV.ptr (0 : Nat) (0 : Nat) (Go.Eng.Ix.c (0 : Nat))), ((1 : Nat), Go.Eng.SV.sl Go.IntKind.u64 Go.Eng.B.kL), ((2 : Nat), Go.Eng.SV.sl Go.IntKind.u8 m), ((6 : Nat), Go.Eng.SV.ptr (1 : Nat) (0 : Nat) (Go.Eng.Ix.c (0 : Nat))), ((12 : Nat), Go.Eng.SV.ptr (2 : Nat) (0 : Nat) (Go.Eng.Ix.c (0 : Nat))), ((87 : Nat), Go.Eng.SV.c Go.IntKind.i64 (0 : Int))], blks := [((0 : Nat), { ty := (125 : Nat), segs := [Go.Eng.SV.arr Go.IntKind.u64 (8 : Nat) h] }), ((1 : Nat), { ty := (143 : Nat), segs := [Go.Eng.SV.arr Go.IntKind.u64 (80 : Nat) (W64 m (80 : Nat))] }), ((2 : Nat), { ty := (125 : Nat), segs := [Go.Eng.SV.arr Go.IntKind.u64 (8 : Nat) h] })], next := (3 : Nat), m := (1 : Nat) }) (ob := [Bool.false = Bool.false]) (sc' := []) (by kernel_rfl) (by repeat' first | exact trivial | exact decide_eq_true (by omega) | exact decide_eq_false (by omega) | omega | (simp only [List.length_drop, List.length_take]; omega) | (simp only [decide_eq_true_eq, decide_eq_false_iff_not, List.length_drop, List.length_take]; omega) | refine ⟨?_, ?_⟩) ?_
    exact Hold.weaken (p64_R h m hr _ 0 rfl (by omega)) (by simp [wks, wk, wk0, lim, uR])
theorem round64_c (h m : List Nat) (hm : m.length = 128) : ContractM Try.prog 144 [b64 h] [.ptr 0 0 (.c 0), .sl .u64 kL, .sl .u8 m] ⟨.tup [], [b64 (A64 m h 8)], []⟩ := by
  refine contractM Try.func144 (body := bodyOf Try.f144) rfl (by kernel_rfl) (by kernel_rfl) rfl rfl ?_
  intro _ _ F S _
  refine hold_cut mixed okM12a (unroll := false) (f := 100) (sc := []) (ks := [0,1,2,6,19]) (bs := [0,1]) (nx := 2) (st' := [Go.Eng.It.lp [(0 : Nat), (1 : Nat), (0 : Nat), (1 : Nat)], Go.Eng.It.blk (0 : Nat), Go.Eng.It.at [(1 : Nat), (1 : Nat)]]) (σ' := { nt := (183 : Nat), slots := [((0 : Nat), Go.Eng.SV.ptr (0 : Nat) (0 : Nat) (Go.Eng.Ix.c (0 : Nat))), ((1 : Nat), Go.Eng.SV.sl Go.IntKind.u64 Go.Eng.B.kL), ((2 : Nat), Go.Eng.SV.sl Go.IntKind.u8 m), ((6 : Nat), Go.Eng.SV.ptr (1 : Nat) (0 : Nat) (Go.Eng.Ix.c (0 : Nat))), ((19 : Nat), Go.Eng.SV.c Go.IntKind.i64 (0 : Int))], blks := [((0 : Nat), { ty := (125 : Nat), segs := [Go.Eng.SV.arr Go.IntKind.u64 (8 : Nat) h] }), ((1 : Nat), { ty := (143 : Nat), segs := [Go.Eng.SV.arr Go.IntKind.u64 (80 : Nat) [(0 : Nat), (0 : Nat), (0 : Nat), (0 : Nat), (0 : Nat), (0 : Nat), (0 : Nat), (0 : Nat), (0 : Nat), (0 : Nat), (0 : Nat), (0 : Nat), (0 : Nat), (0 : Nat), (0 : Nat), (0 : Nat), (0 : Nat), (0 : Nat), (0 : Nat), (0 : Nat), (0 : Nat), (0 : Nat), (0 : Nat), (0 : Nat), (0 : Nat), (0 : Nat), (0 : Nat), (0 : Nat), (0 : Nat), (0 : Nat), (0 : Nat), (0 : Nat), (0 : Nat), (0 : Nat), (0 : Nat), (0 : Nat), (0 : Nat), (0 : Nat), (0 : Nat), (0 : Nat), (0 : Nat), (0 : Nat), (0 : Nat), (0 : Nat), (0 : Nat), (0 : Nat), (0 : Nat), (0 : Nat), (0 : Nat), (0 : Nat), (0 : Nat), (0 : Nat), (0 : Nat), (0 : Nat), (0 : Nat), (0 : Nat), (0 : Nat), (0 : Nat), (0 : Nat), (0 : Nat), (0 : Nat), (0 : Nat), (0 : Nat), (0 : Nat), (0 : Nat), (0 : Nat), (0 : Nat), (0 : Nat), (0 : Nat), (0 : Nat), (0 : Nat), (0 : Nat), (0 : Nat), (0 : Nat), (0 : Nat), (0 : Nat), (0 : Nat), (0 : Nat), (0 : Nat), (0 : Nat)]] })], next := (2 : Nat), m := (1 : Nat) }) (ob := []) (sc' := []) (by kernel_rfl) trivial ?_
  exact Hold.weaken (p64_W h m hm rfl _ 0 rfl (by omega)) (by simp [wks, wk, wk0, lim, uW])
end
section
variable {w0 : World} {S : Own} {res : SV}
theorem v64_A (h m : List Nat) (hr : res = .arr .u64 8 (A64 m h 8)) : ∀ d i, 8 - i = d → i ≤ 8 → Hold Try.prog (bodyOf Try.f145) (Fin Try.prog Try.f145 w0 S res) w0 S vA (xA (A64 m h i) (R64 m h 80) i) := by
  intro d
  induction d using Nat.strongRecOn with
  | _ d ih =>
  intro i hd hi
  by_cases hlt : i < 8
  · refine hold_unroll (c := _) rfl ?_
    refine hold_cut mixed okM12a (unroll := false) (f := 300) (sc := [true]) (ks := [2,4,11,162]) (bs := [0,1,4]) (nx := 5) (st' := [Go.Eng.It.lp [(0 : Nat), (1 : Nat), (0 : Nat), (1 : Nat), (1 : Nat), (1 : Nat), (1 : Nat), (1 : Nat), (1 : Nat)], Go.Eng.It.blk (6 : Nat), Go.Eng.It.at [(1 : Nat), (1 : Nat), (1 : Nat), (1 : Nat), (1 : Nat), (1 : Nat), (1 : Nat)]]) (σ' := { nt := (175 : Nat), slots := [((2 : Nat), Go.Eng.SV.ptr (0 : Nat) (0 : Nat) (Go.Eng.Ix.c (0 : Nat))), ((4 : Nat), Go.Eng.SV.ptr (1 : Nat) (0 : Nat) (Go.Eng.Ix.c (0 : Nat))), ((11 : Nat), Go.Eng.SV.ptr (4 : Nat) (0 : Nat) (Go.Eng.Ix.c (0 : Nat))), ((162 : Nat), Go.Eng.SV.u Go.IntKind.i64 (i + (1 : Nat)))], blks := [((0 : Nat), { ty := (125 : Nat), segs := [Go.Eng.SV.arr Go.IntKind.u64 (8 : Nat) ((A64 m h i).set i (((A64 m h i).getD i (0 : Nat) + (R64 m h (80 : Nat)).getD i (0 : Nat)) % (18446744073709551616 : Nat)))] }), ((1 : Nat), { ty := (125 : Nat), segs := [Go.Eng.SV.arr Go.IntKind.u64 (8 : Nat) [(0 : Nat), (0 : Nat), (0 : Nat), (0 : Nat), (0 : Nat), (0 : Nat), (0 : Nat), (0 : Nat)]] }), ((4 : Nat), { ty := (125 : Nat), segs := [Go.Eng.SV.arr Go.IntKind.u64 (8 : Nat) (R64 m h (80 : Nat))] })], next := (5 : Nat) }) (ob := [Decidable.decide (i < (8 : Nat)) = Bool.true, i < (8 : Nat), i < (8 : Nat), i < (8 : Nat), i < (8 : Nat), i < (8 : Nat), i < (8 : Nat), i + (1 : Nat) < (9223372036854775808 : Nat)]) (sc' := []) (by kernel_rfl) (by repeat' first | exact trivial | exact decide_eq_true (by omega) | exact decide_eq_false (by omega) | omega | (simp only [List.length_drop, List.length_take]; omega) | (simp only [decide_eq_true_eq, decide_eq_false_iff_not, List.length_drop, List.length_take]; omega) | refine ⟨?_, ?_⟩) ?_
    exact ih (8 - (i + 1)) (by omega) (i + 1) rfl (by omega)
  · have e : i = 8 := by omega
    subst e
    refine hold_unroll (c := _) rfl ?_
    refine hold_end mixed okM12a (unroll := false) (f := 300) (sc := [false]) (r := (Go.Eng.SV.arr Go.IntKind.u64 (8 : Nat) (A64 m h (8 : Nat)))) (ob := [Bool.false = Bool.false]) (sc' := []) (by kernel_rfl) (by repeat' first | exact trivial | exact decide_eq_true (by omega) | exact decide_eq_false (by omega) | omega | (simp only [List.length_drop, List.length_take]; omega) | (simp only [decide_eq_true_eq, decide_eq_false_iff_not, List.length_drop, List.length_take]; omega) | refine ⟨?_, ?_⟩) ?_
    exact hr.symm
theorem v64_R (h m : List Nat) (hr : res = .arr .u64 8 (A64 m h 8)) : ∀ d i, 80 - i = d → i ≤ 80 → Hold Try.prog (bodyOf Try.f145) (Fin Try.prog Try.f145 w0 S res) w0 S vR (xR h m (W64 m 80) (R64 m h i) i) := by
  intro d
  induction d using Nat.strongRecOn with
  | _ d ih =>
  intro i hd hi
  have hkl := kL_len
  by_cases hlt : i < 80
  · refine hold_unroll (c := _) rfl ?_
    refine hold_cut mixed okM12a (unroll := false) (f := 300) (sc := [true]) (ks := [1,2,4,5,6,11,82]) (bs := [0,1,2,3,4]) (nx := 5) (st' := [Go.Eng.It.lp [(0 : Nat), (1 : Nat), (0 : Nat), (1 : Nat), (1 : Nat), (1 : Nat), (1 : Nat), (1 : Nat)], Go.Eng.It.blk (4 : Nat), Go.Eng.It.at [(1 : Nat), (1 : Nat), (1 : Nat), (1 : Nat), (1 : Nat), (1 : Nat)]]) (σ' := { nt := (175 : Nat), slots := [((1 : Nat), Go.Eng.SV.sl Go.IntKind.u8 m), ((2 : Nat), Go.Eng.SV.ptr (0 : Nat) (0 : Nat) (Go.Eng.Ix.c (0 : Nat))), ((4 : Nat), Go.Eng.SV.ptr (1 : Nat) (0 : Nat) (Go.Eng.Ix.c (0 : Nat))), ((5 : Nat), Go.Eng.SV.ptr (2 : Nat) (0 : Nat) (Go.Eng.Ix.c (0 : Nat))), ((6 : Nat), Go.Eng.SV.ptr (3 : Nat) (0 : Nat) (Go.Eng.Ix.c (0 : Nat))), ((11 : Nat), Go.Eng.SV.ptr (4 : Nat) (0 : Nat) (Go.Eng.Ix.c (0 : Nat))), ((82 : Nat), Go.Eng.SV.u Go.IntKind.i64 (i + (1 : Nat)))], blks := [((0 : Nat), { ty := (125 : Nat), segs := [Go.Eng.SV.arr Go.IntKind.u64 (8 : Nat) h] }), ((1 : Nat), { ty := (125 : Nat), segs := [Go.Eng.SV.arr Go.IntKind.u64 (8 : Nat) [(0 : Nat), (0 : Nat), (0 : Nat), (0 : Nat), (0 : Nat), (0 : Nat), (0 : Nat), (0 : Nat)]] }), ((2 : Nat), { ty := (143 : Nat), segs := [Go.Eng.SV.arr Go.IntKind.u64 (80 : Nat) Go.Eng.B.kL] }), ((3 : Nat), { ty := (143 : Nat), segs := [Go.Eng.SV.arr Go.IntKind.u64 (80 : Nat) (W64 m (80 : Nat))] }), ((4 : Nat), { ty := (125 : Nat), segs := [Go.Eng.SV.arr Go.IntKind.u64 (8 : Nat) [((((((R64 m h i).getD (7 : Nat) (0 : Nat) + (((R64 m h i).getD (4 : Nat) (0 : Nat) * (1125899906842624 : Nat) % (18446744073709551616 : Nat) ||| (R64 m h i).getD (4 : Nat) (0 : Nat) / (16384 : Nat)) ^^^ ((R64 m h i).getD (4 : Nat) (0 : Nat) * (70368744177664 : Nat) % (18446744073709551616 : Nat) ||| (R64 m h i).getD (4 : Nat) (0 : Nat) / (262144 : Nat)) ^^^ ((R64 m h i).getD (4 : Nat) (0 : Nat) * (8388608 : Nat) % (18446744073709551616 : Nat) ||| (R64 m h i).getD (4 : Nat) (0 : Nat) / (2199023255552 : Nat)))) % (18446744073709551616 : Nat) + ((R64 m h i).getD (4 : Nat) (0 : Nat) &&& (R64 m h i).getD (5 : Nat) (0 : Nat) ^^^ (18446744073709551615 : Nat) - (R64 m h i).getD (4 : Nat) (0 : Nat) &&& (R64 m h i).getD (6 : Nat) (0 : Nat))) % (18446744073709551616 : Nat) + Go.Eng.B.kL.getD i (0 : Nat)) % (18446744073709551616 : Nat) + (W64 m (80 : Nat)).getD i (0 : Nat)) % (18446744073709551616 : Nat) + ((((R64 m h i).getD (0 : Nat) (0 : Nat) * (68719476736 : Nat) % (18446744073709551616 : Nat) ||| (R64 m h i).getD (0 : Nat) (0 : Nat) / (268435456 : Nat)) ^^^ ((R64 m h i).getD (0 : Nat) (0 : Nat) * (1073741824 : Nat) % (18446744073709551616 : Nat) ||| (R64 m h i).getD (0 : Nat) (0 : Nat) / (17179869184 : Nat)) ^^^ ((R64 m h i).getD (0 : Nat) (0 : Nat) * (33554432 : Nat) % (18446744073709551616 : Nat) ||| (R64 m h i).getD (0 : Nat) (0 : Nat) / (549755813888 : Nat))) + ((R64 m h i).getD (0 : Nat) (0 : Nat) &&& (R64 m h i).getD (1 : Nat) (0 : Nat) ^^^ (R64 m h i).getD (0 : Nat) (0 : Nat) &&& (R64 m h i).getD (2 : Nat) (0 : Nat) ^^^ (R64 m h i).getD (1 : Nat) (0 : Nat) &&& (R64 m h i).getD (2 : Nat) (0 : Nat))) % (18446744073709551616 : Nat)) % (18446744073709551616 : Nat), (R64 m h i).getD (0 : Nat) (0 : Nat), (R64 m h i).getD (1 : Nat) (0 : Nat), (R64 m h i).getD (2 : Nat) (0 : Nat), ((R64 m h i).getD (3 : Nat) (0 : Nat) + (((((R64 m h i).getD (7 : Nat) (0 : Nat) + (((R64 m h i).getD (4 : Nat) (0 : Nat) * (1125899906842624 : Nat) % (18446744073709551616 : Nat) ||| (R64 m h i).getD (4 : Nat) (0 : Nat) / (16384 : Nat)) ^^^ ((R64 m h i).getD (4 : Nat) (0 : Nat) * (70368744177664 : Nat) % (18446744073709551616 : Nat) ||| (R64 m h i).getD (4 : Nat) (0 : Nat) / (262144 : Nat)) ^^^ ((R64 m h i).getD (4 : Nat) (0 : Nat) * (8388608 : Nat) % (18446744073709551616 : Nat) ||| (R64 m h i).getD (4 : Nat) (0 : Nat) / (2199023255552 : Nat)))) % (18446744073709551616 : Nat) + ((R64 m h i).getD (4 : Nat) (0 : Nat) &&& (R64 m h i).getD (5 : Nat) (0 : Nat) ^^^ (18446744073709551615 : Nat) - (R64 m h i).getD (4 : Nat) (0 : Nat) &&& (R64 m h i).getD (6 : Nat) (0 : Nat))) % (18446744073709551616 : Nat) + Go.Eng.B.kL.getD i (0 : Nat)) % (18446744073709551616 : Nat) + (W64 m (80 : Nat)).getD i (0 : Nat)) % (18446744073709551616 : Nat)) % (18446744073709551616 : Nat), (R64 m h i).getD (4 : Nat) (0 : Nat), (R64 m h i).getD (5 : Nat) (0 : Nat), (R64 m h i).getD (6 : Nat) (0 : Nat)]] })], next := (5 : Nat) }) (ob := [Decidable.decide (i < (80 : Nat)) = Bool.true, i < (80 : Nat), i < (80 : Nat), i < (80 : Nat), i < (80 : Nat), i + (1 : Nat) < (9223372036854775808 : Nat)]) (sc' := []) (by kernel_rfl) (by repeat' first | exact trivial | exact decide_eq_true (by omega) | exact decide_eq_false (by omega) | omega | (simp only [List.length_drop, List.length_take]; omega) | (simp only [decide_eq_true_eq, decide_eq_false_iff_not, List.length_drop, List.length_take]; omega) | refine ⟨?_, ?_⟩) ?_
    exact ih (80 - (i + 1)) (by omega) (i + 1) rfl (by omega)
  · have e : i = 80 := by omega
    subst e
    refine hold_unroll (c := _) rfl ?_
    refine hold_cut mixed okM12a (unroll := false) (f := 300) (sc := [false]) (ks := [2,4,11,162]) (bs := [0,1,4]) (nx := 5) (st' := [Go.Eng.It.lp [(0 : Nat), (1 : Nat), (0 : Nat), (1 : Nat), (1 : Nat), (1 : Nat), (1 : Nat), (1 : Nat), (1 : Nat)], Go.Eng.It.blk (6 : Nat), Go.Eng.It.at [(1 : Nat), (1 : Nat), (1 : Nat), (1 : Nat), (1 : Nat), (1 : Nat), (1 : Nat)]]) (σ' := { nt := (175 : Nat), slots := [((2 : Nat), Go.Eng.SV.ptr (0 : Nat) (0 : Nat) (Go.Eng.Ix.c (0 : Nat))), ((4 : Nat), Go.Eng.SV.ptr (1 : Nat) (0 : Nat) (Go.Eng.Ix.c (0 : Nat))), ((11 : Nat), Go.Eng.SV.ptr (4 : Nat) (0 : Nat) (Go.Eng.Ix.c (0 : Nat))), ((162 : Nat), Go.Eng.SV.c Go.IntKind.i64 (0 : Int))], blks := [((0 : Nat), { ty := (125 : Nat), segs := [Go.Eng.SV.arr Go.IntKind.u64 (8 : Nat) h] }), ((1 : Nat), { ty := (125 : Nat), segs := [Go.Eng.SV.arr Go.IntKind.u64 (8 : Nat) [(0 : Nat), (0 : Nat), (0 : Nat), (0 : Nat), (0 : Nat), (0 : Nat), (0 : Nat), (0 : Nat)]] }), ((4 : Nat), { ty := (125 : Nat), segs := [Go.Eng.SV.arr Go.IntKind.u64 (8 : Nat) (R64 m h (80 : Nat))] })], next := (5 : Nat) }) (ob := [Bool.false = Bool.false]) (sc' := []) (by kernel_rfl) (by repeat' first | exact trivial | exact decide_eq_true (by omega) | exact decide_eq_false (by omega) | omega | (simp only [List.length_drop, List.length_take]; omega) | (simp only [decide_eq_true_eq, decide_eq_false_iff_not, List.length_drop, List.length_take]; omega) | refine ⟨?_, ?_⟩) ?_
    exact Hold.weaken (v64_A h m hr _ 0 rfl (by omega)) (by simp [wks, wk, wk0, lim, xA])
theorem v64_I (h m w : List Nat) (i : Nat) (hm : m.length = 128) (hi : i < 16) (hk : Hold Try.prog (bodyOf Try.f145) (Fin Try.prog Try.f145 w0 S res) w0 S vW (xW h m (I64 m i w 8) (i + 1))) : ∀ d j, 8 - j = d → j ≤ 8 → Hold Try.prog (bodyOf Try.f145) (Fin Try.prog Try.f145 w0 S res) w0 S vI (xI h m (I64 m i w j) i j) := by
  intro d
  induction d using Nat.strongRecOn with
  | _ d ih =>
  intro j hd hj
  by_cases hlt : j < 8
  · refine hold_unroll (c := _) rfl ?_
    refine hold_cut mixed okM12a (unroll := false) (f := 300) (sc := [true]) (ks := [1,2,4,5,6,7,19,24]) (bs := [0,1,2,3]) (nx := 4) (st' := [Go.Eng.It.lp [(0 : Nat), (1 : Nat), (0 : Nat), (0 : Nat), (1 : Nat), (0 : Nat), (1 : Nat), (0 : Nat), (0 : Nat), (1 : Nat), (1 : Nat), (0 : Nat), (0 : Nat), (1 : Nat), (0 : Nat), (1 : Nat), (1 : Nat), (1 : Nat)], Go.Eng.It.blk (2 : Nat), Go.Eng.It.at [(1 : Nat), (0 : Nat), (1 : Nat), (0 : Nat), (1 : Nat), (0 : Nat), (0 : Nat), (1 : Nat), (1 : Nat), (0 : Nat), (0 : Nat), (1 : Nat), (0 : Nat), (1 : Nat), (1 : Nat), (1 : Nat)], Go.Eng.It.at [(1 : Nat), (1 : Nat), (0 : Nat), (0 : Nat), (1 : Nat), (1 : Nat), (0 : Nat), (0 : Nat), (1 : Nat), (0 : Nat), (1 : Nat), (1 : Nat), (1 : Nat)], Go.Eng.It.blk (1 : Nat), Go.Eng.It.at [(1 : Nat), (1 : Nat), (1 : Nat), (0 : Nat), (0 : Nat), (1 : Nat), (0 : Nat), (1 : Nat), (1 : Nat), (1 : Nat)], Go.Eng.It.lp [(0 : Nat), (1 : Nat), (0 : Nat), (1 : Nat), (1 : Nat), (1 : Nat)], Go.Eng.It.blk (0 : Nat), Go.Eng.It.at [(1 : Nat), (1 : Nat), (1 : Nat), (1 : Nat)]]) (σ' := { nt := (175 : Nat), slots := [((1 : Nat), Go.Eng.SV.sl Go.IntKind.u8 m), ((2 : Nat), Go.Eng.SV.ptr (0 : Nat) (0 : Nat) (Go.Eng.Ix.c (0 : Nat))), ((4 : Nat), Go.Eng.SV.ptr (1 : Nat) (0 : Nat) (Go.Eng.Ix.c (0 : Nat))), ((5 : Nat), Go.Eng.SV.ptr (2 : Nat) (0 : Nat) (Go.Eng.Ix.c (0 : Nat))), ((6 : Nat), Go.Eng.SV.ptr (3 : Nat) (0 : Nat) (Go.Eng.Ix.c (0 : Nat))), ((7 : Nat), Go.Eng.SV.u Go.IntKind.i64 i), ((19 : Nat), Go.Eng.SV.u Go.IntKind.i64 i), ((24 : Nat), Go.Eng.SV.u Go.IntKind.i64 (j + (1 : Nat)))], blks := [((0 : Nat), { ty := (125 : Nat), segs := [Go.Eng.SV.arr Go.IntKind.u64 (8 : Nat) h] }), ((1 : Nat), { ty := (125 : Nat), segs := [Go.Eng.SV.arr Go.IntKind.u64 (8 : Nat) [(0 : Nat), (0 : Nat), (0 : Nat), (0 : Nat), (0 : Nat), (0 : Nat), (0 : Nat), (0 : Nat)]] }), ((2 : Nat), { ty := (143 : Nat), segs := [Go.Eng.SV.arr Go.IntKind.u64 (80 : Nat) Go.Eng.B.kL] }), ((3 : Nat), { ty := (143 : Nat), segs := [Go.Eng.SV.arr Go.IntKind.u64 (80 : Nat) ((I64 m i w j).set i ((I64 m i w j).getD i (0 : Nat) * (256 : Nat) % (18446744073709551616 : Nat) ||| m.getD ((8 : Nat) * i + j) (0 : Nat)))] })], next := (4 : Nat) }) (ob := [Decidable.decide (j < (8 : Nat)) = Bool.true, i < (80 : Nat), i < (80 : Nat), (8 : Nat) * i < (9223372036854775808 : Nat), (8 : Nat) * i + j < (9223372036854775808 : Nat), (8 : Nat) * i + j < m.length, i < (80 : Nat), i < (80 : Nat), j + (1 : Nat) < (9223372036854775808 : Nat)]) (sc' := []) (by kernel_rfl) (by repeat' first | exact trivial | exact decide_eq_true (by omega) | exact decide_eq_false (by omega) | omega | (simp only [List.length_drop, List.length_take]; omega) | (simp only [decide_eq_true_eq, decide_eq_false_iff_not, List.length_drop, List.length_take]; omega) | refine ⟨?_, ?_⟩) ?_
    exact ih (8 - (j + 1)) (by omega) (j + 1) rfl (by omega)
  · have e : j = 8 := by omega
    subst e
    refine hold_unroll (c := _) rfl ?_
    refine hold_cut mixed okM12a (unroll := false) (f := 300) (sc := [false]) (ks := [1,2,4,5,6,19]) (bs := [0,1,2,3]) (nx := 4) (st' := [Go.Eng.It.lp [(0 : Nat), (1 : Nat), (0 : Nat), (1 : Nat), (1 : Nat), (1 : Nat)], Go.Eng.It.blk (0 : Nat), Go.Eng.It.at [(1 : Nat), (1 : Nat), (1 : Nat), (1 : Nat)]]) (σ' := { nt := (175 : Nat), slots := [((1 : Nat), Go.Eng.SV.sl Go.IntKind.u8 m), ((2 : Nat), Go.Eng.SV.ptr (0 : Nat) (0 : Nat) (Go.Eng.Ix.c (0 : Nat))), ((4 : Nat), Go.Eng.SV.ptr (1 : Nat) (0 : Nat) (Go.Eng.Ix.c (0 : Nat))), ((5 : Nat), Go.Eng.SV.ptr (2 : Nat) (0 : Nat) (Go.Eng.Ix.c (0 : Nat))), ((6 : Nat), Go.Eng.SV.ptr (3 : Nat) (0 : Nat) (Go.Eng.Ix.c (0 : Nat))), ((19 : Nat), Go.Eng.SV.u Go.IntKind.i64 (i + (1 : Nat)))], blks := [((0 : Nat), { ty := (125 : Nat), segs := [Go.Eng.SV.arr Go.IntKind.u64 (8 : Nat) h] }), ((1 : Nat), { ty := (125 : Nat), segs := [Go.Eng.SV.arr Go.IntKind.u64 (8 : Nat) [(0 : Nat), (0 : Nat), (0 : Nat), (0 : Nat), (0 : Nat), (0 : Nat), (0 : Nat), (0 : Nat)]] }), ((2 : Nat), { ty := (143 : Nat), segs := [Go.Eng.SV.arr Go.IntKind.u64 (80 : Nat) Go.Eng.B.kL] }), ((3 : Nat), { ty := (143 : Nat), segs := [Go.Eng.SV.arr Go.IntKind.u64 (80 : Nat) (I64 m i w (8 : Nat))] })], next := (4 : Nat) }) (ob := [Bool.false = Bool.false, i + (1 : Nat) < (9223372036854775808 : Nat)]) (sc' := []) (by kernel_rfl) (by repeat' first | exact trivial | exact decide_eq_true (by omega) | exact decide_eq_false (by omega) | omega | (simp only [List.length_drop, List.length_take]; omega) | (simp only [decide_eq_true_eq, decide_eq_false_iff_not, List.length_drop, List.length_take]; omega) | refine ⟨?_, ?_⟩) ?_
    exact hk
theorem v64_W (h m : List Nat) (hm : m.length = 128) (hr : res = .arr .u64 8 (A64 m h 8)) : ∀ d i, 80 - i = d → i ≤ 80 → Hold Try.prog (bodyOf Try.f145) (Fin Try.prog Try.f145 w0 S res) w0 S vW (xW h m (W64 m i) i) := by
  intro d
  induction d using Nat.strongRecOn with
  | _ d ih =>
  intro i hd hi
  have hs : W64 m (i + 1) = if i < 16 then I64 m i (W64 m i) 8 else (W64 m i).set i (wB64 (W64 m i) i) := rfl
  by_cases hlt : i < 80
  · have e := ih (80 - (i + 1)) (by omega) (i + 1) rfl (by omega)
    refine hold_unroll (c := _) rfl ?_
    by_cases hl2 : i < 16
    · rw [hs, if_pos hl2] at e
      have hcl : (List.drop (8 * i) (List.take (8 * i + 8) m)).length = 8 := by rw [List.length_drop, List.length_take]; omega
      refine hold_cut mixed okM12a (unroll := false) (f := 300) (sc := [true, true]) (ks := [1,2,4,5,6,7,19,24]) (bs := [0,1,2,3]) (nx := 4) (st' := [Go.Eng.It.lp [(0 : Nat), (1 : Nat), (0 : Nat), (0 : Nat), (1 : Nat), (0 : Nat), (1 : Nat), (0 : Nat), (0 : Nat), (1 : Nat), (1 : Nat), (0 : Nat), (0 : Nat), (1 : Nat), (0 : Nat), (1 : Nat), (1 : Nat), (1 : Nat)], Go.Eng.It.blk (2 : Nat), Go.Eng.It.at [(1 : Nat), (0 : Nat), (1 : Nat), (0 : Nat), (1 : Nat), (0 : Nat), (0 : Nat), (1 : Nat), (1 : Nat), (0 : Nat), (0 : Nat), (1 : Nat), (0 : Nat), (1 : Nat), (1 : Nat), (1 : Nat)], Go.Eng.It.at [(1 : Nat), (1 : Nat), (0 : Nat), (0 : Nat), (1 : Nat), (1 : Nat), (0 : Nat), (0 : Nat), (1 : Nat), (0 : Nat), (1 : Nat), (1 : Nat), (1 : Nat)], Go.Eng.It.blk (1 : Nat), Go.Eng.It.at [(1 : Nat), (1 : Nat), (1 : Nat), (0 : Nat), (0 : Nat), (1 : Nat), (0 : Nat), (1 : Nat), (1 : Nat), (1 : Nat)], Go.Eng.It.lp [(0 : Nat), (1 : Nat), (0 : Nat), (1 : Nat), (1 : Nat), (1 : Nat)], Go.Eng.It.blk (0 : Nat), Go.Eng.It.at [(1 : Nat), (1 : Nat), (1 : Nat), (1 : Nat)]]) (σ' := { nt := (175 : Nat), slots := [((1 : Nat), Go.Eng.SV.sl Go.IntKind.u8 m), ((2 : Nat), Go.Eng.SV.ptr (0 : Nat) (0 : Nat) (Go.Eng.Ix.c (0 : Nat))), ((4 : Nat), Go.Eng.SV.ptr (1 : Nat) (0 : Nat) (Go.Eng.Ix.c (0 : Nat))), ((5 : Nat), Go.Eng.SV.ptr (2 : Nat) (0 : Nat) (Go.Eng.Ix.c (0 : Nat))), ((6 : Nat), Go.Eng.SV.ptr (3 : Nat) (0 : Nat) (Go.Eng.Ix.c (0 : Nat))), ((7 : Nat), Go.Eng.SV.u Go.IntKind.i64 i), ((19 : Nat), Go.Eng.SV.u Go.IntKind.i64 i), ((24 : Nat), Go.Eng.SV.c Go.IntKind.i64 (0 : Int))], blks := [((0 : Nat), { ty := (125 : Nat), segs := [Go.Eng.SV.arr Go.IntKind.u64 (8 : Nat) h] }), ((1 : Nat), { ty := (125 : Nat), segs := [Go.Eng.SV.arr Go.IntKind.u64 (8 : Nat) [(0 : Nat), (0 : Nat), (0 : Nat), (0 : Nat), (0 : Nat), (0 : Nat), (0 : Nat), (0 : Nat)]] }), ((2 : Nat), { ty := (143 : Nat), segs := [Go.Eng.SV.arr Go.IntKind.u64 (80 : Nat) Go.Eng.B.kL] }), ((3 : Nat), { ty := (143 : Nat), segs := [Go.Eng.SV.arr Go.IntKind.u64 (80 : Nat) (W64 m i)] })], next := (4 : Nat) }) (ob := [Decidable.decide (i < (80 : Nat)) = Bool.true, Decidable.decide (i < (16 : Nat)) = Bool.true]) (sc' := []) (by kernel_rfl) (by repeat' first | exact trivial | exact decide_eq_true (by omega) | exact decide_eq_false (by omega) | omega | (simp only [List.length_drop, List.length_take]; omega) | (simp only [decide_eq_true_eq, decide_eq_false_iff_not, List.length_drop, List.length_take]; omega) | refine ⟨?_, ?_⟩) ?_
      exact Hold.weaken (v64_I h m (W64 m i) i hm hl2 e _ 0 rfl (by omega)) (by simp [wks, wk, wk0, lim, xI]; try omega)
    · rw [hs, if_neg hl2] at e
      refine hold_cut mixed okM12a (unroll := false) (f := 300) (sc := [true, false]) (ks := [1,2,4,5,6,19]) (bs := [0,1,2,3]) (nx := 4) (st' := [Go.Eng.It.lp [(0 : Nat), (1 : Nat), (0 : Nat), (1 : Nat), (1 : Nat), (1 : Nat)], Go.Eng.It.blk (0 : Nat), Go.Eng.It.at [(1 : Nat), (1 : Nat), (1 : Nat), (1 : Nat)]]) (σ' := { nt := (175 : Nat), slots := [((1 : Nat), Go.Eng.SV.sl Go.IntKind.u8 m), ((2 : Nat), Go.Eng.SV.ptr (0 : Nat) (0 : Nat) (Go.Eng.Ix.c (0 : Nat))), ((4 : Nat), Go.Eng.SV.ptr (1 : Nat) (0 : Nat) (Go.Eng.Ix.c (0 : Nat))), ((5 : Nat), Go.Eng.SV.ptr (2 : Nat) (0 : Nat) (Go.Eng.Ix.c (0 : Nat))), ((6 : Nat), Go.Eng.SV.ptr (3 : Nat) (0 : Nat) (Go.Eng.Ix.c (0 : Nat))), ((19 : Nat), Go.Eng.SV.u Go.IntKind.i64 (i + (1 : Nat)))], blks := [((0 : Nat), { ty := (125 : Nat), segs := [Go.Eng.SV.arr Go.IntKind.u64 (8 : Nat) h] }), ((1 : Nat), { ty := (125 : Nat), segs := [Go.Eng.SV.arr Go.IntKind.u64 (8 : Nat) [(0 : Nat), (0 : Nat), (0 : Nat), (0 : Nat), (0 : Nat), (0 : Nat), (0 : Nat), (0 : Nat)]] }), ((2 : Nat), { ty := (143 : Nat), segs := [Go.Eng.SV.arr Go.IntKind.u64 (80 : Nat) Go.Eng.B.kL] }), ((3 : Nat), { ty := (143 : Nat), segs := [Go.Eng.SV.arr Go.IntKind.u64 (80 : Nat) ((W64 m i).set i (((((((W64 m i).getD ((↑i : Int) - (2 : Int)).toNat (0 : Nat) * (35184372088832 : Nat) % (18446744073709551616 : Nat) ||| (W64 m i).getD ((↑i : Int) - (2 : Int)).toNat (0 : Nat) / (524288 : Nat)) ^^^ ((W64 m i).getD ((↑i : Int) - (2 : Int)).toNat (0 : Nat) * (8 : Nat) % (18446744073709551616 : Nat) ||| (W64 m i).getD ((↑i : Int) - (2 : Int)).toNat (0 : Nat) / (2305843009213693952 : Nat)) ^^^ (W64 m i).getD ((↑i : Int) - (2 : Int)).toNat (0 : Nat) / (64 : Nat)) + (W64 m i).getD ((↑i : Int) - (7 : Int)).toNat (0 : Nat)) % (18446744073709551616 : Nat) + (((W64 m i).getD ((↑i : Int) - (15 : Int)).toNat (0 : Nat) * (9223372036854775808 : Nat) % (18446744073709551616 : Nat) ||| (W64 m i).getD ((↑i : Int) - (15 : Int)).toNat (0 : Nat) / (2 : Nat)) ^^^ ((W64 m i).getD ((↑i : Int) - (15 : Int)).toNat (0 : Nat) * (72057594037927936 : Nat) % (18446744073709551616 : Nat) ||| (W64 m i).getD ((↑i : Int) - (15 : Int)).toNat (0 : Nat) / (256 : Nat)) ^^^ (W64 m i).getD ((↑i : Int) - (15 : Int)).toNat (0 : Nat) / (128 : Nat))) % (18446744073709551616 : Nat) + (W64 m i).getD ((↑i : Int) - (16 : Int)).toNat (0 : Nat)) % (18446744073709551616 : Nat)))] })], next := (4 : Nat) }) (ob := [Decidable.decide (i < (80 : Nat)) = Bool.true, Decidable.decide (i < (16 : Nat)) = Bool.false, (0 : Int) ≤ (↑i : Int) - (15 : Int), ((↑i : Int) - (15 : Int)).toNat < (80 : Nat), ((↑i : Int) - (15 : Int)).toNat < (80 : Nat), (0 : Int) ≤ (↑i : Int) - (2 : Int), ((↑i : Int) - (2 : Int)).toNat < (80 : Nat), ((↑i : Int) - (2 : Int)).toNat < (80 : Nat), (0 : Int) ≤ (↑i : Int) - (7 : Int), ((↑i : Int) - (7 : Int)).toNat < (80 : Nat), ((↑i : Int) - (7 : Int)).toNat < (80 : Nat), (0 : Int) ≤ (↑i : Int) - (16 : Int), ((↑i : Int) - (16 : Int)).toNat < (80 : Nat), ((↑i : Int) - (16 : Int)).toNat < (80 : Nat), i < (80 : Nat), i < (80 : Nat), i + (1 : Nat) < (9223372036854775808 : Nat)]) (sc' := []) (by kernel_rfl) (by repeat' first | exact trivial | exact decide_eq_true (by omega) | exact decide_eq_false (by omega) | omega | (simp only [List.length_drop, List.length_take]; omega) | (simp only [decide_eq_true_eq, decide_eq_false_iff_not, List.length_drop, List.length_take]; omega) | refine ⟨?_, ?_⟩) ?_
      exact e
  · have e : i = 80 := by omega
    subst e
    refine hold_unroll (c := _) rfl ?_
    refine hold_cut mixed okM12a (unroll := false) (f := 300) (sc := [false]) (ks := [1,2,4,5,6,11,82]) (bs := [0,1,2,3,4]) (nx := 5) (st' := [Go.Eng.It.lp [(0 : Nat), (1 : Nat), (0 : Nat), (1 : Nat), (1 : Nat), (1 : Nat), (1 : Nat), (1 : Nat)], Go.Eng.It.blk (4 : Nat), Go.Eng.It.at [(1 : Nat), (1 : Nat), (1 : Nat), (1 : Nat), (1 : Nat), (1 : Nat)]]) (σ' := { nt := (175 : Nat), slots := [((1 : Nat), Go.Eng.SV.sl Go.IntKind.u8 m), ((2 : Nat), Go.Eng.SV.ptr (0 : Nat) (0 : Nat) (Go.Eng.Ix.c (0 : Nat))), ((4 : Nat), Go.Eng.SV.ptr (1 : Nat) (0 : Nat) (Go.Eng.Ix.c (0 : Nat))), ((5 : Nat), Go.Eng.SV.ptr (2 : Nat) (0 : Nat) (Go.Eng.Ix.c (0 : Nat))), ((6 : Nat), Go.Eng.SV.ptr (3 : Nat) (0 : Nat) (Go.Eng.Ix.c (0 : Nat))), ((11 : Nat), Go.Eng.SV.ptr (4 : Nat) (0 : Nat) (Go.Eng.Ix.c (0 : Nat))), ((82 : Nat), Go.Eng.SV.c Go.IntKind.i64 (0 : Int))], blks := [((0 : Nat), { ty := (125 : Nat), segs := [Go.Eng.SV.arr Go.IntKind.u64 (8 : Nat) h] }), ((1 : Nat), { ty := (125 : Nat), segs := [Go.Eng.SV.arr Go.IntKind.u64 (8 : Nat) [(0 : Nat), (0 : Nat), (0 : Nat), (0 : Nat), (0 : Nat), (0 : Nat), (0 : Nat), (0 : Nat)]] }), ((2 : Nat), { ty := (143 : Nat), segs := [Go.Eng.SV.arr Go.IntKind.u64 (80 : Nat) Go.Eng.B.kL] }), ((3 : Nat), { ty := (143 : Nat), segs := [Go.Eng.SV.arr Go.IntKind.u64 (80 : Nat) (W64 m (80 : Nat))] }), ((4 : Nat), { ty := (125 : Nat), segs := [Go.Eng.SV.arr Go.IntKind.u64 (8 : Nat) h] })], next := (5 : Nat) }) (ob := [Bool.false = Bool.false]) (sc' := []) (by kernel_rfl) (by repeat' first | exact trivial | exact decide_eq_true (by omega) | exact decide_eq_false (by omega) | omega | (simp only [List.length_drop, List.length_take]; omega) | (simp only [decide_eq_true_eq, decide_eq_false_iff_not, List.length_drop, List.length_take]; omega) | refine ⟨?_, ?_⟩) ?_
    exact Hold.weaken (v64_R h m hr _ 0 rfl (by omega)) (by simp [wks, wk, wk0, lim, xR])
theorem block512_c (h m : List Nat) (hm : m.length = 128) : Contract Try.prog 145 [.arr .u64 8 h, .sl .u8 m] (.arr .u64 8 (A64 m h 8)) := by
  refine contract Try.func145 (body := bodyOf Try.f145) rfl (by kernel_rfl) (by kernel_rfl) rfl ?_
  rintro _ w0 S
  refine hold_cut mixed okM12a (unroll := false) (f := 100) (sc := []) (ks := [1,2,4,5,6,19]) (bs := [0,1,2,3]) (nx := 4) (st' := [Go.Eng.It.lp [(0 : Nat), (1 : Nat), (0 : Nat), (1 : Nat), (1 : Nat), (1 : Nat)], Go.Eng.It.blk (0 : Nat), Go.Eng.It.at [(1 : Nat), (1 : Nat), (1 : Nat), (1 : Nat)]]) (σ' := { nt := (175 : Nat), slots := [((1 : Nat), Go.Eng.SV.sl Go.IntKind.u8 m), ((2 : Nat), Go.Eng.SV.ptr (0 : Nat) (0 : Nat) (Go.Eng.Ix.c (0 : Nat))), ((4 : Nat), Go.Eng.SV.ptr (1 : Nat) (0 : Nat) (Go.Eng.Ix.c (0 : Nat))), ((5 : Nat), Go.Eng.SV.ptr (2 : Nat) (0 : Nat) (Go.Eng.Ix.c (0 : Nat))), ((6 : Nat), Go.Eng.SV.ptr (3 : Nat) (0 : Nat) (Go.Eng.Ix.c (0 : Nat))), ((19 : Nat), Go.Eng.SV.c Go.IntKind.i64 (0 : Int))], blks := [((0 : Nat), { ty := (125 : Nat), segs := [Go.Eng.SV.arr Go.IntKind.u64 (8 : Nat) h] }), ((1 : Nat), { ty := (125 : Nat), segs := [Go.Eng.SV.arr Go.IntKind.u64 (8 : Nat) [(0 : Nat), (0 : Nat), (0 : Nat), (0 : Nat), (0 : Nat), (0 : Nat), (0 : Nat), (0 : Nat)]] }), ((2 : Nat), { ty := (143 : Nat), segs := [Go.Eng.SV.arr Go.IntKind.u64 (80 : Nat) Go.Eng.B.kL] }), ((3 : Nat), { ty := (143 : Nat), segs := [Go.Eng.SV.arr Go.IntKind.u64 (80 : Nat) [(0 : Nat), (0 : Nat), (0 : Nat), (0 : Nat), (0 : Nat), (0 : Nat), (0 : Nat), (0 : Nat), (0 : Nat), (0 : Nat), (0 : Nat), (0 : Nat), (0 : Nat), (0 : Nat), (0 : Nat), (0 : Nat), (0 : Nat), (0 : Nat), (0 : Nat), (0 : Nat), (0 : Nat), (0 : Nat), (0 : Nat), (0 : Nat), (0 : Nat), (0 : Nat), (0 : Nat), (0 : Nat), (0 : Nat), (0 : Nat), (0 : Nat), (0 : Nat), (0 : Nat), (0 : Nat), (0 : Nat), (0 : Nat), (0 : Nat), (0 : Nat), (0 : Nat), (0 : Nat), (0 : Nat), (0 : Nat), (0 : Nat), (0 : Nat), (0 : Nat), (0 : Nat), (0 : Nat), (0 : Nat), (0 : Nat), (0 : Nat), (0 : Nat), (0 : Nat), (0 : Nat), (0 : Nat), (0 : Nat), (0 : Nat), (0 : Nat), (0 : Nat), (0 : Nat), (0 : Nat), (0 : Nat), (0 : Nat), (0 : Nat), (0 : Nat), (0 : Nat), (0 : Nat), (0 : Nat), (0 : Nat), (0 : Nat), (0 : Nat), (0 : Nat), (0 : Nat), (0 : Nat), (0 : Nat), (0 : Nat), (0 : Nat), (0 : Nat), (0 : Nat), (0 : Nat), (0 : Nat)]] })], next := (4 : Nat) }) (ob := []) (sc' := []) (by kernel_rfl) trivial ?_
  exact Hold.weaken (v64_W h m hm rfl _ 0 rfl (by omega)) (by simp [wks, wk, wk0, lim, xW])
end
end Go.Eng.B

/- SHA-512, of both. -/
namespace Go.Eng.B
open Go Go.Eng Go.Proofs
set_option maxRecDepth 100000
set_option linter.unusedSimpArgs false
def eqL (a b : List Nat) : Bool := match a, b with
  | [], [] => true
  | x :: r, y :: q => Nat.beq x y && eqL r q
  | _, _ => false
noncomputable def eR64 (H : List Bk) (args : List SV) : Option (MRes × List Prop) :=
  match H, args with
  | [⟨125, [.arr .u64 8 h], false⟩], [.ptr 0 0 (.c 0), .sl .u64 k, .sl .u8 m] => some (⟨.tup [], [b64 (A64 m h 8)], []⟩, [k = kL, m.length = 128])
  | _, _ => none
def eB512 (args : List SV) : Option (SV × List Prop) :=
  match args with
  | [.arr .u64 8 h, .sl .u8 m] => some (.arr .u64 8 (A64 m h 8), [m.length = 128])
  | _ => none
noncomputable def M15a : Ctr := addM 144 eR64 (addC 145 eB512 M12a)
def cmp64 (m h : List Nat) (i : Nat) : List Nat := itr (fun h j => A64 (((m.drop (128 * j)).take 128).drop 0) h 8) h i
def out64 (h : List Nat) (i : Nat) : List Nat := itr (fun o j => beL (h.getD j 0) o) [] i
def sum64 (b : List Nat) : List Nat := out64 (cmp64 (pd 128 16 b) hL ((pd 128 16 b).length / 128)) 8
def y3 : List It := [.lp [0, 1, 0, 1, 1], .blk 0, .at [1, 1, 1]]
def z3 (m h : List Nat) : St := ⟨42, [(3, .sl .u64 kL), (4, .ptr 0 0 (.c 0)), (5, .sl .u8 m)], [(0, b64 h)], 1, 0⟩
def y4 : List It := [.at [0, 1, 0, 0, 1, 0, 1, 1, 1, 1], .at [1, 1, 0, 0, 1, 0, 1, 1, 1, 1], .lp [0, 1, 0, 1, 1, 1, 1], .blk 2, .at [1, 1, 1, 1, 1]]
def z4 (h : List Nat) (i : Nat) : St := ⟨42, [(6, .row 1 (.sl .u8 (out64 h i))), (25, .arr .u64 8 h), (26, .u .i64 i), (27, .b (decide (i < 8)))], [(1, bY)], 4, 0⟩
def y2 : List It := [.lp [0, 1, 0, 1, 1, 1], .blk 0, .at [1, 1, 1, 1]]
def z2 (m h : List Nat) (i : Nat) : St := ⟨45, [(3, .ptr 0 0 (.c 0)), (4, .sl .u8 m), (5, .u .i64 (128 * i))], [(0, b64 h)], 1, 0⟩
def y5 : List It := [.at [0, 1, 0, 0, 1, 0, 1, 1, 1, 1, 1], .at [1, 1, 0, 0, 1, 0, 1, 1, 1, 1, 1], .lp [0, 1, 0, 1, 1, 1, 1, 1], .blk 2, .at [1, 1, 1, 1, 1, 1]]
def z5 (h : List Nat) (i : Nat) : St := ⟨45, [(6, .row 1 (.sl .u8 (out64 h i))), (26, .arr .u64 8 h), (27, .u .i64 i), (28, .b (decide (i < 8)))], [(1, bY)], 4, 0⟩
def y4h : List It := [.lp [0, 1, 0, 1, 1, 1, 1], .blk 2, .at [1, 1, 1, 1, 1]]
def z4h (h : List Nat) : St := ⟨42, [(6, .row 1 (.sl .u8 [])), (25, .arr .u64 8 h), (26, .u .i64 0)], [(1, bY)], 4, 0⟩
def y5h : List It := [.lp [0, 1, 0, 1, 1, 1, 1, 1], .blk 2, .at [1, 1, 1, 1, 1, 1]]
def z5h (h : List Nat) : St := ⟨45, [(6, .row 1 (.sl .u8 [])), (26, .arr .u64 8 h), (27, .u .i64 0)], [(1, bY)], 4, 0⟩
theorem cR64 : ∀ H args r ob, eR64 H args = some (r, ob) → All ob → ContractM Try.prog 144 H args r := by
  intro H args r ob h hob
  unfold eR64 at h
  split at h
  · cases h
    have hk := hob.1
    subst hk
    exact round64_c _ _ hob.2.1
  · cases h
theorem cB512 : ∀ args res ob, eB512 args = some (res, ob) → All ob → Contract Try.prog 145 args res := by
  intro args res ob h hob
  unfold eB512 at h
  split at h
  · cases h; exact block512_c _ _ hob.1
  · cases h
theorem okM15a : CtrOk Try.prog M15a := addM_ok (addC_ok okM12a cB512) cR64
theorem out64_len (h : List Nat) : ∀ i, (out64 h i).length = 8 * i := by
  intro i
  induction i with
  | zero => rfl
  | succ i ih => show (beL _ (out64 h i)).length = _; simp only [beL, List.length_append, ih, List.length_cons, List.length_nil]; omega
theorem pd64_len (b : List Nat) : (pd 128 16 b).length = b.length + 1 + (zP 128 16 b.length + 8) + 8 := by
  simp [pd, beL, pdM_len]
theorem pd64_mul (b : List Nat) : (pd 128 16 b).length = 128 * ((pd 128 16 b).length / 128) := by
  rw [pd64_len]; unfold zP; omega
theorem cut_ref64 (m : List Nat) (i : Nat) : (m.take (128 * i + 128)).drop (128 * i) = ((m.drop (128 * i)).take 128).drop 0 := by
  rw [List.drop_zero, List.drop_take, Nat.add_sub_cancel_left]
section
variable {w0 : World} {S : Own} {res : SV}
theorem z512_4 (h : List Nat) (hr : res = .sl .u8 (out64 h 8)) : ∀ d i, 8 - i = d → i ≤ 8 →
    Hold Try.prog (bodyOf Try.f50) (Fin Try.prog Try.f50 w0 S res) w0 S y4 (z4 h i) := by
  intro d
  induction d using Nat.strongRecOn with
  | _ d ih =>
  intro i hd hi
  by_cases hlt : i < 8
  · have e := ih (8 - (i + 1)) (by omega) (i + 1) rfl (by omega)
    refine hold_cut mixed okM15a (unroll := true) (f := 600) (sc := [true]) (ks := [6,25,26,27]) (bs := [1]) (nx := 4) (st' := [Go.Eng.It.at [(0 : Nat), (1 : Nat), (0 : Nat), (0 : Nat), (1 : Nat), (0 : Nat), (1 : Nat), (1 : Nat), (1 : Nat), (1 : Nat)], Go.Eng.It.at [(1 : Nat), (1 : Nat), (0 : Nat), (0 : Nat), (1 : Nat), (0 : Nat), (1 : Nat), (1 : Nat), (1 : Nat), (1 : Nat)], Go.Eng.It.lp [(0 : Nat), (1 : Nat), (0 : Nat), (1 : Nat), (1 : Nat), (1 : Nat), (1 : Nat)], Go.Eng.It.blk (2 : Nat), Go.Eng.It.at [(1 : Nat), (1 : Nat), (1 : Nat), (1 : Nat), (1 : Nat)]]) (σ' := { nt := (42 : Nat), slots := [((6 : Nat), Go.Eng.SV.row (1 : Nat) (Go.Eng.SV.sl Go.IntKind.u8 (out64 h i ++ [h.getD i (0 : Nat) / (72057594037927936 : Nat) % (256 : Nat)] ++ [h.getD i (0 : Nat) / (281474976710656 : Nat) % (256 : Nat)] ++ [h.getD i (0 : Nat) / (1099511627776 : Nat) % (256 : Nat)] ++ [h.getD i (0 : Nat) / (4294967296 : Nat) % (256 : Nat)] ++ [h.getD i (0 : Nat) / (16777216 : Nat) % (256 : Nat)] ++ [h.getD i (0 : Nat) / (65536 : Nat) % (256 : Nat)] ++ [h.getD i (0 : Nat) / (256 : Nat) % (256 : Nat)] ++ [h.getD i (0 : Nat) / (1 : Nat) % (256 : Nat)]))), ((25 : Nat), Go.Eng.SV.arr Go.IntKind.u64 (8 : Nat) h), ((26 : Nat), Go.Eng.SV.u Go.IntKind.i64 (i + (1 : Nat))), ((27 : Nat), Go.Eng.SV.b (Decidable.decide (i + (1 : Nat) < (8 : Nat))))], blks := [((1 : Nat), { ty := (5 : Nat), segs := [], row := Bool.true })], next := (4 : Nat) }) (ob := [Decidable.decide (i < (8 : Nat)) = Bool.true, i < (8 : Nat), Go.Eng.slenD (Go.Eng.SV.sl Go.IntKind.u8 (out64 h i ++ [h.getD i (0 : Nat) / (72057594037927936 : Nat) % (256 : Nat)])) * (1 : Nat) ≤ (140737488355328 : Nat), Go.Eng.slenD (Go.Eng.SV.sl Go.IntKind.u8 (out64 h i ++ [h.getD i (0 : Nat) / (72057594037927936 : Nat) % (256 : Nat)] ++ [h.getD i (0 : Nat) / (281474976710656 : Nat) % (256 : Nat)])) * (1 : Nat) ≤ (140737488355328 : Nat), Go.Eng.slenD (Go.Eng.SV.sl Go.IntKind.u8 (out64 h i ++ [h.getD i (0 : Nat) / (72057594037927936 : Nat) % (256 : Nat)] ++ [h.getD i (0 : Nat) / (281474976710656 : Nat) % (256 : Nat)] ++ [h.getD i (0 : Nat) / (1099511627776 : Nat) % (256 : Nat)])) * (1 : Nat) ≤ (140737488355328 : Nat), Go.Eng.slenD (Go.Eng.SV.sl Go.IntKind.u8 (out64 h i ++ [h.getD i (0 : Nat) / (72057594037927936 : Nat) % (256 : Nat)] ++ [h.getD i (0 : Nat) / (281474976710656 : Nat) % (256 : Nat)] ++ [h.getD i (0 : Nat) / (1099511627776 : Nat) % (256 : Nat)] ++ [h.getD i (0 : Nat) / (4294967296 : Nat) % (256 : Nat)])) * (1 : Nat) ≤ (140737488355328 : Nat), Go.Eng.slenD (Go.Eng.SV.sl Go.IntKind.u8 (out64 h i ++ [h.getD i (0 : Nat) / (72057594037927936 : Nat) % (256 : Nat)] ++ [h.getD i (0 : Nat) / (281474976710656 : Nat) % (256 : Nat)] ++ [h.getD i (0 : Nat) / (1099511627776 : Nat) % (256 : Nat)] ++ [h.getD i (0 : Nat) / (4294967296 : Nat) % (256 : Nat)] ++ [h.getD i (0 : Nat) / (16777216 : Nat) % (256 : Nat)])) * (1 : Nat) ≤ (140737488355328 : Nat), Go.Eng.slenD (Go.Eng.SV.sl Go.IntKind.u8 (out64 h i ++ [h.getD i (0 : Nat) / (72057594037927936 : Nat) % (256 : Nat)] ++ [h.getD i (0 : Nat) / (281474976710656 : Nat) % (256 : Nat)] ++ [h.getD i (0 : Nat) / (1099511627776 : Nat) % (256 : Nat)] ++ [h.getD i (0 : Nat) / (4294967296 : Nat) % (256 : Nat)] ++ [h.getD i (0 : Nat) / (16777216 : Nat) % (256 : Nat)] ++ [h.getD i (0 : Nat) / (65536 : Nat) % (256 : Nat)])) * (1 : Nat) ≤ (140737488355328 : Nat), Go.Eng.slenD (Go.Eng.SV.sl Go.IntKind.u8 (out64 h i ++ [h.getD i (0 : Nat) / (72057594037927936 : Nat) % (256 : Nat)] ++ [h.getD i (0 : Nat) / (281474976710656 : Nat) % (256 : Nat)] ++ [h.getD i (0 : Nat) / (1099511627776 : Nat) % (256 : Nat)] ++ [h.getD i (0 : Nat) / (4294967296 : Nat) % (256 : Nat)] ++ [h.getD i (0 : Nat) / (16777216 : Nat) % (256 : Nat)] ++ [h.getD i (0 : Nat) / (65536 : Nat) % (256 : Nat)] ++ [h.getD i (0 : Nat) / (256 : Nat) % (256 : Nat)])) * (1 : Nat) ≤ (140737488355328 : Nat), Go.Eng.slenD (Go.Eng.SV.sl Go.IntKind.u8 (out64 h i ++ [h.getD i (0 : Nat) / (72057594037927936 : Nat) % (256 : Nat)] ++ [h.getD i (0 : Nat) / (281474976710656 : Nat) % (256 : Nat)] ++ [h.getD i (0 : Nat) / (1099511627776 : Nat) % (256 : Nat)] ++ [h.getD i (0 : Nat) / (4294967296 : Nat) % (256 : Nat)] ++ [h.getD i (0 : Nat) / (16777216 : Nat) % (256 : Nat)] ++ [h.getD i (0 : Nat) / (65536 : Nat) % (256 : Nat)] ++ [h.getD i (0 : Nat) / (256 : Nat) % (256 : Nat)] ++ [h.getD i (0 : Nat) / (1 : Nat) % (256 : Nat)])) * (1 : Nat) ≤ (140737488355328 : Nat), i + (1 : Nat) < (9223372036854775808 : Nat)]) (sc' := []) (by kernel_rfl) (by repeat' first | exact trivial | exact decide_eq_true (by omega) | exact decide_eq_false (by omega) | exact Eq.refl kL | omega | (simp only [List.length_drop, List.length_take]; omega) | (simp only [decide_eq_true_eq, decide_eq_false_iff_not, List.length_drop, List.length_take]; omega) | (simp only [slenD, SV.slen, Option.getD_some, List.length_append, List.length_cons, List.length_nil, out64_len]; omega) | refine ⟨?_, ?_⟩) ?_
    exact e
  · have e : i = 8 := by omega
    subst e
    refine hold_end mixed okM15a (unroll := true) (f := 300) (sc := [false]) (r := (Go.Eng.SV.sl Go.IntKind.u8 (out64 h (8 : Nat)))) (ob := [Bool.false = Bool.false]) (sc' := []) (by kernel_rfl) (by repeat' first | exact trivial | exact decide_eq_true (by omega) | exact decide_eq_false (by omega) | exact Eq.refl kL | omega | (simp only [List.length_drop, List.length_take]; omega) | (simp only [decide_eq_true_eq, decide_eq_false_iff_not, List.length_drop, List.length_take]; omega) | (simp only [slenD, SV.slen, Option.getD_some, List.length_append, List.length_cons, List.length_nil, out64_len]; omega) | refine ⟨?_, ?_⟩) ?_
    exact hr.symm
theorem z512_h (h : List Nat) (hr : res = .sl .u8 (out64 h 8)) : Hold Try.prog (bodyOf Try.f50) (Fin Try.prog Try.f50 w0 S res) w0 S y4h (z4h h) := by
  refine hold_unroll (c := _) rfl ?_
  refine hold_cut mixed okM15a (unroll := true) (f := 300) (sc := []) (ks := [6,25,26,27]) (bs := [1]) (nx := 4) (st' := [Go.Eng.It.at [(0 : Nat), (1 : Nat), (0 : Nat), (0 : Nat), (1 : Nat), (0 : Nat), (1 : Nat), (1 : Nat), (1 : Nat), (1 : Nat)], Go.Eng.It.at [(1 : Nat), (1 : Nat), (0 : Nat), (0 : Nat), (1 : Nat), (0 : Nat), (1 : Nat), (1 : Nat), (1 : Nat), (1 : Nat)], Go.Eng.It.lp [(0 : Nat), (1 : Nat), (0 : Nat), (1 : Nat), (1 : Nat), (1 : Nat), (1 : Nat)], Go.Eng.It.blk (2 : Nat), Go.Eng.It.at [(1 : Nat), (1 : Nat), (1 : Nat), (1 : Nat), (1 : Nat)]]) (σ' := { nt := (42 : Nat), slots := [((6 : Nat), Go.Eng.SV.row (1 : Nat) (Go.Eng.SV.sl Go.IntKind.u8 [])), ((25 : Nat), Go.Eng.SV.arr Go.IntKind.u64 (8 : Nat) h), ((26 : Nat), Go.Eng.SV.u Go.IntKind.i64 (0 : Nat)), ((27 : Nat), Go.Eng.SV.b Bool.true)], blks := [((1 : Nat), { ty := (5 : Nat), segs := [], row := Bool.true })], next := (4 : Nat) }) (ob := []) (sc' := []) (by kernel_rfl) trivial ?_
  exact z512_4 h hr _ 0 rfl (by omega)
theorem z512_3 (m h : List Nat) (n : Nat) (hn : m.length = 128 * n) (hr : res = .sl .u8 (out64 (cmp64 m h n) 8)) : ∀ d i, n - i = d → i ≤ n →
    Hold Try.prog (bodyOf Try.f50) (Fin Try.prog Try.f50 w0 S res) w0 S y3 (z3 (m.drop (128 * i)) (cmp64 m h i)) := by
  intro d
  induction d using Nat.strongRecOn with
  | _ d ih =>
  intro i hd hi
  by_cases hlt : i < n
  · have e := ih (n - (i + 1)) (by omega) (i + 1) rfl (by omega)
    refine hold_unroll (c := _) rfl ?_
    refine hold_cut mixed okM15a (unroll := false) (f := 300) (sc := [true]) (ks := [3,4,5]) (bs := [0]) (nx := 1) (st' := [Go.Eng.It.lp [(0 : Nat), (1 : Nat), (0 : Nat), (1 : Nat), (1 : Nat)], Go.Eng.It.blk (0 : Nat), Go.Eng.It.at [(1 : Nat), (1 : Nat), (1 : Nat)]]) (σ' := { nt := (42 : Nat), slots := [((3 : Nat), Go.Eng.SV.sl Go.IntKind.u64 Go.Eng.B.kL), ((4 : Nat), Go.Eng.SV.ptr (0 : Nat) (0 : Nat) (Go.Eng.Ix.c (0 : Nat))), ((5 : Nat), Go.Eng.SV.sl Go.IntKind.u8 (List.drop (128 : Nat) (List.take (List.drop ((128 : Nat) * i) m).length (List.drop ((128 : Nat) * i) m))))], blks := [((0 : Nat), { ty := (125 : Nat), segs := [Go.Eng.SV.arr Go.IntKind.u64 (8 : Nat) (Go.Eng.B.A64 (List.drop (0 : Nat) (List.take (128 : Nat) (List.drop ((128 : Nat) * i) m))) (cmp64 m h i) (8 : Nat))] })], next := (1 : Nat) }) (ob := [Decidable.decide ((0 : Nat) < (List.drop ((128 : Nat) * i) m).length) = Bool.true, (0 : Nat) ≤ (128 : Nat), (128 : Nat) ≤ (List.drop ((128 : Nat) * i) m).length, Go.Eng.B.kL = Go.Eng.B.kL, (List.drop (0 : Nat) (List.take (128 : Nat) (List.drop ((128 : Nat) * i) m))).length = (128 : Nat), (128 : Nat) ≤ (List.drop ((128 : Nat) * i) m).length, (List.drop ((128 : Nat) * i) m).length ≤ (List.drop ((128 : Nat) * i) m).length]) (sc' := []) (by kernel_rfl) (by repeat' first | exact trivial | exact decide_eq_true (by omega) | exact decide_eq_false (by omega) | exact Eq.refl kL | omega | (simp only [List.length_drop, List.length_take]; omega) | (simp only [decide_eq_true_eq, decide_eq_false_iff_not, List.length_drop, List.length_take]; omega) | (simp only [slenD, SV.slen, Option.getD_some, List.length_append, List.length_cons, List.length_nil, out64_len]; omega) | refine ⟨?_, ?_⟩) ?_
    rw [List.take_of_length_le (Nat.le_refl _), List.drop_drop, show 128 * i + 128 = 128 * (i + 1) by omega]
    exact e
  · have e : i = n := by omega
    subst e
    refine hold_unroll (c := _) rfl ?_
    refine hold_cut mixed okM15a (unroll := false) (f := 300) (sc := [false]) (ks := [6,25,26]) (bs := []) (nx := 1) (st' := [Go.Eng.It.lp [(0 : Nat), (1 : Nat), (0 : Nat), (1 : Nat), (1 : Nat), (1 : Nat), (1 : Nat)], Go.Eng.It.blk (2 : Nat), Go.Eng.It.at [(1 : Nat), (1 : Nat), (1 : Nat), (1 : Nat), (1 : Nat)]]) (σ' := { nt := (42 : Nat), slots := [((6 : Nat), Go.Eng.SV.nil), ((25 : Nat), Go.Eng.SV.arr Go.IntKind.u64 (8 : Nat) (cmp64 m h i)), ((26 : Nat), Go.Eng.SV.c Go.IntKind.i64 (0 : Int))], blks := [], next := (1 : Nat) }) (ob := [Decidable.decide ((0 : Nat) < (List.drop ((128 : Nat) * i) m).length) = Bool.false]) (sc' := []) (by kernel_rfl) (by repeat' first | exact trivial | exact decide_eq_true (by omega) | exact decide_eq_false (by omega) | exact Eq.refl kL | omega | (simp only [List.length_drop, List.length_take]; omega) | (simp only [decide_eq_true_eq, decide_eq_false_iff_not, List.length_drop, List.length_take]; omega) | (simp only [slenD, SV.slen, Option.getD_some, List.length_append, List.length_cons, List.length_nil, out64_len]; omega) | refine ⟨?_, ?_⟩) ?_
    refine hold_nil (t := 6) (e := 5) (s0 := .sl .u8 []) rfl ?_
    refine hold_restrict (ks := [6,25,26]) (bs := [1]) (nx := 4) rfl ?_
    exact Hold.weaken (z512_h _ hr) (by simp [wks, wk, wk0, lim, z4h])
theorem sum512_c (b : List Nat) (hb : b.length ≤ 1000000) : Contract Try.prog 50 [.sl .u8 b] (.sl .u8 (sum64 b)) := by
  refine contract Try.func50 (body := bodyOf Try.f50) rfl (by kernel_rfl) (by kernel_rfl) rfl ?_
  rintro _ w0 S
  refine hold_cut mixed okM15a (unroll := false) (f := 100) (sc := []) (ks := [3,4,5]) (bs := [0]) (nx := 1) (st' := [Go.Eng.It.lp [(0 : Nat), (1 : Nat), (0 : Nat), (1 : Nat), (1 : Nat)], Go.Eng.It.blk (0 : Nat), Go.Eng.It.at [(1 : Nat), (1 : Nat), (1 : Nat)]]) (σ' := { nt := (42 : Nat), slots := [((3 : Nat), Go.Eng.SV.sl Go.IntKind.u64 Go.Eng.B.kL), ((4 : Nat), Go.Eng.SV.ptr (0 : Nat) (0 : Nat) (Go.Eng.Ix.c (0 : Nat))), ((5 : Nat), Go.Eng.SV.sl Go.IntKind.u8 (Go.Eng.B.pd (128 : Nat) (16 : Nat) b))], blks := [((0 : Nat), { ty := (125 : Nat), segs := [Go.Eng.SV.arr Go.IntKind.u64 (8 : Nat) Go.Eng.B.hL] })], next := (1 : Nat) }) (ob := [b.length ≤ (1000000 : Nat)]) (sc' := []) (by kernel_rfl) (by repeat' first | exact trivial | exact decide_eq_true (by omega) | exact decide_eq_false (by omega) | exact Eq.refl kL | omega | (simp only [List.length_drop, List.length_take]; omega) | (simp only [decide_eq_true_eq, decide_eq_false_iff_not, List.length_drop, List.length_take]; omega) | (simp only [slenD, SV.slen, Option.getD_some, List.length_append, List.length_cons, List.length_nil, out64_len]; omega) | refine ⟨?_, ?_⟩) ?_
  exact z512_3 (pd 128 16 b) hL _ (pd64_mul b) rfl _ 0 rfl (by omega)
theorem w512_4 (h : List Nat) (hr : res = .sl .u8 (out64 h 8)) : ∀ d i, 8 - i = d → i ≤ 8 →
    Hold Try.prog (bodyOf Try.f51) (Fin Try.prog Try.f51 w0 S res) w0 S y5 (z5 h i) := by
  intro d
  induction d using Nat.strongRecOn with
  | _ d ih =>
  intro i hd hi
  by_cases hlt : i < 8
  · have e := ih (8 - (i + 1)) (by omega) (i + 1) rfl (by omega)
    refine hold_cut mixed okM15a (unroll := true) (f := 600) (sc := [true]) (ks := [6,26,27,28]) (bs := [1]) (nx := 4) (st' := [Go.Eng.It.at [(0 : Nat), (1 : Nat), (0 : Nat), (0 : Nat), (1 : Nat), (0 : Nat), (1 : Nat), (1 : Nat), (1 : Nat), (1 : Nat), (1 : Nat)], Go.Eng.It.at [(1 : Nat), (1 : Nat), (0 : Nat), (0 : Nat), (1 : Nat), (0 : Nat), (1 : Nat), (1 : Nat), (1 : Nat), (1 : Nat), (1 : Nat)], Go.Eng.It.lp [(0 : Nat), (1 : Nat), (0 : Nat), (1 : Nat), (1 : Nat), (1 : Nat), (1 : Nat), (1 : Nat)], Go.Eng.It.blk (2 : Nat), Go.Eng.It.at [(1 : Nat), (1 : Nat), (1 : Nat), (1 : Nat), (1 : Nat), (1 : Nat)]]) (σ' := { nt := (45 : Nat), slots := [((6 : Nat), Go.Eng.SV.row (1 : Nat) (Go.Eng.SV.sl Go.IntKind.u8 (out64 h i ++ [h.getD i (0 : Nat) / (72057594037927936 : Nat) % (256 : Nat)] ++ [h.getD i (0 : Nat) / (281474976710656 : Nat) % (256 : Nat)] ++ [h.getD i (0 : Nat) / (1099511627776 : Nat) % (256 : Nat)] ++ [h.getD i (0 : Nat) / (4294967296 : Nat) % (256 : Nat)] ++ [h.getD i (0 : Nat) / (16777216 : Nat) % (256 : Nat)] ++ [h.getD i (0 : Nat) / (65536 : Nat) % (256 : Nat)] ++ [h.getD i (0 : Nat) / (256 : Nat) % (256 : Nat)] ++ [h.getD i (0 : Nat) / (1 : Nat) % (256 : Nat)]))), ((26 : Nat), Go.Eng.SV.arr Go.IntKind.u64 (8 : Nat) h), ((27 : Nat), Go.Eng.SV.u Go.IntKind.i64 (i + (1 : Nat))), ((28 : Nat), Go.Eng.SV.b (Decidable.decide (i + (1 : Nat) < (8 : Nat))))], blks := [((1 : Nat), { ty := (5 : Nat), segs := [], row := Bool.true })], next := (4 : Nat) }) (ob := [Decidable.decide (i < (8 : Nat)) = Bool.true, i < (8 : Nat), Go.Eng.slenD (Go.Eng.SV.sl Go.IntKind.u8 (out64 h i ++ [h.getD i (0 : Nat) / (72057594037927936 : Nat) % (256 : Nat)])) * (1 : Nat) ≤ (140737488355328 : Nat), Go.Eng.slenD (Go.Eng.SV.sl Go.IntKind.u8 (out64 h i ++ [h.getD i (0 : Nat) / (72057594037927936 : Nat) % (256 : Nat)] ++ [h.getD i (0 : Nat) / (281474976710656 : Nat) % (256 : Nat)])) * (1 : Nat) ≤ (140737488355328 : Nat), Go.Eng.slenD (Go.Eng.SV.sl Go.IntKind.u8 (out64 h i ++ [h.getD i (0 : Nat) / (72057594037927936 : Nat) % (256 : Nat)] ++ [h.getD i (0 : Nat) / (281474976710656 : Nat) % (256 : Nat)] ++ [h.getD i (0 : Nat) / (1099511627776 : Nat) % (256 : Nat)])) * (1 : Nat) ≤ (140737488355328 : Nat), Go.Eng.slenD (Go.Eng.SV.sl Go.IntKind.u8 (out64 h i ++ [h.getD i (0 : Nat) / (72057594037927936 : Nat) % (256 : Nat)] ++ [h.getD i (0 : Nat) / (281474976710656 : Nat) % (256 : Nat)] ++ [h.getD i (0 : Nat) / (1099511627776 : Nat) % (256 : Nat)] ++ [h.getD i (0 : Nat) / (4294967296 : Nat) % (256 : Nat)])) * (1 : Nat) ≤ (140737488355328 : Nat), Go.Eng.slenD (Go.Eng.SV.sl Go.IntKind.u8 (out64 h i ++ [h.getD i (0 : Nat) / (72057594037927936 : Nat) % (256 : Nat)] ++ [h.getD i (0 : Nat) / (281474976710656 : Nat) % (256 : Nat)] ++ [h.getD i (0 : Nat) / (1099511627776 : Nat) % (256 : Nat)] ++ [h.getD i (0 : Nat) / (4294967296 : Nat) % (256 : Nat)] ++ [h.getD i (0 : Nat) / (16777216 : Nat) % (256 : Nat)])) * (1 : Nat) ≤ (140737488355328 : Nat), Go.Eng.slenD (Go.Eng.SV.sl Go.IntKind.u8 (out64 h i ++ [h.getD i (0 : Nat) / (72057594037927936 : Nat) % (256 : Nat)] ++ [h.getD i (0 : Nat) / (281474976710656 : Nat) % (256 : Nat)] ++ [h.getD i (0 : Nat) / (1099511627776 : Nat) % (256 : Nat)] ++ [h.getD i (0 : Nat) / (4294967296 : Nat) % (256 : Nat)] ++ [h.getD i (0 : Nat) / (16777216 : Nat) % (256 : Nat)] ++ [h.getD i (0 : Nat) / (65536 : Nat) % (256 : Nat)])) * (1 : Nat) ≤ (140737488355328 : Nat), Go.Eng.slenD (Go.Eng.SV.sl Go.IntKind.u8 (out64 h i ++ [h.getD i (0 : Nat) / (72057594037927936 : Nat) % (256 : Nat)] ++ [h.getD i (0 : Nat) / (281474976710656 : Nat) % (256 : Nat)] ++ [h.getD i (0 : Nat) / (1099511627776 : Nat) % (256 : Nat)] ++ [h.getD i (0 : Nat) / (4294967296 : Nat) % (256 : Nat)] ++ [h.getD i (0 : Nat) / (16777216 : Nat) % (256 : Nat)] ++ [h.getD i (0 : Nat) / (65536 : Nat) % (256 : Nat)] ++ [h.getD i (0 : Nat) / (256 : Nat) % (256 : Nat)])) * (1 : Nat) ≤ (140737488355328 : Nat), Go.Eng.slenD (Go.Eng.SV.sl Go.IntKind.u8 (out64 h i ++ [h.getD i (0 : Nat) / (72057594037927936 : Nat) % (256 : Nat)] ++ [h.getD i (0 : Nat) / (281474976710656 : Nat) % (256 : Nat)] ++ [h.getD i (0 : Nat) / (1099511627776 : Nat) % (256 : Nat)] ++ [h.getD i (0 : Nat) / (4294967296 : Nat) % (256 : Nat)] ++ [h.getD i (0 : Nat) / (16777216 : Nat) % (256 : Nat)] ++ [h.getD i (0 : Nat) / (65536 : Nat) % (256 : Nat)] ++ [h.getD i (0 : Nat) / (256 : Nat) % (256 : Nat)] ++ [h.getD i (0 : Nat) / (1 : Nat) % (256 : Nat)])) * (1 : Nat) ≤ (140737488355328 : Nat), i + (1 : Nat) < (9223372036854775808 : Nat)]) (sc' := []) (by kernel_rfl) (by repeat' first | exact trivial | exact decide_eq_true (by omega) | exact decide_eq_false (by omega) | exact Eq.refl kL | omega | (simp only [List.length_drop, List.length_take]; omega) | (simp only [decide_eq_true_eq, decide_eq_false_iff_not, List.length_drop, List.length_take]; omega) | (simp only [slenD, SV.slen, Option.getD_some, List.length_append, List.length_cons, List.length_nil, out64_len]; omega) | refine ⟨?_, ?_⟩) ?_
    exact e
  · have e : i = 8 := by omega
    subst e
    refine hold_end mixed okM15a (unroll := true) (f := 300) (sc := [false]) (r := (Go.Eng.SV.sl Go.IntKind.u8 (out64 h (8 : Nat)))) (ob := [Bool.false = Bool.false]) (sc' := []) (by kernel_rfl) (by repeat' first | exact trivial | exact decide_eq_true (by omega) | exact decide_eq_false (by omega) | exact Eq.refl kL | omega | (simp only [List.length_drop, List.length_take]; omega) | (simp only [decide_eq_true_eq, decide_eq_false_iff_not, List.length_drop, List.length_take]; omega) | (simp only [slenD, SV.slen, Option.getD_some, List.length_append, List.length_cons, List.length_nil, out64_len]; omega) | refine ⟨?_, ?_⟩) ?_
    exact hr.symm
theorem w512_h (h : List Nat) (hr : res = .sl .u8 (out64 h 8)) : Hold Try.prog (bodyOf Try.f51) (Fin Try.prog Try.f51 w0 S res) w0 S y5h (z5h h) := by
  refine hold_unroll (c := _) rfl ?_
  refine hold_cut mixed okM15a (unroll := true) (f := 300) (sc := []) (ks := [6,26,27,28]) (bs := [1]) (nx := 4) (st' := [Go.Eng.It.at [(0 : Nat), (1 : Nat), (0 : Nat), (0 : Nat), (1 : Nat), (0 : Nat), (1 : Nat), (1 : Nat), (1 : Nat), (1 : Nat), (1 : Nat)], Go.Eng.It.at [(1 : Nat), (1 : Nat), (0 : Nat), (0 : Nat), (1 : Nat), (0 : Nat), (1 : Nat), (1 : Nat), (1 : Nat), (1 : Nat), (1 : Nat)], Go.Eng.It.lp [(0 : Nat), (1 : Nat), (0 : Nat), (1 : Nat), (1 : Nat), (1 : Nat), (1 : Nat), (1 : Nat)], Go.Eng.It.blk (2 : Nat), Go.Eng.It.at [(1 : Nat), (1 : Nat), (1 : Nat), (1 : Nat), (1 : Nat), (1 : Nat)]]) (σ' := { nt := (45 : Nat), slots := [((6 : Nat), Go.Eng.SV.row (1 : Nat) (Go.Eng.SV.sl Go.IntKind.u8 [])), ((26 : Nat), Go.Eng.SV.arr Go.IntKind.u64 (8 : Nat) h), ((27 : Nat), Go.Eng.SV.u Go.IntKind.i64 (0 : Nat)), ((28 : Nat), Go.Eng.SV.b Bool.true)], blks := [((1 : Nat), { ty := (5 : Nat), segs := [], row := Bool.true })], next := (4 : Nat) }) (ob := []) (sc' := []) (by kernel_rfl) trivial ?_
  exact w512_4 h hr _ 0 rfl (by omega)
theorem w512_2 (m h : List Nat) (n : Nat) (hn : m.length = 128 * n) (hn2 : n < 100000) (hr : res = .sl .u8 (out64 (cmp64 m h n) 8)) : ∀ d i, n - i = d → i ≤ n →
    Hold Try.prog (bodyOf Try.f51) (Fin Try.prog Try.f51 w0 S res) w0 S y2 (z2 m (cmp64 m h i) i) := by
  intro d
  induction d using Nat.strongRecOn with
  | _ d ih =>
  intro i hd hi
  by_cases hlt : i < n
  · have e := ih (n - (i + 1)) (by omega) (i + 1) rfl (by omega)
    refine hold_unroll (c := _) rfl ?_
    refine hold_cut mixed okM15a (unroll := false) (f := 300) (sc := [true]) (ks := [3,4,5]) (bs := [0]) (nx := 1) (st' := [Go.Eng.It.lp [(0 : Nat), (1 : Nat), (0 : Nat), (1 : Nat), (1 : Nat), (1 : Nat)], Go.Eng.It.blk (0 : Nat), Go.Eng.It.at [(1 : Nat), (1 : Nat), (1 : Nat), (1 : Nat)]]) (σ' := { nt := (45 : Nat), slots := [((3 : Nat), Go.Eng.SV.ptr (0 : Nat) (0 : Nat) (Go.Eng.Ix.c (0 : Nat))), ((4 : Nat), Go.Eng.SV.sl Go.IntKind.u8 m), ((5 : Nat), Go.Eng.SV.u Go.IntKind.i64 ((128 : Nat) * i + (128 : Nat)))], blks := [((0 : Nat), { ty := (125 : Nat), segs := [Go.Eng.SV.arr Go.IntKind.u64 (8 : Nat) (Go.Eng.B.A64 (List.drop ((128 : Nat) * i) (List.take ((128 : Nat) * i + (128 : Nat)) m)) (cmp64 m h i) (8 : Nat))] })], next := (1 : Nat) }) (ob := [Decidable.decide ((128 : Nat) * i < m.length) = Bool.true, (128 : Nat) * i + (128 : Nat) < (9223372036854775808 : Nat), (128 : Nat) * i ≤ (128 : Nat) * i + (128 : Nat), (128 : Nat) * i + (128 : Nat) ≤ m.length, (List.drop ((128 : Nat) * i) (List.take ((128 : Nat) * i + (128 : Nat)) m)).length = (128 : Nat), (128 : Nat) * i + (128 : Nat) < (9223372036854775808 : Nat)]) (sc' := []) (by kernel_rfl) (by repeat' first | exact trivial | exact decide_eq_true (by omega) | exact decide_eq_false (by omega) | exact Eq.refl kL | omega | (simp only [List.length_drop, List.length_take]; omega) | (simp only [decide_eq_true_eq, decide_eq_false_iff_not, List.length_drop, List.length_take]; omega) | (simp only [slenD, SV.slen, Option.getD_some, List.length_append, List.length_cons, List.length_nil, out64_len]; omega) | refine ⟨?_, ?_⟩) ?_
    rw [cut_ref64]
    exact e
  · have e : i = n := by omega
    subst e
    refine hold_unroll (c := _) rfl ?_
    refine hold_cut mixed okM15a (unroll := false) (f := 300) (sc := [false]) (ks := [6,26,27]) (bs := []) (nx := 1) (st' := [Go.Eng.It.lp [(0 : Nat), (1 : Nat), (0 : Nat), (1 : Nat), (1 : Nat), (1 : Nat), (1 : Nat), (1 : Nat)], Go.Eng.It.blk (2 : Nat), Go.Eng.It.at [(1 : Nat), (1 : Nat), (1 : Nat), (1 : Nat), (1 : Nat), (1 : Nat)]]) (σ' := { nt := (45 : Nat), slots := [((6 : Nat), Go.Eng.SV.nil), ((26 : Nat), Go.Eng.SV.arr Go.IntKind.u64 (8 : Nat) (cmp64 m h i)), ((27 : Nat), Go.Eng.SV.c Go.IntKind.i64 (0 : Int))], blks := [], next := (1 : Nat) }) (ob := [Decidable.decide ((128 : Nat) * i < m.length) = Bool.false]) (sc' := []) (by kernel_rfl) (by repeat' first | exact trivial | exact decide_eq_true (by omega) | exact decide_eq_false (by omega) | exact Eq.refl kL | omega | (simp only [List.length_drop, List.length_take]; omega) | (simp only [decide_eq_true_eq, decide_eq_false_iff_not, List.length_drop, List.length_take]; omega) | (simp only [slenD, SV.slen, Option.getD_some, List.length_append, List.length_cons, List.length_nil, out64_len]; omega) | refine ⟨?_, ?_⟩) ?_
    refine hold_nil (t := 6) (e := 5) (s0 := .sl .u8 []) rfl ?_
    refine hold_restrict (ks := [6,26,27]) (bs := [1]) (nx := 4) rfl ?_
    exact Hold.weaken (w512_h _ hr) (by simp [wks, wk, wk0, lim, z5h])
theorem qsum512_c (b : List Nat) (hb : b.length ≤ 1000000) : Contract Try.prog 51 [.sl .u8 b] (.sl .u8 (sum64 b)) := by
  refine contract Try.func51 (body := bodyOf Try.f51) rfl (by kernel_rfl) (by kernel_rfl) rfl ?_
  rintro _ w0 S
  have hl := pd64_len b
  have hz : zP 128 16 b.length < 128 := Nat.mod_lt _ (by decide)
  refine hold_cut mixed okM15a (unroll := false) (f := 100) (sc := []) (ks := [3,4,5]) (bs := [0]) (nx := 1) (st' := [Go.Eng.It.lp [(0 : Nat), (1 : Nat), (0 : Nat), (1 : Nat), (1 : Nat), (1 : Nat)], Go.Eng.It.blk (0 : Nat), Go.Eng.It.at [(1 : Nat), (1 : Nat), (1 : Nat), (1 : Nat)]]) (σ' := { nt := (45 : Nat), slots := [((3 : Nat), Go.Eng.SV.ptr (0 : Nat) (0 : Nat) (Go.Eng.Ix.c (0 : Nat))), ((4 : Nat), Go.Eng.SV.sl Go.IntKind.u8 (Go.Eng.B.pd (128 : Nat) (16 : Nat) b)), ((5 : Nat), Go.Eng.SV.c Go.IntKind.i64 (0 : Int))], blks := [((0 : Nat), { ty := (125 : Nat), segs := [Go.Eng.SV.arr Go.IntKind.u64 (8 : Nat) Go.Eng.B.hL] })], next := (1 : Nat) }) (ob := [b.length ≤ (1000000 : Nat)]) (sc' := []) (by kernel_rfl) (by repeat' first | exact trivial | exact decide_eq_true (by omega) | exact decide_eq_false (by omega) | exact Eq.refl kL | omega | (simp only [List.length_drop, List.length_take]; omega) | (simp only [decide_eq_true_eq, decide_eq_false_iff_not, List.length_drop, List.length_take]; omega) | (simp only [slenD, SV.slen, Option.getD_some, List.length_append, List.length_cons, List.length_nil, out64_len]; omega) | refine ⟨?_, ?_⟩) ?_
  exact Hold.weaken (w512_2 (pd 128 16 b) hL _ (pd64_mul b) (by omega) rfl _ 0 rfl (by omega)) (by simp [wks, wk, wk0, lim, z2])
end
end Go.Eng.B

/- coresecmake.Mod, New, Next. -/
namespace Go.Eng.B
open Go Go.Eng Go.Proofs
set_option maxRecDepth 100000
theorem mod_c (n m : Int) (hm : 0 < m) (res : SV) (hres : wk (.i .i64 (n % m)) res) : Contract Try.prog 38 [.i .i64 n, .i .i64 m] res := by
  refine contract Try.func38 (body := bodyOf Try.f38) rfl (by kernel_rfl) (by kernel_rfl) rfl ?_
  rintro ⟨hn, hm2, _⟩ w0 S
  have h1 := @Int.tmod_eq_emod n m
  have h2 := Int.emod_nonneg n (show m ≠ 0 by omega)
  have h3 := Int.emod_lt_of_pos n hm
  have h4 : (m.natAbs : Int) = m := by omega
  have hR : inR .i64 (n.tmod m) := by
    simp only [pureF, inR, lo, lim] at hm2 hn ⊢
    rw [h1]
    split <;> omega
  by_cases hlt : n.tmod m < 0
  · have e : n.tmod m + m = n % m := by
      rw [h1] at hlt ⊢
      split at hlt
      · omega
      · rename_i hc; rw [if_neg hc]; omega
    refine hold_endw mixed ctr0_ok (unroll := true) (f := 100) (sc := [true]) (r := (Go.Eng.SV.i Go.IntKind.i64 (n.tmod m + m))) (ob := [m ≠ (0 : Int) ∧ Go.Eng.inR Go.IntKind.i64 (n.tmod m), Decidable.decide (n.tmod m < (0 : Int)) = Bool.true, Go.Eng.inR Go.IntKind.i64 (n.tmod m + m)]) (sc' := []) (by kernel_rfl) ?_ ?_
    · refine ⟨⟨by omega, hR⟩, by simpa using hlt, ?_, trivial⟩
      rw [e]; simp only [pureF, inR, lo, lim] at hm2 ⊢; omega
    · rw [e]
      cases res <;> first | exact hres | (simp [wk, wk0, wka] at hres)
  · have e : n.tmod m = n % m := by
      rw [h1] at hlt ⊢
      split
      · omega
      · rename_i hc; rw [if_neg hc] at hlt; omega
    refine hold_endw mixed ctr0_ok (unroll := true) (f := 100) (sc := [false]) (r := (Go.Eng.SV.i Go.IntKind.i64 (n.tmod m))) (ob := [m ≠ (0 : Int) ∧ Go.Eng.inR Go.IntKind.i64 (n.tmod m), Decidable.decide (n.tmod m < (0 : Int)) = Bool.false]) (sc' := []) (by kernel_rfl) ?_ ?_
    · exact ⟨⟨by omega, hR⟩, by simpa using hlt, trivial⟩
    · rw [e]
      cases res <;> first | exact hres | (simp [wk, wk0, wka] at hres)
theorem cMod : ∀ args res ob, eMod args = some (res, ob) → All ob → Contract Try.prog 38 args res := by
  intro args res ob h hob
  unfold eMod at h
  split at h
  · rename_i x y
    split at h
    · rename_i n m hx hy
      cases h
      have hm : 0 < m := hob.1
      refine Contract.args (args' := [.i .i64 n, .i .i64 m]) ⟨int?_wk hx, int?_wk hy, rfl⟩ (Contract.pure fun hp => mod_c n m hm _ ?_)
      obtain ⟨_, hm2, _⟩ := hp
      have h2 := Int.emod_nonneg n (show m ≠ 0 by omega)
      have h3 := Int.emod_lt_of_pos n hm
      simp only [wk, wk0, lim, true_and]
      simp only [pureF, inR, lo, lim] at hm2
      omega
    · cases h
  · cases h
def C1a : Ctr := addC 38 eMod ctr0
theorem okC1a : CtrOk Try.prog C1a := addC_ok ctr0_ok cMod

def eNew (H : List Bk) (args : List SV) : Option (MRes × List Prop) :=
  match H, args with
  | [], [.sli l] => some (⟨.ptr 0 0 (.c 0), [], [⟨116, [.sli l, .c .i64 0], false⟩]⟩, [])
  | _, _ => none
theorem cNew : ∀ H args r ob, eNew H args = some (r, ob) → All ob → ContractM Try.prog 26 H args r := by
  intro H args r ob h hob
  unfold eNew at h
  split at h
  · rename_i l
    cases h
    refine contractM Try.func26 (body := bodyOf Try.f26) rfl (by kernel_rfl) (by kernel_rfl) rfl rfl ?_
    intro _ _ F S _
    exact hold_endMw mixed okC1a (news := [0]) (unroll := true) (f := 100) (sc := []) (r := { res := Go.Eng.SV.ptr (0 : Nat) (0 : Nat) (Go.Eng.Ix.c (0 : Nat)), upd := [], new := [{ ty := (116 : Nat), segs := [Go.Eng.SV.sli l, Go.Eng.SV.c Go.IntKind.i64 (0 : Int)] }] }) (ob := []) (sc' := []) (by kernel_rfl) trivial (wkM_of rfl)
  · cases h
def eNext (H : List Bk) (args : List SV) : Option (MRes × List Prop) :=
  match H, args with
  | [⟨116, [.sli l, a], false⟩], [.ptr 0 0 (.c 0), x] => match a.nat?, x.int? with
    | some (.i64, at'), some (.i64, n) => some (⟨.u .i64 (nextV l at' n), [deckB l (nextA l at')], []⟩, [0 < n])
    | _, _ => none
  | _, _ => none
theorem next_c (l : List Int) (at' : Nat) (n : Int) (hn : 0 < n) : ContractM Try.prog 29 [deckB l at'] [.ptr 0 0 (.c 0), .i .i64 n] ⟨.u .i64 (nextV l at' n), [deckB l (nextA l at')], []⟩ := by
  refine contractM Try.func29 (body := bodyOf Try.f29) rfl (by kernel_rfl) (by kernel_rfl) rfl rfl ?_
  rintro ⟨_, h0, _⟩ hH F S hF
  obtain ⟨hl, ha, _⟩ := hH _ (List.mem_singleton.2 rfl)
  have hl1 := hl.1
  simp only [pureF, lim] at ha
  rcases Bool.eq_false_or_eq_true (Decidable.decide (l.length ≤ at')) with hc0 | hc0
  · have hd0 := of_decide_eq_true hc0
    refine hold_endMw mixed okC1a (news := []) (unroll := true) (f := 100) (sc := [true]) (r := { res := Go.Eng.SV.c Go.IntKind.i64 (0 : Int), upd := [{ ty := (116 : Nat), segs := [Go.Eng.SV.sli l, Go.Eng.SV.u Go.IntKind.i64 at'] }] }) (ob := [Decidable.decide (l.length ≤ at') = Bool.true]) (sc' := []) (by kernel_rfl) ?_ ?_
    · exact ⟨hc0, trivial⟩
    · first | (rw [show nextA l at' = at' from if_neg (by omega), show nextV l at' n = 0 from if_neg (by omega)]; simp [wkM, wkR, wk, wk0, wka, wkB, wkl, deckB, lim]; done) | (rw [show nextA l at' = at' + 1 from if_pos (by omega), show nextV l at' n = (l.getD at' 0 % n).toNat from if_pos (by omega), show ((↑(at' + 1) : Int) - 1).toNat = at' by omega]; exact wkM_of rfl)
  · have hd0 := of_decide_eq_false hc0
    refine hold_endMw mixed okC1a (news := []) (unroll := true) (f := 100) (sc := [false]) (r := { res := Go.Eng.SV.u Go.IntKind.i64 (l.getD ((↑(at' + (1 : Nat)) : Int) - (1 : Int)).toNat (0 : Int) % n).toNat, upd := [{ ty := (116 : Nat), segs := [Go.Eng.SV.sli l, Go.Eng.SV.u Go.IntKind.i64 (at' + (1 : Nat))] }] }) (ob := [Decidable.decide (l.length ≤ at') = Bool.false, at' + (1 : Nat) < (9223372036854775808 : Nat), (0 : Int) ≤ (↑(at' + (1 : Nat)) : Int) - (1 : Int), ((↑(at' + (1 : Nat)) : Int) - (1 : Int)).toNat < l.length, (0 : Int) < n]) (sc' := []) (by kernel_rfl) ?_ ?_
    · exact ⟨hc0, (by omega), (by omega), (by omega), (by omega), trivial⟩
    · first | (rw [show nextA l at' = at' from if_neg (by omega), show nextV l at' n = 0 from if_neg (by omega)]; simp [wkM, wkR, wk, wk0, wka, wkB, wkl, deckB, lim]; done) | (rw [show nextA l at' = at' + 1 from if_pos (by omega), show nextV l at' n = (l.getD at' 0 % n).toNat from if_pos (by omega), show ((↑(at' + 1) : Int) - 1).toNat = at' by omega]; exact wkM_of rfl)
theorem ContractM.args {P : Program} {f : FuncId} {H : List Bk} {args args' : List SV} {r : MRes} (hw : wkl args args') (h : ContractM P f H args' r) : ContractM P f H args r :=
  fun w S β vs h1 h2 h3 h4 h5 => h w S β vs h1 h2 h3 h4 (wkl_ok hw h5)
theorem ContractM.hand {P : Program} {f : FuncId} {H H' : List Bk} {args : List SV} {r : MRes} (hw : wkB H H') (hl : H'.length = H.length) (h : ContractM P f H' args r) : ContractM P f H args r := by
  intro w S β vs h1 h2 h3 h4 h5
  have how : owS S (numB 0 H') β = owS S (numB 0 H) β := by
    funext b j
    apply propext
    constructor
    · rintro (hs | ⟨i, bk, hm, e, hr⟩)
      · exact .inl hs
      · obtain ⟨c, hc, _, e2, _⟩ := (numB_wk hw).1 bk hm
        exact .inr ⟨i, c, hc, e, by rw [e2]; exact hr⟩
    · rintro (hs | ⟨i, bk, hm, e, hr⟩)
      · exact .inl hs
      · obtain ⟨c, hc, _, e2, _⟩ := (numB_wk hw).2 bk hm
        exact .inr ⟨i, c, hc, e, by rw [← e2]; exact hr⟩
  have hrow : ∀ bk ∈ H', bk.row = false := by
    intro b hb
    obtain ⟨k, hk, rfl⟩ := List.getElem_of_mem hb
    have : ∀ {L M : List Bk}, wkB L M → ∀ b' ∈ M, ∃ b ∈ L, b.row = b'.row := by
      intro L
      induction L with
      | nil => intro M h b' hb; simp only [wkB] at h; subst h; cases hb
      | cons a r ih =>
        intro M h b' hb
        cases M with
        | nil => cases hb
        | cons c s =>
          simp only [wkB] at h
          rcases List.mem_cons.1 hb with rfl | hb
          · exact ⟨a, by simp, h.2.1⟩
          · obtain ⟨q, hq, e⟩ := ih h.2.2.2 b' hb
            exact ⟨q, by simp [hq], e⟩
    obtain ⟨q, hq, e⟩ := this hw _ (List.getElem_mem hk)
    rw [← e]; exact h2 q hq
  have := h w S β vs (by rw [hl]; exact h1) hrow (by
    rw [how]
    intro i b' hm
    obtain ⟨c, hc, e1, e2, e3⟩ := (numB_wk hw).1 b' hm
    refine ⟨fun hr => ?_, fun hr hn => ?_⟩
    · obtain ⟨cs, q1, q2⟩ := (h3 i c hc).1 (by rw [e2]; exact hr)
      exact ⟨cs, wkl_rels e3 q1, by rw [← e1]; exact q2⟩
    · obtain ⟨cs, q1, q2⟩ := (h3 i c hc).2 (by rw [e2]; exact hr) hn
      exact ⟨cs, by rw [← e1]; exact q1, q2⟩) (by rw [hl]; exact h4) (by rw [how]; exact h5)
  rw [hl] at this
  exact this
theorem cNext : ∀ H args r ob, eNext H args = some (r, ob) → All ob → ContractM Try.prog 29 H args r := by
  intro H args r ob h hob
  unfold eNext at h
  split at h
  · rename_i l a x
    split at h
    · rename_i at' n ha hx
      cases h
      refine ContractM.args (args' := [.ptr 0 0 (.c 0), .i .i64 n]) ⟨wk_refl _, int?_wk hx, rfl⟩ ?_
      intro w S β vs h1 h2 h3 h4 h5
      have hlt : at' < lim .i64 := by
        obtain ⟨cs, q1, _⟩ := (h3 0 ⟨116, [.sli l, a], false⟩ (by simp [numB])).1 rfl
        simp only [rels] at q1
        obtain ⟨c1, c2, _, _, c3, c4, _, q3, _⟩ := q1
        exact (nat?_ok ha q3).2
      refine ContractM.hand (H := [⟨116, [.sli l, a], false⟩]) (H' := [deckB l at']) (show wkB _ (_ :: []) from ⟨rfl, rfl, show wkl (_ :: a :: []) (_ :: (SV.u .i64 at') :: []) from ⟨wk_refl _, ?_, rfl⟩, rfl⟩) rfl (next_c l at' n hob.1) w S β vs h1 h2 h3 h4 h5
      cases a <;> simp [SV.nat?] at ha
      · obtain ⟨q1, rfl, q3⟩ := ha
        simp only [wk, wk0, wka]
        refine ⟨trivial, by omega, hlt⟩
      · obtain ⟨rfl, rfl⟩ := ha
        exact wk_refl _
    · cases h
  · cases h
def C1 : Ctr := addM 29 eNext (addM 26 eNew C1a)
theorem okC1 : CtrOk Try.prog C1 := addM_ok (addM_ok okC1a cNew) cNext
end Go.Eng.B

/- Numbers of blocks; the sanity check. -/
namespace Go.Eng.B
open Go Go.Eng Go.Proofs
set_option maxRecDepth 100000
set_option linter.unusedSimpArgs false
def bl256 (n : Int) : Nat := if n < 0 then 0 else (n.toNat + 72) / 64
def bl512 (n : Int) : Nat := if n < 0 then 0 else (n.toNat + 144) / 128
def eBl (g : Int → Nat) (args : List SV) : Option (SV × List Prop) :=
  match args with
  | [x] => match x.int? with
    | some (.i64, n) => some (.u .i64 (g n), [n ≤ 1125899906842624])
    | _ => none
  | _ => none
theorem eBl_ok {P : Program} {f : FuncId} {g : Int → Nat} (h : ∀ n : Int, n ≤ 1125899906842624 → Contract P f [.i .i64 n] (.u .i64 (g n))) : ∀ args res ob, eBl g args = some (res, ob) → All ob → Contract P f args res := by
  intro args res ob he hob
  unfold eBl at he
  split at he
  · split at he
    · rename_i x n hx
      cases he
      exact Contract.args (args' := [.i .i64 n]) ⟨int?_wk hx, rfl⟩ (h n hob.1)
    · cases he
  · cases he
theorem p256_c (n : Int) (hn : n ≤ 1125899906842624) : Contract Try.prog 47 [.i .i64 n] (.u .i64 (bl256 n)) := by
  refine contract Try.func47 (body := bodyOf Try.f47) rfl (by kernel_rfl) (by kernel_rfl) rfl ?_
  rintro ⟨hr, _⟩ w0 S
  simp only [pureF, inR, lo, lim] at hr
  rcases Bool.eq_false_or_eq_true (Decidable.decide (n < (0 : Int))) with hc0 | hc0
  · have hd0 := of_decide_eq_true hc0
    refine hold_endw mixed ctr0_ok (unroll := true) (f := 60) (sc := [true]) (r := (Go.Eng.SV.c Go.IntKind.i64 (0 : Int))) (ob := [Decidable.decide (n < (0 : Int)) = Bool.true]) (sc' := []) (by kernel_rfl) ?_ ?_
    · exact ⟨hc0, trivial⟩
    · (unfold bl256; first | (rw [if_pos hd0]; simp [wkR, wk, wk0, lim]; done) | (rw [if_neg hd0, Int.tdiv_eq_ediv_of_nonneg (by omega)]; simp only [wkR, wk, wk0, lim, eq_self, true_and]; constructor <;> omega))
  · have hd0 := of_decide_eq_false hc0
    refine hold_endw mixed ctr0_ok (unroll := true) (f := 60) (sc := [false]) (r := (Go.Eng.SV.i Go.IntKind.i64 ((n + (8 : Int) + (64 : Int)).tdiv (64 : Int)))) (ob := [Decidable.decide (n < (0 : Int)) = Bool.false, Go.Eng.inR Go.IntKind.i64 (n + (8 : Int)), Go.Eng.inR Go.IntKind.i64 (n + (8 : Int) + (64 : Int)), (64 : Int) ≠ (0 : Int) ∧ Go.Eng.inR Go.IntKind.i64 ((n + (8 : Int) + (64 : Int)).tdiv (64 : Int))]) (sc' := []) (by kernel_rfl) ?_ ?_
    · exact ⟨hc0, (by first | omega | (simp only [inR, lo, lim]; omega) | (simp only [inR, lo, lim]; rw [Int.tdiv_eq_ediv_of_nonneg (by omega)]; omega) | (rw [Int.tdiv_eq_ediv_of_nonneg (by omega)]; omega) | trivial), (by first | omega | (simp only [inR, lo, lim]; omega) | (simp only [inR, lo, lim]; rw [Int.tdiv_eq_ediv_of_nonneg (by omega)]; omega) | (rw [Int.tdiv_eq_ediv_of_nonneg (by omega)]; omega) | trivial), (by first | omega | (simp only [inR, lo, lim]; omega) | (simp only [inR, lo, lim]; rw [Int.tdiv_eq_ediv_of_nonneg (by omega)]; omega) | (rw [Int.tdiv_eq_ediv_of_nonneg (by omega)]; omega) | trivial), trivial⟩
    · (unfold bl256; first | (rw [if_pos hd0]; simp [wkR, wk, wk0, lim]; done) | (rw [if_neg hd0, Int.tdiv_eq_ediv_of_nonneg (by omega)]; simp only [wkR, wk, wk0, lim, eq_self, true_and]; constructor <;> omega))
theorem q256_c (n : Int) (hn : n ≤ 1125899906842624) : Contract Try.prog 57 [.i .i64 n] (.u .i64 (bl256 n)) := by
  refine contract Try.func57 (body := bodyOf Try.f57) rfl (by kernel_rfl) (by kernel_rfl) rfl ?_
  rintro ⟨hr, _⟩ w0 S
  simp only [pureF, inR, lo, lim] at hr
  rcases Bool.eq_false_or_eq_true (Decidable.decide (n < (0 : Int))) with hc0 | hc0
  · have hd0 := of_decide_eq_true hc0
    refine hold_endw mixed ctr0_ok (unroll := true) (f := 60) (sc := [true]) (r := (Go.Eng.SV.c Go.IntKind.i64 (0 : Int))) (ob := [Decidable.decide (n < (0 : Int)) = Bool.true]) (sc' := []) (by kernel_rfl) ?_ ?_
    · exact ⟨hc0, trivial⟩
    · (unfold bl256; first | (rw [if_pos hd0]; simp [wkR, wk, wk0, lim]; done) | (rw [if_neg hd0, Int.tdiv_eq_ediv_of_nonneg (by omega)]; simp only [wkR, wk, wk0, lim, eq_self, true_and]; constructor <;> omega))
  · have hd0 := of_decide_eq_false hc0
    refine hold_endw mixed ctr0_ok (unroll := true) (f := 60) (sc := [false]) (r := (Go.Eng.SV.i Go.IntKind.i64 ((n + (9 : Int) + (63 : Int)).tdiv (64 : Int)))) (ob := [Decidable.decide (n < (0 : Int)) = Bool.false, Go.Eng.inR Go.IntKind.i64 (n + (9 : Int)), Go.Eng.inR Go.IntKind.i64 (n + (9 : Int) + (63 : Int)), (64 : Int) ≠ (0 : Int) ∧ Go.Eng.inR Go.IntKind.i64 ((n + (9 : Int) + (63 : Int)).tdiv (64 : Int))]) (sc' := []) (by kernel_rfl) ?_ ?_
    · exact ⟨hc0, (by first | omega | (simp only [inR, lo, lim]; omega) | (simp only [inR, lo, lim]; rw [Int.tdiv_eq_ediv_of_nonneg (by omega)]; omega) | (rw [Int.tdiv_eq_ediv_of_nonneg (by omega)]; omega) | trivial), (by first | omega | (simp only [inR, lo, lim]; omega) | (simp only [inR, lo, lim]; rw [Int.tdiv_eq_ediv_of_nonneg (by omega)]; omega) | (rw [Int.tdiv_eq_ediv_of_nonneg (by omega)]; omega) | trivial), (by first | omega | (simp only [inR, lo, lim]; omega) | (simp only [inR, lo, lim]; rw [Int.tdiv_eq_ediv_of_nonneg (by omega)]; omega) | (rw [Int.tdiv_eq_ediv_of_nonneg (by omega)]; omega) | trivial), trivial⟩
    · (unfold bl256; first | (rw [if_pos hd0]; simp [wkR, wk, wk0, lim]; done) | (rw [if_neg hd0, Int.tdiv_eq_ediv_of_nonneg (by omega)]; simp only [wkR, wk, wk0, lim, eq_self, true_and]; constructor <;> omega))
theorem p512_c (n : Int) (hn : n ≤ 1125899906842624) : Contract Try.prog 58 [.i .i64 n] (.u .i64 (bl512 n)) := by
  refine contract Try.func58 (body := bodyOf Try.f58) rfl (by kernel_rfl) (by kernel_rfl) rfl ?_
  rintro ⟨hr, _⟩ w0 S
  simp only [pureF, inR, lo, lim] at hr
  rcases Bool.eq_false_or_eq_true (Decidable.decide (n < (0 : Int))) with hc0 | hc0
  · have hd0 := of_decide_eq_true hc0
    refine hold_endw mixed ctr0_ok (unroll := true) (f := 60) (sc := [true]) (r := (Go.Eng.SV.c Go.IntKind.i64 (0 : Int))) (ob := [Decidable.decide (n < (0 : Int)) = Bool.true]) (sc' := []) (by kernel_rfl) ?_ ?_
    · exact ⟨hc0, trivial⟩
    · (unfold bl512; first | (rw [if_pos hd0]; simp [wkR, wk, wk0, lim]; done) | (rw [if_neg hd0, Int.tdiv_eq_ediv_of_nonneg (by omega)]; simp only [wkR, wk, wk0, lim, eq_self, true_and]; constructor <;> omega))
  · have hd0 := of_decide_eq_false hc0
    refine hold_endw mixed ctr0_ok (unroll := true) (f := 60) (sc := [false]) (r := (Go.Eng.SV.i Go.IntKind.i64 ((n + (16 : Int) + (128 : Int)).tdiv (128 : Int)))) (ob := [Decidable.decide (n < (0 : Int)) = Bool.false, Go.Eng.inR Go.IntKind.i64 (n + (16 : Int)), Go.Eng.inR Go.IntKind.i64 (n + (16 : Int) + (128 : Int)), (128 : Int) ≠ (0 : Int) ∧ Go.Eng.inR Go.IntKind.i64 ((n + (16 : Int) + (128 : Int)).tdiv (128 : Int))]) (sc' := []) (by kernel_rfl) ?_ ?_
    · exact ⟨hc0, (by first | omega | (simp only [inR, lo, lim]; omega) | (simp only [inR, lo, lim]; rw [Int.tdiv_eq_ediv_of_nonneg (by omega)]; omega) | (rw [Int.tdiv_eq_ediv_of_nonneg (by omega)]; omega) | trivial), (by first | omega | (simp only [inR, lo, lim]; omega) | (simp only [inR, lo, lim]; rw [Int.tdiv_eq_ediv_of_nonneg (by omega)]; omega) | (rw [Int.tdiv_eq_ediv_of_nonneg (by omega)]; omega) | trivial), (by first | omega | (simp only [inR, lo, lim]; omega) | (simp only [inR, lo, lim]; rw [Int.tdiv_eq_ediv_of_nonneg (by omega)]; omega) | (rw [Int.tdiv_eq_ediv_of_nonneg (by omega)]; omega) | trivial), trivial⟩
    · (unfold bl512; first | (rw [if_pos hd0]; simp [wkR, wk, wk0, lim]; done) | (rw [if_neg hd0, Int.tdiv_eq_ediv_of_nonneg (by omega)]; simp only [wkR, wk, wk0, lim, eq_self, true_and]; constructor <;> omega))
theorem q512_c (n : Int) (hn : n ≤ 1125899906842624) : Contract Try.prog 59 [.i .i64 n] (.u .i64 (bl512 n)) := by
  refine contract Try.func59 (body := bodyOf Try.f59) rfl (by kernel_rfl) (by kernel_rfl) rfl ?_
  rintro ⟨hr, _⟩ w0 S
  simp only [pureF, inR, lo, lim] at hr
  rcases Bool.eq_false_or_eq_true (Decidable.decide (n < (0 : Int))) with hc0 | hc0
  · have hd0 := of_decide_eq_true hc0
    refine hold_endw mixed ctr0_ok (unroll := true) (f := 60) (sc := [true]) (r := (Go.Eng.SV.c Go.IntKind.i64 (0 : Int))) (ob := [Decidable.decide (n < (0 : Int)) = Bool.true]) (sc' := []) (by kernel_rfl) ?_ ?_
    · exact ⟨hc0, trivial⟩
    · (unfold bl512; first | (rw [if_pos hd0]; simp [wkR, wk, wk0, lim]; done) | (rw [if_neg hd0, Int.tdiv_eq_ediv_of_nonneg (by omega)]; simp only [wkR, wk, wk0, lim, eq_self, true_and]; constructor <;> omega))
  · have hd0 := of_decide_eq_false hc0
    refine hold_endw mixed ctr0_ok (unroll := true) (f := 60) (sc := [false]) (r := (Go.Eng.SV.i Go.IntKind.i64 ((n + (17 : Int) + (127 : Int)).tdiv (128 : Int)))) (ob := [Decidable.decide (n < (0 : Int)) = Bool.false, Go.Eng.inR Go.IntKind.i64 (n + (17 : Int)), Go.Eng.inR Go.IntKind.i64 (n + (17 : Int) + (127 : Int)), (128 : Int) ≠ (0 : Int) ∧ Go.Eng.inR Go.IntKind.i64 ((n + (17 : Int) + (127 : Int)).tdiv (128 : Int))]) (sc' := []) (by kernel_rfl) ?_ ?_
    · exact ⟨hc0, (by first | omega | (simp only [inR, lo, lim]; omega) | (simp only [inR, lo, lim]; rw [Int.tdiv_eq_ediv_of_nonneg (by omega)]; omega) | (rw [Int.tdiv_eq_ediv_of_nonneg (by omega)]; omega) | trivial), (by first | omega | (simp only [inR, lo, lim]; omega) | (simp only [inR, lo, lim]; rw [Int.tdiv_eq_ediv_of_nonneg (by omega)]; omega) | (rw [Int.tdiv_eq_ediv_of_nonneg (by omega)]; omega) | trivial), (by first | omega | (simp only [inR, lo, lim]; omega) | (simp only [inR, lo, lim]; rw [Int.tdiv_eq_ediv_of_nonneg (by omega)]; omega) | (rw [Int.tdiv_eq_ediv_of_nonneg (by omega)]; omega) | trivial), trivial⟩
    · (unfold bl512; first | (rw [if_pos hd0]; simp [wkR, wk, wk0, lim]; done) | (rw [if_neg hd0, Int.tdiv_eq_ediv_of_nonneg (by omega)]; simp only [wkR, wk, wk0, lim, eq_self, true_and]; constructor <;> omega))
def eSum (g : List Nat → List Nat) (args : List SV) : Option (SV × List Prop) :=
  match args with
  | [.sl .u8 b] => some (.sl .u8 (g b), [b.length ≤ 1000000])
  | [.nil] => some (.sl .u8 (g []), [])
  | _ => none
noncomputable def M16a : Ctr := addC 47 (eBl bl256) (addC 57 (eBl bl256) (addC 58 (eBl bl512) (addC 59 (eBl bl512) (addC 46 (eSum sum32) (addC 42 (eSum sum32) (addC 50 (eSum sum64) (addC 51 (eSum sum64) C1)))))))
theorem eSum_ok {P : Program} {f : FuncId} {g : List Nat → List Nat} (h : ∀ b : List Nat, b.length ≤ 1000000 → Contract P f [.sl .u8 b] (.sl .u8 (g b))) : ∀ args res ob, eSum g args = some (res, ob) → All ob → Contract P f args res := by
  intro args res ob he hob
  unfold eSum at he
  split at he
  · cases he; exact h _ hob.1
  · cases he
    intro w S vs hlt hvs
    refine h [] (Nat.zero_le _) w S vs hlt ?_
    obtain ⟨v, t, rfl, ⟨cs, hr, rfl⟩, rfl⟩ := hvs
    simp only [rel] at hr
    subst hr
    refine ⟨_, _, rfl, ⟨_, ?_, rfl⟩, rfl⟩
    simp only [rel]
    exact ⟨⟨_, rfl, none, 0, 0, rfl, rfl, Nat.le_refl _, by decide, fun h => absurd h (by decide)⟩, nofun⟩
  · cases he
theorem okM16a : CtrOk Try.prog M16a := addC_ok (addC_ok (addC_ok (addC_ok (addC_ok (addC_ok (addC_ok (addC_ok okC1 (eSum_ok qsum512_c)) (eSum_ok sum512_c)) (eSum_ok qsum256_c)) (eSum_ok sum256_c)) (eBl_ok q512_c)) (eBl_ok p512_c)) (eBl_ok q256_c)) (eBl_ok p256_c)
end Go.Eng.B

/- Tables with the hashes as variables; the sanity check. -/
namespace Go.Eng.B
open Go Go.Eng Go.Proofs
set_option maxRecDepth 100000
set_option linter.unusedSimpArgs false
def eSumM (g : List Nat → List Nat) (H : List Bk) (args : List SV) : Option (MRes × List Prop) :=
  match H, args with
  | [], [.sl .u8 b] => some (⟨.row 0 (.sl .u8 (g b)), [], [⟨5, [], true⟩]⟩, [b.length ≤ 1000000])
  | [], [.nil] => some (⟨.row 0 (.sl .u8 (g [])), [], [⟨5, [], true⟩]⟩, [])
  | _, _ => none
noncomputable def SB (h : List Nat → List Nat) : Ctr := addC 47 (eBl bl256) (addC 57 (eBl bl256) (addC 58 (eBl bl512) (addC 59 (eBl bl512) (addC 50 (eSum h) (addC 51 (eSum h) C1)))))
noncomputable def ST (g h : List Nat → List Nat) : Ctr := addC 46 (eSum g) (addC 42 (eSum g) (SB h))
noncomputable def SR (g h : List Nat → List Nat) : Ctr := addM 46 (eSumM g) (addM 42 (eSumM g) (SB h))
theorem Contract.argsF {P : Program} {f : FuncId} {args args' : List SV} {r : SV} (h : Contract P f args' r) (hw : wkl args args') : Contract P f args r := Contract.args hw h
theorem Contract.argsRF {P : Program} {f : FuncId} {args args' : List SV} {r : SV} (h : Contract P f args' r) (hw : ∀ {β : Nat → Nat} {ow : Own} {w : World} {vs : List Value}, relVs β ow w args vs → relVs β ow w args' vs) : Contract P f args r :=
  fun w S vs h1 h2 => h w S vs h1 (hw h2)
theorem ContractM.argsRF {P : Program} {f : FuncId} {H : List Bk} {args args' : List SV} {r : MRes} (h : ContractM P f H args' r) (hw : ∀ {β : Nat → Nat} {ow : Own} {w : World} {vs : List Value}, relVs β ow w args vs → relVs β ow w args' vs) : ContractM P f H args r :=
  fun w S β vs h1 h2 h3 h4 h5 => h w S β vs h1 h2 h3 h4 (hw h5)
theorem relVs_nil {β : Nat → Nat} {ow : Own} {w : World} {vs : List Value} (h : relVs β ow w [.nil] vs) : relVs β ow w [.sl .u8 []] vs := by
  obtain ⟨v, t, rfl, ⟨cs, hr, rfl⟩, rfl⟩ := h
  simp only [rel] at hr
  subst hr
  refine ⟨_, _, rfl, ⟨_, ?_, rfl⟩, rfl⟩
  simp only [rel]
  exact ⟨⟨_, rfl, none, 0, 0, rfl, rfl, Nat.le_refl _, by decide, fun h => absurd h (by decide)⟩, nofun⟩
theorem eSumM_ok {P : Program} {f : FuncId} {g : List Nat → List Nat} (h : ∀ b : List Nat, b.length ≤ 1000000 → ContractM P f [] [.sl .u8 b] ⟨.row 0 (.sl .u8 (g b)), [], [bY]⟩) : ∀ H args r ob, eSumM g H args = some (r, ob) → All ob → ContractM P f H args r := by
  intro H args r ob he hob
  unfold eSumM at he
  split at he
  · cases he; exact h _ hob.1
  · cases he
    intro w S β vs h1 h2 h3 h4 h5
    exact h [] (Nat.zero_le _) w S β vs h1 h2 h3 h4 (relVs_nil h5)
  · cases he
theorem okSB {h : List Nat → List Nat} (hh : h = sum64) : CtrOk Try.prog (SB h) := by
  subst hh
  exact addC_ok (addC_ok (addC_ok (addC_ok (addC_ok (addC_ok okC1 (eSum_ok qsum512_c)) (eSum_ok sum512_c)) (eBl_ok q512_c)) (eBl_ok p512_c)) (eBl_ok q256_c)) (eBl_ok p256_c)
theorem okST {g h : List Nat → List Nat} (hg : g = sum32) (hh : h = sum64) : CtrOk Try.prog (ST g h) := by
  subst hg
  exact addC_ok (addC_ok (okSB hh) (eSum_ok qsum256_c)) (eSum_ok sum256_c)
theorem okSR {g h : List Nat → List Nat} (hg : g = sum32) (hh : h = sum64) : CtrOk Try.prog (SR g h) := by
  subst hg
  exact addM_ok (addM_ok (okSB hh) (eSumM_ok qsum256_m)) (eSumM_ok sum256_m)
theorem sum_abc : sum32 [97, 98, 99] = [186, 120, 22, 191, 143, 1, 207, 234, 65, 65, 64, 222, 93, 174, 34, 35, 176, 3, 97, 163, 150, 23, 122, 156, 180, 16, 255, 97, 242, 0, 21, 173] := by kernel_rfl
theorem sum32_len (b : List Nat) : (sum32 b).length = 32 := out32_len _ 8
theorem sum64_len (b : List Nat) : (sum64 b).length = 64 := out64_len _ 8
theorem awake_c : Contract Try.prog 49 [] (.cb true) := by
  refine contract Try.func49 (body := bodyOf Try.f49) rfl (by kernel_rfl) (by kernel_rfl) rfl ?_
  intro _ w0 S
  obtain ⟨g, hg⟩ : ∃ g, g = sum32 := ⟨_, rfl⟩
  obtain ⟨h, hh⟩ : ∃ h, h = sum64 := ⟨_, rfl⟩
  have ha : g [97, 98, 99] = [186, 120, 22, 191, 143, 1, 207, 234, 65, 65, 64, 222, 93, 174, 34, 35, 176, 3, 97, 163, 150, 23, 122, 156, 180, 16, 255, 97, 242, 0, 21, 173] := by rw [hg]; exact sum_abc
  have hn : (h []).length = 64 := by rw [hh]; exact sum64_len _
  rcases Bool.eq_false_or_eq_true ((g [(97 : Nat), (98 : Nat), (99 : Nat)]).length == (32 : Nat)) with hc0 | hc0
  · have hd0 := eq_of_beq hc0
    rcases Bool.eq_false_or_eq_true ((g [(97 : Nat), (98 : Nat), (99 : Nat)]).getD (0 : Nat) (0 : Nat) == (186 : Nat)) with hc1 | hc1
    · have hd1 := eq_of_beq hc1
      rcases Bool.eq_false_or_eq_true ((g [(97 : Nat), (98 : Nat), (99 : Nat)]).getD (1 : Nat) (0 : Nat) == (120 : Nat)) with hc2 | hc2
      · have hd2 := eq_of_beq hc2
        rcases Bool.eq_false_or_eq_true ((g [(97 : Nat), (98 : Nat), (99 : Nat)]).getD (31 : Nat) (0 : Nat) == (173 : Nat)) with hc3 | hc3
        · have hd3 := eq_of_beq hc3
          rcases Bool.eq_false_or_eq_true ((h []).length == (64 : Nat)) with hc4 | hc4
          · have hd4 := eq_of_beq hc4
            rcases Bool.eq_false_or_eq_true (Bool.true) with hc5 | hc5
            · refine hold_endw mixed (okST hg hh) (unroll := true) (f := 200) (sc := [true, true, true, true, true, true]) (r := (Go.Eng.SV.b Bool.true)) (ob := [(3 : Nat) ≤ (1000000 : Nat), (0 : Nat) ≤ (1000000 : Nat), ((g [(97 : Nat), (98 : Nat), (99 : Nat)]).length == (32 : Nat)) = Bool.true, (0 : Nat) < (g [(97 : Nat), (98 : Nat), (99 : Nat)]).length, ((g [(97 : Nat), (98 : Nat), (99 : Nat)]).getD (0 : Nat) (0 : Nat) == (186 : Nat)) = Bool.true, (1 : Nat) < (g [(97 : Nat), (98 : Nat), (99 : Nat)]).length, ((g [(97 : Nat), (98 : Nat), (99 : Nat)]).getD (1 : Nat) (0 : Nat) == (120 : Nat)) = Bool.true, (31 : Nat) < (g [(97 : Nat), (98 : Nat), (99 : Nat)]).length, ((g [(97 : Nat), (98 : Nat), (99 : Nat)]).getD (31 : Nat) (0 : Nat) == (173 : Nat)) = Bool.true, ((h []).length == (64 : Nat)) = Bool.true, (55 : Int) ≤ (1125899906842624 : Int), Bool.true = Bool.true, (56 : Int) ≤ (1125899906842624 : Int)]) (sc' := []) (by kernel_rfl) ?_ ?_
              · exact ⟨(by first | trivial | omega | (rw [ha]; decide) | (rw [hn]; decide) | decide), (by first | trivial | omega | (rw [ha]; decide) | (rw [hn]; decide) | decide), hc0, (by first | trivial | omega | (rw [ha]; decide) | (rw [hn]; decide) | decide), hc1, (by first | trivial | omega | (rw [ha]; decide) | (rw [hn]; decide) | decide), hc2, (by first | trivial | omega | (rw [ha]; decide) | (rw [hn]; decide) | decide), hc3, hc4, (by first | trivial | omega | (rw [ha]; decide) | (rw [hn]; decide) | decide), hc5, (by first | trivial | omega | (rw [ha]; decide) | (rw [hn]; decide) | decide), trivial⟩
              · first | (exfalso; simp_all [bl256]; done) | (simp_all [bl256, wkR, wk, wk0]; done)
            · exact Bool.noConfusion hc5
          · have hd4 := ne_of_beq_false hc4
            refine hold_endw mixed (okST hg hh) (unroll := true) (f := 200) (sc := [true, true, true, true, false]) (r := (Go.Eng.SV.cb Bool.false)) (ob := [(3 : Nat) ≤ (1000000 : Nat), (0 : Nat) ≤ (1000000 : Nat), ((g [(97 : Nat), (98 : Nat), (99 : Nat)]).length == (32 : Nat)) = Bool.true, (0 : Nat) < (g [(97 : Nat), (98 : Nat), (99 : Nat)]).length, ((g [(97 : Nat), (98 : Nat), (99 : Nat)]).getD (0 : Nat) (0 : Nat) == (186 : Nat)) = Bool.true, (1 : Nat) < (g [(97 : Nat), (98 : Nat), (99 : Nat)]).length, ((g [(97 : Nat), (98 : Nat), (99 : Nat)]).getD (1 : Nat) (0 : Nat) == (120 : Nat)) = Bool.true, (31 : Nat) < (g [(97 : Nat), (98 : Nat), (99 : Nat)]).length, ((g [(97 : Nat), (98 : Nat), (99 : Nat)]).getD (31 : Nat) (0 : Nat) == (173 : Nat)) = Bool.true, ((h []).length == (64 : Nat)) = Bool.false]) (sc' := []) (by kernel_rfl) ?_ ?_
            · exact ⟨(by first | trivial | omega | (rw [ha]; decide) | (rw [hn]; decide) | decide), (by first | trivial | omega | (rw [ha]; decide) | (rw [hn]; decide) | decide), hc0, (by first | trivial | omega | (rw [ha]; decide) | (rw [hn]; decide) | decide), hc1, (by first | trivial | omega | (rw [ha]; decide) | (rw [hn]; decide) | decide), hc2, (by first | trivial | omega | (rw [ha]; decide) | (rw [hn]; decide) | decide), hc3, hc4, trivial⟩
            · first | (exfalso; simp_all [bl256]; done) | (simp_all [bl256, wkR, wk, wk0]; done)
        · have hd3 := ne_of_beq_false hc3
          refine hold_endw mixed (okST hg hh) (unroll := true) (f := 200) (sc := [true, true, true, false]) (r := (Go.Eng.SV.cb Bool.false)) (ob := [(3 : Nat) ≤ (1000000 : Nat), (0 : Nat) ≤ (1000000 : Nat), ((g [(97 : Nat), (98 : Nat), (99 : Nat)]).length == (32 : Nat)) = Bool.true, (0 : Nat) < (g [(97 : Nat), (98 : Nat), (99 : Nat)]).length, ((g [(97 : Nat), (98 : Nat), (99 : Nat)]).getD (0 : Nat) (0 : Nat) == (186 : Nat)) = Bool.true, (1 : Nat) < (g [(97 : Nat), (98 : Nat), (99 : Nat)]).length, ((g [(97 : Nat), (98 : Nat), (99 : Nat)]).getD (1 : Nat) (0 : Nat) == (120 : Nat)) = Bool.true, (31 : Nat) < (g [(97 : Nat), (98 : Nat), (99 : Nat)]).length, ((g [(97 : Nat), (98 : Nat), (99 : Nat)]).getD (31 : Nat) (0 : Nat) == (173 : Nat)) = Bool.false]) (sc' := []) (by kernel_rfl) ?_ ?_
          · exact ⟨(by first | trivial | omega | (rw [ha]; decide) | (rw [hn]; decide) | decide), (by first | trivial | omega | (rw [ha]; decide) | (rw [hn]; decide) | decide), hc0, (by first | trivial | omega | (rw [ha]; decide) | (rw [hn]; decide) | decide), hc1, (by first | trivial | omega | (rw [ha]; decide) | (rw [hn]; decide) | decide), hc2, (by first | trivial | omega | (rw [ha]; decide) | (rw [hn]; decide) | decide), hc3, trivial⟩
          · first | (exfalso; simp_all [bl256]; done) | (simp_all [bl256, wkR, wk, wk0]; done)
      · have hd2 := ne_of_beq_false hc2
        refine hold_endw mixed (okST hg hh) (unroll := true) (f := 200) (sc := [true, true, false]) (r := (Go.Eng.SV.cb Bool.false)) (ob := [(3 : Nat) ≤ (1000000 : Nat), (0 : Nat) ≤ (1000000 : Nat), ((g [(97 : Nat), (98 : Nat), (99 : Nat)]).length == (32 : Nat)) = Bool.true, (0 : Nat) < (g [(97 : Nat), (98 : Nat), (99 : Nat)]).length, ((g [(97 : Nat), (98 : Nat), (99 : Nat)]).getD (0 : Nat) (0 : Nat) == (186 : Nat)) = Bool.true, (1 : Nat) < (g [(97 : Nat), (98 : Nat), (99 : Nat)]).length, ((g [(97 : Nat), (98 : Nat), (99 : Nat)]).getD (1 : Nat) (0 : Nat) == (120 : Nat)) = Bool.false]) (sc' := []) (by kernel_rfl) ?_ ?_
        · exact ⟨(by first | trivial | omega | (rw [ha]; decide) | (rw [hn]; decide) | decide), (by first | trivial | omega | (rw [ha]; decide) | (rw [hn]; decide) | decide), hc0, (by first | trivial | omega | (rw [ha]; decide) | (rw [hn]; decide) | decide), hc1, (by first | trivial | omega | (rw [ha]; decide) | (rw [hn]; decide) | decide), hc2, trivial⟩
        · first | (exfalso; simp_all [bl256]; done) | (simp_all [bl256, wkR, wk, wk0]; done)
    · have hd1 := ne_of_beq_false hc1
      refine hold_endw mixed (okST hg hh) (unroll := true) (f := 200) (sc := [true, false]) (r := (Go.Eng.SV.cb Bool.false)) (ob := [(3 : Nat) ≤ (1000000 : Nat), (0 : Nat) ≤ (1000000 : Nat), ((g [(97 : Nat), (98 : Nat), (99 : Nat)]).length == (32 : Nat)) = Bool.true, (0 : Nat) < (g [(97 : Nat), (98 : Nat), (99 : Nat)]).length, ((g [(97 : Nat), (98 : Nat), (99 : Nat)]).getD (0 : Nat) (0 : Nat) == (186 : Nat)) = Bool.false]) (sc' := []) (by kernel_rfl) ?_ ?_
      · exact ⟨(by first | trivial | omega | (rw [ha]; decide) | (rw [hn]; decide) | decide), (by first | trivial | omega | (rw [ha]; decide) | (rw [hn]; decide) | decide), hc0, (by first | trivial | omega | (rw [ha]; decide) | (rw [hn]; decide) | decide), hc1, trivial⟩
      · first | (exfalso; simp_all [bl256]; done) | (simp_all [bl256, wkR, wk, wk0]; done)
  · have hd0 := ne_of_beq_false hc0
    refine hold_endw mixed (okST hg hh) (unroll := true) (f := 200) (sc := [false]) (r := (Go.Eng.SV.cb Bool.false)) (ob := [(3 : Nat) ≤ (1000000 : Nat), (0 : Nat) ≤ (1000000 : Nat), ((g [(97 : Nat), (98 : Nat), (99 : Nat)]).length == (32 : Nat)) = Bool.false]) (sc' := []) (by kernel_rfl) ?_ ?_
    · exact ⟨(by first | trivial | omega | (rw [ha]; decide) | (rw [hn]; decide) | decide), (by first | trivial | omega | (rw [ha]; decide) | (rw [hn]; decide) | decide), hc0, trivial⟩
    · first | (exfalso; simp_all [bl256]; done) | (simp_all [bl256, wkR, wk, wk0]; done)
def eT (args : List SV) : Option (SV × List Prop) := match args with | [] => some (.cb true, []) | _ => none
noncomputable def SW (g h : List Nat → List Nat) : Ctr := addC 49 eT (ST g h)
theorem eT_ok {P : Program} {f : FuncId} (h : Contract P f [] (.cb true)) : ∀ args res ob, eT args = some (res, ob) → All ob → Contract P f args res := by
  intro args res ob he _
  unfold eT at he
  split at he
  · cases he; exact h
  · cases he
theorem okSW {g h : List Nat → List Nat} (hg : g = sum32) (hh : h = sum64) : CtrOk Try.prog (SW g h) := addC_ok (okST hg hh) (eT_ok awake_c)
end Go.Eng.B

