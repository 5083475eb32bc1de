import Derived.Test.YthaabhoopofnhaaE13
set_option linter.unusedVariables false
set_option linter.unusedSimpArgs false
set_option linter.unusedSectionVars false
namespace Go.Eng.B
open Go Go.Eng Go.Proofs
set_option maxRecDepth 100000
def sn : List It := [.lp [0, 0, 1, 1, 1], .blk 0, .at [1, 1, 1, 1]]
def sn2 : List It := [.lp [0, 1, 0, 1, 1, 1, 1, 1], .blk 2, .at [1, 1, 1, 1, 1, 1]]
def sH0 (b K : List Nat) (j : Nat) : St := ⟨47, [(1, .sl .u8 b), (5, .row 0 (.sl .u8 (K ++ List.replicate j 0)))], [(0, bY)], 3, 0⟩
def sI0 (b K : List Nat) (i : Nat) : St := ⟨47, [(1, .sl .u8 b), (6, .row 3 (.sl .u8 (xorL 54 (K.take i)))), (7, .row 6 (.sl .u8 (xorL 92 (K.take i)))), (23, .row 0 (.sl .u8 K)), (24, .u .i64 K.length), (25, .u .i64 i)], [(0, bY), (3, bY), (6, bY)], 9, 0⟩
def sH3 (b K : List Nat) (j : Nat) : St := ⟨47, [(1, .sl .u8 b), (5, .row 3 (.sl .u8 (K ++ List.replicate j 0)))], [(3, bY)], 6, 0⟩
def sI3 (b K : List Nat) (i : Nat) : St := ⟨47, [(1, .sl .u8 b), (6, .row 6 (.sl .u8 (xorL 54 (K.take i)))), (7, .row 9 (.sl .u8 (xorL 92 (K.take i)))), (23, .row 3 (.sl .u8 K)), (24, .u .i64 K.length), (25, .u .i64 i)], [(3, bY), (6, bY), (9, bY)], 12, 0⟩
section
variable {g h : List Nat → List Nat} (hg : g = sum32) (hh : h = sum64) {w0 : World} {S : Own} {res : SV}
theorem rep_succ (K : List Nat) (j : Nat) : K ++ List.replicate j 0 ++ [0] = K ++ List.replicate (j + 1) 0 := by
  rw [List.append_assoc, List.replicate_succ']
include hg hh
theorem qI0 (b K : List Nat) (hK : K.length = 64) (hb : b.length ≤ 900000) (hr : res = .sl .u8 (g (xorL 92 K ++ g (xorL 54 K ++ b)))) : ∀ d i, 64 - i = d → i ≤ 64 → Hold Try.prog (bodyOf Try.f23) (Fin Try.prog Try.f23 w0 S res) w0 S sn2 (sI0 b K i) := by
  have hl : ∀ b, (g b).length = 32 := by rw [hg]; exact sum32_len
  intro d
  induction d using Nat.strongRecOn with
  | _ d ih =>
  intro i hd hi
  refine hold_unroll (c := _) rfl ?_
  by_cases hlt : i < 64
  · have e := ih (64 - (i + 1)) (by omega) (i + 1) rfl (by omega)
    have e1 := xorL_take 54 K i (by omega)
    have e2 := xorL_take 92 K i (by omega)
    refine hold_cut mixed (okSR hg hh) (unroll := false) (f := 300) (sc := [true]) (ks := [1,6,7,23,24,25]) (bs := [0,3,6]) (nx := 9) (st' := [It.lp [0, 1, 0, 1, 1, 1, 1, 1], It.blk 2, It.at [1, 1, 1, 1, 1, 1]]) (σ' := { nt := 47, slots := [(1, SV.sl .u8 b), (6, SV.row 3 (SV.sl .u8 (xorL 54 (List.take i K) ++ [K.getD i 0 ^^^ 54]))), (7, SV.row 6 (SV.sl .u8 (xorL 92 (List.take i K) ++ [K.getD i 0 ^^^ 92]))), (23, SV.row 0 (SV.sl .u8 K)), (24, SV.u .i64 K.length), (25, SV.u .i64 (i + 1))], blks := [(0, { ty := 5, segs := [], row := true }), (3, { ty := 5, segs := [], row := true }), (6, { ty := 5, segs := [], row := true })], next := 9 }) (ob := [Decidable.decide (i < K.length) = true, i < K.length, slenD (SV.sl .u8 (xorL 54 (List.take i K) ++ [K.getD i 0 ^^^ 54])) * 1 ≤ 140737488355328, slenD (SV.sl .u8 (xorL 92 (List.take i K) ++ [K.getD i 0 ^^^ 92])) * 1 ≤ 140737488355328, i + 1 < 9223372036854775808]) (sc' := []) (by kernel_rfl) (by repeat' first | exact trivial | exact decide_eq_true (by omega) | exact decide_eq_false (by omega) | omega | (simp only [decide_eq_true_eq, decide_eq_false_iff_not, slenD, SV.slen, Option.getD_some, List.length_append, List.length_cons, List.length_nil, List.length_replicate, List.length_take, List.length_drop, xorL_len, k64_len hl, hl, oE_len hl]; omega) | refine ⟨?_, ?_⟩) ?_
    rw [← e1, ← e2]
    exact e
  · have e : i = 64 := by omega
    subst e
    refine hold_end mixed (okSR hg hh) (unroll := false) (f := 300) (sc := [false]) (r := (SV.sl .u8 (g (xorL 92 (List.take 64 K) ++ g (xorL 54 (List.take 64 K) ++ b))))) (ob := [Decidable.decide (64 < K.length) = false, slenD (SV.sl .u8 (xorL 54 (List.take 64 K) ++ b)) * 1 ≤ 140737488355328, (xorL 54 (List.take 64 K) ++ b).length ≤ 1000000, slenD (SV.sl .u8 (xorL 92 (List.take 64 K) ++ g (xorL 54 (List.take 64 K) ++ b))) * 1 ≤ 140737488355328, (xorL 92 (List.take 64 K) ++ g (xorL 54 (List.take 64 K) ++ b)).length ≤ 1000000]) (sc' := []) (by kernel_rfl) (by repeat' first | exact trivial | exact decide_eq_true (by omega) | exact decide_eq_false (by omega) | omega | (simp only [decide_eq_true_eq, decide_eq_false_iff_not, slenD, SV.slen, Option.getD_some, List.length_append, List.length_cons, List.length_nil, List.length_replicate, List.length_take, List.length_drop, xorL_len, k64_len hl, hl, oE_len hl]; omega) | refine ⟨?_, ?_⟩) ?_
    rw [hr, List.take_of_length_le (by omega)]
theorem qH0 (b K : List Nat) (hK : K.length ≤ 64) (hb : b.length ≤ 900000) (hr : res = .sl .u8 (g (xorL 92 (zf K) ++ g (xorL 54 (zf K) ++ b)))) : ∀ d j, 64 - K.length - j = d → j ≤ 64 - K.length → Hold Try.prog (bodyOf Try.f23) (Fin Try.prog Try.f23 w0 S res) w0 S sn (sH0 b K j) := by
  have hl : ∀ b, (g b).length = 32 := by rw [hg]; exact sum32_len
  intro d
  induction d using Nat.strongRecOn with
  | _ d ih =>
  intro j hd hj
  refine hold_unroll (c := _) rfl ?_
  by_cases hlt : j < 64 - K.length
  · have e := ih (64 - K.length - (j + 1)) (by omega) (j + 1) rfl (by omega)
    refine hold_cut mixed (okSR hg hh) (unroll := false) (f := 300) (sc := [true]) (ks := [1,5]) (bs := [0]) (nx := 3) (st' := [It.lp [0, 0, 1, 1, 1], It.blk 0, It.at [1, 1, 1, 1]]) (σ' := { nt := 47, slots := [(1, SV.sl .u8 b), (5, SV.row 0 (SV.sl .u8 (K ++ List.replicate j 0 ++ [0])))], blks := [(0, { ty := 5, segs := [], row := true })], next := 3 }) (ob := [Decidable.decide ((K ++ List.replicate j 0).length < 64) = true, slenD (SV.sl .u8 (K ++ List.replicate j 0 ++ [0])) * 1 ≤ 140737488355328]) (sc' := []) (by kernel_rfl) (by repeat' first | exact trivial | exact decide_eq_true (by omega) | exact decide_eq_false (by omega) | omega | (simp only [decide_eq_true_eq, decide_eq_false_iff_not, slenD, SV.slen, Option.getD_some, List.length_append, List.length_cons, List.length_nil, List.length_replicate, List.length_take, List.length_drop, xorL_len, k64_len hl, hl, oE_len hl]; omega) | refine ⟨?_, ?_⟩) ?_
    rw [rep_succ]
    exact e
  · have e : K ++ List.replicate j 0 = zf K := by unfold zf; congr 2; omega
    refine hold_cut mixed (okSR hg hh) (unroll := false) (f := 300) (sc := [false]) (ks := [1,6,7,23,24,25]) (bs := [0]) (nx := 3) (st' := [It.lp [0, 1, 0, 1, 1, 1, 1, 1], It.blk 2, It.at [1, 1, 1, 1, 1, 1]]) (σ' := { nt := 47, slots := [(1, SV.sl .u8 b), (6, SV.nil), (7, SV.nil), (23, SV.row 0 (SV.sl .u8 (K ++ List.replicate j 0))), (24, SV.u .i64 (K ++ List.replicate j 0).length), (25, SV.c .i64 (0 : Int))], blks := [(0, { ty := 5, segs := [], row := true })], next := 3 }) (ob := [Decidable.decide ((K ++ List.replicate j 0).length < 64) = false]) (sc' := []) (by kernel_rfl) (by repeat' first | exact trivial | exact decide_eq_true (by omega) | exact decide_eq_false (by omega) | omega | (simp only [decide_eq_true_eq, decide_eq_false_iff_not, slenD, SV.slen, Option.getD_some, List.length_append, List.length_cons, List.length_nil, List.length_replicate, List.length_take, List.length_drop, xorL_len, k64_len hl, hl, oE_len hl]; omega) | refine ⟨?_, ?_⟩) ?_
    rw [e]
    refine hold_nil (t := 6) (e := 5) (s0 := .sl .u8 []) rfl ?_
    refine hold_nil (t := 7) (e := 5) (s0 := .sl .u8 []) rfl ?_
    refine hold_restrict (ks := [1,6,7,23,24,25]) (bs := [0,3,6]) (nx := 9) rfl ?_
    exact Hold.weaken (qI0 hg hh b (zf K) (zf_len hK) hb hr _ 0 rfl (by omega)) (by simp [wks, wk, wk0, lim, sI0, xorL, nilRow])
theorem qI3 (b K : List Nat) (hK : K.length = 64) (hb : b.length ≤ 900000) (hr : res = .sl .u8 (g (xorL 92 K ++ g (xorL 54 K ++ b)))) : ∀ d i, 64 - i = d → i ≤ 64 → Hold Try.prog (bodyOf Try.f23) (Fin Try.prog Try.f23 w0 S res) w0 S sn2 (sI3 b K i) := by
  have hl : ∀ b, (g b).length = 32 := by rw [hg]; exact sum32_len
  intro d
  induction d using Nat.strongRecOn with
  | _ d ih =>
  intro i hd hi
  refine hold_unroll (c := _) rfl ?_
  by_cases hlt : i < 64
  · have e := ih (64 - (i + 1)) (by omega) (i + 1) rfl (by omega)
    have e1 := xorL_take 54 K i (by omega)
    have e2 := xorL_take 92 K i (by omega)
    refine hold_cut mixed (okSR hg hh) (unroll := false) (f := 300) (sc := [true]) (ks := [1,6,7,23,24,25]) (bs := [3,6,9]) (nx := 12) (st' := [It.lp [0, 1, 0, 1, 1, 1, 1, 1], It.blk 2, It.at [1, 1, 1, 1, 1, 1]]) (σ' := { nt := 47, slots := [(1, SV.sl .u8 b), (6, SV.row 6 (SV.sl .u8 (xorL 54 (List.take i K) ++ [K.getD i 0 ^^^ 54]))), (7, SV.row 9 (SV.sl .u8 (xorL 92 (List.take i K) ++ [K.getD i 0 ^^^ 92]))), (23, SV.row 3 (SV.sl .u8 K)), (24, SV.u .i64 K.length), (25, SV.u .i64 (i + 1))], blks := [(3, { ty := 5, segs := [], row := true }), (6, { ty := 5, segs := [], row := true }), (9, { ty := 5, segs := [], row := true })], next := 12 }) (ob := [Decidable.decide (i < K.length) = true, i < K.length, slenD (SV.sl .u8 (xorL 54 (List.take i K) ++ [K.getD i 0 ^^^ 54])) * 1 ≤ 140737488355328, slenD (SV.sl .u8 (xorL 92 (List.take i K) ++ [K.getD i 0 ^^^ 92])) * 1 ≤ 140737488355328, i + 1 < 9223372036854775808]) (sc' := []) (by kernel_rfl) (by repeat' first | exact trivial | exact decide_eq_true (by omega) | exact decide_eq_false (by omega) | omega | (simp only [decide_eq_true_eq, decide_eq_false_iff_not, slenD, SV.slen, Option.getD_some, List.length_append, List.length_cons, List.length_nil, List.length_replicate, List.length_take, List.length_drop, xorL_len, k64_len hl, hl, oE_len hl]; omega) | refine ⟨?_, ?_⟩) ?_
    rw [← e1, ← e2]
    exact e
  · have e : i = 64 := by omega
    subst e
    refine hold_end mixed (okSR hg hh) (unroll := false) (f := 300) (sc := [false]) (r := (SV.sl .u8 (g (xorL 92 (List.take 64 K) ++ g (xorL 54 (List.take 64 K) ++ b))))) (ob := [Decidable.decide (64 < K.length) = false, slenD (SV.sl .u8 (xorL 54 (List.take 64 K) ++ b)) * 1 ≤ 140737488355328, (xorL 54 (List.take 64 K) ++ b).length ≤ 1000000, slenD (SV.sl .u8 (xorL 92 (List.take 64 K) ++ g (xorL 54 (List.take 64 K) ++ b))) * 1 ≤ 140737488355328, (xorL 92 (List.take 64 K) ++ g (xorL 54 (List.take 64 K) ++ b)).length ≤ 1000000]) (sc' := []) (by kernel_rfl) (by repeat' first | exact trivial | exact decide_eq_true (by omega) | exact decide_eq_false (by omega) | omega | (simp only [decide_eq_true_eq, decide_eq_false_iff_not, slenD, SV.slen, Option.getD_some, List.length_append, List.length_cons, List.length_nil, List.length_replicate, List.length_take, List.length_drop, xorL_len, k64_len hl, hl, oE_len hl]; omega) | refine ⟨?_, ?_⟩) ?_
    rw [hr, List.take_of_length_le (by omega)]
theorem qH3 (b K : List Nat) (hK : K.length ≤ 64) (hb : b.length ≤ 900000) (hr : res = .sl .u8 (g (xorL 92 (zf K) ++ g (xorL 54 (zf K) ++ b)))) : ∀ d j, 64 - K.length - j = d → j ≤ 64 - K.length → Hold Try.prog (bodyOf Try.f23) (Fin Try.prog Try.f23 w0 S res) w0 S sn (sH3 b K j) := by
  have hl : ∀ b, (g b).length = 32 := by rw [hg]; exact sum32_len
  intro d
  induction d using Nat.strongRecOn with
  | _ d ih =>
  intro j hd hj
  refine hold_unroll (c := _) rfl ?_
  by_cases hlt : j < 64 - K.length
  · have e := ih (64 - K.length - (j + 1)) (by omega) (j + 1) rfl (by omega)
    refine hold_cut mixed (okSR hg hh) (unroll := false) (f := 300) (sc := [true]) (ks := [1,5]) (bs := [3]) (nx := 6) (st' := [It.lp [0, 0, 1, 1, 1], It.blk 0, It.at [1, 1, 1, 1]]) (σ' := { nt := 47, slots := [(1, SV.sl .u8 b), (5, SV.row 3 (SV.sl .u8 (K ++ List.replicate j 0 ++ [0])))], blks := [(3, { ty := 5, segs := [], row := true })], next := 6 }) (ob := [Decidable.decide ((K ++ List.replicate j 0).length < 64) = true, slenD (SV.sl .u8 (K ++ List.replicate j 0 ++ [0])) * 1 ≤ 140737488355328]) (sc' := []) (by kernel_rfl) (by repeat' first | exact trivial | exact decide_eq_true (by omega) | exact decide_eq_false (by omega) | omega | (simp only [decide_eq_true_eq, decide_eq_false_iff_not, slenD, SV.slen, Option.getD_some, List.length_append, List.length_cons, List.length_nil, List.length_replicate, List.length_take, List.length_drop, xorL_len, k64_len hl, hl, oE_len hl]; omega) | refine ⟨?_, ?_⟩) ?_
    rw [rep_succ]
    exact e
  · have e : K ++ List.replicate j 0 = zf K := by unfold zf; congr 2; omega
    refine hold_cut mixed (okSR hg hh) (unroll := false) (f := 300) (sc := [false]) (ks := [1,6,7,23,24,25]) (bs := [3]) (nx := 6) (st' := [It.lp [0, 1, 0, 1, 1, 1, 1, 1], It.blk 2, It.at [1, 1, 1, 1, 1, 1]]) (σ' := { nt := 47, slots := [(1, SV.sl .u8 b), (6, SV.nil), (7, SV.nil), (23, SV.row 3 (SV.sl .u8 (K ++ List.replicate j 0))), (24, SV.u .i64 (K ++ List.replicate j 0).length), (25, SV.c .i64 (0 : Int))], blks := [(3, { ty := 5, segs := [], row := true })], next := 6 }) (ob := [Decidable.decide ((K ++ List.replicate j 0).length < 64) = false]) (sc' := []) (by kernel_rfl) (by repeat' first | exact trivial | exact decide_eq_true (by omega) | exact decide_eq_false (by omega) | omega | (simp only [decide_eq_true_eq, decide_eq_false_iff_not, slenD, SV.slen, Option.getD_some, List.length_append, List.length_cons, List.length_nil, List.length_replicate, List.length_take, List.length_drop, xorL_len, k64_len hl, hl, oE_len hl]; omega) | refine ⟨?_, ?_⟩) ?_
    rw [e]
    refine hold_nil (t := 6) (e := 5) (s0 := .sl .u8 []) rfl ?_
    refine hold_nil (t := 7) (e := 5) (s0 := .sl .u8 []) rfl ?_
    refine hold_restrict (ks := [1,6,7,23,24,25]) (bs := [3,6,9]) (nx := 12) rfl ?_
    exact Hold.weaken (qI3 hg hh b (zf K) (zf_len hK) hb hr _ 0 rfl (by omega)) (by simp [wks, wk, wk0, lim, sI3, xorL, nilRow])
theorem qhmac_c (k b : List Nat) (hk : k.length ≤ 900000) (hb : b.length ≤ 900000) : Contract Try.prog 23 [.sl .u8 k, .sl .u8 b] (.sl .u8 (hm g k b)) := by
  have hl : ∀ b, (g b).length = 32 := by rw [hg]; exact sum32_len
  refine contract Try.func23 (body := bodyOf Try.f23) rfl (by kernel_rfl) (by kernel_rfl) rfl ?_
  intro _ w0 S
  by_cases h64 : 64 < k.length
  · refine hold_cut mixed (okSR hg hh) (unroll := false) (f := 100) (sc := [true]) (ks := [1,5]) (bs := [3]) (nx := 6) (st' := [It.lp [0, 0, 1, 1, 1], It.blk 0, It.at [1, 1, 1, 1]]) (σ' := { nt := 47, slots := [(1, SV.sl .u8 b), (5, SV.row (backM [] 3 0) (SV.sl .u8 (g k)))], blks := [(3, { ty := 5, segs := [], row := true })], next := 6 }) (ob := [slenD (SV.sl .u8 k) * 1 ≤ 140737488355328, Decidable.decide (64 < k.length) = true, k.length ≤ 1000000]) (sc' := []) (by kernel_rfl) (by repeat' first | exact trivial | exact decide_eq_true (by omega) | exact decide_eq_false (by omega) | omega | (simp only [decide_eq_true_eq, decide_eq_false_iff_not, slenD, SV.slen, Option.getD_some, List.length_append, List.length_cons, List.length_nil, List.length_replicate, List.length_take, List.length_drop, xorL_len, k64_len hl, hl, oE_len hl]; omega) | refine ⟨?_, ?_⟩) ?_
    have e := qH3 (res := .sl .u8 (hm g k b)) (w0 := w0) (S := S) hg hh b (g k) (by rw [hl]; omega) hb (by unfold hm k64 kk; rw [if_pos h64]) _ 0 rfl (by omega)
    exact e.cast (by first | (simp [sH3, bY, backM]; done) | rfl)
  · refine hold_cut mixed (okSR hg hh) (unroll := false) (f := 100) (sc := [false]) (ks := [1,5]) (bs := [0]) (nx := 3) (st' := [It.lp [0, 0, 1, 1, 1], It.blk 0, It.at [1, 1, 1, 1]]) (σ' := { nt := 47, slots := [(1, SV.sl .u8 b), (5, SV.row 0 (SV.sl .u8 k))], blks := [(0, { ty := 5, segs := [], row := true })], next := 3 }) (ob := [slenD (SV.sl .u8 k) * 1 ≤ 140737488355328, Decidable.decide (64 < k.length) = false]) (sc' := []) (by kernel_rfl) (by repeat' first | exact trivial | exact decide_eq_true (by omega) | exact decide_eq_false (by omega) | omega | (simp only [decide_eq_true_eq, decide_eq_false_iff_not, slenD, SV.slen, Option.getD_some, List.length_append, List.length_cons, List.length_nil, List.length_replicate, List.length_take, List.length_drop, xorL_len, k64_len hl, hl, oE_len hl]; omega) | refine ⟨?_, ?_⟩) ?_
    have e := qH0 (res := .sl .u8 (hm g k b)) (w0 := w0) (S := S) hg hh b k (by omega) hb (by unfold hm k64 kk; rw [if_neg h64]) _ 0 rfl (by omega)
    exact e.cast (by first | (simp [sH0, bY]; done) | rfl)
end
end Go.Eng.B

namespace Go.Eng.B
open Go Go.Eng Go.Proofs
set_option maxRecDepth 100000
set_option maxHeartbeats 1000000
def fourL (m : Nat) : List Nat := [m / 16777216 % 256, m / 65536 % 256, m / 256 % 256, m % 256]
def okK (k p : List Nat) (n : Int) : Bool := decide (k.length = 16) && decide (p.length ≤ 7) && decide (0 ≤ n) && decide (n ≤ 1073741824)
def mkL (g : List Nat → List Nat) (k p : List Nat) (m : Nat) : List Nat := fourL m ++ (hm g k ([p.length] ++ p ++ fourL m)).take 8
def mkV (g : List Nat → List Nat) (k p : List Nat) (n : Int) : List Nat := if okK k p n = true then mkL g k p n.toNat else []
def mkE (k p : List Nat) (n : Int) : Nat := if okK k p n = true then 0 else 1
def eNumb (H : List Bk) (args : List SV) : Option (MRes × List Prop) := match H, args with
  | [], [x, y] => match x.nat?, y.nat? with
    | some (.i64, m), some (.i64, n) => some (⟨.row 0 (.sl .u8 (fourL m)), [], [bY]⟩, [n = 4])
    | _, _ => none
  | _, _ => none
def eFour (H : List Bk) (args : List SV) : Option (MRes × List Prop) := match H, args with
  | [], [x] => match x.nat? with
    | some (.i64, m) => some (⟨.row 0 (.sl .u8 (fourL m)), [], [bY]⟩, [])
    | _ => none
  | _, _ => none
def eRight (args : List SV) : Option (SV × List Prop) := match args with
  | [x, y, z] => match part? x, part? y, z.int? with | some k, some p, some (.i64, n) => some (.b (okK k p n), []) | _, _, _ => none
  | _ => none
def eMake (g : List Nat → List Nat) (args : List SV) : Option (SV × List Prop) := match args with
  | [x, y, z] => match part? x, part? y, z.int? with | some k, some p, some (.i64, n) => some (.tup [.sl .u8 (mkV g k p n), .u .i64 (mkE k p n)], []) | _, _, _ => none
  | _ => none
noncomputable def V1a (g h : List Nat → List Nat) : Ctr := addC 35 eRight (addC 21 eRight (addM 36 eNumb (addM 22 eFour (addC 37 (eHm g) (addC 23 (eHm g) (ST g h))))))
theorem fourL_len (m : Nat) : (fourL m).length = 4 := rfl
section
variable {w0 : World} {S : Own} {res : SV}
theorem numb_m (m : Nat) : ContractM Try.prog 36 [] [.u .i64 m, .u .i64 4] ⟨.row 0 (.sl .u8 (fourL m)), [], [bY]⟩ := by
  refine ContractM.args (args' := [.u .i64 m, .c .i64 4]) ⟨wk_refl _, by simp [wk, wk0], rfl⟩ ?_
  refine contractM Try.func36 (body := bodyOf Try.f36) rfl (by kernel_rfl) (by kernel_rfl) rfl rfl ?_
  rintro _ _ F S _
  refine hold_endOw mixed ctr0_ok (news := [1]) (t := 4) (unroll := true) (f := 300) (sc := []) (r := { res := SV.row 0 (SV.sl .u8 [m / 16777216 % 256, m / 65536 % 256, m / 256 % 256, m / 1 % 256]), upd := [], new := [{ ty := 5, segs := [], row := true }] }) (ob := []) (sc' := []) (by kernel_rfl) (by repeat' first | exact trivial | refine ⟨?_, ?_⟩) ?_
  rw [Nat.div_one]
  exact wkM_of rfl
theorem four_m (m : Nat) : ContractM Try.prog 22 [] [.u .i64 m] ⟨.row 0 (.sl .u8 (fourL m)), [], [bY]⟩ := by
  refine contractM Try.func22 (body := bodyOf Try.f22) rfl (by kernel_rfl) (by kernel_rfl) rfl rfl ?_
  rintro _ _ F S _
  refine hold_endOw mixed ctr0_ok (news := [1]) (t := 2) (unroll := true) (f := 300) (sc := []) (r := { res := SV.row 0 (SV.sl .u8 [m / 16777216 % 256, m / 65536 % 256, m / 256 % 256, m % 256]), upd := [], new := [{ ty := 5, segs := [], row := true }] }) (ob := []) (sc' := []) (by kernel_rfl) (by repeat' first | exact trivial | refine ⟨?_, ?_⟩) ?_
  exact wkM_of rfl
theorem right_c (k p : List Nat) (n : Int) : Contract Try.prog 35 [.sl .u8 k, .sl .u8 p, .i .i64 n] (.b (okK k p n)) := by
  refine contract Try.func35 (body := bodyOf Try.f35) rfl (by kernel_rfl) (by kernel_rfl) rfl ?_
  intro _ w0 S
  rcases Bool.eq_false_or_eq_true (k.length == (16 : Nat)) with hc0 | hc0
  · have hd0 := eq_of_beq hc0
    rcases Bool.eq_false_or_eq_true (Decidable.decide (p.length ≤ (7 : Nat))) with hc1 | hc1
    · have hd1 := of_decide_eq_true hc1
      rcases Bool.eq_false_or_eq_true (Decidable.decide ((0 : Int) ≤ n)) with hc2 | hc2
      · have hd2 := of_decide_eq_true hc2
        refine hold_endw mixed ctr0_ok (unroll := true) (f := 100) (sc := [true, true, true]) (r := (SV.b (Decidable.decide (n ≤ (1073741824 : Int))))) (ob := [(k.length == 16) = true, Decidable.decide (p.length ≤ 7) = true, Decidable.decide ((0 : Int) ≤ n) = true]) (sc' := []) (by kernel_rfl) ?_ ?_
        · exact ⟨hc0, hc1, hc2, trivial⟩
        · first | (simp_all [wkR, wk, wk0, okK]; done) | (simp_all [wkR, wk, wk0, okK]; omega)
      · have hd2 := of_decide_eq_false hc2
        refine hold_endw mixed ctr0_ok (unroll := true) (f := 100) (sc := [true, true, false]) (r := (SV.cb false)) (ob := [(k.length == 16) = true, Decidable.decide (p.length ≤ 7) = true, Decidable.decide ((0 : Int) ≤ n) = false]) (sc' := []) (by kernel_rfl) ?_ ?_
        · exact ⟨hc0, hc1, hc2, trivial⟩
        · first | (simp_all [wkR, wk, wk0, okK]; done) | (simp_all [wkR, wk, wk0, okK]; omega)
    · have hd1 := of_decide_eq_false hc1
      refine hold_endw mixed ctr0_ok (unroll := true) (f := 100) (sc := [true, false]) (r := (SV.cb false)) (ob := [(k.length == 16) = true, Decidable.decide (p.length ≤ 7) = false]) (sc' := []) (by kernel_rfl) ?_ ?_
      · exact ⟨hc0, hc1, trivial⟩
      · first | (simp_all [wkR, wk, wk0, okK]; done) | (simp_all [wkR, wk, wk0, okK]; omega)
  · have hd0 := ne_of_beq_false hc0
    refine hold_endw mixed ctr0_ok (unroll := true) (f := 100) (sc := [false]) (r := (SV.cb false)) (ob := [(k.length == 16) = false]) (sc' := []) (by kernel_rfl) ?_ ?_
    · exact ⟨hc0, trivial⟩
    · first | (simp_all [wkR, wk, wk0, okK]; done) | (simp_all [wkR, wk, wk0, okK]; omega)
theorem fine_c (k p : List Nat) (n : Int) : Contract Try.prog 21 [.sl .u8 k, .sl .u8 p, .i .i64 n] (.b (okK k p n)) := by
  refine contract Try.func21 (body := bodyOf Try.f21) rfl (by kernel_rfl) (by kernel_rfl) rfl ?_
  intro _ w0 S
  rcases Bool.eq_false_or_eq_true (k.length == (16 : Nat)) with hc0 | hc0
  · have hd0 := eq_of_beq hc0
    rcases Bool.eq_false_or_eq_true (Decidable.decide (p.length ≤ (7 : Nat))) with hc1 | hc1
    · have hd1 := of_decide_eq_true hc1
      rcases Bool.eq_false_or_eq_true (Decidable.decide ((0 : Int) ≤ n)) with hc2 | hc2
      · have hd2 := of_decide_eq_true hc2
        refine hold_endw mixed ctr0_ok (unroll := true) (f := 100) (sc := [true, true, true]) (r := (SV.b (Decidable.decide (n ≤ (1073741824 : Int))))) (ob := [(k.length == 16) = true, Decidable.decide (p.length ≤ 7) = true, Decidable.decide ((0 : Int) ≤ n) = true]) (sc' := []) (by kernel_rfl) ?_ ?_
        · exact ⟨hc0, hc1, hc2, trivial⟩
        · first | (simp_all [wkR, wk, wk0, okK]; done) | (simp_all [wkR, wk, wk0, okK]; omega)
      · have hd2 := of_decide_eq_false hc2
        refine hold_endw mixed ctr0_ok (unroll := true) (f := 100) (sc := [true, true, false]) (r := (SV.cb false)) (ob := [(k.length == 16) = true, Decidable.decide (p.length ≤ 7) = true, Decidable.decide ((0 : Int) ≤ n) = false]) (sc' := []) (by kernel_rfl) ?_ ?_
        · exact ⟨hc0, hc1, hc2, trivial⟩
        · first | (simp_all [wkR, wk, wk0, okK]; done) | (simp_all [wkR, wk, wk0, okK]; omega)
    · have hd1 := of_decide_eq_false hc1
      refine hold_endw mixed ctr0_ok (unroll := true) (f := 100) (sc := [true, false]) (r := (SV.cb false)) (ob := [(k.length == 16) = true, Decidable.decide (p.length ≤ 7) = false]) (sc' := []) (by kernel_rfl) ?_ ?_
      · exact ⟨hc0, hc1, trivial⟩
      · first | (simp_all [wkR, wk, wk0, okK]; done) | (simp_all [wkR, wk, wk0, okK]; omega)
  · have hd0 := ne_of_beq_false hc0
    refine hold_endw mixed ctr0_ok (unroll := true) (f := 100) (sc := [false]) (r := (SV.cb false)) (ob := [(k.length == 16) = false]) (sc' := []) (by kernel_rfl) ?_ ?_
    · exact ⟨hc0, trivial⟩
    · first | (simp_all [wkR, wk, wk0, okK]; done) | (simp_all [wkR, wk, wk0, okK]; omega)
end
theorem numb_ok : ∀ H args r ob, eNumb H args = some (r, ob) → All ob → ContractM Try.prog 36 H args r := by
  intro H args r ob he hob
  unfold eNumb at he
  split at he
  · split at he
    · rename_i m n hx hy
      cases he
      obtain ⟨rfl, _⟩ := hob
      exact ContractM.argsRF (numb_m m) (fun ⟨v, t, e, h1, v2, t2, e2, h2, h3⟩ => ⟨v, t, e, nat?_wk hx h1, v2, t2, e2, nat?_wk hy h2, h3⟩)
    · cases he
  · cases he
theorem four_ok : ∀ H args r ob, eFour H args = some (r, ob) → All ob → ContractM Try.prog 22 H args r := by
  intro H args r ob he hob
  unfold eFour at he
  split at he
  · split at he
    · rename_i m hx
      cases he
      exact ContractM.argsRF (four_m m) (fun ⟨v, t, e, h1, h3⟩ => ⟨v, t, e, nat?_wk hx h1, h3⟩)
    · cases he
  · cases he
theorem eRight_ok {P : Program} {f : FuncId} (h : ∀ (k p : List Nat) (n : Int), Contract P f [.sl .u8 k, .sl .u8 p, .i .i64 n] (.b (okK k p n))) : ∀ args res ob, eRight args = some (res, ob) → All ob → Contract P f args res := by
  intro args res ob he _
  unfold eRight at he
  split at he
  · split at he
    · rename_i hx hy hz
      cases he
      exact Contract.argsF (h _ _ _) ⟨wk_of0 (part_wk hx), wk_of0 (part_wk hy), int?_wk hz, rfl⟩
    · cases he
  · cases he
theorem eMake_ok {P : Program} {f : FuncId} {g : List Nat → List Nat} (h : ∀ (k p : List Nat) (n : Int), Contract P f [.sl .u8 k, .sl .u8 p, .i .i64 n] (.tup [.sl .u8 (mkV g k p n), .u .i64 (mkE k p n)])) : ∀ args res ob, eMake g args = some (res, ob) → All ob → Contract P f args res := by
  intro args res ob he _
  unfold eMake at he
  split at he
  · split at he
    · rename_i hx hy hz
      cases he
      exact Contract.argsF (h _ _ _) ⟨wk_of0 (part_wk hx), wk_of0 (part_wk hy), int?_wk hz, rfl⟩
    · cases he
  · cases he
theorem okK_n {k p : List Nat} {n : Int} (h : okK k p n = true) : k.length = 16 ∧ p.length ≤ 7 ∧ 0 ≤ n ∧ n ≤ 1073741824 := by
  simp only [okK, Bool.and_eq_true, decide_eq_true_eq] at h
  exact ⟨h.1.1.1, h.1.1.2, h.1.2, h.2⟩
section
variable {g h : List Nat → List Nat} (hg : g = sum32) (hh : h = sum64) {w0 : World} {S : Own} {res : SV}
include hg hh
theorem okV1a : CtrOk Try.prog (V1a g h) := addC_ok (addC_ok (addM_ok (addM_ok (addC_ok (addC_ok (okST hg hh) (eHm_ok (qhmac_c hg hh))) (eHm_ok (hmac_c hg hh))) four_ok) numb_ok) (eRight_ok fine_c)) (eRight_ok right_c)
theorem make_c (k p : List Nat) (n : Int) : Contract Try.prog 18 [.sl .u8 k, .sl .u8 p, .i .i64 n] (.tup [.sl .u8 (mkV g k p n), .u .i64 (mkE k p n)]) := by
  have hl : ∀ b, (g b).length = 32 := by rw [hg]; exact sum32_len
  cases ho : okK k p n with
  | false =>
    unfold mkV mkE
    rw [ho]
    refine contract Try.func18 (body := bodyOf Try.f18) rfl (by kernel_rfl) (by kernel_rfl) rfl ?_
    intro _ w0 S
    exact hold_endw mixed (okV1a hg hh) (unroll := true) (f := 100) (sc := [true]) (r := (SV.tup [SV.sl .u8 [], SV.c .i64 (1 : Int)])) (ob := [(!okK k p n) = true]) (sc' := []) (by kernel_rfl) ⟨by rw [ho]; rfl, trivial⟩ (by simp [wkR, wk, wk0, wkl, wka, lim])
  | true =>
    obtain ⟨hk, hp, h0, h1⟩ := okK_n ho
    obtain ⟨m, rfl⟩ : ∃ m : Nat, n = (m : Int) := ⟨n.toNat, by omega⟩
    unfold mkV mkE
    rw [ho]
    refine Contract.args (args' := [.sl .u8 k, .sl .u8 p, .u .i64 m]) ⟨by simp [wk, wk0], by simp [wk, wk0], by simp [wk, wk0, lim]; omega, rfl⟩ ?_
    refine contract Try.func18 (body := bodyOf Try.f18) rfl (by kernel_rfl) (by kernel_rfl) rfl ?_
    intro _ w0 S
    have hq : (hm g k (p.length % 256 :: p ++ fourL m)).length = 32 := hm_len hl _ _
    have hr : p.length % 256 = p.length := by omega
    refine hold_endw mixed (okV1a hg hh) (unroll := true) (f := 100) (sc := [false]) (r := (SV.tup [SV.sl .u8 (fourL m ++ List.drop 0 (List.take 8 (hm g k (p.length % 256 :: p ++ fourL m)))), SV.c .i64 (0 : Int)])) (ob := [(!okK k p (↑m : Int)) = false, slenD (SV.sl .u8 (p.length % 256 :: p)) * 1 ≤ 140737488355328, 4 = 4, 4 = 4, slenD (SV.sl .u8 (p.length % 256 :: p ++ fourL m)) * 1 ≤ 140737488355328, k.length ≤ 900000, (p.length % 256 :: p ++ fourL m).length ≤ 900000, 0 ≤ 8, 8 ≤ (hm g k (p.length % 256 :: p ++ fourL m)).length, slenD (SV.sl .u8 (fourL m ++ List.drop 0 (List.take 8 (hm g k (p.length % 256 :: p ++ fourL m))))) * 1 ≤ 140737488355328]) (sc' := []) (by kernel_rfl) (by repeat' first | exact trivial | exact ho | omega | (rw [ho]; rfl) | (simp only [slenD, SV.slen, Option.getD_some, List.length_append, List.length_cons, List.length_nil, List.length_take, List.length_drop, fourL_len, hm_len hl]; omega) | refine ⟨?_, ?_⟩) ?_
    simp [wkR, wk, wk0, wkl, wka, lim, mkL, hr]
theorem qmake_c (k p : List Nat) (n : Int) : Contract Try.prog 10 [.sl .u8 k, .sl .u8 p, .i .i64 n] (.tup [.sl .u8 (mkV g k p n), .u .i64 (mkE k p n)]) := by
  have hl : ∀ b, (g b).length = 32 := by rw [hg]; exact sum32_len
  cases ho : okK k p n with
  | false =>
    unfold mkV mkE
    rw [ho]
    refine contract Try.func10 (body := bodyOf Try.f10) rfl (by kernel_rfl) (by kernel_rfl) rfl ?_
    intro _ w0 S
    exact hold_endw mixed (okV1a hg hh) (unroll := true) (f := 100) (sc := [true]) (r := (SV.tup [SV.sl .u8 [], SV.c .i64 (1 : Int)])) (ob := [(!okK k p n) = true]) (sc' := []) (by kernel_rfl) ⟨by rw [ho]; rfl, trivial⟩ (by simp [wkR, wk, wk0, wkl, wka, lim])
  | true =>
    obtain ⟨hk, hp, h0, h1⟩ := okK_n ho
    obtain ⟨m, rfl⟩ : ∃ m : Nat, n = (m : Int) := ⟨n.toNat, by omega⟩
    unfold mkV mkE
    rw [ho]
    refine Contract.args (args' := [.sl .u8 k, .sl .u8 p, .u .i64 m]) ⟨by simp [wk, wk0], by simp [wk, wk0], by simp [wk, wk0, lim]; omega, rfl⟩ ?_
    refine contract Try.func10 (body := bodyOf Try.f10) rfl (by kernel_rfl) (by kernel_rfl) rfl ?_
    intro _ w0 S
    have hr : p.length % 256 = p.length := by omega
    refine hold_endw mixed (okV1a hg hh) (unroll := true) (f := 100) (sc := [false]) (r := (SV.tup [SV.sl .u8 (fourL m ++ List.drop 0 (List.take 8 (hm g k (p.length % 256 :: p ++ fourL m)))), SV.c .i64 (0 : Int)])) (ob := [(!okK k p (↑m : Int)) = false, slenD (SV.sl .u8 (p.length % 256 :: p)) * 1 ≤ 140737488355328, slenD (SV.sl .u8 (p.length % 256 :: p ++ fourL m)) * 1 ≤ 140737488355328, k.length ≤ 900000, (p.length % 256 :: p ++ fourL m).length ≤ 900000, 0 ≤ 8, 8 ≤ (hm g k (p.length % 256 :: p ++ fourL m)).length, slenD (SV.sl .u8 (fourL m ++ List.drop 0 (List.take 8 (hm g k (p.length % 256 :: p ++ fourL m))))) * 1 ≤ 140737488355328]) (sc' := []) (by kernel_rfl) (by repeat' first | exact trivial | exact ho | omega | (rw [ho]; rfl) | (simp only [slenD, SV.slen, Option.getD_some, List.length_append, List.length_cons, List.length_nil, List.length_take, List.length_drop, fourL_len, hm_len hl]; omega) | refine ⟨?_, ?_⟩) ?_
    simp [wkR, wk, wk0, wkl, wka, lim, mkL, hr]
end
end Go.Eng.B

namespace Go.Eng.B
open Go Go.Eng Go.Proofs
set_option maxRecDepth 100000
set_option maxHeartbeats 1000000
def be4 (v : List Nat) : Nat := ((v.getD 0 0 * 256 + v.getD 1 0) * 256 + v.getD 2 0) * 256 + v.getD 3 0
def ckT (g : List Nat → List Nat) (k p v : List Nat) (n : Int) (t : Nat) : Nat :=
  if 1073741824 < t then 4 else if mkL g k p t ≠ v then 11 else if n < (t : Int) ∨ 16 < n - (t : Int) then 39 else 0
def ckE (g : List Nat → List Nat) (k p v : List Nat) (n : Int) : Nat :=
  if okK k p n = false then 1 else if v.length ≠ 12 then 4 else ckT g k p v n (be4 v)
def sCk (k p v : List Nat) (m t : Nat) : St := ⟨62, [(0, .sl .u8 k), (1, .sl .u8 p), (2, .sl .u8 v), (3, .u .i64 m), (9, .u .i64 t), (36, .b (decide (1073741824 < t)))], [], 0, 0⟩
def sQk (k p v : List Nat) (m t : Nat) : St := ⟨55, [(0, .sl .u8 k), (1, .sl .u8 p), (2, .sl .u8 v), (3, .u .i64 m), (9, .u .i64 t), (34, .b (decide (1073741824 < t)))], [], 0, 0⟩
def eCheck (g : List Nat → List Nat) (args : List SV) : Option (SV × List Prop) := match args with
  | [x, y, z, u] => match part? x, part? y, part? z, u.int? with | some k, some p, some v, some (.i64, n) => some (.u .i64 (ckE g k p v n), []) | _, _, _, _ => none
  | _ => none
noncomputable def V2a (g h : List Nat → List Nat) : Ctr := addC 18 (eMake g) (addC 10 (eMake g) (addC 47 eEq (V1a g h)))
theorem or8 (x y : Nat) (h : y < 256) : (x * 256 ||| y) = x * 256 + y := by
  have := Nat.two_pow_add_eq_or_of_lt (i := 8) (b := y) (by omega) x
  rw [Nat.mul_comm x 256]; exact this.symm
theorem mkV_ok {g : List Nat → List Nat} {k p : List Nat} {t : Nat} (hk : k.length = 16) (hp : p.length ≤ 7) (ht : t ≤ 1073741824) : mkV g k p (t : Int) = mkL g k p t ∧ mkE k p (t : Int) = 0 := by
  have ho : okK k p (t : Int) = true := by simp only [okK, Bool.and_eq_true, decide_eq_true_eq]; omega
  unfold mkV mkE; rw [if_pos ho, if_pos ho]; exact ⟨rfl, rfl⟩
section
variable {g h : List Nat → List Nat} (hg : g = sum32) (hh : h = sum64) {w0 : World} {S : Own} {res : SV}
include hg hh
theorem okV2a : CtrOk Try.prog (V2a g h) := addC_ok (addC_ok (addC_ok (okV1a hg hh) equal_ok) (eMake_ok (qmake_c hg hh))) (eMake_ok (make_c hg hh))
theorem ck1 (k p v : List Nat) (m t : Nat) (hk : k.length = 16) (hp : p.length ≤ 7) (hm : m ≤ 1073741824) (hr : res = .u .i64 (ckT g k p v (m : Int) t)) : Hold Try.prog (bodyOf Try.f19) (Fin Try.prog Try.f19 w0 S res) w0 S [.at [1,0,1,1,1,1,1], .at [1,1,1,1,1,1]] (sCk k p v m t) := by
  unfold ckT at hr
  by_cases h1 : 1073741824 < t
  · rw [hr, if_pos h1]
    exact hold_endw mixed (okV2a hg hh) (unroll := true) (f := 100) (sc := [true]) (r := (SV.c .i64 (4 : Int))) (ob := [Decidable.decide (1073741824 < t) = true]) (sc' := []) (by kernel_rfl) ⟨decide_eq_true h1, trivial⟩ (by simp [wkR, wk, wk0, wka, lim])
  · rw [if_neg h1] at hr
    obtain ⟨e1, e2⟩ := mkV_ok (g := g) hk hp (show t ≤ 1073741824 by omega)
    by_cases h2 : mkL g k p t = v
    · rw [if_neg (by simp [h2])] at hr
      by_cases h3 : m < t
      · rw [hr, if_pos (by omega)]
        exact hold_endw mixed (okV2a hg hh) (unroll := true) (f := 100) (sc := [false, false, false, true]) (r := (SV.c .i64 (39 : Int))) (ob := [Decidable.decide (1073741824 < t) = false, (mkE k p (↑t : Int) != 0) = false, (mkV g k p (↑t : Int) != v) = false, Decidable.decide (m < t) = true]) (sc' := []) (by kernel_rfl) ⟨decide_eq_false h1, by rw [e2]; rfl, by rw [e1, h2]; simp, decide_eq_true h3, trivial⟩ (by simp [wkR, wk, wk0, wka, lim])
      · by_cases h4 : 16 < (m : Int) - (t : Int)
        · rw [hr, if_pos (by omega)]
          exact hold_endw mixed (okV2a hg hh) (unroll := true) (f := 100) (sc := [false, false, false, false, true]) (r := (SV.c .i64 (39 : Int))) (ob := [Decidable.decide (1073741824 < t) = false, (mkE k p (↑t : Int) != 0) = false, (mkV g k p (↑t : Int) != v) = false, Decidable.decide (m < t) = false, Decidable.decide ((16 : Int) < (↑m : Int) - (↑t : Int)) = true]) (sc' := []) (by kernel_rfl) ⟨decide_eq_false h1, by rw [e2]; rfl, by rw [e1, h2]; simp, decide_eq_false h3, decide_eq_true h4, trivial⟩ (by simp [wkR, wk, wk0, wka, lim])
        · rw [hr, if_neg (by omega)]
          exact hold_endw mixed (okV2a hg hh) (unroll := true) (f := 100) (sc := [false, false, false, false, false]) (r := (SV.c .i64 (0 : Int))) (ob := [Decidable.decide (1073741824 < t) = false, (mkE k p (↑t : Int) != 0) = false, (mkV g k p (↑t : Int) != v) = false, Decidable.decide (m < t) = false, Decidable.decide ((16 : Int) < (↑m : Int) - (↑t : Int)) = false]) (sc' := []) (by kernel_rfl) ⟨decide_eq_false h1, by rw [e2]; rfl, by rw [e1, h2]; simp, decide_eq_false h3, decide_eq_false h4, trivial⟩ (by simp [wkR, wk, wk0, wka, lim])
    · rw [hr, if_pos h2]
      exact hold_endw mixed (okV2a hg hh) (unroll := true) (f := 100) (sc := [false, false, true]) (r := (SV.c .i64 (11 : Int))) (ob := [Decidable.decide (1073741824 < t) = false, (mkE k p (↑t : Int) != 0) = false, (mkV g k p (↑t : Int) != v) = true]) (sc' := []) (by kernel_rfl) ⟨decide_eq_false h1, by rw [e2]; rfl, by rw [e1]; exact bne_iff_ne.mpr h2, trivial⟩ (by simp [wkR, wk, wk0, wka, lim])
theorem check_c (k p v : List Nat) (n : Int) : Contract Try.prog 19 [.sl .u8 k, .sl .u8 p, .sl .u8 v, .i .i64 n] (.u .i64 (ckE g k p v n)) := by
  cases ho : okK k p n with
  | false =>
    unfold ckE; rw [if_pos ho]
    refine contract Try.func19 (body := bodyOf Try.f19) rfl (by kernel_rfl) (by kernel_rfl) rfl ?_
    intro _ w0 S
    exact hold_endw mixed (okV2a hg hh) (unroll := true) (f := 100) (sc := [true]) (r := (SV.c .i64 (1 : Int))) (ob := [(!okK k p n) = true]) (sc' := []) (by kernel_rfl) ⟨by rw [ho]; rfl, trivial⟩ (by simp [wkR, wk, wk0, wka, lim])
  | true =>
    obtain ⟨hk, hp, h0, h1⟩ := okK_n ho
    obtain ⟨m, rfl⟩ : ∃ m : Nat, n = (m : Int) := ⟨n.toNat, by omega⟩
    unfold ckE; rw [if_neg (by rw [ho]; decide)]
    refine Contract.args (args' := [.sl .u8 k, .sl .u8 p, .sl .u8 v, .u .i64 m]) ⟨wk_refl _, wk_refl _, wk_refl _, by simp [wk, wk0, lim]; omega, rfl⟩ ?_
    refine contract Try.func19 (body := bodyOf Try.f19) rfl (by kernel_rfl) (by kernel_rfl) rfl ?_
    rintro ⟨_, _, ⟨_, hv⟩, _⟩ w0 S
    have hv : ∀ x ∈ v, x < 256 := hv
    by_cases hl : v.length = 12
    · rw [if_neg (by omega)]
      have g0 := getD_lt (by decide) hv 0
      have g1 := getD_lt (by decide) hv 1
      have g2 := getD_lt (by decide) hv 2
      have g3 := getD_lt (by decide) hv 3
      have tl : (List.drop 0 (List.take 4 v)).length = 4 := by simp; omega
      have t0 : ∀ i, i < 4 → (List.drop 0 (List.take 4 v)).getD i 0 = v.getD i 0 := by
        intro i hi; simp [List.getD_eq_getElem?_getD, List.getElem?_take, hi]
      have o1 := or8 (v.getD 0 0) (v.getD 1 0) g1
      have o2 := or8 (v.getD 0 0 * 256 + v.getD 1 0) (v.getD 2 0) g2
      have o3 := or8 ((v.getD 0 0 * 256 + v.getD 1 0) * 256 + v.getD 2 0) (v.getD 3 0) g3
      refine hold_cut mixed (okV2a hg hh) (unroll := true) (f := 300) (sc := [false, false, true, true, true, true, false]) (ks := [0,1,2,3,9,36]) (bs := []) (nx := 0) (st' := [It.at [1, 0, 1, 1, 1, 1, 1], It.at [1, 1, 1, 1, 1, 1]]) (σ' := { nt := 62, slots := [(0, SV.sl .u8 k), (1, SV.sl .u8 p), (2, SV.sl .u8 v), (3, SV.u .i64 m), (9, SV.u .i64 ((((0 ||| (List.drop 0 (List.take 4 v)).getD 0 0) * 256 ||| (List.drop 0 (List.take 4 v)).getD 1 0) * 256 ||| (List.drop 0 (List.take 4 v)).getD 2 0) * 256 ||| (List.drop 0 (List.take 4 v)).getD 3 0)), (36, SV.b (Decidable.decide (1073741824 < (((0 ||| (List.drop 0 (List.take 4 v)).getD 0 0) * 256 ||| (List.drop 0 (List.take 4 v)).getD 1 0) * 256 ||| (List.drop 0 (List.take 4 v)).getD 2 0) * 256 ||| (List.drop 0 (List.take 4 v)).getD 3 0)))], blks := [], next := 0 }) (ob := [(!okK k p (↑m : Int)) = false, (v.length != 12) = false, 0 ≤ 4, 4 ≤ v.length, Decidable.decide (0 < (List.drop 0 (List.take 4 v)).length) = true, 0 < (List.drop 0 (List.take 4 v)).length, Decidable.decide (1 < (List.drop 0 (List.take 4 v)).length) = true, 1 < (List.drop 0 (List.take 4 v)).length, (0 ||| (List.drop 0 (List.take 4 v)).getD 0 0) * 256 < 9223372036854775808, Decidable.decide (2 < (List.drop 0 (List.take 4 v)).length) = true, 2 < (List.drop 0 (List.take 4 v)).length, ((0 ||| (List.drop 0 (List.take 4 v)).getD 0 0) * 256 ||| (List.drop 0 (List.take 4 v)).getD 1 0) * 256 < 9223372036854775808, Decidable.decide (3 < (List.drop 0 (List.take 4 v)).length) = true, 3 < (List.drop 0 (List.take 4 v)).length, (((0 ||| (List.drop 0 (List.take 4 v)).getD 0 0) * 256 ||| (List.drop 0 (List.take 4 v)).getD 1 0) * 256 ||| (List.drop 0 (List.take 4 v)).getD 2 0) * 256 < 9223372036854775808, Decidable.decide (4 < (List.drop 0 (List.take 4 v)).length) = false]) (sc' := []) (by kernel_rfl) (by
        repeat' first | exact trivial | exact bne_eq_false_iff_eq.mpr hl | exact decide_eq_true (by omega) | exact decide_eq_false (by omega) | omega | (rw [ho]; rfl) | (rw [t0 0 (by omega), t0 1 (by omega), t0 2 (by omega), Nat.zero_or, o1, o2]; omega) | (rw [t0 0 (by omega), t0 1 (by omega), Nat.zero_or, o1]; omega) | (rw [t0 0 (by omega), Nat.zero_or]; omega) | refine ⟨?_, ?_⟩) ?_
      rw [t0 0 (by omega), t0 1 (by omega), t0 2 (by omega), t0 3 (by omega), Nat.zero_or, o1, o2, o3]
      exact (ck1 hg hh k p v m (be4 v) hk hp (by omega) rfl).cast rfl
    · rw [if_pos hl]
      exact hold_endw mixed (okV2a hg hh) (unroll := true) (f := 100) (sc := [false, true]) (r := (SV.c .i64 (4 : Int))) (ob := [(!okK k p (↑m : Int)) = false, (v.length != 12) = true]) (sc' := []) (by kernel_rfl) ⟨by rw [ho]; rfl, bne_iff_ne.mpr hl, trivial⟩ (by simp [wkR, wk, wk0, wka, lim])
theorem qck1 (k p v : List Nat) (m t : Nat) (hk : k.length = 16) (hp : p.length ≤ 7) (hm : m ≤ 1073741824) (hr : res = .u .i64 (ckT g k p v (m : Int) t)) : Hold Try.prog (bodyOf Try.f33) (Fin Try.prog Try.f33 w0 S res) w0 S [.at [1,0,1,1,1,1,1], .at [1,1,1,1,1,1]] (sQk k p v m t) := by
  unfold ckT at hr
  by_cases h1 : 1073741824 < t
  · rw [hr, if_pos h1]
    exact hold_endw mixed (okV2a hg hh) (unroll := true) (f := 100) (sc := [true]) (r := (SV.c .i64 (4 : Int))) (ob := [Decidable.decide (1073741824 < t) = true]) (sc' := []) (by kernel_rfl) ⟨decide_eq_true h1, trivial⟩ (by simp [wkR, wk, wk0, wka, lim])
  · rw [if_neg h1] at hr
    obtain ⟨e1, e2⟩ := mkV_ok (g := g) hk hp (show t ≤ 1073741824 by omega)
    by_cases h2 : mkL g k p t = v
    · rw [if_neg (by simp [h2])] at hr
      by_cases h3 : m < t
      · rw [hr, if_pos (by omega)]
        exact hold_endw mixed (okV2a hg hh) (unroll := true) (f := 100) (sc := [false, false, true]) (r := (SV.c .i64 (39 : Int))) (ob := [Decidable.decide (1073741824 < t) = false, (!Decidable.decide (mkV g k p (↑t : Int) = v)) = false, Decidable.decide (m < t) = true]) (sc' := []) (by kernel_rfl) ⟨decide_eq_false h1, by rw [e1, h2]; simp, decide_eq_true h3, trivial⟩ (by simp [wkR, wk, wk0, wka, lim])
      · by_cases h4 : 16 < (m : Int) - (t : Int)
        · rw [hr, if_pos (by omega)]
          exact hold_endw mixed (okV2a hg hh) (unroll := true) (f := 100) (sc := [false, false, false, true]) (r := (SV.c .i64 (39 : Int))) (ob := [Decidable.decide (1073741824 < t) = false, (!Decidable.decide (mkV g k p (↑t : Int) = v)) = false, Decidable.decide (m < t) = false, Decidable.decide ((16 : Int) < (↑m : Int) - (↑t : Int)) = true]) (sc' := []) (by kernel_rfl) ⟨decide_eq_false h1, by rw [e1, h2]; simp, decide_eq_false h3, decide_eq_true h4, trivial⟩ (by simp [wkR, wk, wk0, wka, lim])
        · rw [hr, if_neg (by omega)]
          exact hold_endw mixed (okV2a hg hh) (unroll := true) (f := 100) (sc := [false, false, false, false]) (r := (SV.c .i64 (0 : Int))) (ob := [Decidable.decide (1073741824 < t) = false, (!Decidable.decide (mkV g k p (↑t : Int) = v)) = false, Decidable.decide (m < t) = false, Decidable.decide ((16 : Int) < (↑m : Int) - (↑t : Int)) = false]) (sc' := []) (by kernel_rfl) ⟨decide_eq_false h1, by rw [e1, h2]; simp, decide_eq_false h3, decide_eq_false h4, trivial⟩ (by simp [wkR, wk, wk0, wka, lim])
    · rw [hr, if_pos h2]
      exact hold_endw mixed (okV2a hg hh) (unroll := true) (f := 100) (sc := [false, true]) (r := (SV.c .i64 (11 : Int))) (ob := [Decidable.decide (1073741824 < t) = false, (!Decidable.decide (mkV g k p (↑t : Int) = v)) = true]) (sc' := []) (by kernel_rfl) ⟨decide_eq_false h1, by rw [e1]; simp [h2], trivial⟩ (by simp [wkR, wk, wk0, wka, lim])
theorem qcheck_c (k p v : List Nat) (n : Int) : Contract Try.prog 33 [.sl .u8 k, .sl .u8 p, .sl .u8 v, .i .i64 n] (.u .i64 (ckE g k p v n)) := by
  cases ho : okK k p n with
  | false =>
    unfold ckE; rw [if_pos ho]
    refine contract Try.func33 (body := bodyOf Try.f33) rfl (by kernel_rfl) (by kernel_rfl) rfl ?_
    intro _ w0 S
    exact hold_endw mixed (okV2a hg hh) (unroll := true) (f := 100) (sc := [true]) (r := (SV.c .i64 (1 : Int))) (ob := [(!okK k p n) = true]) (sc' := []) (by kernel_rfl) ⟨by rw [ho]; rfl, trivial⟩ (by simp [wkR, wk, wk0, wka, lim])
  | true =>
    obtain ⟨hk, hp, h0, h1⟩ := okK_n ho
    obtain ⟨m, rfl⟩ : ∃ m : Nat, n = (m : Int) := ⟨n.toNat, by omega⟩
    unfold ckE; rw [if_neg (by rw [ho]; decide)]
    refine Contract.args (args' := [.sl .u8 k, .sl .u8 p, .sl .u8 v, .u .i64 m]) ⟨wk_refl _, wk_refl _, wk_refl _, by simp [wk, wk0, lim]; omega, rfl⟩ ?_
    refine contract Try.func33 (body := bodyOf Try.f33) rfl (by kernel_rfl) (by kernel_rfl) rfl ?_
    rintro ⟨_, _, ⟨_, hv⟩, _⟩ w0 S
    have hv : ∀ x ∈ v, x < 256 := hv
    by_cases hl : v.length = 12
    · rw [if_neg (by omega)]
      have g0 := getD_lt (by decide) hv 0
      have g1 := getD_lt (by decide) hv 1
      have g2 := getD_lt (by decide) hv 2
      have g3 := getD_lt (by decide) hv 3
      refine hold_cut mixed (okV2a hg hh) (unroll := true) (f := 300) (sc := [false, false]) (ks := [0,1,2,3,9,34]) (bs := []) (nx := 0) (st' := [It.at [1, 0, 1, 1, 1, 1, 1], It.at [1, 1, 1, 1, 1, 1]]) (σ' := { nt := 55, slots := [(0, SV.sl .u8 k), (1, SV.sl .u8 p), (2, SV.sl .u8 v), (3, SV.u .i64 m), (9, SV.u .i64 ((((0 + v.getD 0 0) * 256 + v.getD 1 0) * 256 + v.getD 2 0) * 256 + v.getD 3 0)), (34, SV.b (Decidable.decide (1073741824 < (((0 + v.getD 0 0) * 256 + v.getD 1 0) * 256 + v.getD 2 0) * 256 + v.getD 3 0)))], blks := [], next := 0 }) (ob := [(!okK k p (↑m : Int)) = false, (v.length != 12) = false, 0 < v.length, 0 + v.getD 0 0 < 9223372036854775808, (0 + v.getD 0 0) * 256 < 9223372036854775808, 1 < v.length, (0 + v.getD 0 0) * 256 + v.getD 1 0 < 9223372036854775808, ((0 + v.getD 0 0) * 256 + v.getD 1 0) * 256 < 9223372036854775808, 2 < v.length, ((0 + v.getD 0 0) * 256 + v.getD 1 0) * 256 + v.getD 2 0 < 9223372036854775808, (((0 + v.getD 0 0) * 256 + v.getD 1 0) * 256 + v.getD 2 0) * 256 < 9223372036854775808, 3 < v.length, (((0 + v.getD 0 0) * 256 + v.getD 1 0) * 256 + v.getD 2 0) * 256 + v.getD 3 0 < 9223372036854775808]) (sc' := []) (by kernel_rfl) (by
        repeat' first | exact trivial | exact bne_eq_false_iff_eq.mpr hl | exact decide_eq_true (by omega) | exact decide_eq_false (by omega) | omega | (rw [ho]; rfl) | refine ⟨?_, ?_⟩) ?_
      rw [Nat.zero_add]
      exact (qck1 hg hh k p v m (be4 v) hk hp (by omega) rfl).cast rfl
    · rw [if_pos hl]
      exact hold_endw mixed (okV2a hg hh) (unroll := true) (f := 100) (sc := [false, true]) (r := (SV.c .i64 (4 : Int))) (ob := [(!okK k p (↑m : Int)) = false, (v.length != 12) = true]) (sc' := []) (by kernel_rfl) ⟨by rw [ho]; rfl, bne_iff_ne.mpr hl, trivial⟩ (by simp [wkR, wk, wk0, wka, lim])
end
theorem eCheck_ok {P : Program} {f : FuncId} {g : List Nat → List Nat} (h : ∀ (k p v : List Nat) (n : Int), Contract P f [.sl .u8 k, .sl .u8 p, .sl .u8 v, .i .i64 n] (.u .i64 (ckE g k p v n))) : ∀ args res ob, eCheck g args = some (res, ob) → All ob → Contract P f args res := by
  intro args res ob he _
  unfold eCheck at he
  split at he
  · split at he
    · rename_i hx hy hz hu
      cases he
      exact Contract.argsF (h _ _ _ _) ⟨wk_of0 (part_wk hx), wk_of0 (part_wk hy), wk_of0 (part_wk hz), int?_wk hu, rfl⟩
    · cases he
  · cases he
end Go.Eng.B

namespace Go.Eng.B
open Go Go.Eng Go.Proofs
set_option maxRecDepth 100000
set_option maxHeartbeats 1000000
def adE (g : List Nat → List Nat) (sz tp : Int) (bt : Nat) (ls : Bool) (n : Int) (k p : List Nat) (o : List El) (now : Int) : Nat :=
  if ls = false then 15 else if rigW sz tp bt n = false then 1 else if getK o 252 = false then 39 else ckE g k p (getV o 252) now
def eAd (g : List Nat → List Nat) (args : List SV) : Option (SV × List Prop) := match args with
  | [w, x, y, z, m, u] => match win? w, x.int?, part? y, part? z, msg? m, u.int? with
    | some (sz, tp, bt, ls), some (.i64, n), some k, some p, some (_, _, _, _, o, _), some (.i64, now) => some (.tup [resW (adE g sz tp bt ls n k p o now) sz n, .u .i64 (adE g sz tp bt ls n k p o now)], [okO o])
    | _, _, _, _, _, _ => none
  | _ => none
noncomputable def Y8a (g h : List Nat → List Nat) : Ctr := addC 28 eVaP (addC 31 eVaR (addC 29 eGe (addC 32 eGe (addC 19 (eCheck g) (addC 33 (eCheck g) (addC 30 eRec (addC 34 eRec (V2a g h))))))))
theorem ckT_self {g : List Nat → List Nat} (k p : List Nat) (n : Int) (t : Nat) (ht : t ≤ 1073741824) : ckT g k p (mkL g k p t) n t = if n < (t : Int) ∨ 16 < n - (t : Int) then 39 else 0 := by
  unfold ckT; rw [if_neg (by omega), if_neg (by simp)]
theorem be4_mkL {g : List Nat → List Nat} (k p : List Nat) (t : Nat) (ht : t ≤ 1073741824) : be4 (mkL g k p t) = t := by
  unfold be4 mkL fourL
  show ((t / 16777216 % 256 * 256 + t / 65536 % 256) * 256 + t / 256 % 256) * 256 + t % 256 = t
  omega
theorem mkL_len {g : List Nat → List Nat} (hl : ∀ b, (g b).length = 32) (k p : List Nat) (t : Nat) : (mkL g k p t).length = 12 := by
  unfold mkL; simp [fourL_len, hm_len hl]
theorem ckE_self {g : List Nat → List Nat} (hl : ∀ b, (g b).length = 32) (k p : List Nat) (n : Int) (t : Nat) (ht : t ≤ 1073741824) (ho : okK k p n = true) : ckE g k p (mkL g k p t) n = if n < (t : Int) ∨ 16 < n - (t : Int) then 39 else 0 := by
  unfold ckE
  rw [if_neg (by rw [ho]; decide), if_neg (by rw [mkL_len hl]; decide), be4_mkL k p t ht, ckT_self k p n t ht]
theorem aw_e {g : List Nat → List Nat} (hl : ∀ b, (g b).length = 32) {k : List Nat} (hk : k.length = 16) : (mkV g k [] 10).length = 12 ∧ ckE g k [] (mkV g k [] 10) 26 = 0 ∧ ckE g k [] (mkV g k [] 10) 27 = 39 ∧ ckE g k [] (mkV g k [] 10) 9 = 39 := by
  have ho : okK k [] 10 = true ∧ okK k [] 26 = true ∧ okK k [] 27 = true ∧ okK k [] 9 = true := by simp [okK, hk]
  have e0 : mkV g k [] 10 = mkL g k [] 10 := by unfold mkV; rw [if_pos ho.1]; rfl
  rw [e0]
  refine ⟨mkL_len hl _ _ _, ?_, ?_, ?_⟩
  · rw [ckE_self hl k [] 26 10 (by decide) ho.2.1]; rfl
  · rw [ckE_self hl k [] 27 10 (by decide) ho.2.2.1]; rfl
  · rw [ckE_self hl k [] 9 10 (by decide) ho.2.2.2]; rfl
section
variable {g h : List Nat → List Nat} (hg : g = sum32) (hh : h = sum64) {w1 : World} {S : Own} {res : SV}
include hg hh
theorem okY8a : CtrOk Try.prog (Y8a g h) := addC_ok (addC_ok (addC_ok (addC_ok (addC_ok (addC_ok (addC_ok (addC_ok (okV2a hg hh) qrec_ok) prec_ok) (eCheck_ok (qcheck_c hg hh))) (eCheck_ok (check_c hg hh))) qge_ok) ge_ok) vaR_ok) vaP_ok
theorem pad_c (sz tp n now ty cd id : Int) (bt : Nat) (ls : Bool) (k p tk py : List Nat) (o : List El) (ho : okO o) : Contract Try.prog 15 [win sz tp bt ls, .i .i64 n, .sl .u8 k, .sl .u8 p, msg ty cd id tk o py, .i .i64 now] (.tup [resW (adE g sz tp bt ls n k p o now) sz n, .u .i64 (adE g sz tp bt ls n k p o now)]) := by
  refine contract Try.func15 (body := bodyOf Try.f15) rfl (by kernel_rfl) (by kernel_rfl) rfl ?_
  intro _ w0 S
  cases ls with
  | false =>
    have e : adE g sz tp bt false n k p o now = 15 := by simp [adE]
    rw [e]
    exact hold_endw mixed (okY8a hg hh) (unroll := true) (f := 200) (sc := []) (r := (SV.tup [SV.ag [SV.c .i64 (0 : Int), SV.c .i64 (0 : Int), SV.c .u64 (0 : Int), SV.cb false], SV.c .i64 (15 : Int)])) (ob := []) (sc' := []) (by kernel_rfl) (by repeat' first | exact trivial | refine ⟨?_, ?_⟩) (by simp [wkR, wk, wk0, wkl, wka, resW, ifZ, ifN, lim])
  | true =>
    cases hr : rigW sz tp bt n with
    | false =>
      have e : adE g sz tp bt true n k p o now = 1 := by simp [adE, hr]
      rw [e]
      by_cases h0 : valW sz tp bt true = true
      · by_cases h1 : n < 0
        · exact hold_endw mixed (okY8a hg hh) (unroll := true) (f := 200) (sc := [false, true]) (r := (SV.tup [SV.ag [SV.c .i64 (0 : Int), SV.c .i64 (0 : Int), SV.c .u64 (0 : Int), SV.cb false], SV.c .i64 (1 : Int)])) (ob := [(!valW sz tp bt true) = false, Decidable.decide (n < (0 : Int)) = true]) (sc' := []) (by kernel_rfl) ⟨by rw [h0]; rfl, decide_eq_true h1, trivial⟩ (by simp [wkR, wk, wk0, wkl, wka, resW, ifZ, ifN, lim])
        · have h2 : 1099511627775 < n := by simp [rigW, h0] at hr; omega
          exact hold_endw mixed (okY8a hg hh) (unroll := true) (f := 200) (sc := [false, false, true]) (r := (SV.tup [SV.ag [SV.c .i64 (0 : Int), SV.c .i64 (0 : Int), SV.c .u64 (0 : Int), SV.cb false], SV.c .i64 (1 : Int)])) (ob := [(!valW sz tp bt true) = false, Decidable.decide (n < (0 : Int)) = false, Decidable.decide ((1099511627775 : Int) < n) = true]) (sc' := []) (by kernel_rfl) ⟨by rw [h0]; rfl, decide_eq_false h1, decide_eq_true h2, trivial⟩ (by simp [wkR, wk, wk0, wkl, wka, resW, ifZ, ifN, lim])
      · have h0' : valW sz tp bt true = false := by simpa using h0
        exact hold_endw mixed (okY8a hg hh) (unroll := true) (f := 200) (sc := [true]) (r := (SV.tup [SV.ag [SV.c .i64 (0 : Int), SV.c .i64 (0 : Int), SV.c .u64 (0 : Int), SV.cb false], SV.c .i64 (1 : Int)])) (ob := [(!valW sz tp bt true) = true]) (sc' := []) (by kernel_rfl) ⟨by rw [h0']; rfl, trivial⟩ (by simp [wkR, wk, wk0, wkl, wka, resW, ifZ, ifN, lim])
    | true =>
      have h0 : valW sz tp bt true = true := by simp only [rigW, Bool.and_eq_true] at hr; exact hr.1
      have hi := rig_in hr
      have hre : reE sz tp bt n = 0 := by simp [reE, hr]
      cases hk : getK o 252 with
      | false =>
        have e : adE g sz tp bt true n k p o now = 39 := by simp [adE, hr, hk]
        rw [e]
        exact hold_endw mixed (okY8a hg hh) (unroll := true) (f := 200) (sc := [false, false, false, true]) (r := (SV.tup [SV.ag [SV.c .i64 (0 : Int), SV.c .i64 (0 : Int), SV.c .u64 (0 : Int), SV.cb false], SV.c .i64 (39 : Int)])) (ob := [(!valW sz tp bt true) = false, Decidable.decide (n < (0 : Int)) = false, Decidable.decide ((1099511627775 : Int) < n) = false, okO o, (!getK o (252 : Int)) = true]) (sc' := []) (by kernel_rfl) (by repeat' first | exact trivial | exact ho | (rw [h0]; rfl) | (rw [hk]; rfl) | exact decide_eq_false (by omega) | refine ⟨?_, ?_⟩) (by simp [wkR, wk, wk0, wkl, wka, resW, ifZ, ifN, lim])
      | true =>
        have e : adE g sz tp bt true n k p o now = ckE g k p (getV o 252) now := by simp [adE, hr, hk]
        rw [e]
        by_cases hc : ckE g k p (getV o 252) now = 0
        · refine hold_endw mixed (okY8a hg hh) (unroll := true) (f := 200) (sc := [false, false, false, false, false]) (r := (SV.tup [SV.ag [SV.i .i64 (ifZ (reE sz tp bt n) sz), SV.i .i64 (ifZ (reE sz tp bt n) n), SV.u .u64 (ifN (reE sz tp bt n) (mskN (Min.min (n + (1 : Int)) sz))), SV.cb false], SV.u .i64 (reE sz tp bt n)])) (ob := [(!valW sz tp bt true) = false, Decidable.decide (n < (0 : Int)) = false, Decidable.decide ((1099511627775 : Int) < n) = false, okO o, (!getK o (252 : Int)) = false, (ckE g k p (getV o (252 : Int)) now != 0) = false]) (sc' := []) (by kernel_rfl) (by repeat' first | exact trivial | exact ho | (rw [h0]; rfl) | (rw [hk]; rfl) | exact decide_eq_false (by omega) | (simp [hc]; done) | refine ⟨?_, ?_⟩) ?_
          rw [hre, hc]
          exact wkR_refl _
        · refine hold_endw mixed (okY8a hg hh) (unroll := true) (f := 200) (sc := [false, false, false, false, true]) (r := (SV.tup [SV.ag [SV.c .i64 (0 : Int), SV.c .i64 (0 : Int), SV.c .u64 (0 : Int), SV.cb false], SV.u .i64 (ckE g k p (getV o (252 : Int)) now)])) (ob := [(!valW sz tp bt true) = false, Decidable.decide (n < (0 : Int)) = false, Decidable.decide ((1099511627775 : Int) < n) = false, okO o, (!getK o (252 : Int)) = false, (ckE g k p (getV o (252 : Int)) now != 0) = true]) (sc' := []) (by kernel_rfl) (by repeat' first | exact trivial | exact ho | (rw [h0]; rfl) | (rw [hk]; rfl) | exact decide_eq_false (by omega) | (simp [hc]; done) | refine ⟨?_, ?_⟩) ?_
          simp [wkR, wk, wk0, wkl, wka, resW, ifZ, ifN, lim, hc]
theorem pad_ok : ∀ args res ob, eAd g args = some (res, ob) → All ob → Contract Try.prog 15 args res := by
  intro args res ob he hob
  unfold eAd at he
  split at he
  · split at he
    · rename_i sz tp bt ls n k p x1 x2 x3 x4 o x5 now h1 h2 h3 h4 h5 h6
      cases he
      refine Contract.argsRF (pad_c hg hh sz tp n now x1 x2 x3 bt ls k p x4 x5 o hob.1) ?_
      rintro β ow w vs ⟨v1, t1, rfl, r1, v2, t2, rfl, r2, v3, t3, rfl, r3, v4, t4, rfl, r4, v5, t5, rfl, r5, v6, t6, rfl, r6, rfl⟩
      exact ⟨_, _, rfl, win_wk h1 r1, _, _, rfl, wk_ok1 (int?_wk h2) r2, _, _, rfl, wk_ok1 (wk_of0 (part_wk h3)) r3, _, _, rfl, wk_ok1 (wk_of0 (part_wk h4)) r4, _, _, rfl, wk_ok1 (msg_wk h5) r5, _, _, rfl, wk_ok1 (int?_wk h6) r6, rfl⟩
    · cases he
  · cases he
theorem qad_c (sz tp n now ty cd id : Int) (bt : Nat) (ls : Bool) (k p tk py : List Nat) (o : List El) (ho : okO o) : Contract Try.prog 16 [win sz tp bt ls, .i .i64 n, .sl .u8 k, .sl .u8 p, msg ty cd id tk o py, .i .i64 now] (.tup [resW (adE g sz tp bt ls n k p o now) sz n, .u .i64 (adE g sz tp bt ls n k p o now)]) := by
  refine contract Try.func16 (body := bodyOf Try.f16) rfl (by kernel_rfl) (by kernel_rfl) rfl ?_
  intro _ w0 S
  cases ls with
  | false =>
    have e : adE g sz tp bt false n k p o now = 15 := by simp [adE]
    rw [e]
    exact hold_endw mixed (okY8a hg hh) (unroll := true) (f := 200) (sc := []) (r := (SV.tup [SV.ag [SV.c .i64 (0 : Int), SV.c .i64 (0 : Int), SV.c .u64 (0 : Int), SV.cb false], SV.c .i64 (15 : Int)])) (ob := []) (sc' := []) (by kernel_rfl) (by repeat' first | exact trivial | refine ⟨?_, ?_⟩) (by simp [wkR, wk, wk0, wkl, wka, resW, ifZ, ifN, lim])
  | true =>
    cases hr : rigW sz tp bt n with
    | false =>
      have e : adE g sz tp bt true n k p o now = 1 := by simp [adE, hr]
      rw [e]
      by_cases h0 : valW sz tp bt true = true
      · by_cases h1 : n < 0
        · exact hold_endw mixed (okY8a hg hh) (unroll := true) (f := 200) (sc := [false, true]) (r := (SV.tup [SV.ag [SV.c .i64 (0 : Int), SV.c .i64 (0 : Int), SV.c .u64 (0 : Int), SV.cb false], SV.c .i64 (1 : Int)])) (ob := [(!valW sz tp bt true) = false, Decidable.decide (n < (0 : Int)) = true]) (sc' := []) (by kernel_rfl) ⟨by rw [h0]; rfl, decide_eq_true h1, trivial⟩ (by simp [wkR, wk, wk0, wkl, wka, resW, ifZ, ifN, lim])
        · have h2 : 1099511627775 < n := by simp [rigW, h0] at hr; omega
          exact hold_endw mixed (okY8a hg hh) (unroll := true) (f := 200) (sc := [false, false, true]) (r := (SV.tup [SV.ag [SV.c .i64 (0 : Int), SV.c .i64 (0 : Int), SV.c .u64 (0 : Int), SV.cb false], SV.c .i64 (1 : Int)])) (ob := [(!valW sz tp bt true) = false, Decidable.decide (n < (0 : Int)) = false, Decidable.decide ((1099511627775 : Int) < n) = true]) (sc' := []) (by kernel_rfl) ⟨by rw [h0]; rfl, decide_eq_false h1, decide_eq_true h2, trivial⟩ (by simp [wkR, wk, wk0, wkl, wka, resW, ifZ, ifN, lim])
      · have h0' : valW sz tp bt true = false := by simpa using h0
        exact hold_endw mixed (okY8a hg hh) (unroll := true) (f := 200) (sc := [true]) (r := (SV.tup [SV.ag [SV.c .i64 (0 : Int), SV.c .i64 (0 : Int), SV.c .u64 (0 : Int), SV.cb false], SV.c .i64 (1 : Int)])) (ob := [(!valW sz tp bt true) = true]) (sc' := []) (by kernel_rfl) ⟨by rw [h0']; rfl, trivial⟩ (by simp [wkR, wk, wk0, wkl, wka, resW, ifZ, ifN, lim])
    | true =>
      have h0 : valW sz tp bt true = true := by simp only [rigW, Bool.and_eq_true] at hr; exact hr.1
      have hi := rig_in hr
      have hre : reE sz tp bt n = 0 := by simp [reE, hr]
      cases hk : getK o 252 with
      | false =>
        have e : adE g sz tp bt true n k p o now = 39 := by simp [adE, hr, hk]
        rw [e]
        exact hold_endw mixed (okY8a hg hh) (unroll := true) (f := 200) (sc := [false, false, false, true]) (r := (SV.tup [SV.ag [SV.c .i64 (0 : Int), SV.c .i64 (0 : Int), SV.c .u64 (0 : Int), SV.cb false], SV.c .i64 (39 : Int)])) (ob := [(!valW sz tp bt true) = false, Decidable.decide (n < (0 : Int)) = false, Decidable.decide ((1099511627775 : Int) < n) = false, okO o, (!getK o (252 : Int)) = true]) (sc' := []) (by kernel_rfl) (by repeat' first | exact trivial | exact ho | (rw [h0]; rfl) | (rw [hk]; rfl) | exact decide_eq_false (by omega) | refine ⟨?_, ?_⟩) (by simp [wkR, wk, wk0, wkl, wka, resW, ifZ, ifN, lim])
      | true =>
        have e : adE g sz tp bt true n k p o now = ckE g k p (getV o 252) now := by simp [adE, hr, hk]
        rw [e]
        by_cases hc : ckE g k p (getV o 252) now = 0
        · refine hold_endw mixed (okY8a hg hh) (unroll := true) (f := 200) (sc := [false, false, false, false, false]) (r := (SV.tup [SV.ag [SV.i .i64 (ifZ (reE sz tp bt n) sz), SV.i .i64 (ifZ (reE sz tp bt n) n), SV.u .u64 (ifN (reE sz tp bt n) (mskN (Min.min (n + (1 : Int)) sz))), SV.cb false], SV.u .i64 (reE sz tp bt n)])) (ob := [(!valW sz tp bt true) = false, Decidable.decide (n < (0 : Int)) = false, Decidable.decide ((1099511627775 : Int) < n) = false, okO o, (!getK o (252 : Int)) = false, (ckE g k p (getV o (252 : Int)) now != 0) = false]) (sc' := []) (by kernel_rfl) (by repeat' first | exact trivial | exact ho | (rw [h0]; rfl) | (rw [hk]; rfl) | exact decide_eq_false (by omega) | (simp [hc]; done) | refine ⟨?_, ?_⟩) ?_
          rw [hre, hc]
          exact wkR_refl _
        · refine hold_endw mixed (okY8a hg hh) (unroll := true) (f := 200) (sc := [false, false, false, false, true]) (r := (SV.tup [SV.ag [SV.c .i64 (0 : Int), SV.c .i64 (0 : Int), SV.c .u64 (0 : Int), SV.cb false], SV.u .i64 (ckE g k p (getV o (252 : Int)) now)])) (ob := [(!valW sz tp bt true) = false, Decidable.decide (n < (0 : Int)) = false, Decidable.decide ((1099511627775 : Int) < n) = false, okO o, (!getK o (252 : Int)) = false, (ckE g k p (getV o (252 : Int)) now != 0) = true]) (sc' := []) (by kernel_rfl) (by repeat' first | exact trivial | exact ho | (rw [h0]; rfl) | (rw [hk]; rfl) | exact decide_eq_false (by omega) | (simp [hc]; done) | refine ⟨?_, ?_⟩) ?_
          simp [wkR, wk, wk0, wkl, wka, resW, ifZ, ifN, lim, hc]
theorem qad_ok : ∀ args res ob, eAd g args = some (res, ob) → All ob → Contract Try.prog 16 args res := by
  intro args res ob he hob
  unfold eAd at he
  split at he
  · split at he
    · rename_i sz tp bt ls n k p x1 x2 x3 x4 o x5 now h1 h2 h3 h4 h5 h6
      cases he
      refine Contract.argsRF (qad_c hg hh sz tp n now x1 x2 x3 bt ls k p x4 x5 o hob.1) ?_
      rintro β ow w vs ⟨v1, t1, rfl, r1, v2, t2, rfl, r2, v3, t3, rfl, r3, v4, t4, rfl, r4, v5, t5, rfl, r5, v6, t6, rfl, r6, rfl⟩
      exact ⟨_, _, rfl, win_wk h1 r1, _, _, rfl, wk_ok1 (int?_wk h2) r2, _, _, rfl, wk_ok1 (wk_of0 (part_wk h3)) r3, _, _, rfl, wk_ok1 (wk_of0 (part_wk h4)) r4, _, _, rfl, wk_ok1 (msg_wk h5) r5, _, _, rfl, wk_ok1 (int?_wk h6) r6, rfl⟩
    · cases he
  · cases he
noncomputable def V3a (g h : List Nat → List Nat) : Ctr := addC 19 (eCheck g) (V2a g h)
theorem okV3a : CtrOk Try.prog (V3a g h) := addC_ok (okV2a hg hh) (eCheck_ok (check_c hg hh))
theorem awake38_c : Contract Try.prog 5 [] (.b true) := by
  have hl : ∀ b, (g b).length = 32 := by rw [hg]; exact sum32_len
  refine contract Try.func5 (body := bodyOf Try.f5) rfl (by kernel_rfl) (by kernel_rfl) rfl ?_
  intro _ w0 S
  obtain ⟨e1, e2, e3, e4⟩ := aw_e hl (k := [0, 0, 0, 0, 0, 0, 0, 0, 0, 0, 0, 0, 0, 0, 0, 0]) rfl
  refine hold_endw mixed (okV3a hg hh) (unroll := true) (f := 100) (sc := [true, true, true, true]) (r := (SV.b (ckE g [0, 0, 0, 0, 0, 0, 0, 0, 0, 0, 0, 0, 0, 0, 0, 0] [] (mkV g [0, 0, 0, 0, 0, 0, 0, 0, 0, 0, 0, 0, 0, 0, 0, 0] [] (10 : Int)) (9 : Int) == 39))) (ob := [true = true, ((mkV g [0, 0, 0, 0, 0, 0, 0, 0, 0, 0, 0, 0, 0, 0, 0, 0] [] (10 : Int)).length == 12) = true, (ckE g [0, 0, 0, 0, 0, 0, 0, 0, 0, 0, 0, 0, 0, 0, 0, 0] [] (mkV g [0, 0, 0, 0, 0, 0, 0, 0, 0, 0, 0, 0, 0, 0, 0, 0] [] (10 : Int)) (26 : Int) == 0) = true, (ckE g [0, 0, 0, 0, 0, 0, 0, 0, 0, 0, 0, 0, 0, 0, 0, 0] [] (mkV g [0, 0, 0, 0, 0, 0, 0, 0, 0, 0, 0, 0, 0, 0, 0, 0] [] (10 : Int)) (27 : Int) == 39) = true]) (sc' := []) (by kernel_rfl) ⟨rfl, beq_iff_eq.mpr e1, beq_iff_eq.mpr e2, beq_iff_eq.mpr e3, trivial⟩ ?_
  rw [e4]
  exact wkR_of rfl
end
end Go.Eng.B

namespace Go.Eng.B
open Go Go.Eng Go.Proofs
set_option maxRecDepth 100000
set_option maxHeartbeats 1000000
def rqTy (l : List Int) (a : Nat) : Int := (nextV l a 2 : Nat)
def rqCd (l : List Int) (a : Nat) : Int := (1 + nextV l (nextA l a) 7 : Nat)
def rqId (l : List Int) (a : Nat) : Int := (nextV l (nextA l (nextA l a)) 65536 : Nat)
def rqR (l : List Int) (a : Nat) : MRes := ⟨msg (rqTy l a) (rqCd l a) (rqId l a) (rqT l a) (rqO l a) (rqP l a), [deckB l (rqA l a)], []⟩
def eRq (H : List Bk) (args : List SV) : Option (MRes × List Prop) :=
  match H, args with
  | [⟨ty0, [.sli l, b], false⟩], [.ptr 0 0 (.c 0)] => if ty0 = 55 then (match b.nat? with
    | some (.i64, a) => some (rqR l a, [])
    | _ => none) else none
  | _, _ => none
noncomputable def Y9a (g h : List Nat → List Nat) : Ctr := addC 4 eMsg (addC 5 eT (addC 7 eSome (addM 9 eBytes (addM 11 eRq (addC 12 eSe (addM 14 eWn (addC 13 eLos (addC 15 (eAd g) (addC 16 (eAd g) (V2a g h))))))))))
theorem rq_ok : ∀ H args r ob, eRq H args = some (r, ob) → All ob → ContractM Try.prog 11 H args r := by
  intro H args r ob he hob
  unfold eRq at he
  split at he
  · rename_i ty0 l b
    split at he
    · rename_i hty
      subst hty
      split at he
      · rename_i a ha
        cases he
        exact deck_hand ha (rq_x l a)
      · cases he
    · cases he
  · cases he
section
variable {g h : List Nat → List Nat} (hg : g = sum32) (hh : h = sum64)
include hg hh
theorem okY9a : CtrOk Try.prog (Y9a g h) := addC_ok (addC_ok (addC_ok (addM_ok (addM_ok (addC_ok (addM_ok (addC_ok (addC_ok (addC_ok (okV2a hg hh) (qad_ok hg hh)) (pad_ok hg hh)) los_ok) wn_ok) se_ok) rq_ok) bytes_ok) some_ok) (eT_ok (awake38_c hg hh))) msg_ok
end
end Go.Eng.B

