import Derived.Test.YthaabhoopofnhaaGreatE7
set_option linter.unusedVariables false
set_option linter.unusedSimpArgs false
set_option linter.unusedSectionVars false
namespace Go.Eng.B
open Go Go.Eng Go.Proofs
set_option maxRecDepth 100000
set_option maxHeartbeats 1000000
section
variable {F : Fr} {S : Own} {res : MRes}
theorem rk_6 (p : Nat) (s f a0 a1 a2 a3 a4 a5 a6 a7 a8 a9 a10 u0 u1 u2 u3 u4 v : List Nat) (hk : Hold Tryz.prog (bodyOf Tryz.f64) (FinM Tryz.prog Tryz.f64 F S res) F S stO (sO 7 (dbl p) (bCi s f a0 a1 a2 a3 a4 a5 a6 a7 a8 a9 a10) (b96 u0 u1 u2 u3 u4 v (nk s p v) z16 z16 z16 z16))) : ∀ d k, 16 - k = d → k ≤ 16 → Hold Tryz.prog (bodyOf Tryz.f64) (FinM Tryz.prog Tryz.f64 F S res) F S stK (sK 6 (dbl p) (bCi s f a0 a1 a2 a3 a4 a5 a6 a7 a8 a9 a10) (b96 u0 u1 u2 u3 u4 v (nkI s p v k).1 z16 z16 z16 z16) (nkI s p v k).2 k) := by
  intro d
  induction d using Nat.strongRecOn with
  | _ d ih =>
  intro k hd hi
  refine hold_unroll (c := _) rfl ?_
  by_cases hlt : k < 16
  · have e := ih (16 - (k + 1)) (by omega) (k + 1) rfl (by omega)
    rw [show nkI s p v (k + 1) = ((nkI s p v k).1.set k (((nkI s p v k).2.set (k % 4) ((nkI s p v k).2.getD (k % 4) 0 ^^^ v.getD k 0)).getD (k % 4) 0), (nkI s p v k).2.set (k % 4) ((nkI s p v k).2.getD (k % 4) 0 ^^^ v.getD k 0)) from rfl] at e
    generalize nkI s p v k = z at e ⊢
    obtain ⟨x, t⟩ := z
    refine hwC mixed okA1a 100 [true] [0, 4, 5, 6, 8, 59] [0, 1, 2] 3 [.lp [0, 1, 1, 1, 1, 0, 0, 1, 0, 0, 1, 0, 1, 1, 1], .blk 2, .blk 1, .at [1, 1, 0, 0, 1, 0, 1, 1, 1], .lp [0, 1, 0, 1, 1, 1], .blk 0, .at [1, 1, 1, 1]] ⟨84, [(0, .ptr 0 0 (.c 0)), (4, .ptr 1 0 (.c 0)), (5, .u .u8 (dbl p)), (6, .c .i64 6), (8, .ptr 2 0 (.c 0)), (59, .u .i64 (k + 1))], [(0, bCi s f a0 a1 a2 a3 a4 a5 a6 a7 a8 a9 a10), (1, b96 u0 u1 u2 u3 u4 v (x.set k ((t.set (k % 4) (t.getD (k % 4) 0 ^^^ v.getD k 0)).getD (k % 4) 0)) z16 z16 z16 z16), (2, ⟨118, [.arr .u8 4 (t.set (k % 4) (t.getD (k % 4) 0 ^^^ v.getD k 0))], false⟩)], 3, 1⟩ [Decidable.decide (k < 16) = true, k % 4 < 4, k % 4 < 4, k < 16, k < 16, k % 4 < 4, k % 4 < 4, k % 4 < 4, k % 4 < 4, k < 16, k < 16, k + 1 < 9223372036854775808] (by kernel_rfl) (by repeat' first | exact trivial | assumption | exact decide_eq_true (by omega) | exact decide_eq_false (by omega) | omega | refine ⟨?_, ?_⟩) ?_
    exact e
  · have e : k = 16 := by omega
    subst e
    rw [show nk s p v = (nkI s p v 16).1 from rfl] at hk
    generalize nkI s p v 16 = z at hk ⊢
    obtain ⟨x, t⟩ := z
    refine hwC mixed okA1a 100 [false] [0, 4, 5, 6] [0, 1] 2 [.lp [0, 1, 0, 1, 1, 1], .blk 0, .at [1, 1, 1, 1]] ⟨84, [(0, .ptr 0 0 (.c 0)), (4, .ptr 1 0 (.c 0)), (5, .u .u8 (dbl p)), (6, .c .i64 7)], [(0, bCi s f a0 a1 a2 a3 a4 a5 a6 a7 a8 a9 a10), (1, b96 u0 u1 u2 u3 u4 v x z16 z16 z16 z16)], 2, 1⟩ [false = false] (by kernel_rfl) (by repeat' first | exact trivial | assumption | exact decide_eq_true (by omega) | exact decide_eq_false (by omega) | omega | refine ⟨?_, ?_⟩) ?_
    exact hk
theorem r_6 (p : Nat) (s f a0 a1 a2 a3 a4 a5 a6 a7 a8 a9 a10 u0 u1 u2 u3 u4 v : List Nat) (hk : Hold Tryz.prog (bodyOf Tryz.f64) (FinM Tryz.prog Tryz.f64 F S res) F S stO (sO 7 (dbl p) (bCi s f a0 a1 a2 a3 a4 a5 a6 a7 a8 a9 a10) (b96 u0 u1 u2 u3 u4 v (nk s p v) z16 z16 z16 z16))) : Hold Tryz.prog (bodyOf Tryz.f64) (FinM Tryz.prog Tryz.f64 F S res) F S stO (sO 6 p (bCi s f a0 a1 a2 a3 a4 a5 a6 a7 a8 a9 a10) (b96 u0 u1 u2 u3 u4 v z16 z16 z16 z16 z16)) := by
  have h1 := rk_6 p s f a0 a1 a2 a3 a4 a5 a6 a7 a8 a9 a10 u0 u1 u2 u3 u4 v hk 16 0 rfl (by omega)
  refine hold_ltB (id := 1) (bk := b96 u0 u1 u2 u3 u4 v z16 z16 z16 z16 z16) (k := .u8) (n := 16) (l := v) (by simp [sO]) rfl (by simp [b96]) fun _ hv => ?_
  have g12 := getD_lt hv (by decide) 12
  have g13 := getD_lt hv (by decide) 13
  have g14 := getD_lt hv (by decide) 14
  have g15 := getD_lt hv (by decide) 15
  refine hold_unroll (c := _) rfl ?_
  refine hwC mixed okA1a 100 [] [0, 4, 5, 6, 8, 59] [0, 1, 2] 3 [.lp [0, 1, 1, 1, 1, 0, 0, 1, 0, 0, 1, 0, 1, 1, 1], .blk 2, .blk 1, .at [1, 1, 0, 0, 1, 0, 1, 1, 1], .lp [0, 1, 0, 1, 1, 1], .blk 0, .at [1, 1, 1, 1]] ⟨84, [(0, .ptr 0 0 (.c 0)), (4, .ptr 1 0 (.c 0)), (5, .u .u8 (dbl p)), (6, .c .i64 6), (8, .ptr 2 0 (.c 0)), (59, .c .i64 0)], [(0, bCi s f a0 a1 a2 a3 a4 a5 a6 a7 a8 a9 a10), (1, b96 u0 u1 u2 u3 u4 v z16 z16 z16 z16 z16), (2, ⟨118, [.arr .u8 4 [s.getD (v.getD 13 0) 0 ^^^ p, s.getD (v.getD 14 0) 0, s.getD (v.getD 15 0) 0, s.getD (v.getD 12 0) 0]], false⟩)], 3, 1⟩ [v.getD 13 0 < 256, v.getD 13 0 < 256, v.getD 14 0 < 256, v.getD 14 0 < 256, v.getD 15 0 < 256, v.getD 15 0 < 256, v.getD 12 0 < 256, v.getD 12 0 < 256] (by kernel_rfl) (by repeat' first | exact trivial | exact decide_eq_true (by omega) | exact g13 | exact g14 | exact g15 | exact g12 | omega | refine ⟨?_, ?_⟩) ?_
  exact Hold.weaken h1 (by simp [wks, wk, wk0, wkB, wka, wkl, sK, b96, b118, bCi, lim, nkI, nkT])
theorem rk_7 (p : Nat) (s f a0 a1 a2 a3 a4 a5 a6 a7 a8 a9 a10 u0 u1 u2 u3 u4 u5 v : List Nat) (hk : Hold Tryz.prog (bodyOf Tryz.f64) (FinM Tryz.prog Tryz.f64 F S res) F S stO (sO 8 (dbl p) (bCi s f a0 a1 a2 a3 a4 a5 a6 a7 a8 a9 a10) (b96 u0 u1 u2 u3 u4 u5 v (nk s p v) z16 z16 z16))) : ∀ d k, 16 - k = d → k ≤ 16 → Hold Tryz.prog (bodyOf Tryz.f64) (FinM Tryz.prog Tryz.f64 F S res) F S stK (sK 7 (dbl p) (bCi s f a0 a1 a2 a3 a4 a5 a6 a7 a8 a9 a10) (b96 u0 u1 u2 u3 u4 u5 v (nkI s p v k).1 z16 z16 z16) (nkI s p v k).2 k) := by
  intro d
  induction d using Nat.strongRecOn with
  | _ d ih =>
  intro k hd hi
  refine hold_unroll (c := _) rfl ?_
  by_cases hlt : k < 16
  · have e := ih (16 - (k + 1)) (by omega) (k + 1) rfl (by omega)
    rw [show nkI s p v (k + 1) = ((nkI s p v k).1.set k (((nkI s p v k).2.set (k % 4) ((nkI s p v k).2.getD (k % 4) 0 ^^^ v.getD k 0)).getD (k % 4) 0), (nkI s p v k).2.set (k % 4) ((nkI s p v k).2.getD (k % 4) 0 ^^^ v.getD k 0)) from rfl] at e
    generalize nkI s p v k = z at e ⊢
    obtain ⟨x, t⟩ := z
    refine hwC mixed okA1a 100 [true] [0, 4, 5, 6, 8, 59] [0, 1, 2] 3 [.lp [0, 1, 1, 1, 1, 0, 0, 1, 0, 0, 1, 0, 1, 1, 1], .blk 2, .blk 1, .at [1, 1, 0, 0, 1, 0, 1, 1, 1], .lp [0, 1, 0, 1, 1, 1], .blk 0, .at [1, 1, 1, 1]] ⟨84, [(0, .ptr 0 0 (.c 0)), (4, .ptr 1 0 (.c 0)), (5, .u .u8 (dbl p)), (6, .c .i64 7), (8, .ptr 2 0 (.c 0)), (59, .u .i64 (k + 1))], [(0, bCi s f a0 a1 a2 a3 a4 a5 a6 a7 a8 a9 a10), (1, b96 u0 u1 u2 u3 u4 u5 v (x.set k ((t.set (k % 4) (t.getD (k % 4) 0 ^^^ v.getD k 0)).getD (k % 4) 0)) z16 z16 z16), (2, ⟨118, [.arr .u8 4 (t.set (k % 4) (t.getD (k % 4) 0 ^^^ v.getD k 0))], false⟩)], 3, 1⟩ [Decidable.decide (k < 16) = true, k % 4 < 4, k % 4 < 4, k < 16, k < 16, k % 4 < 4, k % 4 < 4, k % 4 < 4, k % 4 < 4, k < 16, k < 16, k + 1 < 9223372036854775808] (by kernel_rfl) (by repeat' first | exact trivial | assumption | exact decide_eq_true (by omega) | exact decide_eq_false (by omega) | omega | refine ⟨?_, ?_⟩) ?_
    exact e
  · have e : k = 16 := by omega
    subst e
    rw [show nk s p v = (nkI s p v 16).1 from rfl] at hk
    generalize nkI s p v 16 = z at hk ⊢
    obtain ⟨x, t⟩ := z
    refine hwC mixed okA1a 100 [false] [0, 4, 5, 6] [0, 1] 2 [.lp [0, 1, 0, 1, 1, 1], .blk 0, .at [1, 1, 1, 1]] ⟨84, [(0, .ptr 0 0 (.c 0)), (4, .ptr 1 0 (.c 0)), (5, .u .u8 (dbl p)), (6, .c .i64 8)], [(0, bCi s f a0 a1 a2 a3 a4 a5 a6 a7 a8 a9 a10), (1, b96 u0 u1 u2 u3 u4 u5 v x z16 z16 z16)], 2, 1⟩ [false = false] (by kernel_rfl) (by repeat' first | exact trivial | assumption | exact decide_eq_true (by omega) | exact decide_eq_false (by omega) | omega | refine ⟨?_, ?_⟩) ?_
    exact hk
theorem r_7 (p : Nat) (s f a0 a1 a2 a3 a4 a5 a6 a7 a8 a9 a10 u0 u1 u2 u3 u4 u5 v : List Nat) (hk : Hold Tryz.prog (bodyOf Tryz.f64) (FinM Tryz.prog Tryz.f64 F S res) F S stO (sO 8 (dbl p) (bCi s f a0 a1 a2 a3 a4 a5 a6 a7 a8 a9 a10) (b96 u0 u1 u2 u3 u4 u5 v (nk s p v) z16 z16 z16))) : Hold Tryz.prog (bodyOf Tryz.f64) (FinM Tryz.prog Tryz.f64 F S res) F S stO (sO 7 p (bCi s f a0 a1 a2 a3 a4 a5 a6 a7 a8 a9 a10) (b96 u0 u1 u2 u3 u4 u5 v z16 z16 z16 z16)) := by
  have h1 := rk_7 p s f a0 a1 a2 a3 a4 a5 a6 a7 a8 a9 a10 u0 u1 u2 u3 u4 u5 v hk 16 0 rfl (by omega)
  refine hold_ltB (id := 1) (bk := b96 u0 u1 u2 u3 u4 u5 v z16 z16 z16 z16) (k := .u8) (n := 16) (l := v) (by simp [sO]) rfl (by simp [b96]) fun _ hv => ?_
  have g12 := getD_lt hv (by decide) 12
  have g13 := getD_lt hv (by decide) 13
  have g14 := getD_lt hv (by decide) 14
  have g15 := getD_lt hv (by decide) 15
  refine hold_unroll (c := _) rfl ?_
  refine hwC mixed okA1a 100 [] [0, 4, 5, 6, 8, 59] [0, 1, 2] 3 [.lp [0, 1, 1, 1, 1, 0, 0, 1, 0, 0, 1, 0, 1, 1, 1], .blk 2, .blk 1, .at [1, 1, 0, 0, 1, 0, 1, 1, 1], .lp [0, 1, 0, 1, 1, 1], .blk 0, .at [1, 1, 1, 1]] ⟨84, [(0, .ptr 0 0 (.c 0)), (4, .ptr 1 0 (.c 0)), (5, .u .u8 (dbl p)), (6, .c .i64 7), (8, .ptr 2 0 (.c 0)), (59, .c .i64 0)], [(0, bCi s f a0 a1 a2 a3 a4 a5 a6 a7 a8 a9 a10), (1, b96 u0 u1 u2 u3 u4 u5 v z16 z16 z16 z16), (2, ⟨118, [.arr .u8 4 [s.getD (v.getD 13 0) 0 ^^^ p, s.getD (v.getD 14 0) 0, s.getD (v.getD 15 0) 0, s.getD (v.getD 12 0) 0]], false⟩)], 3, 1⟩ [v.getD 13 0 < 256, v.getD 13 0 < 256, v.getD 14 0 < 256, v.getD 14 0 < 256, v.getD 15 0 < 256, v.getD 15 0 < 256, v.getD 12 0 < 256, v.getD 12 0 < 256] (by kernel_rfl) (by repeat' first | exact trivial | exact decide_eq_true (by omega) | exact g13 | exact g14 | exact g15 | exact g12 | omega | refine ⟨?_, ?_⟩) ?_
  exact Hold.weaken h1 (by simp [wks, wk, wk0, wkB, wka, wkl, sK, b96, b118, bCi, lim, nkI, nkT])
theorem rk_8 (p : Nat) (s f a0 a1 a2 a3 a4 a5 a6 a7 a8 a9 a10 u0 u1 u2 u3 u4 u5 u6 v : List Nat) (hk : Hold Tryz.prog (bodyOf Tryz.f64) (FinM Tryz.prog Tryz.f64 F S res) F S stO (sO 9 (dbl p) (bCi s f a0 a1 a2 a3 a4 a5 a6 a7 a8 a9 a10) (b96 u0 u1 u2 u3 u4 u5 u6 v (nk s p v) z16 z16))) : ∀ d k, 16 - k = d → k ≤ 16 → Hold Tryz.prog (bodyOf Tryz.f64) (FinM Tryz.prog Tryz.f64 F S res) F S stK (sK 8 (dbl p) (bCi s f a0 a1 a2 a3 a4 a5 a6 a7 a8 a9 a10) (b96 u0 u1 u2 u3 u4 u5 u6 v (nkI s p v k).1 z16 z16) (nkI s p v k).2 k) := by
  intro d
  induction d using Nat.strongRecOn with
  | _ d ih =>
  intro k hd hi
  refine hold_unroll (c := _) rfl ?_
  by_cases hlt : k < 16
  · have e := ih (16 - (k + 1)) (by omega) (k + 1) rfl (by omega)
    rw [show nkI s p v (k + 1) = ((nkI s p v k).1.set k (((nkI s p v k).2.set (k % 4) ((nkI s p v k).2.getD (k % 4) 0 ^^^ v.getD k 0)).getD (k % 4) 0), (nkI s p v k).2.set (k % 4) ((nkI s p v k).2.getD (k % 4) 0 ^^^ v.getD k 0)) from rfl] at e
    generalize nkI s p v k = z at e ⊢
    obtain ⟨x, t⟩ := z
    refine hwC mixed okA1a 100 [true] [0, 4, 5, 6, 8, 59] [0, 1, 2] 3 [.lp [0, 1, 1, 1, 1, 0, 0, 1, 0, 0, 1, 0, 1, 1, 1], .blk 2, .blk 1, .at [1, 1, 0, 0, 1, 0, 1, 1, 1], .lp [0, 1, 0, 1, 1, 1], .blk 0, .at [1, 1, 1, 1]] ⟨84, [(0, .ptr 0 0 (.c 0)), (4, .ptr 1 0 (.c 0)), (5, .u .u8 (dbl p)), (6, .c .i64 8), (8, .ptr 2 0 (.c 0)), (59, .u .i64 (k + 1))], [(0, bCi s f a0 a1 a2 a3 a4 a5 a6 a7 a8 a9 a10), (1, b96 u0 u1 u2 u3 u4 u5 u6 v (x.set k ((t.set (k % 4) (t.getD (k % 4) 0 ^^^ v.getD k 0)).getD (k % 4) 0)) z16 z16), (2, ⟨118, [.arr .u8 4 (t.set (k % 4) (t.getD (k % 4) 0 ^^^ v.getD k 0))], false⟩)], 3, 1⟩ [Decidable.decide (k < 16) = true, k % 4 < 4, k % 4 < 4, k < 16, k < 16, k % 4 < 4, k % 4 < 4, k % 4 < 4, k % 4 < 4, k < 16, k < 16, k + 1 < 9223372036854775808] (by kernel_rfl) (by repeat' first | exact trivial | assumption | exact decide_eq_true (by omega) | exact decide_eq_false (by omega) | omega | refine ⟨?_, ?_⟩) ?_
    exact e
  · have e : k = 16 := by omega
    subst e
    rw [show nk s p v = (nkI s p v 16).1 from rfl] at hk
    generalize nkI s p v 16 = z at hk ⊢
    obtain ⟨x, t⟩ := z
    refine hwC mixed okA1a 100 [false] [0, 4, 5, 6] [0, 1] 2 [.lp [0, 1, 0, 1, 1, 1], .blk 0, .at [1, 1, 1, 1]] ⟨84, [(0, .ptr 0 0 (.c 0)), (4, .ptr 1 0 (.c 0)), (5, .u .u8 (dbl p)), (6, .c .i64 9)], [(0, bCi s f a0 a1 a2 a3 a4 a5 a6 a7 a8 a9 a10), (1, b96 u0 u1 u2 u3 u4 u5 u6 v x z16 z16)], 2, 1⟩ [false = false] (by kernel_rfl) (by repeat' first | exact trivial | assumption | exact decide_eq_true (by omega) | exact decide_eq_false (by omega) | omega | refine ⟨?_, ?_⟩) ?_
    exact hk
theorem r_8 (p : Nat) (s f a0 a1 a2 a3 a4 a5 a6 a7 a8 a9 a10 u0 u1 u2 u3 u4 u5 u6 v : List Nat) (hk : Hold Tryz.prog (bodyOf Tryz.f64) (FinM Tryz.prog Tryz.f64 F S res) F S stO (sO 9 (dbl p) (bCi s f a0 a1 a2 a3 a4 a5 a6 a7 a8 a9 a10) (b96 u0 u1 u2 u3 u4 u5 u6 v (nk s p v) z16 z16))) : Hold Tryz.prog (bodyOf Tryz.f64) (FinM Tryz.prog Tryz.f64 F S res) F S stO (sO 8 p (bCi s f a0 a1 a2 a3 a4 a5 a6 a7 a8 a9 a10) (b96 u0 u1 u2 u3 u4 u5 u6 v z16 z16 z16)) := by
  have h1 := rk_8 p s f a0 a1 a2 a3 a4 a5 a6 a7 a8 a9 a10 u0 u1 u2 u3 u4 u5 u6 v hk 16 0 rfl (by omega)
  refine hold_ltB (id := 1) (bk := b96 u0 u1 u2 u3 u4 u5 u6 v z16 z16 z16) (k := .u8) (n := 16) (l := v) (by simp [sO]) rfl (by simp [b96]) fun _ hv => ?_
  have g12 := getD_lt hv (by decide) 12
  have g13 := getD_lt hv (by decide) 13
  have g14 := getD_lt hv (by decide) 14
  have g15 := getD_lt hv (by decide) 15
  refine hold_unroll (c := _) rfl ?_
  refine hwC mixed okA1a 100 [] [0, 4, 5, 6, 8, 59] [0, 1, 2] 3 [.lp [0, 1, 1, 1, 1, 0, 0, 1, 0, 0, 1, 0, 1, 1, 1], .blk 2, .blk 1, .at [1, 1, 0, 0, 1, 0, 1, 1, 1], .lp [0, 1, 0, 1, 1, 1], .blk 0, .at [1, 1, 1, 1]] ⟨84, [(0, .ptr 0 0 (.c 0)), (4, .ptr 1 0 (.c 0)), (5, .u .u8 (dbl p)), (6, .c .i64 8), (8, .ptr 2 0 (.c 0)), (59, .c .i64 0)], [(0, bCi s f a0 a1 a2 a3 a4 a5 a6 a7 a8 a9 a10), (1, b96 u0 u1 u2 u3 u4 u5 u6 v z16 z16 z16), (2, ⟨118, [.arr .u8 4 [s.getD (v.getD 13 0) 0 ^^^ p, s.getD (v.getD 14 0) 0, s.getD (v.getD 15 0) 0, s.getD (v.getD 12 0) 0]], false⟩)], 3, 1⟩ [v.getD 13 0 < 256, v.getD 13 0 < 256, v.getD 14 0 < 256, v.getD 14 0 < 256, v.getD 15 0 < 256, v.getD 15 0 < 256, v.getD 12 0 < 256, v.getD 12 0 < 256] (by kernel_rfl) (by repeat' first | exact trivial | exact decide_eq_true (by omega) | exact g13 | exact g14 | exact g15 | exact g12 | omega | refine ⟨?_, ?_⟩) ?_
  exact Hold.weaken h1 (by simp [wks, wk, wk0, wkB, wka, wkl, sK, b96, b118, bCi, lim, nkI, nkT])
theorem rk_9 (p : Nat) (s f a0 a1 a2 a3 a4 a5 a6 a7 a8 a9 a10 u0 u1 u2 u3 u4 u5 u6 u7 v : List Nat) (hk : Hold Tryz.prog (bodyOf Tryz.f64) (FinM Tryz.prog Tryz.f64 F S res) F S stO (sO 10 (dbl p) (bCi s f a0 a1 a2 a3 a4 a5 a6 a7 a8 a9 a10) (b96 u0 u1 u2 u3 u4 u5 u6 u7 v (nk s p v) z16))) : ∀ d k, 16 - k = d → k ≤ 16 → Hold Tryz.prog (bodyOf Tryz.f64) (FinM Tryz.prog Tryz.f64 F S res) F S stK (sK 9 (dbl p) (bCi s f a0 a1 a2 a3 a4 a5 a6 a7 a8 a9 a10) (b96 u0 u1 u2 u3 u4 u5 u6 u7 v (nkI s p v k).1 z16) (nkI s p v k).2 k) := by
  intro d
  induction d using Nat.strongRecOn with
  | _ d ih =>
  intro k hd hi
  refine hold_unroll (c := _) rfl ?_
  by_cases hlt : k < 16
  · have e := ih (16 - (k + 1)) (by omega) (k + 1) rfl (by omega)
    rw [show nkI s p v (k + 1) = ((nkI s p v k).1.set k (((nkI s p v k).2.set (k % 4) ((nkI s p v k).2.getD (k % 4) 0 ^^^ v.getD k 0)).getD (k % 4) 0), (nkI s p v k).2.set (k % 4) ((nkI s p v k).2.getD (k % 4) 0 ^^^ v.getD k 0)) from rfl] at e
    generalize nkI s p v k = z at e ⊢
    obtain ⟨x, t⟩ := z
    refine hwC mixed okA1a 100 [true] [0, 4, 5, 6, 8, 59] [0, 1, 2] 3 [.lp [0, 1, 1, 1, 1, 0, 0, 1, 0, 0, 1, 0, 1, 1, 1], .blk 2, .blk 1, .at [1, 1, 0, 0, 1, 0, 1, 1, 1], .lp [0, 1, 0, 1, 1, 1], .blk 0, .at [1, 1, 1, 1]] ⟨84, [(0, .ptr 0 0 (.c 0)), (4, .ptr 1 0 (.c 0)), (5, .u .u8 (dbl p)), (6, .c .i64 9), (8, .ptr 2 0 (.c 0)), (59, .u .i64 (k + 1))], [(0, bCi s f a0 a1 a2 a3 a4 a5 a6 a7 a8 a9 a10), (1, b96 u0 u1 u2 u3 u4 u5 u6 u7 v (x.set k ((t.set (k % 4) (t.getD (k % 4) 0 ^^^ v.getD k 0)).getD (k % 4) 0)) z16), (2, ⟨118, [.arr .u8 4 (t.set (k % 4) (t.getD (k % 4) 0 ^^^ v.getD k 0))], false⟩)], 3, 1⟩ [Decidable.decide (k < 16) = true, k % 4 < 4, k % 4 < 4, k < 16, k < 16, k % 4 < 4, k % 4 < 4, k % 4 < 4, k % 4 < 4, k < 16, k < 16, k + 1 < 9223372036854775808] (by kernel_rfl) (by repeat' first | exact trivial | assumption | exact decide_eq_true (by omega) | exact decide_eq_false (by omega) | omega | refine ⟨?_, ?_⟩) ?_
    exact e
  · have e : k = 16 := by omega
    subst e
    rw [show nk s p v = (nkI s p v 16).1 from rfl] at hk
    generalize nkI s p v 16 = z at hk ⊢
    obtain ⟨x, t⟩ := z
    refine hwC mixed okA1a 100 [false] [0, 4, 5, 6] [0, 1] 2 [.lp [0, 1, 0, 1, 1, 1], .blk 0, .at [1, 1, 1, 1]] ⟨84, [(0, .ptr 0 0 (.c 0)), (4, .ptr 1 0 (.c 0)), (5, .u .u8 (dbl p)), (6, .c .i64 10)], [(0, bCi s f a0 a1 a2 a3 a4 a5 a6 a7 a8 a9 a10), (1, b96 u0 u1 u2 u3 u4 u5 u6 u7 v x z16)], 2, 1⟩ [false = false] (by kernel_rfl) (by repeat' first | exact trivial | assumption | exact decide_eq_true (by omega) | exact decide_eq_false (by omega) | omega | refine ⟨?_, ?_⟩) ?_
    exact hk
theorem r_9 (p : Nat) (s f a0 a1 a2 a3 a4 a5 a6 a7 a8 a9 a10 u0 u1 u2 u3 u4 u5 u6 u7 v : List Nat) (hk : Hold Tryz.prog (bodyOf Tryz.f64) (FinM Tryz.prog Tryz.f64 F S res) F S stO (sO 10 (dbl p) (bCi s f a0 a1 a2 a3 a4 a5 a6 a7 a8 a9 a10) (b96 u0 u1 u2 u3 u4 u5 u6 u7 v (nk s p v) z16))) : Hold Tryz.prog (bodyOf Tryz.f64) (FinM Tryz.prog Tryz.f64 F S res) F S stO (sO 9 p (bCi s f a0 a1 a2 a3 a4 a5 a6 a7 a8 a9 a10) (b96 u0 u1 u2 u3 u4 u5 u6 u7 v z16 z16)) := by
  have h1 := rk_9 p s f a0 a1 a2 a3 a4 a5 a6 a7 a8 a9 a10 u0 u1 u2 u3 u4 u5 u6 u7 v hk 16 0 rfl (by omega)
  refine hold_ltB (id := 1) (bk := b96 u0 u1 u2 u3 u4 u5 u6 u7 v z16 z16) (k := .u8) (n := 16) (l := v) (by simp [sO]) rfl (by simp [b96]) fun _ hv => ?_
  have g12 := getD_lt hv (by decide) 12
  have g13 := getD_lt hv (by decide) 13
  have g14 := getD_lt hv (by decide) 14
  have g15 := getD_lt hv (by decide) 15
  refine hold_unroll (c := _) rfl ?_
  refine hwC mixed okA1a 100 [] [0, 4, 5, 6, 8, 59] [0, 1, 2] 3 [.lp [0, 1, 1, 1, 1, 0, 0, 1, 0, 0, 1, 0, 1, 1, 1], .blk 2, .blk 1, .at [1, 1, 0, 0, 1, 0, 1, 1, 1], .lp [0, 1, 0, 1, 1, 1], .blk 0, .at [1, 1, 1, 1]] ⟨84, [(0, .ptr 0 0 (.c 0)), (4, .ptr 1 0 (.c 0)), (5, .u .u8 (dbl p)), (6, .c .i64 9), (8, .ptr 2 0 (.c 0)), (59, .c .i64 0)], [(0, bCi s f a0 a1 a2 a3 a4 a5 a6 a7 a8 a9 a10), (1, b96 u0 u1 u2 u3 u4 u5 u6 u7 v z16 z16), (2, ⟨118, [.arr .u8 4 [s.getD (v.getD 13 0) 0 ^^^ p, s.getD (v.getD 14 0) 0, s.getD (v.getD 15 0) 0, s.getD (v.getD 12 0) 0]], false⟩)], 3, 1⟩ [v.getD 13 0 < 256, v.getD 13 0 < 256, v.getD 14 0 < 256, v.getD 14 0 < 256, v.getD 15 0 < 256, v.getD 15 0 < 256, v.getD 12 0 < 256, v.getD 12 0 < 256] (by kernel_rfl) (by repeat' first | exact trivial | exact decide_eq_true (by omega) | exact g13 | exact g14 | exact g15 | exact g12 | omega | refine ⟨?_, ?_⟩) ?_
  exact Hold.weaken h1 (by simp [wks, wk, wk0, wkB, wka, wkl, sK, b96, b118, bCi, lim, nkI, nkT])
theorem rk_10 (p : Nat) (s f a0 a1 a2 a3 a4 a5 a6 a7 a8 a9 a10 u0 u1 u2 u3 u4 u5 u6 u7 u8 v : List Nat) (hk : Hold Tryz.prog (bodyOf Tryz.f64) (FinM Tryz.prog Tryz.f64 F S res) F S stO (sO 11 (dbl p) (bCi s f a0 a1 a2 a3 a4 a5 a6 a7 a8 a9 a10) (b96 u0 u1 u2 u3 u4 u5 u6 u7 u8 v (nk s p v)))) : ∀ d k, 16 - k = d → k ≤ 16 → Hold Tryz.prog (bodyOf Tryz.f64) (FinM Tryz.prog Tryz.f64 F S res) F S stK (sK 10 (dbl p) (bCi s f a0 a1 a2 a3 a4 a5 a6 a7 a8 a9 a10) (b96 u0 u1 u2 u3 u4 u5 u6 u7 u8 v (nkI s p v k).1) (nkI s p v k).2 k) := by
  intro d
  induction d using Nat.strongRecOn with
  | _ d ih =>
  intro k hd hi
  refine hold_unroll (c := _) rfl ?_
  by_cases hlt : k < 16
  · have e := ih (16 - (k + 1)) (by omega) (k + 1) rfl (by omega)
    rw [show nkI s p v (k + 1) = ((nkI s p v k).1.set k (((nkI s p v k).2.set (k % 4) ((nkI s p v k).2.getD (k % 4) 0 ^^^ v.getD k 0)).getD (k % 4) 0), (nkI s p v k).2.set (k % 4) ((nkI s p v k).2.getD (k % 4) 0 ^^^ v.getD k 0)) from rfl] at e
    generalize nkI s p v k = z at e ⊢
    obtain ⟨x, t⟩ := z
    refine hwC mixed okA1a 100 [true] [0, 4, 5, 6, 8, 59] [0, 1, 2] 3 [.lp [0, 1, 1, 1, 1, 0, 0, 1, 0, 0, 1, 0, 1, 1, 1], .blk 2, .blk 1, .at [1, 1, 0, 0, 1, 0, 1, 1, 1], .lp [0, 1, 0, 1, 1, 1], .blk 0, .at [1, 1, 1, 1]] ⟨84, [(0, .ptr 0 0 (.c 0)), (4, .ptr 1 0 (.c 0)), (5, .u .u8 (dbl p)), (6, .c .i64 10), (8, .ptr 2 0 (.c 0)), (59, .u .i64 (k + 1))], [(0, bCi s f a0 a1 a2 a3 a4 a5 a6 a7 a8 a9 a10), (1, b96 u0 u1 u2 u3 u4 u5 u6 u7 u8 v (x.set k ((t.set (k % 4) (t.getD (k % 4) 0 ^^^ v.getD k 0)).getD (k % 4) 0))), (2, ⟨118, [.arr .u8 4 (t.set (k % 4) (t.getD (k % 4) 0 ^^^ v.getD k 0))], false⟩)], 3, 1⟩ [Decidable.decide (k < 16) = true, k % 4 < 4, k % 4 < 4, k < 16, k < 16, k % 4 < 4, k % 4 < 4, k % 4 < 4, k % 4 < 4, k < 16, k < 16, k + 1 < 9223372036854775808] (by kernel_rfl) (by repeat' first | exact trivial | assumption | exact decide_eq_true (by omega) | exact decide_eq_false (by omega) | omega | refine ⟨?_, ?_⟩) ?_
    exact e
  · have e : k = 16 := by omega
    subst e
    rw [show nk s p v = (nkI s p v 16).1 from rfl] at hk
    generalize nkI s p v 16 = z at hk ⊢
    obtain ⟨x, t⟩ := z
    refine hwC mixed okA1a 100 [false] [0, 4, 5, 6] [0, 1] 2 [.lp [0, 1, 0, 1, 1, 1], .blk 0, .at [1, 1, 1, 1]] ⟨84, [(0, .ptr 0 0 (.c 0)), (4, .ptr 1 0 (.c 0)), (5, .u .u8 (dbl p)), (6, .c .i64 11)], [(0, bCi s f a0 a1 a2 a3 a4 a5 a6 a7 a8 a9 a10), (1, b96 u0 u1 u2 u3 u4 u5 u6 u7 u8 v x)], 2, 1⟩ [false = false] (by kernel_rfl) (by repeat' first | exact trivial | assumption | exact decide_eq_true (by omega) | exact decide_eq_false (by omega) | omega | refine ⟨?_, ?_⟩) ?_
    exact hk
theorem r_10 (p : Nat) (s f a0 a1 a2 a3 a4 a5 a6 a7 a8 a9 a10 u0 u1 u2 u3 u4 u5 u6 u7 u8 v : List Nat) (hk : Hold Tryz.prog (bodyOf Tryz.f64) (FinM Tryz.prog Tryz.f64 F S res) F S stO (sO 11 (dbl p) (bCi s f a0 a1 a2 a3 a4 a5 a6 a7 a8 a9 a10) (b96 u0 u1 u2 u3 u4 u5 u6 u7 u8 v (nk s p v)))) : Hold Tryz.prog (bodyOf Tryz.f64) (FinM Tryz.prog Tryz.f64 F S res) F S stO (sO 10 p (bCi s f a0 a1 a2 a3 a4 a5 a6 a7 a8 a9 a10) (b96 u0 u1 u2 u3 u4 u5 u6 u7 u8 v z16)) := by
  have h1 := rk_10 p s f a0 a1 a2 a3 a4 a5 a6 a7 a8 a9 a10 u0 u1 u2 u3 u4 u5 u6 u7 u8 v hk 16 0 rfl (by omega)
  refine hold_ltB (id := 1) (bk := b96 u0 u1 u2 u3 u4 u5 u6 u7 u8 v z16) (k := .u8) (n := 16) (l := v) (by simp [sO]) rfl (by simp [b96]) fun _ hv => ?_
  have g12 := getD_lt hv (by decide) 12
  have g13 := getD_lt hv (by decide) 13
  have g14 := getD_lt hv (by decide) 14
  have g15 := getD_lt hv (by decide) 15
  refine hold_unroll (c := _) rfl ?_
  refine hwC mixed okA1a 100 [] [0, 4, 5, 6, 8, 59] [0, 1, 2] 3 [.lp [0, 1, 1, 1, 1, 0, 0, 1, 0, 0, 1, 0, 1, 1, 1], .blk 2, .blk 1, .at [1, 1, 0, 0, 1, 0, 1, 1, 1], .lp [0, 1, 0, 1, 1, 1], .blk 0, .at [1, 1, 1, 1]] ⟨84, [(0, .ptr 0 0 (.c 0)), (4, .ptr 1 0 (.c 0)), (5, .u .u8 (dbl p)), (6, .c .i64 10), (8, .ptr 2 0 (.c 0)), (59, .c .i64 0)], [(0, bCi s f a0 a1 a2 a3 a4 a5 a6 a7 a8 a9 a10), (1, b96 u0 u1 u2 u3 u4 u5 u6 u7 u8 v z16), (2, ⟨118, [.arr .u8 4 [s.getD (v.getD 13 0) 0 ^^^ p, s.getD (v.getD 14 0) 0, s.getD (v.getD 15 0) 0, s.getD (v.getD 12 0) 0]], false⟩)], 3, 1⟩ [v.getD 13 0 < 256, v.getD 13 0 < 256, v.getD 14 0 < 256, v.getD 14 0 < 256, v.getD 15 0 < 256, v.getD 15 0 < 256, v.getD 12 0 < 256, v.getD 12 0 < 256] (by kernel_rfl) (by repeat' first | exact trivial | exact decide_eq_true (by omega) | exact g13 | exact g14 | exact g15 | exact g12 | omega | refine ⟨?_, ?_⟩) ?_
  exact Hold.weaken h1 (by simp [wks, wk, wk0, wkB, wka, wkl, sK, b96, b118, bCi, lim, nkI, nkT])
end
end Go.Eng.B

namespace Go.Eng.B
open Go Go.Eng Go.Proofs
set_option maxRecDepth 100000
set_option maxHeartbeats 1000000
def rc : Nat → Nat
  | 0 => 1
  | i + 1 => dbl (rc i)
def kyL (s key : List Nat) : Nat → List Nat
  | 0 => key
  | i + 1 => nk s (rc i) (kyL s key i)
abbrev CPK (key : List Nat) : SV := .rp (.ag [.arr .u8 256 sbx, .arr .u8 256 sby, .arr .u8 16 (kyL sbx key 0), .arr .u8 16 (kyL sbx key 1), .arr .u8 16 (kyL sbx key 2), .arr .u8 16 (kyL sbx key 3), .arr .u8 16 (kyL sbx key 4), .arr .u8 16 (kyL sbx key 5), .arr .u8 16 (kyL sbx key 6), .arr .u8 16 (kyL sbx key 7), .arr .u8 16 (kyL sbx key 8), .arr .u8 16 (kyL sbx key 9), .arr .u8 16 (kyL sbx key 10)])
def eSc (H : List Bk) (args : List SV) : Option (MRes × List Prop) := match H, args with
  | [⟨ty, [.arr .u8 256 s, .arr .u8 256 f, .arr .u8 16 a0, .arr .u8 16 a1, .arr .u8 16 a2, .arr .u8 16 a3, .arr .u8 16 a4, .arr .u8 16 a5, .arr .u8 16 a6, .arr .u8 16 a7, .arr .u8 16 a8, .arr .u8 16 a9, .arr .u8 16 a10], false⟩], [.ptr 0 0 (.c 0), .sl .u8 key] => if ty = 98 then some (⟨.ag [.arr .u8 16 (kyL s key 0), .arr .u8 16 (kyL s key 1), .arr .u8 16 (kyL s key 2), .arr .u8 16 (kyL s key 3), .arr .u8 16 (kyL s key 4), .arr .u8 16 (kyL s key 5), .arr .u8 16 (kyL s key 6), .arr .u8 16 (kyL s key 7), .arr .u8 16 (kyL s key 8), .arr .u8 16 (kyL s key 9), .arr .u8 16 (kyL s key 10)], [bCi s f a0 a1 a2 a3 a4 a5 a6 a7 a8 a9 a10], []⟩, [key.length = 16]) else none
  | _, _ => none
def eNw (args : List SV) : Option (SV × List Prop) := match args with
  | [.sl .u8 key] => some (.rp (.ag [.arr .u8 256 sbx, .arr .u8 256 sby, .arr .u8 16 (kyL sbx key 0), .arr .u8 16 (kyL sbx key 1), .arr .u8 16 (kyL sbx key 2), .arr .u8 16 (kyL sbx key 3), .arr .u8 16 (kyL sbx key 4), .arr .u8 16 (kyL sbx key 5), .arr .u8 16 (kyL sbx key 6), .arr .u8 16 (kyL sbx key 7), .arr .u8 16 (kyL sbx key 8), .arr .u8 16 (kyL sbx key 9), .arr .u8 16 (kyL sbx key 10)]), [key.length = 16])
  | _ => none
def sNw (s f key : List Nat) : St := ⟨16, [(2, .ptr 0 0 (.c 0))], [(0, bCi s f (kyL s key 0) (kyL s key 1) (kyL s key 2) (kyL s key 3) (kyL s key 4) (kyL s key 5) (kyL s key 6) (kyL s key 7) (kyL s key 8) (kyL s key 9) (kyL s key 10))], 1, 0⟩
def sNf (s f key : List Nat) : St := ⟨16, [(2, .rp (.ag [.arr .u8 256 s, .arr .u8 256 f, .arr .u8 16 (kyL s key 0), .arr .u8 16 (kyL s key 1), .arr .u8 16 (kyL s key 2), .arr .u8 16 (kyL s key 3), .arr .u8 16 (kyL s key 4), .arr .u8 16 (kyL s key 5), .arr .u8 16 (kyL s key 6), .arr .u8 16 (kyL s key 7), .arr .u8 16 (kyL s key 8), .arr .u8 16 (kyL s key 9), .arr .u8 16 (kyL s key 10)]))], [], 1, 0⟩
noncomputable def A13a : Ctr := addM 64 eSc (addC 63 eSub ctr0)
section
variable {F : Fr} {S : Own} {res : MRes}
theorem sc_e (p : Nat) (s f a0 a1 a2 a3 a4 a5 a6 a7 a8 a9 a10 w0 w1 w2 w3 w4 w5 w6 w7 w8 w9 w10 : List Nat) (hr : res = ⟨.ag [.arr .u8 16 w0, .arr .u8 16 w1, .arr .u8 16 w2, .arr .u8 16 w3, .arr .u8 16 w4, .arr .u8 16 w5, .arr .u8 16 w6, .arr .u8 16 w7, .arr .u8 16 w8, .arr .u8 16 w9, .arr .u8 16 w10], [bCi s f a0 a1 a2 a3 a4 a5 a6 a7 a8 a9 a10], []⟩) : Hold Tryz.prog (bodyOf Tryz.f64) (FinM Tryz.prog Tryz.f64 F S res) F S stO (sO 11 p (bCi s f a0 a1 a2 a3 a4 a5 a6 a7 a8 a9 a10) (b96 w0 w1 w2 w3 w4 w5 w6 w7 w8 w9 w10)) := by
  refine hold_unroll (c := _) rfl ?_
  refine hold_endMw mixed okA1a (news := []) (unroll := false) (f := 100) (sc := []) (r := { res := .ag [.arr .u8 16 w0, .arr .u8 16 w1, .arr .u8 16 w2, .arr .u8 16 w3, .arr .u8 16 w4, .arr .u8 16 w5, .arr .u8 16 w6, .arr .u8 16 w7, .arr .u8 16 w8, .arr .u8 16 w9, .arr .u8 16 w10], upd := [bCi s f a0 a1 a2 a3 a4 a5 a6 a7 a8 a9 a10] }) (ob := []) (sc' := []) (by kernel_rfl) (by repeat' first | exact trivial | assumption | exact decide_eq_true (by omega) | exact decide_eq_false (by omega) | omega | refine ⟨?_, ?_⟩) ?_
  exact wkM_of hr.symm
theorem sc_m (s f a0 a1 a2 a3 a4 a5 a6 a7 a8 a9 a10 key : List Nat) (hk : key.length = 16) : ContractM Tryz.prog 64 [bCi s f a0 a1 a2 a3 a4 a5 a6 a7 a8 a9 a10] [.ptr 0 0 (.c 0), .sl .u8 key] ⟨.ag [.arr .u8 16 (kyL s key 0), .arr .u8 16 (kyL s key 1), .arr .u8 16 (kyL s key 2), .arr .u8 16 (kyL s key 3), .arr .u8 16 (kyL s key 4), .arr .u8 16 (kyL s key 5), .arr .u8 16 (kyL s key 6), .arr .u8 16 (kyL s key 7), .arr .u8 16 (kyL s key 8), .arr .u8 16 (kyL s key 9), .arr .u8 16 (kyL s key 10)], [bCi s f a0 a1 a2 a3 a4 a5 a6 a7 a8 a9 a10], []⟩ := by
  refine contractM Tryz.func64 (body := bodyOf Tryz.f64) rfl (by kernel_rfl) (by kernel_rfl) rfl rfl ?_
  intro _ _ F S hF
  refine hwC mixed okA1a 100 [] [0, 4, 5, 6] [0, 1] 2 [.lp [0, 1, 0, 1, 1, 1], .blk 0, .at [1, 1, 1, 1]] ⟨84, [(0, .ptr 0 0 (.c 0)), (4, .ptr 1 0 (.c 0)), (5, .c .u8 1), (6, .c .i64 1)], [(0, bCi s f a0 a1 a2 a3 a4 a5 a6 a7 a8 a9 a10), (1, b96 (List.take 16 key ++ List.drop (0 + Min.min key.length 16) [0, 0, 0, 0, 0, 0, 0, 0, 0, 0, 0, 0, 0, 0, 0, 0]) [0, 0, 0, 0, 0, 0, 0, 0, 0, 0, 0, 0, 0, 0, 0, 0] [0, 0, 0, 0, 0, 0, 0, 0, 0, 0, 0, 0, 0, 0, 0, 0] [0, 0, 0, 0, 0, 0, 0, 0, 0, 0, 0, 0, 0, 0, 0, 0] [0, 0, 0, 0, 0, 0, 0, 0, 0, 0, 0, 0, 0, 0, 0, 0] [0, 0, 0, 0, 0, 0, 0, 0, 0, 0, 0, 0, 0, 0, 0, 0] [0, 0, 0, 0, 0, 0, 0, 0, 0, 0, 0, 0, 0, 0, 0, 0] [0, 0, 0, 0, 0, 0, 0, 0, 0, 0, 0, 0, 0, 0, 0, 0] [0, 0, 0, 0, 0, 0, 0, 0, 0, 0, 0, 0, 0, 0, 0, 0] [0, 0, 0, 0, 0, 0, 0, 0, 0, 0, 0, 0, 0, 0, 0, 0] [0, 0, 0, 0, 0, 0, 0, 0, 0, 0, 0, 0, 0, 0, 0, 0])], 2, 1⟩ [] (by kernel_rfl) (by repeat' first | exact trivial | omega | refine ⟨?_, ?_⟩) ?_
  have h11 := sc_e (F := F) (S := S) (rc 10) s f a0 a1 a2 a3 a4 a5 a6 a7 a8 a9 a10 (kyL s key 0) (kyL s key 1) (kyL s key 2) (kyL s key 3) (kyL s key 4) (kyL s key 5) (kyL s key 6) (kyL s key 7) (kyL s key 8) (kyL s key 9) (kyL s key 10) rfl
  have h10 : Hold Tryz.prog (bodyOf Tryz.f64) (FinM Tryz.prog Tryz.f64 F S ⟨.ag [.arr .u8 16 (kyL s key 0), .arr .u8 16 (kyL s key 1), .arr .u8 16 (kyL s key 2), .arr .u8 16 (kyL s key 3), .arr .u8 16 (kyL s key 4), .arr .u8 16 (kyL s key 5), .arr .u8 16 (kyL s key 6), .arr .u8 16 (kyL s key 7), .arr .u8 16 (kyL s key 8), .arr .u8 16 (kyL s key 9), .arr .u8 16 (kyL s key 10)], [bCi s f a0 a1 a2 a3 a4 a5 a6 a7 a8 a9 a10], []⟩) F S stO (sO 10 (rc 9) (bCi s f a0 a1 a2 a3 a4 a5 a6 a7 a8 a9 a10) (b96 (kyL s key 0) (kyL s key 1) (kyL s key 2) (kyL s key 3) (kyL s key 4) (kyL s key 5) (kyL s key 6) (kyL s key 7) (kyL s key 8) (kyL s key 9) z16)) := r_10 (rc 9) s f a0 a1 a2 a3 a4 a5 a6 a7 a8 a9 a10 (kyL s key 0) (kyL s key 1) (kyL s key 2) (kyL s key 3) (kyL s key 4) (kyL s key 5) (kyL s key 6) (kyL s key 7) (kyL s key 8) (kyL s key 9) h11
  have h9 : Hold Tryz.prog (bodyOf Tryz.f64) (FinM Tryz.prog Tryz.f64 F S ⟨.ag [.arr .u8 16 (kyL s key 0), .arr .u8 16 (kyL s key 1), .arr .u8 16 (kyL s key 2), .arr .u8 16 (kyL s key 3), .arr .u8 16 (kyL s key 4), .arr .u8 16 (kyL s key 5), .arr .u8 16 (kyL s key 6), .arr .u8 16 (kyL s key 7), .arr .u8 16 (kyL s key 8), .arr .u8 16 (kyL s key 9), .arr .u8 16 (kyL s key 10)], [bCi s f a0 a1 a2 a3 a4 a5 a6 a7 a8 a9 a10], []⟩) F S stO (sO 9 (rc 8) (bCi s f a0 a1 a2 a3 a4 a5 a6 a7 a8 a9 a10) (b96 (kyL s key 0) (kyL s key 1) (kyL s key 2) (kyL s key 3) (kyL s key 4) (kyL s key 5) (kyL s key 6) (kyL s key 7) (kyL s key 8) z16 z16)) := r_9 (rc 8) s f a0 a1 a2 a3 a4 a5 a6 a7 a8 a9 a10 (kyL s key 0) (kyL s key 1) (kyL s key 2) (kyL s key 3) (kyL s key 4) (kyL s key 5) (kyL s key 6) (kyL s key 7) (kyL s key 8) h10
  have h8 : Hold Tryz.prog (bodyOf Tryz.f64) (FinM Tryz.prog Tryz.f64 F S ⟨.ag [.arr .u8 16 (kyL s key 0), .arr .u8 16 (kyL s key 1), .arr .u8 16 (kyL s key 2), .arr .u8 16 (kyL s key 3), .arr .u8 16 (kyL s key 4), .arr .u8 16 (kyL s key 5), .arr .u8 16 (kyL s key 6), .arr .u8 16 (kyL s key 7), .arr .u8 16 (kyL s key 8), .arr .u8 16 (kyL s key 9), .arr .u8 16 (kyL s key 10)], [bCi s f a0 a1 a2 a3 a4 a5 a6 a7 a8 a9 a10], []⟩) F S stO (sO 8 (rc 7) (bCi s f a0 a1 a2 a3 a4 a5 a6 a7 a8 a9 a10) (b96 (kyL s key 0) (kyL s key 1) (kyL s key 2) (kyL s key 3) (kyL s key 4) (kyL s key 5) (kyL s key 6) (kyL s key 7) z16 z16 z16)) := r_8 (rc 7) s f a0 a1 a2 a3 a4 a5 a6 a7 a8 a9 a10 (kyL s key 0) (kyL s key 1) (kyL s key 2) (kyL s key 3) (kyL s key 4) (kyL s key 5) (kyL s key 6) (kyL s key 7) h9
  have h7 : Hold Tryz.prog (bodyOf Tryz.f64) (FinM Tryz.prog Tryz.f64 F S ⟨.ag [.arr .u8 16 (kyL s key 0), .arr .u8 16 (kyL s key 1), .arr .u8 16 (kyL s key 2), .arr .u8 16 (kyL s key 3), .arr .u8 16 (kyL s key 4), .arr .u8 16 (kyL s key 5), .arr .u8 16 (kyL s key 6), .arr .u8 16 (kyL s key 7), .arr .u8 16 (kyL s key 8), .arr .u8 16 (kyL s key 9), .arr .u8 16 (kyL s key 10)], [bCi s f a0 a1 a2 a3 a4 a5 a6 a7 a8 a9 a10], []⟩) F S stO (sO 7 (rc 6) (bCi s f a0 a1 a2 a3 a4 a5 a6 a7 a8 a9 a10) (b96 (kyL s key 0) (kyL s key 1) (kyL s key 2) (kyL s key 3) (kyL s key 4) (kyL s key 5) (kyL s key 6) z16 z16 z16 z16)) := r_7 (rc 6) s f a0 a1 a2 a3 a4 a5 a6 a7 a8 a9 a10 (kyL s key 0) (kyL s key 1) (kyL s key 2) (kyL s key 3) (kyL s key 4) (kyL s key 5) (kyL s key 6) h8
  have h6 : Hold Tryz.prog (bodyOf Tryz.f64) (FinM Tryz.prog Tryz.f64 F S ⟨.ag [.arr .u8 16 (kyL s key 0), .arr .u8 16 (kyL s key 1), .arr .u8 16 (kyL s key 2), .arr .u8 16 (kyL s key 3), .arr .u8 16 (kyL s key 4), .arr .u8 16 (kyL s key 5), .arr .u8 16 (kyL s key 6), .arr .u8 16 (kyL s key 7), .arr .u8 16 (kyL s key 8), .arr .u8 16 (kyL s key 9), .arr .u8 16 (kyL s key 10)], [bCi s f a0 a1 a2 a3 a4 a5 a6 a7 a8 a9 a10], []⟩) F S stO (sO 6 (rc 5) (bCi s f a0 a1 a2 a3 a4 a5 a6 a7 a8 a9 a10) (b96 (kyL s key 0) (kyL s key 1) (kyL s key 2) (kyL s key 3) (kyL s key 4) (kyL s key 5) z16 z16 z16 z16 z16)) := r_6 (rc 5) s f a0 a1 a2 a3 a4 a5 a6 a7 a8 a9 a10 (kyL s key 0) (kyL s key 1) (kyL s key 2) (kyL s key 3) (kyL s key 4) (kyL s key 5) h7
  have h5 : Hold Tryz.prog (bodyOf Tryz.f64) (FinM Tryz.prog Tryz.f64 F S ⟨.ag [.arr .u8 16 (kyL s key 0), .arr .u8 16 (kyL s key 1), .arr .u8 16 (kyL s key 2), .arr .u8 16 (kyL s key 3), .arr .u8 16 (kyL s key 4), .arr .u8 16 (kyL s key 5), .arr .u8 16 (kyL s key 6), .arr .u8 16 (kyL s key 7), .arr .u8 16 (kyL s key 8), .arr .u8 16 (kyL s key 9), .arr .u8 16 (kyL s key 10)], [bCi s f a0 a1 a2 a3 a4 a5 a6 a7 a8 a9 a10], []⟩) F S stO (sO 5 (rc 4) (bCi s f a0 a1 a2 a3 a4 a5 a6 a7 a8 a9 a10) (b96 (kyL s key 0) (kyL s key 1) (kyL s key 2) (kyL s key 3) (kyL s key 4) z16 z16 z16 z16 z16 z16)) := r_5 (rc 4) s f a0 a1 a2 a3 a4 a5 a6 a7 a8 a9 a10 (kyL s key 0) (kyL s key 1) (kyL s key 2) (kyL s key 3) (kyL s key 4) h6
  have h4 : Hold Tryz.prog (bodyOf Tryz.f64) (FinM Tryz.prog Tryz.f64 F S ⟨.ag [.arr .u8 16 (kyL s key 0), .arr .u8 16 (kyL s key 1), .arr .u8 16 (kyL s key 2), .arr .u8 16 (kyL s key 3), .arr .u8 16 (kyL s key 4), .arr .u8 16 (kyL s key 5), .arr .u8 16 (kyL s key 6), .arr .u8 16 (kyL s key 7), .arr .u8 16 (kyL s key 8), .arr .u8 16 (kyL s key 9), .arr .u8 16 (kyL s key 10)], [bCi s f a0 a1 a2 a3 a4 a5 a6 a7 a8 a9 a10], []⟩) F S stO (sO 4 (rc 3) (bCi s f a0 a1 a2 a3 a4 a5 a6 a7 a8 a9 a10) (b96 (kyL s key 0) (kyL s key 1) (kyL s key 2) (kyL s key 3) z16 z16 z16 z16 z16 z16 z16)) := r_4 (rc 3) s f a0 a1 a2 a3 a4 a5 a6 a7 a8 a9 a10 (kyL s key 0) (kyL s key 1) (kyL s key 2) (kyL s key 3) h5
  have h3 : Hold Tryz.prog (bodyOf Tryz.f64) (FinM Tryz.prog Tryz.f64 F S ⟨.ag [.arr .u8 16 (kyL s key 0), .arr .u8 16 (kyL s key 1), .arr .u8 16 (kyL s key 2), .arr .u8 16 (kyL s key 3), .arr .u8 16 (kyL s key 4), .arr .u8 16 (kyL s key 5), .arr .u8 16 (kyL s key 6), .arr .u8 16 (kyL s key 7), .arr .u8 16 (kyL s key 8), .arr .u8 16 (kyL s key 9), .arr .u8 16 (kyL s key 10)], [bCi s f a0 a1 a2 a3 a4 a5 a6 a7 a8 a9 a10], []⟩) F S stO (sO 3 (rc 2) (bCi s f a0 a1 a2 a3 a4 a5 a6 a7 a8 a9 a10) (b96 (kyL s key 0) (kyL s key 1) (kyL s key 2) z16 z16 z16 z16 z16 z16 z16 z16)) := r_3 (rc 2) s f a0 a1 a2 a3 a4 a5 a6 a7 a8 a9 a10 (kyL s key 0) (kyL s key 1) (kyL s key 2) h4
  have h2 : Hold Tryz.prog (bodyOf Tryz.f64) (FinM Tryz.prog Tryz.f64 F S ⟨.ag [.arr .u8 16 (kyL s key 0), .arr .u8 16 (kyL s key 1), .arr .u8 16 (kyL s key 2), .arr .u8 16 (kyL s key 3), .arr .u8 16 (kyL s key 4), .arr .u8 16 (kyL s key 5), .arr .u8 16 (kyL s key 6), .arr .u8 16 (kyL s key 7), .arr .u8 16 (kyL s key 8), .arr .u8 16 (kyL s key 9), .arr .u8 16 (kyL s key 10)], [bCi s f a0 a1 a2 a3 a4 a5 a6 a7 a8 a9 a10], []⟩) F S stO (sO 2 (rc 1) (bCi s f a0 a1 a2 a3 a4 a5 a6 a7 a8 a9 a10) (b96 (kyL s key 0) (kyL s key 1) z16 z16 z16 z16 z16 z16 z16 z16 z16)) := r_2 (rc 1) s f a0 a1 a2 a3 a4 a5 a6 a7 a8 a9 a10 (kyL s key 0) (kyL s key 1) h3
  have h1 : Hold Tryz.prog (bodyOf Tryz.f64) (FinM Tryz.prog Tryz.f64 F S ⟨.ag [.arr .u8 16 (kyL s key 0), .arr .u8 16 (kyL s key 1), .arr .u8 16 (kyL s key 2), .arr .u8 16 (kyL s key 3), .arr .u8 16 (kyL s key 4), .arr .u8 16 (kyL s key 5), .arr .u8 16 (kyL s key 6), .arr .u8 16 (kyL s key 7), .arr .u8 16 (kyL s key 8), .arr .u8 16 (kyL s key 9), .arr .u8 16 (kyL s key 10)], [bCi s f a0 a1 a2 a3 a4 a5 a6 a7 a8 a9 a10], []⟩) F S stO (sO 1 (rc 0) (bCi s f a0 a1 a2 a3 a4 a5 a6 a7 a8 a9 a10) (b96 (kyL s key 0) z16 z16 z16 z16 z16 z16 z16 z16 z16 z16)) := r_1 (rc 0) s f a0 a1 a2 a3 a4 a5 a6 a7 a8 a9 a10 (kyL s key 0) h2
  have hE : key.take 16 ++ List.drop (0 + min key.length 16) [0, 0, 0, 0, 0, 0, 0, 0, 0, 0, 0, 0, 0, 0, 0, 0] = key := by simp [hk, List.take_of_length_le]
  rw [hE]
  exact Hold.weaken h1 (by simp [wks, wk, wk0, wkB, wka, wkl, sO, b96, bCi, lim, kyL, rc, z16, List.replicate, hk])
theorem sc_ok : ∀ H args r ob, eSc H args = some (r, ob) → All ob → ContractM Tryz.prog 64 H args r := by
  intro H args r ob he hob
  unfold eSc at he
  split at he
  · split at he
    · rename_i h
      cases he
      rw [h]
      exact sc_m _ _ _ _ _ _ _ _ _ _ _ _ _ _ hob.1
    · cases he
  · cases he
theorem okA13a : CtrOk Tryz.prog A13a := addM_ok (addC_ok ctr0_ok sub_ok) sc_ok
end
section
variable {w0 : World} {S : Own} {res : SV}
theorem nw_e (s f key : List Nat) (hr : res = .rp (.ag [.arr .u8 256 s, .arr .u8 256 f, .arr .u8 16 (kyL s key 0), .arr .u8 16 (kyL s key 1), .arr .u8 16 (kyL s key 2), .arr .u8 16 (kyL s key 3), .arr .u8 16 (kyL s key 4), .arr .u8 16 (kyL s key 5), .arr .u8 16 (kyL s key 6), .arr .u8 16 (kyL s key 7), .arr .u8 16 (kyL s key 8), .arr .u8 16 (kyL s key 9), .arr .u8 16 (kyL s key 10)])) : Hold Tryz.prog (bodyOf Tryz.f49) (Fin Tryz.prog Tryz.f49 w0 S res) w0 S [.at [1, 1, 1, 1]] (sNw s f key) := by
  refine hold_freeze (id := 0) (σ' := sNf s f key) rfl ?_
  rw [hr]
  exact hwE mixed okA13a 100 [] ((.rp (.ag [.arr .u8 256 s, .arr .u8 256 f, .arr .u8 16 (kyL s key 0), .arr .u8 16 (kyL s key 1), .arr .u8 16 (kyL s key 2), .arr .u8 16 (kyL s key 3), .arr .u8 16 (kyL s key 4), .arr .u8 16 (kyL s key 5), .arr .u8 16 (kyL s key 6), .arr .u8 16 (kyL s key 7), .arr .u8 16 (kyL s key 8), .arr .u8 16 (kyL s key 9), .arr .u8 16 (kyL s key 10)]))) [] (by kernel_rfl) (by repeat' first | exact trivial | omega | refine ⟨?_, ?_⟩) (wkR_refl _)
theorem nw_c (key : List Nat) (hk : key.length = 16) : Contract Tryz.prog 49 [.sl .u8 key] (CPK key) := by
  refine contract Tryz.func49 (body := bodyOf Tryz.f49) rfl (by kernel_rfl) (by kernel_rfl) rfl ?_
  intro _ w0 S
  refine hwC mixed okA13a 8 [] [2] [0] 1 [.at [1, 1, 1, 1]] ⟨16, [(2, .ptr 0 0 (.c 0))], [(0, ⟨98, [.arr .u8 256 sbx, .arr .u8 256 sby, .arr .u8 16 (kyL sbx key 0), .arr .u8 16 (kyL sbx key 1), .arr .u8 16 (kyL sbx key 2), .arr .u8 16 (kyL sbx key 3), .arr .u8 16 (kyL sbx key 4), .arr .u8 16 (kyL sbx key 5), .arr .u8 16 (kyL sbx key 6), .arr .u8 16 (kyL sbx key 7), .arr .u8 16 (kyL sbx key 8), .arr .u8 16 (kyL sbx key 9), .arr .u8 16 (kyL sbx key 10)], false⟩)], 1, 0⟩ [key.length = 16] (by kernel_rfl) (by repeat' first | exact trivial | omega | refine ⟨?_, ?_⟩) ?_
  exact nw_e _ _ _ rfl
theorem nw_ok : ∀ args res ob, eNw args = some (res, ob) → All ob → Contract Tryz.prog 49 args res := by
  intro args res ob he hob
  unfold eNw at he
  split at he
  · cases he; exact nw_c _ hob.1
  · cases he
end
end Go.Eng.B

namespace Go.Eng.B
open Go Go.Eng Go.Proofs
set_option maxRecDepth 100000
set_option maxHeartbeats 1000000
def b91s (s : List Nat) : Bk := ⟨91, [.arr .u8 256 s], false⟩
def bRw : Bk := ⟨5, [], true⟩
def jW (W t : List Nat) (n : Nat) : Nat → List Nat
  | 0 => W
  | j + 1 => jW W t n j ++ [W.getD (4 * n + j) 0 ^^^ t.getD j 0]
def tA (W : List Nat) (n : Nat) : List Nat := [W.getD (4 * n + 12) 0, W.getD (4 * n + 13) 0, W.getD (4 * n + 14) 0, W.getD (4 * n + 15) 0]
def tB (s W : List Nat) (p n : Nat) : List Nat := [s.getD (W.getD (4 * n + 13) 0) 0 ^^^ p, s.getD (W.getD (4 * n + 14) 0) 0, s.getD (W.getD (4 * n + 15) 0) 0, s.getD (W.getD (4 * n + 12) 0) 0]
def wD (s key : List Nat) : Nat → List Nat × Nat
  | 0 => (key, 1)
  | n + 1 => if (n + 4) % 4 == 0 then (jW (wD s key n).1 (tB s (wD s key n).1 (wD s key n).2 n) n 4, mul8 (wD s key n).2 2) else (jW (wD s key n).1 (tA (wD s key n).1 n) n 4, (wD s key n).2)
def wK (s key : List Nat) : List Nat := (wD s key 40).1
def stD : List It := [.lp [0, 1, 0, 1, 1, 1], .blk 0, .at [1, 1, 1, 1]]
def stJ : List It := .lp [0, 1, 1, 1, 0, 0, 1, 0, 0, 1, 0, 1, 1, 1] :: .blk 2 :: .blk 1 :: .at [1, 1, 0, 0, 1, 0, 1, 1, 1] :: stD
def sD (s W : List Nat) (p n : Nat) : St := ⟨85, [(3, .ptr 0 0 (.c 0)), (5, .row 1 (.sl .u8 W)), (6, .u .u8 p), (7, .u .i64 (n + 4))], [(0, b91s s), (1, bRw)], 4, 0⟩
def sDj (s W t : List Nat) (p n j : Nat) : St := ⟨85, [(3, .ptr 0 0 (.c 0)), (5, .row 1 (.sl .u8 W)), (6, .u .u8 p), (7, .u .i64 (n + 4)), (8, .ptr 4 0 (.c 0)), (65, .u .i64 j)], [(0, b91s s), (1, bRw), (4, b118 t)], 5, 0⟩
def sDk (s W t : List Nat) (p n j : Nat) : St := ⟨85, [(3, .ptr 0 0 (.c 0)), (5, .row 1 (.sl .u8 W)), (6, .u .u8 p), (7, .u .i64 (n + 4)), (8, .ptr 4 0 (.c 0)), (9, .u .i64 j), (65, .u .i64 j)], [(0, b91s s), (1, bRw), (4, b118 t)], 5, 0⟩
noncomputable def A14a : Ctr := addC 101 eMu8 ctr0
theorem okA14a : CtrOk Tryz.prog A14a := addC_ok ctr0_ok mu_ok
theorem jW_len (W t : List Nat) (n : Nat) : ∀ j, (jW W t n j).length = W.length + j
  | 0 => rfl
  | j + 1 => by simp only [jW, List.length_append, jW_len W t n j, List.length_cons, List.length_nil]; omega
theorem wD_len {s key : List Nat} (hk : key.length = 16) : ∀ n, (wD s key n).1.length = 4 * n + 16
  | 0 => hk
  | n + 1 => by
    have ih := wD_len (s := s) hk n
    simp only [wD]
    split
    · simp only [jW_len, ih]; omega
    · simp only [jW_len, ih]; omega
theorem ixa (n : Nat) : ((((4 * (n + 4) : Nat) : Int)) - 4).toNat = 4 * n + 12 := by omega
theorem ixb (n : Nat) : ((((4 * (n + 4) : Nat) : Int)) - 3).toNat = 4 * n + 13 := by omega
theorem ixc (n : Nat) : ((((4 * (n + 4) : Nat) : Int)) - 2).toNat = 4 * n + 14 := by omega
theorem ixd (n : Nat) : ((((4 * (n + 4) : Nat) : Int)) - 1).toNat = 4 * n + 15 := by omega
theorem ixe (n j : Nat) : ((((4 * (n + 4) : Nat) : Int)) - 16 + (j : Int)).toNat = 4 * n + j := by omega
theorem hold_ltW {P : Program} {body : Code} {Q : Exit → Act → World → Prop} {w0 : Fr} {S : Own} {st : List It} {σ : St} {t id : Nat} {k : IntKind} {l : List Nat} (h : (t, .row id (.sl k l)) ∈ σ.slots) (hk : (∀ x ∈ l, x < lim k) → Hold P body Q w0 S st σ) : Hold P body Q w0 S st σ := by
  intro β a w hS
  have h1 := relV_scalar rfl rfl (hS.slot t _ h)
  simp only [rel] at h1
  exact hk h1.1.2 β a w hS
section
variable {w0 : World} {S : Own} {res : SV}
theorem dj_l (s W t : List Nat) (p n : Nat) (hn : n < 40) (hW : W.length = 4 * n + 16) (hk : Hold Tryz.prog (bodyOf Tryz.f87) (Fin Tryz.prog Tryz.f87 w0 S res) w0 S stD (sD s (jW W t n 4) p (n + 1))) : ∀ d j, 4 - j = d → j ≤ 4 → Hold Tryz.prog (bodyOf Tryz.f87) (Fin Tryz.prog Tryz.f87 w0 S res) w0 S stJ (sDj s (jW W t n j) t p n j) := by
  intro d
  induction d using Nat.strongRecOn with
  | _ d ih =>
  intro j hd hj
  refine hold_unroll (c := _) rfl ?_
  by_cases hlt : j < 4
  · have e := ih (4 - (j + 1)) (by omega) (j + 1) rfl (by omega)
    have hX := jW_len W t n j
    have hg : W.getD (4 * n + j) 0 = (jW W t n j).getD (4 * n + j) 0 := by
      clear e hX ih hk
      have : ∀ m, (jW W t n m).getD (4 * n + j) 0 = W.getD (4 * n + j) 0 := by
        intro m
        induction m with
        | zero => rfl
        | succ m ihm =>
          rw [jW, List.getD_eq_getElem?_getD, List.getElem?_append_left (by rw [jW_len]; omega), ← List.getD_eq_getElem?_getD, ihm]
      exact (this j).symm
    rw [show jW W t n (j + 1) = jW W t n j ++ [W.getD (4 * n + j) 0 ^^^ t.getD j 0] from rfl, hg] at e
    generalize jW W t n j = X at e hX ⊢
    refine hwC mixed okA14a 100 [true] [3, 5, 6, 7, 8, 9, 65] [0, 1, 4] 5 [.at [1, 0, 0, 1, 1, 0, 0, 1, 1, 1, 0, 0, 1, 0, 0, 1, 0, 1, 1, 1], .blk 3, .at [1, 1, 1, 0, 0, 1, 1, 1, 0, 0, 1, 0, 0, 1, 0, 1, 1, 1], .lp [0, 1, 1, 1, 0, 0, 1, 0, 0, 1, 0, 1, 1, 1], .blk 2, .blk 1, .at [1, 1, 0, 0, 1, 0, 1, 1, 1], .lp [0, 1, 0, 1, 1, 1], .blk 0, .at [1, 1, 1, 1]] ⟨85, [(3, .ptr 0 0 (.c 0)), (5, .row 1 (.sl .u8 X)), (6, .u .u8 p), (7, .u .i64 (n + 4)), (8, .ptr 4 0 (.c 0)), (9, .u .i64 j), (65, .u .i64 j)], [(0, ⟨91, [.arr .u8 256 s], false⟩), (1, ⟨5, [], true⟩), (4, ⟨118, [.arr .u8 4 t], false⟩)], 5, 0⟩ [Decidable.decide (j < 4) = true] (by kernel_rfl) (by repeat' first | exact trivial | exact decide_eq_true (by omega) | omega | refine ⟨?_, ?_⟩) ?_
    refine hold_allM mixed okA14a [(0, 0, 0), (1, 0, 0), (2, 0, 0), (3, 4, 4), (4, 8, 8), (5, 0, 0), (6, 48, 48), (7, 66, 66), (8, 128, 128), (9, 0, 0), (10, 512, 512), (11, 1024, 1024), (12, 2304, 2304), (13, 4096, 4096), (14, 8193, 8193), (15, 32767, 16387)] (p := [1, 0, 0, 1, 1, 0, 0, 1, 1, 1, 0, 0, 1, 0, 0, 1, 0, 1, 1, 1]) (r := (.blk 3 :: .at [1, 1, 1, 0, 0, 1, 1, 1, 0, 0, 1, 0, 0, 1, 0, 1, 1, 1] :: stJ)) (d := Ke.mk [3, 5, 6, 7, 8, 65] [0, 1, 4] 5) (σ := sDk s X t p n j) (sc := []) (st' := [.blk 3, .at [1, 1, 1, 0, 0, 1, 1, 1, 0, 0, 1, 0, 0, 1, 0, 1, 1, 1], .lp [0, 1, 1, 1, 0, 0, 1, 0, 0, 1, 0, 1, 1, 1], .blk 2, .blk 1, .at [1, 1, 0, 0, 1, 0, 1, 1, 1], .lp [0, 1, 0, 1, 1, 1], .blk 0, .at [1, 1, 1, 1]]) (σ' := (St.mk 85 [(3, .ptr 0 0 (.c 0)), (5, .row 1 (.sl .u8 (X ++ [X.getD ((↑(4 * (n + 4)) : Int) - (16 : Int) + (↑j : Int)).toNat 0 ^^^ t.getD j 0]))), (6, .u .u8 p), (7, .u .i64 (n + 4)), (8, .ptr 4 0 (.c 0)), (65, .u .i64 j)] [(0, Bk.mk 91 [.arr .u8 256 s] false), (1, Bk.mk 5 [] true), (4, Bk.mk 118 [.arr .u8 4 t] false)] 5 0)) (ob := [4 * (n + 4) < 9223372036854775808, inR .i64 ((↑(4 * (n + 4)) : Int) - (16 : Int) + (↑j : Int)), (0 : Int) ≤ (↑(4 * (n + 4)) : Int) - (16 : Int) + (↑j : Int), ((↑(4 * (n + 4)) : Int) - (16 : Int) + (↑j : Int)).toNat < X.length, j < 4, (0 : Int) ≤ (↑(4 * (n + 4)) : Int) - (16 : Int) + (↑j : Int), ((↑(4 * (n + 4)) : Int) - (16 : Int) + (↑j : Int)).toNat < X.length, j < 4, j < 4, j < 4, j < 4, (0 : Int) ≤ (↑(4 * (n + 4)) : Int) - (16 : Int) + (↑j : Int), ((↑(4 * (n + 4)) : Int) - (16 : Int) + (↑j : Int)).toNat < X.length, j < 4, slenD (.sl .u8 (X ++ [X.getD ((↑(4 * (n + 4)) : Int) - (16 : Int) + (↑j : Int)).toNat 0 ^^^ t.getD j 0])) * 1 ≤ 140737488355328]) (sc' := []) (by kernel_rfl) (by kernel_rfl) (by kernel_rfl) (by repeat' first | exact trivial | omega | (simp only [lim]; omega) | (simp only [lo]; omega) | (simp only [slenD, SV.slen, Option.getD_some, List.length_append, List.length_cons, List.length_nil, hX, hW]; omega) | refine ⟨?_, ?_⟩) ?_
    rw [← ixe n j] at e
    refine Hold.cast (σ' := sDj s (X ++ [X.getD ((((4 * (n + 4) : Nat) : Int)) - 16 + (j : Int)).toNat 0 ^^^ t.getD j 0]) t p n j) ?_ rfl
    refine hwC mixed okA14a 100 [] [3, 5, 6, 7, 8, 65] [0, 1, 4] 5 [.lp [0, 1, 1, 1, 0, 0, 1, 0, 0, 1, 0, 1, 1, 1], .blk 2, .blk 1, .at [1, 1, 0, 0, 1, 0, 1, 1, 1], .lp [0, 1, 0, 1, 1, 1], .blk 0, .at [1, 1, 1, 1]] ⟨85, [(3, .ptr 0 0 (.c 0)), (5, .row 1 (.sl .u8 (X ++ [X.getD ((↑(4 * (n + 4)) : Int) - (16 : Int) + (↑j : Int)).toNat 0 ^^^ t.getD j 0]))), (6, .u .u8 p), (7, .u .i64 (n + 4)), (8, .ptr 4 0 (.c 0)), (65, .u .i64 (j + 1))], [(0, ⟨91, [.arr .u8 256 s], false⟩), (1, ⟨5, [], true⟩), (4, ⟨118, [.arr .u8 4 t], false⟩)], 5, 0⟩ [j + 1 < 9223372036854775808] (by kernel_rfl) (by repeat' first | exact trivial | omega | refine ⟨?_, ?_⟩) ?_
    exact e
  · have e : j = 4 := by omega
    subst e
    generalize jW W t n 4 = X at hk ⊢
    refine hwC mixed okA14a 100 [false] [3, 5, 6, 7] [0, 1] 4 [.lp [0, 1, 0, 1, 1, 1], .blk 0, .at [1, 1, 1, 1]] ⟨85, [(3, .ptr 0 0 (.c 0)), (5, .row 1 (.sl .u8 X)), (6, .u .u8 p), (7, .u .i64 (n + 4 + 1))], [(0, ⟨91, [.arr .u8 256 s], false⟩), (1, ⟨5, [], true⟩)], 4, 0⟩ [false = false, n + 4 + 1 < 9223372036854775808] (by kernel_rfl) (by repeat' first | exact trivial | exact decide_eq_false (by omega) | omega | refine ⟨?_, ?_⟩) ?_
    exact hk
theorem d_l (s key : List Nat) (hkl : key.length = 16) (hr : res = .sl .u8 (wD s key 40).1) : ∀ d n, 40 - n = d → n ≤ 40 → Hold Tryz.prog (bodyOf Tryz.f87) (Fin Tryz.prog Tryz.f87 w0 S res) w0 S stD (sD s (wD s key n).1 (wD s key n).2 n) := by
  intro d
  induction d using Nat.strongRecOn with
  | _ d ih =>
  intro n hd hn
  refine hold_unroll (c := _) rfl ?_
  by_cases hlt : n < 40
  · have e := ih (40 - (n + 1)) (by omega) (n + 1) rfl (by omega)
    have hW := wD_len (s := s) hkl n
    by_cases h4 : ((n + 4) % 4 == 0) = true
    · rw [show wD s key (n + 1) = (jW (wD s key n).1 (tB s (wD s key n).1 (wD s key n).2 n) n 4, mul8 (wD s key n).2 2) from if_pos h4] at e
      generalize wD s key n = z at e hW ⊢
      obtain ⟨W, p⟩ := z
      simp only at hW e ⊢
      have e2 := dj_l s W _ _ n hlt hW e _ 0 rfl (by omega)
      refine hold_ltW (t := 5) (id := 1) (k := .u8) (l := W) (by simp [sD]) fun hWb => ?_
      have g1 := fun i => getD_lt hWb (by decide) i
      refine hwC mixed okA14a 100 [true, true] [3, 5, 6, 7, 8, 65] [0, 1, 4] 5 [.lp [0, 1, 1, 1, 0, 0, 1, 0, 0, 1, 0, 1, 1, 1], .blk 2, .blk 1, .at [1, 1, 0, 0, 1, 0, 1, 1, 1], .lp [0, 1, 0, 1, 1, 1], .blk 0, .at [1, 1, 1, 1]] ⟨85, [(3, .ptr 0 0 (.c 0)), (5, .row 1 (.sl .u8 W)), (6, .u .u8 (mul8 p 2)), (7, .u .i64 (n + 4)), (8, .ptr 4 0 (.c 0)), (65, .c .i64 0)], [(0, ⟨91, [.arr .u8 256 s], false⟩), (1, ⟨5, [], true⟩), (4, ⟨118, [.arr .u8 4 [s.getD (W.getD ((↑(4 * (n + 4)) : Int) - (3 : Int)).toNat 0) 0 ^^^ p, s.getD (W.getD ((↑(4 * (n + 4)) : Int) - (2 : Int)).toNat 0) 0, s.getD (W.getD ((↑(4 * (n + 4)) : Int) - (1 : Int)).toNat 0) 0, s.getD (W.getD ((↑(4 * (n + 4)) : Int) - (4 : Int)).toNat 0) 0]], false⟩)], 5, 0⟩ [Decidable.decide (n + 4 < 44) = true, 4 * (n + 4) < 9223372036854775808, (0 : Int) ≤ (↑(4 * (n + 4)) : Int) - (4 : Int), ((↑(4 * (n + 4)) : Int) - (4 : Int)).toNat < W.length, 4 * (n + 4) < 9223372036854775808, (0 : Int) ≤ (↑(4 * (n + 4)) : Int) - (3 : Int), ((↑(4 * (n + 4)) : Int) - (3 : Int)).toNat < W.length, 4 * (n + 4) < 9223372036854775808, (0 : Int) ≤ (↑(4 * (n + 4)) : Int) - (2 : Int), ((↑(4 * (n + 4)) : Int) - (2 : Int)).toNat < W.length, 4 * (n + 4) < 9223372036854775808, (0 : Int) ≤ (↑(4 * (n + 4)) : Int) - (1 : Int), ((↑(4 * (n + 4)) : Int) - (1 : Int)).toNat < W.length, ((n + 4) % 4 == 0) = true, W.getD ((↑(4 * (n + 4)) : Int) - (3 : Int)).toNat 0 < 256, W.getD ((↑(4 * (n + 4)) : Int) - (3 : Int)).toNat 0 < 256, W.getD ((↑(4 * (n + 4)) : Int) - (2 : Int)).toNat 0 < 256, W.getD ((↑(4 * (n + 4)) : Int) - (2 : Int)).toNat 0 < 256, W.getD ((↑(4 * (n + 4)) : Int) - (1 : Int)).toNat 0 < 256, W.getD ((↑(4 * (n + 4)) : Int) - (1 : Int)).toNat 0 < 256, W.getD ((↑(4 * (n + 4)) : Int) - (4 : Int)).toNat 0 < 256, W.getD ((↑(4 * (n + 4)) : Int) - (4 : Int)).toNat 0 < 256] (by kernel_rfl) (by repeat' first | exact trivial | exact decide_eq_true (by omega) | exact h4 | exact g1 _ | omega | refine ⟨?_, ?_⟩) ?_
      rw [ixa, ixb, ixc, ixd]
      exact Hold.weaken e2 (by simp [wks, wk, wk0, wkB, wka, wkl, sDj, b91s, b118, bRw, lim, jW])
    · have h5 : ((n + 4) % 4 == 0) = false := by simpa using h4
      rw [show wD s key (n + 1) = (jW (wD s key n).1 (tA (wD s key n).1 n) n 4, (wD s key n).2) from if_neg h4] at e
      generalize wD s key n = z at e hW ⊢
      obtain ⟨W, p⟩ := z
      simp only at hW e ⊢
      have e2 := dj_l s W _ _ n hlt hW e _ 0 rfl (by omega)
      refine hwC mixed okA14a 100 [true, false] [3, 5, 6, 7, 8, 65] [0, 1, 4] 5 [.lp [0, 1, 1, 1, 0, 0, 1, 0, 0, 1, 0, 1, 1, 1], .blk 2, .blk 1, .at [1, 1, 0, 0, 1, 0, 1, 1, 1], .lp [0, 1, 0, 1, 1, 1], .blk 0, .at [1, 1, 1, 1]] ⟨85, [(3, .ptr 0 0 (.c 0)), (5, .row 1 (.sl .u8 W)), (6, .u .u8 p), (7, .u .i64 (n + 4)), (8, .ptr 4 0 (.c 0)), (65, .c .i64 0)], [(0, ⟨91, [.arr .u8 256 s], false⟩), (1, ⟨5, [], true⟩), (4, ⟨118, [.arr .u8 4 [W.getD ((↑(4 * (n + 4)) : Int) - (4 : Int)).toNat 0, W.getD ((↑(4 * (n + 4)) : Int) - (3 : Int)).toNat 0, W.getD ((↑(4 * (n + 4)) : Int) - (2 : Int)).toNat 0, W.getD ((↑(4 * (n + 4)) : Int) - (1 : Int)).toNat 0]], false⟩)], 5, 0⟩ [Decidable.decide (n + 4 < 44) = true, 4 * (n + 4) < 9223372036854775808, (0 : Int) ≤ (↑(4 * (n + 4)) : Int) - (4 : Int), ((↑(4 * (n + 4)) : Int) - (4 : Int)).toNat < W.length, 4 * (n + 4) < 9223372036854775808, (0 : Int) ≤ (↑(4 * (n + 4)) : Int) - (3 : Int), ((↑(4 * (n + 4)) : Int) - (3 : Int)).toNat < W.length, 4 * (n + 4) < 9223372036854775808, (0 : Int) ≤ (↑(4 * (n + 4)) : Int) - (2 : Int), ((↑(4 * (n + 4)) : Int) - (2 : Int)).toNat < W.length, 4 * (n + 4) < 9223372036854775808, (0 : Int) ≤ (↑(4 * (n + 4)) : Int) - (1 : Int), ((↑(4 * (n + 4)) : Int) - (1 : Int)).toNat < W.length, ((n + 4) % 4 == 0) = false] (by kernel_rfl) (by repeat' first | exact trivial | exact decide_eq_true (by omega) | exact h5 | omega | refine ⟨?_, ?_⟩) ?_
      rw [ixa, ixb, ixc, ixd]
      exact Hold.weaken e2 (by simp [wks, wk, wk0, wkB, wka, wkl, sDj, b91s, b118, bRw, lim, jW])
  · have e : n = 40 := by omega
    subst e
    generalize wD s key 40 = z at hr ⊢
    obtain ⟨W, p⟩ := z
    rw [hr]
    exact hwE mixed okA14a 100 [false] (.sl .u8 W) [false = false] (by kernel_rfl) (by repeat' first | exact trivial | exact decide_eq_false (by omega) | omega | refine ⟨?_, ?_⟩) (wkR_refl _)
theorem ds_c (s key : List Nat) (hk : key.length = 16) : Contract Tryz.prog 87 [.sl .u8 key, .arr .u8 256 s] (.sl .u8 (wK s key)) := by
  refine contract Tryz.func87 (body := bodyOf Tryz.f87) rfl (by kernel_rfl) (by kernel_rfl) rfl ?_
  intro _ w0 S
  refine hwC mixed okA14a 100 [] [3, 5, 6, 7] [0, 1] 4 [.lp [0, 1, 0, 1, 1, 1], .blk 0, .at [1, 1, 1, 1]] ⟨85, [(3, .ptr 0 0 (.c 0)), (5, .row 1 (.sl .u8 key)), (6, .c .u8 1), (7, .c .i64 4)], [(0, ⟨91, [.arr .u8 256 s], false⟩), (1, ⟨5, [], true⟩)], 4, 0⟩ [slenD (.sl .u8 key) * 1 ≤ 140737488355328] (by kernel_rfl) (by repeat' first | exact trivial | (simp only [slenD, SV.slen, Option.getD_some, hk]; omega) | omega | refine ⟨?_, ?_⟩) ?_
  exact Hold.weaken (d_l s key hk rfl _ 0 rfl (by omega)) (by simp [wks, wk, wk0, wkB, wka, wkl, sD, b91s, bRw, lim, wD])
def eDs (args : List SV) : Option (SV × List Prop) := match args with
  | [.sl .u8 key, .arr .u8 256 s] => some (.sl .u8 (wK s key), [key.length = 16])
  | _ => none
theorem ds_ok : ∀ args res ob, eDs args = some (res, ob) → All ob → Contract Tryz.prog 87 args res := by
  intro args res ob he hob
  unfold eDs at he
  split at he
  · cases he; exact ds_c _ _ hob.1
  · cases he
end
end Go.Eng.B

namespace Go.Eng.B
set_option maxRecDepth 100000
set_option maxHeartbeats 4000000
theorem gA {P l : List Nat} {m : Nat} (h : P.length = m) (c : Nat) : (P ++ l).getD (m + c) 0 = l.getD c 0 := by
  subst h
  rw [List.getD_eq_getElem?_getD, List.getElem?_append_right (by omega), Nat.add_sub_cancel_left, ← List.getD_eq_getElem?_getD]
theorem tA_app {P l : List Nat} {r : Nat} (h : P.length = 16 * r) (q : Nat) : tA (P ++ l) (4 * r + q) = tA l q := by
  have e : ∀ c, (P ++ l).getD (4 * (4 * r + q) + c) 0 = l.getD (4 * q + c) 0 := fun c => by
    rw [show 4 * (4 * r + q) + c = 16 * r + (4 * q + c) by omega]
    exact gA h _
  simp only [tA, e]
theorem tB_app {s P l : List Nat} {p r : Nat} (h : P.length = 16 * r) (q : Nat) : tB s (P ++ l) p (4 * r + q) = tB s l p q := by
  have e : ∀ c, (P ++ l).getD (4 * (4 * r + q) + c) 0 = l.getD (4 * q + c) 0 := fun c => by
    rw [show 4 * (4 * r + q) + c = 16 * r + (4 * q + c) by omega]
    exact gA h _
  simp only [tB, e]
theorem jW_app {P l t : List Nat} {r : Nat} (h : P.length = 16 * r) (q : Nat) : ∀ j, jW (P ++ l) t (4 * r + q) j = P ++ jW l t q j
  | 0 => rfl
  | j + 1 => by
    have e : (P ++ l).getD (4 * (4 * r + q) + j) 0 = l.getD (4 * q + j) 0 := by
      rw [show 4 * (4 * r + q) + j = 16 * r + (4 * q + j) by omega]
      exact gA h _
    simp only [jW, jW_app h q j, e, List.append_assoc]
def stp4 (s v : List Nat) (p : Nat) : List Nat :=
  jW (jW (jW (jW v (tB s v p 0) 0 4) (tA (jW v (tB s v p 0) 0 4) 1) 1 4) (tA (jW (jW v (tB s v p 0) 0 4) (tA (jW v (tB s v p 0) 0 4) 1) 1 4) 2) 2 4) (tA (jW (jW (jW v (tB s v p 0) 0 4) (tA (jW v (tB s v p 0) 0 4) 1) 1 4) (tA (jW (jW v (tB s v p 0) 0 4) (tA (jW v (tB s v p 0) 0 4) 1) 1 4) 2) 2 4) 3) 3 4
theorem wD_step {s key P v : List Nat} {p r : Nat} (hw : wD s key (4 * r) = (P ++ v, p)) (hP : P.length = 16 * r) :
    wD s key (4 * (r + 1)) = (P ++ stp4 s v p, mul8 p 2) := by
  have c0 : ((4 * r + 4) % 4 == 0) = true := by rw [beq_iff_eq]; omega
  have c1 : ¬ ((4 * r + 1 + 4) % 4 == 0) = true := by rw [beq_iff_eq]; omega
  have c2 : ¬ ((4 * r + 2 + 4) % 4 == 0) = true := by rw [beq_iff_eq]; omega
  have c3 : ¬ ((4 * r + 3 + 4) % 4 == 0) = true := by rw [beq_iff_eq]; omega
  have a0 : tB s (P ++ v) p (4 * r) = tB s v p 0 := tB_app hP 0
  have b0 : ∀ t, jW (P ++ v) t (4 * r) 4 = P ++ jW v t 0 4 := fun t => jW_app hP 0 4
  have e1 : wD s key (4 * r + 1) = (P ++ jW v (tB s v p 0) 0 4, mul8 p 2) := by
    rw [wD, if_pos c0, hw]
    simp only [a0, b0]
  have e2 : wD s key (4 * r + 2) = (P ++ jW (jW v (tB s v p 0) 0 4) (tA (jW v (tB s v p 0) 0 4) 1) 1 4, mul8 p 2) := by
    rw [wD, if_neg c1, e1]
    simp only [tA_app hP, jW_app hP]
  have e3 : wD s key (4 * r + 3) = (P ++ jW (jW (jW v (tB s v p 0) 0 4) (tA (jW v (tB s v p 0) 0 4) 1) 1 4) (tA (jW (jW v (tB s v p 0) 0 4) (tA (jW v (tB s v p 0) 0 4) 1) 1 4) 2) 2 4, mul8 p 2) := by
    rw [wD, if_neg c2, e2]
    simp only [tA_app hP, jW_app hP]
  have e4 : wD s key (4 * r + 4) = (P ++ stp4 s v p, mul8 p 2) := by
    rw [wD, if_neg c3, e3]
    simp only [tA_app hP, jW_app hP, stp4]
  exact e4
theorem st4_eq {s v : List Nat} {p : Nat} (h : v.length = 16) : stp4 s v p = v ++ nk s p v := by
  obtain ⟨x0, x1, x2, x3, x4, x5, x6, x7, x8, x9, x10, x11, x12, x13, x14, x15, rfl⟩ := list16 h
  simp [stp4, jW, tA, tB, nk, nkI, nkT, z16, List.replicate]
  repeat' constructor
  all_goals first | rfl | ac_rfl
theorem nk_len {s v : List Nat} {p : Nat} : (nk s p v).length = 16 := by
  have : ∀ k, (nkI s p v k).1.length = 16 := by
    intro k
    induction k with
    | zero => rfl
    | succ k ih => simp only [nkI, List.length_set, ih]
  exact this 16
theorem kL_len {s key : List Nat} (h : key.length = 16) : ∀ r, (kyL s key r).length = 16
  | 0 => h
  | _ + 1 => nk_len
theorem mul_dbl : ∀ x, x < 256 → mul8 x 2 = dbl x ∧ dbl x < 256 := by decide +kernel
theorem rc_lt : ∀ r, rc r < 256
  | 0 => by decide
  | r + 1 => (mul_dbl _ (rc_lt r)).2
def flat (s key : List Nat) : Nat → List Nat
  | 0 => []
  | r + 1 => flat s key r ++ kyL s key r
theorem flat_len {s key : List Nat} (h : key.length = 16) : ∀ r, (flat s key r).length = 16 * r
  | 0 => rfl
  | r + 1 => by simp only [flat, List.length_append, flat_len h r, kL_len h r]; omega
theorem wD_flat {s key : List Nat} (h : key.length = 16) : ∀ r, wD s key (4 * r) = (flat s key r ++ kyL s key r, rc r)
  | 0 => rfl
  | r + 1 => by
    rw [wD_step (wD_flat h r) (flat_len h r), st4_eq (kL_len h r), (mul_dbl _ (rc_lt r)).1]
    simp only [flat, kyL, rc, List.append_assoc]
theorem wD_part {s key : List Nat} (h : key.length = 16) {r : Nat} (hr : r ≤ 10) : (((wK s key).take (16 * r + 16)).drop (16 * r)) = kyL s key r := by
  unfold wK
  have e : ∀ m, r ≤ m → ((flat s key m ++ kyL s key m).take (16 * r + 16)).drop (16 * r) = kyL s key r := by
    intro m
    induction m with
    | zero =>
      intro h0
      obtain rfl : r = 0 := by omega
      simp [flat, kyL, List.take_of_length_le, h]
    | succ m ih =>
      intro hm
      have hl := flat_len (s := s) h (m + 1)
      have hk := kL_len (s := s) h (m + 1)
      rcases Nat.lt_or_ge m r with hlt | hge
      · obtain rfl : r = m + 1 := by omega
        rw [List.take_of_length_le (by simp only [List.length_append]; omega), List.drop_append_of_le_length (by omega), List.drop_of_length_le (by omega), List.nil_append]
      · rw [List.take_append_of_le_length (by omega)]
        exact ih hge
  rw [show (40 : Nat) = 4 * 10 from rfl, wD_flat h 10]
  exact e 10 hr
theorem wK_len {s key : List Nat} (h : key.length = 16) : (wK s key).length = 176 := wD_len h 40
end Go.Eng.B

namespace Go.Eng.B
open Go Go.Eng Go.Proofs
set_option maxRecDepth 100000
set_option maxHeartbeats 1000000
def kp (W : List Nat) (r : Nat) : List Nat := (W.take (16 * r + 16)).drop (16 * r)
def dA (s W a : List Nat) : Nat → List Nat
  | 0 => a
  | n + 1 => if n + 1 < 10 then xrI (dmC (shDC s (dA s W a n) 4) [2, 3, 1, 1] 4) (kp W (n + 1)) 16 else xrI (shDC s (dA s W a n) 4) (kp W (n + 1)) 16
def dEn (key x : List Nat) : List Nat := encW sbx x (kyL sbx key 0) (kyL sbx key 1) (kyL sbx key 2) (kyL sbx key 3) (kyL sbx key 4) (kyL sbx key 5) (kyL sbx key 6) (kyL sbx key 7) (kyL sbx key 8) (kyL sbx key 9) (kyL sbx key 10)
def stE16 : List It := [.lp [0, 1, 0, 1, 1, 1, 1, 1], .blk 0, .at [1, 1, 1, 1, 1, 1]]
def sE16 (s W a : List Nat) (n : Nat) : St := ⟨75, [(6, .ptr 0 0 (.c 0)), (7, .sl .u8 W), (8, .ptr 1 0 (.c 0)), (9, .u .i64 (n + 1))], [(0, b91s s), (1, b77 a)], 2, 0⟩
noncomputable def A16a : Ctr := addC 86 eSubD (addC 87 eDs (addC 88 eXd (addC 89 eMixD ctr0)))
theorem okA16a : CtrOk Tryz.prog A16a := addC_ok (addC_ok (addC_ok (addC_ok ctr0_ok mixd_ok) xd_ok) ds_ok) dsub_ok
def eR (s key x : List Nat) : Nat → List Nat
  | 0 => xrI x (kyL s key 0) 16
  | n + 1 => encR s (eR s key x n) (kyL s key (n + 1))
theorem eR_len {s key x : List Nat} (hx : x.length = 16) : ∀ n, (eR s key x n).length = 16
  | 0 => xrI_len hx 16
  | n + 1 => by
    show (encR s (eR s key x n) (kyL s key (n + 1))).length = 16
    unfold encR
    exact xrI_len (mxI_len (shI_len (eR_len hx n) 16) 16) 16
theorem dA_eq {s key x : List Nat} (hk : key.length = 16) (hx : x.length = 16) : ∀ n, n ≤ 9 → dA s (wK s key) (xrI x (kyL s key 0) 16) n = eR s key x n
  | 0, _ => rfl
  | n + 1, h => by
    have hl := eR_len (s := s) (key := key) hx n
    simp only [dA, eR, encR]
    rw [if_pos (by omega), dA_eq hk hx n (by omega), ← sh_eq hl, ← mix_eq (shI_len hl 16)]
    rw [show kp (wK s key) (n + 1) = kyL s key (n + 1) from wD_part hk (by omega)]
theorem dA_enc {key x : List Nat} (hk : key.length = 16) (hx : x.length = 16) : dA sbx (wK sbx key) (xrI (x.take 16) (List.drop 0 (List.take 16 (wK sbx key))) 16) 10 = dEn key x := by
  have h0 : List.drop 0 (List.take 16 (wK sbx key)) = kyL sbx key 0 := wD_part (r := 0) hk (by omega)
  rw [h0, List.take_of_length_le (by omega)]
  have h9 := dA_eq (s := sbx) hk hx 9 (by omega)
  have hl := eR_len (s := sbx) (key := key) hx 9
  rw [show dA sbx (wK sbx key) (xrI x (kyL sbx key 0) 16) 10 = xrI (shDC sbx (dA sbx (wK sbx key) (xrI x (kyL sbx key 0) 16) 9) 4) (kp (wK sbx key) 10) 16 from if_neg (by decide)]
  rw [h9, ← sh_eq hl, show kp (wK sbx key) 10 = kyL sbx key 10 from wD_part hk (by omega)]
  rfl
section
variable {w0 : Fr} {S : Own} {r : MRes}
theorem er_l (s W a : List Nat) (hW : W.length = 176) (hr : r = ⟨.tup [.row 0 (.sl .u8 (dA s W a 10)), .c .i64 0], [], [bRw]⟩) : ∀ d n, 10 - n = d → n ≤ 10 → Hold Tryz.prog (bodyOf Tryz.f69) (FinM Tryz.prog Tryz.f69 w0 S r) w0 S stE16 (sE16 s W (dA s W a n) n) := by
  intro d
  induction d using Nat.strongRecOn with
  | _ d ih =>
  intro n hd hn
  refine hold_unroll (c := _) rfl ?_
  by_cases hlt : n < 10
  · have e := ih (10 - (n + 1)) (by omega) (n + 1) rfl (by omega)
    refine hold_ltB (id := 1) (bk := b77 (dA s W a n)) (k := .u8) (n := 16) (l := dA s W a n) (by simp [sE16]) rfl (by simp [b77]) fun hA hAb => ?_
    have g1 := fun i => getD_lt hAb (by decide) i
    by_cases h9 : n + 1 < 10
    · rw [show dA s W a (n + 1) = xrI (dmC (shDC s (dA s W a n) 4) [2, 3, 1, 1] 4) (kp W (n + 1)) 16 from if_pos h9] at e
      generalize dA s W a n = A at e hA g1 ⊢
      refine hwD mixed okA16a 324 [true, true] [6, 7, 8, 9] [0, 1] 2 [.lp [0, 1, 0, 1, 1, 1, 1, 1], .blk 0, .at [1, 1, 1, 1, 1, 1]] ⟨75, [(6, .ptr 0 0 (.c 0)), (7, .sl .u8 W), (8, .ptr 1 0 (.c 0)), (9, .u .i64 (n + 1 + 1))], [(0, ⟨91, [.arr .u8 256 s], false⟩), (1, ⟨77, [.arr .u8 16 (xrI (dmC [s.getD (A.getD 0 0) 0, s.getD (A.getD 5 0) 0, s.getD (A.getD 10 0) 0, s.getD (A.getD 15 0) 0, s.getD (A.getD 4 0) 0, s.getD (A.getD 9 0) 0, s.getD (A.getD 14 0) 0, s.getD (A.getD 3 0) 0, s.getD (A.getD 8 0) 0, s.getD (A.getD 13 0) 0, s.getD (A.getD 2 0) 0, s.getD (A.getD 7 0) 0, s.getD (A.getD 12 0) 0, s.getD (A.getD 1 0) 0, s.getD (A.getD 6 0) 0, s.getD (A.getD 11 0) 0] [2, 3, 1, 1] 4) (List.drop (16 * (n + 1)) (List.take (16 * (n + 1) + 16) W)) 16)], false⟩)], 2, 0⟩ [Decidable.decide (n + 1 ≤ 10) = true, A.getD 0 0 < 256, A.getD 0 0 < 256, A.getD 5 0 < 256, A.getD 5 0 < 256, A.getD 10 0 < 256, A.getD 10 0 < 256, A.getD 15 0 < 256, A.getD 15 0 < 256, A.getD 4 0 < 256, A.getD 4 0 < 256, A.getD 9 0 < 256, A.getD 9 0 < 256, A.getD 14 0 < 256, A.getD 14 0 < 256, A.getD 3 0 < 256, A.getD 3 0 < 256, A.getD 8 0 < 256, A.getD 8 0 < 256, A.getD 13 0 < 256, A.getD 13 0 < 256, A.getD 2 0 < 256, A.getD 2 0 < 256, A.getD 7 0 < 256, A.getD 7 0 < 256, A.getD 12 0 < 256, A.getD 12 0 < 256, A.getD 1 0 < 256, A.getD 1 0 < 256, A.getD 6 0 < 256, A.getD 6 0 < 256, A.getD 11 0 < 256, A.getD 11 0 < 256, Decidable.decide (n + 1 < 10) = true, 16 * (n + 1) < 9223372036854775808, 16 * (n + 1) < 9223372036854775808, 16 * (n + 1) + 16 < 9223372036854775808, 16 * (n + 1) ≤ 16 * (n + 1) + 16, 16 * (n + 1) + 16 ≤ W.length, 16 ≤ (List.drop (16 * (n + 1)) (List.take (16 * (n + 1) + 16) W)).length, n + 1 + 1 < 9223372036854775808] (by kernel_rfl) (by repeat' first | exact trivial | exact decide_eq_true (by omega) | exact decide_eq_false (by omega) | exact bne_eq_false_iff_eq.mpr (by omega) | exact g1 _ | omega | (simp only [List.length_drop, List.length_take, hW]; omega) | (simp only [slenD, SV.slen, Option.getD_some, xrI_len, hA]; omega) | refine ⟨?_, ?_⟩) ?_
      exact e
    · rw [show dA s W a (n + 1) = xrI (shDC s (dA s W a n) 4) (kp W (n + 1)) 16 from if_neg h9] at e
      generalize dA s W a n = A at e hA g1 ⊢
      refine hwD mixed okA16a 324 [true, false] [6, 7, 8, 9] [0, 1] 2 [.lp [0, 1, 0, 1, 1, 1, 1, 1], .blk 0, .at [1, 1, 1, 1, 1, 1]] ⟨75, [(6, .ptr 0 0 (.c 0)), (7, .sl .u8 W), (8, .ptr 1 0 (.c 0)), (9, .u .i64 (n + 1 + 1))], [(0, ⟨91, [.arr .u8 256 s], false⟩), (1, ⟨77, [.arr .u8 16 (xrI [s.getD (A.getD 0 0) 0, s.getD (A.getD 5 0) 0, s.getD (A.getD 10 0) 0, s.getD (A.getD 15 0) 0, s.getD (A.getD 4 0) 0, s.getD (A.getD 9 0) 0, s.getD (A.getD 14 0) 0, s.getD (A.getD 3 0) 0, s.getD (A.getD 8 0) 0, s.getD (A.getD 13 0) 0, s.getD (A.getD 2 0) 0, s.getD (A.getD 7 0) 0, s.getD (A.getD 12 0) 0, s.getD (A.getD 1 0) 0, s.getD (A.getD 6 0) 0, s.getD (A.getD 11 0) 0] (List.drop (16 * (n + 1)) (List.take (16 * (n + 1) + 16) W)) 16)], false⟩)], 2, 0⟩ [Decidable.decide (n + 1 ≤ 10) = true, A.getD 0 0 < 256, A.getD 0 0 < 256, A.getD 5 0 < 256, A.getD 5 0 < 256, A.getD 10 0 < 256, A.getD 10 0 < 256, A.getD 15 0 < 256, A.getD 15 0 < 256, A.getD 4 0 < 256, A.getD 4 0 < 256, A.getD 9 0 < 256, A.getD 9 0 < 256, A.getD 14 0 < 256, A.getD 14 0 < 256, A.getD 3 0 < 256, A.getD 3 0 < 256, A.getD 8 0 < 256, A.getD 8 0 < 256, A.getD 13 0 < 256, A.getD 13 0 < 256, A.getD 2 0 < 256, A.getD 2 0 < 256, A.getD 7 0 < 256, A.getD 7 0 < 256, A.getD 12 0 < 256, A.getD 12 0 < 256, A.getD 1 0 < 256, A.getD 1 0 < 256, A.getD 6 0 < 256, A.getD 6 0 < 256, A.getD 11 0 < 256, A.getD 11 0 < 256, Decidable.decide (n + 1 < 10) = false, 16 * (n + 1) < 9223372036854775808, 16 * (n + 1) < 9223372036854775808, 16 * (n + 1) + 16 < 9223372036854775808, 16 * (n + 1) ≤ 16 * (n + 1) + 16, 16 * (n + 1) + 16 ≤ W.length, 16 ≤ (List.drop (16 * (n + 1)) (List.take (16 * (n + 1) + 16) W)).length, n + 1 + 1 < 9223372036854775808] (by kernel_rfl) (by repeat' first | exact trivial | exact decide_eq_true (by omega) | exact decide_eq_false (by omega) | exact bne_eq_false_iff_eq.mpr (by omega) | exact g1 _ | omega | (simp only [List.length_drop, List.length_take, hW]; omega) | (simp only [slenD, SV.slen, Option.getD_some, xrI_len, hA]; omega) | refine ⟨?_, ?_⟩) ?_
      exact e
  · have e : n = 10 := by omega
    subst e
    refine hold_ltB (id := 1) (bk := b77 (dA s W a 10)) (k := .u8) (n := 16) (l := dA s W a 10) (by simp [sE16]) rfl (by simp [b77]) fun hA _ => ?_
    generalize dA s W a 10 = A at hr hA ⊢
    rw [hr]
    exact hold_endNw mixed okA16a (news := [2]) (unroll := false) (f := 100) (sc := [false]) (r := { res := .tup [.row 0 (.sl .u8 A), .c .i64 0], upd := [], new := [⟨5, [], true⟩] }) (ob := [false = false, slenD (.sl .u8 A) * 1 ≤ 140737488355328]) (sc' := []) (by kernel_rfl) (by repeat' first | exact trivial | exact decide_eq_true (by omega) | exact decide_eq_false (by omega) | exact bne_eq_false_iff_eq.mpr (by omega) | exact g1 _ | omega | (simp only [List.length_drop, List.length_take, hW]; omega) | (simp only [slenD, SV.slen, Option.getD_some, xrI_len, hA]; omega) | refine ⟨?_, ?_⟩) (wkM_of rfl)
theorem er_m (key x : List Nat) (hk : key.length = 16) (hx : x.length = 16) : ContractM Tryz.prog 69 [] [.sl .u8 key, .sl .u8 x] ⟨.tup [.row 0 (.sl .u8 (dEn key x)), .c .i64 0], [], [bRw]⟩ := by
  refine contractM Tryz.func69 (body := bodyOf Tryz.f69) rfl (by kernel_rfl) (by kernel_rfl) rfl rfl ?_
  rintro _ _ w0 S _
  have hW := wK_len (s := sbx) hk
  refine hwC mixed okA16a 100 [false, false] [6, 7, 8, 9] [0, 1] 2 [.lp [0, 1, 0, 1, 1, 1, 1, 1], .blk 0, .at [1, 1, 1, 1, 1, 1]] ⟨75, [(6, .ptr 0 0 (.c 0)), (7, .sl .u8 (wK sbx key)), (8, .ptr 1 0 (.c 0)), (9, .c .i64 1)], [(0, ⟨91, [.arr .u8 256 sbx], false⟩), (1, ⟨77, [.arr .u8 16 (xrI (List.take 16 x) (List.drop 0 (List.take 16 (wK sbx key))) 16)], false⟩)], 2, 0⟩ [(key.length != 16) = false, (x.length != 16) = false, key.length = 16, 16 ≤ x.length, 0 ≤ 16, 16 ≤ (wK sbx key).length, 16 ≤ (List.drop 0 (List.take 16 (wK sbx key))).length] (by kernel_rfl) ⟨bne_eq_false_iff_eq.mpr hk, bne_eq_false_iff_eq.mpr hx, hk, Nat.le_of_eq hx.symm, by decide, by rw [hW]; decide, by rw [List.length_drop, List.length_take, hW]; decide, trivial⟩ ?_
  have h1 := er_l (w0 := w0) (S := S) (r := ⟨.tup [.row 0 (.sl .u8 (dEn key x)), .c .i64 0], [], [bRw]⟩) sbx (wK sbx key) (xrI (x.take 16) (List.drop 0 (List.take 16 (wK sbx key))) 16) hW (by rw [dA_enc hk hx]) _ 0 rfl (by omega)
  rw [dA] at h1
  generalize xrI (x.take 16) (List.drop 0 (List.take 16 (wK sbx key))) 16 = a0 at h1 ⊢
  generalize wK sbx key = W at h1 ⊢
  exact Hold.weaken h1 (by simp [wks, wk, wk0, wkB, wka, wkl, sE16, b91s, b77, lim])
end
end Go.Eng.B

namespace Go.Eng.B
open Go Go.Eng Go.Proofs
set_option maxRecDepth 100000
set_option maxHeartbeats 1000000
def blk (f : Nat) (nonce : List Nat) (n : Nat) : List Nat := f :: (nonce ++ List.replicate (13 - nonce.length) 0 ++ [n / 256 % 256, n % 256])
def eBk (args : List SV) : Option (SV × List Prop) := match args with
  | [x, .sl .u8 nonce, y] => match x.nat?, y.nat? with
    | some (.u8, f), some (.i64, n) => some (.arr .u8 16 (blk f nonce n), [7 ≤ nonce.length, nonce.length ≤ 13, n < 65536])
    | _, _ => none
  | _ => none
def cI (f : Int) (nonce : List Nat) (n : Nat) : Nat → List Nat
  | 0 => (f % 256).toNat :: nonce
  | k + 1 => cI f nonce n k ++ [n / 2 ^ (8 * (14 - nonce.length - k)) % 256]
def stCt : List It := [.lp [0, 1, 0, 1, 1], .blk 0, .at [1, 1, 1]]
def sCt (f : Int) (nonce X : List Nat) (n j : Nat) : St := ⟨36, [(0, .i .i64 f), (1, .sl .u8 nonce), (2, .u .i64 n), (7, .row 1 (.sl .u8 X)), (8, .i .i64 (14 - (nonce.length : Int) - (j : Int)))], [(1, bRw)], 4, 0⟩
theorem rep15 {m : Nat} (h : m ≤ 13) : List.replicate (15 - m) 0 = List.replicate (13 - m) 0 ++ [0, 0] := by
  rw [show ([0, 0] : List Nat) = List.replicate 2 0 from rfl, List.replicate_append_replicate, show 13 - m + 2 = 15 - m by omega]
theorem bk_base {f : Nat} {nonce : List Nat} (h : nonce.length ≤ 13) : f :: (List.take 15 nonce ++ List.drop (1 + min nonce.length 15) [f, 0, 0, 0, 0, 0, 0, 0, 0, 0, 0, 0, 0, 0, 0, 0]) = (f :: (nonce ++ List.replicate (13 - nonce.length) 0)) ++ [0, 0] := by
  have e : List.drop (1 + min nonce.length 15) [f, 0, 0, 0, 0, 0, 0, 0, 0, 0, 0, 0, 0, 0, 0, 0] = List.replicate (15 - nonce.length) 0 := by
    rw [show 1 + min nonce.length 15 = nonce.length + 1 by omega, List.drop_succ_cons, show [0, 0, 0, 0, 0, 0, 0, 0, 0, 0, 0, 0, 0, 0, 0] = List.replicate 15 0 from rfl, List.drop_replicate]
  rw [e, List.take_of_length_le (by omega), rep15 h]
  simp only [List.cons_append, List.append_assoc]
theorem bk_set1 {A : List Nat} (h : A.length = 14) (x y a : Nat) : (A ++ [x, y]).set 15 a = A ++ [x, a] := by
  rw [List.set_append_right _ _ (by omega), show 15 - A.length = 1 by omega]
  rfl
theorem bk_set0 {A : List Nat} (h : A.length = 14) (x y a : Nat) : (A ++ [x, y]).set 14 a = A ++ [a, y] := by
  rw [List.set_append_right _ _ (by omega), show 14 - A.length = 0 by omega]
  rfl
theorem bk_eq {f : Nat} {nonce : List Nat} {n : Nat} : blk f nonce n = (f :: (nonce ++ List.replicate (13 - nonce.length) 0)) ++ [n / 256 % 256, n % 256] := by
  simp only [blk, List.cons_append, List.append_assoc]
theorem bk_len0 {f : Nat} {nonce : List Nat} (h : nonce.length ≤ 13) : (f :: (nonce ++ List.replicate (13 - nonce.length) 0)).length = 14 := by
  simp only [List.length_cons, List.length_append, List.length_replicate]; omega
theorem blk_len {f : Nat} {nonce : List Nat} {n : Nat} (h : nonce.length ≤ 13) : (blk f nonce n).length = 16 := by
  rw [bk_eq, List.length_append, bk_len0 h]; rfl
section
variable {w0 : World} {S : Own} {res : SV}
theorem bk_c (f : Nat) (nonce : List Nat) (n : Nat) (h1 : 7 ≤ nonce.length) (h2 : nonce.length ≤ 13) (hn : n < 65536) : Contract Tryz.prog 67 [.u .u8 f, .sl .u8 nonce, .u .i64 n] (.arr .u8 16 (blk f nonce n)) := by
  refine contract Tryz.func67 (body := bodyOf Tryz.f67) rfl (by kernel_rfl) (by kernel_rfl) rfl ?_
  intro _ w0 S
  have hA := bk_len0 (f := f) h2
  by_cases c0 : n = 0
  · have e : blk f nonce n = f :: (List.take 15 nonce ++ List.drop (1 + min nonce.length 15) [f, 0, 0, 0, 0, 0, 0, 0, 0, 0, 0, 0, 0, 0, 0, 0]) := by
      rw [bk_base h2, bk_eq, c0]
    rw [e]
    exact hwF mixed ctr0_ok 400 [true, false] (.arr .u8 16 (f :: (List.take 15 nonce ++ List.drop (1 + Min.min nonce.length 15) [f, 0, 0, 0, 0, 0, 0, 0, 0, 0, 0, 0, 0, 0, 0, 0]))) [Decidable.decide (nonce.length < 15) = true, Decidable.decide (0 < n) = false] (by kernel_rfl) (by repeat' first | exact trivial | exact decide_eq_true (by omega) | exact decide_eq_false (by omega) | omega | refine ⟨?_, ?_⟩) (wkR_refl _)
  by_cases c1 : n < 256
  · have e : blk f nonce n = (f :: (List.take 15 nonce ++ List.drop (1 + min nonce.length 15) [f, 0, 0, 0, 0, 0, 0, 0, 0, 0, 0, 0, 0, 0, 0, 0])).set 15 (n % 256) := by
      rw [bk_base h2, bk_eq, bk_set1 hA, show n / 256 % 256 = 0 by omega]
    rw [e]
    exact hwF mixed ctr0_ok 400 [true, true, true, false] (.arr .u8 16 ((f :: (List.take 15 nonce ++ List.drop (1 + Min.min nonce.length 15) [f, 0, 0, 0, 0, 0, 0, 0, 0, 0, 0, 0, 0, 0, 0, 0])).set 15 (n % 256))) [Decidable.decide (nonce.length < 15) = true, Decidable.decide (0 < n) = true, Decidable.decide (nonce.length < 14) = true, Decidable.decide (0 < n / 256) = false] (by kernel_rfl) (by repeat' first | exact trivial | exact decide_eq_true (by omega) | exact decide_eq_false (by omega) | omega | refine ⟨?_, ?_⟩) (wkR_refl _)
  have e : blk f nonce n = ((f :: (List.take 15 nonce ++ List.drop (1 + min nonce.length 15) [f, 0, 0, 0, 0, 0, 0, 0, 0, 0, 0, 0, 0, 0, 0, 0])).set 15 (n % 256)).set 14 (n / 256 % 256) := by
    rw [bk_base h2, bk_eq, bk_set1 hA, bk_set0 hA]
  rw [e]
  by_cases c2 : nonce.length < 13
  · exact hwF mixed ctr0_ok 400 [true, true, true, true, true, false] (.arr .u8 16 (((f :: (List.take 15 nonce ++ List.drop (1 + Min.min nonce.length 15) [f, 0, 0, 0, 0, 0, 0, 0, 0, 0, 0, 0, 0, 0, 0, 0])).set 15 (n % 256)).set 14 (n / 256 % 256))) [Decidable.decide (nonce.length < 15) = true, Decidable.decide (0 < n) = true, Decidable.decide (nonce.length < 14) = true, Decidable.decide (0 < n / 256) = true, Decidable.decide (nonce.length < 13) = true, Decidable.decide (0 < n / 256 / 256) = false] (by kernel_rfl) (by repeat' first | exact trivial | exact decide_eq_true (by omega) | exact decide_eq_false (by omega) | omega | refine ⟨?_, ?_⟩) (wkR_refl _)
  · exact hwF mixed ctr0_ok 400 [true, true, true, true, false] (.arr .u8 16 (((f :: (List.take 15 nonce ++ List.drop (1 + Min.min nonce.length 15) [f, 0, 0, 0, 0, 0, 0, 0, 0, 0, 0, 0, 0, 0, 0, 0])).set 15 (n % 256)).set 14 (n / 256 % 256))) [Decidable.decide (nonce.length < 15) = true, Decidable.decide (0 < n) = true, Decidable.decide (nonce.length < 14) = true, Decidable.decide (0 < n / 256) = true, Decidable.decide (nonce.length < 13) = false] (by kernel_rfl) (by repeat' first | exact trivial | exact decide_eq_true (by omega) | exact decide_eq_false (by omega) | omega | refine ⟨?_, ?_⟩) (wkR_refl _)
theorem bk_ok : ∀ args res ob, eBk args = some (res, ob) → All ob → Contract Tryz.prog 67 args res := by
  intro args res ob he hob
  unfold eBk at he
  split at he
  · split at he
    · rename_i hx hy
      cases he
      refine Contract.argsH (bk_c _ _ _ hob.1 hob.2.1 hob.2.2.1) fun hv => ?_
      obtain ⟨_, _, rfl, r1, _, _, rfl, r2, _, _, rfl, r3, rfl⟩ := hv
      exact ⟨_, _, rfl, nat?_wk hx r1, _, _, rfl, r2, _, _, rfl, nat?_wk hy r3, rfl⟩
    · cases he
  · cases he
end
theorem cI_len {f : Int} {nonce : List Nat} {n : Nat} : ∀ k, (cI f nonce n k).length = nonce.length + 1 + k
  | 0 => rfl
  | k + 1 => by simp only [cI, List.length_append, cI_len k, List.length_cons, List.length_nil]; omega
theorem cI_blk {f : Int} {nonce : List Nat} {n : Nat} (h1 : 7 ≤ nonce.length) (h2 : nonce.length ≤ 13) (hn : n < 65536) : cI f nonce n (15 - nonce.length) = blk (f % 256).toNat nonce n := by
  have hz : ∀ j, 2 ≤ j → n / 2 ^ (8 * j) % 256 = 0 := fun j hj => by
    rw [Nat.div_eq_of_lt]
    exact Nat.lt_of_lt_of_le hn (by rw [show (65536 : Nat) = 2 ^ 16 from rfl]; exact Nat.pow_le_pow_right (by omega) (by omega))
  have e : ∀ k, k ≤ 13 - nonce.length → cI f nonce n k = (f % 256).toNat :: nonce ++ List.replicate k 0 := by
    intro k
    induction k with
    | zero => intro _; simp [cI]
    | succ k ih =>
      intro hk
      rw [cI, ih (by omega), hz _ (by omega), List.replicate_succ', List.append_assoc]
  have s1 : cI f nonce n (15 - nonce.length) = cI f nonce n (13 - nonce.length) ++ [n / 2 ^ (8 * 1) % 256] ++ [n / 2 ^ (8 * 0) % 256] := by
    rw [show 15 - nonce.length = (13 - nonce.length) + 1 + 1 by omega, cI, cI, show 14 - nonce.length - (13 - nonce.length) = 1 by omega, show 14 - nonce.length - (13 - nonce.length + 1) = 0 by omega]
  rw [s1, e _ (Nat.le_refl _), bk_eq]
  simp
section
variable {w0 : Fr} {S : Own} {r : MRes}
theorem ct_l (f : Int) (nonce : List Nat) (n : Nat) (h1 : 7 ≤ nonce.length) (h2 : nonce.length ≤ 13) (hr : r = ⟨.row 0 (.sl .u8 (cI f nonce n (15 - nonce.length))), [], [bRw]⟩) : ∀ d j, 15 - nonce.length - j = d → j ≤ 15 - nonce.length → Hold Tryz.prog (bodyOf Tryz.f70) (FinM Tryz.prog Tryz.f70 w0 S r) w0 S stCt (sCt f nonce (cI f nonce n j) n j) := by
  intro d
  induction d using Nat.strongRecOn with
  | _ d ih =>
  intro j hd hj
  have hX := cI_len (f := f) (nonce := nonce) (n := n) j
  refine hold_unroll (c := _) rfl ?_
  by_cases hlt : j < 15 - nonce.length
  · have e := ih (15 - nonce.length - (j + 1)) (by omega) (j + 1) rfl (by omega)
    have z : 8 * ((14 - (nonce.length : Int) - (j : Int)) % 18446744073709551616).toNat % 18446744073709551616 = 8 * (14 - nonce.length - j) := by omega
    rw [show cI f nonce n (j + 1) = cI f nonce n j ++ [n / 2 ^ (8 * (14 - nonce.length - j)) % 256] from rfl, ← z] at e
    have z2 : 14 - (nonce.length : Int) - ((j + 1 : Nat) : Int) = 14 - (nonce.length : Int) - (j : Int) - 1 := by omega
    rw [sCt, z2] at e
    generalize cI f nonce n j = X at e hX ⊢
    refine hwC mixed ctr0_ok 100 [true, false] [0, 1, 2, 7, 8] [1] 4 [.lp [0, 1, 0, 1, 1], .blk 0, .at [1, 1, 1]] ⟨36, [(0, .i .i64 f), (1, .sl .u8 nonce), (2, .u .i64 n), (7, .row 1 (.sl .u8 (X ++ [n / 2 ^ (8 * (((14 : Int) - (↑nonce.length : Int) - (↑j : Int)) % (18446744073709551616 : Int)).toNat % 18446744073709551616) % 256]))), (8, .i .i64 ((14 : Int) - (↑nonce.length : Int) - (↑j : Int) - (1 : Int)))], [(1, ⟨5, [], true⟩)], 4, 0⟩ [Decidable.decide ((0 : Int) ≤ (14 : Int) - (↑nonce.length : Int) - (↑j : Int)) = true, Decidable.decide ((7 : Int) < (14 : Int) - (↑nonce.length : Int) - (↑j : Int)) = false, 8 * (((14 : Int) - (↑nonce.length : Int) - (↑j : Int)) % (18446744073709551616 : Int)).toNat % 18446744073709551616 < 64, slenD (.sl .u8 (X ++ [n / 2 ^ (8 * (((14 : Int) - (↑nonce.length : Int) - (↑j : Int)) % (18446744073709551616 : Int)).toNat % 18446744073709551616) % 256])) * 1 ≤ 140737488355328, inR .i64 ((14 : Int) - (↑nonce.length : Int) - (↑j : Int) - (1 : Int))] (by kernel_rfl) (by repeat' first | exact trivial | exact decide_eq_true (by omega) | exact decide_eq_false (by omega) | omega | (simp only [lim]; omega) | (simp only [lo]; omega) | (simp only [slenD, SV.slen, Option.getD_some, List.length_append, List.length_cons, List.length_nil, hX]; omega) | refine ⟨?_, ?_⟩) ?_
    exact e
  · have e : j = 15 - nonce.length := by omega
    subst e
    generalize cI f nonce n (15 - nonce.length) = X at hr hX ⊢
    rw [hr]
    exact hold_endNw mixed ctr0_ok (news := [1]) (unroll := false) (f := 100) (sc := [false]) (r := { res := .row 0 (.sl .u8 X), upd := [], new := [⟨5, [], true⟩] }) (ob := [Decidable.decide ((0 : Int) ≤ (14 : Int) - (↑nonce.length : Int) - (↑(15 - nonce.length) : Int)) = false]) (sc' := []) (by kernel_rfl) (by repeat' first | exact trivial | exact decide_eq_true (by omega) | exact decide_eq_false (by omega) | omega | (simp only [lim]; omega) | (simp only [lo]; omega) | (simp only [slenD, SV.slen, Option.getD_some, List.length_append, List.length_cons, List.length_nil, hX]; omega) | refine ⟨?_, ?_⟩) (wkM_of rfl)
theorem ct_m (f : Int) (nonce : List Nat) (n : Nat) (h1 : 7 ≤ nonce.length) (h2 : nonce.length ≤ 13) (hn : n < 65536) : ContractM Tryz.prog 70 [] [.i .i64 f, .sl .u8 nonce, .u .i64 n] ⟨.row 0 (.sl .u8 (blk (f % 256).toNat nonce n)), [], [bRw]⟩ := by
  refine contractM Tryz.func70 (body := bodyOf Tryz.f70) rfl (by kernel_rfl) (by kernel_rfl) rfl rfl ?_
  rintro _ _ w0 S _
  refine hwC mixed ctr0_ok 100 [] [0, 1, 2, 7, 8] [1] 4 [.lp [0, 1, 0, 1, 1], .blk 0, .at [1, 1, 1]] ⟨36, [(0, .i .i64 f), (1, .sl .u8 nonce), (2, .u .i64 n), (7, .row 1 (.sl .u8 ((f % (256 : Int)).toNat :: nonce))), (8, .i .i64 ((14 : Int) - (↑nonce.length : Int)))], [(1, ⟨5, [], true⟩)], 4, 0⟩ [slenD (.sl .u8 ((f % (256 : Int)).toNat :: nonce)) * 1 ≤ 140737488355328] (by kernel_rfl) (by repeat' first | exact trivial | (simp only [slenD, SV.slen, Option.getD_some, List.length_cons]; omega) | omega | refine ⟨?_, ?_⟩) ?_
  rw [← cI_blk h1 h2 hn]
  exact Hold.weaken (ct_l f nonce n h1 h2 rfl _ 0 rfl (by omega)) (by simp [wks, wk, wk0, wkB, wka, wkl, sCt, bRw, lim, cI])
def eCt (H : List Bk) (args : List SV) : Option (MRes × List Prop) := match H, args with
  | [], [x, .sl .u8 nonce, y] => match x.int?, y.nat? with
    | some (.i64, f), some (.i64, n) => some (⟨.row 0 (.sl .u8 (blk (f % 256).toNat nonce n)), [], [bRw]⟩, [7 ≤ nonce.length, nonce.length ≤ 13, n < 65536])
    | _, _ => none
  | _, _ => none
theorem ct_ok : ∀ H args r ob, eCt H args = some (r, ob) → All ob → ContractM Tryz.prog 70 H args r := by
  intro H args r ob he hob
  unfold eCt at he
  split at he
  · split at he
    · rename_i hx hy
      cases he
      refine ContractM.argsH (ct_m _ _ _ hob.1 hob.2.1 hob.2.2.1) fun hv => ?_
      obtain ⟨_, _, rfl, r1, _, _, rfl, r2, _, _, rfl, r3, rfl⟩ := hv
      exact ⟨_, _, rfl, wk_ok1 (int?_wk hx) r1, _, _, rfl, r2, _, _, rfl, nat?_wk hy r3, rfl⟩
    · cases he
  · cases he
end
end Go.Eng.B

namespace Go.Eng
open Go.RowKit
def pinL : List SV → List Value → List SV
  | .sl k l :: r, v :: vs => .pin v (.sl k l) :: pinL r vs
  | s :: r, _ :: vs => s :: pinL r vs
  | _, _ => []
theorem pin_relVs {β : Nat → Nat} {ow : Own} {w : World} : ∀ {l : List SV} {vs : List Value}, relVs β ow w l vs → relVs β ow w (pinL l vs) vs := by
  intro l
  induction l with
  | nil => intro vs h; cases h; rfl
  | cons s r ih =>
    intro vs h
    obtain ⟨v, t, rfl, h1, h2⟩ := h
    have keep : ∀ s', pinL (s :: r) (v :: t) = s' :: pinL r t → relV1 β ow w s' v → relVs β ow w (pinL (s :: r) (v :: t)) (v :: t) := fun s' e h => by rw [e]; exact ⟨v, t, rfl, h, ih h2⟩
    cases s <;> try exact keep _ rfl h1
    rename_i k l
    refine keep _ rfl ?_
    obtain ⟨cs, h3, rfl⟩ := h1
    have h4 := h3
    simp only [rel] at h3
    obtain ⟨⟨v, rfl, _⟩, _⟩ := h3
    refine ⟨[v], ?_, rfl⟩
    simp only [rel]
    exact ⟨rfl, rfl, by simpa only [rel] using h4⟩
section
variable {P : Program} {fn : Func} {body : Code} {S : Own} {σ : St}
theorem contractP {f : FuncId} {args : List SV} {res : SV} (hf : P.funcs[f]? = some fn) (hb : fn.body = some body) (hname : (fn.name == "runtime.NumGoroutine") = false) (hn : Nat.ble args.length fn.ntmps = true) (hids : idss args = [])
    (h : pureF.pureFs args → ∀ (w0 : World) (S : Own) (vs : List Value), relVs (fun _ => 0) S w0 args vs → Hold P body (Fin P fn w0 S res) w0 S [.at []] (initSt (pinL args vs) fn.ntmps)) : Contract P f args res := by
  intro w S vs hSlt hvs
  have hlen : ∀ {l : List SV} {vs : List Value}, relVs (fun _ => 0) S w l vs → (pinL l vs).length = l.length ∧ (idss l = [] → idss (pinL l vs) = []) := by
    intro l
    induction l with
    | nil => intro vs h; cases h; exact ⟨rfl, fun h => h⟩
    | cons s r ih =>
      intro vs h
      obtain ⟨v, t, rfl, _, h2⟩ := h
      obtain ⟨h3, h4⟩ := ih h2
      cases s <;> (refine ⟨by simp [pinL, h3], fun h => ?_⟩; simp only [pinL, idss, SV.ids, List.append_eq_nil_iff, List.nil_append, true_and] at h ⊢; first | exact ⟨h.1, h4 h.2⟩ | exact h4 h | (simp_all; done))
  obtain ⟨l1, l2⟩ := hlen hvs
  exact contract_at hf hb hname (by rw [l1]; exact Nat.le_of_ble_eq_true hn) (l2 hids) hSlt (pin_relVs hvs) (h (pureFs_vs args vs hvs) w S vs hvs)
theorem hold_repin {w0 : World} {Q : Exit → Act → World → Prop} {st : List It} {σ' : St} {t : Nat} {k : IntKind} {l : List Nat} {v : Value} (h0 : relV1 (fun _ => 0) S w0 (.sl k l) v) (hg : getS σ.slots t = some (.raw v)) (hp : putS σ (some t) (.pin v (.sl k l)) = some σ')
    (hk : Hold P body Q (w0 : Fr) S st σ') : Hold P body Q (w0 : Fr) S st σ := by
  intro β a w hS
  have h1 := relV_scalar rfl rfl (hS.slot t _ (getS_mem hg))
  simp only [rel, List.cons.injEq, and_true] at h1
  have h2 := old_reads hS h0
  have hv : relV β (owS S σ.blks β) w (.pin v (.sl k l)) (a.tmps.getD t undef) := by
    rw [h1.1]
    refine relV_of1 rfl ?_
    simp only [rel]
    exact ⟨trivial, rfl, by have := relV_scalar (s := .sl k l) rfl rfl h2; simpa only [rel] using this⟩
  have := hS.put hp hv
  rw [put_same_self] at this
  exact hk _ _ _ this
end
end Go.Eng

namespace Go.Eng
open Go.RowKit
def pinL2 : List SV → List Value → List SV
  | .sl k l :: r, v :: vs => .pin v (.sl k l) :: pinL2 r vs
  | .rp s :: r, v :: vs => .pin v (.rp s) :: pinL2 r vs
  | s :: r, _ :: vs => s :: pinL2 r vs
  | _, _ => []
theorem pin_relVs2 {β : Nat → Nat} {ow : Own} {w : World} : ∀ {l : List SV} {vs : List Value}, relVs β ow w l vs → relVs β ow w (pinL2 l vs) vs := by
  intro l
  induction l with
  | nil => intro vs h; cases h; rfl
  | cons s r ih =>
    intro vs h
    obtain ⟨v, t, rfl, h1, h2⟩ := h
    have keep : ∀ s', pinL2 (s :: r) (v :: t) = s' :: pinL2 r t → relV1 β ow w s' v → relVs β ow w (pinL2 (s :: r) (v :: t)) (v :: t) := fun s' e h => by rw [e]; exact ⟨v, t, rfl, h, ih h2⟩
    cases s <;> try exact keep _ rfl h1
    · rename_i k l
      refine keep _ rfl ?_
      obtain ⟨cs, h3, rfl⟩ := h1
      have h4 := h3
      simp only [rel] at h3
      obtain ⟨⟨v, rfl, _⟩, _⟩ := h3
      refine ⟨[v], ?_, rfl⟩
      simp only [rel]
      exact ⟨rfl, rfl, by simpa only [rel] using h4⟩
    · rename_i s
      refine keep _ rfl ?_
      obtain ⟨cs, h3, rfl⟩ := h1
      have h4 := h3
      simp only [rel] at h3
      obtain ⟨ad, vs, rfl, _⟩ := h3
      refine ⟨[.pointer (some ad)], ?_, rfl⟩
      simp only [rel]
      exact ⟨rfl, rfl, by simpa only [rel] using h4⟩
section
variable {P : Program} {fn : Func} {body : Code} {S : Own} {σ : St} {β : Nat → Nat} {a : Act} {w : World}
theorem old_any {w0 : World} {s : SV} (hi : s.ids = []) (hS : Sat (w0 : Fr) S σ β a w) {cs : List Value} (h0 : rel (fun _ => 0) S w0 s cs) : rel β (owS S σ.blks β) w s cs := by
  refine rel_mono (fun b j hb ho => ?_) ⟨hS.ext.size, fun b j hb _ => World.cell?_of_block (w := w0) (hS.ext.block _ hb Fr.mut_world)⟩ s cs (fun id hid => by rw [hi] at hid; cases hid) h0
  rcases ho with hs | ⟨id, bk, hmm, e, hr⟩
  · exact hs
  · rcases hS.low id bk hmm (fun h => (hr h).1) with h | h
    · have : w0.heap.size ≤ β id := h
      omega
    · exact absurd h Fr.mut_world
theorem hold_repinR {w0 : World} {Q : Exit → Act → World → Prop} {st : List It} {σ' : St} {t : Nat} {s : SV} {v : Value} (h0 : relV1 (fun _ => 0) S w0 (.rp s) v) (hi : s.ids = []) (hg : getS σ.slots t = some (.raw v)) (hp : putS σ (some t) (.pin v (.rp s)) = some σ')
    (hk : Hold P body Q (w0 : Fr) S st σ') : Hold P body Q (w0 : Fr) S st σ := by
  intro β a w hS
  have h1 := relV_scalar rfl rfl (hS.slot t _ (getS_mem hg))
  simp only [rel, List.cons.injEq, and_true] at h1
  obtain ⟨cs, h2, e⟩ := h0
  have h3 := old_any (s := .rp s) hi hS h2
  have hcs : cs = [v] := by
    simp only [rel] at h2
    obtain ⟨ad, vs, rfl, _⟩ := h2
    rw [e]; rfl
  have hv : relV β (owS S σ.blks β) w (.pin v (.rp s)) (a.tmps.getD t undef) := by
    rw [h1.1]
    refine relV_of1 rfl ?_
    simp only [rel]
    refine ⟨trivial, rfl, ?_⟩
    rw [hcs] at h3
    simpa only [rel] using h3
  have := hS.put hp hv
  rw [put_same_self] at this
  exact hk _ _ _ this
end
end Go.Eng

namespace Go.Eng
open Go.RowKit
def isEmp : SV → Bool
  | .emp => true
  | .nil => true
  | _ => false
def retOneE (P : Program) (σ : St) (r : ResultVar) : Option SV :=
  match r with
  | .tmp t => match getS σ.slots t with
    | some s => if isEmp s then some .emp else retOne P σ r
    | none => none
  | r => retOne P σ r
def retAllE (P : Program) (σ : St) : List ResultVar → Option (List SV)
  | [] => some []
  | r :: l => match retOneE P σ r, retAllE P σ l with
    | some s, some t => some (s :: t)
    | _, _ => none
def retSE (P : Program) (rs : Array ResultVar) (σ : St) : Option SV :=
  match retAllE P σ rs.toList with
  | some l => some (joinR l)
  | none => none
section
variable {P : Program} {fn : Func} {body : Code} {w0 : Fr} {w : World} {S : Own} {σ : St} {β : Nat → Nat} {a : Act}
theorem retOneE_ok (hS : Sat w0 S σ β a w) {r : ResultVar} {s : SV} (h : retOneE P σ r = some s) :
    ∃ v, (resF a.tmps r).run P w = .ok v w ∧ relV1 (fun _ => 0) S w s v := by
  cases r with
  | tmp t =>
    simp only [retOneE] at h
    split at h
    · rename_i s' hs
      split at h
      · rename_i he
        cases h
        refine ⟨_, rfl, ?_⟩
        have hv := hS.slot t s' (getS_mem hs)
        cases s' <;> first | (simp [isEmp] at he; done) | skip
        · have h1 := relV_scalar rfl rfl hv
          simp only [rel, List.cons.injEq, and_true] at h1
          rw [h1]
          exact ⟨_, by simp only [rel]; exact ⟨none, rfl⟩, rfl⟩
        · have h1 := relV_scalar rfl rfl hv
          simp only [rel, List.cons.injEq, and_true] at h1
          obtain ⟨A, h1⟩ := h1
          rw [h1]
          exact ⟨_, by simp only [rel]; exact ⟨A, rfl⟩, rfl⟩
      · exact retOne_ok hS h
    · cases h
  | cell ad t => exact retOne_ok hS h
theorem retAllE_ok (hS : Sat w0 S σ β a w) : ∀ {rs : List ResultVar} {l : List SV}, retAllE P σ rs = some l →
    ∃ vs, (rs.mapM (resF a.tmps)).run P w = .ok vs w ∧ relVs (fun _ => 0) S w l vs ∧ vs.length = rs.length := by
  intro rs
  induction rs with
  | nil => intro l h; simp only [retAllE] at h; cases h; exact ⟨[], by simp, rfl, rfl⟩
  | cons r rs ih =>
    intro l h
    simp only [retAllE] at h
    split at h
    · rename_i s t h1 h2
      cases h
      obtain ⟨v, hv, hr⟩ := retOneE_ok hS h1
      obtain ⟨vs, hvs, hrs, hlen⟩ := ih h2
      refine ⟨v :: vs, ?_, ⟨v, vs, rfl, hr, hrs⟩, by simp [hlen]⟩
      rw [List.mapM_cons, Sem.run_bind, hv]
      simp only [Result.andThen_ok, Sem.run_bind, hvs, Sem.run_pure]
    · cases h
theorem retSE_ok (hS : Sat w0 S σ β a w) {r : SV} (h : retSE P fn.results σ = some r) : ∃ v, (results fn a.tmps).run P w = .ok v w ∧ relV (fun _ => 0) S w r v := by
  unfold retSE at h
  split at h
  · rename_i l hl
    cases h
    obtain ⟨vs, hvs, hrs, hlen⟩ := retAllE_ok hS hl
    have hm : (fn.results.mapM (resF a.tmps)).run P w = .ok vs.toArray w := by
      rw [Array.mapM_eq_mapM_toList, Sem.run_map, hvs]; rfl
    have hll : l.length = vs.length := by
      clear hl hvs hm hlen
      induction l generalizing vs with
      | nil => rw [hrs]; rfl
      | cons s l ih => obtain ⟨v, t, rfl, _, h2⟩ := hrs; simp [ih t h2]
    by_cases h1 : vs.length = 1
    · obtain ⟨v, rfl⟩ := List.length_eq_one_iff.1 h1
      obtain ⟨s, rfl⟩ := List.length_eq_one_iff.1 (hll.trans h1)
      obtain ⟨v', t, e, hr, _⟩ := hrs
      cases e
      refine ⟨v, ?_, relV_up hr⟩
      rw [results_eq, Sem.run_bind, hm]
      simp
    · refine ⟨.tuple vs.toArray, ?_, ?_⟩
      · rw [results_eq, Sem.run_bind, hm]
        simp [h1]
      · have : joinR l = .tup l := by
          match l, hll with
          | [s], hll => simp at hll; exact absurd hll.symm h1
          | [], _ => rfl
          | _ :: _ :: _, _ => rfl
        rw [this]
        exact ⟨vs, rfl, hrs⟩
  · cases h
theorem hold_finE {r : SV} (h : retSE P fn.results σ = some r) : Hold P body (Fin P fn w0 S r) w0 S [] σ := by
  intro β a w hS
  obtain ⟨v, h1, h2⟩ := retSE_ok hS h
  exact ⟨hS.defs, v, h1, hS.ext, h2⟩
end
end Go.Eng

namespace Go.Eng.B
open Go Go.Eng Go.Proofs
set_option maxRecDepth 100000
set_option maxHeartbeats 1000000
def pdn (b : List Nat) : Nat := (16 - b.length % 16) % 16
def pdL (b : List Nat) : List Nat := b ++ List.replicate (pdn b) 0
def stPdd : List It := [.lp [0, 0, 1, 1], .blk 0, .at [1, 1, 1]]
def sPdd (X : List Nat) : St := ⟨14, [(3, .row 0 (.sl .u8 X))], [(0, bRw)], 3, 0⟩
def ePd (H : List Bk) (args : List SV) : Option (MRes × List Prop) := match H, args with
  | [], [.sl .u8 b] => some (⟨.row 0 (.sl .u8 (pdL b)), [], [bRw]⟩, [b.length ≤ 1000000])
  | _, _ => none
def eEq (args : List SV) : Option (SV × List Prop) := match args with
  | [.sl .u8 a, .sl .u8 b] => some (.b (a == b), [])
  | _ => none
def eClR (H : List Bk) (args : List SV) : Option (MRes × List Prop) := match H, args with
  | [], [.sl .u8 b] => some (⟨.row 0 (.sl .u8 b), [], [bRw]⟩, [0 < b.length, b.length ≤ 1000000])
  | _, _ => none
def eClE (args : List SV) : Option (SV × List Prop) := match args with
  | [.sl .u8 []] => some (.emp, [])
  | _ => none
section
variable {w0 : Fr} {S : Own} {r : MRes}
theorem pd_l (b : List Nat) (hb : b.length ≤ 1000000) (hr : r = ⟨.row 0 (.sl .u8 (pdL b)), [], [bRw]⟩) : ∀ d j, pdn b - j = d → j ≤ pdn b → Hold Tryz.prog (bodyOf Tryz.f71) (FinM Tryz.prog Tryz.f71 w0 S r) w0 S stPdd (sPdd (b ++ List.replicate j 0)) := by
  intro d
  induction d using Nat.strongRecOn with
  | _ d ih =>
  intro j hd hj
  have hX : (b ++ List.replicate j 0).length = b.length + j := by simp
  have hp : pdn b = (16 - b.length % 16) % 16 := rfl
  refine hold_unroll (c := _) rfl ?_
  by_cases hlt : j < pdn b
  · have e := ih (pdn b - (j + 1)) (by omega) (j + 1) rfl (by omega)
    rw [List.replicate_succ', ← List.append_assoc] at e
    generalize b ++ List.replicate j 0 = X at e hX ⊢
    refine hwC mixed ctr0_ok 100 [true] [3] [0] 3 [.lp [0, 0, 1, 1], .blk 0, .at [1, 1, 1]] ⟨14, [(3, .row 0 (.sl .u8 (X ++ [0])))], [(0, ⟨5, [], true⟩)], 3, 0⟩ [(X.length % 16 != 0) = true, slenD (.sl .u8 (X ++ [0])) * 1 ≤ 140737488355328] (by kernel_rfl) (by repeat' first | exact trivial | exact bne_iff_ne.mpr (by omega) | exact bne_eq_false_iff_eq.mpr (by omega) | omega | (simp only [slenD, SV.slen, Option.getD_some, List.length_append, List.length_cons, List.length_nil, hX]; omega) | refine ⟨?_, ?_⟩) ?_
    exact e
  · have e : j = pdn b := by omega
    subst e
    rw [show pdL b = b ++ List.replicate (pdn b) 0 from rfl] at hr
    generalize b ++ List.replicate (pdn b) 0 = X at hr hX ⊢
    rw [hr]
    exact hold_endNw mixed ctr0_ok (news := [0]) (unroll := false) (f := 100) (sc := [false]) (r := { res := .row 0 (.sl .u8 X), upd := [], new := [⟨5, [], true⟩] }) (ob := [(X.length % 16 != 0) = false]) (sc' := []) (by kernel_rfl) (by repeat' first | exact trivial | exact bne_iff_ne.mpr (by omega) | exact bne_eq_false_iff_eq.mpr (by omega) | omega | (simp only [slenD, SV.slen, Option.getD_some, List.length_append, List.length_cons, List.length_nil, hX]; omega) | refine ⟨?_, ?_⟩) (wkM_of rfl)
theorem pd_m (b : List Nat) (hb : b.length ≤ 1000000) : ContractM Tryz.prog 71 [] [.sl .u8 b] ⟨.row 0 (.sl .u8 (pdL b)), [], [bRw]⟩ := by
  refine contractM Tryz.func71 (body := bodyOf Tryz.f71) rfl (by kernel_rfl) (by kernel_rfl) rfl rfl ?_
  rintro _ _ w0 S _
  refine hwC mixed ctr0_ok 100 [] [3] [0] 3 [.lp [0, 0, 1, 1], .blk 0, .at [1, 1, 1]] ⟨14, [(3, .row 0 (.sl .u8 b))], [(0, ⟨5, [], true⟩)], 3, 0⟩ [slenD (.sl .u8 b) * 1 ≤ 140737488355328] (by kernel_rfl) (by repeat' first | exact trivial | (simp only [slenD, SV.slen, Option.getD_some]; omega) | omega | refine ⟨?_, ?_⟩) ?_
  exact Hold.weaken (pd_l b hb rfl _ 0 rfl (by omega)) (by simp [wks, wk, wk0, wkB, wka, wkl, sPdd, bRw, lim])
theorem pd_ok : ∀ H args r ob, ePd H args = some (r, ob) → All ob → ContractM Tryz.prog 71 H args r := by
  intro H args r ob he hob
  unfold ePd at he
  split at he
  · cases he; exact pd_m _ hob.1
  · cases he
theorem cl_m (x : Nat) (r : List Nat) (hb : (x :: r).length ≤ 1000000) : ContractM Tryz.prog 65 [] [.sl .u8 (x :: r)] ⟨.row 0 (.sl .u8 (x :: r)), [], [bRw]⟩ := by
  refine contractM Tryz.func65 (body := bodyOf Tryz.f65) rfl (by kernel_rfl) (by kernel_rfl) rfl rfl ?_
  rintro _ _ w0 S _
  have hp : 0 < (x :: r).length := by simp
  exact hold_endNw mixed ctr0_ok (news := [0]) (unroll := true) (f := 100) (sc := []) (r := { res := .row 0 (.sl .u8 (x :: r)), upd := [], new := [⟨5, [], true⟩] }) (ob := [0 < (x :: r).length, slenD (.sl .u8 (x :: r)) * 1 ≤ 140737488355328, 0 < slenD (.sl .u8 (x :: r))]) (sc' := []) (by kernel_rfl) (by repeat' first | exact trivial | exact hp | (simp only [slenD, SV.slen, Option.getD_some]; omega) | (show (x :: r).length * 1 ≤ 140737488355328; omega) | refine ⟨?_, ?_⟩) (wkM_of rfl)
theorem clr_ok : ∀ H args r ob, eClR H args = some (r, ob) → All ob → ContractM Tryz.prog 65 H args r := by
  intro H args r ob he hob
  unfold eClR at he
  split at he
  · rename_i b
    cases he
    cases b with
    | nil => exact absurd hob.1 (by simp)
    | cons x r => exact cl_m x r hob.2.1
  · cases he
end
theorem Contract.res {P : Program} {f : FuncId} {args : List SV} {r r' : SV} (h : Contract P f args r) (hr : ∀ {β : Nat → Nat} {ow : Own} {w : World} {v : Value}, relV β ow w r v → relV β ow w r' v) : Contract P f args r' :=
  fun w S vs h1 h2 => invokes_mono (h w S vs h1 h2) fun _ _ ⟨h3, h4⟩ => ⟨h3, hr h4⟩
section
variable {w1 : World} {S : Own} {res : SV}
theorem cle_c : Contract Tryz.prog 65 [.sl .u8 []] .emp := by
  refine contractP Tryz.func65 (body := bodyOf Tryz.f65) rfl (by kernel_rfl) (by kernel_rfl) rfl ?_
  intro _ w0 S vs hvs
  obtain ⟨v, t, rfl, h1, rfl⟩ := hvs
  have h2 := relV_scalar rfl rfl (relV_up h1)
  simp only [rel, List.cons.injEq, and_true] at h2
  obtain ⟨⟨v', rfl, A, n, c, rfl, hn, _, _, hA⟩, _⟩ := h2
  cases A with
  | none =>
    refine hwD mixed ctr0_ok 100 [] [2] [] 0 [] ⟨8, [(2, .nil)], [], 0, 0⟩ [] (by kernel_rfl) trivial ?_
    exact hold_finE rfl
  | some ad =>
    refine hwD mixed ctr0_ok 100 [] [2] [] 0 [] ⟨8, [(2, .emp)], [], 0, 0⟩ [] (by kernel_rfl) trivial ?_
    exact hold_finE rfl
theorem cle_ok : ∀ args res ob, eClE args = some (res, ob) → All ob → Contract Tryz.prog 65 args res := by
  intro args res ob he _
  unfold eClE at he
  split at he
  · cases he; exact cle_c
  · cases he
theorem eq_c (a b : List Nat) : Contract Tryz.prog 55 [.sl .u8 a, .sl .u8 b] (.b (a == b)) := by
  refine contract Tryz.func55 (body := bodyOf Tryz.f55) rfl (by kernel_rfl) (by kernel_rfl) rfl ?_
  intro _ w0 S
  exact hwF mixed ctr0_ok 100 [] (.b (a == b)) [] (by kernel_rfl) (by repeat' first | exact trivial | refine ⟨?_, ?_⟩) (wkR_of rfl)
theorem eq_ok : ∀ args res ob, eEq args = some (res, ob) → All ob → Contract Tryz.prog 55 args res := by
  intro args res ob he _
  unfold eEq at he
  split at he
  · cases he; exact eq_c _ _
  · cases he
end
end Go.Eng.B

namespace Go.Eng.B
open Go Go.Eng Go.Proofs
set_option maxRecDepth 100000
set_option maxHeartbeats 1000000
def b75 (s f a0 a1 a2 a3 a4 a5 a6 a7 a8 a9 a10 : List Nat) : Bk := ⟨75, [CPH s f a0 a1 a2 a3 a4 a5 a6 a7 a8 a9 a10], false⟩
def encF (s a0 a1 a2 a3 a4 a5 a6 a7 a8 a9 a10 : List Nat) (x : List Nat) : List Nat := encW s x a0 a1 a2 a3 a4 a5 a6 a7 a8 a9 a10
def chk (b : List Nat) (i : Nat) : List Nat := (b.drop (16 * i)).take 16
def cbI (E : List Nat → List Nat) (b x : List Nat) : Nat → List Nat
  | 0 => x
  | i + 1 => E (xrI (cbI E b x i) (chk b i) (chk b i).length)
def nbl (b : List Nat) : Nat := (b.length + 15) / 16
def cb (E : List Nat → List Nat) (b x : List Nat) : List Nat := cbI E b x (nbl b)
def stC : List It := [.lp [0, 0, 1], .blk 0, .at [1, 1]]
def stCk : List It := [.lp [0, 1, 0, 0, 0, 1, 0, 0, 0, 1], .blk 2, .at [1, 0, 0, 1, 0, 0, 0, 1], .blk 1, .at [1, 1, 0, 0, 0, 1], .lp [0, 0, 1], .blk 0, .at [1, 1]]
def sC (s f a0 a1 a2 a3 a4 a5 a6 a7 a8 a9 a10 B x : List Nat) : St := ⟨37, [(0, .sl .u8 B), (1, .ptr 0 0 (.c 0)), (2, .ptr 1 0 (.c 0)), (4, .ptr 2 0 (.c 0))], [(0, b77 x), (1, b75 s f a0 a1 a2 a3 a4 a5 a6 a7 a8 a9 a10), (2, b77 z16)], 3, 2⟩
def sCk (s f a0 a1 a2 a3 a4 a5 a6 a7 a8 a9 a10 B x C : List Nat) (k : Nat) : St := ⟨37, [(0, .sl .u8 B), (1, .ptr 0 0 (.c 0)), (2, .ptr 1 0 (.c 0)), (4, .ptr 2 0 (.c 0)), (19, .sl .u8 C), (20, .u .i64 C.length), (21, .u .i64 k)], [(0, b77 x), (1, b75 s f a0 a1 a2 a3 a4 a5 a6 a7 a8 a9 a10), (2, b77 z16)], 3, 2⟩
noncomputable def C3a : Ctr := addC 66 eBl ctr0
def eC1 (H : List Bk) (args : List SV) : Option (MRes × List Prop) := match H, args with
  | [⟨ty, [.arr .u8 16 x], false⟩, ⟨ty2, [.rp (.ag [.arr .u8 256 s, .arr .u8 256 f, .arr .u8 16 a0, .arr .u8 16 a1, .arr .u8 16 a2, .arr .u8 16 a3, .arr .u8 16 a4, .arr .u8 16 a5, .arr .u8 16 a6, .arr .u8 16 a7, .arr .u8 16 a8, .arr .u8 16 a9, .arr .u8 16 a10])], false⟩], [.sl .u8 b, .ptr 0 0 (.c 0), .ptr 1 0 (.c 0)] => if ty = 77 ∧ ty2 = 75 then some (⟨.arr .u8 16 (cb (encF s a0 a1 a2 a3 a4 a5 a6 a7 a8 a9 a10) b x), [b77 (cb (encF s a0 a1 a2 a3 a4 a5 a6 a7 a8 a9 a10) b x), b75 s f a0 a1 a2 a3 a4 a5 a6 a7 a8 a9 a10], []⟩, [b.length ≤ 1000000]) else none
  | _, _ => none
def eCh (H : List Bk) (args : List SV) : Option (MRes × List Prop) := match H, args with
  | [], [.rp (.ag [.arr .u8 256 s, .arr .u8 256 f, .arr .u8 16 a0, .arr .u8 16 a1, .arr .u8 16 a2, .arr .u8 16 a3, .arr .u8 16 a4, .arr .u8 16 a5, .arr .u8 16 a6, .arr .u8 16 a7, .arr .u8 16 a8, .arr .u8 16 a9, .arr .u8 16 a10])] => some (⟨.clo2 85 0 1, [], [b77 z16, b75 s f a0 a1 a2 a3 a4 a5 a6 a7 a8 a9 a10]⟩, [])
  | _, _ => none
theorem okC3a : CtrOk Tryz.prog C3a := addC_ok ctr0_ok bl_ok
theorem chk_take {B : List Nat} : List.drop 0 (List.take (min (B.length : Int) 16).toNat B) = B.take 16 := by
  rw [List.drop_zero]
  rcases Nat.lt_or_ge B.length 16 with h | h
  · rw [show (min (B.length : Int) 16).toNat = B.length by omega, List.take_length, List.take_of_length_le (by omega)]
  · rw [show (min (B.length : Int) 16).toNat = 16 by omega]
theorem chk_drop {b : List Nat} {i : Nat} : List.drop (min ((b.drop (16 * i)).length : Int) 16).toNat (List.take (b.drop (16 * i)).length (b.drop (16 * i))) = b.drop (16 * (i + 1)) := by
  rw [List.take_length]
  rcases Nat.lt_or_ge (b.drop (16 * i)).length 16 with h | h
  · rw [show (min ((b.drop (16 * i)).length : Int) 16).toNat = (b.drop (16 * i)).length by omega, List.drop_length, List.drop_eq_nil_of_le]
    simp only [List.length_drop] at h
    omega
  · rw [show (min ((b.drop (16 * i)).length : Int) 16).toNat = 16 by omega, List.drop_drop]
    rw [show 16 * (i + 1) = 16 * i + 16 by omega]
section
variable {F : Fr} {S : Own} {res : MRes}
theorem c_k (s f a0 a1 a2 a3 a4 a5 a6 a7 a8 a9 a10 B x C : List Nat) (hC : C.length ≤ 16) (hk : Hold Tryz.prog (bodyOf Tryz.f85) (FinM Tryz.prog Tryz.f85 F S res) F S stCk (sCk s f a0 a1 a2 a3 a4 a5 a6 a7 a8 a9 a10 B (xrI x C C.length) C C.length)) : ∀ d k, C.length - k = d → k ≤ C.length → Hold Tryz.prog (bodyOf Tryz.f85) (FinM Tryz.prog Tryz.f85 F S res) F S stCk (sCk s f a0 a1 a2 a3 a4 a5 a6 a7 a8 a9 a10 B (xrI x C k) C k) := by
  intro d
  induction d using Nat.strongRecOn with
  | _ d ih =>
  intro k hd hk'
  by_cases hlt : k < C.length
  · refine hold_unroll (c := _) rfl ?_
    have e := ih (C.length - (k + 1)) (by omega) (k + 1) rfl (by omega)
    rw [show xrI x C (k + 1) = (xrI x C k).set k ((xrI x C k).getD k 0 ^^^ C.getD k 0) from rfl] at e
    generalize xrI x C k = x at e ⊢
    refine hwC mixed okC3a 100 [true] [0, 1, 2, 4, 19, 20, 21] [0, 1, 2] 3 [.lp [0, 1, 0, 0, 0, 1, 0, 0, 0, 1], .blk 2, .at [1, 0, 0, 1, 0, 0, 0, 1], .blk 1, .at [1, 1, 0, 0, 0, 1], .lp [0, 0, 1], .blk 0, .at [1, 1]] ⟨37, [(0, .sl .u8 B), (1, .ptr 0 0 (.c 0)), (2, .ptr 1 0 (.c 0)), (4, .ptr 2 0 (.c 0)), (19, .sl .u8 C), (20, .u .i64 C.length), (21, .u .i64 (k + 1))], [(0, ⟨77, [.arr .u8 16 (x.set k (x.getD k 0 ^^^ C.getD k 0))], false⟩), (1, ⟨75, [(CPH s f a0 a1 a2 a3 a4 a5 a6 a7 a8 a9 a10)], false⟩), (2, ⟨77, [.arr .u8 16 z16], false⟩)], 3, 2⟩ [Decidable.decide (k < C.length) = true, k < C.length, k < 16, k < 16, k < 16, k < 16, k + 1 < 9223372036854775808] (by kernel_rfl) (by repeat' first | exact trivial | exact decide_eq_true (by omega) | exact decide_eq_false (by omega) | omega | exact hC | (simp only [List.length_drop, List.length_take]; omega) | refine ⟨?_, ?_⟩) ?_
    exact e
  · have e : k = C.length := by omega
    subst e
    exact hk
theorem c_l (s f a0 a1 a2 a3 a4 a5 a6 a7 a8 a9 a10 b x : List Nat) (hb : b.length ≤ 1000000) (hr : res = ⟨.arr .u8 16 (cb (encF s a0 a1 a2 a3 a4 a5 a6 a7 a8 a9 a10) b x), [b77 (cb (encF s a0 a1 a2 a3 a4 a5 a6 a7 a8 a9 a10) b x), b75 s f a0 a1 a2 a3 a4 a5 a6 a7 a8 a9 a10], []⟩) : ∀ d i, nbl b - i = d → i ≤ nbl b → Hold Tryz.prog (bodyOf Tryz.f85) (FinM Tryz.prog Tryz.f85 F S res) F S stC (sC s f a0 a1 a2 a3 a4 a5 a6 a7 a8 a9 a10 (b.drop (16 * i)) (cbI (encF s a0 a1 a2 a3 a4 a5 a6 a7 a8 a9 a10) b x i)) := by
  intro d
  induction d using Nat.strongRecOn with
  | _ d ih =>
  intro i hd hi
  have hn : nbl b = (b.length + 15) / 16 := rfl
  have hB : (b.drop (16 * i)).length = b.length - 16 * i := List.length_drop
  refine hold_unroll (c := _) rfl ?_
  by_cases hlt : i < nbl b
  · have e := ih (nbl b - (i + 1)) (by omega) (i + 1) rfl (by omega)
    rw [show cbI (encF s a0 a1 a2 a3 a4 a5 a6 a7 a8 a9 a10) b x (i + 1) = encW s (xrI (cbI (encF s a0 a1 a2 a3 a4 a5 a6 a7 a8 a9 a10) b x i) (chk b i) (chk b i).length) a0 a1 a2 a3 a4 a5 a6 a7 a8 a9 a10 from rfl, ← chk_drop] at e
    rw [show chk b i = (b.drop (16 * i)).take 16 from rfl] at e
    generalize cbI (encF s a0 a1 a2 a3 a4 a5 a6 a7 a8 a9 a10) b x i = x at e ⊢
    generalize b.drop (16 * i) = B at e hB ⊢
    have hC : (B.take 16).length ≤ 16 := by rw [List.length_take]; omega
    refine hwC mixed okC3a 100 [true] [0, 1, 2, 4, 19, 20, 21] [0, 1, 2] 3 [.lp [0, 1, 0, 0, 0, 1, 0, 0, 0, 1], .blk 2, .at [1, 0, 0, 1, 0, 0, 0, 1], .blk 1, .at [1, 1, 0, 0, 0, 1], .lp [0, 0, 1], .blk 0, .at [1, 1]] ⟨37, [(0, .sl .u8 B), (1, .ptr 0 0 (.c 0)), (2, .ptr 1 0 (.c 0)), (4, .ptr 2 0 (.c 0)), (19, .sl .u8 (List.drop 0 (List.take (Min.min (↑B.length : Int) (16 : Int)).toNat B))), (20, .u .i64 (List.drop 0 (List.take (Min.min (↑B.length : Int) (16 : Int)).toNat B)).length), (21, .c .i64 0)], [(0, ⟨77, [.arr .u8 16 x], false⟩), (1, ⟨75, [(CPH s f a0 a1 a2 a3 a4 a5 a6 a7 a8 a9 a10)], false⟩), (2, ⟨77, [.arr .u8 16 z16], false⟩)], 3, 2⟩ [Decidable.decide (0 < B.length) = true, (0 : Int) ≤ Min.min (↑B.length : Int) (16 : Int), 0 ≤ (Min.min (↑B.length : Int) (16 : Int)).toNat, (Min.min (↑B.length : Int) (16 : Int)).toNat ≤ B.length] (by kernel_rfl) (by repeat' first | exact trivial | exact decide_eq_true (by omega) | exact decide_eq_false (by omega) | omega | exact hC | (simp only [List.length_drop, List.length_take]; omega) | refine ⟨?_, ?_⟩) ?_
    rw [chk_take]
    refine Hold.weaken (c_k s f a0 a1 a2 a3 a4 a5 a6 a7 a8 a9 a10 B x (B.take 16) hC ?_ _ 0 rfl (by omega)) (by simp [wks, wk, wk0, wkB, wka, wkl, sCk, b75, b77, lim, xrI])
    generalize B.take 16 = C at e hC ⊢
    refine hold_unroll (c := _) rfl ?_
    refine hwC mixed okC3a 100 [false] [0, 1, 2, 4] [0, 1, 2] 3 [.lp [0, 0, 1], .blk 0, .at [1, 1]] ⟨37, [(0, .sl .u8 (List.drop (Min.min (↑B.length : Int) (16 : Int)).toNat (List.take B.length B))), (1, .ptr 0 0 (.c 0)), (2, .ptr 1 0 (.c 0)), (4, .ptr 2 0 (.c 0))], [(0, ⟨77, [.arr .u8 16 (encW s (xrI x C C.length) a0 a1 a2 a3 a4 a5 a6 a7 a8 a9 a10)], false⟩), (1, ⟨75, [(CPH s f a0 a1 a2 a3 a4 a5 a6 a7 a8 a9 a10)], false⟩), (2, ⟨77, [.arr .u8 16 z16], false⟩)], 3, 2⟩ [Decidable.decide (C.length < C.length) = false, (0 : Int) ≤ Min.min (↑B.length : Int) (16 : Int), (Min.min (↑B.length : Int) (16 : Int)).toNat ≤ B.length, B.length ≤ B.length] (by kernel_rfl) (by repeat' first | exact trivial | exact decide_eq_true (by omega) | exact decide_eq_false (by omega) | omega | exact hC | (simp only [List.length_drop, List.length_take]; omega) | refine ⟨?_, ?_⟩) ?_
    exact e
  · have e : i = nbl b := by omega
    subst e
    rw [show cb (encF s a0 a1 a2 a3 a4 a5 a6 a7 a8 a9 a10) b x = cbI (encF s a0 a1 a2 a3 a4 a5 a6 a7 a8 a9 a10) b x (nbl b) from rfl] at hr
    generalize cbI (encF s a0 a1 a2 a3 a4 a5 a6 a7 a8 a9 a10) b x (nbl b) = x at hr ⊢
    generalize b.drop (16 * nbl b) = B at hB ⊢
    refine hold_endMw mixed okC3a (news := []) (unroll := false) (f := 100) (sc := [false]) (r := { res := .arr .u8 16 x, upd := [⟨77, [.arr .u8 16 x], false⟩, ⟨75, [(CPH s f a0 a1 a2 a3 a4 a5 a6 a7 a8 a9 a10)], false⟩] }) (ob := [Decidable.decide (0 < B.length) = false]) (sc' := []) (by kernel_rfl) (by repeat' first | exact trivial | exact decide_eq_true (by omega) | exact decide_eq_false (by omega) | omega | (simp only [List.length_drop, List.length_take]; omega) | refine ⟨?_, ?_⟩) ?_
    exact wkM_of hr.symm
theorem c_m (s f a0 a1 a2 a3 a4 a5 a6 a7 a8 a9 a10 b x : List Nat) (hb : b.length ≤ 1000000) : ContractM Tryz.prog 85 [b77 x, b75 s f a0 a1 a2 a3 a4 a5 a6 a7 a8 a9 a10] [.sl .u8 b, .ptr 0 0 (.c 0), .ptr 1 0 (.c 0)] ⟨.arr .u8 16 (cb (encF s a0 a1 a2 a3 a4 a5 a6 a7 a8 a9 a10) b x), [b77 (cb (encF s a0 a1 a2 a3 a4 a5 a6 a7 a8 a9 a10) b x), b75 s f a0 a1 a2 a3 a4 a5 a6 a7 a8 a9 a10], []⟩ := by
  refine contractM Tryz.func85 (body := bodyOf Tryz.f85) rfl (by kernel_rfl) (by kernel_rfl) rfl rfl ?_
  intro _ _ F S hF
  refine hwC mixed okC3a 100 [] [0, 1, 2, 4] [0, 1, 2] 3 [.lp [0, 0, 1], .blk 0, .at [1, 1]] ⟨37, [(0, .sl .u8 b), (1, .ptr 0 0 (.c 0)), (2, .ptr 1 0 (.c 0)), (4, .ptr 2 0 (.c 0))], [(0, ⟨77, [.arr .u8 16 x], false⟩), (1, ⟨75, [(CPH s f a0 a1 a2 a3 a4 a5 a6 a7 a8 a9 a10)], false⟩), (2, ⟨77, [.arr .u8 16 [0, 0, 0, 0, 0, 0, 0, 0, 0, 0, 0, 0, 0, 0, 0, 0]], false⟩)], 3, 2⟩ [] (by kernel_rfl) (by repeat' first | exact trivial | omega | refine ⟨?_, ?_⟩) ?_
  exact Hold.weaken (c_l s f a0 a1 a2 a3 a4 a5 a6 a7 a8 a9 a10 b x hb rfl _ 0 rfl (by omega)) (by simp [wks, wk, wk0, wkB, wka, wkl, sC, b75, b77, lim, cbI, z16, List.replicate])
theorem c_ok : ∀ H args r ob, eC1 H args = some (r, ob) → All ob → ContractM Tryz.prog 85 H args r := by
  intro H args r ob he hob
  unfold eC1 at he
  split at he
  · split at he
    · rename_i h
      obtain ⟨h1, h2⟩ := h
      cases he
      rw [h1, h2]
      exact c_m _ _ _ _ _ _ _ _ _ _ _ _ _ _ _ hob.1
    · cases he
  · cases he
theorem ch_m (s f a0 a1 a2 a3 a4 a5 a6 a7 a8 a9 a10 : List Nat) : ContractM Tryz.prog 68 [] [CPH s f a0 a1 a2 a3 a4 a5 a6 a7 a8 a9 a10] ⟨.clo2 85 0 1, [], [b77 z16, b75 s f a0 a1 a2 a3 a4 a5 a6 a7 a8 a9 a10]⟩ := by
  refine contractM Tryz.func68 (body := bodyOf Tryz.f68) rfl (by kernel_rfl) (by kernel_rfl) rfl rfl ?_
  intro _ _ F S hF
  refine hold_endMw mixed ctr0_ok (news := [1, 0]) (unroll := false) (f := 100) (sc := []) (r := { res := .clo2 85 0 1, upd := [], new := [⟨77, [.arr .u8 16 [0, 0, 0, 0, 0, 0, 0, 0, 0, 0, 0, 0, 0, 0, 0, 0]], false⟩, ⟨75, [(CPH s f a0 a1 a2 a3 a4 a5 a6 a7 a8 a9 a10)], false⟩] }) (ob := []) (sc' := []) (by kernel_rfl) trivial ?_
  exact wkM_of rfl
theorem ch_ok : ∀ H args r ob, eCh H args = some (r, ob) → All ob → ContractM Tryz.prog 68 H args r := by
  intro H args r ob he hob
  unfold eCh at he
  split at he
  · cases he; exact ch_m _ _ _ _ _ _ _ _ _ _ _ _ _
  · cases he
end
end Go.Eng.B

