import Derived.Test.YthaabhoopofnhaaGreatE11
set_option linter.unusedVariables false
set_option linter.unusedSimpArgs false
set_option linter.unusedSectionVars false
namespace Go.Eng.B
open Go Go.Eng Go.Proofs
set_option maxRecDepth 100000
def itr {α : Type} (f : α → Nat → α) (a : α) : Nat → α
  | 0 => a
  | n + 1 => f (itr f a n) n
def q32 (a b x : Nat) : Nat := x * a % 4294967296 ||| x / b
def wA32 (m : List Nat) (i : Nat) : Nat := m.getD (4 * i) 0 * 16777216 % 4294967296 ||| m.getD (4 * i + 1) 0 * 65536 % 4294967296 ||| m.getD (4 * i + 2) 0 * 256 % 4294967296 ||| m.getD (4 * i + 3) 0
def wB32 (w : List Nat) (i : Nat) : Nat :=
  ((((q32 32768 131072 (w.getD ((i : Int) - 2).toNat 0) ^^^ q32 8192 524288 (w.getD ((i : Int) - 2).toNat 0) ^^^ w.getD ((i : Int) - 2).toNat 0 / 1024) + w.getD ((i : Int) - 7).toNat 0) % 4294967296 + (q32 33554432 128 (w.getD ((i : Int) - 15).toNat 0) ^^^ q32 16384 262144 (w.getD ((i : Int) - 15).toNat 0) ^^^ w.getD ((i : Int) - 15).toNat 0 / 8)) % 4294967296 + w.getD ((i : Int) - 16).toNat 0) % 4294967296
def stepW32 (m w : List Nat) (i : Nat) : List Nat := w.set i (if i < 16 then wA32 m i else wB32 w i)
def gd (l : List Nat) (i : Nat) : Nat := l.getD i 0
def t32 (k : Nat → Nat) (w s : List Nat) (i : Nat) : Nat :=
  ((((s.getD 7 0 + (q32 67108864 64 (s.getD 4 0) ^^^ q32 2097152 2048 (s.getD 4 0) ^^^ q32 128 33554432 (s.getD 4 0))) % 4294967296 + (s.getD 4 0 &&& s.getD 5 0 ^^^ 4294967295 - s.getD 4 0 &&& s.getD 6 0)) % 4294967296 + k i) % 4294967296 + w.getD i 0) % 4294967296
def u32 (s : List Nat) : Nat := ((q32 1073741824 4 (s.getD 0 0) ^^^ q32 524288 8192 (s.getD 0 0) ^^^ q32 1024 4194304 (s.getD 0 0)) + (s.getD 0 0 &&& s.getD 1 0 ^^^ s.getD 0 0 &&& s.getD 2 0 ^^^ s.getD 1 0 &&& s.getD 2 0)) % 4294967296
def stepR32 (k : Nat → Nat) (w s : List Nat) (i : Nat) : List Nat := [(t32 k w s i + u32 s) % 4294967296, s.getD 0 0, s.getD 1 0, s.getD 2 0, (s.getD 3 0 + t32 k w s i) % 4294967296, s.getD 4 0, s.getD 5 0, s.getD 6 0]
def stepA32 (s h : List Nat) (i : Nat) : List Nat := h.set i ((h.getD i 0 + s.getD i 0) % 4294967296)
def W32 (m : List Nat) (i : Nat) : List Nat := itr (stepW32 m) (List.replicate 64 0) i
def R32 (k : Nat → Nat) (m h : List Nat) (i : Nat) : List Nat := itr (stepR32 k (W32 m 64)) h i
def A32 (k : Nat → Nat) (m h : List Nat) (i : Nat) : List Nat := itr (stepA32 (R32 k m h 64)) h i
def b32 (h : List Nat) : Bk := ⟨63, [.arr .u32 8 h], false⟩
def bk32 (h : List Nat) : Bk := ⟨62, [.arr .u32 64 h], false⟩
def stW : List It := [.lp [0, 1, 0, 1], .blk 0, .at [1, 1]]
def sW (h k m w : List Nat) (i : Nat) : St := ⟨195, [(0, .ptr 0 0 (.c 0)), (1, .ptr 1 0 (.c 0)), (2, .sl .u8 m), (6, .ptr 2 0 (.c 0)), (17, .u .i64 i)], [(0, b32 h), (1, bk32 k), (2, bk32 w)], 3, 2⟩
def stR : List It := [.lp [0, 1, 0, 1, 1, 1], .blk 2, .at [1, 1, 1, 1]]
def sR (h k m w s : List Nat) (i : Nat) : St := ⟨195, [(0, .ptr 0 0 (.c 0)), (1, .ptr 1 0 (.c 0)), (2, .sl .u8 m), (6, .ptr 2 0 (.c 0)), (10, .ptr 3 0 (.c 0)), (98, .u .i64 i)], [(0, b32 h), (1, bk32 k), (2, bk32 w), (3, b32 s)], 4, 2⟩
def stA : List It := [.lp [0, 1, 1, 1, 1, 1], .blk 4]
def sA (h k s : List Nat) (i : Nat) : St := ⟨195, [(0, .ptr 0 0 (.c 0)), (1, .ptr 1 0 (.c 0)), (10, .ptr 3 0 (.c 0)), (180, .u .i64 i)], [(0, b32 h), (1, bk32 k), (3, b32 s)], 4, 2⟩
section
variable {F : Fr} {S : Own} {r : MRes}
theorem r32_A (h k m : List Nat) (hr : r = ⟨.tup [], [b32 (A32 (gd k) m h 8), bk32 k], []⟩) : ∀ d i, 8 - i = d → i ≤ 8 →
    Hold Tryz.prog (bodyOf Tryz.f40) (FinM Tryz.prog Tryz.f40 F S r) F S stA (sA (A32 (gd k) m h i) k (R32 (gd k) m h 64) i) := by
  intro d
  induction d using Nat.strongRecOn with
  | _ d ih =>
  intro i hd hi
  refine hold_unroll (c := _) rfl ?_
  rcases Bool.eq_false_or_eq_true (Decidable.decide (i < (8 : Nat))) with hc0 | hc0
  · have hd0 := of_decide_eq_true hc0
    refine hwC mixed okM8a 300 [true] [0,1,10,180] [0,1,3] 4 [.lp [0, 1, 1, 1, 1, 1], .blk 4] ⟨195, [(0, .ptr 0 0 (.c 0)), (1, .ptr 1 0 (.c 0)), (10, .ptr 3 0 (.c 0)), (180, .u .i64 (i + 1))], [(0, ⟨63, [.arr .u32 8 ((A32 (gd k) m h i).set i (((A32 (gd k) m h i).getD i 0 + (R32 (gd k) m h 64).getD i 0) % 4294967296))], false⟩), (1, ⟨62, [.arr .u32 64 k], false⟩), (3, ⟨63, [.arr .u32 8 (R32 (gd k) m h 64)], false⟩)], 4, 2⟩ [Decidable.decide (i < 8) = true, i < 8, i < 8, i < 8, i < 8, i < 8, i < 8, i + 1 < 9223372036854775808] (by kernel_rfl) ?_ ?_
    · exact ⟨hc0, (by first | trivial | omega), (by first | trivial | omega), (by first | trivial | omega), (by first | trivial | omega), (by first | trivial | omega), (by first | trivial | omega), (by first | trivial | omega), trivial⟩
    · exact ih (8 - (i + 1)) (by omega) (i + 1) rfl (by omega)
  · have hd0 := of_decide_eq_false hc0
    refine hold_endMw mixed okM8a (news := []) (unroll := false) (f := 300) (sc := [false]) (r := { res := .tup [], upd := [⟨63, [.arr .u32 8 (A32 (gd k) m h i)], false⟩, ⟨62, [.arr .u32 64 k], false⟩] }) (ob := [Decidable.decide (i < 8) = false]) (sc' := []) (by kernel_rfl) ?_ ?_
    · exact ⟨hc0, trivial⟩
    · (have e : i = 8 := (by omega); subst e; exact wkM_of hr.symm)
theorem r32_R (h k m : List Nat) (hr : r = ⟨.tup [], [b32 (A32 (gd k) m h 8), bk32 k], []⟩) : ∀ d i, 64 - i = d → i ≤ 64 →
    Hold Tryz.prog (bodyOf Tryz.f40) (FinM Tryz.prog Tryz.f40 F S r) F S stR (sR h k m (W32 m 64) (R32 (gd k) m h i) i) := by
  intro d
  induction d using Nat.strongRecOn with
  | _ d ih =>
  intro i hd hi
  by_cases hlt : i < 64
  · refine hold_unroll (c := _) rfl ?_
    refine hwC mixed okM8a 300 [true] [0,1,2,6,10,98] [0,1,2,3] 4 [.lp [0, 1, 0, 1, 1, 1], .blk 2, .at [1, 1, 1, 1]] ⟨195, [(0, .ptr 0 0 (.c 0)), (1, .ptr 1 0 (.c 0)), (2, .sl .u8 m), (6, .ptr 2 0 (.c 0)), (10, .ptr 3 0 (.c 0)), (98, .u .i64 (i + 1))], [(0, ⟨63, [.arr .u32 8 h], false⟩), (1, ⟨62, [.arr .u32 64 k], false⟩), (2, ⟨62, [.arr .u32 64 (W32 m 64)], false⟩), (3, ⟨63, [.arr .u32 8 [((((((R32 (gd k) m h i).getD 7 0 + (((R32 (gd k) m h i).getD 4 0 * 67108864 % 4294967296 ||| (R32 (gd k) m h i).getD 4 0 / 64) ^^^ ((R32 (gd k) m h i).getD 4 0 * 2097152 % 4294967296 ||| (R32 (gd k) m h i).getD 4 0 / 2048) ^^^ ((R32 (gd k) m h i).getD 4 0 * 128 % 4294967296 ||| (R32 (gd k) m h i).getD 4 0 / 33554432))) % 4294967296 + ((R32 (gd k) m h i).getD 4 0 &&& (R32 (gd k) m h i).getD 5 0 ^^^ 4294967295 - (R32 (gd k) m h i).getD 4 0 &&& (R32 (gd k) m h i).getD 6 0)) % 4294967296 + k.getD i 0) % 4294967296 + (W32 m 64).getD i 0) % 4294967296 + ((((R32 (gd k) m h i).getD 0 0 * 1073741824 % 4294967296 ||| (R32 (gd k) m h i).getD 0 0 / 4) ^^^ ((R32 (gd k) m h i).getD 0 0 * 524288 % 4294967296 ||| (R32 (gd k) m h i).getD 0 0 / 8192) ^^^ ((R32 (gd k) m h i).getD 0 0 * 1024 % 4294967296 ||| (R32 (gd k) m h i).getD 0 0 / 4194304)) + ((R32 (gd k) m h i).getD 0 0 &&& (R32 (gd k) m h i).getD 1 0 ^^^ (R32 (gd k) m h i).getD 0 0 &&& (R32 (gd k) m h i).getD 2 0 ^^^ (R32 (gd k) m h i).getD 1 0 &&& (R32 (gd k) m h i).getD 2 0)) % 4294967296) % 4294967296, (R32 (gd k) m h i).getD 0 0, (R32 (gd k) m h i).getD 1 0, (R32 (gd k) m h i).getD 2 0, ((R32 (gd k) m h i).getD 3 0 + (((((R32 (gd k) m h i).getD 7 0 + (((R32 (gd k) m h i).getD 4 0 * 67108864 % 4294967296 ||| (R32 (gd k) m h i).getD 4 0 / 64) ^^^ ((R32 (gd k) m h i).getD 4 0 * 2097152 % 4294967296 ||| (R32 (gd k) m h i).getD 4 0 / 2048) ^^^ ((R32 (gd k) m h i).getD 4 0 * 128 % 4294967296 ||| (R32 (gd k) m h i).getD 4 0 / 33554432))) % 4294967296 + ((R32 (gd k) m h i).getD 4 0 &&& (R32 (gd k) m h i).getD 5 0 ^^^ 4294967295 - (R32 (gd k) m h i).getD 4 0 &&& (R32 (gd k) m h i).getD 6 0)) % 4294967296 + k.getD i 0) % 4294967296 + (W32 m 64).getD i 0) % 4294967296) % 4294967296, (R32 (gd k) m h i).getD 4 0, (R32 (gd k) m h i).getD 5 0, (R32 (gd k) m h i).getD 6 0]], false⟩)], 4, 2⟩ [Decidable.decide (i < 64) = true, i < 64, i < 64, i < 64, i < 64, i + 1 < 9223372036854775808] (by kernel_rfl) (by repeat' first | exact trivial | exact decide_eq_true (by omega) | exact decide_eq_false (by omega) | omega | refine ⟨?_, ?_⟩) ?_
    exact ih (64 - (i + 1)) (by omega) (i + 1) rfl (by omega)
  · have e : i = 64 := by omega
    subst e
    refine hold_unroll (c := _) rfl ?_
    refine hwC mixed okM8a 300 [false] [0,1,10,180] [0,1,3] 4 [.lp [0, 1, 1, 1, 1, 1], .blk 4] ⟨195, [(0, .ptr 0 0 (.c 0)), (1, .ptr 1 0 (.c 0)), (10, .ptr 3 0 (.c 0)), (180, .c .i64 0)], [(0, ⟨63, [.arr .u32 8 h], false⟩), (1, ⟨62, [.arr .u32 64 k], false⟩), (3, ⟨63, [.arr .u32 8 (R32 (gd k) m h 64)], false⟩)], 4, 2⟩ [false = false] (by kernel_rfl) (by repeat' first | exact trivial | exact decide_eq_true (by omega) | exact decide_eq_false (by omega) | omega | refine ⟨?_, ?_⟩) ?_
    exact Hold.weaken (r32_A h k m hr _ 0 rfl (by omega)) (by simp [wks, wk, wk0, lim, sA])
theorem r32_W (h k m : List Nat) (hm : m.length = 64) (hr : r = ⟨.tup [], [b32 (A32 (gd k) m h 8), bk32 k], []⟩) : ∀ d i, 64 - i = d → i ≤ 64 →
    Hold Tryz.prog (bodyOf Tryz.f40) (FinM Tryz.prog Tryz.f40 F S r) F S stW (sW h k m (W32 m i) i) := by
  intro d
  induction d using Nat.strongRecOn with
  | _ d ih =>
  intro i hd hi
  have hs : ∀ x, (if i < 16 then wA32 m i else wB32 (W32 m i) i) = x → W32 m (i + 1) = (W32 m i).set i x := fun x h => by rw [← h]; rfl
  by_cases hlt : i < 64
  · have e := ih (64 - (i + 1)) (by omega) (i + 1) rfl (by omega)
    refine hold_unroll (c := _) rfl ?_
    by_cases hl2 : i < 16
    · rw [hs _ (if_pos hl2)] at e
      refine hwC mixed okM8a 300 [true, true] [0,1,2,6,17] [0,1,2] 3 [.lp [0, 1, 0, 1], .blk 0, .at [1, 1]] ⟨195, [(0, .ptr 0 0 (.c 0)), (1, .ptr 1 0 (.c 0)), (2, .sl .u8 m), (6, .ptr 2 0 (.c 0)), (17, .u .i64 (i + 1))], [(0, ⟨63, [.arr .u32 8 h], false⟩), (1, ⟨62, [.arr .u32 64 k], false⟩), (2, ⟨62, [.arr .u32 64 ((W32 m i).set i (m.getD (4 * i) 0 * 16777216 % 4294967296 ||| m.getD (4 * i + 1) 0 * 65536 % 4294967296 ||| m.getD (4 * i + 2) 0 * 256 % 4294967296 ||| m.getD (4 * i + 3) 0))], false⟩)], 3, 2⟩ [Decidable.decide (i < 64) = true, Decidable.decide (i < 16) = true, 4 * i < 9223372036854775808, 4 * i < m.length, 4 * i < 9223372036854775808, 4 * i + 1 < 9223372036854775808, 4 * i + 1 < m.length, 4 * i < 9223372036854775808, 4 * i + 2 < 9223372036854775808, 4 * i + 2 < m.length, 4 * i < 9223372036854775808, 4 * i + 3 < 9223372036854775808, 4 * i + 3 < m.length, i < 64, i < 64, i + 1 < 9223372036854775808] (by kernel_rfl) (by repeat' first | exact trivial | exact decide_eq_true (by omega) | exact decide_eq_false (by omega) | omega | refine ⟨?_, ?_⟩) ?_
      exact e
    · rw [hs _ (if_neg hl2)] at e
      refine hwC mixed okM8a 300 [true, false] [0,1,2,6,17] [0,1,2] 3 [.lp [0, 1, 0, 1], .blk 0, .at [1, 1]] ⟨195, [(0, .ptr 0 0 (.c 0)), (1, .ptr 1 0 (.c 0)), (2, .sl .u8 m), (6, .ptr 2 0 (.c 0)), (17, .u .i64 (i + 1))], [(0, ⟨63, [.arr .u32 8 h], false⟩), (1, ⟨62, [.arr .u32 64 k], false⟩), (2, ⟨62, [.arr .u32 64 ((W32 m i).set i (((((((W32 m i).getD ((↑i : Int) - (2 : Int)).toNat 0 * 32768 % 4294967296 ||| (W32 m i).getD ((↑i : Int) - (2 : Int)).toNat 0 / 131072) ^^^ ((W32 m i).getD ((↑i : Int) - (2 : Int)).toNat 0 * 8192 % 4294967296 ||| (W32 m i).getD ((↑i : Int) - (2 : Int)).toNat 0 / 524288) ^^^ (W32 m i).getD ((↑i : Int) - (2 : Int)).toNat 0 / 1024) + (W32 m i).getD ((↑i : Int) - (7 : Int)).toNat 0) % 4294967296 + (((W32 m i).getD ((↑i : Int) - (15 : Int)).toNat 0 * 33554432 % 4294967296 ||| (W32 m i).getD ((↑i : Int) - (15 : Int)).toNat 0 / 128) ^^^ ((W32 m i).getD ((↑i : Int) - (15 : Int)).toNat 0 * 16384 % 4294967296 ||| (W32 m i).getD ((↑i : Int) - (15 : Int)).toNat 0 / 262144) ^^^ (W32 m i).getD ((↑i : Int) - (15 : Int)).toNat 0 / 8)) % 4294967296 + (W32 m i).getD ((↑i : Int) - (16 : Int)).toNat 0) % 4294967296))], false⟩)], 3, 2⟩ [Decidable.decide (i < 64) = true, Decidable.decide (i < 16) = false, (0 : Int) ≤ (↑i : Int) - (15 : Int), ((↑i : Int) - (15 : Int)).toNat < 64, ((↑i : Int) - (15 : Int)).toNat < 64, (0 : Int) ≤ (↑i : Int) - (2 : Int), ((↑i : Int) - (2 : Int)).toNat < 64, ((↑i : Int) - (2 : Int)).toNat < 64, (0 : Int) ≤ (↑i : Int) - (7 : Int), ((↑i : Int) - (7 : Int)).toNat < 64, ((↑i : Int) - (7 : Int)).toNat < 64, (0 : Int) ≤ (↑i : Int) - (16 : Int), ((↑i : Int) - (16 : Int)).toNat < 64, ((↑i : Int) - (16 : Int)).toNat < 64, i < 64, i < 64, i + 1 < 9223372036854775808] (by kernel_rfl) (by repeat' first | exact trivial | exact decide_eq_true (by omega) | exact decide_eq_false (by omega) | omega | refine ⟨?_, ?_⟩) ?_
      exact e
  · have e : i = 64 := by omega
    subst e
    refine hold_unroll (c := _) rfl ?_
    refine hwC mixed okM8a 300 [false] [0,1,2,6,10,98] [0,1,2,3] 4 [.lp [0, 1, 0, 1, 1, 1], .blk 2, .at [1, 1, 1, 1]] ⟨195, [(0, .ptr 0 0 (.c 0)), (1, .ptr 1 0 (.c 0)), (2, .sl .u8 m), (6, .ptr 2 0 (.c 0)), (10, .ptr 3 0 (.c 0)), (98, .c .i64 0)], [(0, ⟨63, [.arr .u32 8 h], false⟩), (1, ⟨62, [.arr .u32 64 k], false⟩), (2, ⟨62, [.arr .u32 64 (W32 m 64)], false⟩), (3, ⟨63, [.arr .u32 8 h], false⟩)], 4, 2⟩ [false = false] (by kernel_rfl) (by repeat' first | exact trivial | exact decide_eq_true (by omega) | exact decide_eq_false (by omega) | omega | refine ⟨?_, ?_⟩) ?_
    exact Hold.weaken (r32_R h k m hr _ 0 rfl (by omega)) (by simp [wks, wk, wk0, lim, sR])
theorem round32_c (h k m : List Nat) (hm : m.length = 64) : ContractM Tryz.prog 40 [b32 h, bk32 k] [.ptr 0 0 (.c 0), .ptr 1 0 (.c 0), .sl .u8 m] ⟨.tup [], [b32 (A32 (gd k) m h 8), bk32 k], []⟩ := by
  refine contractM Tryz.func40 (body := bodyOf Tryz.f40) rfl (by kernel_rfl) (by kernel_rfl) rfl rfl ?_
  intro _ _ F S _
  refine hwC mixed okM8a 100 [] [0,1,2,6,17] [0,1,2] 3 [.lp [0, 1, 0, 1], .blk 0, .at [1, 1]] ⟨195, [(0, .ptr 0 0 (.c 0)), (1, .ptr 1 0 (.c 0)), (2, .sl .u8 m), (6, .ptr 2 0 (.c 0)), (17, .c .i64 0)], [(0, ⟨63, [.arr .u32 8 h], false⟩), (1, ⟨62, [.arr .u32 64 k], false⟩), (2, ⟨62, [.arr .u32 64 [0, 0, 0, 0, 0, 0, 0, 0, 0, 0, 0, 0, 0, 0, 0, 0, 0, 0, 0, 0, 0, 0, 0, 0, 0, 0, 0, 0, 0, 0, 0, 0, 0, 0, 0, 0, 0, 0, 0, 0, 0, 0, 0, 0, 0, 0, 0, 0, 0, 0, 0, 0, 0, 0, 0, 0, 0, 0, 0, 0, 0, 0, 0, 0]], false⟩)], 3, 2⟩ [] (by kernel_rfl) trivial ?_
  exact Hold.weaken (r32_W h k m hm rfl _ 0 rfl (by omega)) (by simp [wks, wk, wk0, lim, sW])
end
end Go.Eng.B

namespace Go.Eng.B
open Go Go.Eng Go.Proofs
set_option maxRecDepth 100000
theorem kref_c : Contract Tryz.prog 60 [] (.arr .u64 80 kL) := by
  refine contract Tryz.func60 (body := bodyOf Tryz.f60) rfl (by kernel_rfl) (by kernel_rfl) rfl ?_
  intro _ w0 S
  exact hold_end mixed okM8a (unroll := true) (f := 50) (sc := []) (r := (.arr .u64 80 [4794697086780616226, 8158064640168781261, 13096744586834688815, 16840607885511220156, 4131703408338449720, 6480981068601479193, 10538285296894168987, 12329834152419229976, 15566598209576043074, 1334009975649890238, 2608012711638119052, 6128411473006802146, 8268148722764581231, 9286055187155687089, 11230858885718282805, 13951009754708518548, 16472876342353939154, 17275323862435702243, 1135362057144423861, 2597628984639134821, 3308224258029322869, 5365058923640841347, 6679025012923562964, 8573033837759648693, 10970295158949994411, 12119686244451234320, 12683024718118986047, 13788192230050041572, 14330467153632333762, 15395433587784984357, 489312712824947311, 1452737877330783856, 2861767655752347644, 3322285676063803686, 5560940570517711597, 5996557281743188959, 7280758554555802590, 8532644243296465576, 9350256976987008742, 10552545826968843579, 11727347734174303076, 12113106623233404929, 14000437183269869457, 14369950271660146224, 15101387698204529176, 15463397548674623760, 17586052441742319658, 1182934255886127544, 1847814050463011016, 2177327727835720531, 2830643537854262169, 3796741975233480872, 4115178125766777443, 5681478168544905931, 6601373596472566643, 7507060721942968483, 8399075790359081724, 8693463985226723168, 9568029438360202098, 10144078919501101548, 10430055236837252648, 11840083180663258601, 13761210420658862357, 14299343276471374635, 14566680578165727644, 15097957966210449927, 16922976911328602910, 17689382322260857208, 500013540394364858, 748580250866718886, 1242879168328830382, 1977374033974150939, 2944078676154940804, 3659926193048069267, 4368137639120453308, 4836135668995329356, 5532061633213252278, 6448918945643986474, 6902733635092675308, 7801388544844847127])) (ob := []) (sc' := []) (by kernel_rfl) trivial rfl
theorem href_c : Contract Tryz.prog 41 [] (.arr .u64 8 hL) := by
  refine contract Tryz.func41 (body := bodyOf Tryz.f41) rfl (by kernel_rfl) (by kernel_rfl) rfl ?_
  intro _ w0 S
  exact hold_end mixed okM8a (unroll := true) (f := 50) (sc := []) (r := (.arr .u64 8 [7640891576956012808, 13503953896175478587, 4354685564936845355, 11912009170470909681, 5840696475078001361, 11170449401992604703, 2270897969802886507, 6620516959819538809])) (ob := []) (sc' := []) (by kernel_rfl) trivial rfl
def eNil (r : SV) (args : List SV) : Option (SV × List Prop) :=
  match args with
  | [] => some (r, [])
  | _ => none
noncomputable def M10a : Ctr := addC 41 (eNil (.arr .u64 8 hL)) (addC 60 (eNil (.arr .u64 80 kL)) M8a)
theorem eNil_ok {P : Program} {f : FuncId} {r : SV} (h : Contract P f [] r) : ∀ args res ob, eNil r args = some (res, ob) → All ob → Contract P f args res := by
  intro args res ob he _
  unfold eNil at he
  split at he
  · cases he; exact h
  · cases he
theorem okM10a : CtrOk Tryz.prog M10a := addC_ok (addC_ok okM8a (eNil_ok kref_c)) (eNil_ok href_c)
def kr32 (i : Nat) : Nat := kL.getD i 0 / 4294967296 % 4294967296
def bkr : Bk := ⟨88, [.arr .u64 80 kL], false⟩
def stV : List It := [.lp [0, 1, 0, 1, 1, 1], .blk 0, .at [1, 1, 1, 1]]
def sV (h m w : List Nat) (i : Nat) : St := ⟨192, [(1, .sl .u8 m), (2, .ptr 0 0 (.c 0)), (4, .ptr 1 0 (.c 0)), (5, .ptr 2 0 (.c 0)), (6, .ptr 3 0 (.c 0)), (18, .u .i64 i)], [(0, b32 h), (1, b32 (List.replicate 8 0)), (2, bkr), (3, bk32 w)], 4, 0⟩
def stQ : List It := [.lp [0, 1, 0, 1, 1, 1, 1, 1], .blk 2, .at [1, 1, 1, 1, 1, 1]]
def sQ (h m w s : List Nat) (i : Nat) : St := ⟨192, [(1, .sl .u8 m), (2, .ptr 0 0 (.c 0)), (4, .ptr 1 0 (.c 0)), (5, .ptr 2 0 (.c 0)), (6, .ptr 3 0 (.c 0)), (10, .ptr 4 0 (.c 0)), (97, .u .i64 i)], [(0, b32 h), (1, b32 (List.replicate 8 0)), (2, bkr), (3, bk32 w), (4, b32 s)], 5, 0⟩
def stB : List It := [.lp [0, 1, 0, 1, 1, 1, 1, 1, 1], .blk 4, .at [1, 1, 1, 1, 1, 1, 1]]
def sB (h s : List Nat) (i : Nat) : St := ⟨192, [(2, .ptr 0 0 (.c 0)), (4, .ptr 1 0 (.c 0)), (10, .ptr 4 0 (.c 0)), (179, .u .i64 i)], [(0, b32 h), (1, b32 (List.replicate 8 0)), (4, b32 s)], 5, 0⟩
section
variable {w0 : World} {S : Own} {res : SV}
theorem b256_A (h m : List Nat) (hr : res = .arr .u32 8 (A32 kr32 m h 8)) : ∀ d i, 8 - i = d → i ≤ 8 →
    Hold Tryz.prog (bodyOf Tryz.f43) (Fin Tryz.prog Tryz.f43 w0 S res) w0 S stB (sB (A32 kr32 m h i) (R32 kr32 m h 64) i) := by
  intro d
  induction d using Nat.strongRecOn with
  | _ d ih =>
  intro i hd hi
  by_cases hlt : i < 8
  · refine hold_unroll (c := _) rfl ?_
    refine hwC mixed okM10a 300 [true] [2,4,10,179] [0,1,4] 5 [.lp [0, 1, 0, 1, 1, 1, 1, 1, 1], .blk 4, .at [1, 1, 1, 1, 1, 1, 1]] ⟨192, [(2, .ptr 0 0 (.c 0)), (4, .ptr 1 0 (.c 0)), (10, .ptr 4 0 (.c 0)), (179, .u .i64 (i + 1))], [(0, ⟨63, [.arr .u32 8 ((A32 kr32 m h i).set i (((A32 kr32 m h i).getD i 0 + (R32 kr32 m h 64).getD i 0) % 4294967296))], false⟩), (1, ⟨63, [.arr .u32 8 [0, 0, 0, 0, 0, 0, 0, 0]], false⟩), (4, ⟨63, [.arr .u32 8 (R32 kr32 m h 64)], false⟩)], 5, 0⟩ [Decidable.decide (i < 8) = true, i < 8, i < 8, i < 8, i < 8, i < 8, i < 8, i + 1 < 9223372036854775808] (by kernel_rfl) (by repeat' first | exact trivial | exact decide_eq_true (by omega) | exact decide_eq_false (by omega) | omega | refine ⟨?_, ?_⟩) ?_
    exact ih (8 - (i + 1)) (by omega) (i + 1) rfl (by omega)
  · have e : i = 8 := by omega
    subst e
    refine hold_unroll (c := _) rfl ?_
    refine hold_end mixed okM10a (unroll := false) (f := 300) (sc := [false]) (r := (.arr .u32 8 (A32 kr32 m h 8))) (ob := [false = false]) (sc' := []) (by kernel_rfl) (by repeat' first | exact trivial | exact decide_eq_true (by omega) | exact decide_eq_false (by omega) | omega | refine ⟨?_, ?_⟩) ?_
    exact hr.symm
theorem b256_R (h m : List Nat) (hr : res = .arr .u32 8 (A32 kr32 m h 8)) : ∀ d i, 64 - i = d → i ≤ 64 →
    Hold Tryz.prog (bodyOf Tryz.f43) (Fin Tryz.prog Tryz.f43 w0 S res) w0 S stQ (sQ h m (W32 m 64) (R32 kr32 m h i) i) := by
  intro d
  induction d using Nat.strongRecOn with
  | _ d ih =>
  intro i hd hi
  by_cases hlt : i < 64
  · refine hold_unroll (c := _) rfl ?_
    refine hwC mixed okM10a 300 [true] [1,2,4,5,6,10,97] [0,1,2,3,4] 5 [.lp [0, 1, 0, 1, 1, 1, 1, 1], .blk 2, .at [1, 1, 1, 1, 1, 1]] ⟨192, [(1, .sl .u8 m), (2, .ptr 0 0 (.c 0)), (4, .ptr 1 0 (.c 0)), (5, .ptr 2 0 (.c 0)), (6, .ptr 3 0 (.c 0)), (10, .ptr 4 0 (.c 0)), (97, .u .i64 (i + 1))], [(0, ⟨63, [.arr .u32 8 h], false⟩), (1, ⟨63, [.arr .u32 8 [0, 0, 0, 0, 0, 0, 0, 0]], false⟩), (2, ⟨88, [.arr .u64 80 kL], false⟩), (3, ⟨62, [.arr .u32 64 (W32 m 64)], false⟩), (4, ⟨63, [.arr .u32 8 [((((((R32 kr32 m h i).getD 7 0 + (((R32 kr32 m h i).getD 4 0 * 67108864 % 4294967296 ||| (R32 kr32 m h i).getD 4 0 / 64) ^^^ ((R32 kr32 m h i).getD 4 0 * 2097152 % 4294967296 ||| (R32 kr32 m h i).getD 4 0 / 2048) ^^^ ((R32 kr32 m h i).getD 4 0 * 128 % 4294967296 ||| (R32 kr32 m h i).getD 4 0 / 33554432))) % 4294967296 + ((R32 kr32 m h i).getD 4 0 &&& (R32 kr32 m h i).getD 5 0 ^^^ 4294967295 - (R32 kr32 m h i).getD 4 0 &&& (R32 kr32 m h i).getD 6 0)) % 4294967296 + kL.getD i 0 / 4294967296 % 4294967296) % 4294967296 + (W32 m 64).getD i 0) % 4294967296 + ((((R32 kr32 m h i).getD 0 0 * 1073741824 % 4294967296 ||| (R32 kr32 m h i).getD 0 0 / 4) ^^^ ((R32 kr32 m h i).getD 0 0 * 524288 % 4294967296 ||| (R32 kr32 m h i).getD 0 0 / 8192) ^^^ ((R32 kr32 m h i).getD 0 0 * 1024 % 4294967296 ||| (R32 kr32 m h i).getD 0 0 / 4194304)) + ((R32 kr32 m h i).getD 0 0 &&& (R32 kr32 m h i).getD 1 0 ^^^ (R32 kr32 m h i).getD 0 0 &&& (R32 kr32 m h i).getD 2 0 ^^^ (R32 kr32 m h i).getD 1 0 &&& (R32 kr32 m h i).getD 2 0)) % 4294967296) % 4294967296, (R32 kr32 m h i).getD 0 0, (R32 kr32 m h i).getD 1 0, (R32 kr32 m h i).getD 2 0, ((R32 kr32 m h i).getD 3 0 + (((((R32 kr32 m h i).getD 7 0 + (((R32 kr32 m h i).getD 4 0 * 67108864 % 4294967296 ||| (R32 kr32 m h i).getD 4 0 / 64) ^^^ ((R32 kr32 m h i).getD 4 0 * 2097152 % 4294967296 ||| (R32 kr32 m h i).getD 4 0 / 2048) ^^^ ((R32 kr32 m h i).getD 4 0 * 128 % 4294967296 ||| (R32 kr32 m h i).getD 4 0 / 33554432))) % 4294967296 + ((R32 kr32 m h i).getD 4 0 &&& (R32 kr32 m h i).getD 5 0 ^^^ 4294967295 - (R32 kr32 m h i).getD 4 0 &&& (R32 kr32 m h i).getD 6 0)) % 4294967296 + kL.getD i 0 / 4294967296 % 4294967296) % 4294967296 + (W32 m 64).getD i 0) % 4294967296) % 4294967296, (R32 kr32 m h i).getD 4 0, (R32 kr32 m h i).getD 5 0, (R32 kr32 m h i).getD 6 0]], false⟩)], 5, 0⟩ [Decidable.decide (i < 64) = true, i < 80, i < 80, i < 64, i < 64, i + 1 < 9223372036854775808] (by kernel_rfl) (by repeat' first | exact trivial | exact decide_eq_true (by omega) | exact decide_eq_false (by omega) | omega | refine ⟨?_, ?_⟩) ?_
    exact ih (64 - (i + 1)) (by omega) (i + 1) rfl (by omega)
  · have e : i = 64 := by omega
    subst e
    refine hold_unroll (c := _) rfl ?_
    refine hwC mixed okM10a 300 [false] [2,4,10,179] [0,1,4] 5 [.lp [0, 1, 0, 1, 1, 1, 1, 1, 1], .blk 4, .at [1, 1, 1, 1, 1, 1, 1]] ⟨192, [(2, .ptr 0 0 (.c 0)), (4, .ptr 1 0 (.c 0)), (10, .ptr 4 0 (.c 0)), (179, .c .i64 0)], [(0, ⟨63, [.arr .u32 8 h], false⟩), (1, ⟨63, [.arr .u32 8 [0, 0, 0, 0, 0, 0, 0, 0]], false⟩), (4, ⟨63, [.arr .u32 8 (R32 kr32 m h 64)], false⟩)], 5, 0⟩ [false = false] (by kernel_rfl) (by repeat' first | exact trivial | exact decide_eq_true (by omega) | exact decide_eq_false (by omega) | omega | refine ⟨?_, ?_⟩) ?_
    exact Hold.weaken (b256_A h m hr _ 0 rfl (by omega)) (by simp [wks, wk, wk0, lim, sB])
theorem b256_W (h m : List Nat) (hm : m.length = 64) (hr : res = .arr .u32 8 (A32 kr32 m h 8)) : ∀ d i, 64 - i = d → i ≤ 64 →
    Hold Tryz.prog (bodyOf Tryz.f43) (Fin Tryz.prog Tryz.f43 w0 S res) w0 S stV (sV h m (W32 m i) i) := by
  intro d
  induction d using Nat.strongRecOn with
  | _ d ih =>
  intro i hd hi
  have hs : ∀ x, (if i < 16 then wA32 m i else wB32 (W32 m i) i) = x → W32 m (i + 1) = (W32 m i).set i x := fun x h => by rw [← h]; rfl
  by_cases hlt : i < 64
  · have e := ih (64 - (i + 1)) (by omega) (i + 1) rfl (by omega)
    refine hold_unroll (c := _) rfl ?_
    by_cases hl2 : i < 16
    · rw [hs _ (if_pos hl2)] at e
      refine hwC mixed okM10a 300 [true, true] [1,2,4,5,6,18] [0,1,2,3] 4 [.lp [0, 1, 0, 1, 1, 1], .blk 0, .at [1, 1, 1, 1]] ⟨192, [(1, .sl .u8 m), (2, .ptr 0 0 (.c 0)), (4, .ptr 1 0 (.c 0)), (5, .ptr 2 0 (.c 0)), (6, .ptr 3 0 (.c 0)), (18, .u .i64 (i + 1))], [(0, ⟨63, [.arr .u32 8 h], false⟩), (1, ⟨63, [.arr .u32 8 [0, 0, 0, 0, 0, 0, 0, 0]], false⟩), (2, ⟨88, [.arr .u64 80 kL], false⟩), (3, ⟨62, [.arr .u32 64 ((W32 m i).set i (m.getD (4 * i) 0 * 16777216 % 4294967296 ||| m.getD (4 * i + 1) 0 * 65536 % 4294967296 ||| m.getD (4 * i + 2) 0 * 256 % 4294967296 ||| m.getD (4 * i + 3) 0))], false⟩)], 4, 0⟩ [Decidable.decide (i < 64) = true, Decidable.decide (i < 16) = true, 4 * i < 9223372036854775808, 4 * i < m.length, 4 * i < 9223372036854775808, 4 * i + 1 < 9223372036854775808, 4 * i + 1 < m.length, 4 * i < 9223372036854775808, 4 * i + 2 < 9223372036854775808, 4 * i + 2 < m.length, 4 * i < 9223372036854775808, 4 * i + 3 < 9223372036854775808, 4 * i + 3 < m.length, i < 64, i < 64, i + 1 < 9223372036854775808] (by kernel_rfl) (by repeat' first | exact trivial | exact decide_eq_true (by omega) | exact decide_eq_false (by omega) | omega | refine ⟨?_, ?_⟩) ?_
      exact e
    · rw [hs _ (if_neg hl2)] at e
      refine hwC mixed okM10a 300 [true, false] [1,2,4,5,6,18] [0,1,2,3] 4 [.lp [0, 1, 0, 1, 1, 1], .blk 0, .at [1, 1, 1, 1]] ⟨192, [(1, .sl .u8 m), (2, .ptr 0 0 (.c 0)), (4, .ptr 1 0 (.c 0)), (5, .ptr 2 0 (.c 0)), (6, .ptr 3 0 (.c 0)), (18, .u .i64 (i + 1))], [(0, ⟨63, [.arr .u32 8 h], false⟩), (1, ⟨63, [.arr .u32 8 [0, 0, 0, 0, 0, 0, 0, 0]], false⟩), (2, ⟨88, [.arr .u64 80 kL], false⟩), (3, ⟨62, [.arr .u32 64 ((W32 m i).set i (((((((W32 m i).getD ((↑i : Int) - (2 : Int)).toNat 0 * 32768 % 4294967296 ||| (W32 m i).getD ((↑i : Int) - (2 : Int)).toNat 0 / 131072) ^^^ ((W32 m i).getD ((↑i : Int) - (2 : Int)).toNat 0 * 8192 % 4294967296 ||| (W32 m i).getD ((↑i : Int) - (2 : Int)).toNat 0 / 524288) ^^^ (W32 m i).getD ((↑i : Int) - (2 : Int)).toNat 0 / 1024) + (W32 m i).getD ((↑i : Int) - (7 : Int)).toNat 0) % 4294967296 + (((W32 m i).getD ((↑i : Int) - (15 : Int)).toNat 0 * 33554432 % 4294967296 ||| (W32 m i).getD ((↑i : Int) - (15 : Int)).toNat 0 / 128) ^^^ ((W32 m i).getD ((↑i : Int) - (15 : Int)).toNat 0 * 16384 % 4294967296 ||| (W32 m i).getD ((↑i : Int) - (15 : Int)).toNat 0 / 262144) ^^^ (W32 m i).getD ((↑i : Int) - (15 : Int)).toNat 0 / 8)) % 4294967296 + (W32 m i).getD ((↑i : Int) - (16 : Int)).toNat 0) % 4294967296))], false⟩)], 4, 0⟩ [Decidable.decide (i < 64) = true, Decidable.decide (i < 16) = false, (0 : Int) ≤ (↑i : Int) - (15 : Int), ((↑i : Int) - (15 : Int)).toNat < 64, ((↑i : Int) - (15 : Int)).toNat < 64, (0 : Int) ≤ (↑i : Int) - (2 : Int), ((↑i : Int) - (2 : Int)).toNat < 64, ((↑i : Int) - (2 : Int)).toNat < 64, (0 : Int) ≤ (↑i : Int) - (7 : Int), ((↑i : Int) - (7 : Int)).toNat < 64, ((↑i : Int) - (7 : Int)).toNat < 64, (0 : Int) ≤ (↑i : Int) - (16 : Int), ((↑i : Int) - (16 : Int)).toNat < 64, ((↑i : Int) - (16 : Int)).toNat < 64, i < 64, i < 64, i + 1 < 9223372036854775808] (by kernel_rfl) (by repeat' first | exact trivial | exact decide_eq_true (by omega) | exact decide_eq_false (by omega) | omega | refine ⟨?_, ?_⟩) ?_
      exact e
  · have e : i = 64 := by omega
    subst e
    refine hold_unroll (c := _) rfl ?_
    refine hwC mixed okM10a 300 [false] [1,2,4,5,6,10,97] [0,1,2,3,4] 5 [.lp [0, 1, 0, 1, 1, 1, 1, 1], .blk 2, .at [1, 1, 1, 1, 1, 1]] ⟨192, [(1, .sl .u8 m), (2, .ptr 0 0 (.c 0)), (4, .ptr 1 0 (.c 0)), (5, .ptr 2 0 (.c 0)), (6, .ptr 3 0 (.c 0)), (10, .ptr 4 0 (.c 0)), (97, .c .i64 0)], [(0, ⟨63, [.arr .u32 8 h], false⟩), (1, ⟨63, [.arr .u32 8 [0, 0, 0, 0, 0, 0, 0, 0]], false⟩), (2, ⟨88, [.arr .u64 80 kL], false⟩), (3, ⟨62, [.arr .u32 64 (W32 m 64)], false⟩), (4, ⟨63, [.arr .u32 8 h], false⟩)], 5, 0⟩ [false = false] (by kernel_rfl) (by repeat' first | exact trivial | exact decide_eq_true (by omega) | exact decide_eq_false (by omega) | omega | refine ⟨?_, ?_⟩) ?_
    exact Hold.weaken (b256_R h m hr _ 0 rfl (by omega)) (by simp [wks, wk, wk0, lim, sQ])
theorem block256_c (h m : List Nat) (hm : m.length = 64) : Contract Tryz.prog 43 [.arr .u32 8 h, .sl .u8 m] (.arr .u32 8 (A32 kr32 m h 8)) := by
  refine contract Tryz.func43 (body := bodyOf Tryz.f43) rfl (by kernel_rfl) (by kernel_rfl) rfl ?_
  rintro _ w0 S
  refine hwC mixed okM10a 100 [] [1,2,4,5,6,18] [0,1,2,3] 4 [.lp [0, 1, 0, 1, 1, 1], .blk 0, .at [1, 1, 1, 1]] ⟨192, [(1, .sl .u8 m), (2, .ptr 0 0 (.c 0)), (4, .ptr 1 0 (.c 0)), (5, .ptr 2 0 (.c 0)), (6, .ptr 3 0 (.c 0)), (18, .c .i64 0)], [(0, ⟨63, [.arr .u32 8 h], false⟩), (1, ⟨63, [.arr .u32 8 [0, 0, 0, 0, 0, 0, 0, 0]], false⟩), (2, ⟨88, [.arr .u64 80 kL], false⟩), (3, ⟨62, [.arr .u32 64 [0, 0, 0, 0, 0, 0, 0, 0, 0, 0, 0, 0, 0, 0, 0, 0, 0, 0, 0, 0, 0, 0, 0, 0, 0, 0, 0, 0, 0, 0, 0, 0, 0, 0, 0, 0, 0, 0, 0, 0, 0, 0, 0, 0, 0, 0, 0, 0, 0, 0, 0, 0, 0, 0, 0, 0, 0, 0, 0, 0, 0, 0, 0, 0]], false⟩)], 4, 0⟩ [] (by kernel_rfl) trivial ?_
  exact Hold.weaken (b256_W h m hm rfl _ 0 rfl (by omega)) (by simp [wks, wk, wk0, lim, sV])
end
end Go.Eng.B

namespace Go.Eng.B
open Go Go.Eng Go.Proofs
set_option maxRecDepth 100000
def pdM (b : List Nat) (j : Nat) : List Nat := b ++ [128] ++ List.replicate j 0
def zP (B L n : Nat) : Nat := (B - (n + 1 + L) % B) % B
def beL (x : Nat) (m : List Nat) : List Nat := m ++ [x / 72057594037927936 % 256] ++ [x / 281474976710656 % 256] ++ [x / 1099511627776 % 256] ++ [x / 4294967296 % 256] ++ [x / 16777216 % 256] ++ [x / 65536 % 256] ++ [x / 256 % 256] ++ [x / 1 % 256]
def pd (B L : Nat) (b : List Nat) : List Nat := beL (b.length * 8 % 18446744073709551616) (pdM b (zP B L b.length + (L - 8)))
def stPd : List It := [.lp [0, 0, 1, 1], .blk 0, .at [1, 1, 1]]
def sPd (B L : Int) (b : List Nat) (j : Nat) : St := ⟨64, [(0, .sl .u8 b), (1, .c .i64 B), (2, .c .i64 L), (7, .row 0 (.sl .u8 (pdM b j)))], [(0, ⟨5, [], true⟩)], 3, 0⟩
def sPr (B : Int) (b : List Nat) (j : Nat) : St := ⟨52, [(0, .sl .u8 b), (1, .c .i64 B), (5, .row 0 (.sl .u8 (pdM b j)))], [(0, ⟨5, [], true⟩)], 3, 0⟩
def stPq : List It := [.lp [0, 0, 1, 1, 1], .blk 2, .at [1, 1, 1, 1]]
theorem pdM_len (b : List Nat) (j : Nat) : (pdM b j).length = b.length + 1 + j := by simp [pdM]; omega
theorem pdM_app (b : List Nat) (j : Nat) : pdM b j ++ [0] = pdM b (j + 1) := by simp [pdM, List.replicate_succ']
section
variable {w0 : World} {S : Own} {res : SV}
theorem pd64_in (b : List Nat) (hb : b.length ≤ 1000000) (hr : res = .sl .u8 (pd 64 8 b)) : ∀ d j, zP 64 8 b.length - j = d → j ≤ zP 64 8 b.length →
    Hold Tryz.prog (bodyOf Tryz.f39) (Fin Tryz.prog Tryz.f39 w0 S res) w0 S stPd (sPd 64 8 b j) := by
  intro d
  induction d using Nat.strongRecOn with
  | _ d ih =>
  intro j hd hj
  have hz : zP 64 8 b.length = (64 - (b.length + 1 + 8) % 64) % 64 := rfl
  by_cases hlt : j < zP 64 8 b.length
  · have e := ih (zP 64 8 b.length - (j + 1)) (by omega) (j + 1) rfl (by omega)
    refine hold_unroll (c := _) rfl ?_
    refine hwC mixed ctr0_ok 300 [true] [0,1,2,7] [0] 3 [.lp [0, 0, 1, 1], .blk 0, .at [1, 1, 1]] ⟨64, [(0, .sl .u8 b), (1, .c .i64 64), (2, .c .i64 8), (7, .row 0 (.sl .u8 (pdM b j ++ [0])))], [(0, ⟨5, [], true⟩)], 3, 0⟩ [(pdM b j).length + 8 < 9223372036854775808, (((pdM b j).length + 8) % 64 != 0) = true, slenD (.sl .u8 (pdM b j ++ [0])) * 1 ≤ 140737488355328] (by kernel_rfl) (by repeat' first | exact trivial | omega | (simp only [slenD, SV.slen, Option.getD_some, List.length_append, List.length_cons, List.length_nil, pdM_len]; omega) | (simp only [bne_iff_ne, bne_eq_false_iff_eq, List.length_append, List.length_cons, List.length_nil, pdM_len]; omega) | refine ⟨?_, ?_⟩) ?_
    unfold sPd at e
    rw [← pdM_app] at e
    exact e
  · have e : j = zP 64 8 b.length := by omega
    have hx : b.length * 8 % 18446744073709551616 = b.length * 8 := by omega
    have h61 : b.length / 2305843009213693952 % 256 = 0 := by omega
    refine hold_unroll (c := _) rfl ?_
    refine hold_end mixed ctr0_ok (unroll := true) (f := 600) (sc := [false]) (r := (.sl .u8 (pdM b j ++ [b.length * 8 % 18446744073709551616 / 72057594037927936 % 256] ++ [b.length * 8 % 18446744073709551616 / 281474976710656 % 256] ++ [b.length * 8 % 18446744073709551616 / 1099511627776 % 256] ++ [b.length * 8 % 18446744073709551616 / 4294967296 % 256] ++ [b.length * 8 % 18446744073709551616 / 16777216 % 256] ++ [b.length * 8 % 18446744073709551616 / 65536 % 256] ++ [b.length * 8 % 18446744073709551616 / 256 % 256] ++ [b.length * 8 % 18446744073709551616 / 1 % 256]))) (ob := [(pdM b j).length + 8 < 9223372036854775808, (((pdM b j).length + 8) % 64 != 0) = false, slenD (.sl .u8 (pdM b j ++ [b.length * 8 % 18446744073709551616 / 72057594037927936 % 256])) * 1 ≤ 140737488355328, slenD (.sl .u8 (pdM b j ++ [b.length * 8 % 18446744073709551616 / 72057594037927936 % 256] ++ [b.length * 8 % 18446744073709551616 / 281474976710656 % 256])) * 1 ≤ 140737488355328, slenD (.sl .u8 (pdM b j ++ [b.length * 8 % 18446744073709551616 / 72057594037927936 % 256] ++ [b.length * 8 % 18446744073709551616 / 281474976710656 % 256] ++ [b.length * 8 % 18446744073709551616 / 1099511627776 % 256])) * 1 ≤ 140737488355328, slenD (.sl .u8 (pdM b j ++ [b.length * 8 % 18446744073709551616 / 72057594037927936 % 256] ++ [b.length * 8 % 18446744073709551616 / 281474976710656 % 256] ++ [b.length * 8 % 18446744073709551616 / 1099511627776 % 256] ++ [b.length * 8 % 18446744073709551616 / 4294967296 % 256])) * 1 ≤ 140737488355328, slenD (.sl .u8 (pdM b j ++ [b.length * 8 % 18446744073709551616 / 72057594037927936 % 256] ++ [b.length * 8 % 18446744073709551616 / 281474976710656 % 256] ++ [b.length * 8 % 18446744073709551616 / 1099511627776 % 256] ++ [b.length * 8 % 18446744073709551616 / 4294967296 % 256] ++ [b.length * 8 % 18446744073709551616 / 16777216 % 256])) * 1 ≤ 140737488355328, slenD (.sl .u8 (pdM b j ++ [b.length * 8 % 18446744073709551616 / 72057594037927936 % 256] ++ [b.length * 8 % 18446744073709551616 / 281474976710656 % 256] ++ [b.length * 8 % 18446744073709551616 / 1099511627776 % 256] ++ [b.length * 8 % 18446744073709551616 / 4294967296 % 256] ++ [b.length * 8 % 18446744073709551616 / 16777216 % 256] ++ [b.length * 8 % 18446744073709551616 / 65536 % 256])) * 1 ≤ 140737488355328, slenD (.sl .u8 (pdM b j ++ [b.length * 8 % 18446744073709551616 / 72057594037927936 % 256] ++ [b.length * 8 % 18446744073709551616 / 281474976710656 % 256] ++ [b.length * 8 % 18446744073709551616 / 1099511627776 % 256] ++ [b.length * 8 % 18446744073709551616 / 4294967296 % 256] ++ [b.length * 8 % 18446744073709551616 / 16777216 % 256] ++ [b.length * 8 % 18446744073709551616 / 65536 % 256] ++ [b.length * 8 % 18446744073709551616 / 256 % 256])) * 1 ≤ 140737488355328, slenD (.sl .u8 (pdM b j ++ [b.length * 8 % 18446744073709551616 / 72057594037927936 % 256] ++ [b.length * 8 % 18446744073709551616 / 281474976710656 % 256] ++ [b.length * 8 % 18446744073709551616 / 1099511627776 % 256] ++ [b.length * 8 % 18446744073709551616 / 4294967296 % 256] ++ [b.length * 8 % 18446744073709551616 / 16777216 % 256] ++ [b.length * 8 % 18446744073709551616 / 65536 % 256] ++ [b.length * 8 % 18446744073709551616 / 256 % 256] ++ [b.length * 8 % 18446744073709551616 / 1 % 256])) * 1 ≤ 140737488355328]) (sc' := []) (by kernel_rfl) (by repeat' first | exact trivial | omega | (simp only [slenD, SV.slen, Option.getD_some, List.length_append, List.length_cons, List.length_nil, pdM_len]; omega) | (simp only [bne_iff_ne, bne_eq_false_iff_eq, List.length_append, List.length_cons, List.length_nil, pdM_len]; omega) | refine ⟨?_, ?_⟩) ?_
    rw [hr]
    rw [e]; rfl
theorem padded64_c (b : List Nat) (hb : b.length ≤ 1000000) : Contract Tryz.prog 39 [.sl .u8 b, .c .i64 64, .c .i64 8] (.sl .u8 (pd 64 8 b)) := by
  refine contract Tryz.func39 (body := bodyOf Tryz.f39) rfl (by kernel_rfl) (by kernel_rfl) rfl ?_
  rintro _ w0 S
  refine hwC mixed ctr0_ok 100 [] [0,1,2,7] [0] 3 [.lp [0, 0, 1, 1], .blk 0, .at [1, 1, 1]] ⟨64, [(0, .sl .u8 b), (1, .c .i64 64), (2, .c .i64 8), (7, .row 0 (.sl .u8 (b ++ [128])))], [(0, ⟨5, [], true⟩)], 3, 0⟩ [b.length + 128 < 9223372036854775808, (0 : Int) < (↑(b.length + 128) : Int), (↑(b.length + 128) : Int) ≤ (17592186044416 : Int), slenD (.sl .u8 b) * 1 ≤ 140737488355328, slenD (.sl .u8 (b ++ [128])) * 1 ≤ 140737488355328] (by kernel_rfl) (by repeat' first | exact trivial | omega | (simp only [slenD, SV.slen, Option.getD_some, List.length_append, List.length_cons, List.length_nil, pdM_len]; omega) | (simp only [bne_iff_ne, bne_eq_false_iff_eq, List.length_append, List.length_cons, List.length_nil, pdM_len]; omega) | refine ⟨?_, ?_⟩) ?_
  exact Hold.weaken (pd64_in b hb rfl _ 0 rfl (by omega)) (by simp [wks, wk, wk0, lim, sPd, pdM])
theorem pq64_in (b : List Nat) (hb : b.length ≤ 1000000) (hr : res = .sl .u8 (pd 64 8 b)) : ∀ d j, zP 64 8 b.length + (8 - 8) - j = d → zP 64 8 b.length ≤ j → j ≤ zP 64 8 b.length + (8 - 8) →
    Hold Tryz.prog (bodyOf Tryz.f42) (Fin Tryz.prog Tryz.f42 w0 S res) w0 S stPq (sPr 64 b j) := by
  intro d
  induction d using Nat.strongRecOn with
  | _ d ih =>
  intro j hd h2 hj
  have hz : zP 64 8 b.length = (64 - (b.length + 1 + 8) % 64) % 64 := rfl
  by_cases hlt : j < zP 64 8 b.length + (8 - 8)
  · have e := ih (zP 64 8 b.length + (8 - 8) - (j + 1)) (by omega) (j + 1) rfl (by omega) (by omega)
    refine hold_unroll (c := _) rfl ?_
    refine hwC mixed ctr0_ok 300 [true] [0,1,5] [0] 3 [.lp [0, 0, 1, 1, 1], .blk 2, .at [1, 1, 1, 1]] ⟨52, [(0, .sl .u8 b), (1, .c .i64 64), (5, .row 0 (.sl .u8 (pdM b j ++ [0])))], [(0, ⟨5, [], true⟩)], 3, 0⟩ [((pdM b j).length % 64 != 56) = true, slenD (.sl .u8 (pdM b j ++ [0])) * 1 ≤ 140737488355328] (by kernel_rfl) (by repeat' first | exact trivial | omega | (simp only [slenD, SV.slen, Option.getD_some, List.length_append, List.length_cons, List.length_nil, pdM_len]; omega) | (simp only [bne_iff_ne, bne_eq_false_iff_eq, List.length_append, List.length_cons, List.length_nil, pdM_len]; omega) | refine ⟨?_, ?_⟩) ?_
    unfold sPr at e
    rw [← pdM_app] at e
    exact e
  · have e : j = zP 64 8 b.length + (8 - 8) := by omega
    refine hold_unroll (c := _) rfl ?_
    refine hold_end mixed ctr0_ok (unroll := true) (f := 600) (sc := [false]) (r := (.sl .u8 (pdM b j ++ [b.length * 8 % 18446744073709551616 / 72057594037927936 % 256] ++ [b.length * 8 % 18446744073709551616 / 281474976710656 % 256] ++ [b.length * 8 % 18446744073709551616 / 1099511627776 % 256] ++ [b.length * 8 % 18446744073709551616 / 4294967296 % 256] ++ [b.length * 8 % 18446744073709551616 / 16777216 % 256] ++ [b.length * 8 % 18446744073709551616 / 65536 % 256] ++ [b.length * 8 % 18446744073709551616 / 256 % 256] ++ [b.length * 8 % 18446744073709551616 / 1 % 256]))) (ob := [((pdM b j).length % 64 != 56) = false, slenD (.sl .u8 (pdM b j ++ [b.length * 8 % 18446744073709551616 / 72057594037927936 % 256])) * 1 ≤ 140737488355328, slenD (.sl .u8 (pdM b j ++ [b.length * 8 % 18446744073709551616 / 72057594037927936 % 256] ++ [b.length * 8 % 18446744073709551616 / 281474976710656 % 256])) * 1 ≤ 140737488355328, slenD (.sl .u8 (pdM b j ++ [b.length * 8 % 18446744073709551616 / 72057594037927936 % 256] ++ [b.length * 8 % 18446744073709551616 / 281474976710656 % 256] ++ [b.length * 8 % 18446744073709551616 / 1099511627776 % 256])) * 1 ≤ 140737488355328, slenD (.sl .u8 (pdM b j ++ [b.length * 8 % 18446744073709551616 / 72057594037927936 % 256] ++ [b.length * 8 % 18446744073709551616 / 281474976710656 % 256] ++ [b.length * 8 % 18446744073709551616 / 1099511627776 % 256] ++ [b.length * 8 % 18446744073709551616 / 4294967296 % 256])) * 1 ≤ 140737488355328, slenD (.sl .u8 (pdM b j ++ [b.length * 8 % 18446744073709551616 / 72057594037927936 % 256] ++ [b.length * 8 % 18446744073709551616 / 281474976710656 % 256] ++ [b.length * 8 % 18446744073709551616 / 1099511627776 % 256] ++ [b.length * 8 % 18446744073709551616 / 4294967296 % 256] ++ [b.length * 8 % 18446744073709551616 / 16777216 % 256])) * 1 ≤ 140737488355328, slenD (.sl .u8 (pdM b j ++ [b.length * 8 % 18446744073709551616 / 72057594037927936 % 256] ++ [b.length * 8 % 18446744073709551616 / 281474976710656 % 256] ++ [b.length * 8 % 18446744073709551616 / 1099511627776 % 256] ++ [b.length * 8 % 18446744073709551616 / 4294967296 % 256] ++ [b.length * 8 % 18446744073709551616 / 16777216 % 256] ++ [b.length * 8 % 18446744073709551616 / 65536 % 256])) * 1 ≤ 140737488355328, slenD (.sl .u8 (pdM b j ++ [b.length * 8 % 18446744073709551616 / 72057594037927936 % 256] ++ [b.length * 8 % 18446744073709551616 / 281474976710656 % 256] ++ [b.length * 8 % 18446744073709551616 / 1099511627776 % 256] ++ [b.length * 8 % 18446744073709551616 / 4294967296 % 256] ++ [b.length * 8 % 18446744073709551616 / 16777216 % 256] ++ [b.length * 8 % 18446744073709551616 / 65536 % 256] ++ [b.length * 8 % 18446744073709551616 / 256 % 256])) * 1 ≤ 140737488355328, slenD (.sl .u8 (pdM b j ++ [b.length * 8 % 18446744073709551616 / 72057594037927936 % 256] ++ [b.length * 8 % 18446744073709551616 / 281474976710656 % 256] ++ [b.length * 8 % 18446744073709551616 / 1099511627776 % 256] ++ [b.length * 8 % 18446744073709551616 / 4294967296 % 256] ++ [b.length * 8 % 18446744073709551616 / 16777216 % 256] ++ [b.length * 8 % 18446744073709551616 / 65536 % 256] ++ [b.length * 8 % 18446744073709551616 / 256 % 256] ++ [b.length * 8 % 18446744073709551616 / 1 % 256])) * 1 ≤ 140737488355328]) (sc' := []) (by kernel_rfl) (by repeat' first | exact trivial | omega | (simp only [slenD, SV.slen, Option.getD_some, List.length_append, List.length_cons, List.length_nil, pdM_len]; omega) | (simp only [bne_iff_ne, bne_eq_false_iff_eq, List.length_append, List.length_cons, List.length_nil, pdM_len]; omega) | refine ⟨?_, ?_⟩) ?_
    rw [hr, e]
    rfl
theorem pr64_in (b : List Nat) (hb : b.length ≤ 1000000) (hr : res = .sl .u8 (pd 64 8 b)) : ∀ d j, zP 64 8 b.length - j = d → j ≤ zP 64 8 b.length →
    Hold Tryz.prog (bodyOf Tryz.f42) (Fin Tryz.prog Tryz.f42 w0 S res) w0 S stPd (sPr 64 b j) := by
  intro d
  induction d using Nat.strongRecOn with
  | _ d ih =>
  intro j hd hj
  have hz : zP 64 8 b.length = (64 - (b.length + 1 + 8) % 64) % 64 := rfl
  by_cases hlt : j < zP 64 8 b.length
  · have e := ih (zP 64 8 b.length - (j + 1)) (by omega) (j + 1) rfl (by omega)
    refine hold_unroll (c := _) rfl ?_
    refine hwC mixed ctr0_ok 300 [true] [0,1,5] [0] 3 [.lp [0, 0, 1, 1], .blk 0, .at [1, 1, 1]] ⟨52, [(0, .sl .u8 b), (1, .c .i64 64), (5, .row 0 (.sl .u8 (pdM b j ++ [0])))], [(0, ⟨5, [], true⟩)], 3, 0⟩ [((pdM b j).length % 64 != 56) = true, slenD (.sl .u8 (pdM b j ++ [0])) * 1 ≤ 140737488355328] (by kernel_rfl) (by repeat' first | exact trivial | omega | (simp only [slenD, SV.slen, Option.getD_some, List.length_append, List.length_cons, List.length_nil, pdM_len]; omega) | (simp only [bne_iff_ne, bne_eq_false_iff_eq, List.length_append, List.length_cons, List.length_nil, pdM_len]; omega) | refine ⟨?_, ?_⟩) ?_
    unfold sPr at e
    rw [← pdM_app] at e
    exact e
  · refine hold_unroll (c := _) rfl ?_
    refine hwC mixed ctr0_ok 300 [false] [0,1,5] [0] 3 [.lp [0, 0, 1, 1, 1], .blk 2, .at [1, 1, 1, 1]] ⟨52, [(0, .sl .u8 b), (1, .c .i64 64), (5, .row 0 (.sl .u8 (pdM b j)))], [(0, ⟨5, [], true⟩)], 3, 0⟩ [((pdM b j).length % 64 != 56) = false] (by kernel_rfl) (by repeat' first | exact trivial | omega | (simp only [slenD, SV.slen, Option.getD_some, List.length_append, List.length_cons, List.length_nil, pdM_len]; omega) | (simp only [bne_iff_ne, bne_eq_false_iff_eq, List.length_append, List.length_cons, List.length_nil, pdM_len]; omega) | refine ⟨?_, ?_⟩) ?_
    exact pq64_in b hb hr _ j rfl (by omega) (by omega)
theorem pad64_c (b : List Nat) (hb : b.length ≤ 1000000) : Contract Tryz.prog 42 [.sl .u8 b, .c .i64 64] (.sl .u8 (pd 64 8 b)) := by
  refine contract Tryz.func42 (body := bodyOf Tryz.f42) rfl (by kernel_rfl) (by kernel_rfl) rfl ?_
  rintro _ w0 S
  refine hwC mixed ctr0_ok 100 [] [0,1,5] [0] 3 [.lp [0, 0, 1, 1], .blk 0, .at [1, 1, 1]] ⟨52, [(0, .sl .u8 b), (1, .c .i64 64), (5, .row 0 (.sl .u8 (b ++ [128])))], [(0, ⟨5, [], true⟩)], 3, 0⟩ [slenD (.sl .u8 b) * 1 ≤ 140737488355328, slenD (.sl .u8 (b ++ [128])) * 1 ≤ 140737488355328] (by kernel_rfl) (by repeat' first | exact trivial | omega | (simp only [slenD, SV.slen, Option.getD_some, List.length_append, List.length_cons, List.length_nil, pdM_len]; omega) | (simp only [bne_iff_ne, bne_eq_false_iff_eq, List.length_append, List.length_cons, List.length_nil, pdM_len]; omega) | refine ⟨?_, ?_⟩) ?_
  exact Hold.weaken (pr64_in b hb rfl _ 0 rfl (by omega)) (by simp [wks, wk, wk0, lim, sPr, pdM])
theorem pd128_in (b : List Nat) (hb : b.length ≤ 1000000) (hr : res = .sl .u8 (pd 128 16 b)) : ∀ d j, zP 128 16 b.length - j = d → j ≤ zP 128 16 b.length →
    Hold Tryz.prog (bodyOf Tryz.f39) (Fin Tryz.prog Tryz.f39 w0 S res) w0 S stPd (sPd 128 16 b j) := by
  intro d
  induction d using Nat.strongRecOn with
  | _ d ih =>
  intro j hd hj
  have hz : zP 128 16 b.length = (128 - (b.length + 1 + 16) % 128) % 128 := rfl
  by_cases hlt : j < zP 128 16 b.length
  · have e := ih (zP 128 16 b.length - (j + 1)) (by omega) (j + 1) rfl (by omega)
    refine hold_unroll (c := _) rfl ?_
    refine hwC mixed ctr0_ok 300 [true] [0,1,2,7] [0] 3 [.lp [0, 0, 1, 1], .blk 0, .at [1, 1, 1]] ⟨64, [(0, .sl .u8 b), (1, .c .i64 128), (2, .c .i64 16), (7, .row 0 (.sl .u8 (pdM b j ++ [0])))], [(0, ⟨5, [], true⟩)], 3, 0⟩ [(pdM b j).length + 16 < 9223372036854775808, (((pdM b j).length + 16) % 128 != 0) = true, slenD (.sl .u8 (pdM b j ++ [0])) * 1 ≤ 140737488355328] (by kernel_rfl) (by repeat' first | exact trivial | omega | (simp only [slenD, SV.slen, Option.getD_some, List.length_append, List.length_cons, List.length_nil, pdM_len]; omega) | (simp only [bne_iff_ne, bne_eq_false_iff_eq, List.length_append, List.length_cons, List.length_nil, pdM_len]; omega) | refine ⟨?_, ?_⟩) ?_
    unfold sPd at e
    rw [← pdM_app] at e
    exact e
  · have e : j = zP 128 16 b.length := by omega
    have hx : b.length * 8 % 18446744073709551616 = b.length * 8 := by omega
    have h61 : b.length / 2305843009213693952 % 256 = 0 := by omega
    refine hold_unroll (c := _) rfl ?_
    refine hold_end mixed ctr0_ok (unroll := true) (f := 600) (sc := [false]) (r := (.sl .u8 (pdM b j ++ [0] ++ [0] ++ [0] ++ [0] ++ [0] ++ [0] ++ [0] ++ [b.length / 2305843009213693952 % 256] ++ [b.length * 8 % 18446744073709551616 / 72057594037927936 % 256] ++ [b.length * 8 % 18446744073709551616 / 281474976710656 % 256] ++ [b.length * 8 % 18446744073709551616 / 1099511627776 % 256] ++ [b.length * 8 % 18446744073709551616 / 4294967296 % 256] ++ [b.length * 8 % 18446744073709551616 / 16777216 % 256] ++ [b.length * 8 % 18446744073709551616 / 65536 % 256] ++ [b.length * 8 % 18446744073709551616 / 256 % 256] ++ [b.length * 8 % 18446744073709551616 / 1 % 256]))) (ob := [(pdM b j).length + 16 < 9223372036854775808, (((pdM b j).length + 16) % 128 != 0) = false, slenD (.sl .u8 (pdM b j ++ [0])) * 1 ≤ 140737488355328, slenD (.sl .u8 (pdM b j ++ [0] ++ [0])) * 1 ≤ 140737488355328, slenD (.sl .u8 (pdM b j ++ [0] ++ [0] ++ [0])) * 1 ≤ 140737488355328, slenD (.sl .u8 (pdM b j ++ [0] ++ [0] ++ [0] ++ [0])) * 1 ≤ 140737488355328, slenD (.sl .u8 (pdM b j ++ [0] ++ [0] ++ [0] ++ [0] ++ [0])) * 1 ≤ 140737488355328, slenD (.sl .u8 (pdM b j ++ [0] ++ [0] ++ [0] ++ [0] ++ [0] ++ [0])) * 1 ≤ 140737488355328, slenD (.sl .u8 (pdM b j ++ [0] ++ [0] ++ [0] ++ [0] ++ [0] ++ [0] ++ [0])) * 1 ≤ 140737488355328, slenD (.sl .u8 (pdM b j ++ [0] ++ [0] ++ [0] ++ [0] ++ [0] ++ [0] ++ [0] ++ [b.length / 2305843009213693952 % 256])) * 1 ≤ 140737488355328, slenD (.sl .u8 (pdM b j ++ [0] ++ [0] ++ [0] ++ [0] ++ [0] ++ [0] ++ [0] ++ [b.length / 2305843009213693952 % 256] ++ [b.length * 8 % 18446744073709551616 / 72057594037927936 % 256])) * 1 ≤ 140737488355328, slenD (.sl .u8 (pdM b j ++ [0] ++ [0] ++ [0] ++ [0] ++ [0] ++ [0] ++ [0] ++ [b.length / 2305843009213693952 % 256] ++ [b.length * 8 % 18446744073709551616 / 72057594037927936 % 256] ++ [b.length * 8 % 18446744073709551616 / 281474976710656 % 256])) * 1 ≤ 140737488355328, slenD (.sl .u8 (pdM b j ++ [0] ++ [0] ++ [0] ++ [0] ++ [0] ++ [0] ++ [0] ++ [b.length / 2305843009213693952 % 256] ++ [b.length * 8 % 18446744073709551616 / 72057594037927936 % 256] ++ [b.length * 8 % 18446744073709551616 / 281474976710656 % 256] ++ [b.length * 8 % 18446744073709551616 / 1099511627776 % 256])) * 1 ≤ 140737488355328, slenD (.sl .u8 (pdM b j ++ [0] ++ [0] ++ [0] ++ [0] ++ [0] ++ [0] ++ [0] ++ [b.length / 2305843009213693952 % 256] ++ [b.length * 8 % 18446744073709551616 / 72057594037927936 % 256] ++ [b.length * 8 % 18446744073709551616 / 281474976710656 % 256] ++ [b.length * 8 % 18446744073709551616 / 1099511627776 % 256] ++ [b.length * 8 % 18446744073709551616 / 4294967296 % 256])) * 1 ≤ 140737488355328, slenD (.sl .u8 (pdM b j ++ [0] ++ [0] ++ [0] ++ [0] ++ [0] ++ [0] ++ [0] ++ [b.length / 2305843009213693952 % 256] ++ [b.length * 8 % 18446744073709551616 / 72057594037927936 % 256] ++ [b.length * 8 % 18446744073709551616 / 281474976710656 % 256] ++ [b.length * 8 % 18446744073709551616 / 1099511627776 % 256] ++ [b.length * 8 % 18446744073709551616 / 4294967296 % 256] ++ [b.length * 8 % 18446744073709551616 / 16777216 % 256])) * 1 ≤ 140737488355328, slenD (.sl .u8 (pdM b j ++ [0] ++ [0] ++ [0] ++ [0] ++ [0] ++ [0] ++ [0] ++ [b.length / 2305843009213693952 % 256] ++ [b.length * 8 % 18446744073709551616 / 72057594037927936 % 256] ++ [b.length * 8 % 18446744073709551616 / 281474976710656 % 256] ++ [b.length * 8 % 18446744073709551616 / 1099511627776 % 256] ++ [b.length * 8 % 18446744073709551616 / 4294967296 % 256] ++ [b.length * 8 % 18446744073709551616 / 16777216 % 256] ++ [b.length * 8 % 18446744073709551616 / 65536 % 256])) * 1 ≤ 140737488355328, slenD (.sl .u8 (pdM b j ++ [0] ++ [0] ++ [0] ++ [0] ++ [0] ++ [0] ++ [0] ++ [b.length / 2305843009213693952 % 256] ++ [b.length * 8 % 18446744073709551616 / 72057594037927936 % 256] ++ [b.length * 8 % 18446744073709551616 / 281474976710656 % 256] ++ [b.length * 8 % 18446744073709551616 / 1099511627776 % 256] ++ [b.length * 8 % 18446744073709551616 / 4294967296 % 256] ++ [b.length * 8 % 18446744073709551616 / 16777216 % 256] ++ [b.length * 8 % 18446744073709551616 / 65536 % 256] ++ [b.length * 8 % 18446744073709551616 / 256 % 256])) * 1 ≤ 140737488355328, slenD (.sl .u8 (pdM b j ++ [0] ++ [0] ++ [0] ++ [0] ++ [0] ++ [0] ++ [0] ++ [b.length / 2305843009213693952 % 256] ++ [b.length * 8 % 18446744073709551616 / 72057594037927936 % 256] ++ [b.length * 8 % 18446744073709551616 / 281474976710656 % 256] ++ [b.length * 8 % 18446744073709551616 / 1099511627776 % 256] ++ [b.length * 8 % 18446744073709551616 / 4294967296 % 256] ++ [b.length * 8 % 18446744073709551616 / 16777216 % 256] ++ [b.length * 8 % 18446744073709551616 / 65536 % 256] ++ [b.length * 8 % 18446744073709551616 / 256 % 256] ++ [b.length * 8 % 18446744073709551616 / 1 % 256])) * 1 ≤ 140737488355328]) (sc' := []) (by kernel_rfl) (by repeat' first | exact trivial | omega | (simp only [slenD, SV.slen, Option.getD_some, List.length_append, List.length_cons, List.length_nil, pdM_len]; omega) | (simp only [bne_iff_ne, bne_eq_false_iff_eq, List.length_append, List.length_cons, List.length_nil, pdM_len]; omega) | refine ⟨?_, ?_⟩) ?_
    rw [hr]
    rw [show pd 128 16 b = beL (b.length * 8 % 18446744073709551616) (pdM b j ++ [0] ++ [0] ++ [0] ++ [0] ++ [0] ++ [0] ++ [0] ++ [b.length / 2305843009213693952 % 256]) from by rw [h61, pdM_app, pdM_app, pdM_app, pdM_app, pdM_app, pdM_app, pdM_app, pdM_app, e]; rfl]; rfl
theorem padded128_c (b : List Nat) (hb : b.length ≤ 1000000) : Contract Tryz.prog 39 [.sl .u8 b, .c .i64 128, .c .i64 16] (.sl .u8 (pd 128 16 b)) := by
  refine contract Tryz.func39 (body := bodyOf Tryz.f39) rfl (by kernel_rfl) (by kernel_rfl) rfl ?_
  rintro _ w0 S
  refine hwC mixed ctr0_ok 100 [] [0,1,2,7] [0] 3 [.lp [0, 0, 1, 1], .blk 0, .at [1, 1, 1]] ⟨64, [(0, .sl .u8 b), (1, .c .i64 128), (2, .c .i64 16), (7, .row 0 (.sl .u8 (b ++ [128])))], [(0, ⟨5, [], true⟩)], 3, 0⟩ [b.length + 256 < 9223372036854775808, (0 : Int) < (↑(b.length + 256) : Int), (↑(b.length + 256) : Int) ≤ (17592186044416 : Int), slenD (.sl .u8 b) * 1 ≤ 140737488355328, slenD (.sl .u8 (b ++ [128])) * 1 ≤ 140737488355328] (by kernel_rfl) (by repeat' first | exact trivial | omega | (simp only [slenD, SV.slen, Option.getD_some, List.length_append, List.length_cons, List.length_nil, pdM_len]; omega) | (simp only [bne_iff_ne, bne_eq_false_iff_eq, List.length_append, List.length_cons, List.length_nil, pdM_len]; omega) | refine ⟨?_, ?_⟩) ?_
  exact Hold.weaken (pd128_in b hb rfl _ 0 rfl (by omega)) (by simp [wks, wk, wk0, lim, sPd, pdM])
theorem pq128_in (b : List Nat) (hb : b.length ≤ 1000000) (hr : res = .sl .u8 (pd 128 16 b)) : ∀ d j, zP 128 16 b.length + (16 - 8) - j = d → zP 128 16 b.length ≤ j → j ≤ zP 128 16 b.length + (16 - 8) →
    Hold Tryz.prog (bodyOf Tryz.f42) (Fin Tryz.prog Tryz.f42 w0 S res) w0 S stPq (sPr 128 b j) := by
  intro d
  induction d using Nat.strongRecOn with
  | _ d ih =>
  intro j hd h2 hj
  have hz : zP 128 16 b.length = (128 - (b.length + 1 + 16) % 128) % 128 := rfl
  by_cases hlt : j < zP 128 16 b.length + (16 - 8)
  · have e := ih (zP 128 16 b.length + (16 - 8) - (j + 1)) (by omega) (j + 1) rfl (by omega) (by omega)
    refine hold_unroll (c := _) rfl ?_
    refine hwC mixed ctr0_ok 300 [true] [0,1,5] [0] 3 [.lp [0, 0, 1, 1, 1], .blk 2, .at [1, 1, 1, 1]] ⟨52, [(0, .sl .u8 b), (1, .c .i64 128), (5, .row 0 (.sl .u8 (pdM b j ++ [0])))], [(0, ⟨5, [], true⟩)], 3, 0⟩ [((pdM b j).length % 128 != 120) = true, slenD (.sl .u8 (pdM b j ++ [0])) * 1 ≤ 140737488355328] (by kernel_rfl) (by repeat' first | exact trivial | omega | (simp only [slenD, SV.slen, Option.getD_some, List.length_append, List.length_cons, List.length_nil, pdM_len]; omega) | (simp only [bne_iff_ne, bne_eq_false_iff_eq, List.length_append, List.length_cons, List.length_nil, pdM_len]; omega) | refine ⟨?_, ?_⟩) ?_
    unfold sPr at e
    rw [← pdM_app] at e
    exact e
  · have e : j = zP 128 16 b.length + (16 - 8) := by omega
    refine hold_unroll (c := _) rfl ?_
    refine hold_end mixed ctr0_ok (unroll := true) (f := 600) (sc := [false]) (r := (.sl .u8 (pdM b j ++ [b.length * 8 % 18446744073709551616 / 72057594037927936 % 256] ++ [b.length * 8 % 18446744073709551616 / 281474976710656 % 256] ++ [b.length * 8 % 18446744073709551616 / 1099511627776 % 256] ++ [b.length * 8 % 18446744073709551616 / 4294967296 % 256] ++ [b.length * 8 % 18446744073709551616 / 16777216 % 256] ++ [b.length * 8 % 18446744073709551616 / 65536 % 256] ++ [b.length * 8 % 18446744073709551616 / 256 % 256] ++ [b.length * 8 % 18446744073709551616 / 1 % 256]))) (ob := [((pdM b j).length % 128 != 120) = false, slenD (.sl .u8 (pdM b j ++ [b.length * 8 % 18446744073709551616 / 72057594037927936 % 256])) * 1 ≤ 140737488355328, slenD (.sl .u8 (pdM b j ++ [b.length * 8 % 18446744073709551616 / 72057594037927936 % 256] ++ [b.length * 8 % 18446744073709551616 / 281474976710656 % 256])) * 1 ≤ 140737488355328, slenD (.sl .u8 (pdM b j ++ [b.length * 8 % 18446744073709551616 / 72057594037927936 % 256] ++ [b.length * 8 % 18446744073709551616 / 281474976710656 % 256] ++ [b.length * 8 % 18446744073709551616 / 1099511627776 % 256])) * 1 ≤ 140737488355328, slenD (.sl .u8 (pdM b j ++ [b.length * 8 % 18446744073709551616 / 72057594037927936 % 256] ++ [b.length * 8 % 18446744073709551616 / 281474976710656 % 256] ++ [b.length * 8 % 18446744073709551616 / 1099511627776 % 256] ++ [b.length * 8 % 18446744073709551616 / 4294967296 % 256])) * 1 ≤ 140737488355328, slenD (.sl .u8 (pdM b j ++ [b.length * 8 % 18446744073709551616 / 72057594037927936 % 256] ++ [b.length * 8 % 18446744073709551616 / 281474976710656 % 256] ++ [b.length * 8 % 18446744073709551616 / 1099511627776 % 256] ++ [b.length * 8 % 18446744073709551616 / 4294967296 % 256] ++ [b.length * 8 % 18446744073709551616 / 16777216 % 256])) * 1 ≤ 140737488355328, slenD (.sl .u8 (pdM b j ++ [b.length * 8 % 18446744073709551616 / 72057594037927936 % 256] ++ [b.length * 8 % 18446744073709551616 / 281474976710656 % 256] ++ [b.length * 8 % 18446744073709551616 / 1099511627776 % 256] ++ [b.length * 8 % 18446744073709551616 / 4294967296 % 256] ++ [b.length * 8 % 18446744073709551616 / 16777216 % 256] ++ [b.length * 8 % 18446744073709551616 / 65536 % 256])) * 1 ≤ 140737488355328, slenD (.sl .u8 (pdM b j ++ [b.length * 8 % 18446744073709551616 / 72057594037927936 % 256] ++ [b.length * 8 % 18446744073709551616 / 281474976710656 % 256] ++ [b.length * 8 % 18446744073709551616 / 1099511627776 % 256] ++ [b.length * 8 % 18446744073709551616 / 4294967296 % 256] ++ [b.length * 8 % 18446744073709551616 / 16777216 % 256] ++ [b.length * 8 % 18446744073709551616 / 65536 % 256] ++ [b.length * 8 % 18446744073709551616 / 256 % 256])) * 1 ≤ 140737488355328, slenD (.sl .u8 (pdM b j ++ [b.length * 8 % 18446744073709551616 / 72057594037927936 % 256] ++ [b.length * 8 % 18446744073709551616 / 281474976710656 % 256] ++ [b.length * 8 % 18446744073709551616 / 1099511627776 % 256] ++ [b.length * 8 % 18446744073709551616 / 4294967296 % 256] ++ [b.length * 8 % 18446744073709551616 / 16777216 % 256] ++ [b.length * 8 % 18446744073709551616 / 65536 % 256] ++ [b.length * 8 % 18446744073709551616 / 256 % 256] ++ [b.length * 8 % 18446744073709551616 / 1 % 256])) * 1 ≤ 140737488355328]) (sc' := []) (by kernel_rfl) (by repeat' first | exact trivial | omega | (simp only [slenD, SV.slen, Option.getD_some, List.length_append, List.length_cons, List.length_nil, pdM_len]; omega) | (simp only [bne_iff_ne, bne_eq_false_iff_eq, List.length_append, List.length_cons, List.length_nil, pdM_len]; omega) | refine ⟨?_, ?_⟩) ?_
    rw [hr, e]
    rfl
theorem pr128_in (b : List Nat) (hb : b.length ≤ 1000000) (hr : res = .sl .u8 (pd 128 16 b)) : ∀ d j, zP 128 16 b.length - j = d → j ≤ zP 128 16 b.length →
    Hold Tryz.prog (bodyOf Tryz.f42) (Fin Tryz.prog Tryz.f42 w0 S res) w0 S stPd (sPr 128 b j) := by
  intro d
  induction d using Nat.strongRecOn with
  | _ d ih =>
  intro j hd hj
  have hz : zP 128 16 b.length = (128 - (b.length + 1 + 16) % 128) % 128 := rfl
  by_cases hlt : j < zP 128 16 b.length
  · have e := ih (zP 128 16 b.length - (j + 1)) (by omega) (j + 1) rfl (by omega)
    refine hold_unroll (c := _) rfl ?_
    refine hwC mixed ctr0_ok 300 [true] [0,1,5] [0] 3 [.lp [0, 0, 1, 1], .blk 0, .at [1, 1, 1]] ⟨52, [(0, .sl .u8 b), (1, .c .i64 128), (5, .row 0 (.sl .u8 (pdM b j ++ [0])))], [(0, ⟨5, [], true⟩)], 3, 0⟩ [((pdM b j).length % 128 != 112) = true, slenD (.sl .u8 (pdM b j ++ [0])) * 1 ≤ 140737488355328] (by kernel_rfl) (by repeat' first | exact trivial | omega | (simp only [slenD, SV.slen, Option.getD_some, List.length_append, List.length_cons, List.length_nil, pdM_len]; omega) | (simp only [bne_iff_ne, bne_eq_false_iff_eq, List.length_append, List.length_cons, List.length_nil, pdM_len]; omega) | refine ⟨?_, ?_⟩) ?_
    unfold sPr at e
    rw [← pdM_app] at e
    exact e
  · refine hold_unroll (c := _) rfl ?_
    refine hwC mixed ctr0_ok 300 [false] [0,1,5] [0] 3 [.lp [0, 0, 1, 1, 1], .blk 2, .at [1, 1, 1, 1]] ⟨52, [(0, .sl .u8 b), (1, .c .i64 128), (5, .row 0 (.sl .u8 (pdM b j)))], [(0, ⟨5, [], true⟩)], 3, 0⟩ [((pdM b j).length % 128 != 112) = false] (by kernel_rfl) (by repeat' first | exact trivial | omega | (simp only [slenD, SV.slen, Option.getD_some, List.length_append, List.length_cons, List.length_nil, pdM_len]; omega) | (simp only [bne_iff_ne, bne_eq_false_iff_eq, List.length_append, List.length_cons, List.length_nil, pdM_len]; omega) | refine ⟨?_, ?_⟩) ?_
    exact pq128_in b hb hr _ j rfl (by omega) (by omega)
theorem pad128_c (b : List Nat) (hb : b.length ≤ 1000000) : Contract Tryz.prog 42 [.sl .u8 b, .c .i64 128] (.sl .u8 (pd 128 16 b)) := by
  refine contract Tryz.func42 (body := bodyOf Tryz.f42) rfl (by kernel_rfl) (by kernel_rfl) rfl ?_
  rintro _ w0 S
  refine hwC mixed ctr0_ok 100 [] [0,1,5] [0] 3 [.lp [0, 0, 1, 1], .blk 0, .at [1, 1, 1]] ⟨52, [(0, .sl .u8 b), (1, .c .i64 128), (5, .row 0 (.sl .u8 (b ++ [128])))], [(0, ⟨5, [], true⟩)], 3, 0⟩ [slenD (.sl .u8 b) * 1 ≤ 140737488355328, slenD (.sl .u8 (b ++ [128])) * 1 ≤ 140737488355328] (by kernel_rfl) (by repeat' first | exact trivial | omega | (simp only [slenD, SV.slen, Option.getD_some, List.length_append, List.length_cons, List.length_nil, pdM_len]; omega) | (simp only [bne_iff_ne, bne_eq_false_iff_eq, List.length_append, List.length_cons, List.length_nil, pdM_len]; omega) | refine ⟨?_, ?_⟩) ?_
  exact Hold.weaken (pr128_in b hb rfl _ 0 rfl (by omega)) (by simp [wks, wk, wk0, lim, sPr, pdM])
end
end Go.Eng.B

namespace Go.Eng.B
open Go Go.Eng Go.Proofs
set_option maxRecDepth 100000
def eR32 (H : List Bk) (args : List SV) : Option (MRes × List Prop) :=
  match H, args with
  | [⟨63, [.arr .u32 8 h], false⟩, ⟨62, [.arr .u32 64 k], false⟩], [.ptr 0 0 (.c 0), .ptr 1 0 (.c 0), .sl .u8 m] => some (⟨.tup [], [b32 (A32 (gd k) m h 8), bk32 k], []⟩, [m.length = 64])
  | _, _ => none
def eB256 (args : List SV) : Option (SV × List Prop) :=
  match args with
  | [.arr .u32 8 h, .sl .u8 m] => some (.arr .u32 8 (A32 kr32 m h 8), [m.length = 64])
  | _ => none
def ePadded (args : List SV) : Option (SV × List Prop) :=
  match args with
  | [.sl .u8 b, .c .i64 64, .c .i64 8] => some (.sl .u8 (pd 64 8 b), [b.length ≤ 1000000])
  | [.sl .u8 b, .c .i64 128, .c .i64 16] => some (.sl .u8 (pd 128 16 b), [b.length ≤ 1000000])
  | _ => none
def ePad (args : List SV) : Option (SV × List Prop) :=
  match args with
  | [.sl .u8 b, .c .i64 64] => some (.sl .u8 (pd 64 8 b), [b.length ≤ 1000000])
  | [.sl .u8 b, .c .i64 128] => some (.sl .u8 (pd 128 16 b), [b.length ≤ 1000000])
  | _ => none
noncomputable def M12a : Ctr := addM 40 eR32 (addC 43 eB256 (addC 39 ePadded (addC 42 ePad (addC 38 eConst M10a))))
theorem cR32 : ∀ H args r ob, eR32 H args = some (r, ob) → All ob → ContractM Tryz.prog 40 H args r := by
  intro H args r ob h hob
  unfold eR32 at h
  split at h
  · cases h; exact round32_c _ _ _ hob.1
  · cases h
theorem cB256 : ∀ args res ob, eB256 args = some (res, ob) → All ob → Contract Tryz.prog 43 args res := by
  intro args res ob h hob
  unfold eB256 at h
  split at h
  · cases h; exact block256_c _ _ hob.1
  · cases h
theorem cPadded : ∀ args res ob, ePadded args = some (res, ob) → All ob → Contract Tryz.prog 39 args res := by
  intro args res ob h hob
  unfold ePadded at h
  split at h
  · cases h; exact padded64_c _ hob.1
  · cases h; exact padded128_c _ hob.1
  · cases h
theorem cPad : ∀ args res ob, ePad args = some (res, ob) → All ob → Contract Tryz.prog 42 args res := by
  intro args res ob h hob
  unfold ePad at h
  split at h
  · cases h; exact pad64_c _ hob.1
  · cases h; exact pad128_c _ hob.1
  · cases h
theorem okM12a : CtrOk Tryz.prog M12a := addM_ok (addC_ok (addC_ok (addC_ok (addC_ok okM10a cConst) cPad) cPadded) cB256) cR32
end Go.Eng.B

