import Derived.Test.YthaabhoopofnhaaGreatE10
set_option linter.unusedVariables false
set_option linter.unusedSimpArgs false
set_option linter.unusedSectionVars false
namespace Go.Eng.B
open Go Go.Eng Go.Proofs
set_option maxRecDepth 100000
def hP (i : Nat) : List Nat := hL.take i ++ List.replicate (8 - i) 0
def stCo : List It := [.lp [0, 1, 0, 1], .blk 0, .at [1, 1]]
def sCo (n : Nat) (i : Nat) : St := ⟨28, [(0, .u .i64 n), (2, .row 1 (.sl .u64 (kL.take i))), (3, .ptr 0 0 (.c 0)), (7, .sl .u64 (pL.take n)), (8, .u .i64 n), (9, .u .i64 i)], [(1, ⟨42, [], true⟩), (0, ⟨58, [.arr .u64 8 (hP i)], false⟩)], 4, 0⟩
theorem co_facts : ((List.range 80).all fun i => (lk pL (tabN 3) (pL.getD i 0)).isSome && (kL.take i ++ [rt 3 (pL.getD i 0)] == kL.take (i + 1)) && (decide (8 ≤ i) || (lk pL (tabN 2) (pL.getD i 0)).isSome && ((hP i).set i (rt 2 (pL.getD i 0)) == hP (i + 1))) && (decide (i < 8) || hP (i + 1) == hP i)) = true := by kernel_rfl
theorem co_fact {i : Nat} (h : i < 80) : (lk pL (tabN 3) (pL.getD i 0)).isSome = true ∧ kL.take i ++ [rt 3 (pL.getD i 0)] = kL.take (i + 1) ∧ (i < 8 → (lk pL (tabN 2) (pL.getD i 0)).isSome = true ∧ (hP i).set i (rt 2 (pL.getD i 0)) = hP (i + 1)) ∧ (¬ i < 8 → hP (i + 1) = hP i) := by
  have := List.all_eq_true.1 co_facts i (List.mem_range.2 h)
  simp only [Bool.and_eq_true, Bool.or_eq_true, decide_eq_true_eq, beq_iff_eq] at this
  obtain ⟨⟨⟨h1, h2⟩, h3⟩, h4⟩ := this
  refine ⟨h1, h2, fun h => ?_, fun h => ?_⟩
  · rcases h3 with h3 | h3
    · omega
    · exact h3
  · rcases h4 with h4 | h4
    · omega
    · exact h4
section
variable {w0 : World} {S : Own} {res : SV}
theorem co_loop (n : Nat) (hn : n ≤ 80) (h8 : 8 ≤ n) (hr : res = .tup [.sl .u64 (kL.take n), .arr .u64 8 hL]) : ∀ d i, n - i = d → i ≤ n →
    Hold Tryz.prog (bodyOf Tryz.f38) (Fin Tryz.prog Tryz.f38 w0 S res) w0 S stCo (sCo n i) := by
  intro d
  induction d using Nat.strongRecOn with
  | _ d ih =>
  intro i hd hi
  have hg : i < n → (pL.take n).getD i 0 = pL.getD i 0 := fun h => by
    rw [List.getD_eq_getElem?_getD, List.getD_eq_getElem?_getD, List.getElem?_take_of_lt h]
  have hl : (pL.take n).length = n := by rw [List.length_take]; exact Nat.min_eq_left hn
  have hf := fun h : i < n => co_fact (i := i) (by omega)
  have hend : ¬ i < n → hP i = hL := fun h => by
    have : hP i = hL.take i ++ List.replicate (8 - i) 0 := rfl
    rw [this, List.take_of_length_le (show hL.length ≤ i by show 8 ≤ i; omega), show 8 - i = 0 by omega]
    exact List.append_nil _
  have hf1 := fun h : i < n => show (lk pL (tabN 3) ((pL.take n).getD i 0)).isSome = true by rw [hg h]; exact (hf h).1
  have hf2 := fun (h : i < n) (h8 : i < 8) => show (lk pL (tabN 2) ((pL.take n).getD i 0)).isSome = true by rw [hg h]; exact ((hf h).2.2.1 h8).1
  refine hold_unroll (c := _) rfl ?_
  rcases Bool.eq_false_or_eq_true (Decidable.decide (i < n)) with hc0 | hc0
  · have hd0 := of_decide_eq_true hc0
    rcases Bool.eq_false_or_eq_true (Decidable.decide (i < (8 : Nat))) with hc1 | hc1
    · have hd1 := of_decide_eq_true hc1
      refine hwC mixed okM5a 200 [true, true] [0,2,3,7,8,9] [1,0] 4 [.lp [0, 1, 0, 1], .blk 0, .at [1, 1]] ⟨28, [(0, .u .i64 n), (2, .row 1 (.sl .u64 (List.take i kL ++ [rt 3 ((List.take n pL).getD i 0)]))), (3, .ptr 0 0 (.c 0)), (7, .sl .u64 (List.take n pL)), (8, .u .i64 n), (9, .u .i64 (i + 1))], [(1, ⟨42, [], true⟩), (0, ⟨58, [.arr .u64 8 ((hP i).set i (rt 2 ((List.take n pL).getD i 0)))], false⟩)], 4, 0⟩ [Decidable.decide (i < n) = true, i < (List.take n pL).length, (lk pL (tabN (Int.toNat (3 : Int))) ((List.take n pL).getD i 0)).isSome = true, slenD (.sl .u64 (List.take i kL ++ [rt 3 ((List.take n pL).getD i 0)])) * 8 ≤ 140737488355328, Decidable.decide (i < 8) = true, (lk pL (tabN (Int.toNat (2 : Int))) ((List.take n pL).getD i 0)).isSome = true, i < 8, i < 8, i + 1 < 9223372036854775808] (by kernel_rfl) ?_ ?_
      · exact ⟨hc0, (by first | trivial | omega | (rw [hl]; omega) | exact hf1 (by omega) | exact hf2 (by omega) (by omega) | (simp only [slenD, SV.slen, List.length_append, List.length_take, List.length_cons, List.length_nil, Option.getD_some]; omega)), (by first | trivial | omega | (rw [hl]; omega) | exact hf1 (by omega) | exact hf2 (by omega) (by omega) | (simp only [slenD, SV.slen, List.length_append, List.length_take, List.length_cons, List.length_nil, Option.getD_some]; omega)), (by first | trivial | omega | (rw [hl]; omega) | exact hf1 (by omega) | exact hf2 (by omega) (by omega) | (simp only [slenD, SV.slen, List.length_append, List.length_take, List.length_cons, List.length_nil, Option.getD_some]; omega)), hc1, (by first | trivial | omega | (rw [hl]; omega) | exact hf1 (by omega) | exact hf2 (by omega) (by omega) | (simp only [slenD, SV.slen, List.length_append, List.length_take, List.length_cons, List.length_nil, Option.getD_some]; omega)), (by first | trivial | omega | (rw [hl]; omega) | exact hf1 (by omega) | exact hf2 (by omega) (by omega) | (simp only [slenD, SV.slen, List.length_append, List.length_take, List.length_cons, List.length_nil, Option.getD_some]; omega)), (by first | trivial | omega | (rw [hl]; omega) | exact hf1 (by omega) | exact hf2 (by omega) (by omega) | (simp only [slenD, SV.slen, List.length_append, List.length_take, List.length_cons, List.length_nil, Option.getD_some]; omega)), (by first | trivial | omega | (rw [hl]; omega) | exact hf1 (by omega) | exact hf2 (by omega) (by omega) | (simp only [slenD, SV.slen, List.length_append, List.length_take, List.length_cons, List.length_nil, Option.getD_some]; omega)), trivial⟩
      · first | (rw [hg hd0, (hf hd0).2.1, ((hf hd0).2.2.1 hd1).2]; exact ih (n - (i + 1)) (by omega) (i + 1) rfl (by omega)) | (rw [hg hd0, (hf hd0).2.1]; have e := (hf hd0).2.2.2 hd1; have h := ih (n - (i + 1)) (by omega) (i + 1) rfl (by omega); unfold sCo at h; rw [e] at h; exact h)
    · have hd1 := of_decide_eq_false hc1
      refine hwC mixed okM5a 200 [true, false] [0,2,3,7,8,9] [1,0] 4 [.lp [0, 1, 0, 1], .blk 0, .at [1, 1]] ⟨28, [(0, .u .i64 n), (2, .row 1 (.sl .u64 (List.take i kL ++ [rt 3 ((List.take n pL).getD i 0)]))), (3, .ptr 0 0 (.c 0)), (7, .sl .u64 (List.take n pL)), (8, .u .i64 n), (9, .u .i64 (i + 1))], [(1, ⟨42, [], true⟩), (0, ⟨58, [.arr .u64 8 (hP i)], false⟩)], 4, 0⟩ [Decidable.decide (i < n) = true, i < (List.take n pL).length, (lk pL (tabN (Int.toNat (3 : Int))) ((List.take n pL).getD i 0)).isSome = true, slenD (.sl .u64 (List.take i kL ++ [rt 3 ((List.take n pL).getD i 0)])) * 8 ≤ 140737488355328, Decidable.decide (i < 8) = false, i + 1 < 9223372036854775808] (by kernel_rfl) ?_ ?_
      · exact ⟨hc0, (by first | trivial | omega | (rw [hl]; omega) | exact hf1 (by omega) | exact hf2 (by omega) (by omega) | (simp only [slenD, SV.slen, List.length_append, List.length_take, List.length_cons, List.length_nil, Option.getD_some]; omega)), (by first | trivial | omega | (rw [hl]; omega) | exact hf1 (by omega) | exact hf2 (by omega) (by omega) | (simp only [slenD, SV.slen, List.length_append, List.length_take, List.length_cons, List.length_nil, Option.getD_some]; omega)), (by first | trivial | omega | (rw [hl]; omega) | exact hf1 (by omega) | exact hf2 (by omega) (by omega) | (simp only [slenD, SV.slen, List.length_append, List.length_take, List.length_cons, List.length_nil, Option.getD_some]; omega)), hc1, (by first | trivial | omega | (rw [hl]; omega) | exact hf1 (by omega) | exact hf2 (by omega) (by omega) | (simp only [slenD, SV.slen, List.length_append, List.length_take, List.length_cons, List.length_nil, Option.getD_some]; omega)), trivial⟩
      · first | (rw [hg hd0, (hf hd0).2.1, ((hf hd0).2.2.1 hd1).2]; exact ih (n - (i + 1)) (by omega) (i + 1) rfl (by omega)) | (rw [hg hd0, (hf hd0).2.1]; have e := (hf hd0).2.2.2 hd1; have h := ih (n - (i + 1)) (by omega) (i + 1) rfl (by omega); unfold sCo at h; rw [e] at h; exact h)
  · have hd0 := of_decide_eq_false hc0
    refine hwE mixed okM5a 200 [false] (.tup [.sl .u64 (List.take i kL), .arr .u64 8 (hP i)]) [Decidable.decide (i < n) = false] (by kernel_rfl) ?_ ?_
    · exact ⟨hc0, trivial⟩
    · (have e : i = n := (by omega); subst e; rw [hr, hend (by omega)]; exact wkR_of rfl)
theorem const_c (n : Nat) (hn : n = 64 ∨ n = 80) : Contract Tryz.prog 38 [.c .i64 n] (.tup [.sl .u64 (kL.take n), .arr .u64 8 hL]) := by
  refine contract Tryz.func38 (body := bodyOf Tryz.f38) rfl (by kernel_rfl) (by kernel_rfl) rfl ?_
  rintro ⟨_, _⟩ w0 S
  rcases hn with rfl | rfl
  · refine hwC mixed okM5a 100 [] [0,2,3,7,8,9] [0] 1 [.lp [0, 1, 0, 1], .blk 0, .at [1, 1]] ⟨28, [(0, .c .i64 64), (2, .nil), (3, .ptr 0 0 (.c 0)), (7, .sl .u64 (List.take 64 pL)), (8, .u .i64 64), (9, .c .i64 0)], [(0, ⟨58, [.arr .u64 8 [0, 0, 0, 0, 0, 0, 0, 0]], false⟩)], 1, 0⟩ [] (by kernel_rfl) trivial ?_
    refine hold_nil (t := 2) (e := 42) (s0 := .sl .u64 []) rfl ?_
    refine hold_restrict (ks := [0,2,3,7,8,9]) (bs := [1,0]) (nx := 4) rfl ?_
    exact Hold.weaken (co_loop 64 (by omega) (by omega) rfl _ 0 rfl (by omega)) (by simp [wks, wk, wk0, lim, sCo])
  · refine hwC mixed okM5a 100 [] [0,2,3,7,8,9] [0] 1 [.lp [0, 1, 0, 1], .blk 0, .at [1, 1]] ⟨28, [(0, .c .i64 80), (2, .nil), (3, .ptr 0 0 (.c 0)), (7, .sl .u64 pL), (8, .u .i64 80), (9, .c .i64 0)], [(0, ⟨58, [.arr .u64 8 [0, 0, 0, 0, 0, 0, 0, 0]], false⟩)], 1, 0⟩ [] (by kernel_rfl) trivial ?_
    refine hold_nil (t := 2) (e := 42) (s0 := .sl .u64 []) rfl ?_
    refine hold_restrict (ks := [0,2,3,7,8,9]) (bs := [1,0]) (nx := 4) rfl ?_
    exact Hold.weaken (co_loop 80 (by omega) (by omega) rfl _ 0 rfl (by omega)) (by simp [wks, wk, wk0, lim, sCo]; rfl)
def eConst (args : List SV) : Option (SV × List Prop) :=
  match args with
  | [.c .i64 64] => some (.tup [.sl .u64 (kL.take 64), .arr .u64 8 hL], [])
  | [.c .i64 80] => some (.tup [.sl .u64 kL, .arr .u64 8 hL], [])
  | _ => none
theorem cConst : ∀ args res ob, eConst args = some (res, ob) → All ob → Contract Tryz.prog 38 args res := by
  intro args res ob h _
  unfold eConst at h
  split at h
  · cases h; exact const_c 64 (.inl rfl)
  · cases h; exact const_c 80 (.inr rfl)
  · cases h
end
end Go.Eng.B

namespace Go.Eng.B
open Go Go.Eng Go.Proofs
set_option maxRecDepth 100000
def rotT (P : Program) (r32 : Func) : Ctr := addC 81 (inl P ctr0 r32 40) ctr0
def rotU (P : Program) (r32 : Func) (a c : Func) : Ctr := addC 59 (inl P (rotT P r32) a 40) (addC 61 (inl P (rotT P r32) c 40) ctr0)
noncomputable def M8a : Ctr := rotU Tryz.prog Tryz.f81 Tryz.f59 Tryz.f61
theorem okM8a : CtrOk Tryz.prog M8a := by
  have h : CtrOk Tryz.prog (rotT Tryz.prog Tryz.f81) := addC_ok ctr0_ok (inl_ok mixed (by kernel_rfl) (by kernel_rfl) (by kernel_rfl) ctr0_ok)
  exact addC_ok (addC_ok ctr0_ok (inl_ok mixed (by kernel_rfl) (by kernel_rfl) (by kernel_rfl) h)) (inl_ok mixed (by kernel_rfl) (by kernel_rfl) (by kernel_rfl) h)
end Go.Eng.B

