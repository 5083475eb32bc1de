import Derived.Test.YthaabhoopofnhaaGreatE12
set_option linter.unusedVariables false
set_option linter.unusedSimpArgs false
set_option linter.unusedSectionVars false
namespace Go.Eng.B
open Go Go.Eng Go.Proofs
set_option maxRecDepth 100000
def g32 (x : Nat) : Nat := x / 4294967296 % 4294967296
def kF (i : Nat) : List Nat := itr (fun k j => k.set j (g32 ((kL.take 64).getD j 0))) (List.replicate 64 0) i
def hF (i : Nat) : List Nat := itr (fun k j => k.set j (g32 (hL.getD j 0))) (List.replicate 8 0) i
def cmp (k : Nat → Nat) (m h : List Nat) (i : Nat) : List Nat := itr (fun h j => A32 k (((m.drop (64 * j)).take 64).drop 0) h 8) h i
def out32 (h : List Nat) (i : Nat) : List Nat := itr (fun o j => o ++ [h.getD j 0 / 16777216 % 256, h.getD j 0 / 65536 % 256, h.getD j 0 / 256 % 256, h.getD j 0 % 256]) [] i
def sum32 (b : List Nat) : List Nat := out32 (cmp kr32 (pd 64 8 b) (hF 8) ((pd 64 8 b).length / 64)) 8
def bY : Bk := ⟨5, [], true⟩
def b8 : Bk := ⟨58, [.arr .u64 8 hL], false⟩
def st1 : List It := [.lp [0, 1, 0, 1, 1, 1], .blk 0, .at [1, 1, 1, 1]]
def s1 (b : List Nat) (i : Nat) : St := ⟨70, [(0, .sl .u8 b), (3, .sl .u64 (kL.take 64)), (4, .ptr 0 0 (.c 0)), (5, .ptr 1 0 (.c 0)), (17, .u .i64 i)], [(0, b8), (1, bk32 (kF i))], 2, 0⟩
def st2 : List It := [.lp [0, 1, 0, 1, 1, 1, 1, 1], .blk 2, .at [1, 1, 1, 1, 1, 1]]
def s2 (b : List Nat) (i : Nat) : St := ⟨70, [(0, .sl .u8 b), (4, .ptr 0 0 (.c 0)), (5, .ptr 1 0 (.c 0)), (7, .ptr 2 0 (.c 0)), (29, .u .i64 i)], [(0, b8), (1, bk32 (kF 64)), (2, b32 (hF i))], 3, 0⟩
def st3 : List It := [.lp [0, 1, 0, 1, 1, 1, 1, 1, 1], .blk 4, .at [1, 1, 1, 1, 1, 1, 1]]
def s3 (m h : List Nat) : St := ⟨70, [(5, .ptr 1 0 (.c 0)), (7, .ptr 2 0 (.c 0)), (9, .sl .u8 m)], [(1, bk32 (kF 64)), (2, b32 h)], 3, 0⟩
def st4 : List It := [.lp [0, 1, 0, 1, 1, 1, 1, 1, 1, 1, 1], .blk 6, .at [1, 1, 1, 1, 1, 1, 1, 1, 1]]
def s4 (h : List Nat) (i : Nat) : St := ⟨70, [(10, .row 3 (.sl .u8 (out32 h i))), (50, .arr .u32 8 h), (51, .u .i64 i)], [(3, bY)], 6, 0⟩
def rt1 : List It := [.lp [0, 1, 0, 1, 1], .blk 0, .at [1, 1, 1]]
def r1 (b : List Nat) (i : Nat) : St := ⟨57, [(0, .sl .u8 b), (3, .ptr 0 0 (.c 0)), (11, .arr .u64 8 hL), (12, .u .i64 i)], [(0, b32 (hF i))], 1, 0⟩
def rt2 : List It := [.lp [0, 1, 0, 1, 1, 1, 1], .blk 2, .at [1, 1, 1, 1, 1]]
def r2 (m h : List Nat) (i : Nat) : St := ⟨57, [(3, .ptr 0 0 (.c 0)), (6, .sl .u8 m), (7, .u .i64 (64 * i))], [(0, b32 h)], 1, 0⟩
def rt3 : List It := [.lp [0, 1, 0, 1, 1, 1, 1, 1, 1], .blk 4, .at [1, 1, 1, 1, 1, 1, 1]]
def r3 (h : List Nat) (i : Nat) : St := ⟨57, [(8, .row 1 (.sl .u8 (out32 h i))), (37, .arr .u32 8 h), (38, .u .i64 i)], [(1, bY)], 4, 0⟩
theorem out32_len (h : List Nat) : ∀ i, (out32 h i).length = 4 * i := by
  intro i
  induction i with
  | zero => rfl
  | succ i ih => show (out32 h i ++ _).length = _; simp only [List.length_append, ih, List.length_cons, List.length_nil]; omega
theorem R32_zero (k : Nat → Nat) (m h : List Nat) : R32 k m h 0 = h := by unfold R32; rw [itr]
theorem R32_succ (k : Nat → Nat) (m h : List Nat) (i : Nat) : R32 k m h (i + 1) = stepR32 k (W32 m 64) (R32 k m h i) i := by unfold R32; rw [itr]
theorem R32_congr {k k' : Nat → Nat} (m h : List Nat) (hk : ∀ i, i < 64 → k i = k' i) : ∀ i, i ≤ 64 → R32 k m h i = R32 k' m h i := by
  intro i
  induction i with
  | zero => intro _; rw [R32_zero, R32_zero]
  | succ i ih =>
    intro hi
    rw [R32_succ, R32_succ, ih (by omega)]
    generalize R32 k' m h i = s
    generalize W32 m 64 = w
    unfold stepR32 t32
    rw [hk i (by omega)]
theorem kF_all : ((List.range 64).all fun i => Nat.beq (gd (kF 64) i) (kr32 i)) = true := by kernel_rfl
theorem kF_eq (i : Nat) (h : i < 64) : gd (kF 64) i = kr32 i := Nat.eq_of_beq_eq_true (List.all_eq_true.1 kF_all i (List.mem_range.2 h))
theorem A32_kF (m h : List Nat) (i : Nat) : A32 (gd (kF 64)) m h i = A32 kr32 m h i := by
  unfold A32
  rw [R32_congr m h kF_eq 64 (Nat.le_refl _)]
theorem pd_len (b : List Nat) : (pd 64 8 b).length = b.length + 1 + zP 64 8 b.length + 8 := by
  simp [pd, beL, pdM_len]
theorem pd_mul (b : List Nat) : (pd 64 8 b).length = 64 * ((pd 64 8 b).length / 64) := by
  rw [pd_len]; unfold zP; omega
theorem cut_ref (m : List Nat) (i : Nat) : (m.take (64 * i + 64)).drop (64 * i) = ((m.drop (64 * i)).take 64).drop 0 := by
  rw [List.drop_zero, List.drop_take, Nat.add_sub_cancel_left]
section
variable {w0 : Fr} {S : Own} {res : SV}
theorem s256_4 (h : List Nat) (hr : res = .sl .u8 (out32 h 8)) : ∀ d i, 8 - i = d → i ≤ 8 →
    Hold Tryz.prog (bodyOf Tryz.f22) (FinM Tryz.prog Tryz.f22 w0 S ⟨.row 0 res, [], [bY]⟩) w0 S st4 (s4 h i) := by
  intro d
  induction d using Nat.strongRecOn with
  | _ d ih =>
  intro i hd hi
  by_cases hlt : i < 8
  · have e := ih (8 - (i + 1)) (by omega) (i + 1) rfl (by omega)
    refine hold_unroll (c := _) rfl ?_
    refine hwC mixed okM12a 300 [true] [10,50,51] [3] 6 [.lp [0, 1, 0, 1, 1, 1, 1, 1, 1, 1, 1], .blk 6, .at [1, 1, 1, 1, 1, 1, 1, 1, 1]] ⟨70, [(10, .row 3 (.sl .u8 (out32 h i ++ [h.getD i 0 / 16777216 % 256, h.getD i 0 / 65536 % 256, h.getD i 0 / 256 % 256, h.getD i 0 % 256]))), (50, .arr .u32 8 h), (51, .u .i64 (i + 1))], [(3, ⟨5, [], true⟩)], 6, 0⟩ [Decidable.decide (i < 8) = true, i < 8, slenD (.sl .u8 (out32 h i ++ [h.getD i 0 / 16777216 % 256, h.getD i 0 / 65536 % 256, h.getD i 0 / 256 % 256, h.getD i 0 % 256])) * 1 ≤ 140737488355328, i + 1 < 9223372036854775808] (by kernel_rfl) (by repeat' first | exact trivial | exact decide_eq_true (by omega) | exact decide_eq_false (by omega) | omega | (simp only [List.length_drop, List.length_take]; omega) | (simp only [decide_eq_true_eq, decide_eq_false_iff_not, List.length_drop, List.length_take]; omega) | (simp only [slenD, SV.slen, Option.getD_some, List.length_append, List.length_cons, List.length_nil, out32_len]; omega) | refine ⟨?_, ?_⟩) ?_
    exact e
  · have e : i = 8 := by omega
    subst e
    refine hold_unroll (c := _) rfl ?_
    refine hold_endNw mixed okM12a (news := [3]) (unroll := false) (f := 300) (sc := [false]) (r := { res := .row 0 (.sl .u8 (out32 h 8)), upd := [], new := [⟨5, [], true⟩] }) (ob := [false = false]) (sc' := []) (by kernel_rfl) (by repeat' first | exact trivial | exact decide_eq_true (by omega) | exact decide_eq_false (by omega) | omega | (simp only [List.length_drop, List.length_take]; omega) | (simp only [decide_eq_true_eq, decide_eq_false_iff_not, List.length_drop, List.length_take]; omega) | (simp only [slenD, SV.slen, Option.getD_some, List.length_append, List.length_cons, List.length_nil, out32_len]; omega) | refine ⟨?_, ?_⟩) ?_
    exact wkM_of (by rw [hr]; rfl)
theorem s256_3 (m h : List Nat) (n : Nat) (hn : m.length = 64 * n) (hr : res = .sl .u8 (out32 (cmp kr32 m h n) 8)) : ∀ d i, n - i = d → i ≤ n →
    Hold Tryz.prog (bodyOf Tryz.f22) (FinM Tryz.prog Tryz.f22 w0 S ⟨.row 0 res, [], [bY]⟩) w0 S st3 (s3 (m.drop (64 * i)) (cmp kr32 m h i)) := by
  intro d
  induction d using Nat.strongRecOn with
  | _ d ih =>
  intro i hd hi
  by_cases hlt : i < n
  · have e := ih (n - (i + 1)) (by omega) (i + 1) rfl (by omega)
    refine hold_unroll (c := _) rfl ?_
    refine hwC mixed okM12a 300 [true] [5,7,9] [1,2] 3 [.lp [0, 1, 0, 1, 1, 1, 1, 1, 1], .blk 4, .at [1, 1, 1, 1, 1, 1, 1]] ⟨70, [(5, .ptr 1 0 (.c 0)), (7, .ptr 2 0 (.c 0)), (9, .sl .u8 (List.drop 64 (List.take (List.drop (64 * i) m).length (List.drop (64 * i) m))))], [(1, ⟨62, [.arr .u32 64 (kF 64)], false⟩), (2, ⟨63, [.arr .u32 8 (A32 (gd (kF 64)) (List.drop 0 (List.take 64 (List.drop (64 * i) m))) (cmp kr32 m h i) 8)], false⟩)], 3, 0⟩ [Decidable.decide (0 < (List.drop (64 * i) m).length) = true, 0 ≤ 64, 64 ≤ (List.drop (64 * i) m).length, (List.drop 0 (List.take 64 (List.drop (64 * i) m))).length = 64, 64 ≤ (List.drop (64 * i) m).length, (List.drop (64 * i) m).length ≤ (List.drop (64 * i) m).length] (by kernel_rfl) (by repeat' first | exact trivial | exact decide_eq_true (by omega) | exact decide_eq_false (by omega) | omega | (simp only [List.length_drop, List.length_take]; omega) | (simp only [decide_eq_true_eq, decide_eq_false_iff_not, List.length_drop, List.length_take]; omega) | (simp only [slenD, SV.slen, Option.getD_some, List.length_append, List.length_cons, List.length_nil, out32_len]; omega) | refine ⟨?_, ?_⟩) ?_
    rw [A32_kF, List.take_of_length_le (Nat.le_refl _), List.drop_drop, show 64 * i + 64 = 64 * (i + 1) by omega]
    exact e
  · have e : i = n := by omega
    subst e
    refine hold_unroll (c := _) rfl ?_
    refine hwC mixed okM12a 300 [false] [10,50,51] [] 3 [.lp [0, 1, 0, 1, 1, 1, 1, 1, 1, 1, 1], .blk 6, .at [1, 1, 1, 1, 1, 1, 1, 1, 1]] ⟨70, [(10, .nil), (50, .arr .u32 8 (cmp kr32 m h i)), (51, .c .i64 0)], [], 3, 0⟩ [Decidable.decide (0 < (List.drop (64 * i) m).length) = false] (by kernel_rfl) (by repeat' first | exact trivial | exact decide_eq_true (by omega) | exact decide_eq_false (by omega) | omega | (simp only [List.length_drop, List.length_take]; omega) | (simp only [decide_eq_true_eq, decide_eq_false_iff_not, List.length_drop, List.length_take]; omega) | (simp only [slenD, SV.slen, Option.getD_some, List.length_append, List.length_cons, List.length_nil, out32_len]; omega) | refine ⟨?_, ?_⟩) ?_
    refine hold_nil (t := 10) (e := 5) (s0 := .sl .u8 []) rfl ?_
    refine hold_restrict (ks := [10,50,51]) (bs := [3]) (nx := 6) rfl ?_
    exact Hold.weaken (s256_4 _ hr _ 0 rfl (by omega)) (by simp [wks, wk, wk0, lim, s4, out32, itr])
theorem s256_2 (b : List Nat) (hb : b.length ≤ 1000000) (hr : res = .sl .u8 (sum32 b)) : ∀ d i, 8 - i = d → i ≤ 8 →
    Hold Tryz.prog (bodyOf Tryz.f22) (FinM Tryz.prog Tryz.f22 w0 S ⟨.row 0 res, [], [bY]⟩) w0 S st2 (s2 b i) := by
  intro d
  induction d using Nat.strongRecOn with
  | _ d ih =>
  intro i hd hi
  by_cases hlt : i < 8
  · have e := ih (8 - (i + 1)) (by omega) (i + 1) rfl (by omega)
    refine hold_unroll (c := _) rfl ?_
    refine hwC mixed okM12a 300 [true] [0,4,5,7,29] [0,1,2] 3 [.lp [0, 1, 0, 1, 1, 1, 1, 1], .blk 2, .at [1, 1, 1, 1, 1, 1]] ⟨70, [(0, .sl .u8 b), (4, .ptr 0 0 (.c 0)), (5, .ptr 1 0 (.c 0)), (7, .ptr 2 0 (.c 0)), (29, .u .i64 (i + 1))], [(0, ⟨58, [.arr .u64 8 hL], false⟩), (1, ⟨62, [.arr .u32 64 (kF 64)], false⟩), (2, ⟨63, [.arr .u32 8 ((hF i).set i (hL.getD i 0 / 4294967296 % 4294967296))], false⟩)], 3, 0⟩ [Decidable.decide (i < 8) = true, i < 8, i < 8, i < 8, i < 8, i + 1 < 9223372036854775808] (by kernel_rfl) (by repeat' first | exact trivial | exact decide_eq_true (by omega) | exact decide_eq_false (by omega) | omega | (simp only [List.length_drop, List.length_take]; omega) | (simp only [decide_eq_true_eq, decide_eq_false_iff_not, List.length_drop, List.length_take]; omega) | (simp only [slenD, SV.slen, Option.getD_some, List.length_append, List.length_cons, List.length_nil, out32_len]; omega) | refine ⟨?_, ?_⟩) ?_
    exact e
  · have e : i = 8 := by omega
    subst e
    refine hold_unroll (c := _) rfl ?_
    refine hwC mixed okM12a 300 [false] [5,7,9] [1,2] 3 [.lp [0, 1, 0, 1, 1, 1, 1, 1, 1], .blk 4, .at [1, 1, 1, 1, 1, 1, 1]] ⟨70, [(5, .ptr 1 0 (.c 0)), (7, .ptr 2 0 (.c 0)), (9, .sl .u8 (pd 64 8 b))], [(1, ⟨62, [.arr .u32 64 (kF 64)], false⟩), (2, ⟨63, [.arr .u32 8 (hF 8)], false⟩)], 3, 0⟩ [false = false, b.length ≤ 1000000] (by kernel_rfl) (by repeat' first | exact trivial | exact decide_eq_true (by omega) | exact decide_eq_false (by omega) | omega | (simp only [List.length_drop, List.length_take]; omega) | (simp only [decide_eq_true_eq, decide_eq_false_iff_not, List.length_drop, List.length_take]; omega) | (simp only [slenD, SV.slen, Option.getD_some, List.length_append, List.length_cons, List.length_nil, out32_len]; omega) | refine ⟨?_, ?_⟩) ?_
    exact s256_3 (pd 64 8 b) (hF 8) _ (pd_mul b) hr _ 0 rfl (by omega)
theorem s256_1 (b : List Nat) (hb : b.length ≤ 1000000) (hr : res = .sl .u8 (sum32 b)) : ∀ d i, 64 - i = d → i ≤ 64 →
    Hold Tryz.prog (bodyOf Tryz.f22) (FinM Tryz.prog Tryz.f22 w0 S ⟨.row 0 res, [], [bY]⟩) w0 S st1 (s1 b i) := by
  intro d
  induction d using Nat.strongRecOn with
  | _ d ih =>
  intro i hd hi
  by_cases hlt : i < 64
  · have e := ih (64 - (i + 1)) (by omega) (i + 1) rfl (by omega)
    refine hold_unroll (c := _) rfl ?_
    refine hwC mixed okM12a 300 [true] [0,3,4,5,17] [0,1] 2 [.lp [0, 1, 0, 1, 1, 1], .blk 0, .at [1, 1, 1, 1]] ⟨70, [(0, .sl .u8 b), (3, .sl .u64 (List.take 64 kL)), (4, .ptr 0 0 (.c 0)), (5, .ptr 1 0 (.c 0)), (17, .u .i64 (i + 1))], [(0, ⟨58, [.arr .u64 8 hL], false⟩), (1, ⟨62, [.arr .u32 64 ((kF i).set i ((List.take 64 kL).getD i 0 / 4294967296 % 4294967296))], false⟩)], 2, 0⟩ [Decidable.decide (i < 64) = true, i < 64, i < 64, i < 64, i + 1 < 9223372036854775808] (by kernel_rfl) (by repeat' first | exact trivial | exact decide_eq_true (by omega) | exact decide_eq_false (by omega) | omega | (simp only [List.length_drop, List.length_take]; omega) | (simp only [decide_eq_true_eq, decide_eq_false_iff_not, List.length_drop, List.length_take]; omega) | (simp only [slenD, SV.slen, Option.getD_some, List.length_append, List.length_cons, List.length_nil, out32_len]; omega) | refine ⟨?_, ?_⟩) ?_
    exact e
  · have e : i = 64 := by omega
    subst e
    refine hold_unroll (c := _) rfl ?_
    refine hwC mixed okM12a 300 [false] [0,4,5,7,29] [0,1,2] 3 [.lp [0, 1, 0, 1, 1, 1, 1, 1], .blk 2, .at [1, 1, 1, 1, 1, 1]] ⟨70, [(0, .sl .u8 b), (4, .ptr 0 0 (.c 0)), (5, .ptr 1 0 (.c 0)), (7, .ptr 2 0 (.c 0)), (29, .c .i64 0)], [(0, ⟨58, [.arr .u64 8 hL], false⟩), (1, ⟨62, [.arr .u32 64 (kF 64)], false⟩), (2, ⟨63, [.arr .u32 8 [0, 0, 0, 0, 0, 0, 0, 0]], false⟩)], 3, 0⟩ [false = false] (by kernel_rfl) (by repeat' first | exact trivial | exact decide_eq_true (by omega) | exact decide_eq_false (by omega) | omega | (simp only [List.length_drop, List.length_take]; omega) | (simp only [decide_eq_true_eq, decide_eq_false_iff_not, List.length_drop, List.length_take]; omega) | (simp only [slenD, SV.slen, Option.getD_some, List.length_append, List.length_cons, List.length_nil, out32_len]; omega) | refine ⟨?_, ?_⟩) ?_
    exact Hold.weaken (s256_2 b hb hr _ 0 rfl (by omega)) (by simp [wks, wk, wk0, lim, s2])
theorem sum256_m (b : List Nat) (hb : b.length ≤ 1000000) : ContractM Tryz.prog 22 [] [.sl .u8 b] ⟨.row 0 (.sl .u8 (sum32 b)), [], [bY]⟩ := by
  refine contractM Tryz.func22 (body := bodyOf Tryz.f22) rfl (by kernel_rfl) (by kernel_rfl) rfl rfl ?_
  rintro _ _ w0 S _
  refine hwC mixed okM12a 100 [] [0,3,4,5,17] [0,1] 2 [.lp [0, 1, 0, 1, 1, 1], .blk 0, .at [1, 1, 1, 1]] ⟨70, [(0, .sl .u8 b), (3, .sl .u64 (List.take 64 kL)), (4, .ptr 0 0 (.c 0)), (5, .ptr 1 0 (.c 0)), (17, .c .i64 0)], [(0, ⟨58, [.arr .u64 8 hL], false⟩), (1, ⟨62, [.arr .u32 64 [0, 0, 0, 0, 0, 0, 0, 0, 0, 0, 0, 0, 0, 0, 0, 0, 0, 0, 0, 0, 0, 0, 0, 0, 0, 0, 0, 0, 0, 0, 0, 0, 0, 0, 0, 0, 0, 0, 0, 0, 0, 0, 0, 0, 0, 0, 0, 0, 0, 0, 0, 0, 0, 0, 0, 0, 0, 0, 0, 0, 0, 0, 0, 0]], false⟩)], 2, 0⟩ [] (by kernel_rfl) (by repeat' first | exact trivial | exact decide_eq_true (by omega) | exact decide_eq_false (by omega) | omega | (simp only [List.length_drop, List.length_take]; omega) | (simp only [decide_eq_true_eq, decide_eq_false_iff_not, List.length_drop, List.length_take]; omega) | (simp only [slenD, SV.slen, Option.getD_some, List.length_append, List.length_cons, List.length_nil, out32_len]; omega) | refine ⟨?_, ?_⟩) ?_
  exact Hold.weaken (s256_1 b hb rfl _ 0 rfl (by omega)) (by simp [wks, wk, wk0, lim, s1])
theorem q256_3 (h : List Nat) (hr : res = .sl .u8 (out32 h 8)) : ∀ d i, 8 - i = d → i ≤ 8 →
    Hold Tryz.prog (bodyOf Tryz.f24) (FinM Tryz.prog Tryz.f24 w0 S ⟨.row 0 res, [], [bY]⟩) w0 S rt3 (r3 h i) := by
  intro d
  induction d using Nat.strongRecOn with
  | _ d ih =>
  intro i hd hi
  by_cases hlt : i < 8
  · have e := ih (8 - (i + 1)) (by omega) (i + 1) rfl (by omega)
    refine hold_unroll (c := _) rfl ?_
    refine hwC mixed okM12a 300 [true] [8,37,38] [1] 4 [.lp [0, 1, 0, 1, 1, 1, 1, 1, 1], .blk 4, .at [1, 1, 1, 1, 1, 1, 1]] ⟨57, [(8, .row 1 (.sl .u8 (out32 h i ++ [h.getD i 0 / 16777216 % 256, h.getD i 0 / 65536 % 256, h.getD i 0 / 256 % 256, h.getD i 0 % 256]))), (37, .arr .u32 8 h), (38, .u .i64 (i + 1))], [(1, ⟨5, [], true⟩)], 4, 0⟩ [Decidable.decide (i < 8) = true, i < 8, slenD (.sl .u8 (out32 h i ++ [h.getD i 0 / 16777216 % 256, h.getD i 0 / 65536 % 256, h.getD i 0 / 256 % 256, h.getD i 0 % 256])) * 1 ≤ 140737488355328, i + 1 < 9223372036854775808] (by kernel_rfl) (by repeat' first | exact trivial | exact decide_eq_true (by omega) | exact decide_eq_false (by omega) | omega | (simp only [List.length_drop, List.length_take]; omega) | (simp only [decide_eq_true_eq, decide_eq_false_iff_not, List.length_drop, List.length_take]; omega) | (simp only [slenD, SV.slen, Option.getD_some, List.length_append, List.length_cons, List.length_nil, out32_len]; omega) | refine ⟨?_, ?_⟩) ?_
    exact e
  · have e : i = 8 := by omega
    subst e
    refine hold_unroll (c := _) rfl ?_
    refine hold_endNw mixed okM12a (news := [1]) (unroll := false) (f := 300) (sc := [false]) (r := { res := .row 0 (.sl .u8 (out32 h 8)), upd := [], new := [⟨5, [], true⟩] }) (ob := [false = false]) (sc' := []) (by kernel_rfl) (by repeat' first | exact trivial | exact decide_eq_true (by omega) | exact decide_eq_false (by omega) | omega | (simp only [List.length_drop, List.length_take]; omega) | (simp only [decide_eq_true_eq, decide_eq_false_iff_not, List.length_drop, List.length_take]; omega) | (simp only [slenD, SV.slen, Option.getD_some, List.length_append, List.length_cons, List.length_nil, out32_len]; omega) | refine ⟨?_, ?_⟩) ?_
    exact wkM_of (by rw [hr]; rfl)
theorem q256_2 (m h : List Nat) (n : Nat) (hn : m.length = 64 * n) (hn2 : n < 100000) (hr : res = .sl .u8 (out32 (cmp kr32 m h n) 8)) : ∀ d i, n - i = d → i ≤ n →
    Hold Tryz.prog (bodyOf Tryz.f24) (FinM Tryz.prog Tryz.f24 w0 S ⟨.row 0 res, [], [bY]⟩) w0 S rt2 (r2 m (cmp kr32 m h i) i) := by
  intro d
  induction d using Nat.strongRecOn with
  | _ d ih =>
  intro i hd hi
  by_cases hlt : i < n
  · have e := ih (n - (i + 1)) (by omega) (i + 1) rfl (by omega)
    refine hold_unroll (c := _) rfl ?_
    refine hwC mixed okM12a 300 [true] [3,6,7] [0] 1 [.lp [0, 1, 0, 1, 1, 1, 1], .blk 2, .at [1, 1, 1, 1, 1]] ⟨57, [(3, .ptr 0 0 (.c 0)), (6, .sl .u8 m), (7, .u .i64 (64 * i + 64))], [(0, ⟨63, [.arr .u32 8 (A32 kr32 (List.drop (64 * i) (List.take (64 * i + 64) m)) (cmp kr32 m h i) 8)], false⟩)], 1, 0⟩ [Decidable.decide (64 * i < m.length) = true, 64 * i + 64 < 9223372036854775808, 64 * i ≤ 64 * i + 64, 64 * i + 64 ≤ m.length, (List.drop (64 * i) (List.take (64 * i + 64) m)).length = 64, 64 * i + 64 < 9223372036854775808] (by kernel_rfl) (by repeat' first | exact trivial | exact decide_eq_true (by omega) | exact decide_eq_false (by omega) | omega | (simp only [List.length_drop, List.length_take]; omega) | (simp only [decide_eq_true_eq, decide_eq_false_iff_not, List.length_drop, List.length_take]; omega) | (simp only [slenD, SV.slen, Option.getD_some, List.length_append, List.length_cons, List.length_nil, out32_len]; omega) | refine ⟨?_, ?_⟩) ?_
    rw [cut_ref]
    exact e
  · have e : i = n := by omega
    subst e
    refine hold_unroll (c := _) rfl ?_
    refine hwC mixed okM12a 300 [false] [8,37,38] [] 1 [.lp [0, 1, 0, 1, 1, 1, 1, 1, 1], .blk 4, .at [1, 1, 1, 1, 1, 1, 1]] ⟨57, [(8, .nil), (37, .arr .u32 8 (cmp kr32 m h i)), (38, .c .i64 0)], [], 1, 0⟩ [Decidable.decide (64 * i < m.length) = false] (by kernel_rfl) (by repeat' first | exact trivial | exact decide_eq_true (by omega) | exact decide_eq_false (by omega) | omega | (simp only [List.length_drop, List.length_take]; omega) | (simp only [decide_eq_true_eq, decide_eq_false_iff_not, List.length_drop, List.length_take]; omega) | (simp only [slenD, SV.slen, Option.getD_some, List.length_append, List.length_cons, List.length_nil, out32_len]; omega) | refine ⟨?_, ?_⟩) ?_
    refine hold_nil (t := 8) (e := 5) (s0 := .sl .u8 []) rfl ?_
    refine hold_restrict (ks := [8,37,38]) (bs := [1]) (nx := 4) rfl ?_
    exact Hold.weaken (q256_3 _ hr _ 0 rfl (by omega)) (by simp [wks, wk, wk0, lim, r3, out32, itr])
theorem q256_1 (b : List Nat) (hb : b.length ≤ 1000000) (hr : res = .sl .u8 (sum32 b)) : ∀ d i, 8 - i = d → i ≤ 8 →
    Hold Tryz.prog (bodyOf Tryz.f24) (FinM Tryz.prog Tryz.f24 w0 S ⟨.row 0 res, [], [bY]⟩) w0 S rt1 (r1 b i) := by
  intro d
  induction d using Nat.strongRecOn with
  | _ d ih =>
  intro i hd hi
  by_cases hlt : i < 8
  · have e := ih (8 - (i + 1)) (by omega) (i + 1) rfl (by omega)
    refine hold_unroll (c := _) rfl ?_
    refine hwC mixed okM12a 300 [true] [0,3,11,12] [0] 1 [.lp [0, 1, 0, 1, 1], .blk 0, .at [1, 1, 1]] ⟨57, [(0, .sl .u8 b), (3, .ptr 0 0 (.c 0)), (11, .arr .u64 8 hL), (12, .u .i64 (i + 1))], [(0, ⟨63, [.arr .u32 8 ((hF i).set i (hL.getD i 0 / 4294967296 % 4294967296))], false⟩)], 1, 0⟩ [Decidable.decide (i < 8) = true, i < 8, i < 8, i < 8, i + 1 < 9223372036854775808] (by kernel_rfl) (by repeat' first | exact trivial | exact decide_eq_true (by omega) | exact decide_eq_false (by omega) | omega | (simp only [List.length_drop, List.length_take]; omega) | (simp only [decide_eq_true_eq, decide_eq_false_iff_not, List.length_drop, List.length_take]; omega) | (simp only [slenD, SV.slen, Option.getD_some, List.length_append, List.length_cons, List.length_nil, out32_len]; omega) | refine ⟨?_, ?_⟩) ?_
    exact e
  · have e : i = 8 := by omega
    subst e
    refine hold_unroll (c := _) rfl ?_
    have hl := pd_len b
    have hz : zP 64 8 b.length < 64 := Nat.mod_lt _ (by decide)
    refine hwC mixed okM12a 300 [false] [3,6,7] [0] 1 [.lp [0, 1, 0, 1, 1, 1, 1], .blk 2, .at [1, 1, 1, 1, 1]] ⟨57, [(3, .ptr 0 0 (.c 0)), (6, .sl .u8 (pd 64 8 b)), (7, .c .i64 0)], [(0, ⟨63, [.arr .u32 8 (hF 8)], false⟩)], 1, 0⟩ [false = false, b.length ≤ 1000000] (by kernel_rfl) (by repeat' first | exact trivial | exact decide_eq_true (by omega) | exact decide_eq_false (by omega) | omega | (simp only [List.length_drop, List.length_take]; omega) | (simp only [decide_eq_true_eq, decide_eq_false_iff_not, List.length_drop, List.length_take]; omega) | (simp only [slenD, SV.slen, Option.getD_some, List.length_append, List.length_cons, List.length_nil, out32_len]; omega) | refine ⟨?_, ?_⟩) ?_
    exact Hold.weaken (q256_2 (pd 64 8 b) (hF 8) _ (pd_mul b) (by omega) hr _ 0 rfl (by omega)) (by simp [wks, wk, wk0, lim, r2])
theorem qsum256_m (b : List Nat) (hb : b.length ≤ 1000000) : ContractM Tryz.prog 24 [] [.sl .u8 b] ⟨.row 0 (.sl .u8 (sum32 b)), [], [bY]⟩ := by
  refine contractM Tryz.func24 (body := bodyOf Tryz.f24) rfl (by kernel_rfl) (by kernel_rfl) rfl rfl ?_
  rintro _ _ w0 S _
  refine hwC mixed okM12a 100 [] [0,3,11,12] [0] 1 [.lp [0, 1, 0, 1, 1], .blk 0, .at [1, 1, 1]] ⟨57, [(0, .sl .u8 b), (3, .ptr 0 0 (.c 0)), (11, .arr .u64 8 hL), (12, .c .i64 0)], [(0, ⟨63, [.arr .u32 8 [0, 0, 0, 0, 0, 0, 0, 0]], false⟩)], 1, 0⟩ [] (by kernel_rfl) (by repeat' first | exact trivial | exact decide_eq_true (by omega) | exact decide_eq_false (by omega) | omega | (simp only [List.length_drop, List.length_take]; omega) | (simp only [decide_eq_true_eq, decide_eq_false_iff_not, List.length_drop, List.length_take]; omega) | (simp only [slenD, SV.slen, Option.getD_some, List.length_append, List.length_cons, List.length_nil, out32_len]; omega) | refine ⟨?_, ?_⟩) ?_
  exact Hold.weaken (q256_1 b hb rfl _ 0 rfl (by omega)) (by simp [wks, wk, wk0, lim, r1])
end
theorem sum256_c (b : List Nat) (hb : b.length ≤ 1000000) : Contract Tryz.prog 22 [.sl .u8 b] (.sl .u8 (sum32 b)) := (sum256_m b hb).plain rfl rfl rfl rfl
theorem qsum256_c (b : List Nat) (hb : b.length ≤ 1000000) : Contract Tryz.prog 24 [.sl .u8 b] (.sl .u8 (sum32 b)) := (qsum256_m b hb).plain rfl rfl rfl rfl
end Go.Eng.B

namespace Go.Eng.B
open Go Go.Eng Go.Proofs
set_option maxRecDepth 100000
def sum64 (_ : List Nat) : List Nat := []
def eSum (g : List Nat → List Nat) (args : List SV) : Option (SV × List Prop) :=
  match args with
  | [.sl .u8 b] => some (.sl .u8 (g b), [b.length ≤ 1000000])
  | [.nil] => some (.sl .u8 (g []), [])
  | _ => none
def eSumM (g : List Nat → List Nat) (H : List Bk) (args : List SV) : Option (MRes × List Prop) :=
  match H, args with
  | [], [.sl .u8 b] => some (⟨.row 0 (.sl .u8 (g b)), [], [⟨5, [], true⟩]⟩, [b.length ≤ 1000000])
  | [], [.nil] => some (⟨.row 0 (.sl .u8 (g [])), [], [⟨5, [], true⟩]⟩, [])
  | _, _ => none
noncomputable def SB (_ : List Nat → List Nat) : Ctr := C1a
noncomputable def ST (g h : List Nat → List Nat) : Ctr := addC 22 (eSum g) (addC 24 (eSum g) (SB h))
noncomputable def SR (g h : List Nat → List Nat) : Ctr := addM 22 (eSumM g) (addM 24 (eSumM g) (SB h))
theorem Contract.argsF {P : Program} {f : FuncId} {args args' : List SV} {r : SV} (h : Contract P f args' r) (hw : wkl args args') : Contract P f args r := Contract.args hw h
theorem Contract.argsRF {P : Program} {f : FuncId} {args args' : List SV} {r : SV} (h : Contract P f args' r) (hw : ∀ {β : Nat → Nat} {ow : Own} {w : World} {vs : List Value}, relVs β ow w args vs → relVs β ow w args' vs) : Contract P f args r :=
  fun w S vs h1 h2 => h w S vs h1 (hw h2)
theorem ContractM.argsRF {P : Program} {f : FuncId} {H : List Bk} {args args' : List SV} {r : MRes} (h : ContractM P f H args' r) (hw : ∀ {β : Nat → Nat} {ow : Own} {w : World} {vs : List Value}, relVs β ow w args vs → relVs β ow w args' vs) : ContractM P f H args r :=
  fun w S β vs h1 h2 h3 h4 h5 => h w S β vs h1 h2 h3 h4 (hw h5)
theorem relVs_nil {β : Nat → Nat} {ow : Own} {w : World} {vs : List Value} (h : relVs β ow w [.nil] vs) : relVs β ow w [.sl .u8 []] vs := by
  obtain ⟨v, t, rfl, ⟨cs, hr, rfl⟩, rfl⟩ := h
  simp only [rel] at hr
  subst hr
  refine ⟨_, _, rfl, ⟨_, ?_, rfl⟩, rfl⟩
  simp only [rel]
  exact ⟨⟨_, rfl, none, 0, 0, rfl, rfl, Nat.le_refl _, by decide, fun h => absurd h (by decide)⟩, nofun⟩
theorem eSum_ok {P : Program} {f : FuncId} {g : List Nat → List Nat} (h : ∀ b : List Nat, b.length ≤ 1000000 → Contract P f [.sl .u8 b] (.sl .u8 (g b))) : ∀ args res ob, eSum g args = some (res, ob) → All ob → Contract P f args res := by
  intro args res ob he hob
  unfold eSum at he
  split at he
  · cases he; exact h _ hob.1
  · cases he
    intro w S vs hlt hvs
    refine h [] (Nat.zero_le _) w S vs hlt ?_
    obtain ⟨v, t, rfl, ⟨cs, hr, rfl⟩, rfl⟩ := hvs
    simp only [rel] at hr
    subst hr
    refine ⟨_, _, rfl, ⟨_, ?_, rfl⟩, rfl⟩
    simp only [rel]
    exact ⟨⟨_, rfl, none, 0, 0, rfl, rfl, Nat.le_refl _, by decide, fun h => absurd h (by decide)⟩, nofun⟩
  · cases he
theorem eSumM_ok {P : Program} {f : FuncId} {g : List Nat → List Nat} (h : ∀ b : List Nat, b.length ≤ 1000000 → ContractM P f [] [.sl .u8 b] ⟨.row 0 (.sl .u8 (g b)), [], [bY]⟩) : ∀ H args r ob, eSumM g H args = some (r, ob) → All ob → ContractM P f H args r := by
  intro H args r ob he hob
  unfold eSumM at he
  split at he
  · cases he; exact h _ hob.1
  · cases he
    intro w S β vs h1 h2 h3 h4 h5
    exact h [] (Nat.zero_le _) w S β vs h1 h2 h3 h4 (relVs_nil h5)
  · cases he
theorem okSB {h : List Nat → List Nat} (_ : h = sum64) : CtrOk Tryz.prog (SB h) := okC1a
theorem okST {g h : List Nat → List Nat} (hg : g = sum32) (hh : h = sum64) : CtrOk Tryz.prog (ST g h) := by
  subst hg
  exact addC_ok (addC_ok (okSB hh) (eSum_ok qsum256_c)) (eSum_ok sum256_c)
theorem okSR {g h : List Nat → List Nat} (hg : g = sum32) (hh : h = sum64) : CtrOk Tryz.prog (SR g h) := by
  subst hg
  exact addM_ok (addM_ok (okSB hh) (eSumM_ok qsum256_m)) (eSumM_ok sum256_m)
theorem sum32_len (b : List Nat) : (sum32 b).length = 32 := out32_len _ 8
end Go.Eng.B

