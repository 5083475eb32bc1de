import Derived.Test.YthaabhoopofnhaaE9
set_option linter.unusedVariables false
set_option linter.unusedSimpArgs false
set_option linter.unusedSectionVars false
namespace Go.Eng.B
open Go Go.Eng Go.Proofs
set_option maxRecDepth 100000
def g32 (x : Nat) : Nat := x / 4294967296 % 4294967296
def kF (i : Nat) : List Nat := itr (fun k j => k.set j (g32 ((kL.take 64).getD j 0))) (List.replicate 64 0) i
def hF (i : Nat) : List Nat := itr (fun k j => k.set j (g32 (hL.getD j 0))) (List.replicate 8 0) i
def cmp (k : Nat → Nat) (m h : List Nat) (i : Nat) : List Nat := itr (fun h j => A32 k (((m.drop (64 * j)).take 64).drop 0) h 8) h i
def out32 (h : List Nat) (i : Nat) : List Nat := itr (fun o j => o ++ [h.getD j 0 / 16777216 % 256, h.getD j 0 / 65536 % 256, h.getD j 0 / 256 % 256, h.getD j 0 % 256]) [] i
def sum32 (b : List Nat) : List Nat := out32 (cmp kr32 (pd 64 8 b) (hF 8) ((pd 64 8 b).length / 64)) 8
def bY : Bk := ⟨5, [], true⟩
def b8 : Bk := ⟨79, [.arr .u64 8 hL], false⟩
def st1 : List It := [.lp [0, 1, 0, 1, 1, 1], .blk 0, .at [1, 1, 1, 1]]
def s1 (b : List Nat) (i : Nat) : St := ⟨70, [(0, .sl .u8 b), (3, .sl .u64 (kL.take 64)), (4, .ptr 0 0 (.c 0)), (5, .ptr 1 0 (.c 0)), (17, .u .i64 i)], [(0, b8), (1, bk32 (kF i))], 2, 0⟩
def st2 : List It := [.lp [0, 1, 0, 1, 1, 1, 1, 1], .blk 2, .at [1, 1, 1, 1, 1, 1]]
def s2 (b : List Nat) (i : Nat) : St := ⟨70, [(0, .sl .u8 b), (4, .ptr 0 0 (.c 0)), (5, .ptr 1 0 (.c 0)), (7, .ptr 2 0 (.c 0)), (29, .u .i64 i)], [(0, b8), (1, bk32 (kF 64)), (2, b32 (hF i))], 3, 0⟩
def st3 : List It := [.lp [0, 1, 0, 1, 1, 1, 1, 1, 1], .blk 4, .at [1, 1, 1, 1, 1, 1, 1]]
def s3 (m h : List Nat) : St := ⟨70, [(5, .ptr 1 0 (.c 0)), (7, .ptr 2 0 (.c 0)), (9, .sl .u8 m)], [(1, bk32 (kF 64)), (2, b32 h)], 3, 0⟩
def st4 : List It := [.lp [0, 1, 0, 1, 1, 1, 1, 1, 1, 1, 1], .blk 6, .at [1, 1, 1, 1, 1, 1, 1, 1, 1]]
def s4 (h : List Nat) (i : Nat) : St := ⟨70, [(10, .row 3 (.sl .u8 (out32 h i))), (50, .arr .u32 8 h), (51, .u .i64 i)], [(3, bY)], 6, 0⟩
def rt1 : List It := [.lp [0, 1, 0, 1, 1], .blk 0, .at [1, 1, 1]]
def r1 (b : List Nat) (i : Nat) : St := ⟨57, [(0, .sl .u8 b), (3, .ptr 0 0 (.c 0)), (11, .arr .u64 8 hL), (12, .u .i64 i)], [(0, b32 (hF i))], 1, 0⟩
def rt2 : List It := [.lp [0, 1, 0, 1, 1, 1, 1], .blk 2, .at [1, 1, 1, 1, 1]]
def r2 (m h : List Nat) (i : Nat) : St := ⟨57, [(3, .ptr 0 0 (.c 0)), (6, .sl .u8 m), (7, .u .i64 (64 * i))], [(0, b32 h)], 1, 0⟩
def rt3 : List It := [.lp [0, 1, 0, 1, 1, 1, 1, 1, 1], .blk 4, .at [1, 1, 1, 1, 1, 1, 1]]
def r3 (h : List Nat) (i : Nat) : St := ⟨57, [(8, .row 1 (.sl .u8 (out32 h i))), (37, .arr .u32 8 h), (38, .u .i64 i)], [(1, bY)], 4, 0⟩
theorem out32_len (h : List Nat) : ∀ i, (out32 h i).length = 4 * i := by
  intro i
  induction i with
  | zero => rfl
  | succ i ih => show (out32 h i ++ _).length = _; simp only [List.length_append, ih, List.length_cons, List.length_nil]; omega
theorem R32_zero (k : Nat → Nat) (m h : List Nat) : R32 k m h 0 = h := by unfold R32; rw [itr]
theorem R32_succ (k : Nat → Nat) (m h : List Nat) (i : Nat) : R32 k m h (i + 1) = stepR32 k (W32 m 64) (R32 k m h i) i := by unfold R32; rw [itr]
theorem R32_congr {k k' : Nat → Nat} (m h : List Nat) (hk : ∀ i, i < 64 → k i = k' i) : ∀ i, i ≤ 64 → R32 k m h i = R32 k' m h i := by
  intro i
  induction i with
  | zero => intro _; rw [R32_zero, R32_zero]
  | succ i ih =>
    intro hi
    rw [R32_succ, R32_succ, ih (by omega)]
    generalize R32 k' m h i = s
    generalize W32 m 64 = w
    unfold stepR32 t32
    rw [hk i (by omega)]
theorem kF_all : ((List.range 64).all fun i => Nat.beq (gd (kF 64) i) (kr32 i)) = true := by kernel_rfl
theorem kF_eq (i : Nat) (h : i < 64) : gd (kF 64) i = kr32 i := Nat.eq_of_beq_eq_true (List.all_eq_true.1 kF_all i (List.mem_range.2 h))
theorem A32_kF (m h : List Nat) (i : Nat) : A32 (gd (kF 64)) m h i = A32 kr32 m h i := by
  unfold A32
  rw [R32_congr m h kF_eq 64 (Nat.le_refl _)]
theorem pd_len (b : List Nat) : (pd 64 8 b).length = b.length + 1 + zP 64 8 b.length + 8 := by
  simp [pd, beL, pdM_len]
theorem pd_mul (b : List Nat) : (pd 64 8 b).length = 64 * ((pd 64 8 b).length / 64) := by
  rw [pd_len]; unfold zP; omega
theorem cut_ref (m : List Nat) (i : Nat) : (m.take (64 * i + 64)).drop (64 * i) = ((m.drop (64 * i)).take 64).drop 0 := by
  rw [List.drop_zero, List.drop_take, Nat.add_sub_cancel_left]
section
variable {w0 : Fr} {S : Own} {res : SV}
theorem s256_4 (h : List Nat) (hr : res = .sl .u8 (out32 h 8)) : ∀ d i, 8 - i = d → i ≤ 8 →
    Hold Try.prog (bodyOf Try.f48) (FinM Try.prog Try.f48 w0 S ⟨.row 0 res, [], [bY]⟩) w0 S st4 (s4 h i) := by
  intro d
  induction d using Nat.strongRecOn with
  | _ d ih =>
  intro i hd hi
  by_cases hlt : i < 8
  · have e := ih (8 - (i + 1)) (by omega) (i + 1) rfl (by omega)
    refine hold_unroll (c := _) rfl ?_
    refine hold_cut mixed okM12a (unroll := false) (f := 300) (sc := [true]) (ks := [10,50,51]) (bs := [3]) (nx := 6) (st' := [It.lp [0, 1, 0, 1, 1, 1, 1, 1, 1, 1, 1], It.blk 6, It.at [1, 1, 1, 1, 1, 1, 1, 1, 1]]) (σ' := { nt := 70, slots := [(10, SV.row 3 (SV.sl .u8 (out32 h i ++ [h.getD i 0 / 16777216 % 256, h.getD i 0 / 65536 % 256, h.getD i 0 / 256 % 256, h.getD i 0 % 256]))), (50, SV.arr .u32 8 h), (51, SV.u .i64 (i + 1))], blks := [(3, { ty := 5, segs := [], row := true })], next := 6 }) (ob := [Decidable.decide (i < 8) = true, i < 8, slenD (SV.sl .u8 (out32 h i ++ [h.getD i 0 / 16777216 % 256, h.getD i 0 / 65536 % 256, h.getD i 0 / 256 % 256, h.getD i 0 % 256])) * 1 ≤ 140737488355328, i + 1 < 9223372036854775808]) (sc' := []) (by kernel_rfl) (by repeat' first | exact trivial | exact decide_eq_true (by omega) | exact decide_eq_false (by omega) | omega | (simp only [List.length_drop, List.length_take]; omega) | (simp only [decide_eq_true_eq, decide_eq_false_iff_not, List.length_drop, List.length_take]; omega) | (simp only [slenD, SV.slen, Option.getD_some, List.length_append, List.length_cons, List.length_nil, out32_len]; omega) | refine ⟨?_, ?_⟩) ?_
    exact e
  · have e : i = 8 := by omega
    subst e
    refine hold_unroll (c := _) rfl ?_
    refine hold_endNw mixed okM12a (news := [3]) (unroll := false) (f := 300) (sc := [false]) (r := { res := SV.row 0 (SV.sl .u8 (out32 h 8)), upd := [], new := [{ ty := 5, segs := [], row := true }] }) (ob := [false = false]) (sc' := []) (by kernel_rfl) (by repeat' first | exact trivial | exact decide_eq_true (by omega) | exact decide_eq_false (by omega) | omega | (simp only [List.length_drop, List.length_take]; omega) | (simp only [decide_eq_true_eq, decide_eq_false_iff_not, List.length_drop, List.length_take]; omega) | (simp only [slenD, SV.slen, Option.getD_some, List.length_append, List.length_cons, List.length_nil, out32_len]; omega) | refine ⟨?_, ?_⟩) ?_
    exact wkM_of (by rw [hr]; rfl)
theorem s256_3 (m h : List Nat) (n : Nat) (hn : m.length = 64 * n) (hr : res = .sl .u8 (out32 (cmp kr32 m h n) 8)) : ∀ d i, n - i = d → i ≤ n →
    Hold Try.prog (bodyOf Try.f48) (FinM Try.prog Try.f48 w0 S ⟨.row 0 res, [], [bY]⟩) w0 S st3 (s3 (m.drop (64 * i)) (cmp kr32 m h i)) := by
  intro d
  induction d using Nat.strongRecOn with
  | _ d ih =>
  intro i hd hi
  by_cases hlt : i < n
  · have e := ih (n - (i + 1)) (by omega) (i + 1) rfl (by omega)
    refine hold_unroll (c := _) rfl ?_
    refine hold_cut mixed okM12a (unroll := false) (f := 300) (sc := [true]) (ks := [5,7,9]) (bs := [1,2]) (nx := 3) (st' := [It.lp [0, 1, 0, 1, 1, 1, 1, 1, 1], It.blk 4, It.at [1, 1, 1, 1, 1, 1, 1]]) (σ' := { nt := 70, slots := [(5, SV.ptr 1 0 (Ix.c 0)), (7, SV.ptr 2 0 (Ix.c 0)), (9, SV.sl .u8 (List.drop 64 (List.take (List.drop (64 * i) m).length (List.drop (64 * i) m))))], blks := [(1, { ty := 87, segs := [SV.arr .u32 64 (kF 64)] }), (2, { ty := 78, segs := [SV.arr .u32 8 (A32 (gd (kF 64)) (List.drop 0 (List.take 64 (List.drop (64 * i) m))) (cmp kr32 m h i) 8)] })], next := 3 }) (ob := [Decidable.decide (0 < (List.drop (64 * i) m).length) = true, 0 ≤ 64, 64 ≤ (List.drop (64 * i) m).length, (List.drop 0 (List.take 64 (List.drop (64 * i) m))).length = 64, 64 ≤ (List.drop (64 * i) m).length, (List.drop (64 * i) m).length ≤ (List.drop (64 * i) m).length]) (sc' := []) (by kernel_rfl) (by repeat' first | exact trivial | exact decide_eq_true (by omega) | exact decide_eq_false (by omega) | omega | (simp only [List.length_drop, List.length_take]; omega) | (simp only [decide_eq_true_eq, decide_eq_false_iff_not, List.length_drop, List.length_take]; omega) | (simp only [slenD, SV.slen, Option.getD_some, List.length_append, List.length_cons, List.length_nil, out32_len]; omega) | refine ⟨?_, ?_⟩) ?_
    rw [A32_kF, List.take_of_length_le (Nat.le_refl _), List.drop_drop, show 64 * i + 64 = 64 * (i + 1) by omega]
    exact e
  · have e : i = n := by omega
    subst e
    refine hold_unroll (c := _) rfl ?_
    refine hold_cut mixed okM12a (unroll := false) (f := 300) (sc := [false]) (ks := [10,50,51]) (bs := []) (nx := 3) (st' := [It.lp [0, 1, 0, 1, 1, 1, 1, 1, 1, 1, 1], It.blk 6, It.at [1, 1, 1, 1, 1, 1, 1, 1, 1]]) (σ' := { nt := 70, slots := [(10, SV.nil), (50, SV.arr .u32 8 (cmp kr32 m h i)), (51, SV.c .i64 (0 : Int))], blks := [], next := 3 }) (ob := [Decidable.decide (0 < (List.drop (64 * i) m).length) = false]) (sc' := []) (by kernel_rfl) (by repeat' first | exact trivial | exact decide_eq_true (by omega) | exact decide_eq_false (by omega) | omega | (simp only [List.length_drop, List.length_take]; omega) | (simp only [decide_eq_true_eq, decide_eq_false_iff_not, List.length_drop, List.length_take]; omega) | (simp only [slenD, SV.slen, Option.getD_some, List.length_append, List.length_cons, List.length_nil, out32_len]; omega) | refine ⟨?_, ?_⟩) ?_
    refine hold_nil (t := 10) (e := 5) (s0 := .sl .u8 []) rfl ?_
    refine hold_restrict (ks := [10,50,51]) (bs := [3]) (nx := 6) rfl ?_
    exact Hold.weaken (s256_4 _ hr _ 0 rfl (by omega)) (by simp [wks, wk, wk0, lim, s4, out32, itr])
theorem s256_2 (b : List Nat) (hb : b.length ≤ 1000000) (hr : res = .sl .u8 (sum32 b)) : ∀ d i, 8 - i = d → i ≤ 8 →
    Hold Try.prog (bodyOf Try.f48) (FinM Try.prog Try.f48 w0 S ⟨.row 0 res, [], [bY]⟩) w0 S st2 (s2 b i) := by
  intro d
  induction d using Nat.strongRecOn with
  | _ d ih =>
  intro i hd hi
  by_cases hlt : i < 8
  · have e := ih (8 - (i + 1)) (by omega) (i + 1) rfl (by omega)
    refine hold_unroll (c := _) rfl ?_
    refine hold_cut mixed okM12a (unroll := false) (f := 300) (sc := [true]) (ks := [0,4,5,7,29]) (bs := [0,1,2]) (nx := 3) (st' := [It.lp [0, 1, 0, 1, 1, 1, 1, 1], It.blk 2, It.at [1, 1, 1, 1, 1, 1]]) (σ' := { nt := 70, slots := [(0, SV.sl .u8 b), (4, SV.ptr 0 0 (Ix.c 0)), (5, SV.ptr 1 0 (Ix.c 0)), (7, SV.ptr 2 0 (Ix.c 0)), (29, SV.u .i64 (i + 1))], blks := [(0, { ty := 79, segs := [SV.arr .u64 8 hL] }), (1, { ty := 87, segs := [SV.arr .u32 64 (kF 64)] }), (2, { ty := 78, segs := [SV.arr .u32 8 ((hF i).set i (hL.getD i 0 / 4294967296 % 4294967296))] })], next := 3 }) (ob := [Decidable.decide (i < 8) = true, i < 8, i < 8, i < 8, i < 8, i + 1 < 9223372036854775808]) (sc' := []) (by kernel_rfl) (by repeat' first | exact trivial | exact decide_eq_true (by omega) | exact decide_eq_false (by omega) | omega | (simp only [List.length_drop, List.length_take]; omega) | (simp only [decide_eq_true_eq, decide_eq_false_iff_not, List.length_drop, List.length_take]; omega) | (simp only [slenD, SV.slen, Option.getD_some, List.length_append, List.length_cons, List.length_nil, out32_len]; omega) | refine ⟨?_, ?_⟩) ?_
    exact e
  · have e : i = 8 := by omega
    subst e
    refine hold_unroll (c := _) rfl ?_
    refine hold_cut mixed okM12a (unroll := false) (f := 300) (sc := [false]) (ks := [5,7,9]) (bs := [1,2]) (nx := 3) (st' := [It.lp [0, 1, 0, 1, 1, 1, 1, 1, 1], It.blk 4, It.at [1, 1, 1, 1, 1, 1, 1]]) (σ' := { nt := 70, slots := [(5, SV.ptr 1 0 (Ix.c 0)), (7, SV.ptr 2 0 (Ix.c 0)), (9, SV.sl .u8 (pd 64 8 b))], blks := [(1, { ty := 87, segs := [SV.arr .u32 64 (kF 64)] }), (2, { ty := 78, segs := [SV.arr .u32 8 (hF 8)] })], next := 3 }) (ob := [false = false, b.length ≤ 1000000]) (sc' := []) (by kernel_rfl) (by repeat' first | exact trivial | exact decide_eq_true (by omega) | exact decide_eq_false (by omega) | omega | (simp only [List.length_drop, List.length_take]; omega) | (simp only [decide_eq_true_eq, decide_eq_false_iff_not, List.length_drop, List.length_take]; omega) | (simp only [slenD, SV.slen, Option.getD_some, List.length_append, List.length_cons, List.length_nil, out32_len]; omega) | refine ⟨?_, ?_⟩) ?_
    exact s256_3 (pd 64 8 b) (hF 8) _ (pd_mul b) hr _ 0 rfl (by omega)
theorem s256_1 (b : List Nat) (hb : b.length ≤ 1000000) (hr : res = .sl .u8 (sum32 b)) : ∀ d i, 64 - i = d → i ≤ 64 →
    Hold Try.prog (bodyOf Try.f48) (FinM Try.prog Try.f48 w0 S ⟨.row 0 res, [], [bY]⟩) w0 S st1 (s1 b i) := by
  intro d
  induction d using Nat.strongRecOn with
  | _ d ih =>
  intro i hd hi
  by_cases hlt : i < 64
  · have e := ih (64 - (i + 1)) (by omega) (i + 1) rfl (by omega)
    refine hold_unroll (c := _) rfl ?_
    refine hold_cut mixed okM12a (unroll := false) (f := 300) (sc := [true]) (ks := [0,3,4,5,17]) (bs := [0,1]) (nx := 2) (st' := [It.lp [0, 1, 0, 1, 1, 1], It.blk 0, It.at [1, 1, 1, 1]]) (σ' := { nt := 70, slots := [(0, SV.sl .u8 b), (3, SV.sl .u64 (List.take 64 kL)), (4, SV.ptr 0 0 (Ix.c 0)), (5, SV.ptr 1 0 (Ix.c 0)), (17, SV.u .i64 (i + 1))], blks := [(0, { ty := 79, segs := [SV.arr .u64 8 hL] }), (1, { ty := 87, segs := [SV.arr .u32 64 ((kF i).set i ((List.take 64 kL).getD i 0 / 4294967296 % 4294967296))] })], next := 2 }) (ob := [Decidable.decide (i < 64) = true, i < 64, i < 64, i < 64, i + 1 < 9223372036854775808]) (sc' := []) (by kernel_rfl) (by repeat' first | exact trivial | exact decide_eq_true (by omega) | exact decide_eq_false (by omega) | omega | (simp only [List.length_drop, List.length_take]; omega) | (simp only [decide_eq_true_eq, decide_eq_false_iff_not, List.length_drop, List.length_take]; omega) | (simp only [slenD, SV.slen, Option.getD_some, List.length_append, List.length_cons, List.length_nil, out32_len]; omega) | refine ⟨?_, ?_⟩) ?_
    exact e
  · have e : i = 64 := by omega
    subst e
    refine hold_unroll (c := _) rfl ?_
    refine hold_cut mixed okM12a (unroll := false) (f := 300) (sc := [false]) (ks := [0,4,5,7,29]) (bs := [0,1,2]) (nx := 3) (st' := [It.lp [0, 1, 0, 1, 1, 1, 1, 1], It.blk 2, It.at [1, 1, 1, 1, 1, 1]]) (σ' := { nt := 70, slots := [(0, SV.sl .u8 b), (4, SV.ptr 0 0 (Ix.c 0)), (5, SV.ptr 1 0 (Ix.c 0)), (7, SV.ptr 2 0 (Ix.c 0)), (29, SV.c .i64 (0 : Int))], blks := [(0, { ty := 79, segs := [SV.arr .u64 8 hL] }), (1, { ty := 87, segs := [SV.arr .u32 64 (kF 64)] }), (2, { ty := 78, segs := [SV.arr .u32 8 [0, 0, 0, 0, 0, 0, 0, 0]] })], next := 3 }) (ob := [false = false]) (sc' := []) (by kernel_rfl) (by repeat' first | exact trivial | exact decide_eq_true (by omega) | exact decide_eq_false (by omega) | omega | (simp only [List.length_drop, List.length_take]; omega) | (simp only [decide_eq_true_eq, decide_eq_false_iff_not, List.length_drop, List.length_take]; omega) | (simp only [slenD, SV.slen, Option.getD_some, List.length_append, List.length_cons, List.length_nil, out32_len]; omega) | refine ⟨?_, ?_⟩) ?_
    exact Hold.weaken (s256_2 b hb hr _ 0 rfl (by omega)) (by simp [wks, wk, wk0, lim, s2])
theorem sum256_m (b : List Nat) (hb : b.length ≤ 1000000) : ContractM Try.prog 48 [] [.sl .u8 b] ⟨.row 0 (.sl .u8 (sum32 b)), [], [bY]⟩ := by
  refine contractM Try.func48 (body := bodyOf Try.f48) rfl (by kernel_rfl) (by kernel_rfl) rfl rfl ?_
  rintro _ _ w0 S _
  refine hold_cut mixed okM12a (unroll := false) (f := 100) (sc := []) (ks := [0,3,4,5,17]) (bs := [0,1]) (nx := 2) (st' := [It.lp [0, 1, 0, 1, 1, 1], It.blk 0, It.at [1, 1, 1, 1]]) (σ' := { nt := 70, slots := [(0, SV.sl .u8 b), (3, SV.sl .u64 (List.take 64 kL)), (4, SV.ptr 0 0 (Ix.c 0)), (5, SV.ptr 1 0 (Ix.c 0)), (17, SV.c .i64 (0 : Int))], blks := [(0, { ty := 79, segs := [SV.arr .u64 8 hL] }), (1, { ty := 87, segs := [SV.arr .u32 64 [0, 0, 0, 0, 0, 0, 0, 0, 0, 0, 0, 0, 0, 0, 0, 0, 0, 0, 0, 0, 0, 0, 0, 0, 0, 0, 0, 0, 0, 0, 0, 0, 0, 0, 0, 0, 0, 0, 0, 0, 0, 0, 0, 0, 0, 0, 0, 0, 0, 0, 0, 0, 0, 0, 0, 0, 0, 0, 0, 0, 0, 0, 0, 0]] })], next := 2 }) (ob := []) (sc' := []) (by kernel_rfl) (by repeat' first | exact trivial | exact decide_eq_true (by omega) | exact decide_eq_false (by omega) | omega | (simp only [List.length_drop, List.length_take]; omega) | (simp only [decide_eq_true_eq, decide_eq_false_iff_not, List.length_drop, List.length_take]; omega) | (simp only [slenD, SV.slen, Option.getD_some, List.length_append, List.length_cons, List.length_nil, out32_len]; omega) | refine ⟨?_, ?_⟩) ?_
  exact Hold.weaken (s256_1 b hb rfl _ 0 rfl (by omega)) (by simp [wks, wk, wk0, lim, s1])
theorem q256_3 (h : List Nat) (hr : res = .sl .u8 (out32 h 8)) : ∀ d i, 8 - i = d → i ≤ 8 →
    Hold Try.prog (bodyOf Try.f38) (FinM Try.prog Try.f38 w0 S ⟨.row 0 res, [], [bY]⟩) w0 S rt3 (r3 h i) := by
  intro d
  induction d using Nat.strongRecOn with
  | _ d ih =>
  intro i hd hi
  by_cases hlt : i < 8
  · have e := ih (8 - (i + 1)) (by omega) (i + 1) rfl (by omega)
    refine hold_unroll (c := _) rfl ?_
    refine hold_cut mixed okM12a (unroll := false) (f := 300) (sc := [true]) (ks := [8,37,38]) (bs := [1]) (nx := 4) (st' := [It.lp [0, 1, 0, 1, 1, 1, 1, 1, 1], It.blk 4, It.at [1, 1, 1, 1, 1, 1, 1]]) (σ' := { nt := 57, slots := [(8, SV.row 1 (SV.sl .u8 (out32 h i ++ [h.getD i 0 / 16777216 % 256, h.getD i 0 / 65536 % 256, h.getD i 0 / 256 % 256, h.getD i 0 % 256]))), (37, SV.arr .u32 8 h), (38, SV.u .i64 (i + 1))], blks := [(1, { ty := 5, segs := [], row := true })], next := 4 }) (ob := [Decidable.decide (i < 8) = true, i < 8, slenD (SV.sl .u8 (out32 h i ++ [h.getD i 0 / 16777216 % 256, h.getD i 0 / 65536 % 256, h.getD i 0 / 256 % 256, h.getD i 0 % 256])) * 1 ≤ 140737488355328, i + 1 < 9223372036854775808]) (sc' := []) (by kernel_rfl) (by repeat' first | exact trivial | exact decide_eq_true (by omega) | exact decide_eq_false (by omega) | omega | (simp only [List.length_drop, List.length_take]; omega) | (simp only [decide_eq_true_eq, decide_eq_false_iff_not, List.length_drop, List.length_take]; omega) | (simp only [slenD, SV.slen, Option.getD_some, List.length_append, List.length_cons, List.length_nil, out32_len]; omega) | refine ⟨?_, ?_⟩) ?_
    exact e
  · have e : i = 8 := by omega
    subst e
    refine hold_unroll (c := _) rfl ?_
    refine hold_endNw mixed okM12a (news := [1]) (unroll := false) (f := 300) (sc := [false]) (r := { res := SV.row 0 (SV.sl .u8 (out32 h 8)), upd := [], new := [{ ty := 5, segs := [], row := true }] }) (ob := [false = false]) (sc' := []) (by kernel_rfl) (by repeat' first | exact trivial | exact decide_eq_true (by omega) | exact decide_eq_false (by omega) | omega | (simp only [List.length_drop, List.length_take]; omega) | (simp only [decide_eq_true_eq, decide_eq_false_iff_not, List.length_drop, List.length_take]; omega) | (simp only [slenD, SV.slen, Option.getD_some, List.length_append, List.length_cons, List.length_nil, out32_len]; omega) | refine ⟨?_, ?_⟩) ?_
    exact wkM_of (by rw [hr]; rfl)
theorem q256_2 (m h : List Nat) (n : Nat) (hn : m.length = 64 * n) (hn2 : n < 100000) (hr : res = .sl .u8 (out32 (cmp kr32 m h n) 8)) : ∀ d i, n - i = d → i ≤ n →
    Hold Try.prog (bodyOf Try.f38) (FinM Try.prog Try.f38 w0 S ⟨.row 0 res, [], [bY]⟩) w0 S rt2 (r2 m (cmp kr32 m h i) i) := by
  intro d
  induction d using Nat.strongRecOn with
  | _ d ih =>
  intro i hd hi
  by_cases hlt : i < n
  · have e := ih (n - (i + 1)) (by omega) (i + 1) rfl (by omega)
    refine hold_unroll (c := _) rfl ?_
    refine hold_cut mixed okM12a (unroll := false) (f := 300) (sc := [true]) (ks := [3,6,7]) (bs := [0]) (nx := 1) (st' := [It.lp [0, 1, 0, 1, 1, 1, 1], It.blk 2, It.at [1, 1, 1, 1, 1]]) (σ' := { nt := 57, slots := [(3, SV.ptr 0 0 (Ix.c 0)), (6, SV.sl .u8 m), (7, SV.u .i64 (64 * i + 64))], blks := [(0, { ty := 78, segs := [SV.arr .u32 8 (A32 kr32 (List.drop (64 * i) (List.take (64 * i + 64) m)) (cmp kr32 m h i) 8)] })], next := 1 }) (ob := [Decidable.decide (64 * i < m.length) = true, 64 * i + 64 < 9223372036854775808, 64 * i ≤ 64 * i + 64, 64 * i + 64 ≤ m.length, (List.drop (64 * i) (List.take (64 * i + 64) m)).length = 64, 64 * i + 64 < 9223372036854775808]) (sc' := []) (by kernel_rfl) (by repeat' first | exact trivial | exact decide_eq_true (by omega) | exact decide_eq_false (by omega) | omega | (simp only [List.length_drop, List.length_take]; omega) | (simp only [decide_eq_true_eq, decide_eq_false_iff_not, List.length_drop, List.length_take]; omega) | (simp only [slenD, SV.slen, Option.getD_some, List.length_append, List.length_cons, List.length_nil, out32_len]; omega) | refine ⟨?_, ?_⟩) ?_
    rw [cut_ref]
    exact e
  · have e : i = n := by omega
    subst e
    refine hold_unroll (c := _) rfl ?_
    refine hold_cut mixed okM12a (unroll := false) (f := 300) (sc := [false]) (ks := [8,37,38]) (bs := []) (nx := 1) (st' := [It.lp [0, 1, 0, 1, 1, 1, 1, 1, 1], It.blk 4, It.at [1, 1, 1, 1, 1, 1, 1]]) (σ' := { nt := 57, slots := [(8, SV.nil), (37, SV.arr .u32 8 (cmp kr32 m h i)), (38, SV.c .i64 (0 : Int))], blks := [], next := 1 }) (ob := [Decidable.decide (64 * i < m.length) = false]) (sc' := []) (by kernel_rfl) (by repeat' first | exact trivial | exact decide_eq_true (by omega) | exact decide_eq_false (by omega) | omega | (simp only [List.length_drop, List.length_take]; omega) | (simp only [decide_eq_true_eq, decide_eq_false_iff_not, List.length_drop, List.length_take]; omega) | (simp only [slenD, SV.slen, Option.getD_some, List.length_append, List.length_cons, List.length_nil, out32_len]; omega) | refine ⟨?_, ?_⟩) ?_
    refine hold_nil (t := 8) (e := 5) (s0 := .sl .u8 []) rfl ?_
    refine hold_restrict (ks := [8,37,38]) (bs := [1]) (nx := 4) rfl ?_
    exact Hold.weaken (q256_3 _ hr _ 0 rfl (by omega)) (by simp [wks, wk, wk0, lim, r3, out32, itr])
theorem q256_1 (b : List Nat) (hb : b.length ≤ 1000000) (hr : res = .sl .u8 (sum32 b)) : ∀ d i, 8 - i = d → i ≤ 8 →
    Hold Try.prog (bodyOf Try.f38) (FinM Try.prog Try.f38 w0 S ⟨.row 0 res, [], [bY]⟩) w0 S rt1 (r1 b i) := by
  intro d
  induction d using Nat.strongRecOn with
  | _ d ih =>
  intro i hd hi
  by_cases hlt : i < 8
  · have e := ih (8 - (i + 1)) (by omega) (i + 1) rfl (by omega)
    refine hold_unroll (c := _) rfl ?_
    refine hold_cut mixed okM12a (unroll := false) (f := 300) (sc := [true]) (ks := [0,3,11,12]) (bs := [0]) (nx := 1) (st' := [It.lp [0, 1, 0, 1, 1], It.blk 0, It.at [1, 1, 1]]) (σ' := { nt := 57, slots := [(0, SV.sl .u8 b), (3, SV.ptr 0 0 (Ix.c 0)), (11, SV.arr .u64 8 hL), (12, SV.u .i64 (i + 1))], blks := [(0, { ty := 78, segs := [SV.arr .u32 8 ((hF i).set i (hL.getD i 0 / 4294967296 % 4294967296))] })], next := 1 }) (ob := [Decidable.decide (i < 8) = true, i < 8, i < 8, i < 8, i + 1 < 9223372036854775808]) (sc' := []) (by kernel_rfl) (by repeat' first | exact trivial | exact decide_eq_true (by omega) | exact decide_eq_false (by omega) | omega | (simp only [List.length_drop, List.length_take]; omega) | (simp only [decide_eq_true_eq, decide_eq_false_iff_not, List.length_drop, List.length_take]; omega) | (simp only [slenD, SV.slen, Option.getD_some, List.length_append, List.length_cons, List.length_nil, out32_len]; omega) | refine ⟨?_, ?_⟩) ?_
    exact e
  · have e : i = 8 := by omega
    subst e
    refine hold_unroll (c := _) rfl ?_
    have hl := pd_len b
    have hz : zP 64 8 b.length < 64 := Nat.mod_lt _ (by decide)
    refine hold_cut mixed okM12a (unroll := false) (f := 300) (sc := [false]) (ks := [3,6,7]) (bs := [0]) (nx := 1) (st' := [It.lp [0, 1, 0, 1, 1, 1, 1], It.blk 2, It.at [1, 1, 1, 1, 1]]) (σ' := { nt := 57, slots := [(3, SV.ptr 0 0 (Ix.c 0)), (6, SV.sl .u8 (pd 64 8 b)), (7, SV.c .i64 (0 : Int))], blks := [(0, { ty := 78, segs := [SV.arr .u32 8 (hF 8)] })], next := 1 }) (ob := [false = false, b.length ≤ 1000000]) (sc' := []) (by kernel_rfl) (by repeat' first | exact trivial | exact decide_eq_true (by omega) | exact decide_eq_false (by omega) | omega | (simp only [List.length_drop, List.length_take]; omega) | (simp only [decide_eq_true_eq, decide_eq_false_iff_not, List.length_drop, List.length_take]; omega) | (simp only [slenD, SV.slen, Option.getD_some, List.length_append, List.length_cons, List.length_nil, out32_len]; omega) | refine ⟨?_, ?_⟩) ?_
    exact Hold.weaken (q256_2 (pd 64 8 b) (hF 8) _ (pd_mul b) (by omega) hr _ 0 rfl (by omega)) (by simp [wks, wk, wk0, lim, r2])
theorem qsum256_m (b : List Nat) (hb : b.length ≤ 1000000) : ContractM Try.prog 38 [] [.sl .u8 b] ⟨.row 0 (.sl .u8 (sum32 b)), [], [bY]⟩ := by
  refine contractM Try.func38 (body := bodyOf Try.f38) rfl (by kernel_rfl) (by kernel_rfl) rfl rfl ?_
  rintro _ _ w0 S _
  refine hold_cut mixed okM12a (unroll := false) (f := 100) (sc := []) (ks := [0,3,11,12]) (bs := [0]) (nx := 1) (st' := [It.lp [0, 1, 0, 1, 1], It.blk 0, It.at [1, 1, 1]]) (σ' := { nt := 57, slots := [(0, SV.sl .u8 b), (3, SV.ptr 0 0 (Ix.c 0)), (11, SV.arr .u64 8 hL), (12, SV.c .i64 (0 : Int))], blks := [(0, { ty := 78, segs := [SV.arr .u32 8 [0, 0, 0, 0, 0, 0, 0, 0]] })], next := 1 }) (ob := []) (sc' := []) (by kernel_rfl) (by repeat' first | exact trivial | exact decide_eq_true (by omega) | exact decide_eq_false (by omega) | omega | (simp only [List.length_drop, List.length_take]; omega) | (simp only [decide_eq_true_eq, decide_eq_false_iff_not, List.length_drop, List.length_take]; omega) | (simp only [slenD, SV.slen, Option.getD_some, List.length_append, List.length_cons, List.length_nil, out32_len]; omega) | refine ⟨?_, ?_⟩) ?_
  exact Hold.weaken (q256_1 b hb rfl _ 0 rfl (by omega)) (by simp [wks, wk, wk0, lim, r1])
end
theorem sum256_c (b : List Nat) (hb : b.length ≤ 1000000) : Contract Try.prog 48 [.sl .u8 b] (.sl .u8 (sum32 b)) := (sum256_m b hb).plain rfl rfl rfl rfl
theorem qsum256_c (b : List Nat) (hb : b.length ≤ 1000000) : Contract Try.prog 38 [.sl .u8 b] (.sl .u8 (sum32 b)) := (qsum256_m b hb).plain rfl rfl rfl rfl
end Go.Eng.B

namespace Go.Eng.B
open Go Go.Eng Go.Proofs
set_option maxRecDepth 100000
theorem mod_c (n m : Int) (hm : 0 < m) (res : SV) (hres : wk (.i .i64 (n % m)) res) : Contract Try.prog 20 [.i .i64 n, .i .i64 m] res := by
  refine contract Try.func20 (body := bodyOf Try.f20) rfl (by kernel_rfl) (by kernel_rfl) rfl ?_
  rintro ⟨hn, hm2, _⟩ w0 S
  have h1 := @Int.tmod_eq_emod n m
  have h2 := Int.emod_nonneg n (show m ≠ 0 by omega)
  have h3 := Int.emod_lt_of_pos n hm
  have h4 : (m.natAbs : Int) = m := by omega
  have hR : inR .i64 (n.tmod m) := by
    simp only [pureF, inR, lo, lim] at hm2 hn ⊢
    rw [h1]
    split <;> omega
  by_cases hlt : n.tmod m < 0
  · have e : n.tmod m + m = n % m := by
      rw [h1] at hlt ⊢
      split at hlt
      · omega
      · rename_i hc; rw [if_neg hc]; omega
    refine hold_endw mixed ctr0_ok (unroll := true) (f := 100) (sc := [true]) (r := (Go.Eng.SV.i Go.IntKind.i64 (n.tmod m + m))) (ob := [m ≠ (0 : Int) ∧ Go.Eng.inR Go.IntKind.i64 (n.tmod m), Decidable.decide (n.tmod m < (0 : Int)) = Bool.true, Go.Eng.inR Go.IntKind.i64 (n.tmod m + m)]) (sc' := []) (by kernel_rfl) ?_ ?_
    · refine ⟨⟨by omega, hR⟩, by simpa using hlt, ?_, trivial⟩
      rw [e]; simp only [pureF, inR, lo, lim] at hm2 ⊢; omega
    · rw [e]
      cases res <;> first | exact hres | (simp [wk, wk0, wka] at hres)
  · have e : n.tmod m = n % m := by
      rw [h1] at hlt ⊢
      split
      · omega
      · rename_i hc; rw [if_neg hc] at hlt; omega
    refine hold_endw mixed ctr0_ok (unroll := true) (f := 100) (sc := [false]) (r := (Go.Eng.SV.i Go.IntKind.i64 (n.tmod m))) (ob := [m ≠ (0 : Int) ∧ Go.Eng.inR Go.IntKind.i64 (n.tmod m), Decidable.decide (n.tmod m < (0 : Int)) = Bool.false]) (sc' := []) (by kernel_rfl) ?_ ?_
    · exact ⟨⟨by omega, hR⟩, by simpa using hlt, trivial⟩
    · rw [e]
      cases res <;> first | exact hres | (simp [wk, wk0, wka] at hres)
theorem cMod : ∀ args res ob, eMod args = some (res, ob) → All ob → Contract Try.prog 20 args res := by
  intro args res ob h hob
  unfold eMod at h
  split at h
  · rename_i x y
    split at h
    · rename_i n m hx hy
      cases h
      have hm : 0 < m := hob.1
      refine Contract.args (args' := [.i .i64 n, .i .i64 m]) ⟨int?_wk hx, int?_wk hy, rfl⟩ (Contract.pure fun hp => mod_c n m hm _ ?_)
      obtain ⟨_, hm2, _⟩ := hp
      have h2 := Int.emod_nonneg n (show m ≠ 0 by omega)
      have h3 := Int.emod_lt_of_pos n hm
      simp only [wk, wk0, lim, true_and]
      simp only [pureF, inR, lo, lim] at hm2
      omega
    · cases h
  · cases h
def C1a : Ctr := addC 20 eMod ctr0
theorem okC1a : CtrOk Try.prog C1a := addC_ok ctr0_ok cMod
def eNew (H : List Bk) (args : List SV) : Option (MRes × List Prop) :=
  match H, args with
  | [], [.sli l] => some (⟨.ptr 0 0 (.c 0), [], [⟨55, [.sli l, .c .i64 0], false⟩]⟩, [])
  | _, _ => none
theorem cNew : ∀ H args r ob, eNew H args = some (r, ob) → All ob → ContractM Try.prog 6 H args r := by
  intro H args r ob h hob
  unfold eNew at h
  split at h
  · rename_i l
    cases h
    refine contractM Try.func6 (body := bodyOf Try.f6) rfl (by kernel_rfl) (by kernel_rfl) rfl rfl ?_
    intro _ _ F S _
    exact hold_endMw mixed okC1a (news := [0]) (unroll := true) (f := 100) (sc := []) (r := { res := Go.Eng.SV.ptr (0 : Nat) (0 : Nat) (Go.Eng.Ix.c (0 : Nat)), upd := [], new := [{ ty := (55 : Nat), segs := [Go.Eng.SV.sli l, Go.Eng.SV.c Go.IntKind.i64 (0 : Int)] }] }) (ob := []) (sc' := []) (by kernel_rfl) trivial (wkM_of rfl)
  · cases h
def eNext (H : List Bk) (args : List SV) : Option (MRes × List Prop) :=
  match H, args with
  | [⟨55, [.sli l, a], false⟩], [.ptr 0 0 (.c 0), x] => match a.nat?, x.int? with
    | some (.i64, at'), some (.i64, n) => some (⟨.u .i64 (nextV l at' n), [deckB l (nextA l at')], []⟩, [0 < n])
    | _, _ => none
  | _, _ => none
theorem next_c (l : List Int) (at' : Nat) (n : Int) (hn : 0 < n) : ContractM Try.prog 8 [deckB l at'] [.ptr 0 0 (.c 0), .i .i64 n] ⟨.u .i64 (nextV l at' n), [deckB l (nextA l at')], []⟩ := by
  refine contractM Try.func8 (body := bodyOf Try.f8) rfl (by kernel_rfl) (by kernel_rfl) rfl rfl ?_
  rintro ⟨_, h0, _⟩ hH F S hF
  obtain ⟨hl, ha, _⟩ := hH _ (List.mem_singleton.2 rfl)
  have hl1 := hl.1
  simp only [pureF, lim] at ha
  rcases Bool.eq_false_or_eq_true (Decidable.decide (l.length ≤ at')) with hc0 | hc0
  · have hd0 := of_decide_eq_true hc0
    refine hold_endMw mixed okC1a (news := []) (unroll := true) (f := 100) (sc := [true]) (r := { res := Go.Eng.SV.c Go.IntKind.i64 (0 : Int), upd := [{ ty := (55 : Nat), segs := [Go.Eng.SV.sli l, Go.Eng.SV.u Go.IntKind.i64 at'] }] }) (ob := [Decidable.decide (l.length ≤ at') = Bool.true]) (sc' := []) (by kernel_rfl) ?_ ?_
    · exact ⟨hc0, trivial⟩
    · first | (rw [show nextA l at' = at' from if_neg (by omega), show nextV l at' n = 0 from if_neg (by omega)]; simp [wkM, wkR, wk, wk0, wka, wkB, wkl, deckB, lim]; done) | (rw [show nextA l at' = at' + 1 from if_pos (by omega), show nextV l at' n = (l.getD at' 0 % n).toNat from if_pos (by omega), show ((↑(at' + 1) : Int) - 1).toNat = at' by omega]; exact wkM_of rfl)
  · have hd0 := of_decide_eq_false hc0
    refine hold_endMw mixed okC1a (news := []) (unroll := true) (f := 100) (sc := [false]) (r := { res := Go.Eng.SV.u Go.IntKind.i64 (l.getD ((↑(at' + (1 : Nat)) : Int) - (1 : Int)).toNat (0 : Int) % n).toNat, upd := [{ ty := (55 : Nat), segs := [Go.Eng.SV.sli l, Go.Eng.SV.u Go.IntKind.i64 (at' + (1 : Nat))] }] }) (ob := [Decidable.decide (l.length ≤ at') = Bool.false, at' + (1 : Nat) < (9223372036854775808 : Nat), (0 : Int) ≤ (↑(at' + (1 : Nat)) : Int) - (1 : Int), ((↑(at' + (1 : Nat)) : Int) - (1 : Int)).toNat < l.length, (0 : Int) < n]) (sc' := []) (by kernel_rfl) ?_ ?_
    · exact ⟨hc0, (by omega), (by omega), (by omega), (by omega), trivial⟩
    · first | (rw [show nextA l at' = at' from if_neg (by omega), show nextV l at' n = 0 from if_neg (by omega)]; simp [wkM, wkR, wk, wk0, wka, wkB, wkl, deckB, lim]; done) | (rw [show nextA l at' = at' + 1 from if_pos (by omega), show nextV l at' n = (l.getD at' 0 % n).toNat from if_pos (by omega), show ((↑(at' + 1) : Int) - 1).toNat = at' by omega]; exact wkM_of rfl)
theorem ContractM.args {P : Program} {f : FuncId} {H : List Bk} {args args' : List SV} {r : MRes} (hw : wkl args args') (h : ContractM P f H args' r) : ContractM P f H args r :=
  fun w S β vs h1 h2 h3 h4 h5 => h w S β vs h1 h2 h3 h4 (wkl_ok hw h5)
theorem ContractM.hand {P : Program} {f : FuncId} {H H' : List Bk} {args : List SV} {r : MRes} (hw : wkB H H') (hl : H'.length = H.length) (h : ContractM P f H' args r) : ContractM P f H args r := by
  intro w S β vs h1 h2 h3 h4 h5
  have how : owS S (numB 0 H') β = owS S (numB 0 H) β := by
    funext b j
    apply propext
    constructor
    · rintro (hs | ⟨i, bk, hm, e, hr⟩)
      · exact .inl hs
      · obtain ⟨c, hc, _, e2, _⟩ := (numB_wk hw).1 bk hm
        exact .inr ⟨i, c, hc, e, by rw [e2]; exact hr⟩
    · rintro (hs | ⟨i, bk, hm, e, hr⟩)
      · exact .inl hs
      · obtain ⟨c, hc, _, e2, _⟩ := (numB_wk hw).2 bk hm
        exact .inr ⟨i, c, hc, e, by rw [← e2]; exact hr⟩
  have hrow : ∀ bk ∈ H', bk.row = false := by
    intro b hb
    obtain ⟨k, hk, rfl⟩ := List.getElem_of_mem hb
    have : ∀ {L M : List Bk}, wkB L M → ∀ b' ∈ M, ∃ b ∈ L, b.row = b'.row := by
      intro L
      induction L with
      | nil => intro M h b' hb; simp only [wkB] at h; subst h; cases hb
      | cons a r ih =>
        intro M h b' hb
        cases M with
        | nil => cases hb
        | cons c s =>
          simp only [wkB] at h
          rcases List.mem_cons.1 hb with rfl | hb
          · exact ⟨a, by simp, h.2.1⟩
          · obtain ⟨q, hq, e⟩ := ih h.2.2.2 b' hb
            exact ⟨q, by simp [hq], e⟩
    obtain ⟨q, hq, e⟩ := this hw _ (List.getElem_mem hk)
    rw [← e]; exact h2 q hq
  have := h w S β vs (by rw [hl]; exact h1) hrow (by
    rw [how]
    intro i b' hm
    obtain ⟨c, hc, e1, e2, e3⟩ := (numB_wk hw).1 b' hm
    refine ⟨fun hr => ?_, fun hr hn => ?_⟩
    · obtain ⟨cs, q1, q2⟩ := (h3 i c hc).1 (by rw [e2]; exact hr)
      exact ⟨cs, wkl_rels e3 q1, by rw [← e1]; exact q2⟩
    · obtain ⟨cs, q1, q2⟩ := (h3 i c hc).2 (by rw [e2]; exact hr) hn
      exact ⟨cs, by rw [← e1]; exact q1, q2⟩) (by rw [hl]; exact h4) (by rw [how]; exact h5)
  rw [hl] at this
  exact this
theorem cNext : ∀ H args r ob, eNext H args = some (r, ob) → All ob → ContractM Try.prog 8 H args r := by
  intro H args r ob h hob
  unfold eNext at h
  split at h
  · rename_i l a x
    split at h
    · rename_i at' n ha hx
      cases h
      refine ContractM.args (args' := [.ptr 0 0 (.c 0), .i .i64 n]) ⟨wk_refl _, int?_wk hx, rfl⟩ ?_
      intro w S β vs h1 h2 h3 h4 h5
      have hlt : at' < lim .i64 := by
        obtain ⟨cs, q1, _⟩ := (h3 0 ⟨55, [.sli l, a], false⟩ (by simp [numB])).1 rfl
        simp only [rels] at q1
        obtain ⟨c1, c2, _, _, c3, c4, _, q3, _⟩ := q1
        exact (nat?_ok ha q3).2
      refine ContractM.hand (H := [⟨55, [.sli l, a], false⟩]) (H' := [deckB l at']) (show wkB _ (_ :: []) from ⟨rfl, rfl, show wkl (_ :: a :: []) (_ :: (SV.u .i64 at') :: []) from ⟨wk_refl _, ?_, rfl⟩, rfl⟩) rfl (next_c l at' n hob.1) w S β vs h1 h2 h3 h4 h5
      cases a <;> simp [SV.nat?] at ha
      · obtain ⟨q1, rfl, q3⟩ := ha
        simp only [wk, wk0, wka]
        refine ⟨trivial, by omega, hlt⟩
      · obtain ⟨rfl, rfl⟩ := ha
        exact wk_refl _
    · cases h
  · cases h
def C1 : Ctr := addM 8 eNext (addM 6 eNew C1a)
theorem okC1 : CtrOk Try.prog C1 := addM_ok (addM_ok okC1a cNew) cNext
end Go.Eng.B

namespace Go.Eng.B
open Go Go.Eng Go.Proofs
set_option maxRecDepth 100000
def sum64 (_ : List Nat) : List Nat := []
def eSum (g : List Nat → List Nat) (args : List SV) : Option (SV × List Prop) :=
  match args with
  | [.sl .u8 b] => some (.sl .u8 (g b), [b.length ≤ 1000000])
  | [.nil] => some (.sl .u8 (g []), [])
  | _ => none
def eSumM (g : List Nat → List Nat) (H : List Bk) (args : List SV) : Option (MRes × List Prop) :=
  match H, args with
  | [], [.sl .u8 b] => some (⟨.row 0 (.sl .u8 (g b)), [], [⟨5, [], true⟩]⟩, [b.length ≤ 1000000])
  | [], [.nil] => some (⟨.row 0 (.sl .u8 (g [])), [], [⟨5, [], true⟩]⟩, [])
  | _, _ => none
noncomputable def SB (_ : List Nat → List Nat) : Ctr := C1
noncomputable def ST (g h : List Nat → List Nat) : Ctr := addC 48 (eSum g) (addC 38 (eSum g) (SB h))
noncomputable def SR (g h : List Nat → List Nat) : Ctr := addM 48 (eSumM g) (addM 38 (eSumM g) (SB h))
theorem Contract.argsF {P : Program} {f : FuncId} {args args' : List SV} {r : SV} (h : Contract P f args' r) (hw : wkl args args') : Contract P f args r := Contract.args hw h
theorem Contract.argsRF {P : Program} {f : FuncId} {args args' : List SV} {r : SV} (h : Contract P f args' r) (hw : ∀ {β : Nat → Nat} {ow : Own} {w : World} {vs : List Value}, relVs β ow w args vs → relVs β ow w args' vs) : Contract P f args r :=
  fun w S vs h1 h2 => h w S vs h1 (hw h2)
theorem ContractM.argsRF {P : Program} {f : FuncId} {H : List Bk} {args args' : List SV} {r : MRes} (h : ContractM P f H args' r) (hw : ∀ {β : Nat → Nat} {ow : Own} {w : World} {vs : List Value}, relVs β ow w args vs → relVs β ow w args' vs) : ContractM P f H args r :=
  fun w S β vs h1 h2 h3 h4 h5 => h w S β vs h1 h2 h3 h4 (hw h5)
theorem relVs_nil {β : Nat → Nat} {ow : Own} {w : World} {vs : List Value} (h : relVs β ow w [.nil] vs) : relVs β ow w [.sl .u8 []] vs := by
  obtain ⟨v, t, rfl, ⟨cs, hr, rfl⟩, rfl⟩ := h
  simp only [rel] at hr
  subst hr
  refine ⟨_, _, rfl, ⟨_, ?_, rfl⟩, rfl⟩
  simp only [rel]
  exact ⟨⟨_, rfl, none, 0, 0, rfl, rfl, Nat.le_refl _, by decide, fun h => absurd h (by decide)⟩, nofun⟩
theorem eSum_ok {P : Program} {f : FuncId} {g : List Nat → List Nat} (h : ∀ b : List Nat, b.length ≤ 1000000 → Contract P f [.sl .u8 b] (.sl .u8 (g b))) : ∀ args res ob, eSum g args = some (res, ob) → All ob → Contract P f args res := by
  intro args res ob he hob
  unfold eSum at he
  split at he
  · cases he; exact h _ hob.1
  · cases he
    intro w S vs hlt hvs
    refine h [] (Nat.zero_le _) w S vs hlt ?_
    obtain ⟨v, t, rfl, ⟨cs, hr, rfl⟩, rfl⟩ := hvs
    simp only [rel] at hr
    subst hr
    refine ⟨_, _, rfl, ⟨_, ?_, rfl⟩, rfl⟩
    simp only [rel]
    exact ⟨⟨_, rfl, none, 0, 0, rfl, rfl, Nat.le_refl _, by decide, fun h => absurd h (by decide)⟩, nofun⟩
  · cases he
theorem eSumM_ok {P : Program} {f : FuncId} {g : List Nat → List Nat} (h : ∀ b : List Nat, b.length ≤ 1000000 → ContractM P f [] [.sl .u8 b] ⟨.row 0 (.sl .u8 (g b)), [], [bY]⟩) : ∀ H args r ob, eSumM g H args = some (r, ob) → All ob → ContractM P f H args r := by
  intro H args r ob he hob
  unfold eSumM at he
  split at he
  · cases he; exact h _ hob.1
  · cases he
    intro w S β vs h1 h2 h3 h4 h5
    exact h [] (Nat.zero_le _) w S β vs h1 h2 h3 h4 (relVs_nil h5)
  · cases he
theorem okSB {h : List Nat → List Nat} (_ : h = sum64) : CtrOk Try.prog (SB h) := okC1
theorem okST {g h : List Nat → List Nat} (hg : g = sum32) (hh : h = sum64) : CtrOk Try.prog (ST g h) := by
  subst hg
  exact addC_ok (addC_ok (okSB hh) (eSum_ok qsum256_c)) (eSum_ok sum256_c)
theorem okSR {g h : List Nat → List Nat} (hg : g = sum32) (hh : h = sum64) : CtrOk Try.prog (SR g h) := by
  subst hg
  exact addM_ok (addM_ok (okSB hh) (eSumM_ok qsum256_m)) (eSumM_ok sum256_m)
theorem sum_abc : sum32 [97, 98, 99] = [186, 120, 22, 191, 143, 1, 207, 234, 65, 65, 64, 222, 93, 174, 34, 35, 176, 3, 97, 163, 150, 23, 122, 156, 180, 16, 255, 97, 242, 0, 21, 173] := by kernel_rfl
theorem sum32_len (b : List Nat) : (sum32 b).length = 32 := out32_len _ 8
def eT (args : List SV) : Option (SV × List Prop) := match args with | [] => some (.cb true, []) | _ => none
theorem eT_ok {P : Program} {f : FuncId} (h : Contract P f [] (.cb true)) : ∀ args res ob, eT args = some (res, ob) → All ob → Contract P f args res := by
  intro args res ob he _
  unfold eT at he
  split at he
  · cases he; exact h
  · cases he
end Go.Eng.B

