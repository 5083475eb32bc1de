import Derived.Test.YtedccmojbmlkcaaE9
set_option linter.unusedVariables false
set_option linter.unusedSimpArgs false
set_option linter.unusedSectionVars false
namespace Go.Eng.B
open Go Go.Eng Go.Proofs
set_option maxRecDepth 100000
def g32 (x : Nat) : Nat := x / 4294967296 % 4294967296
def kF (i : Nat) : List Nat := itr (fun k j => k.set j (g32 ((kL.take 64).getD j 0))) (List.replicate 64 0) i
def hF (i : Nat) : List Nat := itr (fun k j => k.set j (g32 (hL.getD j 0))) (List.replicate 8 0) i
def cmp (k : Nat → Nat) (m h : List Nat) (i : Nat) : List Nat := itr (fun h j => A32 k (((m.drop (64 * j)).take 64).drop 0) h 8) h i
def out32 (h : List Nat) (i : Nat) : List Nat := itr (fun o j => o ++ [h.getD j 0 / 16777216 % 256, h.getD j 0 / 65536 % 256, h.getD j 0 / 256 % 256, h.getD j 0 % 256]) [] i
def sum32 (b : List Nat) : List Nat := out32 (cmp kr32 (pd 64 8 b) (hF 8) ((pd 64 8 b).length / 64)) 8
def bY : Bk := ⟨5, [], true⟩
def b8 : Bk := ⟨78, [.arr .u64 8 hL], false⟩
def st1 : List It := [.lp [0, 1, 0, 1, 1, 1], .blk 0, .at [1, 1, 1, 1]]
def s1 (b : List Nat) (i : Nat) : St := ⟨70, [(0, .sl .u8 b), (3, .sl .u64 (kL.take 64)), (4, .ptr 0 0 (.c 0)), (5, .ptr 1 0 (.c 0)), (17, .u .i64 i)], [(0, b8), (1, bk32 (kF i))], 2, 0⟩
def st2 : List It := [.lp [0, 1, 0, 1, 1, 1, 1, 1], .blk 2, .at [1, 1, 1, 1, 1, 1]]
def s2 (b : List Nat) (i : Nat) : St := ⟨70, [(0, .sl .u8 b), (4, .ptr 0 0 (.c 0)), (5, .ptr 1 0 (.c 0)), (7, .ptr 2 0 (.c 0)), (29, .u .i64 i)], [(0, b8), (1, bk32 (kF 64)), (2, b32 (hF i))], 3, 0⟩
def st3 : List It := [.lp [0, 1, 0, 1, 1, 1, 1, 1, 1], .blk 4, .at [1, 1, 1, 1, 1, 1, 1]]
def s3 (m h : List Nat) : St := ⟨70, [(5, .ptr 1 0 (.c 0)), (7, .ptr 2 0 (.c 0)), (9, .sl .u8 m)], [(1, bk32 (kF 64)), (2, b32 h)], 3, 0⟩
def st4 : List It := [.lp [0, 1, 0, 1, 1, 1, 1, 1, 1, 1, 1], .blk 6, .at [1, 1, 1, 1, 1, 1, 1, 1, 1]]
def s4 (h : List Nat) (i : Nat) : St := ⟨70, [(10, .row 3 (.sl .u8 (out32 h i))), (50, .arr .u32 8 h), (51, .u .i64 i)], [(3, bY)], 6, 0⟩
def rt1 : List It := [.lp [0, 1, 0, 1, 1], .blk 0, .at [1, 1, 1]]
def r1 (b : List Nat) (i : Nat) : St := ⟨57, [(0, .sl .u8 b), (3, .ptr 0 0 (.c 0)), (11, .arr .u64 8 hL), (12, .u .i64 i)], [(0, b32 (hF i))], 1, 0⟩
def rt2 : List It := [.lp [0, 1, 0, 1, 1, 1, 1], .blk 2, .at [1, 1, 1, 1, 1]]
def r2 (m h : List Nat) (i : Nat) : St := ⟨57, [(3, .ptr 0 0 (.c 0)), (6, .sl .u8 m), (7, .u .i64 (64 * i))], [(0, b32 h)], 1, 0⟩
def rt3 : List It := [.lp [0, 1, 0, 1, 1, 1, 1, 1, 1], .blk 4, .at [1, 1, 1, 1, 1, 1, 1]]
def r3 (h : List Nat) (i : Nat) : St := ⟨57, [(8, .row 1 (.sl .u8 (out32 h i))), (37, .arr .u32 8 h), (38, .u .i64 i)], [(1, bY)], 4, 0⟩
theorem out32_len (h : List Nat) : ∀ i, (out32 h i).length = 4 * i := by
  intro i
  induction i with
  | zero => rfl
  | succ i ih => show (out32 h i ++ _).length = _; simp only [List.length_append, ih, List.length_cons, List.length_nil]; omega
theorem R32_zero (k : Nat → Nat) (m h : List Nat) : R32 k m h 0 = h := by unfold R32; rw [itr]
theorem R32_succ (k : Nat → Nat) (m h : List Nat) (i : Nat) : R32 k m h (i + 1) = stepR32 k (W32 m 64) (R32 k m h i) i := by unfold R32; rw [itr]
theorem R32_congr {k k' : Nat → Nat} (m h : List Nat) (hk : ∀ i, i < 64 → k i = k' i) : ∀ i, i ≤ 64 → R32 k m h i = R32 k' m h i := by
  intro i
  induction i with
  | zero => intro _; rw [R32_zero, R32_zero]
  | succ i ih =>
    intro hi
    rw [R32_succ, R32_succ, ih (by omega)]
    generalize R32 k' m h i = s
    generalize W32 m 64 = w
    unfold stepR32 t32
    rw [hk i (by omega)]
theorem kF_all : ((List.range 64).all fun i => Nat.beq (gd (kF 64) i) (kr32 i)) = true := by kernel_rfl
theorem kF_eq (i : Nat) (h : i < 64) : gd (kF 64) i = kr32 i := Nat.eq_of_beq_eq_true (List.all_eq_true.1 kF_all i (List.mem_range.2 h))
theorem A32_kF (m h : List Nat) (i : Nat) : A32 (gd (kF 64)) m h i = A32 kr32 m h i := by
  unfold A32
  rw [R32_congr m h kF_eq 64 (Nat.le_refl _)]
theorem pd_len (b : List Nat) : (pd 64 8 b).length = b.length + 1 + zP 64 8 b.length + 8 := by
  simp [pd, beL, pdM_len]
theorem pd_mul (b : List Nat) : (pd 64 8 b).length = 64 * ((pd 64 8 b).length / 64) := by
  rw [pd_len]; unfold zP; omega
theorem cut_ref (m : List Nat) (i : Nat) : (m.take (64 * i + 64)).drop (64 * i) = ((m.drop (64 * i)).take 64).drop 0 := by
  rw [List.drop_zero, List.drop_take, Nat.add_sub_cancel_left]
section
variable {w0 : Fr} {S : Own} {res : SV}
theorem s256_4 (h : List Nat) (hr : res = .sl .u8 (out32 h 8)) : ∀ d i, 8 - i = d → i ≤ 8 →
    Hold Try.prog (bodyOf Try.f66) (FinM Try.prog Try.f66 w0 S ⟨.row 0 res, [], [bY]⟩) w0 S st4 (s4 h i) := by
  intro d
  induction d using Nat.strongRecOn with
  | _ d ih =>
  intro i hd hi
  by_cases hlt : i < 8
  · have e := ih (8 - (i + 1)) (by omega) (i + 1) rfl (by omega)
    refine hold_unroll (c := _) rfl ?_
    refine hold_cut mixed okM12a (unroll := false) (f := 300) (sc := [true]) (ks := [10,50,51]) (bs := [3]) (nx := 6) (st' := [It.lp [0, 1, 0, 1, 1, 1, 1, 1, 1, 1, 1], It.blk 6, It.at [1, 1, 1, 1, 1, 1, 1, 1, 1]]) (σ' := { nt := 70, slots := [(10, SV.row 3 (SV.sl .u8 (out32 h i ++ [h.getD i 0 / 16777216 % 256, h.getD i 0 / 65536 % 256, h.getD i 0 / 256 % 256, h.getD i 0 % 256]))), (50, SV.arr .u32 8 h), (51, SV.u .i64 (i + 1))], blks := [(3, { ty := 5, segs := [], row := true })], next := 6 }) (ob := [Decidable.decide (i < 8) = true, i < 8, slenD (SV.sl .u8 (out32 h i ++ [h.getD i 0 / 16777216 % 256, h.getD i 0 / 65536 % 256, h.getD i 0 / 256 % 256, h.getD i 0 % 256])) * 1 ≤ 140737488355328, i + 1 < 9223372036854775808]) (sc' := []) (by kernel_rfl) (by repeat' first | exact trivial | exact decide_eq_true (by omega) | exact decide_eq_false (by omega) | omega | (simp only [List.length_drop, List.length_take]; omega) | (simp only [decide_eq_true_eq, decide_eq_false_iff_not, List.length_drop, List.length_take]; omega) | (simp only [slenD, SV.slen, Option.getD_some, List.length_append, List.length_cons, List.length_nil, out32_len]; omega) | refine ⟨?_, ?_⟩) ?_
    exact e
  · have e : i = 8 := by omega
    subst e
    refine hold_unroll (c := _) rfl ?_
    refine hold_endNw mixed okM12a (news := [3]) (unroll := false) (f := 300) (sc := [false]) (r := { res := SV.row 0 (SV.sl .u8 (out32 h 8)), upd := [], new := [{ ty := 5, segs := [], row := true }] }) (ob := [false = false]) (sc' := []) (by kernel_rfl) (by repeat' first | exact trivial | exact decide_eq_true (by omega) | exact decide_eq_false (by omega) | omega | (simp only [List.length_drop, List.length_take]; omega) | (simp only [decide_eq_true_eq, decide_eq_false_iff_not, List.length_drop, List.length_take]; omega) | (simp only [slenD, SV.slen, Option.getD_some, List.length_append, List.length_cons, List.length_nil, out32_len]; omega) | refine ⟨?_, ?_⟩) ?_
    exact wkM_of (by rw [hr]; rfl)
theorem s256_3 (m h : List Nat) (n : Nat) (hn : m.length = 64 * n) (hr : res = .sl .u8 (out32 (cmp kr32 m h n) 8)) : ∀ d i, n - i = d → i ≤ n →
    Hold Try.prog (bodyOf Try.f66) (FinM Try.prog Try.f66 w0 S ⟨.row 0 res, [], [bY]⟩) w0 S st3 (s3 (m.drop (64 * i)) (cmp kr32 m h i)) := by
  intro d
  induction d using Nat.strongRecOn with
  | _ d ih =>
  intro i hd hi
  by_cases hlt : i < n
  · have e := ih (n - (i + 1)) (by omega) (i + 1) rfl (by omega)
    refine hold_unroll (c := _) rfl ?_
    refine hold_cut mixed okM12a (unroll := false) (f := 300) (sc := [true]) (ks := [5,7,9]) (bs := [1,2]) (nx := 3) (st' := [It.lp [0, 1, 0, 1, 1, 1, 1, 1, 1], It.blk 4, It.at [1, 1, 1, 1, 1, 1, 1]]) (σ' := { nt := 70, slots := [(5, SV.ptr 1 0 (Ix.c 0)), (7, SV.ptr 2 0 (Ix.c 0)), (9, SV.sl .u8 (List.drop 64 (List.take (List.drop (64 * i) m).length (List.drop (64 * i) m))))], blks := [(1, { ty := 110, segs := [SV.arr .u32 64 (kF 64)] }), (2, { ty := 77, segs := [SV.arr .u32 8 (A32 (gd (kF 64)) (List.drop 0 (List.take 64 (List.drop (64 * i) m))) (cmp kr32 m h i) 8)] })], next := 3 }) (ob := [Decidable.decide (0 < (List.drop (64 * i) m).length) = true, 0 ≤ 64, 64 ≤ (List.drop (64 * i) m).length, (List.drop 0 (List.take 64 (List.drop (64 * i) m))).length = 64, 64 ≤ (List.drop (64 * i) m).length, (List.drop (64 * i) m).length ≤ (List.drop (64 * i) m).length]) (sc' := []) (by kernel_rfl) (by repeat' first | exact trivial | exact decide_eq_true (by omega) | exact decide_eq_false (by omega) | omega | (simp only [List.length_drop, List.length_take]; omega) | (simp only [decide_eq_true_eq, decide_eq_false_iff_not, List.length_drop, List.length_take]; omega) | (simp only [slenD, SV.slen, Option.getD_some, List.length_append, List.length_cons, List.length_nil, out32_len]; omega) | refine ⟨?_, ?_⟩) ?_
    rw [A32_kF, List.take_of_length_le (Nat.le_refl _), List.drop_drop, show 64 * i + 64 = 64 * (i + 1) by omega]
    exact e
  · have e : i = n := by omega
    subst e
    refine hold_unroll (c := _) rfl ?_
    refine hold_cut mixed okM12a (unroll := false) (f := 300) (sc := [false]) (ks := [10,50,51]) (bs := []) (nx := 3) (st' := [It.lp [0, 1, 0, 1, 1, 1, 1, 1, 1, 1, 1], It.blk 6, It.at [1, 1, 1, 1, 1, 1, 1, 1, 1]]) (σ' := { nt := 70, slots := [(10, SV.nil), (50, SV.arr .u32 8 (cmp kr32 m h i)), (51, SV.c .i64 (0 : Int))], blks := [], next := 3 }) (ob := [Decidable.decide (0 < (List.drop (64 * i) m).length) = false]) (sc' := []) (by kernel_rfl) (by repeat' first | exact trivial | exact decide_eq_true (by omega) | exact decide_eq_false (by omega) | omega | (simp only [List.length_drop, List.length_take]; omega) | (simp only [decide_eq_true_eq, decide_eq_false_iff_not, List.length_drop, List.length_take]; omega) | (simp only [slenD, SV.slen, Option.getD_some, List.length_append, List.length_cons, List.length_nil, out32_len]; omega) | refine ⟨?_, ?_⟩) ?_
    refine hold_nil (t := 10) (e := 5) (s0 := .sl .u8 []) rfl ?_
    refine hold_restrict (ks := [10,50,51]) (bs := [3]) (nx := 6) rfl ?_
    exact Hold.weaken (s256_4 _ hr _ 0 rfl (by omega)) (by simp [wks, wk, wk0, lim, s4, out32, itr])
theorem s256_2 (b : List Nat) (hb : b.length ≤ 1000000) (hr : res = .sl .u8 (sum32 b)) : ∀ d i, 8 - i = d → i ≤ 8 →
    Hold Try.prog (bodyOf Try.f66) (FinM Try.prog Try.f66 w0 S ⟨.row 0 res, [], [bY]⟩) w0 S st2 (s2 b i) := by
  intro d
  induction d using Nat.strongRecOn with
  | _ d ih =>
  intro i hd hi
  by_cases hlt : i < 8
  · have e := ih (8 - (i + 1)) (by omega) (i + 1) rfl (by omega)
    refine hold_unroll (c := _) rfl ?_
    refine hold_cut mixed okM12a (unroll := false) (f := 300) (sc := [true]) (ks := [0,4,5,7,29]) (bs := [0,1,2]) (nx := 3) (st' := [It.lp [0, 1, 0, 1, 1, 1, 1, 1], It.blk 2, It.at [1, 1, 1, 1, 1, 1]]) (σ' := { nt := 70, slots := [(0, SV.sl .u8 b), (4, SV.ptr 0 0 (Ix.c 0)), (5, SV.ptr 1 0 (Ix.c 0)), (7, SV.ptr 2 0 (Ix.c 0)), (29, SV.u .i64 (i + 1))], blks := [(0, { ty := 78, segs := [SV.arr .u64 8 hL] }), (1, { ty := 110, segs := [SV.arr .u32 64 (kF 64)] }), (2, { ty := 77, segs := [SV.arr .u32 8 ((hF i).set i (hL.getD i 0 / 4294967296 % 4294967296))] })], next := 3 }) (ob := [Decidable.decide (i < 8) = true, i < 8, i < 8, i < 8, i < 8, i + 1 < 9223372036854775808]) (sc' := []) (by kernel_rfl) (by repeat' first | exact trivial | exact decide_eq_true (by omega) | exact decide_eq_false (by omega) | omega | (simp only [List.length_drop, List.length_take]; omega) | (simp only [decide_eq_true_eq, decide_eq_false_iff_not, List.length_drop, List.length_take]; omega) | (simp only [slenD, SV.slen, Option.getD_some, List.length_append, List.length_cons, List.length_nil, out32_len]; omega) | refine ⟨?_, ?_⟩) ?_
    exact e
  · have e : i = 8 := by omega
    subst e
    refine hold_unroll (c := _) rfl ?_
    refine hold_cut mixed okM12a (unroll := false) (f := 300) (sc := [false]) (ks := [5,7,9]) (bs := [1,2]) (nx := 3) (st' := [It.lp [0, 1, 0, 1, 1, 1, 1, 1, 1], It.blk 4, It.at [1, 1, 1, 1, 1, 1, 1]]) (σ' := { nt := 70, slots := [(5, SV.ptr 1 0 (Ix.c 0)), (7, SV.ptr 2 0 (Ix.c 0)), (9, SV.sl .u8 (pd 64 8 b))], blks := [(1, { ty := 110, segs := [SV.arr .u32 64 (kF 64)] }), (2, { ty := 77, segs := [SV.arr .u32 8 (hF 8)] })], next := 3 }) (ob := [false = false, b.length ≤ 1000000]) (sc' := []) (by kernel_rfl) (by repeat' first | exact trivial | exact decide_eq_true (by omega) | exact decide_eq_false (by omega) | omega | (simp only [List.length_drop, List.length_take]; omega) | (simp only [decide_eq_true_eq, decide_eq_false_iff_not, List.length_drop, List.length_take]; omega) | (simp only [slenD, SV.slen, Option.getD_some, List.length_append, List.length_cons, List.length_nil, out32_len]; omega) | refine ⟨?_, ?_⟩) ?_
    exact s256_3 (pd 64 8 b) (hF 8) _ (pd_mul b) hr _ 0 rfl (by omega)
theorem s256_1 (b : List Nat) (hb : b.length ≤ 1000000) (hr : res = .sl .u8 (sum32 b)) : ∀ d i, 64 - i = d → i ≤ 64 →
    Hold Try.prog (bodyOf Try.f66) (FinM Try.prog Try.f66 w0 S ⟨.row 0 res, [], [bY]⟩) w0 S st1 (s1 b i) := by
  intro d
  induction d using Nat.strongRecOn with
  | _ d ih =>
  intro i hd hi
  by_cases hlt : i < 64
  · have e := ih (64 - (i + 1)) (by omega) (i + 1) rfl (by omega)
    refine hold_unroll (c := _) rfl ?_
    refine hold_cut mixed okM12a (unroll := false) (f := 300) (sc := [true]) (ks := [0,3,4,5,17]) (bs := [0,1]) (nx := 2) (st' := [It.lp [0, 1, 0, 1, 1, 1], It.blk 0, It.at [1, 1, 1, 1]]) (σ' := { nt := 70, slots := [(0, SV.sl .u8 b), (3, SV.sl .u64 (List.take 64 kL)), (4, SV.ptr 0 0 (Ix.c 0)), (5, SV.ptr 1 0 (Ix.c 0)), (17, SV.u .i64 (i + 1))], blks := [(0, { ty := 78, segs := [SV.arr .u64 8 hL] }), (1, { ty := 110, segs := [SV.arr .u32 64 ((kF i).set i ((List.take 64 kL).getD i 0 / 4294967296 % 4294967296))] })], next := 2 }) (ob := [Decidable.decide (i < 64) = true, i < 64, i < 64, i < 64, i + 1 < 9223372036854775808]) (sc' := []) (by kernel_rfl) (by repeat' first | exact trivial | exact decide_eq_true (by omega) | exact decide_eq_false (by omega) | omega | (simp only [List.length_drop, List.length_take]; omega) | (simp only [decide_eq_true_eq, decide_eq_false_iff_not, List.length_drop, List.length_take]; omega) | (simp only [slenD, SV.slen, Option.getD_some, List.length_append, List.length_cons, List.length_nil, out32_len]; omega) | refine ⟨?_, ?_⟩) ?_
    exact e
  · have e : i = 64 := by omega
    subst e
    refine hold_unroll (c := _) rfl ?_
    refine hold_cut mixed okM12a (unroll := false) (f := 300) (sc := [false]) (ks := [0,4,5,7,29]) (bs := [0,1,2]) (nx := 3) (st' := [It.lp [0, 1, 0, 1, 1, 1, 1, 1], It.blk 2, It.at [1, 1, 1, 1, 1, 1]]) (σ' := { nt := 70, slots := [(0, SV.sl .u8 b), (4, SV.ptr 0 0 (Ix.c 0)), (5, SV.ptr 1 0 (Ix.c 0)), (7, SV.ptr 2 0 (Ix.c 0)), (29, SV.c .i64 (0 : Int))], blks := [(0, { ty := 78, segs := [SV.arr .u64 8 hL] }), (1, { ty := 110, segs := [SV.arr .u32 64 (kF 64)] }), (2, { ty := 77, segs := [SV.arr .u32 8 [0, 0, 0, 0, 0, 0, 0, 0]] })], next := 3 }) (ob := [false = false]) (sc' := []) (by kernel_rfl) (by repeat' first | exact trivial | exact decide_eq_true (by omega) | exact decide_eq_false (by omega) | omega | (simp only [List.length_drop, List.length_take]; omega) | (simp only [decide_eq_true_eq, decide_eq_false_iff_not, List.length_drop, List.length_take]; omega) | (simp only [slenD, SV.slen, Option.getD_some, List.length_append, List.length_cons, List.length_nil, out32_len]; omega) | refine ⟨?_, ?_⟩) ?_
    exact Hold.weaken (s256_2 b hb hr _ 0 rfl (by omega)) (by simp [wks, wk, wk0, lim, s2])
theorem sum256_m (b : List Nat) (hb : b.length ≤ 1000000) : ContractM Try.prog 66 [] [.sl .u8 b] ⟨.row 0 (.sl .u8 (sum32 b)), [], [bY]⟩ := by
  refine contractM Try.func66 (body := bodyOf Try.f66) rfl (by kernel_rfl) (by kernel_rfl) rfl rfl ?_
  rintro _ _ w0 S _
  refine hold_cut mixed okM12a (unroll := false) (f := 100) (sc := []) (ks := [0,3,4,5,17]) (bs := [0,1]) (nx := 2) (st' := [It.lp [0, 1, 0, 1, 1, 1], It.blk 0, It.at [1, 1, 1, 1]]) (σ' := { nt := 70, slots := [(0, SV.sl .u8 b), (3, SV.sl .u64 (List.take 64 kL)), (4, SV.ptr 0 0 (Ix.c 0)), (5, SV.ptr 1 0 (Ix.c 0)), (17, SV.c .i64 (0 : Int))], blks := [(0, { ty := 78, segs := [SV.arr .u64 8 hL] }), (1, { ty := 110, segs := [SV.arr .u32 64 [0, 0, 0, 0, 0, 0, 0, 0, 0, 0, 0, 0, 0, 0, 0, 0, 0, 0, 0, 0, 0, 0, 0, 0, 0, 0, 0, 0, 0, 0, 0, 0, 0, 0, 0, 0, 0, 0, 0, 0, 0, 0, 0, 0, 0, 0, 0, 0, 0, 0, 0, 0, 0, 0, 0, 0, 0, 0, 0, 0, 0, 0, 0, 0]] })], next := 2 }) (ob := []) (sc' := []) (by kernel_rfl) (by repeat' first | exact trivial | exact decide_eq_true (by omega) | exact decide_eq_false (by omega) | omega | (simp only [List.length_drop, List.length_take]; omega) | (simp only [decide_eq_true_eq, decide_eq_false_iff_not, List.length_drop, List.length_take]; omega) | (simp only [slenD, SV.slen, Option.getD_some, List.length_append, List.length_cons, List.length_nil, out32_len]; omega) | refine ⟨?_, ?_⟩) ?_
  exact Hold.weaken (s256_1 b hb rfl _ 0 rfl (by omega)) (by simp [wks, wk, wk0, lim, s1])
theorem q256_3 (h : List Nat) (hr : res = .sl .u8 (out32 h 8)) : ∀ d i, 8 - i = d → i ≤ 8 →
    Hold Try.prog (bodyOf Try.f17) (FinM Try.prog Try.f17 w0 S ⟨.row 0 res, [], [bY]⟩) w0 S rt3 (r3 h i) := by
  intro d
  induction d using Nat.strongRecOn with
  | _ d ih =>
  intro i hd hi
  by_cases hlt : i < 8
  · have e := ih (8 - (i + 1)) (by omega) (i + 1) rfl (by omega)
    refine hold_unroll (c := _) rfl ?_
    refine hold_cut mixed okM12a (unroll := false) (f := 300) (sc := [true]) (ks := [8,37,38]) (bs := [1]) (nx := 4) (st' := [It.lp [0, 1, 0, 1, 1, 1, 1, 1, 1], It.blk 4, It.at [1, 1, 1, 1, 1, 1, 1]]) (σ' := { nt := 57, slots := [(8, SV.row 1 (SV.sl .u8 (out32 h i ++ [h.getD i 0 / 16777216 % 256, h.getD i 0 / 65536 % 256, h.getD i 0 / 256 % 256, h.getD i 0 % 256]))), (37, SV.arr .u32 8 h), (38, SV.u .i64 (i + 1))], blks := [(1, { ty := 5, segs := [], row := true })], next := 4 }) (ob := [Decidable.decide (i < 8) = true, i < 8, slenD (SV.sl .u8 (out32 h i ++ [h.getD i 0 / 16777216 % 256, h.getD i 0 / 65536 % 256, h.getD i 0 / 256 % 256, h.getD i 0 % 256])) * 1 ≤ 140737488355328, i + 1 < 9223372036854775808]) (sc' := []) (by kernel_rfl) (by repeat' first | exact trivial | exact decide_eq_true (by omega) | exact decide_eq_false (by omega) | omega | (simp only [List.length_drop, List.length_take]; omega) | (simp only [decide_eq_true_eq, decide_eq_false_iff_not, List.length_drop, List.length_take]; omega) | (simp only [slenD, SV.slen, Option.getD_some, List.length_append, List.length_cons, List.length_nil, out32_len]; omega) | refine ⟨?_, ?_⟩) ?_
    exact e
  · have e : i = 8 := by omega
    subst e
    refine hold_unroll (c := _) rfl ?_
    refine hold_endNw mixed okM12a (news := [1]) (unroll := false) (f := 300) (sc := [false]) (r := { res := SV.row 0 (SV.sl .u8 (out32 h 8)), upd := [], new := [{ ty := 5, segs := [], row := true }] }) (ob := [false = false]) (sc' := []) (by kernel_rfl) (by repeat' first | exact trivial | exact decide_eq_true (by omega) | exact decide_eq_false (by omega) | omega | (simp only [List.length_drop, List.length_take]; omega) | (simp only [decide_eq_true_eq, decide_eq_false_iff_not, List.length_drop, List.length_take]; omega) | (simp only [slenD, SV.slen, Option.getD_some, List.length_append, List.length_cons, List.length_nil, out32_len]; omega) | refine ⟨?_, ?_⟩) ?_
    exact wkM_of (by rw [hr]; rfl)
theorem q256_2 (m h : List Nat) (n : Nat) (hn : m.length = 64 * n) (hn2 : n < 100000) (hr : res = .sl .u8 (out32 (cmp kr32 m h n) 8)) : ∀ d i, n - i = d → i ≤ n →
    Hold Try.prog (bodyOf Try.f17) (FinM Try.prog Try.f17 w0 S ⟨.row 0 res, [], [bY]⟩) w0 S rt2 (r2 m (cmp kr32 m h i) i) := by
  intro d
  induction d using Nat.strongRecOn with
  | _ d ih =>
  intro i hd hi
  by_cases hlt : i < n
  · have e := ih (n - (i + 1)) (by omega) (i + 1) rfl (by omega)
    refine hold_unroll (c := _) rfl ?_
    refine hold_cut mixed okM12a (unroll := false) (f := 300) (sc := [true]) (ks := [3,6,7]) (bs := [0]) (nx := 1) (st' := [It.lp [0, 1, 0, 1, 1, 1, 1], It.blk 2, It.at [1, 1, 1, 1, 1]]) (σ' := { nt := 57, slots := [(3, SV.ptr 0 0 (Ix.c 0)), (6, SV.sl .u8 m), (7, SV.u .i64 (64 * i + 64))], blks := [(0, { ty := 77, segs := [SV.arr .u32 8 (A32 kr32 (List.drop (64 * i) (List.take (64 * i + 64) m)) (cmp kr32 m h i) 8)] })], next := 1 }) (ob := [Decidable.decide (64 * i < m.length) = true, 64 * i + 64 < 9223372036854775808, 64 * i ≤ 64 * i + 64, 64 * i + 64 ≤ m.length, (List.drop (64 * i) (List.take (64 * i + 64) m)).length = 64, 64 * i + 64 < 9223372036854775808]) (sc' := []) (by kernel_rfl) (by repeat' first | exact trivial | exact decide_eq_true (by omega) | exact decide_eq_false (by omega) | omega | (simp only [List.length_drop, List.length_take]; omega) | (simp only [decide_eq_true_eq, decide_eq_false_iff_not, List.length_drop, List.length_take]; omega) | (simp only [slenD, SV.slen, Option.getD_some, List.length_append, List.length_cons, List.length_nil, out32_len]; omega) | refine ⟨?_, ?_⟩) ?_
    rw [cut_ref]
    exact e
  · have e : i = n := by omega
    subst e
    refine hold_unroll (c := _) rfl ?_
    refine hold_cut mixed okM12a (unroll := false) (f := 300) (sc := [false]) (ks := [8,37,38]) (bs := []) (nx := 1) (st' := [It.lp [0, 1, 0, 1, 1, 1, 1, 1, 1], It.blk 4, It.at [1, 1, 1, 1, 1, 1, 1]]) (σ' := { nt := 57, slots := [(8, SV.nil), (37, SV.arr .u32 8 (cmp kr32 m h i)), (38, SV.c .i64 (0 : Int))], blks := [], next := 1 }) (ob := [Decidable.decide (64 * i < m.length) = false]) (sc' := []) (by kernel_rfl) (by repeat' first | exact trivial | exact decide_eq_true (by omega) | exact decide_eq_false (by omega) | omega | (simp only [List.length_drop, List.length_take]; omega) | (simp only [decide_eq_true_eq, decide_eq_false_iff_not, List.length_drop, List.length_take]; omega) | (simp only [slenD, SV.slen, Option.getD_some, List.length_append, List.length_cons, List.length_nil, out32_len]; omega) | refine ⟨?_, ?_⟩) ?_
    refine hold_nil (t := 8) (e := 5) (s0 := .sl .u8 []) rfl ?_
    refine hold_restrict (ks := [8,37,38]) (bs := [1]) (nx := 4) rfl ?_
    exact Hold.weaken (q256_3 _ hr _ 0 rfl (by omega)) (by simp [wks, wk, wk0, lim, r3, out32, itr])
theorem q256_1 (b : List Nat) (hb : b.length ≤ 1000000) (hr : res = .sl .u8 (sum32 b)) : ∀ d i, 8 - i = d → i ≤ 8 →
    Hold Try.prog (bodyOf Try.f17) (FinM Try.prog Try.f17 w0 S ⟨.row 0 res, [], [bY]⟩) w0 S rt1 (r1 b i) := by
  intro d
  induction d using Nat.strongRecOn with
  | _ d ih =>
  intro i hd hi
  by_cases hlt : i < 8
  · have e := ih (8 - (i + 1)) (by omega) (i + 1) rfl (by omega)
    refine hold_unroll (c := _) rfl ?_
    refine hold_cut mixed okM12a (unroll := false) (f := 300) (sc := [true]) (ks := [0,3,11,12]) (bs := [0]) (nx := 1) (st' := [It.lp [0, 1, 0, 1, 1], It.blk 0, It.at [1, 1, 1]]) (σ' := { nt := 57, slots := [(0, SV.sl .u8 b), (3, SV.ptr 0 0 (Ix.c 0)), (11, SV.arr .u64 8 hL), (12, SV.u .i64 (i + 1))], blks := [(0, { ty := 77, segs := [SV.arr .u32 8 ((hF i).set i (hL.getD i 0 / 4294967296 % 4294967296))] })], next := 1 }) (ob := [Decidable.decide (i < 8) = true, i < 8, i < 8, i < 8, i + 1 < 9223372036854775808]) (sc' := []) (by kernel_rfl) (by repeat' first | exact trivial | exact decide_eq_true (by omega) | exact decide_eq_false (by omega) | omega | (simp only [List.length_drop, List.length_take]; omega) | (simp only [decide_eq_true_eq, decide_eq_false_iff_not, List.length_drop, List.length_take]; omega) | (simp only [slenD, SV.slen, Option.getD_some, List.length_append, List.length_cons, List.length_nil, out32_len]; omega) | refine ⟨?_, ?_⟩) ?_
    exact e
  · have e : i = 8 := by omega
    subst e
    refine hold_unroll (c := _) rfl ?_
    have hl := pd_len b
    have hz : zP 64 8 b.length < 64 := Nat.mod_lt _ (by decide)
    refine hold_cut mixed okM12a (unroll := false) (f := 300) (sc := [false]) (ks := [3,6,7]) (bs := [0]) (nx := 1) (st' := [It.lp [0, 1, 0, 1, 1, 1, 1], It.blk 2, It.at [1, 1, 1, 1, 1]]) (σ' := { nt := 57, slots := [(3, SV.ptr 0 0 (Ix.c 0)), (6, SV.sl .u8 (pd 64 8 b)), (7, SV.c .i64 (0 : Int))], blks := [(0, { ty := 77, segs := [SV.arr .u32 8 (hF 8)] })], next := 1 }) (ob := [false = false, b.length ≤ 1000000]) (sc' := []) (by kernel_rfl) (by repeat' first | exact trivial | exact decide_eq_true (by omega) | exact decide_eq_false (by omega) | omega | (simp only [List.length_drop, List.length_take]; omega) | (simp only [decide_eq_true_eq, decide_eq_false_iff_not, List.length_drop, List.length_take]; omega) | (simp only [slenD, SV.slen, Option.getD_some, List.length_append, List.length_cons, List.length_nil, out32_len]; omega) | refine ⟨?_, ?_⟩) ?_
    exact Hold.weaken (q256_2 (pd 64 8 b) (hF 8) _ (pd_mul b) (by omega) hr _ 0 rfl (by omega)) (by simp [wks, wk, wk0, lim, r2])
theorem qsum256_m (b : List Nat) (hb : b.length ≤ 1000000) : ContractM Try.prog 17 [] [.sl .u8 b] ⟨.row 0 (.sl .u8 (sum32 b)), [], [bY]⟩ := by
  refine contractM Try.func17 (body := bodyOf Try.f17) rfl (by kernel_rfl) (by kernel_rfl) rfl rfl ?_
  rintro _ _ w0 S _
  refine hold_cut mixed okM12a (unroll := false) (f := 100) (sc := []) (ks := [0,3,11,12]) (bs := [0]) (nx := 1) (st' := [It.lp [0, 1, 0, 1, 1], It.blk 0, It.at [1, 1, 1]]) (σ' := { nt := 57, slots := [(0, SV.sl .u8 b), (3, SV.ptr 0 0 (Ix.c 0)), (11, SV.arr .u64 8 hL), (12, SV.c .i64 (0 : Int))], blks := [(0, { ty := 77, segs := [SV.arr .u32 8 [0, 0, 0, 0, 0, 0, 0, 0]] })], next := 1 }) (ob := []) (sc' := []) (by kernel_rfl) (by repeat' first | exact trivial | exact decide_eq_true (by omega) | exact decide_eq_false (by omega) | omega | (simp only [List.length_drop, List.length_take]; omega) | (simp only [decide_eq_true_eq, decide_eq_false_iff_not, List.length_drop, List.length_take]; omega) | (simp only [slenD, SV.slen, Option.getD_some, List.length_append, List.length_cons, List.length_nil, out32_len]; omega) | refine ⟨?_, ?_⟩) ?_
  exact Hold.weaken (q256_1 b hb rfl _ 0 rfl (by omega)) (by simp [wks, wk, wk0, lim, r1])
end
theorem sum256_c (b : List Nat) (hb : b.length ≤ 1000000) : Contract Try.prog 66 [.sl .u8 b] (.sl .u8 (sum32 b)) := (sum256_m b hb).plain rfl rfl rfl rfl
theorem qsum256_c (b : List Nat) (hb : b.length ≤ 1000000) : Contract Try.prog 17 [.sl .u8 b] (.sl .u8 (sum32 b)) := (qsum256_m b hb).plain rfl rfl rfl rfl
end Go.Eng.B

namespace Go.Eng.B
open Go Go.Eng Go.Proofs
set_option maxRecDepth 100000
def q64 (a b x : Nat) : Nat := x * a % 18446744073709551616 ||| x / b
def wB64 (w : List Nat) (i : Nat) : Nat :=
  ((((q64 35184372088832 524288 (w.getD ((i : Int) - 2).toNat 0) ^^^ q64 8 2305843009213693952 (w.getD ((i : Int) - 2).toNat 0) ^^^ w.getD ((i : Int) - 2).toNat 0 / 64) + w.getD ((i : Int) - 7).toNat 0) % 18446744073709551616 + (q64 9223372036854775808 2 (w.getD ((i : Int) - 15).toNat 0) ^^^ q64 72057594037927936 256 (w.getD ((i : Int) - 15).toNat 0) ^^^ w.getD ((i : Int) - 15).toNat 0 / 128)) % 18446744073709551616 + w.getD ((i : Int) - 16).toNat 0) % 18446744073709551616
def stepI64 (m : List Nat) (i : Nat) (w : List Nat) (j : Nat) : List Nat := w.set i (w.getD i 0 * 256 % 18446744073709551616 ||| m.getD (8 * i + j) 0)
def I64 (m : List Nat) (i : Nat) (w : List Nat) (j : Nat) : List Nat := itr (stepI64 m i) w j
def stepW64 (m w : List Nat) (i : Nat) : List Nat := if i < 16 then I64 m i w 8 else w.set i (wB64 w i)
def t64 (k : Nat → Nat) (w s : List Nat) (i : Nat) : Nat :=
  ((((s.getD 7 0 + (q64 1125899906842624 16384 (s.getD 4 0) ^^^ q64 70368744177664 262144 (s.getD 4 0) ^^^ q64 8388608 2199023255552 (s.getD 4 0))) % 18446744073709551616 + (s.getD 4 0 &&& s.getD 5 0 ^^^ 18446744073709551615 - s.getD 4 0 &&& s.getD 6 0)) % 18446744073709551616 + k i) % 18446744073709551616 + w.getD i 0) % 18446744073709551616
def u64 (s : List Nat) : Nat := ((q64 68719476736 268435456 (s.getD 0 0) ^^^ q64 1073741824 17179869184 (s.getD 0 0) ^^^ q64 33554432 549755813888 (s.getD 0 0)) + (s.getD 0 0 &&& s.getD 1 0 ^^^ s.getD 0 0 &&& s.getD 2 0 ^^^ s.getD 1 0 &&& s.getD 2 0)) % 18446744073709551616
def stepR64 (k : Nat → Nat) (w s : List Nat) (i : Nat) : List Nat := [(t64 k w s i + u64 s) % 18446744073709551616, s.getD 0 0, s.getD 1 0, s.getD 2 0, (s.getD 3 0 + t64 k w s i) % 18446744073709551616, s.getD 4 0, s.getD 5 0, s.getD 6 0]
def stepA64 (s h : List Nat) (i : Nat) : List Nat := h.set i ((h.getD i 0 + s.getD i 0) % 18446744073709551616)
def W64 (m : List Nat) (i : Nat) : List Nat := itr (stepW64 m) (List.replicate 80 0) i
def R64 (m h : List Nat) (i : Nat) : List Nat := itr (stepR64 (gd kL) (W64 m 80)) h i
def A64 (m h : List Nat) (i : Nat) : List Nat := itr (stepA64 (R64 m h 80)) h i
def b64 (h : List Nat) : Bk := ⟨78, [.arr .u64 8 h], false⟩
def bw64 (h : List Nat) : Bk := ⟨87, [.arr .u64 80 h], false⟩
def pW : List It := [.lp [0, 1, 0, 1], .blk 0, .at [1, 1]]
def pI : List It := [.lp [0, 1, 0, 0, 1, 0, 1, 0, 0, 1, 1, 0, 0, 1, 0, 1], .blk 2, .at [1, 0, 1, 0, 1, 0, 0, 1, 1, 0, 0, 1, 0, 1], .at [1, 1, 0, 0, 1, 1, 0, 0, 1, 0, 1], .blk 1, .at [1, 1, 1, 0, 0, 1, 0, 1]] ++ pW
def pR : List It := [.lp [0, 1, 0, 1, 1, 1], .blk 4, .at [1, 1, 1, 1]]
def pA : List It := [.lp [0, 1, 1, 1, 1, 1], .blk 6]
def uW (h m w : List Nat) (i : Nat) : St := ⟨183, [(0, .ptr 0 0 (.c 0)), (1, .sl .u64 kL), (2, .sl .u8 m), (6, .ptr 1 0 (.c 0)), (19, .u .i64 i)], [(0, b64 h), (1, bw64 w)], 2, 1⟩
def uI (h m w : List Nat) (i j : Nat) : St := ⟨183, [(0, .ptr 0 0 (.c 0)), (1, .sl .u64 kL), (2, .sl .u8 m), (6, .ptr 1 0 (.c 0)), (7, .u .i64 i), (19, .u .i64 i), (30, .sl .u8 ((m.take (8 * i + 8)).drop (8 * i))), (31, .u .i64 8), (32, .u .i64 j)], [(0, b64 h), (1, bw64 w)], 2, 1⟩
def uR (h m w s : List Nat) (i : Nat) : St := ⟨183, [(0, .ptr 0 0 (.c 0)), (1, .sl .u64 kL), (2, .sl .u8 m), (6, .ptr 1 0 (.c 0)), (12, .ptr 2 0 (.c 0)), (87, .u .i64 i)], [(0, b64 h), (1, bw64 w), (2, b64 s)], 3, 1⟩
def uA (h s : List Nat) (i : Nat) : St := ⟨183, [(0, .ptr 0 0 (.c 0)), (12, .ptr 2 0 (.c 0)), (168, .u .i64 i)], [(0, b64 h), (2, b64 s)], 3, 1⟩
def vW : List It := [.lp [0, 1, 0, 1, 1, 1], .blk 0, .at [1, 1, 1, 1]]
def vI : List It := [.lp [0, 1, 0, 0, 1, 0, 1, 0, 0, 1, 1, 0, 0, 1, 0, 1, 1, 1], .blk 2, .at [1, 0, 1, 0, 1, 0, 0, 1, 1, 0, 0, 1, 0, 1, 1, 1], .at [1, 1, 0, 0, 1, 1, 0, 0, 1, 0, 1, 1, 1], .blk 1, .at [1, 1, 1, 0, 0, 1, 0, 1, 1, 1]] ++ vW
def vR : List It := [.lp [0, 1, 0, 1, 1, 1, 1, 1], .blk 4, .at [1, 1, 1, 1, 1, 1]]
def vA : List It := [.lp [0, 1, 0, 1, 1, 1, 1, 1, 1], .blk 6, .at [1, 1, 1, 1, 1, 1, 1]]
def xW (h m w : List Nat) (i : Nat) : St := ⟨175, [(1, .sl .u8 m), (2, .ptr 0 0 (.c 0)), (4, .ptr 1 0 (.c 0)), (5, .ptr 2 0 (.c 0)), (6, .ptr 3 0 (.c 0)), (19, .u .i64 i)], [(0, b64 h), (1, b64 (List.replicate 8 0)), (2, bw64 kL), (3, bw64 w)], 4, 0⟩
def xI (h m w : List Nat) (i j : Nat) : St := ⟨175, [(1, .sl .u8 m), (2, .ptr 0 0 (.c 0)), (4, .ptr 1 0 (.c 0)), (5, .ptr 2 0 (.c 0)), (6, .ptr 3 0 (.c 0)), (7, .u .i64 i), (19, .u .i64 i), (24, .u .i64 j)], [(0, b64 h), (1, b64 (List.replicate 8 0)), (2, bw64 kL), (3, bw64 w)], 4, 0⟩
def xR (h m w s : List Nat) (i : Nat) : St := ⟨175, [(1, .sl .u8 m), (2, .ptr 0 0 (.c 0)), (4, .ptr 1 0 (.c 0)), (5, .ptr 2 0 (.c 0)), (6, .ptr 3 0 (.c 0)), (11, .ptr 4 0 (.c 0)), (82, .u .i64 i)], [(0, b64 h), (1, b64 (List.replicate 8 0)), (2, bw64 kL), (3, bw64 w), (4, b64 s)], 5, 0⟩
def xA (h s : List Nat) (i : Nat) : St := ⟨175, [(2, .ptr 0 0 (.c 0)), (4, .ptr 1 0 (.c 0)), (11, .ptr 4 0 (.c 0)), (162, .u .i64 i)], [(0, b64 h), (1, b64 (List.replicate 8 0)), (4, b64 s)], 5, 0⟩
theorem kL_len : kL.length = 80 := by kernel_rfl
theorem cut_get (m : List Nat) (i j : Nat) (h : j < 8) : ((m.take (8 * i + 8)).drop (8 * i)).getD j 0 = m.getD (8 * i + j) 0 := by
  rw [List.getD_eq_getElem?_getD, List.getD_eq_getElem?_getD, List.getElem?_drop, List.getElem?_take_of_lt (by omega)]
section
variable {F : Fr} {S : Own} {r : MRes}
theorem p64_A (h m : List Nat) (hr : r = ⟨.tup [], [b64 (A64 m h 8)], []⟩) : ∀ d i, 8 - i = d → i ≤ 8 → Hold Try.prog (bodyOf Try.f77) (FinM Try.prog Try.f77 F S r) F S pA (uA (A64 m h i) (R64 m h 80) i) := by
  intro d
  induction d using Nat.strongRecOn with
  | _ d ih =>
  intro i hd hi
  by_cases hlt : i < 8
  · refine hold_unroll (c := _) rfl ?_
    refine hold_cut mixed okM12a (unroll := false) (f := 300) (sc := [true]) (ks := [0,12,168]) (bs := [0,2]) (nx := 3) (st' := [It.lp [0, 1, 1, 1, 1, 1], It.blk 6]) (σ' := { nt := 183, slots := [(0, SV.ptr 0 0 (Ix.c 0)), (12, SV.ptr 2 0 (Ix.c 0)), (168, SV.u .i64 (i + 1))], blks := [(0, { ty := 78, segs := [SV.arr .u64 8 ((A64 m h i).set i (((A64 m h i).getD i 0 + (R64 m h 80).getD i 0) % 18446744073709551616))] }), (2, { ty := 78, segs := [SV.arr .u64 8 (R64 m h 80)] })], next := 3, m := 1 }) (ob := [Decidable.decide (i < 8) = true, i < 8, i < 8, i < 8, i < 8, i < 8, i < 8, i + 1 < 9223372036854775808]) (sc' := []) (by kernel_rfl) (by repeat' first | exact trivial | exact decide_eq_true (by omega) | exact decide_eq_false (by omega) | omega | (simp only [List.length_drop, List.length_take]; omega) | (simp only [decide_eq_true_eq, decide_eq_false_iff_not, List.length_drop, List.length_take]; omega) | refine ⟨?_, ?_⟩) ?_
    exact ih (8 - (i + 1)) (by omega) (i + 1) rfl (by omega)
  · have e : i = 8 := by omega
    subst e
    refine hold_unroll (c := _) rfl ?_
    exact hold_endMw mixed okM12a (news := []) (unroll := false) (f := 300) (sc := [false]) (r := { res := SV.tup [], upd := [{ ty := 78, segs := [SV.arr .u64 8 (A64 m h 8)] }] }) (ob := [false = false]) (sc' := []) (by kernel_rfl) (by repeat' first | exact trivial | exact decide_eq_true (by omega) | exact decide_eq_false (by omega) | omega | (simp only [List.length_drop, List.length_take]; omega) | (simp only [decide_eq_true_eq, decide_eq_false_iff_not, List.length_drop, List.length_take]; omega) | refine ⟨?_, ?_⟩) (wkM_of hr.symm)
theorem p64_R (h m : List Nat) (hr : r = ⟨.tup [], [b64 (A64 m h 8)], []⟩) : ∀ d i, 80 - i = d → i ≤ 80 → Hold Try.prog (bodyOf Try.f77) (FinM Try.prog Try.f77 F S r) F S pR (uR h m (W64 m 80) (R64 m h i) i) := by
  intro d
  induction d using Nat.strongRecOn with
  | _ d ih =>
  intro i hd hi
  have hkl := kL_len
  by_cases hlt : i < 80
  · refine hold_unroll (c := _) rfl ?_
    refine hold_cut mixed okM12a (unroll := false) (f := 300) (sc := [true]) (ks := [0,1,2,6,12,87]) (bs := [0,1,2]) (nx := 3) (st' := [It.lp [0, 1, 0, 1, 1, 1], It.blk 4, It.at [1, 1, 1, 1]]) (σ' := { nt := 183, slots := [(0, SV.ptr 0 0 (Ix.c 0)), (1, SV.sl .u64 kL), (2, SV.sl .u8 m), (6, SV.ptr 1 0 (Ix.c 0)), (12, SV.ptr 2 0 (Ix.c 0)), (87, SV.u .i64 (i + 1))], blks := [(0, { ty := 78, segs := [SV.arr .u64 8 h] }), (1, { ty := 87, segs := [SV.arr .u64 80 (W64 m 80)] }), (2, { ty := 78, segs := [SV.arr .u64 8 [((((((R64 m h i).getD 7 0 + (((R64 m h i).getD 4 0 * 1125899906842624 % 18446744073709551616 ||| (R64 m h i).getD 4 0 / 16384) ^^^ ((R64 m h i).getD 4 0 * 70368744177664 % 18446744073709551616 ||| (R64 m h i).getD 4 0 / 262144) ^^^ ((R64 m h i).getD 4 0 * 8388608 % 18446744073709551616 ||| (R64 m h i).getD 4 0 / 2199023255552))) % 18446744073709551616 + ((R64 m h i).getD 4 0 &&& (R64 m h i).getD 5 0 ^^^ 18446744073709551615 - (R64 m h i).getD 4 0 &&& (R64 m h i).getD 6 0)) % 18446744073709551616 + kL.getD i 0) % 18446744073709551616 + (W64 m 80).getD i 0) % 18446744073709551616 + ((((R64 m h i).getD 0 0 * 68719476736 % 18446744073709551616 ||| (R64 m h i).getD 0 0 / 268435456) ^^^ ((R64 m h i).getD 0 0 * 1073741824 % 18446744073709551616 ||| (R64 m h i).getD 0 0 / 17179869184) ^^^ ((R64 m h i).getD 0 0 * 33554432 % 18446744073709551616 ||| (R64 m h i).getD 0 0 / 549755813888)) + ((R64 m h i).getD 0 0 &&& (R64 m h i).getD 1 0 ^^^ (R64 m h i).getD 0 0 &&& (R64 m h i).getD 2 0 ^^^ (R64 m h i).getD 1 0 &&& (R64 m h i).getD 2 0)) % 18446744073709551616) % 18446744073709551616, (R64 m h i).getD 0 0, (R64 m h i).getD 1 0, (R64 m h i).getD 2 0, ((R64 m h i).getD 3 0 + (((((R64 m h i).getD 7 0 + (((R64 m h i).getD 4 0 * 1125899906842624 % 18446744073709551616 ||| (R64 m h i).getD 4 0 / 16384) ^^^ ((R64 m h i).getD 4 0 * 70368744177664 % 18446744073709551616 ||| (R64 m h i).getD 4 0 / 262144) ^^^ ((R64 m h i).getD 4 0 * 8388608 % 18446744073709551616 ||| (R64 m h i).getD 4 0 / 2199023255552))) % 18446744073709551616 + ((R64 m h i).getD 4 0 &&& (R64 m h i).getD 5 0 ^^^ 18446744073709551615 - (R64 m h i).getD 4 0 &&& (R64 m h i).getD 6 0)) % 18446744073709551616 + kL.getD i 0) % 18446744073709551616 + (W64 m 80).getD i 0) % 18446744073709551616) % 18446744073709551616, (R64 m h i).getD 4 0, (R64 m h i).getD 5 0, (R64 m h i).getD 6 0]] })], next := 3, m := 1 }) (ob := [Decidable.decide (i < 80) = true, i < 80, i < 80, i < 80, i + 1 < 9223372036854775808]) (sc' := []) (by kernel_rfl) (by repeat' first | exact trivial | exact decide_eq_true (by omega) | exact decide_eq_false (by omega) | omega | (simp only [List.length_drop, List.length_take]; omega) | (simp only [decide_eq_true_eq, decide_eq_false_iff_not, List.length_drop, List.length_take]; omega) | refine ⟨?_, ?_⟩) ?_
    exact ih (80 - (i + 1)) (by omega) (i + 1) rfl (by omega)
  · have e : i = 80 := by omega
    subst e
    refine hold_unroll (c := _) rfl ?_
    refine hold_cut mixed okM12a (unroll := false) (f := 300) (sc := [false]) (ks := [0,12,168]) (bs := [0,2]) (nx := 3) (st' := [It.lp [0, 1, 1, 1, 1, 1], It.blk 6]) (σ' := { nt := 183, slots := [(0, SV.ptr 0 0 (Ix.c 0)), (12, SV.ptr 2 0 (Ix.c 0)), (168, SV.c .i64 (0 : Int))], blks := [(0, { ty := 78, segs := [SV.arr .u64 8 h] }), (2, { ty := 78, segs := [SV.arr .u64 8 (R64 m h 80)] })], next := 3, m := 1 }) (ob := [false = false]) (sc' := []) (by kernel_rfl) (by repeat' first | exact trivial | exact decide_eq_true (by omega) | exact decide_eq_false (by omega) | omega | (simp only [List.length_drop, List.length_take]; omega) | (simp only [decide_eq_true_eq, decide_eq_false_iff_not, List.length_drop, List.length_take]; omega) | refine ⟨?_, ?_⟩) ?_
    exact Hold.weaken (p64_A h m hr _ 0 rfl (by omega)) (by simp [wks, wk, wk0, lim, uA])
theorem p64_I (h m w : List Nat) (i : Nat) (hm : m.length = 128) (hi : i < 16) (hk : Hold Try.prog (bodyOf Try.f77) (FinM Try.prog Try.f77 F S r) F S pW (uW h m (I64 m i w 8) (i + 1))) : ∀ d j, 8 - j = d → j ≤ 8 → Hold Try.prog (bodyOf Try.f77) (FinM Try.prog Try.f77 F S r) F S pI (uI h m (I64 m i w j) i j) := by
  intro d
  induction d using Nat.strongRecOn with
  | _ d ih =>
  intro j hd hj
  by_cases hlt : j < 8
  · refine hold_unroll (c := _) rfl ?_
    refine hold_cut mixed okM12a (unroll := false) (f := 300) (sc := [true]) (ks := [0,1,2,6,7,19,30,31,32]) (bs := [0,1]) (nx := 2) (st' := [It.lp [0, 1, 0, 0, 1, 0, 1, 0, 0, 1, 1, 0, 0, 1, 0, 1], It.blk 2, It.at [1, 0, 1, 0, 1, 0, 0, 1, 1, 0, 0, 1, 0, 1], It.at [1, 1, 0, 0, 1, 1, 0, 0, 1, 0, 1], It.blk 1, It.at [1, 1, 1, 0, 0, 1, 0, 1], It.lp [0, 1, 0, 1], It.blk 0, It.at [1, 1]]) (σ' := { nt := 183, slots := [(0, SV.ptr 0 0 (Ix.c 0)), (1, SV.sl .u64 kL), (2, SV.sl .u8 m), (6, SV.ptr 1 0 (Ix.c 0)), (7, SV.u .i64 i), (19, SV.u .i64 i), (30, SV.sl .u8 (List.drop (8 * i) (List.take (8 * i + 8) m))), (31, SV.u .i64 8), (32, SV.u .i64 (j + 1))], blks := [(0, { ty := 78, segs := [SV.arr .u64 8 h] }), (1, { ty := 87, segs := [SV.arr .u64 80 ((I64 m i w j).set i ((I64 m i w j).getD i 0 * 256 % 18446744073709551616 ||| (List.drop (8 * i) (List.take (8 * i + 8) m)).getD j 0))] })], next := 2, m := 1 }) (ob := [Decidable.decide (j < 8) = true, j < (List.drop (8 * i) (List.take (8 * i + 8) m)).length, i < 80, i < 80, i < 80, i < 80, j + 1 < 9223372036854775808]) (sc' := []) (by kernel_rfl) (by repeat' first | exact trivial | exact decide_eq_true (by omega) | exact decide_eq_false (by omega) | omega | (simp only [List.length_drop, List.length_take]; omega) | (simp only [decide_eq_true_eq, decide_eq_false_iff_not, List.length_drop, List.length_take]; omega) | refine ⟨?_, ?_⟩) ?_
    rw [cut_get m i j hlt]
    exact ih (8 - (j + 1)) (by omega) (j + 1) rfl (by omega)
  · have e : j = 8 := by omega
    subst e
    refine hold_unroll (c := _) rfl ?_
    refine hold_cut mixed okM12a (unroll := false) (f := 300) (sc := [false]) (ks := [0,1,2,6,19]) (bs := [0,1]) (nx := 2) (st' := [It.lp [0, 1, 0, 1], It.blk 0, It.at [1, 1]]) (σ' := { nt := 183, slots := [(0, SV.ptr 0 0 (Ix.c 0)), (1, SV.sl .u64 kL), (2, SV.sl .u8 m), (6, SV.ptr 1 0 (Ix.c 0)), (19, SV.u .i64 (i + 1))], blks := [(0, { ty := 78, segs := [SV.arr .u64 8 h] }), (1, { ty := 87, segs := [SV.arr .u64 80 (I64 m i w 8)] })], next := 2, m := 1 }) (ob := [false = false, i + 1 < 9223372036854775808]) (sc' := []) (by kernel_rfl) (by repeat' first | exact trivial | exact decide_eq_true (by omega) | exact decide_eq_false (by omega) | omega | (simp only [List.length_drop, List.length_take]; omega) | (simp only [decide_eq_true_eq, decide_eq_false_iff_not, List.length_drop, List.length_take]; omega) | refine ⟨?_, ?_⟩) ?_
    exact hk
theorem p64_W (h m : List Nat) (hm : m.length = 128) (hr : r = ⟨.tup [], [b64 (A64 m h 8)], []⟩) : ∀ d i, 80 - i = d → i ≤ 80 → Hold Try.prog (bodyOf Try.f77) (FinM Try.prog Try.f77 F S r) F S pW (uW h m (W64 m i) i) := by
  intro d
  induction d using Nat.strongRecOn with
  | _ d ih =>
  intro i hd hi
  have hs : W64 m (i + 1) = if i < 16 then I64 m i (W64 m i) 8 else (W64 m i).set i (wB64 (W64 m i) i) := rfl
  by_cases hlt : i < 80
  · have e := ih (80 - (i + 1)) (by omega) (i + 1) rfl (by omega)
    refine hold_unroll (c := _) rfl ?_
    by_cases hl2 : i < 16
    · rw [hs, if_pos hl2] at e
      have hcl : (List.drop (8 * i) (List.take (8 * i + 8) m)).length = 8 := by rw [List.length_drop, List.length_take]; omega
      refine hold_cut mixed okM12a (unroll := false) (f := 300) (sc := [true, true]) (ks := [0,1,2,6,7,19,30,31,32]) (bs := [0,1]) (nx := 2) (st' := [It.lp [0, 1, 0, 0, 1, 0, 1, 0, 0, 1, 1, 0, 0, 1, 0, 1], It.blk 2, It.at [1, 0, 1, 0, 1, 0, 0, 1, 1, 0, 0, 1, 0, 1], It.at [1, 1, 0, 0, 1, 1, 0, 0, 1, 0, 1], It.blk 1, It.at [1, 1, 1, 0, 0, 1, 0, 1], It.lp [0, 1, 0, 1], It.blk 0, It.at [1, 1]]) (σ' := { nt := 183, slots := [(0, SV.ptr 0 0 (Ix.c 0)), (1, SV.sl .u64 kL), (2, SV.sl .u8 m), (6, SV.ptr 1 0 (Ix.c 0)), (7, SV.u .i64 i), (19, SV.u .i64 i), (30, SV.sl .u8 (List.drop (8 * i) (List.take (8 * i + 8) m))), (31, SV.u .i64 (List.drop (8 * i) (List.take (8 * i + 8) m)).length), (32, SV.c .i64 (0 : Int))], blks := [(0, { ty := 78, segs := [SV.arr .u64 8 h] }), (1, { ty := 87, segs := [SV.arr .u64 80 (W64 m i)] })], next := 2, m := 1 }) (ob := [Decidable.decide (i < 80) = true, Decidable.decide (i < 16) = true, 8 * i < 9223372036854775808, 8 * i < 9223372036854775808, 8 * i + 8 < 9223372036854775808, 8 * i ≤ 8 * i + 8, 8 * i + 8 ≤ m.length]) (sc' := []) (by kernel_rfl) (by repeat' first | exact trivial | exact decide_eq_true (by omega) | exact decide_eq_false (by omega) | omega | (simp only [List.length_drop, List.length_take]; omega) | (simp only [decide_eq_true_eq, decide_eq_false_iff_not, List.length_drop, List.length_take]; omega) | refine ⟨?_, ?_⟩) ?_
      exact Hold.weaken (p64_I h m (W64 m i) i hm hl2 e _ 0 rfl (by omega)) (by simp [wks, wk, wk0, lim, uI]; try omega)
    · rw [hs, if_neg hl2] at e
      refine hold_cut mixed okM12a (unroll := false) (f := 300) (sc := [true, false]) (ks := [0,1,2,6,19]) (bs := [0,1]) (nx := 2) (st' := [It.lp [0, 1, 0, 1], It.blk 0, It.at [1, 1]]) (σ' := { nt := 183, slots := [(0, SV.ptr 0 0 (Ix.c 0)), (1, SV.sl .u64 kL), (2, SV.sl .u8 m), (6, SV.ptr 1 0 (Ix.c 0)), (19, SV.u .i64 (i + 1))], blks := [(0, { ty := 78, segs := [SV.arr .u64 8 h] }), (1, { ty := 87, segs := [SV.arr .u64 80 ((W64 m i).set i (((((((W64 m i).getD ((↑i : Int) - (2 : Int)).toNat 0 * 35184372088832 % 18446744073709551616 ||| (W64 m i).getD ((↑i : Int) - (2 : Int)).toNat 0 / 524288) ^^^ ((W64 m i).getD ((↑i : Int) - (2 : Int)).toNat 0 * 8 % 18446744073709551616 ||| (W64 m i).getD ((↑i : Int) - (2 : Int)).toNat 0 / 2305843009213693952) ^^^ (W64 m i).getD ((↑i : Int) - (2 : Int)).toNat 0 / 64) + (W64 m i).getD ((↑i : Int) - (7 : Int)).toNat 0) % 18446744073709551616 + (((W64 m i).getD ((↑i : Int) - (15 : Int)).toNat 0 * 9223372036854775808 % 18446744073709551616 ||| (W64 m i).getD ((↑i : Int) - (15 : Int)).toNat 0 / 2) ^^^ ((W64 m i).getD ((↑i : Int) - (15 : Int)).toNat 0 * 72057594037927936 % 18446744073709551616 ||| (W64 m i).getD ((↑i : Int) - (15 : Int)).toNat 0 / 256) ^^^ (W64 m i).getD ((↑i : Int) - (15 : Int)).toNat 0 / 128)) % 18446744073709551616 + (W64 m i).getD ((↑i : Int) - (16 : Int)).toNat 0) % 18446744073709551616))] })], next := 2, m := 1 }) (ob := [Decidable.decide (i < 80) = true, Decidable.decide (i < 16) = false, (0 : Int) ≤ (↑i : Int) - (15 : Int), ((↑i : Int) - (15 : Int)).toNat < 80, ((↑i : Int) - (15 : Int)).toNat < 80, (0 : Int) ≤ (↑i : Int) - (2 : Int), ((↑i : Int) - (2 : Int)).toNat < 80, ((↑i : Int) - (2 : Int)).toNat < 80, (0 : Int) ≤ (↑i : Int) - (7 : Int), ((↑i : Int) - (7 : Int)).toNat < 80, ((↑i : Int) - (7 : Int)).toNat < 80, (0 : Int) ≤ (↑i : Int) - (16 : Int), ((↑i : Int) - (16 : Int)).toNat < 80, ((↑i : Int) - (16 : Int)).toNat < 80, i < 80, i < 80, i + 1 < 9223372036854775808]) (sc' := []) (by kernel_rfl) (by repeat' first | exact trivial | exact decide_eq_true (by omega) | exact decide_eq_false (by omega) | omega | (simp only [List.length_drop, List.length_take]; omega) | (simp only [decide_eq_true_eq, decide_eq_false_iff_not, List.length_drop, List.length_take]; omega) | refine ⟨?_, ?_⟩) ?_
      exact e
  · have e : i = 80 := by omega
    subst e
    refine hold_unroll (c := _) rfl ?_
    refine hold_cut mixed okM12a (unroll := false) (f := 300) (sc := [false]) (ks := [0,1,2,6,12,87]) (bs := [0,1,2]) (nx := 3) (st' := [It.lp [0, 1, 0, 1, 1, 1], It.blk 4, It.at [1, 1, 1, 1]]) (σ' := { nt := 183, slots := [(0, SV.ptr 0 0 (Ix.c 0)), (1, SV.sl .u64 kL), (2, SV.sl .u8 m), (6, SV.ptr 1 0 (Ix.c 0)), (12, SV.ptr 2 0 (Ix.c 0)), (87, SV.c .i64 (0 : Int))], blks := [(0, { ty := 78, segs := [SV.arr .u64 8 h] }), (1, { ty := 87, segs := [SV.arr .u64 80 (W64 m 80)] }), (2, { ty := 78, segs := [SV.arr .u64 8 h] })], next := 3, m := 1 }) (ob := [false = false]) (sc' := []) (by kernel_rfl) (by repeat' first | exact trivial | exact decide_eq_true (by omega) | exact decide_eq_false (by omega) | omega | (simp only [List.length_drop, List.length_take]; omega) | (simp only [decide_eq_true_eq, decide_eq_false_iff_not, List.length_drop, List.length_take]; omega) | refine ⟨?_, ?_⟩) ?_
    exact Hold.weaken (p64_R h m hr _ 0 rfl (by omega)) (by simp [wks, wk, wk0, lim, uR])
theorem round64_c (h m : List Nat) (hm : m.length = 128) : ContractM Try.prog 77 [b64 h] [.ptr 0 0 (.c 0), .sl .u64 kL, .sl .u8 m] ⟨.tup [], [b64 (A64 m h 8)], []⟩ := by
  refine contractM Try.func77 (body := bodyOf Try.f77) rfl (by kernel_rfl) (by kernel_rfl) rfl rfl ?_
  intro _ _ F S _
  refine hold_cut mixed okM12a (unroll := false) (f := 100) (sc := []) (ks := [0,1,2,6,19]) (bs := [0,1]) (nx := 2) (st' := [It.lp [0, 1, 0, 1], It.blk 0, It.at [1, 1]]) (σ' := { nt := 183, slots := [(0, SV.ptr 0 0 (Ix.c 0)), (1, SV.sl .u64 kL), (2, SV.sl .u8 m), (6, SV.ptr 1 0 (Ix.c 0)), (19, SV.c .i64 (0 : Int))], blks := [(0, { ty := 78, segs := [SV.arr .u64 8 h] }), (1, { ty := 87, segs := [SV.arr .u64 80 [0, 0, 0, 0, 0, 0, 0, 0, 0, 0, 0, 0, 0, 0, 0, 0, 0, 0, 0, 0, 0, 0, 0, 0, 0, 0, 0, 0, 0, 0, 0, 0, 0, 0, 0, 0, 0, 0, 0, 0, 0, 0, 0, 0, 0, 0, 0, 0, 0, 0, 0, 0, 0, 0, 0, 0, 0, 0, 0, 0, 0, 0, 0, 0, 0, 0, 0, 0, 0, 0, 0, 0, 0, 0, 0, 0, 0, 0, 0, 0]] })], next := 2, m := 1 }) (ob := []) (sc' := []) (by kernel_rfl) trivial ?_
  exact Hold.weaken (p64_W h m hm rfl _ 0 rfl (by omega)) (by simp [wks, wk, wk0, lim, uW])
end
section
variable {w0 : World} {S : Own} {res : SV}
theorem v64_A (h m : List Nat) (hr : res = .arr .u64 8 (A64 m h 8)) : ∀ d i, 8 - i = d → i ≤ 8 → Hold Try.prog (bodyOf Try.f78) (Fin Try.prog Try.f78 w0 S res) w0 S vA (xA (A64 m h i) (R64 m h 80) i) := by
  intro d
  induction d using Nat.strongRecOn with
  | _ d ih =>
  intro i hd hi
  by_cases hlt : i < 8
  · refine hold_unroll (c := _) rfl ?_
    refine hold_cut mixed okM12a (unroll := false) (f := 300) (sc := [true]) (ks := [2,4,11,162]) (bs := [0,1,4]) (nx := 5) (st' := [It.lp [0, 1, 0, 1, 1, 1, 1, 1, 1], It.blk 6, It.at [1, 1, 1, 1, 1, 1, 1]]) (σ' := { nt := 175, slots := [(2, SV.ptr 0 0 (Ix.c 0)), (4, SV.ptr 1 0 (Ix.c 0)), (11, SV.ptr 4 0 (Ix.c 0)), (162, SV.u .i64 (i + 1))], blks := [(0, { ty := 78, segs := [SV.arr .u64 8 ((A64 m h i).set i (((A64 m h i).getD i 0 + (R64 m h 80).getD i 0) % 18446744073709551616))] }), (1, { ty := 78, segs := [SV.arr .u64 8 [0, 0, 0, 0, 0, 0, 0, 0]] }), (4, { ty := 78, segs := [SV.arr .u64 8 (R64 m h 80)] })], next := 5 }) (ob := [Decidable.decide (i < 8) = true, i < 8, i < 8, i < 8, i < 8, i < 8, i < 8, i + 1 < 9223372036854775808]) (sc' := []) (by kernel_rfl) (by repeat' first | exact trivial | exact decide_eq_true (by omega) | exact decide_eq_false (by omega) | omega | (simp only [List.length_drop, List.length_take]; omega) | (simp only [decide_eq_true_eq, decide_eq_false_iff_not, List.length_drop, List.length_take]; omega) | refine ⟨?_, ?_⟩) ?_
    exact ih (8 - (i + 1)) (by omega) (i + 1) rfl (by omega)
  · have e : i = 8 := by omega
    subst e
    refine hold_unroll (c := _) rfl ?_
    refine hold_end mixed okM12a (unroll := false) (f := 300) (sc := [false]) (r := (SV.arr .u64 8 (A64 m h 8))) (ob := [false = false]) (sc' := []) (by kernel_rfl) (by repeat' first | exact trivial | exact decide_eq_true (by omega) | exact decide_eq_false (by omega) | omega | (simp only [List.length_drop, List.length_take]; omega) | (simp only [decide_eq_true_eq, decide_eq_false_iff_not, List.length_drop, List.length_take]; omega) | refine ⟨?_, ?_⟩) ?_
    exact hr.symm
theorem v64_R (h m : List Nat) (hr : res = .arr .u64 8 (A64 m h 8)) : ∀ d i, 80 - i = d → i ≤ 80 → Hold Try.prog (bodyOf Try.f78) (Fin Try.prog Try.f78 w0 S res) w0 S vR (xR h m (W64 m 80) (R64 m h i) i) := by
  intro d
  induction d using Nat.strongRecOn with
  | _ d ih =>
  intro i hd hi
  have hkl := kL_len
  by_cases hlt : i < 80
  · refine hold_unroll (c := _) rfl ?_
    refine hold_cut mixed okM12a (unroll := false) (f := 300) (sc := [true]) (ks := [1,2,4,5,6,11,82]) (bs := [0,1,2,3,4]) (nx := 5) (st' := [It.lp [0, 1, 0, 1, 1, 1, 1, 1], It.blk 4, It.at [1, 1, 1, 1, 1, 1]]) (σ' := { nt := 175, slots := [(1, SV.sl .u8 m), (2, SV.ptr 0 0 (Ix.c 0)), (4, SV.ptr 1 0 (Ix.c 0)), (5, SV.ptr 2 0 (Ix.c 0)), (6, SV.ptr 3 0 (Ix.c 0)), (11, SV.ptr 4 0 (Ix.c 0)), (82, SV.u .i64 (i + 1))], blks := [(0, { ty := 78, segs := [SV.arr .u64 8 h] }), (1, { ty := 78, segs := [SV.arr .u64 8 [0, 0, 0, 0, 0, 0, 0, 0]] }), (2, { ty := 87, segs := [SV.arr .u64 80 kL] }), (3, { ty := 87, segs := [SV.arr .u64 80 (W64 m 80)] }), (4, { ty := 78, segs := [SV.arr .u64 8 [((((((R64 m h i).getD 7 0 + (((R64 m h i).getD 4 0 * 1125899906842624 % 18446744073709551616 ||| (R64 m h i).getD 4 0 / 16384) ^^^ ((R64 m h i).getD 4 0 * 70368744177664 % 18446744073709551616 ||| (R64 m h i).getD 4 0 / 262144) ^^^ ((R64 m h i).getD 4 0 * 8388608 % 18446744073709551616 ||| (R64 m h i).getD 4 0 / 2199023255552))) % 18446744073709551616 + ((R64 m h i).getD 4 0 &&& (R64 m h i).getD 5 0 ^^^ 18446744073709551615 - (R64 m h i).getD 4 0 &&& (R64 m h i).getD 6 0)) % 18446744073709551616 + kL.getD i 0) % 18446744073709551616 + (W64 m 80).getD i 0) % 18446744073709551616 + ((((R64 m h i).getD 0 0 * 68719476736 % 18446744073709551616 ||| (R64 m h i).getD 0 0 / 268435456) ^^^ ((R64 m h i).getD 0 0 * 1073741824 % 18446744073709551616 ||| (R64 m h i).getD 0 0 / 17179869184) ^^^ ((R64 m h i).getD 0 0 * 33554432 % 18446744073709551616 ||| (R64 m h i).getD 0 0 / 549755813888)) + ((R64 m h i).getD 0 0 &&& (R64 m h i).getD 1 0 ^^^ (R64 m h i).getD 0 0 &&& (R64 m h i).getD 2 0 ^^^ (R64 m h i).getD 1 0 &&& (R64 m h i).getD 2 0)) % 18446744073709551616) % 18446744073709551616, (R64 m h i).getD 0 0, (R64 m h i).getD 1 0, (R64 m h i).getD 2 0, ((R64 m h i).getD 3 0 + (((((R64 m h i).getD 7 0 + (((R64 m h i).getD 4 0 * 1125899906842624 % 18446744073709551616 ||| (R64 m h i).getD 4 0 / 16384) ^^^ ((R64 m h i).getD 4 0 * 70368744177664 % 18446744073709551616 ||| (R64 m h i).getD 4 0 / 262144) ^^^ ((R64 m h i).getD 4 0 * 8388608 % 18446744073709551616 ||| (R64 m h i).getD 4 0 / 2199023255552))) % 18446744073709551616 + ((R64 m h i).getD 4 0 &&& (R64 m h i).getD 5 0 ^^^ 18446744073709551615 - (R64 m h i).getD 4 0 &&& (R64 m h i).getD 6 0)) % 18446744073709551616 + kL.getD i 0) % 18446744073709551616 + (W64 m 80).getD i 0) % 18446744073709551616) % 18446744073709551616, (R64 m h i).getD 4 0, (R64 m h i).getD 5 0, (R64 m h i).getD 6 0]] })], next := 5 }) (ob := [Decidable.decide (i < 80) = true, i < 80, i < 80, i < 80, i < 80, i + 1 < 9223372036854775808]) (sc' := []) (by kernel_rfl) (by repeat' first | exact trivial | exact decide_eq_true (by omega) | exact decide_eq_false (by omega) | omega | (simp only [List.length_drop, List.length_take]; omega) | (simp only [decide_eq_true_eq, decide_eq_false_iff_not, List.length_drop, List.length_take]; omega) | refine ⟨?_, ?_⟩) ?_
    exact ih (80 - (i + 1)) (by omega) (i + 1) rfl (by omega)
  · have e : i = 80 := by omega
    subst e
    refine hold_unroll (c := _) rfl ?_
    refine hold_cut mixed okM12a (unroll := false) (f := 300) (sc := [false]) (ks := [2,4,11,162]) (bs := [0,1,4]) (nx := 5) (st' := [It.lp [0, 1, 0, 1, 1, 1, 1, 1, 1], It.blk 6, It.at [1, 1, 1, 1, 1, 1, 1]]) (σ' := { nt := 175, slots := [(2, SV.ptr 0 0 (Ix.c 0)), (4, SV.ptr 1 0 (Ix.c 0)), (11, SV.ptr 4 0 (Ix.c 0)), (162, SV.c .i64 (0 : Int))], blks := [(0, { ty := 78, segs := [SV.arr .u64 8 h] }), (1, { ty := 78, segs := [SV.arr .u64 8 [0, 0, 0, 0, 0, 0, 0, 0]] }), (4, { ty := 78, segs := [SV.arr .u64 8 (R64 m h 80)] })], next := 5 }) (ob := [false = false]) (sc' := []) (by kernel_rfl) (by repeat' first | exact trivial | exact decide_eq_true (by omega) | exact decide_eq_false (by omega) | omega | (simp only [List.length_drop, List.length_take]; omega) | (simp only [decide_eq_true_eq, decide_eq_false_iff_not, List.length_drop, List.length_take]; omega) | refine ⟨?_, ?_⟩) ?_
    exact Hold.weaken (v64_A h m hr _ 0 rfl (by omega)) (by simp [wks, wk, wk0, lim, xA])
theorem v64_I (h m w : List Nat) (i : Nat) (hm : m.length = 128) (hi : i < 16) (hk : Hold Try.prog (bodyOf Try.f78) (Fin Try.prog Try.f78 w0 S res) w0 S vW (xW h m (I64 m i w 8) (i + 1))) : ∀ d j, 8 - j = d → j ≤ 8 → Hold Try.prog (bodyOf Try.f78) (Fin Try.prog Try.f78 w0 S res) w0 S vI (xI h m (I64 m i w j) i j) := by
  intro d
  induction d using Nat.strongRecOn with
  | _ d ih =>
  intro j hd hj
  by_cases hlt : j < 8
  · refine hold_unroll (c := _) rfl ?_
    refine hold_cut mixed okM12a (unroll := false) (f := 300) (sc := [true]) (ks := [1,2,4,5,6,7,19,24]) (bs := [0,1,2,3]) (nx := 4) (st' := [It.lp [0, 1, 0, 0, 1, 0, 1, 0, 0, 1, 1, 0, 0, 1, 0, 1, 1, 1], It.blk 2, It.at [1, 0, 1, 0, 1, 0, 0, 1, 1, 0, 0, 1, 0, 1, 1, 1], It.at [1, 1, 0, 0, 1, 1, 0, 0, 1, 0, 1, 1, 1], It.blk 1, It.at [1, 1, 1, 0, 0, 1, 0, 1, 1, 1], It.lp [0, 1, 0, 1, 1, 1], It.blk 0, It.at [1, 1, 1, 1]]) (σ' := { nt := 175, slots := [(1, SV.sl .u8 m), (2, SV.ptr 0 0 (Ix.c 0)), (4, SV.ptr 1 0 (Ix.c 0)), (5, SV.ptr 2 0 (Ix.c 0)), (6, SV.ptr 3 0 (Ix.c 0)), (7, SV.u .i64 i), (19, SV.u .i64 i), (24, SV.u .i64 (j + 1))], blks := [(0, { ty := 78, segs := [SV.arr .u64 8 h] }), (1, { ty := 78, segs := [SV.arr .u64 8 [0, 0, 0, 0, 0, 0, 0, 0]] }), (2, { ty := 87, segs := [SV.arr .u64 80 kL] }), (3, { ty := 87, segs := [SV.arr .u64 80 ((I64 m i w j).set i ((I64 m i w j).getD i 0 * 256 % 18446744073709551616 ||| m.getD (8 * i + j) 0))] })], next := 4 }) (ob := [Decidable.decide (j < 8) = true, i < 80, i < 80, 8 * i < 9223372036854775808, 8 * i + j < 9223372036854775808, 8 * i + j < m.length, i < 80, i < 80, j + 1 < 9223372036854775808]) (sc' := []) (by kernel_rfl) (by repeat' first | exact trivial | exact decide_eq_true (by omega) | exact decide_eq_false (by omega) | omega | (simp only [List.length_drop, List.length_take]; omega) | (simp only [decide_eq_true_eq, decide_eq_false_iff_not, List.length_drop, List.length_take]; omega) | refine ⟨?_, ?_⟩) ?_
    exact ih (8 - (j + 1)) (by omega) (j + 1) rfl (by omega)
  · have e : j = 8 := by omega
    subst e
    refine hold_unroll (c := _) rfl ?_
    refine hold_cut mixed okM12a (unroll := false) (f := 300) (sc := [false]) (ks := [1,2,4,5,6,19]) (bs := [0,1,2,3]) (nx := 4) (st' := [It.lp [0, 1, 0, 1, 1, 1], It.blk 0, It.at [1, 1, 1, 1]]) (σ' := { nt := 175, slots := [(1, SV.sl .u8 m), (2, SV.ptr 0 0 (Ix.c 0)), (4, SV.ptr 1 0 (Ix.c 0)), (5, SV.ptr 2 0 (Ix.c 0)), (6, SV.ptr 3 0 (Ix.c 0)), (19, SV.u .i64 (i + 1))], blks := [(0, { ty := 78, segs := [SV.arr .u64 8 h] }), (1, { ty := 78, segs := [SV.arr .u64 8 [0, 0, 0, 0, 0, 0, 0, 0]] }), (2, { ty := 87, segs := [SV.arr .u64 80 kL] }), (3, { ty := 87, segs := [SV.arr .u64 80 (I64 m i w 8)] })], next := 4 }) (ob := [false = false, i + 1 < 9223372036854775808]) (sc' := []) (by kernel_rfl) (by repeat' first | exact trivial | exact decide_eq_true (by omega) | exact decide_eq_false (by omega) | omega | (simp only [List.length_drop, List.length_take]; omega) | (simp only [decide_eq_true_eq, decide_eq_false_iff_not, List.length_drop, List.length_take]; omega) | refine ⟨?_, ?_⟩) ?_
    exact hk
theorem v64_W (h m : List Nat) (hm : m.length = 128) (hr : res = .arr .u64 8 (A64 m h 8)) : ∀ d i, 80 - i = d → i ≤ 80 → Hold Try.prog (bodyOf Try.f78) (Fin Try.prog Try.f78 w0 S res) w0 S vW (xW h m (W64 m i) i) := by
  intro d
  induction d using Nat.strongRecOn with
  | _ d ih =>
  intro i hd hi
  have hs : W64 m (i + 1) = if i < 16 then I64 m i (W64 m i) 8 else (W64 m i).set i (wB64 (W64 m i) i) := rfl
  by_cases hlt : i < 80
  · have e := ih (80 - (i + 1)) (by omega) (i + 1) rfl (by omega)
    refine hold_unroll (c := _) rfl ?_
    by_cases hl2 : i < 16
    · rw [hs, if_pos hl2] at e
      have hcl : (List.drop (8 * i) (List.take (8 * i + 8) m)).length = 8 := by rw [List.length_drop, List.length_take]; omega
      refine hold_cut mixed okM12a (unroll := false) (f := 300) (sc := [true, true]) (ks := [1,2,4,5,6,7,19,24]) (bs := [0,1,2,3]) (nx := 4) (st' := [It.lp [0, 1, 0, 0, 1, 0, 1, 0, 0, 1, 1, 0, 0, 1, 0, 1, 1, 1], It.blk 2, It.at [1, 0, 1, 0, 1, 0, 0, 1, 1, 0, 0, 1, 0, 1, 1, 1], It.at [1, 1, 0, 0, 1, 1, 0, 0, 1, 0, 1, 1, 1], It.blk 1, It.at [1, 1, 1, 0, 0, 1, 0, 1, 1, 1], It.lp [0, 1, 0, 1, 1, 1], It.blk 0, It.at [1, 1, 1, 1]]) (σ' := { nt := 175, slots := [(1, SV.sl .u8 m), (2, SV.ptr 0 0 (Ix.c 0)), (4, SV.ptr 1 0 (Ix.c 0)), (5, SV.ptr 2 0 (Ix.c 0)), (6, SV.ptr 3 0 (Ix.c 0)), (7, SV.u .i64 i), (19, SV.u .i64 i), (24, SV.c .i64 (0 : Int))], blks := [(0, { ty := 78, segs := [SV.arr .u64 8 h] }), (1, { ty := 78, segs := [SV.arr .u64 8 [0, 0, 0, 0, 0, 0, 0, 0]] }), (2, { ty := 87, segs := [SV.arr .u64 80 kL] }), (3, { ty := 87, segs := [SV.arr .u64 80 (W64 m i)] })], next := 4 }) (ob := [Decidable.decide (i < 80) = true, Decidable.decide (i < 16) = true]) (sc' := []) (by kernel_rfl) (by repeat' first | exact trivial | exact decide_eq_true (by omega) | exact decide_eq_false (by omega) | omega | (simp only [List.length_drop, List.length_take]; omega) | (simp only [decide_eq_true_eq, decide_eq_false_iff_not, List.length_drop, List.length_take]; omega) | refine ⟨?_, ?_⟩) ?_
      exact Hold.weaken (v64_I h m (W64 m i) i hm hl2 e _ 0 rfl (by omega)) (by simp [wks, wk, wk0, lim, xI]; try omega)
    · rw [hs, if_neg hl2] at e
      refine hold_cut mixed okM12a (unroll := false) (f := 300) (sc := [true, false]) (ks := [1,2,4,5,6,19]) (bs := [0,1,2,3]) (nx := 4) (st' := [It.lp [0, 1, 0, 1, 1, 1], It.blk 0, It.at [1, 1, 1, 1]]) (σ' := { nt := 175, slots := [(1, SV.sl .u8 m), (2, SV.ptr 0 0 (Ix.c 0)), (4, SV.ptr 1 0 (Ix.c 0)), (5, SV.ptr 2 0 (Ix.c 0)), (6, SV.ptr 3 0 (Ix.c 0)), (19, SV.u .i64 (i + 1))], blks := [(0, { ty := 78, segs := [SV.arr .u64 8 h] }), (1, { ty := 78, segs := [SV.arr .u64 8 [0, 0, 0, 0, 0, 0, 0, 0]] }), (2, { ty := 87, segs := [SV.arr .u64 80 kL] }), (3, { ty := 87, segs := [SV.arr .u64 80 ((W64 m i).set i (((((((W64 m i).getD ((↑i : Int) - (2 : Int)).toNat 0 * 35184372088832 % 18446744073709551616 ||| (W64 m i).getD ((↑i : Int) - (2 : Int)).toNat 0 / 524288) ^^^ ((W64 m i).getD ((↑i : Int) - (2 : Int)).toNat 0 * 8 % 18446744073709551616 ||| (W64 m i).getD ((↑i : Int) - (2 : Int)).toNat 0 / 2305843009213693952) ^^^ (W64 m i).getD ((↑i : Int) - (2 : Int)).toNat 0 / 64) + (W64 m i).getD ((↑i : Int) - (7 : Int)).toNat 0) % 18446744073709551616 + (((W64 m i).getD ((↑i : Int) - (15 : Int)).toNat 0 * 9223372036854775808 % 18446744073709551616 ||| (W64 m i).getD ((↑i : Int) - (15 : Int)).toNat 0 / 2) ^^^ ((W64 m i).getD ((↑i : Int) - (15 : Int)).toNat 0 * 72057594037927936 % 18446744073709551616 ||| (W64 m i).getD ((↑i : Int) - (15 : Int)).toNat 0 / 256) ^^^ (W64 m i).getD ((↑i : Int) - (15 : Int)).toNat 0 / 128)) % 18446744073709551616 + (W64 m i).getD ((↑i : Int) - (16 : Int)).toNat 0) % 18446744073709551616))] })], next := 4 }) (ob := [Decidable.decide (i < 80) = true, Decidable.decide (i < 16) = false, (0 : Int) ≤ (↑i : Int) - (15 : Int), ((↑i : Int) - (15 : Int)).toNat < 80, ((↑i : Int) - (15 : Int)).toNat < 80, (0 : Int) ≤ (↑i : Int) - (2 : Int), ((↑i : Int) - (2 : Int)).toNat < 80, ((↑i : Int) - (2 : Int)).toNat < 80, (0 : Int) ≤ (↑i : Int) - (7 : Int), ((↑i : Int) - (7 : Int)).toNat < 80, ((↑i : Int) - (7 : Int)).toNat < 80, (0 : Int) ≤ (↑i : Int) - (16 : Int), ((↑i : Int) - (16 : Int)).toNat < 80, ((↑i : Int) - (16 : Int)).toNat < 80, i < 80, i < 80, i + 1 < 9223372036854775808]) (sc' := []) (by kernel_rfl) (by repeat' first | exact trivial | exact decide_eq_true (by omega) | exact decide_eq_false (by omega) | omega | (simp only [List.length_drop, List.length_take]; omega) | (simp only [decide_eq_true_eq, decide_eq_false_iff_not, List.length_drop, List.length_take]; omega) | refine ⟨?_, ?_⟩) ?_
      exact e
  · have e : i = 80 := by omega
    subst e
    refine hold_unroll (c := _) rfl ?_
    refine hold_cut mixed okM12a (unroll := false) (f := 300) (sc := [false]) (ks := [1,2,4,5,6,11,82]) (bs := [0,1,2,3,4]) (nx := 5) (st' := [It.lp [0, 1, 0, 1, 1, 1, 1, 1], It.blk 4, It.at [1, 1, 1, 1, 1, 1]]) (σ' := { nt := 175, slots := [(1, SV.sl .u8 m), (2, SV.ptr 0 0 (Ix.c 0)), (4, SV.ptr 1 0 (Ix.c 0)), (5, SV.ptr 2 0 (Ix.c 0)), (6, SV.ptr 3 0 (Ix.c 0)), (11, SV.ptr 4 0 (Ix.c 0)), (82, SV.c .i64 (0 : Int))], blks := [(0, { ty := 78, segs := [SV.arr .u64 8 h] }), (1, { ty := 78, segs := [SV.arr .u64 8 [0, 0, 0, 0, 0, 0, 0, 0]] }), (2, { ty := 87, segs := [SV.arr .u64 80 kL] }), (3, { ty := 87, segs := [SV.arr .u64 80 (W64 m 80)] }), (4, { ty := 78, segs := [SV.arr .u64 8 h] })], next := 5 }) (ob := [false = false]) (sc' := []) (by kernel_rfl) (by repeat' first | exact trivial | exact decide_eq_true (by omega) | exact decide_eq_false (by omega) | omega | (simp only [List.length_drop, List.length_take]; omega) | (simp only [decide_eq_true_eq, decide_eq_false_iff_not, List.length_drop, List.length_take]; omega) | refine ⟨?_, ?_⟩) ?_
    exact Hold.weaken (v64_R h m hr _ 0 rfl (by omega)) (by simp [wks, wk, wk0, lim, xR])
theorem block512_c (h m : List Nat) (hm : m.length = 128) : Contract Try.prog 78 [.arr .u64 8 h, .sl .u8 m] (.arr .u64 8 (A64 m h 8)) := by
  refine contract Try.func78 (body := bodyOf Try.f78) rfl (by kernel_rfl) (by kernel_rfl) rfl ?_
  rintro _ w0 S
  refine hold_cut mixed okM12a (unroll := false) (f := 100) (sc := []) (ks := [1,2,4,5,6,19]) (bs := [0,1,2,3]) (nx := 4) (st' := [It.lp [0, 1, 0, 1, 1, 1], It.blk 0, It.at [1, 1, 1, 1]]) (σ' := { nt := 175, slots := [(1, SV.sl .u8 m), (2, SV.ptr 0 0 (Ix.c 0)), (4, SV.ptr 1 0 (Ix.c 0)), (5, SV.ptr 2 0 (Ix.c 0)), (6, SV.ptr 3 0 (Ix.c 0)), (19, SV.c .i64 (0 : Int))], blks := [(0, { ty := 78, segs := [SV.arr .u64 8 h] }), (1, { ty := 78, segs := [SV.arr .u64 8 [0, 0, 0, 0, 0, 0, 0, 0]] }), (2, { ty := 87, segs := [SV.arr .u64 80 kL] }), (3, { ty := 87, segs := [SV.arr .u64 80 [0, 0, 0, 0, 0, 0, 0, 0, 0, 0, 0, 0, 0, 0, 0, 0, 0, 0, 0, 0, 0, 0, 0, 0, 0, 0, 0, 0, 0, 0, 0, 0, 0, 0, 0, 0, 0, 0, 0, 0, 0, 0, 0, 0, 0, 0, 0, 0, 0, 0, 0, 0, 0, 0, 0, 0, 0, 0, 0, 0, 0, 0, 0, 0, 0, 0, 0, 0, 0, 0, 0, 0, 0, 0, 0, 0, 0, 0, 0, 0]] })], next := 4 }) (ob := []) (sc' := []) (by kernel_rfl) trivial ?_
  exact Hold.weaken (v64_W h m hm rfl _ 0 rfl (by omega)) (by simp [wks, wk, wk0, lim, xW])
end
end Go.Eng.B

namespace Go.Eng.B
open Go Go.Eng Go.Proofs
set_option maxRecDepth 100000
def eqL (a b : List Nat) : Bool := match a, b with
  | [], [] => true
  | x :: r, y :: q => Nat.beq x y && eqL r q
  | _, _ => false
noncomputable def eR64 (H : List Bk) (args : List SV) : Option (MRes × List Prop) :=
  match H, args with
  | [⟨78, [.arr .u64 8 h], false⟩], [.ptr 0 0 (.c 0), .sl .u64 k, .sl .u8 m] => some (⟨.tup [], [b64 (A64 m h 8)], []⟩, [k = kL, m.length = 128])
  | _, _ => none
def eB512 (args : List SV) : Option (SV × List Prop) :=
  match args with
  | [.arr .u64 8 h, .sl .u8 m] => some (.arr .u64 8 (A64 m h 8), [m.length = 128])
  | _ => none
noncomputable def M15a : Ctr := addM 77 eR64 (addC 78 eB512 M12a)
def cmp64 (m h : List Nat) (i : Nat) : List Nat := itr (fun h j => A64 (((m.drop (128 * j)).take 128).drop 0) h 8) h i
def out64 (h : List Nat) (i : Nat) : List Nat := itr (fun o j => beL (h.getD j 0) o) [] i
def sum64 (b : List Nat) : List Nat := out64 (cmp64 (pd 128 16 b) hL ((pd 128 16 b).length / 128)) 8
def y3 : List It := [.lp [0, 1, 0, 1, 1], .blk 0, .at [1, 1, 1]]
def z3 (m h : List Nat) : St := ⟨42, [(3, .sl .u64 kL), (4, .ptr 0 0 (.c 0)), (5, .sl .u8 m)], [(0, b64 h)], 1, 0⟩
def y4 : List It := [.at [0, 1, 0, 0, 1, 0, 1, 1, 1, 1], .at [1, 1, 0, 0, 1, 0, 1, 1, 1, 1], .lp [0, 1, 0, 1, 1, 1, 1], .blk 2, .at [1, 1, 1, 1, 1]]
def z4 (h : List Nat) (i : Nat) : St := ⟨42, [(6, .row 1 (.sl .u8 (out64 h i))), (25, .arr .u64 8 h), (26, .u .i64 i), (27, .b (decide (i < 8)))], [(1, bY)], 4, 0⟩
def y2 : List It := [.lp [0, 1, 0, 1, 1, 1], .blk 0, .at [1, 1, 1, 1]]
def z2 (m h : List Nat) (i : Nat) : St := ⟨45, [(3, .ptr 0 0 (.c 0)), (4, .sl .u8 m), (5, .u .i64 (128 * i))], [(0, b64 h)], 1, 0⟩
def y5 : List It := [.at [0, 1, 0, 0, 1, 0, 1, 1, 1, 1, 1], .at [1, 1, 0, 0, 1, 0, 1, 1, 1, 1, 1], .lp [0, 1, 0, 1, 1, 1, 1, 1], .blk 2, .at [1, 1, 1, 1, 1, 1]]
def z5 (h : List Nat) (i : Nat) : St := ⟨45, [(6, .row 1 (.sl .u8 (out64 h i))), (26, .arr .u64 8 h), (27, .u .i64 i), (28, .b (decide (i < 8)))], [(1, bY)], 4, 0⟩
def y4h : List It := [.lp [0, 1, 0, 1, 1, 1, 1], .blk 2, .at [1, 1, 1, 1, 1]]
def z4h (h : List Nat) : St := ⟨42, [(6, .row 1 (.sl .u8 [])), (25, .arr .u64 8 h), (26, .u .i64 0)], [(1, bY)], 4, 0⟩
def y5h : List It := [.lp [0, 1, 0, 1, 1, 1, 1, 1], .blk 2, .at [1, 1, 1, 1, 1, 1]]
def z5h (h : List Nat) : St := ⟨45, [(6, .row 1 (.sl .u8 [])), (26, .arr .u64 8 h), (27, .u .i64 0)], [(1, bY)], 4, 0⟩
theorem cR64 : ∀ H args r ob, eR64 H args = some (r, ob) → All ob → ContractM Try.prog 77 H args r := by
  intro H args r ob h hob
  unfold eR64 at h
  split at h
  · cases h
    have hk := hob.1
    subst hk
    exact round64_c _ _ hob.2.1
  · cases h
theorem cB512 : ∀ args res ob, eB512 args = some (res, ob) → All ob → Contract Try.prog 78 args res := by
  intro args res ob h hob
  unfold eB512 at h
  split at h
  · cases h; exact block512_c _ _ hob.1
  · cases h
theorem okM15a : CtrOk Try.prog M15a := addM_ok (addC_ok okM12a cB512) cR64
theorem out64_len (h : List Nat) : ∀ i, (out64 h i).length = 8 * i := by
  intro i
  induction i with
  | zero => rfl
  | succ i ih => show (beL _ (out64 h i)).length = _; simp only [beL, List.length_append, ih, List.length_cons, List.length_nil]; omega
theorem pd64_len (b : List Nat) : (pd 128 16 b).length = b.length + 1 + (zP 128 16 b.length + 8) + 8 := by
  simp [pd, beL, pdM_len]
theorem pd64_mul (b : List Nat) : (pd 128 16 b).length = 128 * ((pd 128 16 b).length / 128) := by
  rw [pd64_len]; unfold zP; omega
theorem cut_ref64 (m : List Nat) (i : Nat) : (m.take (128 * i + 128)).drop (128 * i) = ((m.drop (128 * i)).take 128).drop 0 := by
  rw [List.drop_zero, List.drop_take, Nat.add_sub_cancel_left]
section
variable {w0 : World} {S : Own} {res : SV}
theorem z512_4 (h : List Nat) (hr : res = .sl .u8 (out64 h 8)) : ∀ d i, 8 - i = d → i ≤ 8 →
    Hold Try.prog (bodyOf Try.f24) (Fin Try.prog Try.f24 w0 S res) w0 S y4 (z4 h i) := by
  intro d
  induction d using Nat.strongRecOn with
  | _ d ih =>
  intro i hd hi
  by_cases hlt : i < 8
  · have e := ih (8 - (i + 1)) (by omega) (i + 1) rfl (by omega)
    refine hold_cut mixed okM15a (unroll := true) (f := 600) (sc := [true]) (ks := [6,25,26,27]) (bs := [1]) (nx := 4) (st' := [It.at [0, 1, 0, 0, 1, 0, 1, 1, 1, 1], It.at [1, 1, 0, 0, 1, 0, 1, 1, 1, 1], It.lp [0, 1, 0, 1, 1, 1, 1], It.blk 2, It.at [1, 1, 1, 1, 1]]) (σ' := { nt := 42, slots := [(6, SV.row 1 (SV.sl .u8 (out64 h i ++ [h.getD i 0 / 72057594037927936 % 256] ++ [h.getD i 0 / 281474976710656 % 256] ++ [h.getD i 0 / 1099511627776 % 256] ++ [h.getD i 0 / 4294967296 % 256] ++ [h.getD i 0 / 16777216 % 256] ++ [h.getD i 0 / 65536 % 256] ++ [h.getD i 0 / 256 % 256] ++ [h.getD i 0 / 1 % 256]))), (25, SV.arr .u64 8 h), (26, SV.u .i64 (i + 1)), (27, SV.b (Decidable.decide (i + 1 < 8)))], blks := [(1, { ty := 5, segs := [], row := true })], next := 4 }) (ob := [Decidable.decide (i < 8) = true, i < 8, slenD (SV.sl .u8 (out64 h i ++ [h.getD i 0 / 72057594037927936 % 256])) * 1 ≤ 140737488355328, slenD (SV.sl .u8 (out64 h i ++ [h.getD i 0 / 72057594037927936 % 256] ++ [h.getD i 0 / 281474976710656 % 256])) * 1 ≤ 140737488355328, slenD (SV.sl .u8 (out64 h i ++ [h.getD i 0 / 72057594037927936 % 256] ++ [h.getD i 0 / 281474976710656 % 256] ++ [h.getD i 0 / 1099511627776 % 256])) * 1 ≤ 140737488355328, slenD (SV.sl .u8 (out64 h i ++ [h.getD i 0 / 72057594037927936 % 256] ++ [h.getD i 0 / 281474976710656 % 256] ++ [h.getD i 0 / 1099511627776 % 256] ++ [h.getD i 0 / 4294967296 % 256])) * 1 ≤ 140737488355328, slenD (SV.sl .u8 (out64 h i ++ [h.getD i 0 / 72057594037927936 % 256] ++ [h.getD i 0 / 281474976710656 % 256] ++ [h.getD i 0 / 1099511627776 % 256] ++ [h.getD i 0 / 4294967296 % 256] ++ [h.getD i 0 / 16777216 % 256])) * 1 ≤ 140737488355328, slenD (SV.sl .u8 (out64 h i ++ [h.getD i 0 / 72057594037927936 % 256] ++ [h.getD i 0 / 281474976710656 % 256] ++ [h.getD i 0 / 1099511627776 % 256] ++ [h.getD i 0 / 4294967296 % 256] ++ [h.getD i 0 / 16777216 % 256] ++ [h.getD i 0 / 65536 % 256])) * 1 ≤ 140737488355328, slenD (SV.sl .u8 (out64 h i ++ [h.getD i 0 / 72057594037927936 % 256] ++ [h.getD i 0 / 281474976710656 % 256] ++ [h.getD i 0 / 1099511627776 % 256] ++ [h.getD i 0 / 4294967296 % 256] ++ [h.getD i 0 / 16777216 % 256] ++ [h.getD i 0 / 65536 % 256] ++ [h.getD i 0 / 256 % 256])) * 1 ≤ 140737488355328, slenD (SV.sl .u8 (out64 h i ++ [h.getD i 0 / 72057594037927936 % 256] ++ [h.getD i 0 / 281474976710656 % 256] ++ [h.getD i 0 / 1099511627776 % 256] ++ [h.getD i 0 / 4294967296 % 256] ++ [h.getD i 0 / 16777216 % 256] ++ [h.getD i 0 / 65536 % 256] ++ [h.getD i 0 / 256 % 256] ++ [h.getD i 0 / 1 % 256])) * 1 ≤ 140737488355328, i + 1 < 9223372036854775808]) (sc' := []) (by kernel_rfl) (by repeat' first | exact trivial | exact decide_eq_true (by omega) | exact decide_eq_false (by omega) | exact Eq.refl kL | omega | (simp only [List.length_drop, List.length_take]; omega) | (simp only [decide_eq_true_eq, decide_eq_false_iff_not, List.length_drop, List.length_take]; omega) | (simp only [slenD, SV.slen, Option.getD_some, List.length_append, List.length_cons, List.length_nil, out64_len]; omega) | refine ⟨?_, ?_⟩) ?_
    exact e
  · have e : i = 8 := by omega
    subst e
    refine hold_end mixed okM15a (unroll := true) (f := 300) (sc := [false]) (r := (SV.sl .u8 (out64 h 8))) (ob := [false = false]) (sc' := []) (by kernel_rfl) (by repeat' first | exact trivial | exact decide_eq_true (by omega) | exact decide_eq_false (by omega) | exact Eq.refl kL | omega | (simp only [List.length_drop, List.length_take]; omega) | (simp only [decide_eq_true_eq, decide_eq_false_iff_not, List.length_drop, List.length_take]; omega) | (simp only [slenD, SV.slen, Option.getD_some, List.length_append, List.length_cons, List.length_nil, out64_len]; omega) | refine ⟨?_, ?_⟩) ?_
    exact hr.symm
theorem z512_h (h : List Nat) (hr : res = .sl .u8 (out64 h 8)) : Hold Try.prog (bodyOf Try.f24) (Fin Try.prog Try.f24 w0 S res) w0 S y4h (z4h h) := by
  refine hold_unroll (c := _) rfl ?_
  refine hold_cut mixed okM15a (unroll := true) (f := 300) (sc := []) (ks := [6,25,26,27]) (bs := [1]) (nx := 4) (st' := [It.at [0, 1, 0, 0, 1, 0, 1, 1, 1, 1], It.at [1, 1, 0, 0, 1, 0, 1, 1, 1, 1], It.lp [0, 1, 0, 1, 1, 1, 1], It.blk 2, It.at [1, 1, 1, 1, 1]]) (σ' := { nt := 42, slots := [(6, SV.row 1 (SV.sl .u8 [])), (25, SV.arr .u64 8 h), (26, SV.u .i64 0), (27, SV.b true)], blks := [(1, { ty := 5, segs := [], row := true })], next := 4 }) (ob := []) (sc' := []) (by kernel_rfl) trivial ?_
  exact z512_4 h hr _ 0 rfl (by omega)
theorem z512_3 (m h : List Nat) (n : Nat) (hn : m.length = 128 * n) (hr : res = .sl .u8 (out64 (cmp64 m h n) 8)) : ∀ d i, n - i = d → i ≤ n →
    Hold Try.prog (bodyOf Try.f24) (Fin Try.prog Try.f24 w0 S res) w0 S y3 (z3 (m.drop (128 * i)) (cmp64 m h i)) := by
  intro d
  induction d using Nat.strongRecOn with
  | _ d ih =>
  intro i hd hi
  by_cases hlt : i < n
  · have e := ih (n - (i + 1)) (by omega) (i + 1) rfl (by omega)
    refine hold_unroll (c := _) rfl ?_
    refine hold_cut mixed okM15a (unroll := false) (f := 300) (sc := [true]) (ks := [3,4,5]) (bs := [0]) (nx := 1) (st' := [It.lp [0, 1, 0, 1, 1], It.blk 0, It.at [1, 1, 1]]) (σ' := { nt := 42, slots := [(3, SV.sl .u64 kL), (4, SV.ptr 0 0 (Ix.c 0)), (5, SV.sl .u8 (List.drop 128 (List.take (List.drop (128 * i) m).length (List.drop (128 * i) m))))], blks := [(0, { ty := 78, segs := [SV.arr .u64 8 (A64 (List.drop 0 (List.take 128 (List.drop (128 * i) m))) (cmp64 m h i) 8)] })], next := 1 }) (ob := [Decidable.decide (0 < (List.drop (128 * i) m).length) = true, 0 ≤ 128, 128 ≤ (List.drop (128 * i) m).length, kL = kL, (List.drop 0 (List.take 128 (List.drop (128 * i) m))).length = 128, 128 ≤ (List.drop (128 * i) m).length, (List.drop (128 * i) m).length ≤ (List.drop (128 * i) m).length]) (sc' := []) (by kernel_rfl) (by repeat' first | exact trivial | exact decide_eq_true (by omega) | exact decide_eq_false (by omega) | exact Eq.refl kL | omega | (simp only [List.length_drop, List.length_take]; omega) | (simp only [decide_eq_true_eq, decide_eq_false_iff_not, List.length_drop, List.length_take]; omega) | (simp only [slenD, SV.slen, Option.getD_some, List.length_append, List.length_cons, List.length_nil, out64_len]; omega) | refine ⟨?_, ?_⟩) ?_
    rw [List.take_of_length_le (Nat.le_refl _), List.drop_drop, show 128 * i + 128 = 128 * (i + 1) by omega]
    exact e
  · have e : i = n := by omega
    subst e
    refine hold_unroll (c := _) rfl ?_
    refine hold_cut mixed okM15a (unroll := false) (f := 300) (sc := [false]) (ks := [6,25,26]) (bs := []) (nx := 1) (st' := [It.lp [0, 1, 0, 1, 1, 1, 1], It.blk 2, It.at [1, 1, 1, 1, 1]]) (σ' := { nt := 42, slots := [(6, SV.nil), (25, SV.arr .u64 8 (cmp64 m h i)), (26, SV.c .i64 (0 : Int))], blks := [], next := 1 }) (ob := [Decidable.decide (0 < (List.drop (128 * i) m).length) = false]) (sc' := []) (by kernel_rfl) (by repeat' first | exact trivial | exact decide_eq_true (by omega) | exact decide_eq_false (by omega) | exact Eq.refl kL | omega | (simp only [List.length_drop, List.length_take]; omega) | (simp only [decide_eq_true_eq, decide_eq_false_iff_not, List.length_drop, List.length_take]; omega) | (simp only [slenD, SV.slen, Option.getD_some, List.length_append, List.length_cons, List.length_nil, out64_len]; omega) | refine ⟨?_, ?_⟩) ?_
    refine hold_nil (t := 6) (e := 5) (s0 := .sl .u8 []) rfl ?_
    refine hold_restrict (ks := [6,25,26]) (bs := [1]) (nx := 4) rfl ?_
    exact Hold.weaken (z512_h _ hr) (by simp [wks, wk, wk0, lim, z4h])
theorem sum512_c (b : List Nat) (hb : b.length ≤ 1000000) : Contract Try.prog 24 [.sl .u8 b] (.sl .u8 (sum64 b)) := by
  refine contract Try.func24 (body := bodyOf Try.f24) rfl (by kernel_rfl) (by kernel_rfl) rfl ?_
  rintro _ w0 S
  refine hold_cut mixed okM15a (unroll := false) (f := 100) (sc := []) (ks := [3,4,5]) (bs := [0]) (nx := 1) (st' := [It.lp [0, 1, 0, 1, 1], It.blk 0, It.at [1, 1, 1]]) (σ' := { nt := 42, slots := [(3, SV.sl .u64 kL), (4, SV.ptr 0 0 (Ix.c 0)), (5, SV.sl .u8 (pd 128 16 b))], blks := [(0, { ty := 78, segs := [SV.arr .u64 8 hL] })], next := 1 }) (ob := [b.length ≤ 1000000]) (sc' := []) (by kernel_rfl) (by repeat' first | exact trivial | exact decide_eq_true (by omega) | exact decide_eq_false (by omega) | exact Eq.refl kL | omega | (simp only [List.length_drop, List.length_take]; omega) | (simp only [decide_eq_true_eq, decide_eq_false_iff_not, List.length_drop, List.length_take]; omega) | (simp only [slenD, SV.slen, Option.getD_some, List.length_append, List.length_cons, List.length_nil, out64_len]; omega) | refine ⟨?_, ?_⟩) ?_
  exact z512_3 (pd 128 16 b) hL _ (pd64_mul b) rfl _ 0 rfl (by omega)
theorem w512_4 (h : List Nat) (hr : res = .sl .u8 (out64 h 8)) : ∀ d i, 8 - i = d → i ≤ 8 →
    Hold Try.prog (bodyOf Try.f25) (Fin Try.prog Try.f25 w0 S res) w0 S y5 (z5 h i) := by
  intro d
  induction d using Nat.strongRecOn with
  | _ d ih =>
  intro i hd hi
  by_cases hlt : i < 8
  · have e := ih (8 - (i + 1)) (by omega) (i + 1) rfl (by omega)
    refine hold_cut mixed okM15a (unroll := true) (f := 600) (sc := [true]) (ks := [6,26,27,28]) (bs := [1]) (nx := 4) (st' := [It.at [0, 1, 0, 0, 1, 0, 1, 1, 1, 1, 1], It.at [1, 1, 0, 0, 1, 0, 1, 1, 1, 1, 1], It.lp [0, 1, 0, 1, 1, 1, 1, 1], It.blk 2, It.at [1, 1, 1, 1, 1, 1]]) (σ' := { nt := 45, slots := [(6, SV.row 1 (SV.sl .u8 (out64 h i ++ [h.getD i 0 / 72057594037927936 % 256] ++ [h.getD i 0 / 281474976710656 % 256] ++ [h.getD i 0 / 1099511627776 % 256] ++ [h.getD i 0 / 4294967296 % 256] ++ [h.getD i 0 / 16777216 % 256] ++ [h.getD i 0 / 65536 % 256] ++ [h.getD i 0 / 256 % 256] ++ [h.getD i 0 / 1 % 256]))), (26, SV.arr .u64 8 h), (27, SV.u .i64 (i + 1)), (28, SV.b (Decidable.decide (i + 1 < 8)))], blks := [(1, { ty := 5, segs := [], row := true })], next := 4 }) (ob := [Decidable.decide (i < 8) = true, i < 8, slenD (SV.sl .u8 (out64 h i ++ [h.getD i 0 / 72057594037927936 % 256])) * 1 ≤ 140737488355328, slenD (SV.sl .u8 (out64 h i ++ [h.getD i 0 / 72057594037927936 % 256] ++ [h.getD i 0 / 281474976710656 % 256])) * 1 ≤ 140737488355328, slenD (SV.sl .u8 (out64 h i ++ [h.getD i 0 / 72057594037927936 % 256] ++ [h.getD i 0 / 281474976710656 % 256] ++ [h.getD i 0 / 1099511627776 % 256])) * 1 ≤ 140737488355328, slenD (SV.sl .u8 (out64 h i ++ [h.getD i 0 / 72057594037927936 % 256] ++ [h.getD i 0 / 281474976710656 % 256] ++ [h.getD i 0 / 1099511627776 % 256] ++ [h.getD i 0 / 4294967296 % 256])) * 1 ≤ 140737488355328, slenD (SV.sl .u8 (out64 h i ++ [h.getD i 0 / 72057594037927936 % 256] ++ [h.getD i 0 / 281474976710656 % 256] ++ [h.getD i 0 / 1099511627776 % 256] ++ [h.getD i 0 / 4294967296 % 256] ++ [h.getD i 0 / 16777216 % 256])) * 1 ≤ 140737488355328, slenD (SV.sl .u8 (out64 h i ++ [h.getD i 0 / 72057594037927936 % 256] ++ [h.getD i 0 / 281474976710656 % 256] ++ [h.getD i 0 / 1099511627776 % 256] ++ [h.getD i 0 / 4294967296 % 256] ++ [h.getD i 0 / 16777216 % 256] ++ [h.getD i 0 / 65536 % 256])) * 1 ≤ 140737488355328, slenD (SV.sl .u8 (out64 h i ++ [h.getD i 0 / 72057594037927936 % 256] ++ [h.getD i 0 / 281474976710656 % 256] ++ [h.getD i 0 / 1099511627776 % 256] ++ [h.getD i 0 / 4294967296 % 256] ++ [h.getD i 0 / 16777216 % 256] ++ [h.getD i 0 / 65536 % 256] ++ [h.getD i 0 / 256 % 256])) * 1 ≤ 140737488355328, slenD (SV.sl .u8 (out64 h i ++ [h.getD i 0 / 72057594037927936 % 256] ++ [h.getD i 0 / 281474976710656 % 256] ++ [h.getD i 0 / 1099511627776 % 256] ++ [h.getD i 0 / 4294967296 % 256] ++ [h.getD i 0 / 16777216 % 256] ++ [h.getD i 0 / 65536 % 256] ++ [h.getD i 0 / 256 % 256] ++ [h.getD i 0 / 1 % 256])) * 1 ≤ 140737488355328, i + 1 < 9223372036854775808]) (sc' := []) (by kernel_rfl) (by repeat' first | exact trivial | exact decide_eq_true (by omega) | exact decide_eq_false (by omega) | exact Eq.refl kL | omega | (simp only [List.length_drop, List.length_take]; omega) | (simp only [decide_eq_true_eq, decide_eq_false_iff_not, List.length_drop, List.length_take]; omega) | (simp only [slenD, SV.slen, Option.getD_some, List.length_append, List.length_cons, List.length_nil, out64_len]; omega) | refine ⟨?_, ?_⟩) ?_
    exact e
  · have e : i = 8 := by omega
    subst e
    refine hold_end mixed okM15a (unroll := true) (f := 300) (sc := [false]) (r := (SV.sl .u8 (out64 h 8))) (ob := [false = false]) (sc' := []) (by kernel_rfl) (by repeat' first | exact trivial | exact decide_eq_true (by omega) | exact decide_eq_false (by omega) | exact Eq.refl kL | omega | (simp only [List.length_drop, List.length_take]; omega) | (simp only [decide_eq_true_eq, decide_eq_false_iff_not, List.length_drop, List.length_take]; omega) | (simp only [slenD, SV.slen, Option.getD_some, List.length_append, List.length_cons, List.length_nil, out64_len]; omega) | refine ⟨?_, ?_⟩) ?_
    exact hr.symm
theorem w512_h (h : List Nat) (hr : res = .sl .u8 (out64 h 8)) : Hold Try.prog (bodyOf Try.f25) (Fin Try.prog Try.f25 w0 S res) w0 S y5h (z5h h) := by
  refine hold_unroll (c := _) rfl ?_
  refine hold_cut mixed okM15a (unroll := true) (f := 300) (sc := []) (ks := [6,26,27,28]) (bs := [1]) (nx := 4) (st' := [It.at [0, 1, 0, 0, 1, 0, 1, 1, 1, 1, 1], It.at [1, 1, 0, 0, 1, 0, 1, 1, 1, 1, 1], It.lp [0, 1, 0, 1, 1, 1, 1, 1], It.blk 2, It.at [1, 1, 1, 1, 1, 1]]) (σ' := { nt := 45, slots := [(6, SV.row 1 (SV.sl .u8 [])), (26, SV.arr .u64 8 h), (27, SV.u .i64 0), (28, SV.b true)], blks := [(1, { ty := 5, segs := [], row := true })], next := 4 }) (ob := []) (sc' := []) (by kernel_rfl) trivial ?_
  exact w512_4 h hr _ 0 rfl (by omega)
theorem w512_2 (m h : List Nat) (n : Nat) (hn : m.length = 128 * n) (hn2 : n < 100000) (hr : res = .sl .u8 (out64 (cmp64 m h n) 8)) : ∀ d i, n - i = d → i ≤ n →
    Hold Try.prog (bodyOf Try.f25) (Fin Try.prog Try.f25 w0 S res) w0 S y2 (z2 m (cmp64 m h i) i) := by
  intro d
  induction d using Nat.strongRecOn with
  | _ d ih =>
  intro i hd hi
  by_cases hlt : i < n
  · have e := ih (n - (i + 1)) (by omega) (i + 1) rfl (by omega)
    refine hold_unroll (c := _) rfl ?_
    refine hold_cut mixed okM15a (unroll := false) (f := 300) (sc := [true]) (ks := [3,4,5]) (bs := [0]) (nx := 1) (st' := [It.lp [0, 1, 0, 1, 1, 1], It.blk 0, It.at [1, 1, 1, 1]]) (σ' := { nt := 45, slots := [(3, SV.ptr 0 0 (Ix.c 0)), (4, SV.sl .u8 m), (5, SV.u .i64 (128 * i + 128))], blks := [(0, { ty := 78, segs := [SV.arr .u64 8 (A64 (List.drop (128 * i) (List.take (128 * i + 128) m)) (cmp64 m h i) 8)] })], next := 1 }) (ob := [Decidable.decide (128 * i < m.length) = true, 128 * i + 128 < 9223372036854775808, 128 * i ≤ 128 * i + 128, 128 * i + 128 ≤ m.length, (List.drop (128 * i) (List.take (128 * i + 128) m)).length = 128, 128 * i + 128 < 9223372036854775808]) (sc' := []) (by kernel_rfl) (by repeat' first | exact trivial | exact decide_eq_true (by omega) | exact decide_eq_false (by omega) | exact Eq.refl kL | omega | (simp only [List.length_drop, List.length_take]; omega) | (simp only [decide_eq_true_eq, decide_eq_false_iff_not, List.length_drop, List.length_take]; omega) | (simp only [slenD, SV.slen, Option.getD_some, List.length_append, List.length_cons, List.length_nil, out64_len]; omega) | refine ⟨?_, ?_⟩) ?_
    rw [cut_ref64]
    exact e
  · have e : i = n := by omega
    subst e
    refine hold_unroll (c := _) rfl ?_
    refine hold_cut mixed okM15a (unroll := false) (f := 300) (sc := [false]) (ks := [6,26,27]) (bs := []) (nx := 1) (st' := [It.lp [0, 1, 0, 1, 1, 1, 1, 1], It.blk 2, It.at [1, 1, 1, 1, 1, 1]]) (σ' := { nt := 45, slots := [(6, SV.nil), (26, SV.arr .u64 8 (cmp64 m h i)), (27, SV.c .i64 (0 : Int))], blks := [], next := 1 }) (ob := [Decidable.decide (128 * i < m.length) = false]) (sc' := []) (by kernel_rfl) (by repeat' first | exact trivial | exact decide_eq_true (by omega) | exact decide_eq_false (by omega) | exact Eq.refl kL | omega | (simp only [List.length_drop, List.length_take]; omega) | (simp only [decide_eq_true_eq, decide_eq_false_iff_not, List.length_drop, List.length_take]; omega) | (simp only [slenD, SV.slen, Option.getD_some, List.length_append, List.length_cons, List.length_nil, out64_len]; omega) | refine ⟨?_, ?_⟩) ?_
    refine hold_nil (t := 6) (e := 5) (s0 := .sl .u8 []) rfl ?_
    refine hold_restrict (ks := [6,26,27]) (bs := [1]) (nx := 4) rfl ?_
    exact Hold.weaken (w512_h _ hr) (by simp [wks, wk, wk0, lim, z5h])
theorem qsum512_c (b : List Nat) (hb : b.length ≤ 1000000) : Contract Try.prog 25 [.sl .u8 b] (.sl .u8 (sum64 b)) := by
  refine contract Try.func25 (body := bodyOf Try.f25) rfl (by kernel_rfl) (by kernel_rfl) rfl ?_
  rintro _ w0 S
  have hl := pd64_len b
  have hz : zP 128 16 b.length < 128 := Nat.mod_lt _ (by decide)
  refine hold_cut mixed okM15a (unroll := false) (f := 100) (sc := []) (ks := [3,4,5]) (bs := [0]) (nx := 1) (st' := [It.lp [0, 1, 0, 1, 1, 1], It.blk 0, It.at [1, 1, 1, 1]]) (σ' := { nt := 45, slots := [(3, SV.ptr 0 0 (Ix.c 0)), (4, SV.sl .u8 (pd 128 16 b)), (5, SV.c .i64 (0 : Int))], blks := [(0, { ty := 78, segs := [SV.arr .u64 8 hL] })], next := 1 }) (ob := [b.length ≤ 1000000]) (sc' := []) (by kernel_rfl) (by repeat' first | exact trivial | exact decide_eq_true (by omega) | exact decide_eq_false (by omega) | exact Eq.refl kL | omega | (simp only [List.length_drop, List.length_take]; omega) | (simp only [decide_eq_true_eq, decide_eq_false_iff_not, List.length_drop, List.length_take]; omega) | (simp only [slenD, SV.slen, Option.getD_some, List.length_append, List.length_cons, List.length_nil, out64_len]; omega) | refine ⟨?_, ?_⟩) ?_
  exact Hold.weaken (w512_2 (pd 128 16 b) hL _ (pd64_mul b) (by omega) rfl _ 0 rfl (by omega)) (by simp [wks, wk, wk0, lim, z2])
end
end Go.Eng.B

