import Derived.Test.YthaabhoopofnhaaGreatE6
set_option linter.unusedVariables false
set_option linter.unusedSimpArgs false
set_option linter.unusedSectionVars false
namespace Go.Eng.B
open Go Go.Eng Go.Proofs
set_option maxRecDepth 100000
set_option maxHeartbeats 1000000
def b118 (m : List Nat) : Bk := ⟨118, [.arr .u8 4 m], false⟩
def bCi (s f a0 a1 a2 a3 a4 a5 a6 a7 a8 a9 a10 : List Nat) : Bk := ⟨98, [.arr .u8 256 s, .arr .u8 256 f, .arr .u8 16 a0, .arr .u8 16 a1, .arr .u8 16 a2, .arr .u8 16 a3, .arr .u8 16 a4, .arr .u8 16 a5, .arr .u8 16 a6, .arr .u8 16 a7, .arr .u8 16 a8, .arr .u8 16 a9, .arr .u8 16 a10], false⟩
def shJ (i : Nat) : Nat := i % 4 + 4 * ((i / 4 + 1 * (i % 4)) % 4)
def shI (s o : List Nat) : Nat → List Nat
  | 0 => o
  | i + 1 => (shI s o i).set i (s.getD (o.getD (shJ i) 0) 0)
def mxK (o m x : List Nat) (i : Nat) : Nat → List Nat
  | 0 => x.set i 0
  | j + 1 => (mxK o m x i j).set i ((mxK o m x i j).getD i 0 ^^^ mul8 (o.getD (4 * (i / 4) + (i % 4 + j) % 4) 0) (m.getD j 0))
def mxI (m o : List Nat) : Nat → List Nat
  | 0 => o
  | i + 1 => mxK o m (mxI m o i) i 4
def stSh : List It := [.lp [0, 1, 1], .blk 0]
def sSh (x o s : List Nat) (i : Nat) : St := ⟨40, [(0, .ptr 0 0 (.c 0)), (1, .rp (.arr .u8 256 s)), (2, .c .i64 1), (6, .ptr 1 0 (.c 0)), (13, .u .i64 i)], [(0, b95 x), (1, b95 o)], 2, 1⟩
def stMx : List It := [.lp [0, 1, 1, 1], .blk 0]
def sMx (x o m : List Nat) (i : Nat) : St := ⟨49, [(0, .ptr 0 0 (.c 0)), (3, .ptr 1 0 (.c 0)), (4, .ptr 2 0 (.c 0)), (12, .u .i64 i)], [(0, b95 x), (1, b118 m), (2, b95 o)], 3, 1⟩
def stMy : List It := [.lp [0, 1, 1, 1, 1, 0, 0, 1, 1, 0, 0, 1, 1, 1], .blk 2, .blk 1, .at [1, 1, 1, 0, 0, 1, 1, 1], .lp [0, 1, 1, 1], .blk 0]
def sMy (x o m : List Nat) (i j : Nat) : St := ⟨49, [(0, .ptr 0 0 (.c 0)), (3, .ptr 1 0 (.c 0)), (4, .ptr 2 0 (.c 0)), (5, .u .i64 i), (6, .u .i64 (i % 4)), (7, .u .i64 (i / 4)), (12, .u .i64 i), (23, .u .i64 j)], [(0, b95 x), (1, b118 m), (2, b95 o)], 3, 1⟩
def A5a : Ctr := addC 109 eMu8 ctr0
def eSh (H : List Bk) (args : List SV) : Option (MRes × List Prop) := match H, args with
  | [⟨ty, [.arr .u8 16 x], false⟩], [.ptr 0 0 (.c 0), .rp (.arr .u8 256 s), .c .i64 n] => if ty = 95 ∧ n = 1 then some (⟨.tup [], [b95 (shI s x 16)], []⟩, []) else none
  | _, _ => none
def eMx (H : List Bk) (args : List SV) : Option (MRes × List Prop) := match H, args with
  | [⟨ty, [.arr .u8 16 x], false⟩], [.ptr 0 0 (.c 0), .arr .u8 4 m] => if ty = 95 then some (⟨.tup [], [b95 (mxI m x 16)], []⟩, []) else none
  | _, _ => none
theorem okA5a : CtrOk Tryz.prog A5a := addC_ok ctr0_ok pr_ok
section
variable {F : Fr} {S : Own} {res : MRes}
theorem sh_l (o s : List Nat) (hr : res = ⟨.tup [], [b95 (shI s o 16)], []⟩) : ∀ d i, 16 - i = d → i ≤ 16 → Hold Tryz.prog (bodyOf Tryz.f99) (FinM Tryz.prog Tryz.f99 F S res) F S stSh (sSh (shI s o i) o s i) := by
  intro d
  induction d using Nat.strongRecOn with
  | _ d ih =>
  intro i hd hi
  refine hold_ltB (id := 1) (bk := b95 o) (k := .u8) (n := 16) (l := o) (by simp [sSh]) rfl (by simp [b95]) fun _ ho => ?_
  refine hold_unroll (c := _) rfl ?_
  by_cases hlt : i < 16
  · have e := ih (16 - (i + 1)) (by omega) (i + 1) rfl (by omega)
    rw [show shI s o (i + 1) = (shI s o i).set i (s.getD (o.getD (shJ i) 0) 0) from rfl] at e
    have g1 : o.getD (shJ i) 0 < 256 := getD_lt ho (by decide) (shJ i)
    generalize shI s o i = x at e ⊢
    refine hwC mixed ctr0_ok 100 [true] [0, 1, 2, 6, 13] [0, 1] 2 [.lp [0, 1, 1], .blk 0] ⟨40, [(0, .ptr 0 0 (.c 0)), (1, (.rp (.arr .u8 256 s))), (2, .c .i64 1), (6, .ptr 1 0 (.c 0)), (13, .u .i64 (i + 1))], [(0, ⟨95, [.arr .u8 16 (x.set i (s.getD (o.getD (i % 4 + 4 * ((i / 4 + 1 * (i % 4)) % 4)) 0) 0))], false⟩), (1, ⟨95, [.arr .u8 16 o], false⟩)], 2, 1⟩ [Decidable.decide (i < 16) = true, 1 * (i % 4) < 9223372036854775808, i / 4 + 1 * (i % 4) < 9223372036854775808, 4 * ((i / 4 + 1 * (i % 4)) % 4) < 9223372036854775808, i % 4 + 4 * ((i / 4 + 1 * (i % 4)) % 4) < 9223372036854775808, i % 4 + 4 * ((i / 4 + 1 * (i % 4)) % 4) < 16, i % 4 + 4 * ((i / 4 + 1 * (i % 4)) % 4) < 16, o.getD (i % 4 + 4 * ((i / 4 + 1 * (i % 4)) % 4)) 0 < 256, i < 16, i < 16, i + 1 < 9223372036854775808] (by kernel_rfl) (by repeat' first | exact trivial | exact decide_eq_true (by omega) | exact g1 | omega | refine ⟨?_, ?_⟩) ?_
    exact e
  · have e : i = 16 := by omega
    subst e
    generalize shI s o 16 = x at hr ⊢
    refine hold_endMw mixed ctr0_ok (news := []) (unroll := false) (f := 100) (sc := [false]) (r := { res := .tup [], upd := [⟨95, [.arr .u8 16 x], false⟩] }) (ob := [false = false]) (sc' := []) (by kernel_rfl) (by repeat' first | exact trivial | exact decide_eq_false (by omega) | omega | refine ⟨?_, ?_⟩) ?_
    exact wkM_of hr.symm
theorem sh_m (o s : List Nat) : ContractM Tryz.prog 99 [b95 o] [.ptr 0 0 (.c 0), .rp (.arr .u8 256 s), .c .i64 1] ⟨.tup [], [b95 (shI s o 16)], []⟩ := by
  refine contractM Tryz.func99 (body := bodyOf Tryz.f99) rfl (by kernel_rfl) (by kernel_rfl) rfl rfl ?_
  intro _ _ F S hF
  refine hwC mixed ctr0_ok 100 [] [0, 1, 2, 6, 13] [0, 1] 2 [.lp [0, 1, 1], .blk 0] ⟨40, [(0, .ptr 0 0 (.c 0)), (1, (.rp (.arr .u8 256 s))), (2, .c .i64 1), (6, .ptr 1 0 (.c 0)), (13, .c .i64 0)], [(0, ⟨95, [.arr .u8 16 o], false⟩), (1, ⟨95, [.arr .u8 16 o], false⟩)], 2, 1⟩ [] (by kernel_rfl) (by repeat' first | exact trivial | omega | refine ⟨?_, ?_⟩) ?_
  exact Hold.weaken (sh_l o s rfl _ 0 rfl (by omega)) (by simp [wks, wk, wk0, wkB, wka, wkl, sSh, b95, lim, shI])
theorem sh_ok : ∀ H args r ob, eSh H args = some (r, ob) → All ob → ContractM Tryz.prog 99 H args r := by
  intro H args r ob he hob
  unfold eSh at he
  split at he
  · split at he
    · rename_i h
      obtain ⟨h1, h2⟩ := h
      cases he
      rw [h1, h2]
      exact sh_m _ _
    · cases he
  · cases he
theorem mx_k (o m x : List Nat) (i : Nat) (hi : i < 16) (hk : Hold Tryz.prog (bodyOf Tryz.f100) (FinM Tryz.prog Tryz.f100 F S res) F S stMx (sMx (mxK o m x i 4) o m (i + 1))) : ∀ d j, 4 - j = d → j ≤ 4 → Hold Tryz.prog (bodyOf Tryz.f100) (FinM Tryz.prog Tryz.f100 F S res) F S stMy (sMy (mxK o m x i j) o m i j) := by
  intro d
  induction d using Nat.strongRecOn with
  | _ d ih =>
  intro j hd hj
  refine hold_unroll (c := _) rfl ?_
  by_cases hlt : j < 4
  · have e := ih (4 - (j + 1)) (by omega) (j + 1) rfl (by omega)
    rw [show mxK o m x i (j + 1) = (mxK o m x i j).set i ((mxK o m x i j).getD i 0 ^^^ mul8 (o.getD (4 * (i / 4) + (i % 4 + j) % 4) 0) (m.getD j 0)) from rfl] at e
    generalize mxK o m x i j = x at e ⊢
    refine hwC mixed okA5a 100 [true] [0, 3, 4, 5, 6, 7, 12, 23] [0, 1, 2] 3 [.lp [0, 1, 1, 1, 1, 0, 0, 1, 1, 0, 0, 1, 1, 1], .blk 2, .blk 1, .at [1, 1, 1, 0, 0, 1, 1, 1], .lp [0, 1, 1, 1], .blk 0] ⟨49, [(0, .ptr 0 0 (.c 0)), (3, .ptr 1 0 (.c 0)), (4, .ptr 2 0 (.c 0)), (5, .u .i64 i), (6, .u .i64 (i % 4)), (7, .u .i64 (i / 4)), (12, .u .i64 i), (23, .u .i64 (j + 1))], [(0, ⟨95, [.arr .u8 16 (x.set i (x.getD i 0 ^^^ mul8 (o.getD (4 * (i / 4) + (i % 4 + j) % 4) 0) (m.getD j 0)))], false⟩), (1, ⟨118, [.arr .u8 4 m], false⟩), (2, ⟨95, [.arr .u8 16 o], false⟩)], 3, 1⟩ [Decidable.decide (j < 4) = true, i < 16, i < 16, 4 * (i / 4) < 9223372036854775808, i % 4 + j < 9223372036854775808, 4 * (i / 4) + (i % 4 + j) % 4 < 9223372036854775808, 4 * (i / 4) + (i % 4 + j) % 4 < 16, 4 * (i / 4) + (i % 4 + j) % 4 < 16, j < 4, j < 4, i < 16, i < 16, j + 1 < 9223372036854775808] (by kernel_rfl) (by repeat' first | exact trivial | exact decide_eq_true (by omega) | omega | refine ⟨?_, ?_⟩) ?_
    exact e
  · have e : j = 4 := by omega
    subst e
    generalize mxK o m x i 4 = x at hk ⊢
    refine hwC mixed okA5a 100 [false] [0, 3, 4, 12] [0, 1, 2] 3 [.lp [0, 1, 1, 1], .blk 0] ⟨49, [(0, .ptr 0 0 (.c 0)), (3, .ptr 1 0 (.c 0)), (4, .ptr 2 0 (.c 0)), (12, .u .i64 (i + 1))], [(0, ⟨95, [.arr .u8 16 x], false⟩), (1, ⟨118, [.arr .u8 4 m], false⟩), (2, ⟨95, [.arr .u8 16 o], false⟩)], 3, 1⟩ [false = false, i + 1 < 9223372036854775808] (by kernel_rfl) (by repeat' first | exact trivial | exact decide_eq_false (by omega) | omega | refine ⟨?_, ?_⟩) ?_
    exact hk
theorem mx_l (o m : List Nat) (hr : res = ⟨.tup [], [b95 (mxI m o 16)], []⟩) : ∀ d i, 16 - i = d → i ≤ 16 → Hold Tryz.prog (bodyOf Tryz.f100) (FinM Tryz.prog Tryz.f100 F S res) F S stMx (sMx (mxI m o i) o m i) := by
  intro d
  induction d using Nat.strongRecOn with
  | _ d ih =>
  intro i hd hi
  refine hold_unroll (c := _) rfl ?_
  by_cases hlt : i < 16
  · have e := ih (16 - (i + 1)) (by omega) (i + 1) rfl (by omega)
    rw [show mxI m o (i + 1) = mxK o m (mxI m o i) i 4 from rfl] at e
    generalize mxI m o i = x at e ⊢
    have e2 := mx_k o m x i hlt e _ 0 rfl (by omega)
    refine hwC mixed okA5a 100 [true] [0, 3, 4, 5, 6, 7, 12, 23] [0, 1, 2] 3 [.lp [0, 1, 1, 1, 1, 0, 0, 1, 1, 0, 0, 1, 1, 1], .blk 2, .blk 1, .at [1, 1, 1, 0, 0, 1, 1, 1], .lp [0, 1, 1, 1], .blk 0] ⟨49, [(0, .ptr 0 0 (.c 0)), (3, .ptr 1 0 (.c 0)), (4, .ptr 2 0 (.c 0)), (5, .u .i64 i), (6, .u .i64 (i % 4)), (7, .u .i64 (i / 4)), (12, .u .i64 i), (23, .c .i64 0)], [(0, ⟨95, [.arr .u8 16 (x.set i 0)], false⟩), (1, ⟨118, [.arr .u8 4 m], false⟩), (2, ⟨95, [.arr .u8 16 o], false⟩)], 3, 1⟩ [Decidable.decide (i < 16) = true, i < 16, i < 16] (by kernel_rfl) (by repeat' first | exact trivial | exact decide_eq_true (by omega) | omega | refine ⟨?_, ?_⟩) ?_
    exact Hold.weaken e2 (by simp [wks, wk, wk0, wkB, wka, wkl, sMy, b95, b118, lim, mxK])
  · have e : i = 16 := by omega
    subst e
    generalize mxI m o 16 = x at hr ⊢
    refine hold_endMw mixed okA5a (news := []) (unroll := false) (f := 100) (sc := [false]) (r := { res := .tup [], upd := [⟨95, [.arr .u8 16 x], false⟩] }) (ob := [false = false]) (sc' := []) (by kernel_rfl) (by repeat' first | exact trivial | exact decide_eq_false (by omega) | omega | refine ⟨?_, ?_⟩) ?_
    exact wkM_of hr.symm
theorem mx_m (o m : List Nat) : ContractM Tryz.prog 100 [b95 o] [.ptr 0 0 (.c 0), .arr .u8 4 m] ⟨.tup [], [b95 (mxI m o 16)], []⟩ := by
  refine contractM Tryz.func100 (body := bodyOf Tryz.f100) rfl (by kernel_rfl) (by kernel_rfl) rfl rfl ?_
  intro _ _ F S hF
  refine hwC mixed okA5a 100 [] [0, 3, 4, 12] [0, 1, 2] 3 [.lp [0, 1, 1, 1], .blk 0] ⟨49, [(0, .ptr 0 0 (.c 0)), (3, .ptr 1 0 (.c 0)), (4, .ptr 2 0 (.c 0)), (12, .c .i64 0)], [(0, ⟨95, [.arr .u8 16 o], false⟩), (1, ⟨118, [.arr .u8 4 m], false⟩), (2, ⟨95, [.arr .u8 16 o], false⟩)], 3, 1⟩ [] (by kernel_rfl) (by repeat' first | exact trivial | omega | refine ⟨?_, ?_⟩) ?_
  exact Hold.weaken (mx_l o m rfl _ 0 rfl (by omega)) (by simp [wks, wk, wk0, wkB, wka, wkl, sMx, b95, b118, lim, mxI])
theorem mx_ok : ∀ H args r ob, eMx H args = some (r, ob) → All ob → ContractM Tryz.prog 100 H args r := by
  intro H args r ob he hob
  unfold eMx at he
  split at he
  · split at he
    · rename_i h
      cases he
      rw [h]
      exact mx_m _ _
    · cases he
  · cases he
end
end Go.Eng.B

namespace Go.Eng.B
open Go Go.Eng Go.Proofs
set_option maxRecDepth 100000
set_option maxHeartbeats 1000000
def fx (k r : Nat) : Nat := (((k : Int) - (r : Int) + 4).tmod 4).toNat
def dmK (a f x : List Nat) (c r : Nat) : Nat → List Nat
  | 0 => x
  | k + 1 => (dmK a f x c r k).set (4 * c + r) ((dmK a f x c r k).getD (4 * c + r) 0 ^^^ mul8 (a.getD (4 * c + k) 0) (f.getD (fx k r) 0))
def dmR (a f x : List Nat) (c : Nat) : Nat → List Nat
  | 0 => x
  | r + 1 => dmK a f (dmR a f x c r) c r 4
def dmC (a f : List Nat) : Nat → List Nat
  | 0 => z16
  | c + 1 => dmR a f (dmC a f c) c 4
def stDC : List It := [.lp [0, 1, 0, 1, 1], .blk 0, .at [1, 1, 1]]
def stDR : List It := [.lp [0, 1, 1, 0, 0, 1, 1, 0, 0, 1, 0, 1, 1], .blk 2, .blk 1, .at [1, 1, 1, 0, 0, 1, 0, 1, 1]] ++ stDC
def stDK : List It := [.lp [0, 1, 1, 0, 0, 1, 1, 0, 0, 1, 1, 0, 0, 1, 1, 0, 0, 1, 0, 1, 1], .blk 4, .blk 3, .at [1, 1, 1, 0, 0, 1, 1, 0, 0, 1, 1, 0, 0, 1, 0, 1, 1]] ++ stDR
def bDM (a f x : List Nat) : List (Nat × Bk) := [(0, b77 a), (1, b118 f), (2, b77 z16), (3, b77 x)]
def sDC (a f x : List Nat) (c : Nat) : St := ⟨44, [(2, .ptr 0 0 (.c 0)), (3, .ptr 1 0 (.c 0)), (4, .ptr 2 0 (.c 0)), (5, .ptr 3 0 (.c 0)), (9, .u .i64 c)], bDM a f x, 4, 0⟩
def sDR (a f x : List Nat) (c r : Nat) : St := ⟨44, [(2, .ptr 0 0 (.c 0)), (3, .ptr 1 0 (.c 0)), (4, .ptr 2 0 (.c 0)), (5, .ptr 3 0 (.c 0)), (6, .u .i64 c), (9, .u .i64 c), (12, .u .i64 r)], bDM a f x, 4, 0⟩
def sDK (a f x : List Nat) (c r k : Nat) : St := ⟨44, [(2, .ptr 0 0 (.c 0)), (3, .ptr 1 0 (.c 0)), (4, .ptr 2 0 (.c 0)), (5, .ptr 3 0 (.c 0)), (6, .u .i64 c), (7, .u .i64 r), (9, .u .i64 c), (12, .u .i64 r), (15, .u .i64 k)], bDM a f x, 4, 0⟩
def A6a : Ctr := addC 101 eMu8 ctr0
theorem okA6a : CtrOk Tryz.prog A6a := addC_ok ctr0_ok mu_ok
theorem fx_b {k r : Nat} (hk : k < 4) (hr : r < 4) : inR .i64 ((k : Int) - (r : Int) + 4) ∧ inR .i64 (((k : Int) - (r : Int) + 4).tmod 4) ∧ 0 ≤ ((k : Int) - (r : Int) + 4).tmod 4 ∧ fx k r < 4 := by
  have h1 : ((k : Int) - (r : Int) + 4).tmod 4 = ((k : Int) - (r : Int) + 4) % 4 := Int.tmod_eq_emod_of_nonneg (by omega)
  unfold fx
  rw [h1]
  refine ⟨?_, ?_, ?_, ?_⟩
  · simp only [inR, lo, lim]; omega
  · simp only [inR, lo, lim]; omega
  · omega
  · omega
section
variable {w0 : World} {S : Own} {res : SV}
theorem dk_l (a f x0 : List Nat) (c r : Nat) (hc : c < 4) (hr : r < 4) (hk : Hold Tryz.prog (bodyOf Tryz.f89) (Fin Tryz.prog Tryz.f89 w0 S res) w0 S stDR (sDR a f (dmK a f x0 c r 4) c (r + 1))) : ∀ d k, 4 - k = d → k ≤ 4 → Hold Tryz.prog (bodyOf Tryz.f89) (Fin Tryz.prog Tryz.f89 w0 S res) w0 S stDK (sDK a f (dmK a f x0 c r k) c r k) := by
  intro d
  induction d using Nat.strongRecOn with
  | _ d ih =>
  intro k hd hi
  refine hold_unroll (c := _) rfl ?_
  by_cases hlt : k < 4
  · have e := ih (4 - (k + 1)) (by omega) (k + 1) rfl (by omega)
    rw [show dmK a f x0 c r (k + 1) = (dmK a f x0 c r k).set (4 * c + r) ((dmK a f x0 c r k).getD (4 * c + r) 0 ^^^ mul8 (a.getD (4 * c + k) 0) (f.getD (fx k r) 0)) from rfl] at e
    generalize dmK a f x0 c r k = x at e ⊢
    obtain ⟨q1, q2, q3, q4⟩ := fx_b hlt hr
    refine hwC mixed okA6a 100 [true] [2, 3, 4, 5, 6, 7, 9, 12, 15] [0, 1, 2, 3] 4 [.lp [0, 1, 1, 0, 0, 1, 1, 0, 0, 1, 1, 0, 0, 1, 1, 0, 0, 1, 0, 1, 1], .blk 4, .blk 3, .at [1, 1, 1, 0, 0, 1, 1, 0, 0, 1, 1, 0, 0, 1, 0, 1, 1], .lp [0, 1, 1, 0, 0, 1, 1, 0, 0, 1, 0, 1, 1], .blk 2, .blk 1, .at [1, 1, 1, 0, 0, 1, 0, 1, 1], .lp [0, 1, 0, 1, 1], .blk 0, .at [1, 1, 1]] ⟨44, [(2, .ptr 0 0 (.c 0)), (3, .ptr 1 0 (.c 0)), (4, .ptr 2 0 (.c 0)), (5, .ptr 3 0 (.c 0)), (6, .u .i64 c), (7, .u .i64 r), (9, .u .i64 c), (12, .u .i64 r), (15, .u .i64 (k + 1))], [(0, ⟨77, [.arr .u8 16 a], false⟩), (1, ⟨118, [.arr .u8 4 f], false⟩), (2, ⟨77, [.arr .u8 16 z16], false⟩), (3, ⟨77, [.arr .u8 16 (x.set (4 * c + r) (x.getD (4 * c + r) 0 ^^^ mul8 (a.getD (4 * c + k) 0) (f.getD (((↑k : Int) - (↑r : Int) + (4 : Int)).tmod (4 : Int)).toNat 0)))], false⟩)], 4, 0⟩ [Decidable.decide (k < 4) = true, 4 * c < 9223372036854775808, 4 * c + r < 9223372036854775808, 4 * c + r < 16, 4 * c + r < 16, 4 * c < 9223372036854775808, 4 * c + k < 9223372036854775808, 4 * c + k < 16, 4 * c + k < 16, inR .i64 ((↑k : Int) - (↑r : Int) + (4 : Int)), (4 : Int) ≠ (0 : Int) ∧ inR .i64 (((↑k : Int) - (↑r : Int) + (4 : Int)).tmod (4 : Int)), (0 : Int) ≤ ((↑k : Int) - (↑r : Int) + (4 : Int)).tmod (4 : Int), (((↑k : Int) - (↑r : Int) + (4 : Int)).tmod (4 : Int)).toNat < 4, (((↑k : Int) - (↑r : Int) + (4 : Int)).tmod (4 : Int)).toNat < 4, 4 * c + r < 16, 4 * c + r < 16, k + 1 < 9223372036854775808] (by kernel_rfl) (by repeat' first | exact trivial | exact decide_eq_true (by omega) | exact q1 | exact q2 | exact q3 | exact q4 | exact (by decide : (4 : Int) ≠ 0) | omega | refine ⟨?_, ?_⟩) ?_
    exact e
  · have e : k = 4 := by omega
    subst e
    generalize dmK a f x0 c r 4 = x at hk ⊢
    refine hwC mixed okA6a 100 [false] [2, 3, 4, 5, 6, 9, 12] [0, 1, 2, 3] 4 [.lp [0, 1, 1, 0, 0, 1, 1, 0, 0, 1, 0, 1, 1], .blk 2, .blk 1, .at [1, 1, 1, 0, 0, 1, 0, 1, 1], .lp [0, 1, 0, 1, 1], .blk 0, .at [1, 1, 1]] ⟨44, [(2, .ptr 0 0 (.c 0)), (3, .ptr 1 0 (.c 0)), (4, .ptr 2 0 (.c 0)), (5, .ptr 3 0 (.c 0)), (6, .u .i64 c), (9, .u .i64 c), (12, .u .i64 (r + 1))], [(0, ⟨77, [.arr .u8 16 a], false⟩), (1, ⟨118, [.arr .u8 4 f], false⟩), (2, ⟨77, [.arr .u8 16 z16], false⟩), (3, ⟨77, [.arr .u8 16 x], false⟩)], 4, 0⟩ [false = false, r + 1 < 9223372036854775808] (by kernel_rfl) (by repeat' first | exact trivial | exact decide_eq_false (by omega) | omega | refine ⟨?_, ?_⟩) ?_
    exact hk
theorem dr_l2 (a f x0 : List Nat) (c : Nat) (hc : c < 4) (hk : Hold Tryz.prog (bodyOf Tryz.f89) (Fin Tryz.prog Tryz.f89 w0 S res) w0 S stDC (sDC a f (dmR a f x0 c 4) (c + 1))) : ∀ d r, 4 - r = d → r ≤ 4 → Hold Tryz.prog (bodyOf Tryz.f89) (Fin Tryz.prog Tryz.f89 w0 S res) w0 S stDR (sDR a f (dmR a f x0 c r) c r) := by
  intro d
  induction d using Nat.strongRecOn with
  | _ d ih =>
  intro r hd hi
  refine hold_unroll (c := _) rfl ?_
  by_cases hlt : r < 4
  · have e := ih (4 - (r + 1)) (by omega) (r + 1) rfl (by omega)
    rw [show dmR a f x0 c (r + 1) = dmK a f (dmR a f x0 c r) c r 4 from rfl] at e
    generalize dmR a f x0 c r = x at e ⊢
    have e2 := dk_l a f x c r hc hlt e _ 0 rfl (by omega)
    refine hwC mixed okA6a 100 [true] [2, 3, 4, 5, 6, 7, 9, 12, 15] [0, 1, 2, 3] 4 [.lp [0, 1, 1, 0, 0, 1, 1, 0, 0, 1, 1, 0, 0, 1, 1, 0, 0, 1, 0, 1, 1], .blk 4, .blk 3, .at [1, 1, 1, 0, 0, 1, 1, 0, 0, 1, 1, 0, 0, 1, 0, 1, 1], .lp [0, 1, 1, 0, 0, 1, 1, 0, 0, 1, 0, 1, 1], .blk 2, .blk 1, .at [1, 1, 1, 0, 0, 1, 0, 1, 1], .lp [0, 1, 0, 1, 1], .blk 0, .at [1, 1, 1]] ⟨44, [(2, .ptr 0 0 (.c 0)), (3, .ptr 1 0 (.c 0)), (4, .ptr 2 0 (.c 0)), (5, .ptr 3 0 (.c 0)), (6, .u .i64 c), (7, .u .i64 r), (9, .u .i64 c), (12, .u .i64 r), (15, .c .i64 0)], [(0, ⟨77, [.arr .u8 16 a], false⟩), (1, ⟨118, [.arr .u8 4 f], false⟩), (2, ⟨77, [.arr .u8 16 z16], false⟩), (3, ⟨77, [.arr .u8 16 x], false⟩)], 4, 0⟩ [Decidable.decide (r < 4) = true] (by kernel_rfl) (by repeat' first | exact trivial | exact decide_eq_true (by omega) | omega | refine ⟨?_, ?_⟩) ?_
    exact Hold.weaken e2 (by simp [wks, wk, wk0, wkB, wka, wkl, sDK, bDM, lim, dmK])
  · have e : r = 4 := by omega
    subst e
    generalize dmR a f x0 c 4 = x at hk ⊢
    refine hwC mixed okA6a 100 [false] [2, 3, 4, 5, 9] [0, 1, 2, 3] 4 [.lp [0, 1, 0, 1, 1], .blk 0, .at [1, 1, 1]] ⟨44, [(2, .ptr 0 0 (.c 0)), (3, .ptr 1 0 (.c 0)), (4, .ptr 2 0 (.c 0)), (5, .ptr 3 0 (.c 0)), (9, .u .i64 (c + 1))], [(0, ⟨77, [.arr .u8 16 a], false⟩), (1, ⟨118, [.arr .u8 4 f], false⟩), (2, ⟨77, [.arr .u8 16 z16], false⟩), (3, ⟨77, [.arr .u8 16 x], false⟩)], 4, 0⟩ [false = false, c + 1 < 9223372036854775808] (by kernel_rfl) (by repeat' first | exact trivial | exact decide_eq_false (by omega) | omega | refine ⟨?_, ?_⟩) ?_
    exact hk
theorem dc_l2 (a f : List Nat) (hr : res = .arr .u8 16 (dmC a f 4)) : ∀ d c, 4 - c = d → c ≤ 4 → Hold Tryz.prog (bodyOf Tryz.f89) (Fin Tryz.prog Tryz.f89 w0 S res) w0 S stDC (sDC a f (dmC a f c) c) := by
  intro d
  induction d using Nat.strongRecOn with
  | _ d ih =>
  intro c hd hi
  refine hold_unroll (c := _) rfl ?_
  by_cases hlt : c < 4
  · have e := ih (4 - (c + 1)) (by omega) (c + 1) rfl (by omega)
    rw [show dmC a f (c + 1) = dmR a f (dmC a f c) c 4 from rfl] at e
    generalize dmC a f c = x at e ⊢
    have e2 := dr_l2 a f x c hlt e _ 0 rfl (by omega)
    refine hwC mixed okA6a 100 [true] [2, 3, 4, 5, 6, 9, 12] [0, 1, 2, 3] 4 [.lp [0, 1, 1, 0, 0, 1, 1, 0, 0, 1, 0, 1, 1], .blk 2, .blk 1, .at [1, 1, 1, 0, 0, 1, 0, 1, 1], .lp [0, 1, 0, 1, 1], .blk 0, .at [1, 1, 1]] ⟨44, [(2, .ptr 0 0 (.c 0)), (3, .ptr 1 0 (.c 0)), (4, .ptr 2 0 (.c 0)), (5, .ptr 3 0 (.c 0)), (6, .u .i64 c), (9, .u .i64 c), (12, .c .i64 0)], [(0, ⟨77, [.arr .u8 16 a], false⟩), (1, ⟨118, [.arr .u8 4 f], false⟩), (2, ⟨77, [.arr .u8 16 z16], false⟩), (3, ⟨77, [.arr .u8 16 x], false⟩)], 4, 0⟩ [Decidable.decide (c < 4) = true] (by kernel_rfl) (by repeat' first | exact trivial | exact decide_eq_true (by omega) | omega | refine ⟨?_, ?_⟩) ?_
    exact Hold.weaken e2 (by simp [wks, wk, wk0, wkB, wka, wkl, sDR, bDM, lim, dmR])
  · have e : c = 4 := by omega
    subst e
    generalize dmC a f 4 = x at hr ⊢
    rw [hr]
    exact hwE mixed okA6a 100 [false] (.arr .u8 16 x) [false = false] (by kernel_rfl) (by repeat' first | exact trivial | exact decide_eq_false (by omega) | omega | refine ⟨?_, ?_⟩) (wkR_refl _)
theorem mixd_c (a f : List Nat) : Contract Tryz.prog 89 [.arr .u8 16 a, .arr .u8 4 f] (.arr .u8 16 (dmC a f 4)) := by
  refine contract Tryz.func89 (body := bodyOf Tryz.f89) rfl (by kernel_rfl) (by kernel_rfl) rfl ?_
  intro _ w0 S
  refine hwC mixed okA6a 100 [] [2, 3, 4, 5, 9] [0, 1, 2, 3] 4 [.lp [0, 1, 0, 1, 1], .blk 0, .at [1, 1, 1]] ⟨44, [(2, .ptr 0 0 (.c 0)), (3, .ptr 1 0 (.c 0)), (4, .ptr 2 0 (.c 0)), (5, .ptr 3 0 (.c 0)), (9, .c .i64 0)], [(0, ⟨77, [.arr .u8 16 a], false⟩), (1, ⟨118, [.arr .u8 4 f], false⟩), (2, ⟨77, [.arr .u8 16 [0, 0, 0, 0, 0, 0, 0, 0, 0, 0, 0, 0, 0, 0, 0, 0]], false⟩), (3, ⟨77, [.arr .u8 16 [0, 0, 0, 0, 0, 0, 0, 0, 0, 0, 0, 0, 0, 0, 0, 0]], false⟩)], 4, 0⟩ [] (by kernel_rfl) (by repeat' first | exact trivial | refine ⟨?_, ?_⟩) ?_
  exact Hold.weaken (dc_l2 a f rfl _ 0 rfl (by omega)) (by simp [wks, wk, wk0, wkB, wka, wkl, sDC, bDM, b77, b118, lim, dmC, z16, List.replicate])
def eMixD (args : List SV) : Option (SV × List Prop) := match args with
  | [.arr .u8 16 a, .arr .u8 4 f] => some (.arr .u8 16 (dmC a f 4), [])
  | _ => none
theorem mixd_ok : ∀ args res ob, eMixD args = some (res, ob) → All ob → Contract Tryz.prog 89 args res := by
  intro args res ob he _
  unfold eMixD at he
  split at he
  · cases he; exact mixd_c _ _
  · cases he
end
end Go.Eng.B

namespace Go.Eng.B
set_option maxRecDepth 100000
set_option maxHeartbeats 4000000
theorem list16 {o : List Nat} (h : o.length = 16) : ∃ x0 x1 x2 x3 x4 x5 x6 x7 x8 x9 x10 x11 x12 x13 x14 x15, o = [x0, x1, x2, x3, x4, x5, x6, x7, x8, x9, x10, x11, x12, x13, x14, x15] := by
  match o, h with
  | [x0, x1, x2, x3, x4, x5, x6, x7, x8, x9, x10, x11, x12, x13, x14, x15], _ => exact ⟨x0, x1, x2, x3, x4, x5, x6, x7, x8, x9, x10, x11, x12, x13, x14, x15, rfl⟩
theorem mix_eq {o : List Nat} (h : o.length = 16) : mxI [2, 3, 1, 1] o 16 = dmC o [2, 3, 1, 1] 4 := by
  obtain ⟨x0, x1, x2, x3, x4, x5, x6, x7, x8, x9, x10, x11, x12, x13, x14, x15, rfl⟩ := list16 h
  have e1 : ∀ g : Nat → Nat → Nat, g = mul8 → mxI [2, 3, 1, 1] [x0, x1, x2, x3, x4, x5, x6, x7, x8, x9, x10, x11, x12, x13, x14, x15] 16 =
    [0 ^^^ g x0 2 ^^^ g x1 3 ^^^ g x2 1 ^^^ g x3 1, 0 ^^^ g x1 2 ^^^ g x2 3 ^^^ g x3 1 ^^^ g x0 1, 0 ^^^ g x2 2 ^^^ g x3 3 ^^^ g x0 1 ^^^ g x1 1, 0 ^^^ g x3 2 ^^^ g x0 3 ^^^ g x1 1 ^^^ g x2 1,
     0 ^^^ g x4 2 ^^^ g x5 3 ^^^ g x6 1 ^^^ g x7 1, 0 ^^^ g x5 2 ^^^ g x6 3 ^^^ g x7 1 ^^^ g x4 1, 0 ^^^ g x6 2 ^^^ g x7 3 ^^^ g x4 1 ^^^ g x5 1, 0 ^^^ g x7 2 ^^^ g x4 3 ^^^ g x5 1 ^^^ g x6 1,
     0 ^^^ g x8 2 ^^^ g x9 3 ^^^ g x10 1 ^^^ g x11 1, 0 ^^^ g x9 2 ^^^ g x10 3 ^^^ g x11 1 ^^^ g x8 1, 0 ^^^ g x10 2 ^^^ g x11 3 ^^^ g x8 1 ^^^ g x9 1, 0 ^^^ g x11 2 ^^^ g x8 3 ^^^ g x9 1 ^^^ g x10 1,
     0 ^^^ g x12 2 ^^^ g x13 3 ^^^ g x14 1 ^^^ g x15 1, 0 ^^^ g x13 2 ^^^ g x14 3 ^^^ g x15 1 ^^^ g x12 1, 0 ^^^ g x14 2 ^^^ g x15 3 ^^^ g x12 1 ^^^ g x13 1, 0 ^^^ g x15 2 ^^^ g x12 3 ^^^ g x13 1 ^^^ g x14 1] := by
    rintro _ rfl
    generalize hg : mul8 = g
    simp [mxI, mxK, hg]
  have e2 : ∀ g : Nat → Nat → Nat, g = mul8 → dmC [x0, x1, x2, x3, x4, x5, x6, x7, x8, x9, x10, x11, x12, x13, x14, x15] [2, 3, 1, 1] 4 =
    [0 ^^^ g x0 2 ^^^ g x1 3 ^^^ g x2 1 ^^^ g x3 1, 0 ^^^ g x0 1 ^^^ g x1 2 ^^^ g x2 3 ^^^ g x3 1, 0 ^^^ g x0 1 ^^^ g x1 1 ^^^ g x2 2 ^^^ g x3 3, 0 ^^^ g x0 3 ^^^ g x1 1 ^^^ g x2 1 ^^^ g x3 2,
     0 ^^^ g x4 2 ^^^ g x5 3 ^^^ g x6 1 ^^^ g x7 1, 0 ^^^ g x4 1 ^^^ g x5 2 ^^^ g x6 3 ^^^ g x7 1, 0 ^^^ g x4 1 ^^^ g x5 1 ^^^ g x6 2 ^^^ g x7 3, 0 ^^^ g x4 3 ^^^ g x5 1 ^^^ g x6 1 ^^^ g x7 2,
     0 ^^^ g x8 2 ^^^ g x9 3 ^^^ g x10 1 ^^^ g x11 1, 0 ^^^ g x8 1 ^^^ g x9 2 ^^^ g x10 3 ^^^ g x11 1, 0 ^^^ g x8 1 ^^^ g x9 1 ^^^ g x10 2 ^^^ g x11 3, 0 ^^^ g x8 3 ^^^ g x9 1 ^^^ g x10 1 ^^^ g x11 2,
     0 ^^^ g x12 2 ^^^ g x13 3 ^^^ g x14 1 ^^^ g x15 1, 0 ^^^ g x12 1 ^^^ g x13 2 ^^^ g x14 3 ^^^ g x15 1, 0 ^^^ g x12 1 ^^^ g x13 1 ^^^ g x14 2 ^^^ g x15 3, 0 ^^^ g x12 3 ^^^ g x13 1 ^^^ g x14 1 ^^^ g x15 2] := by
    rintro _ rfl
    generalize hg : mul8 = g
    simp [dmC, dmR, dmK, z16, List.replicate, hg, fx]
  rw [e1 _ rfl, e2 _ rfl]
  generalize mul8 = g
  simp only [Nat.zero_xor]
  congr 1
  all_goals first | rfl | skip
  all_goals ac_rfl
def shDR (s a x : List Nat) (c : Nat) : Nat → List Nat
  | 0 => x
  | r + 1 => (shDR s a x c r).set (4 * c + r) (s.getD (a.getD (4 * ((c + r) % 4) + r) 0) 0)
def shDC (s a : List Nat) : Nat → List Nat
  | 0 => z16
  | c + 1 => shDR s a (shDC s a c) c 4
theorem sh_eq {s o : List Nat} (h : o.length = 16) : shI s o 16 = shDC s o 4 := by
  obtain ⟨x0, x1, x2, x3, x4, x5, x6, x7, x8, x9, x10, x11, x12, x13, x14, x15, rfl⟩ := list16 h
  simp [shI, shJ, shDC, shDR, z16, List.replicate]
theorem set_len16 {o : List Nat} (h : o.length = 16) (i v : Nat) : (o.set i v).length = 16 := by rw [List.length_set]; exact h
theorem xrI_len {a b : List Nat} (h : a.length = 16) : ∀ i, (xrI a b i).length = 16
  | 0 => h
  | i + 1 => set_len16 (xrI_len h i) _ _
theorem shI_len {s o : List Nat} (h : o.length = 16) : ∀ i, (shI s o i).length = 16
  | 0 => h
  | i + 1 => set_len16 (shI_len h i) _ _
theorem mxK_len {o m x : List Nat} {i : Nat} (h : x.length = 16) : ∀ j, (mxK o m x i j).length = 16
  | 0 => set_len16 h _ _
  | j + 1 => set_len16 (mxK_len h j) _ _
theorem mxI_len {m o : List Nat} (h : o.length = 16) : ∀ i, (mxI m o i).length = 16
  | 0 => h
  | i + 1 => mxK_len (mxI_len h i) 4
end Go.Eng.B

namespace Go.Eng
open Go.RowKit
def fldPtr (slots : List (Nat × SV)) (o : Oper) : Bool :=
  match o.guard, o.op with
  | none, .fieldAddr _ x _ => match lookρ slots x with | some (.ptr _ _ _) => true | _ => false
  | _, _ => false
def unG (o : Oper) : Oper := { o with guard := none }
def pureStepG (P : Program) (ctr : Ctr) (ops : Array Oper) (σ : St) (i : Nat) (o : Oper) (sc : List Bool) : Option (St × List Prop × List Bool) :=
  match guardOf ops σ.slots o with
  | none => none
  | some false => match putS σ o.dst (.tup []) with | some σ' => some (σ', [], sc) | none => none
  | some true => match evalR P ctr σ.blks (lookρ σ.slots) (unG o) with
      | some (.val s, ob) => if pureOp (unG o) || slicePtr σ.slots (unG o) || sliceSl σ.slots (unG o) || (numOp σ.slots (unG o) && s.rigid) || fldPtr σ.slots (unG o) then
          match resolveB (isGuard ops i) s sc with
          | some (s', ob2, sc') => match putS σ o.dst s' with | some σ' => some (σ', ob ++ ob2, sc') | none => none
          | none => none
        else none
      | _ => none
def firstPureG (P : Program) (ctr : Ctr) (ops : Array Oper) (L : Array Bool) (σ : St) (sc : List Bool) : List Nat → Option (Nat × St × List Prop × List Bool)
  | [] => none
  | i :: r => if Region.free .any ops L i then (match ops[i]? with
      | some o => match pureStepG P ctr ops σ i o sc with
        | some (σ', ob, sc') => some (i, σ', ob, sc')
        | none => firstPureG P ctr ops L σ sc r
      | none => none) else firstPureG P ctr ops L σ sc r
section
variable {P : Program} {ctr : Ctr} {w0 : Fr} {w : World} {S : Own} {σ σ' : St} {β : Nat → Nat} {a : Act} {ops : Array Oper}
theorem fieldAddrS_all {ow : Own} {x0 : World} {s : TypeId} {x r : SV} {f : Nat} (h : fieldAddrS P s x f = some r) {v1 : Value} (hx : relV β ow x0 x v1) : ∃ v, ∀ w', (Instr.fieldAt s v1 f).run P w' = .ok v w' ∧ relV β ow x0 r v := by
  unfold fieldAddrS at h
  split at h
  · rename_i fs id off hu
    have h1 := relV_scalar rfl rfl hx
    simp only [rel, List.cons.injEq, and_true] at h1
    subst h1
    split at h
    · rename_i fd hf
      split at h
      · rename_i sz hs
        split at h
        · cases h
        · rename_i h0
          cases h
          refine ⟨.pointer (some ⟨β id, off + fd.offset, none⟩), fun w' => ⟨?_, relV_of1 rfl (by simp only [rel, Ix.n, Nat.add_zero])⟩⟩
          simp only [Instr.fieldAt, Sem.run_bind, run_underlying hu, Result.andThen_ok, hf, Instr.sureAddr, Sem.run_pure, fieldPlace, sizeOf_run hs, h0, if_false, add_plain, Ix.n, Nat.add_zero]
      · cases h
    · cases h
  · rename_i fs segs hu
    split at h
    · rename_i fd hf
      split at h
      · rename_i sz hsz
        split at h
        · rename_i h0
          split at h
          · rename_i s' hs
            cases h
            obtain ⟨ad, hv, hr⟩ := subSeg_rp hs h0 hx
            refine ⟨_, fun w' => ⟨?_, hr⟩⟩
            have h0' : sz ≠ 0 := by omega
            simp only [Instr.fieldAt, Sem.run_bind, hv, run_underlying hu, Result.andThen_ok, hf, Instr.sureAddr, Sem.run_pure, fieldPlace, sizeOf_run hsz, h0', if_false]
          · cases h
        · cases h
      · cases h
    · cases h
  · cases h
theorem fld_yields {ow : Own} {x : World} {slots : List (Nat × SV)} {H : List (Nat × Bk)} (hρ : ∀ y s, lookρ slots y = some s → relV β ow x s (a.eval y)) {o : Oper} (hp : fldPtr slots o = true) {s : SV} {ob : List Prop} (h : evalR P ctr H (lookρ slots) o = some (.val s, ob)) :
    ∃ v, (∀ w', (execOp a.eval o).run P w' = .ok (.value v) w') ∧ relV β ow x s v := by
  obtain ⟨dst, op, type, pos, after, guard⟩ := o
  unfold fldPtr at hp
  simp only at hp
  split at hp
  · rename_i t y f
    split at hp
    · rename_i id off ix hl
      have hr : rdρ (lookρ slots) y = some (.ptr id off ix) := by simp [rdρ, hl, SV.rd]
      unfold evalR at h
      simp only [movesOp, Bool.false_eq_true, if_false] at h
      have hx : extraH P (rdρ (lookρ slots)) ⟨dst, .fieldAddr t y f, type, pos, after, none⟩ = none := rfl
      have hx2 : extra2 P (rdρ (lookρ slots)) ⟨dst, .fieldAddr t y f, type, pos, after, none⟩ = none := rfl
      rw [hx2] at h
      simp only at h
      rw [hx] at h
      simp only at h
      unfold evalH at h
      simp only [hr] at h
      split at h
      · rename_i r' hb
        cases h
        obtain ⟨v, hv⟩ := fieldAddrS_all (P := P) hb (hρ y _ hl)
        exact ⟨v, fun w' => by simp only [execOp, Sem.run_bind, (hv w').1, Result.andThen_ok, Sem.run_pure], (hv x).2⟩
      · cases h
    · cases hp
  · cases hp
theorem firstPureG_ok : ∀ {r : List Nat} {L : Array Bool} {sc sc' : List Bool} {i : Nat} {ob : List Prop}, firstPureG P ctr ops L σ sc r = some (i, σ', ob, sc') → i ∈ r ∧ Region.free .any ops L i = true ∧ ∃ o, ops[i]? = some o ∧ pureStepG P ctr ops σ i o sc = some (σ', ob, sc') := by
  intro r
  induction r with
  | nil => intro L sc sc' i ob h; simp [firstPureG] at h
  | cons j r ih =>
    intro L sc sc' i ob h
    simp only [firstPureG] at h
    split at h
    · rename_i hf
      split at h
      · rename_i o ho
        split at h
        · rename_i hp; cases h; exact ⟨by simp, hf, o, ho, hp⟩
        · obtain ⟨h1, h2⟩ := ih h; exact ⟨List.mem_cons_of_mem _ h1, h2⟩
      · cases h
    · obtain ⟨h1, h2⟩ := ih h; exact ⟨List.mem_cons_of_mem _ h1, h2⟩
theorem pureStepG_ok {i : Nat} {o : Oper} {sc sc' : List Bool} {ob : List Prop} (h : pureStepG P ctr ops σ i o sc = some (σ', ob, sc')) (hob : All ob) (hS : Sat w0 S σ β a w) :
    ∃ v, Yields P ops o v a ∧ Sat w0 S σ' β (a.put o.dst v) w := by
  unfold pureStepG at h
  split at h
  · cases h
  · rename_i hg
    split at h
    · rename_i σ1 hput
      cases h
      exact ⟨undef, .inr ⟨guard_ok hS.slot hg, rfl⟩, hS.put hput ⟨[], rfl, rfl⟩⟩
    · cases h
  · rename_i hg
    split at h
    · rename_i s ob1 hev
      split at h
      · rename_i hp
        split at h
        · rename_i s' ob2 sc1 hres
          split at h
          · rename_i σ1 hput
            cases h
            obtain ⟨ho1, ho2⟩ := All.append.1 hob
            have key : ∃ v, (∀ w', (execOp a.eval o).run P w' = .ok (.value v) w') ∧ relV β (owS S σ.blks β) w s v := by
              simp only [Bool.or_eq_true, Bool.and_eq_true] at hp
              rcases hp with (((hp | hp) | hp) | hp) | hp
              · exact pureR_yields (fun y s hy => hS.look hy) hp hev
              · exact slice_yields (fun y s hy => hS.look hy) hp hev
              · exact sliceSl_yields (fun y s hy => hS.look hy) hp hev ho1
              · exact num_yields (fun y s hy => hS.look hy) hp.1 hp.2 hev ho1
              · exact fld_yields (fun y s hy => hS.look hy) hp hev
            obtain ⟨v, h1, h2⟩ := key
            exact ⟨v, .inl ⟨guard_ok hS.slot hg, h1⟩, hS.put hput (resolveB_ok hres ho2 h2)⟩
          · cases h
        · cases h
      · cases h
    · cases h
end
end Go.Eng

namespace Go.Eng
open Go.RowKit
structure Ke where
  (ks bs : List Nat) (nx : Nat)
def tryS (step : Nat → Option (St × List Prop × List Bool)) : List Nat → Option (St × List Prop × List Bool)
  | [] => none
  | [i] => step i
  | i :: r => match step i, tryS step r with
    | some (R, ob, sc), some (R', ob', sc') => if sc = sc' then some (R, (R' = R) :: (ob ++ ob'), sc) else none
    | _, _ => none
section
variable {P : Program} {ctr : Ctr} {w0 : Fr} {w : World} {S : Own} {σ σ' : St} {β : Nat → Nat} {a : Act} {ops : Array Oper}
theorem tryS_ok {step : Nat → Option (St × List Prop × List Bool)} : ∀ {r : List Nat} {R : St} {ob : List Prop} {sc : List Bool}, tryS step r = some (R, ob, sc) → All ob → ∀ i ∈ r, ∃ ob' sc', step i = some (R, ob', sc') ∧ All ob' := by
  intro r
  induction r with
  | nil => intro R ob sc h; simp [tryS] at h
  | cons i r ih =>
    intro R ob sc h hob j hj
    cases r with
    | nil =>
      simp only [tryS] at h
      simp only [List.mem_singleton] at hj
      subst hj
      exact ⟨ob, sc, h, hob⟩
    | cons k r =>
      simp only [tryS] at h
      split at h
      · rename_i R1 ob1 sc1 R2 ob2 sc2 h1 h2
        split at h
        · cases h
          obtain ⟨he, hob⟩ := hob
          obtain ⟨ho1, ho2⟩ := All.append.1 hob
          rcases List.mem_cons.1 hj with rfl | hj
          · exact ⟨_, _, h1, ho1⟩
          · subst he
            exact ih h2 ho2 j hj
        · cases h
      · cases h
end
end Go.Eng

namespace Go.Eng
open Go.RowKit
def appendX (P : Program) (σ : St) (t t2 : TypeId) (x y : SV) : Option (St × SV × List Prop) :=
  match elemOf P t, appSrc P t t2 σ.blks y, x with
  | some (e, by'), some (sy, ob0), .osl id n es => match readSl σ.blks (.osl id n es) with
    | some sx => match joinSl sx sy with
      | some r => some (Eng.nilRow σ e, .row σ.next r, ob0 ++ [slenD r * by' ≤ 140737488355328, 0 < slenD sy])
      | none => none
    | none => none
  | _, _, _ => none
def stepX (P : Program) (ops : Array Oper) (σ : St) (o : Oper) (sc : List Bool) : Option (St × List Prop × List Bool) :=
  match guardOf ops σ.slots o with
  | some true => match o.op with
    | .call { callee := .builtin .append, args := ⟨[x, y]⟩, argTypes := ⟨[t, t']⟩ } => match lookρ σ.slots x, lookρ σ.slots y with
      | some sx, some sy => match appendX P σ t t' sx sy.rd with
        | some (σ1, r, ob) => match putS σ1 o.dst r with | some σ' => some (σ', ob, sc) | none => none
        | none => none
      | _, _ => none
    | _ => none
  | _ => none
def stepOpX (P : Program) (ctr : Ctr) (ops : Array Oper) (σ : St) (i : Nat) (o : Oper) (sc : List Bool) : Option (St × List Prop × List Bool) :=
  match stepX P ops σ o sc with
  | some r => some r
  | none => stepOpC P ctr ops σ i o sc
section
variable {P : Program} {ctr : Ctr} {w0 : Fr} {w : World} {S : Own} {σ σ' : St} {β : Nat → Nat} {a : Act} {ops : Array Oper}
theorem core_grow {id : Nat} {t t2 e ty : TypeId} {by' : Nat} (he : elemOf P t = some (e, by')) (hS : Sat w0 S σ β a w) (hR : RowStep σ σ' β S a w id e) {r : SV} {co news : List Value} (hc : slCells r = some (co ++ news)) (hg : slGood r)
    {x2 : Value} (hA : ∀ i z, P.info? e = some i → i.zero = some z → App P w t t2 ty e i z x2 news) (hb : (co.length + news.length) * by' ≤ 140737488355328) (h0 : 0 < news.length) (b : Addr)
    (holds : ∀ j u, co[j]? = some u → w.cell? (b.add j) = some u) :
    ∃ v w' β', (Builtin.append_ #[t, t2] ty #[.slice (some b) co.length co.length, x2]).run P w = .ok v w' ∧ Sat w0 S σ' β' a w' ∧ relV β' (owS S σ'.blks β') w' (.row id r) v := by
  obtain ⟨ht, i, z, hi, hz, hs1, hzs, hb0, hby⟩ := elemOf_ok he
  have hA := hA i z hi hz
  have hle : co.length + news.length ≤ 140737488355328 := Nat.le_trans (Nat.le_mul_of_pos_right _ hb0) hb
  have hr := hA.grow (b := b) (n := co.length) (cap := co.length) (olds := co) (by omega) rfl holds (by omega) (by omega) (by rw [hby]; exact hb) (growslice_fits (by omega) (by rw [hby]; exact hb))
  have hge := grownCap_ge w (co.length + news.length) co.length e
  have hcm2 := grownCap_le_maxLen w (co.length + news.length) co.length e (by simp only [maxLen]; omega)
  have hcore := core_new hS hR (rest := (Builtin.zeroCells z.cells (grownCap w (co.length + news.length) co.length e - (co.length + news.length))).toList) (cap := grownCap w (co.length + news.length) co.length e) hc hg (by
    have := size_zeroCells z.cells (grownCap w (co.length + news.length) co.length e - (co.length + news.length))
    rw [hzs] at this
    simp only [Array.length_toList, List.length_append]
    omega) (by omega) hcm2
  have e1 : (co ++ news ++ (Builtin.zeroCells z.cells (grownCap w (co.length + news.length) co.length e - (co.length + news.length))).toList).toArray = co.toArray ++ news.toArray ++ Builtin.zeroCells z.cells (grownCap w (co.length + news.length) co.length e - (co.length + news.length)) := by
    apply Array.ext'; simp
  rw [e1] at hcore
  simp only [List.length_append] at hcore
  exact ⟨_, _, _, hr, hcore.1, hcore.2⟩
theorem appendX_ok (hS : Sat w0 S σ β a w) {t t2 ty : TypeId} {x y r : SV} {ob : List Prop} (h : appendX P σ t t2 x y = some (σ', r, ob)) (hob : All ob) {v1 v2 : Value}
    (hx : relV β (owS S σ.blks β) w x v1) (hy : relV β (owS S σ.blks β) w y v2) :
    ∃ v w' β', (Builtin.append_ #[t, t2] ty #[v1, v2]).run P w = .ok v w' ∧ Sat w0 S σ' β' a w' ∧ relV β' (owS S σ'.blks β') w' r v := by
  unfold appendX at h
  split at h
  · rename_i e by' sy ob0 id n es he hry
    split at h
    · rename_i sx hrd
      split at h
      · rename_i r' hj
        cases h
        obtain ⟨ho0, hob⟩ := All.append.1 hob
        obtain ⟨gy, cy, hcy, hA⟩ := appSrc_ok (ty := ty) hS.blk he hry ho0 hy
        obtain ⟨gx, cx, A, c, hcx, hv, hcell⟩ := readSl_ok hS.blk hrd hx
        have h1 := relV_scalar rfl rfl hx
        simp only [rel, List.cons.injEq, and_true] at h1
        obtain ⟨hcr, hgr⟩ := joinSl_ok hj hcx hcy
        have hb : (cx.length + cy.length) * by' ≤ 140737488355328 := by have := hob.1; simpa [slenD, cells_slen hcr] using this
        have h0 : 0 < cy.length := by have := hob.2.1; simpa [slenD, cells_slen hcy] using this
        rw [h1] at hv
        cases hv
        rw [h1]
        refine core_grow (σ' := Eng.nilRow σ e) he hS (id := σ.next) ⟨rfl, ?_, ?_, hS.uniq_cons, by simp [Eng.nilRow], ⟨rfl, fun i bk hm _ => ⟨List.mem_cons_of_mem _ hm, .inl (hS.bndB i bk hm).1⟩⟩, by simp [Eng.nilRow]⟩ hcr (hgr gx gy) hA hb h0 ⟨β id, 0, none⟩ ?_
        · intro d s hm
          exact ⟨fun i hi => by have := hS.bnd d s hm i hi; simp only [Eng.nilRow]; omega, hS.slot d s hm⟩
        · intro i bk hm
          rcases List.mem_cons.1 hm with h | h
          · cases h; exact .inl ⟨rfl, rfl⟩
          · exact .inr ⟨h, hS.fresh i bk h⟩
        · intro j u hu
          obtain ⟨ad, e2, _, h3⟩ := hcell (by have := (List.getElem?_eq_some_iff.1 hu).1; omega)
          cases e2
          rw [add_plain]
          simpa using h3 j u hu
      · cases h
    · cases h
  · cases h
theorem wp_appendX {o : Oper} {x y : Operand} {t t2 : TypeId} (ho : o.op = .call { callee := .builtin .append, args := #[x, y], argTypes := #[t, t2] }) (hS : Sat w0 S σ β a w) {sx sy r : SV} {ob : List Prop}
    (h : appendX P σ t t2 sx sy = some (σ', r, ob)) (hob : All ob) (hx : relV β (owS S σ.blks β) w sx (a.eval x)) (hy : relV β (owS S σ.blks β) w sy (a.eval y))
    {K : Act → World → Prop} {Q : Exit → Act → World → Prop} (hk : ∀ v w' β', Sat w0 S σ' β' a w' → relV β' (owS S σ'.blks β') w' r v → K (a.put o.dst v) w') : o.wp P a w K Q := by
  obtain ⟨v, w', β', hr, h1, h2⟩ := appendX_ok (P := P) (ty := o.type) hS h hob hx hy
  unfold Oper.wp execOp
  simp only [ho, resolve, invoke, builtin, Sem.run_bind, Sem.run_pure, Result.andThen_ok, List.map_toArray, List.map_cons, List.map_nil, hr]
  exact hk v w' β' h1 h2
theorem stepOpX_ok (hctr : CtrOk P ctr) {σ' : St} {i : Nat} {o : Oper} {sc sc' : List Bool} {ob : List Prop} (h : stepOpX P ctr ops σ i o sc = some (σ', ob, sc')) (hob : All ob) (hi : ops[i]? = some o)
    (hS : Sat w0 S σ β a w) {K : Act → World → Prop} {Q : Exit → Act → World → Prop} (hk : ∀ β' a' w', Sat w0 S σ' β' a' w' → K a' w') : wpOp P ops Q i K a w := by
  unfold stepOpX at h
  split at h
  · rename_i hx
    cases h
    unfold stepX at hx
    split at hx
    · rename_i hg
      split at hx
      · rename_i x y t t' hop
        split at hx
        · rename_i sx sy hx1 hy1
          split at hx
          · rename_i σ1 r ob' happ
            split at hx
            · rename_i σ2 hput
              cases hx
              unfold wpOp
              simp only [hi]
              rw [guard_ok hS.slot hg]
              simp only [if_true]
              refine .inl ?_
              exact wp_appendX hop hS happ hob (hS.look hx1) (rd_ok (hS.look hy1)) fun v w' β' h1 h2 => hk β' _ _ (h1.put hput h2)
            · cases hx
          · cases hx
        · cases hx
      · cases hx
    · cases hx
  · exact stepOpC_ok hctr h hob hi hS hk
end
def execX (P : Program) (ctr : Ctr) (ops : Array Oper) (d : Ke) : Nat → Array Bool → St → List Bool → Option (St × List Prop × List Bool)
  | 0, _, _, _ => none
  | f + 1, L, σ, sc => match Region.ready .any ops L with
    | [] => match restrict d.ks d.bs d.nx σ with
      | some R => some (R, [], sc)
      | none => none
    | r => match firstPureG P ctr ops L σ sc r with
      | some (i, σ1, ob1, sc1) => match execX P ctr ops d f (L.setIfInBounds i true) σ1 sc1 with
        | some (R, ob2, sc2) => some (R, ob1 ++ ob2, sc2)
        | none => none
      | none => tryS (fun i => match ops[i]? with
        | some o => match stepOpX P ctr ops σ i o sc with
          | some (σ1, ob1, sc1) => match execX P ctr ops d f (L.setIfInBounds i true) σ1 sc1 with
            | some (R, ob2, sc2) => some (R, ob1 ++ ob2, sc2)
            | none => none
          | none => none
        | none => none) r
def drawX (P : Program) (ctr : Ctr) (ops : Array Oper) (d : Ke) (σ : St) (sc : List Bool) : Option (St × List Prop × List Bool) :=
  if Region.noSelect ops then execX P ctr ops d (ops.size + 1) (Array.replicate ops.size false) σ sc else none
section
variable {P : Program} {ctr : Ctr} {w0 : Fr} {w : World} {S : Own} {σ σ' : St} {β : Nat → Nat} {a : Act} {ops : Array Oper}
theorem execX_ok (hctr : CtrOk P ctr) (hs : Region.noSelect ops = true) {d : Ke} {Q : Exit → Act → World → Prop} (hQ : ∀ c a w, ¬ Q (.panic c) a w) : ∀ {f : Nat} {L : Array Bool} {σ : St} {R : St} {sc sc' : List Bool} {ob : List Prop} {β : Nat → Nat} {a : Act} {w : World},
    execX P ctr ops d f L σ sc = some (R, ob, sc') → All ob → Sat w0 S σ β a w → (∀ β' a' w', Sat w0 S R β' a' w' → Q .normal a' w') → ∀ {g : Nat}, left L ≤ g → L.size = ops.size → wpAny P .any ops Q g L a w := by
  intro f
  induction f with
  | zero => intro L σ R sc sc' ob β a w h; simp [execX] at h
  | succ f ih =>
    intro L σ R sc sc' ob β a w h hob hS hk g hl hsz
    simp only [execX] at h
    split at h
    · rename_i hr
      split at h
      · rename_i R1 he
        cases h
        exact wpAny_done hr (hk β a w (hS.restrict he)) g
      · cases h
    · rename_i hr0
      have hstep : ∀ i, i ∈ Region.ready .any ops L → left L = left (L.setIfInBounds i true) + 1 := fun i hi => by
        obtain ⟨h1, o, ho, _⟩ := mem_ready.1 hi
        exact left_set (by rw [hsz]; exact (Array.getElem?_eq_some_iff.1 ho).1) h1
      have hpos : 0 < g := by
        cases hr : Region.ready .any ops L with
        | nil => exact absurd hr hr0
        | cons j t => have := hstep j (by rw [hr]; simp); omega
      obtain ⟨g, rfl⟩ : ∃ g', g = g' + 1 := ⟨g - 1, by omega⟩
      split at h
      · rename_i i σ1 ob1 sc1 hp
        split at h
        · rename_i R2 ob2 sc2 hx
          cases h
          obtain ⟨ho1, ho2⟩ := All.append.1 hob
          obtain ⟨hm, hf, o, ho, hst⟩ := firstPureG_ok hp
          obtain ⟨v, hy, hS1⟩ := pureStepG_ok hst ho1 hS
          refine wpAny_take ho hs hf (by simpa using hm) (fun c a w h => absurd h (hQ c _ w)) hy ?_
          exact ih hx ho2 hS1 hk (by have := hstep i hm; omega) (by simpa using hsz)
        · cases h
      · refine wpAny_all rfl hr0 ?_
        intro j hj
        obtain ⟨ob', sc2, h1, h2⟩ := tryS_ok h hob j hj
        split at h1
        · rename_i o ho
          split at h1
          · rename_i σ1 ob1 sc1 hst
            split at h1
            · rename_i R2 ob2 sc3 hx
              cases h1
              obtain ⟨ho1, ho2⟩ := All.append.1 h2
              refine stepOpX_ok hctr hst ho1 ho hS fun β' a' w' hS' => ?_
              exact ih hx ho2 hS' hk (by have := hstep j hj; omega) (by simpa using hsz)
            · cases h1
          · cases h1
        · cases h1
theorem drawX_ok (hm : P.follows .mixedOrders = true) (hctr : CtrOk P ctr) {id : Nat} {d : Ke} {sc sc' : List Bool} {ob : List Prop} (h : drawX P ctr ops d σ sc = some (σ', ob, sc')) (hob : All ob) (hS : Sat w0 S σ β a w)
    {Q : Exit → Act → World → Prop} (hQ : ∀ c a w, ¬ Q (.panic c) a w) (hk : ∀ β' a' w', Sat w0 S σ' β' a' w' → Q .normal a' w') : (Code.region id ops true).wp P Q a w := by
  unfold drawX at h
  split at h
  · rename_i hs
    refine wp_region_any hm ?_
    have hxt : Ext w { w with drawn := w.drawn + 1 } := ⟨rfl, rfl, rfl, Nat.le_refl _, fun _ _ => rfl⟩
    refine execX_ok hctr hs hQ h hob (hS.extend hxt) hk ?_ (by simp)
    simp [left, List.countP_replicate]
  · cases h
end
def regX (P : Program) (ctr : Ctr) (body : Code) (p : List Nat) (r : List It) (d : Ke) (σ : St) (sc : List Bool) : List It × Option St × List Prop × List Bool :=
  match nav body p with
  | some (.region _ ops true) => match drawX P ctr ops d σ sc with
    | some (σ', ob, sc') => (r, some σ', ob, sc')
    | none => ([], none, [], sc)
  | _ => ([], none, [], sc)
theorem hold_allX {P : Program} {body : Code} {w0 : Fr} {S : Own} (hm : P.follows .mixedOrders = true) {ctr : Ctr} (hctr : CtrOk P ctr) {Q : Exit → Act → World → Prop} [ExitOk Q] {p : List Nat} {r : List It} {d : Ke} {σ : St} {sc : List Bool} {st' : List It} {σ' : St} {ob : List Prop} {sc' : List Bool}
    (h : regX P ctr body p r d σ sc = (st', some σ', ob, sc')) (hob : All ob) (hk : Hold P body Q w0 S st' σ') : Hold P body Q w0 S (.at p :: r) σ := by
  unfold regX at h
  split at h
  · rename_i id ops hn
    split at h
    · rename_i σ1 ob1 sc1 hx
      cases h
      intro β a w hS
      simp only [contQ, hn]
      exact drawX_ok hm hctr hx hob hS (contQ_panic (ExitOk.panic (Q := Q)) _) hk
    · cases h
  · cases h
end Go.Eng

namespace Go.Eng
open Go.RowKit
def insK (x : Nat) : List Nat → List Nat
  | [] => [x]
  | y :: r => if x ≤ y then x :: y :: r else y :: insK x r
def sortK : List Nat → List Nat
  | [] => []
  | x :: r => insK x (sortK r)
def normS (nt m nx : Nat) (σ : St) : Option St := match restrict (sortK (σ.slots.map (·.1))) (sortK (σ.blks.map (·.1))) nx σ with
  | some ⟨nt', sl, bl, nx', m'⟩ => if nt' = nt ∧ m' = m ∧ nx' = nx then some ⟨nt, sl, bl, nx, m⟩ else none
  | none => none
def rdSt (σ : St) : St := { σ with slots := σ.slots.map fun p => (p.1, p.2.rd) }
def endSt (d : Ke) (σ : St) : Option St := restrict d.ks d.bs d.nx (if d.bs.isEmpty = true then rdSt σ else σ)
section
variable {P : Program} {ctr : Ctr} {w0 : Fr} {w : World} {S : Own} {σ σ' : St} {β : Nat → Nat} {a : Act} {ops : Array Oper}
theorem Sat.norm {nt m nx : Nat} (h : normS nt m nx σ = some σ') (hS : Sat w0 S σ β a w) : Sat w0 S σ' β a w := by
  unfold normS at h
  split at h
  · rename_i nt' sl bl nx' m' hr
    split at h
    · rename_i hc
      obtain ⟨rfl, rfl, rfl⟩ := hc
      cases h
      exact hS.restrict hr
    · cases h
  · cases h
theorem rd_ids (s : SV) : ∀ i ∈ s.rd.ids, i ∈ s.ids := by
  cases s <;> intro i hi <;> simp_all [SV.rd, SV.ids]
theorem Sat.rd (hS : Sat w0 S σ β a w) : Sat w0 S (rdSt σ) β a w := by
  refine ⟨hS.defs, hS.size, ?_, hS.blk, hS.low, hS.inj, hS.uniq, ?_, hS.bndB, hS.ext, hS.lowS, hS.pins⟩
  · intro d s hd
    obtain ⟨⟨d', s'⟩, h1, h2⟩ := List.mem_map.1 hd
    cases h2
    exact rd_ok (hS.slot _ _ h1)
  · intro d s hd i hi
    obtain ⟨⟨d', s'⟩, h1, h2⟩ := List.mem_map.1 hd
    cases h2
    exact hS.bnd _ _ h1 i (rd_ids s' i hi)
theorem Sat.ends {d : Ke} (h : endSt d σ = some σ') (hS : Sat w0 S σ β a w) : Sat w0 S σ' β a w := by
  unfold endSt at h
  split at h
  · exact hS.rd.restrict h
  · exact hS.restrict h
end
end Go.Eng

namespace Go.Eng
open Go.RowKit
abbrev TabM := List (Nat × Nat × Nat)
abbrev Nm := Nat × St × List Bool
def depsOf (ops : Array Oper) (i : Nat) : List Nat := match ops[i]? with
  | some o => (o.after.toList.filter (Region.binds .any)).map (·.on)
  | none => []
def blkOf (ops : Array Oper) (i : Nat) : List Nat := match ops[i]? with
  | some oi => (List.range ops.size).filter fun j => !(j == i || match ops[j]? with
    | some oj => oj.after.any (fun e => Region.binds .any e && e.on == i) || oi.apart ops oj
    | none => true)
  | none => []
def maskOf (l : List Nat) : Nat := l.foldl (fun a j => a ||| 2 ^ j) 0
def tabOf (ops : Array Oper) : TabM := (List.range ops.size).map fun i => (i, maskOf (depsOf ops i), maskOf (blkOf ops i))
def readyM (m : Nat) (t : Nat × Nat × Nat) : Bool := !m.testBit t.1 && (m &&& t.2.1 == t.2.1)
def freeM (m : Nat) (t : Nat × Nat × Nat) : Bool := m &&& t.2.2 == t.2.2
def looksM (m : Nat) (σ : St) (sc : List Bool) : (Nat × List Bool) × List (Nat × List Nat) × List (Nat × Bool) :=
  ((m, sc), σ.slots.map (fun p => (p.1, p.2.ids)), σ.blks.map (fun p => (p.1, p.2.row)))
abbrev Eqs := List (St × St)
def addNm (m : Nat) (σ : St) (sc : List Bool) : List Nm → List Nm × Eqs
  | [] => ([(m, σ, sc)], [])
  | (m', σ', sc') :: r => if looksM m σ sc = looksM m' σ' sc' then ((m', σ', sc') :: r, [(σ, σ')]) else match addNm m σ sc r with | (r', ob) => ((m', σ', sc') :: r', ob)
def mergeNm : List Nm → List Nm × Eqs
  | [] => ([], [])
  | (m, σ, sc) :: r => match mergeNm r with | (l, ob) => match addNm m σ sc l with | (l', ob') => (l', ob' ++ ob)
def mapM (f : Nat × Nat × Nat → Option (Nm × List Prop)) : TabM → Option (List Nm × List Prop)
  | [] => some ([], [])
  | i :: r => match f i, mapM f r with
    | some (n, ob), some (l, ob') => some (n :: l, ob ++ ob')
    | _, _ => none
def firstM (P : Program) (ctr : Ctr) (ops : Array Oper) (m : Nat) (σ : St) (sc : List Bool) : TabM → Option (Nat × St × List Prop × List Bool)
  | [] => none
  | t :: r => if freeM m t = true then (match ops[t.1]? with
      | some o => match pureStepG P ctr ops σ t.1 o sc with
        | some (σ', ob, sc') => some (t.1, σ', ob, sc')
        | none => firstM P ctr ops m σ sc r
      | none => none) else firstM P ctr ops m σ sc r
def preM (nt mm a nx : Nat) (σ : St) : Option St := match normS nt mm a σ with
  | some s => some s
  | none => normS nt mm nx σ
def nextNm (P : Program) (ctr : Ctr) (ops : Array Oper) (T : TabM) (b0 nt mm nx : Nat) : Nm → Option (List Nm × List Prop)
  | (m, σ, sc) => match T.filter (readyM m) with
    | [] => some ([(m, σ, sc)], [])
    | r => match firstM P ctr ops m σ sc r with
      | some (i, σ1, ob1, sc1) => some ([(m ||| 2 ^ i, σ1, sc1)], ob1)
      | none => mapM (fun t => match ops[t.1]? with
        | some o => match preM nt mm (b0 + 16 * t.1) nx σ with
          | some σ0 => match stepOpX P ctr ops σ0 t.1 o sc with
            | some (σ1, ob1, sc1) => match normS nt mm (nx + 16) σ1 with | some σ2 => some ((m ||| 2 ^ t.1, σ2, sc1), ob1) | none => none
            | none => none
          | none => none
        | none => none) r
def nextAllM (P : Program) (ctr : Ctr) (ops : Array Oper) (T : TabM) (b0 nt mm nx : Nat) : List Nm → Option (List Nm × List Prop)
  | [] => some ([], [])
  | n :: r => match nextNm P ctr ops T b0 nt mm nx n, nextAllM P ctr ops T b0 nt mm nx r with
    | some (l, ob), some (l', ob') => some (l ++ l', ob ++ ob')
    | _, _ => none
def allDoneM (T : TabM) (ns : List Nm) : Bool := ns.all fun n => (T.filter (readyM n.1)).isEmpty
def endAllM (d : Ke) : List Nm → Option (St × Eqs × List Bool)
  | [] => none
  | [(_, σ, sc)] => match endSt d σ with
    | some R => some (R, [], sc)
    | none => none
  | (_, σ, sc) :: r => match endSt d σ, endAllM d r with
    | some R, some (R', ob, sc') => if sc = sc' then some (R', (R, R') :: ob, sc') else none
    | _, _ => none
def execM (P : Program) (ctr : Ctr) (ops : Array Oper) (T : TabM) (d : Ke) (b0 nt mm : Nat) : Nat → Nat → List Nm → Option (St × List Prop × List Bool × Eqs)
  | 0, _, _ => none
  | f + 1, nx, ns => if allDoneM T ns = true then (match endAllM d ns with
      | some (R, eq, sc) => some (R, [], sc, eq)
      | none => none) else match nextAllM P ctr ops T b0 nt mm nx ns with
    | some (l, ob) => match mergeNm l with
      | (l', eq) => match execM P ctr ops T d b0 nt mm f (nx + 16) l' with
        | some (R, ob2, sc, eq2) => some (R, ob ++ ob2, sc, eq ++ eq2)
        | none => none
    | none => none
def drawM2 (P : Program) (ctr : Ctr) (ops : Array Oper) (T : TabM) (d : Ke) (σ : St) (sc : List Bool) : Option (St × List Prop × List Bool × Eqs) :=
  if Region.noSelect ops then execM P ctr ops T d σ.next σ.nt σ.m (ops.size + 1) (σ.next + 16 * ops.size) [(0, σ, sc)] else none
def AllEq (l : Eqs) : Prop := ∀ p ∈ l, p.1 = p.2
theorem AllEq.of : ∀ {l : Eqs}, l.map (·.1) = l.map (·.2) → AllEq l
  | [], _ => fun p hp => by cases hp
  | (a, b) :: l, h => by
    simp only [List.map_cons, List.cons.injEq] at h
    intro p hp
    rcases List.mem_cons.1 hp with rfl | hp
    · exact h.1
    · exact AllEq.of h.2 p hp
theorem AllEq.append {l m : Eqs} (h : AllEq (l ++ m)) : AllEq l ∧ AllEq m := ⟨fun p hp => h p (List.mem_append_left _ hp), fun p hp => h p (List.mem_append_right _ hp)⟩
theorem AllEq.cons {a b : St} {m : Eqs} (h : AllEq ((a, b) :: m)) : a = b ∧ AllEq m := ⟨h (a, b) (by simp), fun p hp => h p (by simp [hp])⟩
def IsM (n : Nat) (L : Array Bool) (m : Nat) : Prop := L.size = n ∧ ∀ j, L.getD j false = m.testBit j
section
variable {P : Program} {ctr : Ctr} {w0 : Fr} {w : World} {S : Own} {σ σ' : St} {β : Nat → Nat} {a : Act} {ops : Array Oper}
theorem mask_bit (j : Nat) : ∀ (l : List Nat) (a : Nat), (l.foldl (fun a j => a ||| 2 ^ j) a).testBit j = (a.testBit j || decide (j ∈ l)) := by
  intro l
  induction l with
  | nil => intro a; simp
  | cons x r ih =>
    intro a
    rw [List.foldl_cons, ih, Nat.testBit_or, Nat.testBit_two_pow]
    by_cases h : x = j
    · subst h; simp
    · have h' : ¬ j = x := fun e => h e.symm
      simp [h, h']
theorem sub_iff {m : Nat} {l : List Nat} : (m &&& maskOf l == maskOf l) = true ↔ ∀ j ∈ l, m.testBit j = true := by
  rw [beq_iff_eq]
  constructor
  · intro h j hj
    have h1 := congrArg (fun x => x.testBit j) h
    simp only [Nat.testBit_and, maskOf, mask_bit, Nat.zero_testBit, Bool.false_or, hj, decide_true, Bool.and_true] at h1
    exact h1
  · intro h
    refine Nat.eq_of_testBit_eq fun j => ?_
    simp only [Nat.testBit_and, maskOf, mask_bit, Nat.zero_testBit, Bool.false_or]
    by_cases hj : j ∈ l
    · rw [h j hj]; simp
    · simp [hj]
theorem Sat.preM {nt m x nx : Nat} (h : preM nt m x nx σ = some σ') (hS : Sat w0 S σ β a w) : Sat w0 S σ' β a w := by
  unfold Eng.preM at h
  split at h
  · rename_i s hs; cases h; exact hS.norm hs
  · exact hS.norm h
theorem IsM.start (n : Nat) : IsM n (Array.replicate n false) 0 := by
  refine ⟨by simp, fun j => ?_⟩
  rw [Nat.zero_testBit]
  by_cases h : j < n <;> simp [Array.getD, h]
theorem IsM.set {n i m : Nat} {L : Array Bool} (h : IsM n L m) (hi : i < n) : IsM n (L.setIfInBounds i true) (m ||| 2 ^ i) := by
  obtain ⟨h1, h2⟩ := h
  refine ⟨by simpa using h1, fun j => ?_⟩
  rw [Nat.testBit_or, Nat.testBit_two_pow, ← h2 j]
  subst h1
  by_cases hj : j < L.size
  · by_cases hij : i = j
    · subst hij; simp [Array.getD, hj]
    · simp [Array.getD, hj, hij]
  · have : i ≠ j := by omega
    simp [Array.getD, hj, this]
theorem IsM.true {n j m : Nat} {L : Array Bool} (h : IsM n L m) (hj : j < n) : L.getD j true = m.testBit j := by
  rw [← h.2 j]
  have : j < L.size := by rw [h.1]; exact hj
  simp [Array.getD, this]
theorem tab_mem {t : Nat × Nat × Nat} (h : t ∈ tabOf ops) : t.1 < ops.size ∧ t.2.1 = maskOf (depsOf ops t.1) ∧ t.2.2 = maskOf (blkOf ops t.1) := by
  obtain ⟨i, hi, rfl⟩ := List.mem_map.1 h
  exact ⟨List.mem_range.1 hi, rfl, rfl⟩
theorem readyM_iff {L : Array Bool} {m i : Nat} (h : IsM ops.size L m) : i ∈ Region.ready .any ops L ↔ ∃ t ∈ tabOf ops, t.1 = i ∧ readyM m t = true := by
  rw [mem_ready]
  constructor
  · rintro ⟨h1, o, ho, h2⟩
    have hi : i < ops.size := (Array.getElem?_eq_some_iff.1 ho).1
    refine ⟨(i, maskOf (depsOf ops i), maskOf (blkOf ops i)), List.mem_map.2 ⟨i, List.mem_range.2 hi, rfl⟩, rfl, ?_⟩
    simp only [readyM, Bool.and_eq_true, Bool.not_eq_true']
    refine ⟨by rw [← h.true hi]; exact h1, sub_iff.2 fun j hj => ?_⟩
    simp only [depsOf, ho, List.mem_map, List.mem_filter] at hj
    obtain ⟨e, ⟨he, hb⟩, rfl⟩ := hj
    rw [← h.2]
    exact h2 e (by simpa using he) hb
  · rintro ⟨t, ht, rfl, hr⟩
    obtain ⟨hi, hd, _⟩ := tab_mem ht
    simp only [readyM, Bool.and_eq_true, Bool.not_eq_true'] at hr
    rw [hd, sub_iff] at hr
    refine ⟨by rw [h.true hi]; exact hr.1, ops[t.1], by simp [hi], fun e he hb => ?_⟩
    rw [h.2]
    refine hr.2 _ ?_
    simp only [depsOf, Array.getElem?_eq_getElem hi, List.mem_map, List.mem_filter]
    exact ⟨e, ⟨by simpa using he, hb⟩, rfl⟩
theorem freeM_ok {L : Array Bool} {m : Nat} {t : Nat × Nat × Nat} (h : IsM ops.size L m) (ht : t ∈ tabOf ops) (hf : freeM m t = true) : Region.free .any ops L t.1 = true := by
  obtain ⟨hi, _, hb⟩ := tab_mem ht
  simp only [freeM] at hf
  rw [hb, sub_iff] at hf
  unfold Region.free
  simp only [Array.getElem?_eq_getElem hi, List.all_eq_true]
  intro j hj
  have hjs := List.mem_range.1 hj
  cases hm : m.testBit j with
  | true => rw [h.true hjs, hm]; simp
  | false =>
    have hn : j ∉ blkOf ops t.1 := fun hj' => by rw [hf j hj'] at hm; cases hm
    simp only [blkOf, Array.getElem?_eq_getElem hi, List.mem_filter, not_and, Bool.not_eq_true, Bool.not_eq_false'] at hn
    have := hn hj
    cases hji : (j == t.1) with
    | true => simp
    | false => rw [hji] at this; simp only [Bool.false_or] at this; simp only [Bool.or_eq_true]; exact .inr this
theorem addNm_ok {m : Nat} {σ : St} {sc : List Bool} : ∀ {l l' : List Nm} {ob : Eqs}, addNm m σ sc l = (l', ob) → AllEq ob → (m, σ, sc) ∈ l' ∧ ∀ x ∈ l, x ∈ l' := by
  intro l
  induction l with
  | nil => intro l' ob h _; simp only [addNm] at h; cases h; exact ⟨by simp, by simp⟩
  | cons x r ih =>
    obtain ⟨m', σ', sc'⟩ := x
    intro l' ob h hob
    simp only [addNm] at h
    split at h
    · rename_i hlk
      cases h
      obtain ⟨h1, _⟩ := hob.cons
      have e1 : m = m' := congrArg (fun x => x.1.1) hlk
      have e2 : sc = sc' := congrArg (fun x => x.1.2) hlk
      subst e1 e2 h1
      exact ⟨by simp, fun _ h => h⟩
    · cases hq : addNm m σ sc r with
      | mk r' ob' =>
        rw [hq] at h
        cases h
        obtain ⟨h1, h2⟩ := ih hq hob
        refine ⟨List.mem_cons_of_mem _ h1, fun x hx => ?_⟩
        rcases List.mem_cons.1 hx with rfl | hx
        · simp
        · exact List.mem_cons_of_mem _ (h2 x hx)
theorem mergeNm_ok : ∀ {l l' : List Nm} {ob : Eqs}, mergeNm l = (l', ob) → AllEq ob → ∀ n ∈ l, n ∈ l' := by
  intro l
  induction l with
  | nil => intro l' ob _ _ n hn; cases hn
  | cons n r ih =>
    obtain ⟨m, σ, sc⟩ := n
    intro l' ob h hob x hx
    simp only [mergeNm] at h
    cases hq : mergeNm r with
    | mk l1 ob1 =>
      rw [hq] at h
      dsimp only at h
      cases hq2 : addNm m σ sc l1 with
      | mk l2 ob2 =>
        rw [hq2] at h
        cases h
        obtain ⟨h1, h2⟩ := hob.append
        obtain ⟨h3, h4⟩ := addNm_ok hq2 h1
        rcases List.mem_cons.1 hx with rfl | hx
        · exact h3
        · exact h4 _ (ih hq h2 _ hx)
theorem mapM_ok {f : Nat × Nat × Nat → Option (Nm × List Prop)} : ∀ {r : TabM} {l : List Nm} {ob : List Prop}, mapM f r = some (l, ob) → All ob → ∀ i ∈ r, ∃ n ob', f i = some (n, ob') ∧ All ob' ∧ n ∈ l := by
  intro r
  induction r with
  | nil => intro l ob _ _ i hi; cases hi
  | cons j r ih =>
    intro l ob h hob i hi
    simp only [mapM] at h
    split at h
    · rename_i n ob1 l1 ob2 h1 h2
      cases h
      obtain ⟨ho1, ho2⟩ := All.append.1 hob
      rcases List.mem_cons.1 hi with rfl | hi
      · exact ⟨n, ob1, h1, ho1, by simp⟩
      · obtain ⟨x, ob', h3, h4, h5⟩ := ih h2 ho2 i hi
        exact ⟨x, ob', h3, h4, List.mem_cons_of_mem _ h5⟩
    · cases h
theorem firstM_ok {m : Nat} : ∀ {r : TabM} {sc sc' : List Bool} {i : Nat} {ob : List Prop}, firstM P ctr ops m σ sc r = some (i, σ', ob, sc') → ∃ t ∈ r, t.1 = i ∧ freeM m t = true ∧ ∃ o, ops[i]? = some o ∧ pureStepG P ctr ops σ i o sc = some (σ', ob, sc') := by
  intro r
  induction r with
  | nil => intro sc sc' i ob h; simp [firstM] at h
  | cons t r ih =>
    intro sc sc' i ob h
    simp only [firstM] at h
    split at h
    · rename_i hf
      split at h
      · rename_i o ho
        split at h
        · rename_i hp; cases h; exact ⟨t, by simp, rfl, hf, o, ho, hp⟩
        · obtain ⟨t', h1, h2⟩ := ih h; exact ⟨t', List.mem_cons_of_mem _ h1, h2⟩
      · cases h
    · obtain ⟨t', h1, h2⟩ := ih h; exact ⟨t', List.mem_cons_of_mem _ h1, h2⟩
theorem endAllM_ok {d : Ke} : ∀ {ns : List Nm} {R : St} {ob : Eqs} {sc : List Bool}, endAllM d ns = some (R, ob, sc) → AllEq ob → ∀ n ∈ ns, endSt d n.2.1 = some R := by
  intro ns
  induction ns with
  | nil => intro R ob sc _ _ n hn; cases hn
  | cons n r ih =>
    obtain ⟨L, σ, sc0⟩ := n
    intro R ob sc h hob m hm
    cases r with
    | nil =>
      simp only [endAllM] at h
      split at h
      · rename_i R1 h1
        cases h
        rcases List.mem_cons.1 hm with rfl | hm
        · exact h1
        · cases hm
      · cases h
    | cons k r =>
      simp only [endAllM] at h
      split at h
      · rename_i R1 R2 ob1 sc1 h1 h2
        split at h
        · cases h
          obtain ⟨ho1, ho2⟩ := hob.cons
          rcases List.mem_cons.1 hm with rfl | hm
          · rw [← ho1]; exact h1
          · exact ih h2 ho2 _ hm
        · cases h
      · cases h
theorem nextAllM_ok {T : TabM} {b0 nt mm nx : Nat} : ∀ {ns l : List Nm} {ob : List Prop}, nextAllM P ctr ops T b0 nt mm nx ns = some (l, ob) → All ob → ∀ n ∈ ns, ∃ l1 ob1, nextNm P ctr ops T b0 nt mm nx n = some (l1, ob1) ∧ All ob1 ∧ ∀ x ∈ l1, x ∈ l := by
  intro ns
  induction ns with
  | nil => intro l ob _ _ n hn; cases hn
  | cons n r ih =>
    intro l ob h hob m hm
    simp only [nextAllM] at h
    split at h
    · rename_i l1 ob1 l2 ob2 h1 h2
      cases h
      obtain ⟨ho1, ho2⟩ := All.append.1 hob
      rcases List.mem_cons.1 hm with rfl | hm
      · exact ⟨l1, ob1, h1, ho1, fun x hx => List.mem_append_left _ hx⟩
      · obtain ⟨l3, ob3, h3, h4, h5⟩ := ih h2 ho2 m hm
        exact ⟨l3, ob3, h3, h4, fun x hx => List.mem_append_right _ (h5 x hx)⟩
    · cases h
theorem execM_ok (hctr : CtrOk P ctr) (hs : Region.noSelect ops = true) {T : TabM} (hT : T = tabOf ops) {d : Ke} {b0 nt mm : Nat} {Q : Exit → Act → World → Prop} (hQ : ∀ c a w, ¬ Q (.panic c) a w) : ∀ {f nx : Nat} {ns : List Nm} {R : St} {sc' : List Bool} {ob : List Prop} {eq : Eqs},
    execM P ctr ops T d b0 nt mm f nx ns = some (R, ob, sc', eq) → All ob → AllEq eq → (∀ β' a' w', Sat w0 S R β' a' w' → Q .normal a' w') → ∀ n ∈ ns, ∀ {L : Array Bool}, IsM ops.size L n.1 → ∀ {β : Nat → Nat} {a : Act} {w : World}, Sat w0 S n.2.1 β a w → ∀ {g : Nat}, left L ≤ g → wpAny P .any ops Q g L a w := by
  intro f
  induction f with
  | zero => intro nx ns R sc' ob eq h; simp [execM] at h
  | succ f ih =>
    intro nx ns R sc' ob eq h hob heq hk n hn L hL β a w hS g hl
    have hsz : L.size = ops.size := hL.1
    have hnone : T.filter (readyM n.1) = [] → Region.ready .any ops L = [] := fun h0 => by
      refine List.eq_nil_iff_forall_not_mem.2 fun i hi => ?_
      obtain ⟨t, ht, _, hr⟩ := (readyM_iff hL).1 hi
      have : t ∈ T.filter (readyM n.1) := List.mem_filter.2 ⟨by rw [hT]; exact ht, hr⟩
      rw [h0] at this; cases this
    simp only [execM] at h
    split at h
    · rename_i hd
      have hr : Region.ready .any ops L = [] := hnone (by
        have := List.all_eq_true.1 hd n hn
        simpa using this)
      split at h
      · rename_i R1 eq1 sc1 he
        cases h
        exact wpAny_done hr (hk β a w (hS.ends (endAllM_ok he heq n hn))) g
      · cases h
    · split at h
      · rename_i l ob1 hnx
        cases hq : mergeNm l with
        | mk l' ob2 =>
          rw [hq] at h
          dsimp only at h
          split at h
          · rename_i R1 ob3 sc1 eq3 hx
            cases h
            obtain ⟨ho1, ho3⟩ := All.append.1 hob
            obtain ⟨ho2, he3⟩ := heq.append
            obtain ⟨l1, obn, h1, h2, h3⟩ := nextAllM_ok hnx ho1 n hn
            have hgo : ∀ x ∈ l1, ∀ {L : Array Bool}, IsM ops.size L x.1 → ∀ {β : Nat → Nat} {a : Act} {w : World}, Sat w0 S x.2.1 β a w → ∀ {g : Nat}, left L ≤ g → wpAny P .any ops Q g L a w :=
              fun x hx' => ih hx ho3 he3 hk x (mergeNm_ok hq ho2 x (h3 x hx'))
            obtain ⟨m, σ, sc⟩ := n
            simp only [nextNm] at h1
            dsimp only at hS hL hnone
            split at h1
            · cases h1
              exact hgo (m, σ, sc) (by simp) hL hS hl
            · rename_i hr0
              have hr1 : Region.ready .any ops L ≠ [] := fun h0 => by
                cases hf : T.filter (readyM m) with
                | nil => exact hr0 hf
                | cons t r =>
                  obtain ⟨ht, hrt⟩ := List.mem_filter.1 (show t ∈ T.filter (readyM m) by rw [hf]; simp)
                  have := (readyM_iff hL).2 ⟨t, by rw [← hT]; exact ht, rfl, hrt⟩
                  rw [h0] at this; cases this
              have hstep : ∀ i, i ∈ Region.ready .any ops L → left L = left (L.setIfInBounds i true) + 1 := fun i hi => by
                obtain ⟨h1, o, ho, _⟩ := mem_ready.1 hi
                exact left_set (by rw [hsz]; exact (Array.getElem?_eq_some_iff.1 ho).1) h1
              have hpos : 0 < g := by
                cases hr : Region.ready .any ops L with
                | nil => exact absurd hr hr1
                | cons j t => have := hstep j (by rw [hr]; simp); omega
              obtain ⟨g, rfl⟩ : ∃ g', g = g' + 1 := ⟨g - 1, by omega⟩
              split at h1
              · rename_i i σ1 ob1 sc1 hp
                cases h1
                obtain ⟨t, ht, rfl, hf, o, ho, hst⟩ := firstM_ok hp
                obtain ⟨ht1, ht2⟩ := List.mem_filter.1 ht
                rw [hT] at ht1
                have hm : t.1 ∈ Region.ready .any ops L := (readyM_iff hL).2 ⟨t, ht1, rfl, ht2⟩
                obtain ⟨v, hy, hS1⟩ := pureStepG_ok hst h2 hS
                refine wpAny_take ho hs (freeM_ok hL ht1 hf) (by simpa using hm) (fun c a w h => absurd h (hQ c _ w)) hy ?_
                exact hgo _ (List.mem_singleton.2 rfl) (hL.set (tab_mem ht1).1) hS1 (by have := hstep t.1 hm; omega)
              · refine wpAny_all rfl hr1 ?_
                intro j hj
                obtain ⟨t, ht, rfl, hrt⟩ := (readyM_iff hL).1 hj
                obtain ⟨x, obj, h4, h5, h6⟩ := mapM_ok h1 h2 t (List.mem_filter.2 ⟨by rw [hT]; exact ht, hrt⟩)
                split at h4
                · rename_i o ho
                  split at h4
                  · rename_i σ0 hpre
                    split at h4
                    · rename_i σ1 ob1 sc1 hst
                      split at h4
                      · rename_i σ2 hno
                        cases h4
                        refine stepOpX_ok hctr hst h5 ho (hS.preM hpre) fun β' a' w' hS' => ?_
                        exact hgo _ h6 (hL.set (tab_mem ht).1) (hS'.norm hno) (by have := hstep t.1 hj; omega)
                      · cases h4
                    · cases h4
                  · cases h4
                · cases h4
          · cases h
      · cases h
theorem drawM2_ok (hm : P.follows .mixedOrders = true) (hctr : CtrOk P ctr) {id : Nat} {T : TabM} (hT : T = tabOf ops) {d : Ke} {sc sc' : List Bool} {ob : List Prop} {eq : Eqs} (h : drawM2 P ctr ops T d σ sc = some (σ', ob, sc', eq)) (hob : All ob) (heq : AllEq eq) (hS : Sat w0 S σ β a w)
    {Q : Exit → Act → World → Prop} (hQ : ∀ c a w, ¬ Q (.panic c) a w) (hk : ∀ β' a' w', Sat w0 S σ' β' a' w' → Q .normal a' w') : (Code.region id ops true).wp P Q a w := by
  unfold drawM2 at h
  split at h
  · rename_i hs
    refine wp_region_any hm ?_
    have hxt : Ext w { w with drawn := w.drawn + 1 } := ⟨rfl, rfl, rfl, Nat.le_refl _, fun _ _ => rfl⟩
    refine execM_ok hctr hs hT hQ h hob heq hk _ (List.mem_singleton.2 rfl) (IsM.start _) (hS.extend hxt) ?_
    simp [left, List.countP_replicate]
  · cases h
end
def opsAt (body : Code) (p : List Nat) : Array Oper := match nav body p with
  | some (.region _ ops true) => ops
  | _ => #[]
def tabAt (body : Code) (p : List Nat) : TabM := tabOf (opsAt body p)
def regM (P : Program) (ctr : Ctr) (body : Code) (T : TabM) (p : List Nat) (r : List It) (d : Ke) (σ : St) (sc : List Bool) : List It × Option St × List Prop × List Bool :=
  match nav body p with
  | some (.region _ ops true) => match drawM2 P ctr ops T d σ sc with
    | some (σ', ob, sc', _) => (r, some σ', ob, sc')
    | none => ([], none, [], sc)
  | _ => ([], none, [], sc)
def eqsM (P : Program) (ctr : Ctr) (body : Code) (T : TabM) (p : List Nat) (d : Ke) (σ : St) (sc : List Bool) : Eqs :=
  match nav body p with
  | some (.region _ ops true) => match drawM2 P ctr ops T d σ sc with
    | some (_, _, _, eq) => eq
    | none => []
  | _ => []
theorem hold_allM {P : Program} {body : Code} {w0 : Fr} {S : Own} (hm : P.follows .mixedOrders = true) {ctr : Ctr} (hctr : CtrOk P ctr) {Q : Exit → Act → World → Prop} [ExitOk Q] (T : TabM) {p : List Nat} {r : List It} {d : Ke} {σ : St} {sc : List Bool} {st' : List It} {σ' : St} {ob : List Prop} {sc' : List Bool}
    (hT : tabAt body p = T) (h : regM P ctr body T p r d σ sc = (st', some σ', ob, sc')) (hE : (eqsM P ctr body T p d σ sc).map (·.1) = (eqsM P ctr body T p d σ sc).map (·.2)) (hob : All ob) (hk : Hold P body Q w0 S st' σ') : Hold P body Q w0 S (.at p :: r) σ := by
  have hE' := AllEq.of hE
  unfold regM at h
  unfold eqsM at hE'
  unfold tabAt opsAt at hT
  split at h
  · rename_i id ops hn
    rw [hn] at hT hE'
    dsimp only at hE'
    split at h
    · rename_i σ1 ob1 sc1 eq1 hx
      rw [hx] at hE'
      cases h
      intro β a w hS
      simp only [contQ, hn]
      exact drawM2_ok hm hctr hT.symm hx hob hE' hS (contQ_panic (ExitOk.panic (Q := Q)) _) hk
    · cases h
  · cases h
end Go.Eng

namespace Go.Eng.B
open Go Go.Eng Go.Proofs
set_option maxRecDepth 100000
set_option maxHeartbeats 1000000
abbrev CPH (s f a0 a1 a2 a3 a4 a5 a6 a7 a8 a9 a10 : List Nat) : SV := .rp (.ag [.arr .u8 256 s, .arr .u8 256 f, .arr .u8 16 a0, .arr .u8 16 a1, .arr .u8 16 a2, .arr .u8 16 a3, .arr .u8 16 a4, .arr .u8 16 a5, .arr .u8 16 a6, .arr .u8 16 a7, .arr .u8 16 a8, .arr .u8 16 a9, .arr .u8 16 a10])
def encR (s x a : List Nat) : List Nat := xrI (mxI [2, 3, 1, 1] (shI s x 16) 16) a 16
def encW (s x a0 a1 a2 a3 a4 a5 a6 a7 a8 a9 a10 : List Nat) : List Nat := xrI (shI s (encR s (encR s (encR s (encR s (encR s (encR s (encR s (encR s (encR s (xrI x a0 16) a1) a2) a3) a4) a5) a6) a7) a8) a9) 16) a10 16
def eEn (H : List Bk) (args : List SV) : Option (MRes × List Prop) := match H, args with
  | [⟨ty, [.arr .u8 16 x], false⟩], [.rp (.ag [.arr .u8 256 s, .arr .u8 256 f]), .rp (.ag [.arr .u8 16 a0, .arr .u8 16 a1, .arr .u8 16 a2, .arr .u8 16 a3, .arr .u8 16 a4, .arr .u8 16 a5, .arr .u8 16 a6, .arr .u8 16 a7, .arr .u8 16 a8, .arr .u8 16 a9, .arr .u8 16 a10]), .ptr 0 0 (.c 0)] => if ty = 95 then some (⟨.tup [], [b95 (encW s x a0 a1 a2 a3 a4 a5 a6 a7 a8 a9 a10)], []⟩, []) else none
  | _, _ => none
def eBl (args : List SV) : Option (SV × List Prop) := match args with
  | [.rp (.ag [.arr .u8 256 s, .arr .u8 256 f, .arr .u8 16 a0, .arr .u8 16 a1, .arr .u8 16 a2, .arr .u8 16 a3, .arr .u8 16 a4, .arr .u8 16 a5, .arr .u8 16 a6, .arr .u8 16 a7, .arr .u8 16 a8, .arr .u8 16 a9, .arr .u8 16 a10]), .arr .u8 16 x] => some (.arr .u8 16 (encW s x a0 a1 a2 a3 a4 a5 a6 a7 a8 a9 a10), [])
  | _ => none
def sBl (x s f a0 a1 a2 a3 a4 a5 a6 a7 a8 a9 a10 : List Nat) : St := ⟨15, [(0, CPH s f a0 a1 a2 a3 a4 a5 a6 a7 a8 a9 a10), (4, .ptr 1 0 (.c 0)), (5, .ptr 2 0 (.c 0))], [(1, b77 z16), (2, b95 x)], 3, 0⟩
def sBm (x a0 a1 a2 a3 a4 a5 a6 a7 a8 a9 a10 s : List Nat) : St := ⟨15, [(4, .ptr 1 0 (.c 0)), (5, .ptr 2 0 (.c 0))], [(1, b77 z16), (2, b95 (encW s x a0 a1 a2 a3 a4 a5 a6 a7 a8 a9 a10))], 3, 0⟩
noncomputable def A8a : Ctr := addM 98 eXr (addM 99 eSh (addM 100 eMx ctr0))
noncomputable def A8b : Ctr := addM 84 eEn ctr0
theorem okA8a : CtrOk Tryz.prog A8a := addM_ok (addM_ok (addM_ok ctr0_ok mx_ok) sh_ok) xr_ok
section
variable {F : Fr} {S : Own} {res : MRes}
theorem en_m (x s f a0 a1 a2 a3 a4 a5 a6 a7 a8 a9 a10 : List Nat) : ContractM Tryz.prog 84 [b95 x] [.rp (.ag [.arr .u8 256 s, .arr .u8 256 f]), .rp (.ag [.arr .u8 16 a0, .arr .u8 16 a1, .arr .u8 16 a2, .arr .u8 16 a3, .arr .u8 16 a4, .arr .u8 16 a5, .arr .u8 16 a6, .arr .u8 16 a7, .arr .u8 16 a8, .arr .u8 16 a9, .arr .u8 16 a10]), .ptr 0 0 (.c 0)] ⟨.tup [], [b95 (encW s x a0 a1 a2 a3 a4 a5 a6 a7 a8 a9 a10)], []⟩ := by
  refine contractM Tryz.func84 (body := bodyOf Tryz.f84) rfl (by kernel_rfl) (by kernel_rfl) rfl rfl ?_
  intro _ _ F S hF
  refine hold_endMw mixed okA8a (news := []) (unroll := true) (f := 400) (sc := []) (r := { res := .tup [], upd := [⟨95, [.arr .u8 16 (xrI (shI s (xrI (mxI [2, 3, 1, 1] (shI s (xrI (mxI [2, 3, 1, 1] (shI s (xrI (mxI [2, 3, 1, 1] (shI s (xrI (mxI [2, 3, 1, 1] (shI s (xrI (mxI [2, 3, 1, 1] (shI s (xrI (mxI [2, 3, 1, 1] (shI s (xrI (mxI [2, 3, 1, 1] (shI s (xrI (mxI [2, 3, 1, 1] (shI s (xrI (mxI [2, 3, 1, 1] (shI s (xrI x a0 16) 16) 16) a1 16) 16) 16) a2 16) 16) 16) a3 16) 16) 16) a4 16) 16) 16) a5 16) 16) 16) a6 16) 16) 16) a7 16) 16) 16) a8 16) 16) 16) a9 16) 16) a10 16)], false⟩] }) (ob := []) (sc' := []) (by kernel_rfl) (by repeat' first | exact trivial | omega | refine ⟨?_, ?_⟩) ?_
  exact wkM_of rfl
theorem en_ok : ∀ H args r ob, eEn H args = some (r, ob) → All ob → ContractM Tryz.prog 84 H args r := by
  intro H args r ob he hob
  unfold eEn at he
  split at he
  · split at he
    · rename_i h
      cases he
      rw [h]
      exact en_m _ _ _ _ _ _ _ _ _ _ _ _ _ _
    · cases he
  · cases he
theorem okA8b : CtrOk Tryz.prog A8b := addM_ok ctr0_ok en_ok
end
end Go.Eng.B

namespace Go.Eng.B
open Go Go.Eng Go.Proofs
set_option maxRecDepth 100000
set_option maxHeartbeats 1000000
section
variable {w0 : World} {S : Own} {res : SV}
theorem bl_s (x s f a0 a1 a2 a3 a4 a5 a6 a7 a8 a9 a10 : List Nat) (hr : res = .arr .u8 16 (encW s x a0 a1 a2 a3 a4 a5 a6 a7 a8 a9 a10)) : Hold Tryz.prog (bodyOf Tryz.f66) (Fin Tryz.prog Tryz.f66 w0 S res) w0 S [.at [0, 1, 1], .at [1, 1, 1]] (sBl x s f a0 a1 a2 a3 a4 a5 a6 a7 a8 a9 a10) := by
  refine hold_allM mixed okA8b [(0, 0, 0), (1, 1, 1), (2, 2, 2), (3, 0, 0), (4, 8, 8), (5, 16, 16), (6, 36, 36)] (p := [0, 1, 1]) (r := [.at [1, 1, 1]]) (d := Ke.mk [4, 5] [1, 2] 3) (σ := sBl x s f a0 a1 a2 a3 a4 a5 a6 a7 a8 a9 a10) (sc := []) (st' := [.at [1, 1, 1]]) (σ' := (St.mk 15 [(4, .ptr 1 0 (.c 0)), (5, .ptr 2 0 (.c 0))] [(1, Bk.mk 77 [.arr .u8 16 z16] false), (2, Bk.mk 95 [.arr .u8 16 (encW s x a0 a1 a2 a3 a4 a5 a6 a7 a8 a9 a10)] false)] 3 0)) (ob := []) (sc' := []) (by kernel_rfl) (by kernel_rfl) (by kernel_rfl) (by repeat' first | exact trivial | assumption | exact decide_eq_true (by omega) | exact decide_eq_false (by omega) | omega | refine ⟨?_, ?_⟩) ?_
  refine Hold.cast (σ' := sBm x a0 a1 a2 a3 a4 a5 a6 a7 a8 a9 a10 s) ?_ rfl
  rw [hr]
  exact hwE mixed okA8b 100 [] (.arr .u8 16 (encW s x a0 a1 a2 a3 a4 a5 a6 a7 a8 a9 a10)) [] (by kernel_rfl) (by repeat' first | exact trivial | assumption | exact decide_eq_true (by omega) | exact decide_eq_false (by omega) | omega | refine ⟨?_, ?_⟩) (wkR_refl _)
theorem bl_m (x s f a0 a1 a2 a3 a4 a5 a6 a7 a8 a9 a10 : List Nat) : Contract Tryz.prog 66 [CPH s f a0 a1 a2 a3 a4 a5 a6 a7 a8 a9 a10, .arr .u8 16 x] (.arr .u8 16 (encW s x a0 a1 a2 a3 a4 a5 a6 a7 a8 a9 a10)) := by
  refine contract Tryz.func66 (body := bodyOf Tryz.f66) rfl (by kernel_rfl) (by kernel_rfl) rfl ?_
  intro _ w0 S
  refine hwC mixed okA8b 5 [] [0, 4, 5] [1, 2] 3 [.at [0, 1, 1], .at [1, 1, 1]] ⟨15, [(0, (CPH s f a0 a1 a2 a3 a4 a5 a6 a7 a8 a9 a10)), (4, .ptr 1 0 (.c 0)), (5, .ptr 2 0 (.c 0))], [(1, ⟨77, [.arr .u8 16 [0, 0, 0, 0, 0, 0, 0, 0, 0, 0, 0, 0, 0, 0, 0, 0]], false⟩), (2, ⟨95, [.arr .u8 16 x], false⟩)], 3, 0⟩ [] (by kernel_rfl) (by repeat' first | exact trivial | assumption | exact decide_eq_true (by omega) | exact decide_eq_false (by omega) | omega | refine ⟨?_, ?_⟩) ?_
  exact Hold.weaken (bl_s x s f a0 a1 a2 a3 a4 a5 a6 a7 a8 a9 a10 rfl) (by simp [wks, wk, wk0, wkB, wka, wkl, sBl, b95, b77, lim, z16, List.replicate])
theorem bl_ok : ∀ args res ob, eBl args = some (res, ob) → All ob → Contract Tryz.prog 66 args res := by
  intro args res ob he _
  unfold eBl at he
  split at he
  · cases he
    exact bl_m _ _ _ _ _ _ _ _ _ _ _ _ _ _
  · cases he
end
end Go.Eng.B

namespace Go.Eng.B
open Go Go.Eng Go.Proofs
set_option maxRecDepth 100000
set_option maxHeartbeats 1000000
def b96 (w0 w1 w2 w3 w4 w5 w6 w7 w8 w9 w10 : List Nat) : Bk := ⟨96, [.arr .u8 16 w0, .arr .u8 16 w1, .arr .u8 16 w2, .arr .u8 16 w3, .arr .u8 16 w4, .arr .u8 16 w5, .arr .u8 16 w6, .arr .u8 16 w7, .arr .u8 16 w8, .arr .u8 16 w9, .arr .u8 16 w10], false⟩
def nkT (s : List Nat) (p : Nat) (v : List Nat) : List Nat := [s.getD (v.getD 13 0) 0 ^^^ p, s.getD (v.getD 14 0) 0, s.getD (v.getD 15 0) 0, s.getD (v.getD 12 0) 0]
def nkI (s : List Nat) (p : Nat) (v : List Nat) : Nat → List Nat × List Nat
  | 0 => (z16, nkT s p v)
  | k + 1 => ((nkI s p v k).1.set k (((nkI s p v k).2.set (k % 4) ((nkI s p v k).2.getD (k % 4) 0 ^^^ v.getD k 0)).getD (k % 4) 0), (nkI s p v k).2.set (k % 4) ((nkI s p v k).2.getD (k % 4) 0 ^^^ v.getD k 0))
def nk (s : List Nat) (p : Nat) (v : List Nat) : List Nat := (nkI s p v 16).1
def stO : List It := [.lp [0, 1, 0, 1, 1, 1], .blk 0, .at [1, 1, 1, 1]]
def stK : List It := .lp [0, 1, 1, 1, 1, 0, 0, 1, 0, 0, 1, 0, 1, 1, 1] :: .blk 2 :: .blk 1 :: .at [1, 1, 0, 0, 1, 0, 1, 1, 1] :: stO
def sO (c p : Nat) (b w : Bk) : St := ⟨84, [(0, .ptr 0 0 (.c 0)), (4, .ptr 1 0 (.c 0)), (5, .u .u8 p), (6, .c .i64 c)], [(0, b), (1, w)], 2, 1⟩
def sK (c p : Nat) (b w : Bk) (t : List Nat) (k : Nat) : St := ⟨84, [(0, .ptr 0 0 (.c 0)), (4, .ptr 1 0 (.c 0)), (5, .u .u8 p), (6, .c .i64 c), (8, .ptr 2 0 (.c 0)), (59, .u .i64 k)], [(0, b), (1, w), (2, b118 t)], 3, 1⟩
end Go.Eng.B

namespace Go.Eng.B
open Go Go.Eng Go.Proofs
set_option maxRecDepth 100000
set_option maxHeartbeats 1000000
section
variable {F : Fr} {S : Own} {res : MRes}
theorem rk_1 (p : Nat) (s f a0 a1 a2 a3 a4 a5 a6 a7 a8 a9 a10  v : List Nat) (hk : Hold Tryz.prog (bodyOf Tryz.f64) (FinM Tryz.prog Tryz.f64 F S res) F S stO (sO 2 (dbl p) (bCi s f a0 a1 a2 a3 a4 a5 a6 a7 a8 a9 a10) (b96 v (nk s p v) z16 z16 z16 z16 z16 z16 z16 z16 z16))) : ∀ d k, 16 - k = d → k ≤ 16 → Hold Tryz.prog (bodyOf Tryz.f64) (FinM Tryz.prog Tryz.f64 F S res) F S stK (sK 1 (dbl p) (bCi s f a0 a1 a2 a3 a4 a5 a6 a7 a8 a9 a10) (b96 v (nkI s p v k).1 z16 z16 z16 z16 z16 z16 z16 z16 z16) (nkI s p v k).2 k) := by
  intro d
  induction d using Nat.strongRecOn with
  | _ d ih =>
  intro k hd hi
  refine hold_unroll (c := _) rfl ?_
  by_cases hlt : k < 16
  · have e := ih (16 - (k + 1)) (by omega) (k + 1) rfl (by omega)
    rw [show nkI s p v (k + 1) = ((nkI s p v k).1.set k (((nkI s p v k).2.set (k % 4) ((nkI s p v k).2.getD (k % 4) 0 ^^^ v.getD k 0)).getD (k % 4) 0), (nkI s p v k).2.set (k % 4) ((nkI s p v k).2.getD (k % 4) 0 ^^^ v.getD k 0)) from rfl] at e
    generalize nkI s p v k = z at e ⊢
    obtain ⟨x, t⟩ := z
    refine hwC mixed okA1a 100 [true] [0, 4, 5, 6, 8, 59] [0, 1, 2] 3 [.lp [0, 1, 1, 1, 1, 0, 0, 1, 0, 0, 1, 0, 1, 1, 1], .blk 2, .blk 1, .at [1, 1, 0, 0, 1, 0, 1, 1, 1], .lp [0, 1, 0, 1, 1, 1], .blk 0, .at [1, 1, 1, 1]] ⟨84, [(0, .ptr 0 0 (.c 0)), (4, .ptr 1 0 (.c 0)), (5, .u .u8 (dbl p)), (6, .c .i64 1), (8, .ptr 2 0 (.c 0)), (59, .u .i64 (k + 1))], [(0, bCi s f a0 a1 a2 a3 a4 a5 a6 a7 a8 a9 a10), (1, b96 v (x.set k ((t.set (k % 4) (t.getD (k % 4) 0 ^^^ v.getD k 0)).getD (k % 4) 0)) z16 z16 z16 z16 z16 z16 z16 z16 z16), (2, ⟨118, [.arr .u8 4 (t.set (k % 4) (t.getD (k % 4) 0 ^^^ v.getD k 0))], false⟩)], 3, 1⟩ [Decidable.decide (k < 16) = true, k % 4 < 4, k % 4 < 4, k < 16, k < 16, k % 4 < 4, k % 4 < 4, k % 4 < 4, k % 4 < 4, k < 16, k < 16, k + 1 < 9223372036854775808] (by kernel_rfl) (by repeat' first | exact trivial | assumption | exact decide_eq_true (by omega) | exact decide_eq_false (by omega) | omega | refine ⟨?_, ?_⟩) ?_
    exact e
  · have e : k = 16 := by omega
    subst e
    rw [show nk s p v = (nkI s p v 16).1 from rfl] at hk
    generalize nkI s p v 16 = z at hk ⊢
    obtain ⟨x, t⟩ := z
    refine hwC mixed okA1a 100 [false] [0, 4, 5, 6] [0, 1] 2 [.lp [0, 1, 0, 1, 1, 1], .blk 0, .at [1, 1, 1, 1]] ⟨84, [(0, .ptr 0 0 (.c 0)), (4, .ptr 1 0 (.c 0)), (5, .u .u8 (dbl p)), (6, .c .i64 2)], [(0, bCi s f a0 a1 a2 a3 a4 a5 a6 a7 a8 a9 a10), (1, b96 v x z16 z16 z16 z16 z16 z16 z16 z16 z16)], 2, 1⟩ [false = false] (by kernel_rfl) (by repeat' first | exact trivial | assumption | exact decide_eq_true (by omega) | exact decide_eq_false (by omega) | omega | refine ⟨?_, ?_⟩) ?_
    exact hk
theorem r_1 (p : Nat) (s f a0 a1 a2 a3 a4 a5 a6 a7 a8 a9 a10  v : List Nat) (hk : Hold Tryz.prog (bodyOf Tryz.f64) (FinM Tryz.prog Tryz.f64 F S res) F S stO (sO 2 (dbl p) (bCi s f a0 a1 a2 a3 a4 a5 a6 a7 a8 a9 a10) (b96 v (nk s p v) z16 z16 z16 z16 z16 z16 z16 z16 z16))) : Hold Tryz.prog (bodyOf Tryz.f64) (FinM Tryz.prog Tryz.f64 F S res) F S stO (sO 1 p (bCi s f a0 a1 a2 a3 a4 a5 a6 a7 a8 a9 a10) (b96 v z16 z16 z16 z16 z16 z16 z16 z16 z16 z16)) := by
  have h1 := rk_1 p s f a0 a1 a2 a3 a4 a5 a6 a7 a8 a9 a10  v hk 16 0 rfl (by omega)
  refine hold_ltB (id := 1) (bk := b96 v z16 z16 z16 z16 z16 z16 z16 z16 z16 z16) (k := .u8) (n := 16) (l := v) (by simp [sO]) rfl (by simp [b96]) fun _ hv => ?_
  have g12 := getD_lt hv (by decide) 12
  have g13 := getD_lt hv (by decide) 13
  have g14 := getD_lt hv (by decide) 14
  have g15 := getD_lt hv (by decide) 15
  refine hold_unroll (c := _) rfl ?_
  refine hwC mixed okA1a 100 [] [0, 4, 5, 6, 8, 59] [0, 1, 2] 3 [.lp [0, 1, 1, 1, 1, 0, 0, 1, 0, 0, 1, 0, 1, 1, 1], .blk 2, .blk 1, .at [1, 1, 0, 0, 1, 0, 1, 1, 1], .lp [0, 1, 0, 1, 1, 1], .blk 0, .at [1, 1, 1, 1]] ⟨84, [(0, .ptr 0 0 (.c 0)), (4, .ptr 1 0 (.c 0)), (5, .u .u8 (dbl p)), (6, .c .i64 1), (8, .ptr 2 0 (.c 0)), (59, .c .i64 0)], [(0, bCi s f a0 a1 a2 a3 a4 a5 a6 a7 a8 a9 a10), (1, b96 v z16 z16 z16 z16 z16 z16 z16 z16 z16 z16), (2, ⟨118, [.arr .u8 4 [s.getD (v.getD 13 0) 0 ^^^ p, s.getD (v.getD 14 0) 0, s.getD (v.getD 15 0) 0, s.getD (v.getD 12 0) 0]], false⟩)], 3, 1⟩ [v.getD 13 0 < 256, v.getD 13 0 < 256, v.getD 14 0 < 256, v.getD 14 0 < 256, v.getD 15 0 < 256, v.getD 15 0 < 256, v.getD 12 0 < 256, v.getD 12 0 < 256] (by kernel_rfl) (by repeat' first | exact trivial | exact decide_eq_true (by omega) | exact g13 | exact g14 | exact g15 | exact g12 | omega | refine ⟨?_, ?_⟩) ?_
  exact Hold.weaken h1 (by simp [wks, wk, wk0, wkB, wka, wkl, sK, b96, b118, bCi, lim, nkI, nkT])
theorem rk_2 (p : Nat) (s f a0 a1 a2 a3 a4 a5 a6 a7 a8 a9 a10 u0 v : List Nat) (hk : Hold Tryz.prog (bodyOf Tryz.f64) (FinM Tryz.prog Tryz.f64 F S res) F S stO (sO 3 (dbl p) (bCi s f a0 a1 a2 a3 a4 a5 a6 a7 a8 a9 a10) (b96 u0 v (nk s p v) z16 z16 z16 z16 z16 z16 z16 z16))) : ∀ d k, 16 - k = d → k ≤ 16 → Hold Tryz.prog (bodyOf Tryz.f64) (FinM Tryz.prog Tryz.f64 F S res) F S stK (sK 2 (dbl p) (bCi s f a0 a1 a2 a3 a4 a5 a6 a7 a8 a9 a10) (b96 u0 v (nkI s p v k).1 z16 z16 z16 z16 z16 z16 z16 z16) (nkI s p v k).2 k) := by
  intro d
  induction d using Nat.strongRecOn with
  | _ d ih =>
  intro k hd hi
  refine hold_unroll (c := _) rfl ?_
  by_cases hlt : k < 16
  · have e := ih (16 - (k + 1)) (by omega) (k + 1) rfl (by omega)
    rw [show nkI s p v (k + 1) = ((nkI s p v k).1.set k (((nkI s p v k).2.set (k % 4) ((nkI s p v k).2.getD (k % 4) 0 ^^^ v.getD k 0)).getD (k % 4) 0), (nkI s p v k).2.set (k % 4) ((nkI s p v k).2.getD (k % 4) 0 ^^^ v.getD k 0)) from rfl] at e
    generalize nkI s p v k = z at e ⊢
    obtain ⟨x, t⟩ := z
    refine hwC mixed okA1a 100 [true] [0, 4, 5, 6, 8, 59] [0, 1, 2] 3 [.lp [0, 1, 1, 1, 1, 0, 0, 1, 0, 0, 1, 0, 1, 1, 1], .blk 2, .blk 1, .at [1, 1, 0, 0, 1, 0, 1, 1, 1], .lp [0, 1, 0, 1, 1, 1], .blk 0, .at [1, 1, 1, 1]] ⟨84, [(0, .ptr 0 0 (.c 0)), (4, .ptr 1 0 (.c 0)), (5, .u .u8 (dbl p)), (6, .c .i64 2), (8, .ptr 2 0 (.c 0)), (59, .u .i64 (k + 1))], [(0, bCi s f a0 a1 a2 a3 a4 a5 a6 a7 a8 a9 a10), (1, b96 u0 v (x.set k ((t.set (k % 4) (t.getD (k % 4) 0 ^^^ v.getD k 0)).getD (k % 4) 0)) z16 z16 z16 z16 z16 z16 z16 z16), (2, ⟨118, [.arr .u8 4 (t.set (k % 4) (t.getD (k % 4) 0 ^^^ v.getD k 0))], false⟩)], 3, 1⟩ [Decidable.decide (k < 16) = true, k % 4 < 4, k % 4 < 4, k < 16, k < 16, k % 4 < 4, k % 4 < 4, k % 4 < 4, k % 4 < 4, k < 16, k < 16, k + 1 < 9223372036854775808] (by kernel_rfl) (by repeat' first | exact trivial | assumption | exact decide_eq_true (by omega) | exact decide_eq_false (by omega) | omega | refine ⟨?_, ?_⟩) ?_
    exact e
  · have e : k = 16 := by omega
    subst e
    rw [show nk s p v = (nkI s p v 16).1 from rfl] at hk
    generalize nkI s p v 16 = z at hk ⊢
    obtain ⟨x, t⟩ := z
    refine hwC mixed okA1a 100 [false] [0, 4, 5, 6] [0, 1] 2 [.lp [0, 1, 0, 1, 1, 1], .blk 0, .at [1, 1, 1, 1]] ⟨84, [(0, .ptr 0 0 (.c 0)), (4, .ptr 1 0 (.c 0)), (5, .u .u8 (dbl p)), (6, .c .i64 3)], [(0, bCi s f a0 a1 a2 a3 a4 a5 a6 a7 a8 a9 a10), (1, b96 u0 v x z16 z16 z16 z16 z16 z16 z16 z16)], 2, 1⟩ [false = false] (by kernel_rfl) (by repeat' first | exact trivial | assumption | exact decide_eq_true (by omega) | exact decide_eq_false (by omega) | omega | refine ⟨?_, ?_⟩) ?_
    exact hk
theorem r_2 (p : Nat) (s f a0 a1 a2 a3 a4 a5 a6 a7 a8 a9 a10 u0 v : List Nat) (hk : Hold Tryz.prog (bodyOf Tryz.f64) (FinM Tryz.prog Tryz.f64 F S res) F S stO (sO 3 (dbl p) (bCi s f a0 a1 a2 a3 a4 a5 a6 a7 a8 a9 a10) (b96 u0 v (nk s p v) z16 z16 z16 z16 z16 z16 z16 z16))) : Hold Tryz.prog (bodyOf Tryz.f64) (FinM Tryz.prog Tryz.f64 F S res) F S stO (sO 2 p (bCi s f a0 a1 a2 a3 a4 a5 a6 a7 a8 a9 a10) (b96 u0 v z16 z16 z16 z16 z16 z16 z16 z16 z16)) := by
  have h1 := rk_2 p s f a0 a1 a2 a3 a4 a5 a6 a7 a8 a9 a10 u0 v hk 16 0 rfl (by omega)
  refine hold_ltB (id := 1) (bk := b96 u0 v z16 z16 z16 z16 z16 z16 z16 z16 z16) (k := .u8) (n := 16) (l := v) (by simp [sO]) rfl (by simp [b96]) fun _ hv => ?_
  have g12 := getD_lt hv (by decide) 12
  have g13 := getD_lt hv (by decide) 13
  have g14 := getD_lt hv (by decide) 14
  have g15 := getD_lt hv (by decide) 15
  refine hold_unroll (c := _) rfl ?_
  refine hwC mixed okA1a 100 [] [0, 4, 5, 6, 8, 59] [0, 1, 2] 3 [.lp [0, 1, 1, 1, 1, 0, 0, 1, 0, 0, 1, 0, 1, 1, 1], .blk 2, .blk 1, .at [1, 1, 0, 0, 1, 0, 1, 1, 1], .lp [0, 1, 0, 1, 1, 1], .blk 0, .at [1, 1, 1, 1]] ⟨84, [(0, .ptr 0 0 (.c 0)), (4, .ptr 1 0 (.c 0)), (5, .u .u8 (dbl p)), (6, .c .i64 2), (8, .ptr 2 0 (.c 0)), (59, .c .i64 0)], [(0, bCi s f a0 a1 a2 a3 a4 a5 a6 a7 a8 a9 a10), (1, b96 u0 v z16 z16 z16 z16 z16 z16 z16 z16 z16), (2, ⟨118, [.arr .u8 4 [s.getD (v.getD 13 0) 0 ^^^ p, s.getD (v.getD 14 0) 0, s.getD (v.getD 15 0) 0, s.getD (v.getD 12 0) 0]], false⟩)], 3, 1⟩ [v.getD 13 0 < 256, v.getD 13 0 < 256, v.getD 14 0 < 256, v.getD 14 0 < 256, v.getD 15 0 < 256, v.getD 15 0 < 256, v.getD 12 0 < 256, v.getD 12 0 < 256] (by kernel_rfl) (by repeat' first | exact trivial | exact decide_eq_true (by omega) | exact g13 | exact g14 | exact g15 | exact g12 | omega | refine ⟨?_, ?_⟩) ?_
  exact Hold.weaken h1 (by simp [wks, wk, wk0, wkB, wka, wkl, sK, b96, b118, bCi, lim, nkI, nkT])
theorem rk_3 (p : Nat) (s f a0 a1 a2 a3 a4 a5 a6 a7 a8 a9 a10 u0 u1 v : List Nat) (hk : Hold Tryz.prog (bodyOf Tryz.f64) (FinM Tryz.prog Tryz.f64 F S res) F S stO (sO 4 (dbl p) (bCi s f a0 a1 a2 a3 a4 a5 a6 a7 a8 a9 a10) (b96 u0 u1 v (nk s p v) z16 z16 z16 z16 z16 z16 z16))) : ∀ d k, 16 - k = d → k ≤ 16 → Hold Tryz.prog (bodyOf Tryz.f64) (FinM Tryz.prog Tryz.f64 F S res) F S stK (sK 3 (dbl p) (bCi s f a0 a1 a2 a3 a4 a5 a6 a7 a8 a9 a10) (b96 u0 u1 v (nkI s p v k).1 z16 z16 z16 z16 z16 z16 z16) (nkI s p v k).2 k) := by
  intro d
  induction d using Nat.strongRecOn with
  | _ d ih =>
  intro k hd hi
  refine hold_unroll (c := _) rfl ?_
  by_cases hlt : k < 16
  · have e := ih (16 - (k + 1)) (by omega) (k + 1) rfl (by omega)
    rw [show nkI s p v (k + 1) = ((nkI s p v k).1.set k (((nkI s p v k).2.set (k % 4) ((nkI s p v k).2.getD (k % 4) 0 ^^^ v.getD k 0)).getD (k % 4) 0), (nkI s p v k).2.set (k % 4) ((nkI s p v k).2.getD (k % 4) 0 ^^^ v.getD k 0)) from rfl] at e
    generalize nkI s p v k = z at e ⊢
    obtain ⟨x, t⟩ := z
    refine hwC mixed okA1a 100 [true] [0, 4, 5, 6, 8, 59] [0, 1, 2] 3 [.lp [0, 1, 1, 1, 1, 0, 0, 1, 0, 0, 1, 0, 1, 1, 1], .blk 2, .blk 1, .at [1, 1, 0, 0, 1, 0, 1, 1, 1], .lp [0, 1, 0, 1, 1, 1], .blk 0, .at [1, 1, 1, 1]] ⟨84, [(0, .ptr 0 0 (.c 0)), (4, .ptr 1 0 (.c 0)), (5, .u .u8 (dbl p)), (6, .c .i64 3), (8, .ptr 2 0 (.c 0)), (59, .u .i64 (k + 1))], [(0, bCi s f a0 a1 a2 a3 a4 a5 a6 a7 a8 a9 a10), (1, b96 u0 u1 v (x.set k ((t.set (k % 4) (t.getD (k % 4) 0 ^^^ v.getD k 0)).getD (k % 4) 0)) z16 z16 z16 z16 z16 z16 z16), (2, ⟨118, [.arr .u8 4 (t.set (k % 4) (t.getD (k % 4) 0 ^^^ v.getD k 0))], false⟩)], 3, 1⟩ [Decidable.decide (k < 16) = true, k % 4 < 4, k % 4 < 4, k < 16, k < 16, k % 4 < 4, k % 4 < 4, k % 4 < 4, k % 4 < 4, k < 16, k < 16, k + 1 < 9223372036854775808] (by kernel_rfl) (by repeat' first | exact trivial | assumption | exact decide_eq_true (by omega) | exact decide_eq_false (by omega) | omega | refine ⟨?_, ?_⟩) ?_
    exact e
  · have e : k = 16 := by omega
    subst e
    rw [show nk s p v = (nkI s p v 16).1 from rfl] at hk
    generalize nkI s p v 16 = z at hk ⊢
    obtain ⟨x, t⟩ := z
    refine hwC mixed okA1a 100 [false] [0, 4, 5, 6] [0, 1] 2 [.lp [0, 1, 0, 1, 1, 1], .blk 0, .at [1, 1, 1, 1]] ⟨84, [(0, .ptr 0 0 (.c 0)), (4, .ptr 1 0 (.c 0)), (5, .u .u8 (dbl p)), (6, .c .i64 4)], [(0, bCi s f a0 a1 a2 a3 a4 a5 a6 a7 a8 a9 a10), (1, b96 u0 u1 v x z16 z16 z16 z16 z16 z16 z16)], 2, 1⟩ [false = false] (by kernel_rfl) (by repeat' first | exact trivial | assumption | exact decide_eq_true (by omega) | exact decide_eq_false (by omega) | omega | refine ⟨?_, ?_⟩) ?_
    exact hk
theorem r_3 (p : Nat) (s f a0 a1 a2 a3 a4 a5 a6 a7 a8 a9 a10 u0 u1 v : List Nat) (hk : Hold Tryz.prog (bodyOf Tryz.f64) (FinM Tryz.prog Tryz.f64 F S res) F S stO (sO 4 (dbl p) (bCi s f a0 a1 a2 a3 a4 a5 a6 a7 a8 a9 a10) (b96 u0 u1 v (nk s p v) z16 z16 z16 z16 z16 z16 z16))) : Hold Tryz.prog (bodyOf Tryz.f64) (FinM Tryz.prog Tryz.f64 F S res) F S stO (sO 3 p (bCi s f a0 a1 a2 a3 a4 a5 a6 a7 a8 a9 a10) (b96 u0 u1 v z16 z16 z16 z16 z16 z16 z16 z16)) := by
  have h1 := rk_3 p s f a0 a1 a2 a3 a4 a5 a6 a7 a8 a9 a10 u0 u1 v hk 16 0 rfl (by omega)
  refine hold_ltB (id := 1) (bk := b96 u0 u1 v z16 z16 z16 z16 z16 z16 z16 z16) (k := .u8) (n := 16) (l := v) (by simp [sO]) rfl (by simp [b96]) fun _ hv => ?_
  have g12 := getD_lt hv (by decide) 12
  have g13 := getD_lt hv (by decide) 13
  have g14 := getD_lt hv (by decide) 14
  have g15 := getD_lt hv (by decide) 15
  refine hold_unroll (c := _) rfl ?_
  refine hwC mixed okA1a 100 [] [0, 4, 5, 6, 8, 59] [0, 1, 2] 3 [.lp [0, 1, 1, 1, 1, 0, 0, 1, 0, 0, 1, 0, 1, 1, 1], .blk 2, .blk 1, .at [1, 1, 0, 0, 1, 0, 1, 1, 1], .lp [0, 1, 0, 1, 1, 1], .blk 0, .at [1, 1, 1, 1]] ⟨84, [(0, .ptr 0 0 (.c 0)), (4, .ptr 1 0 (.c 0)), (5, .u .u8 (dbl p)), (6, .c .i64 3), (8, .ptr 2 0 (.c 0)), (59, .c .i64 0)], [(0, bCi s f a0 a1 a2 a3 a4 a5 a6 a7 a8 a9 a10), (1, b96 u0 u1 v z16 z16 z16 z16 z16 z16 z16 z16), (2, ⟨118, [.arr .u8 4 [s.getD (v.getD 13 0) 0 ^^^ p, s.getD (v.getD 14 0) 0, s.getD (v.getD 15 0) 0, s.getD (v.getD 12 0) 0]], false⟩)], 3, 1⟩ [v.getD 13 0 < 256, v.getD 13 0 < 256, v.getD 14 0 < 256, v.getD 14 0 < 256, v.getD 15 0 < 256, v.getD 15 0 < 256, v.getD 12 0 < 256, v.getD 12 0 < 256] (by kernel_rfl) (by repeat' first | exact trivial | exact decide_eq_true (by omega) | exact g13 | exact g14 | exact g15 | exact g12 | omega | refine ⟨?_, ?_⟩) ?_
  exact Hold.weaken h1 (by simp [wks, wk, wk0, wkB, wka, wkl, sK, b96, b118, bCi, lim, nkI, nkT])
theorem rk_4 (p : Nat) (s f a0 a1 a2 a3 a4 a5 a6 a7 a8 a9 a10 u0 u1 u2 v : List Nat) (hk : Hold Tryz.prog (bodyOf Tryz.f64) (FinM Tryz.prog Tryz.f64 F S res) F S stO (sO 5 (dbl p) (bCi s f a0 a1 a2 a3 a4 a5 a6 a7 a8 a9 a10) (b96 u0 u1 u2 v (nk s p v) z16 z16 z16 z16 z16 z16))) : ∀ d k, 16 - k = d → k ≤ 16 → Hold Tryz.prog (bodyOf Tryz.f64) (FinM Tryz.prog Tryz.f64 F S res) F S stK (sK 4 (dbl p) (bCi s f a0 a1 a2 a3 a4 a5 a6 a7 a8 a9 a10) (b96 u0 u1 u2 v (nkI s p v k).1 z16 z16 z16 z16 z16 z16) (nkI s p v k).2 k) := by
  intro d
  induction d using Nat.strongRecOn with
  | _ d ih =>
  intro k hd hi
  refine hold_unroll (c := _) rfl ?_
  by_cases hlt : k < 16
  · have e := ih (16 - (k + 1)) (by omega) (k + 1) rfl (by omega)
    rw [show nkI s p v (k + 1) = ((nkI s p v k).1.set k (((nkI s p v k).2.set (k % 4) ((nkI s p v k).2.getD (k % 4) 0 ^^^ v.getD k 0)).getD (k % 4) 0), (nkI s p v k).2.set (k % 4) ((nkI s p v k).2.getD (k % 4) 0 ^^^ v.getD k 0)) from rfl] at e
    generalize nkI s p v k = z at e ⊢
    obtain ⟨x, t⟩ := z
    refine hwC mixed okA1a 100 [true] [0, 4, 5, 6, 8, 59] [0, 1, 2] 3 [.lp [0, 1, 1, 1, 1, 0, 0, 1, 0, 0, 1, 0, 1, 1, 1], .blk 2, .blk 1, .at [1, 1, 0, 0, 1, 0, 1, 1, 1], .lp [0, 1, 0, 1, 1, 1], .blk 0, .at [1, 1, 1, 1]] ⟨84, [(0, .ptr 0 0 (.c 0)), (4, .ptr 1 0 (.c 0)), (5, .u .u8 (dbl p)), (6, .c .i64 4), (8, .ptr 2 0 (.c 0)), (59, .u .i64 (k + 1))], [(0, bCi s f a0 a1 a2 a3 a4 a5 a6 a7 a8 a9 a10), (1, b96 u0 u1 u2 v (x.set k ((t.set (k % 4) (t.getD (k % 4) 0 ^^^ v.getD k 0)).getD (k % 4) 0)) z16 z16 z16 z16 z16 z16), (2, ⟨118, [.arr .u8 4 (t.set (k % 4) (t.getD (k % 4) 0 ^^^ v.getD k 0))], false⟩)], 3, 1⟩ [Decidable.decide (k < 16) = true, k % 4 < 4, k % 4 < 4, k < 16, k < 16, k % 4 < 4, k % 4 < 4, k % 4 < 4, k % 4 < 4, k < 16, k < 16, k + 1 < 9223372036854775808] (by kernel_rfl) (by repeat' first | exact trivial | assumption | exact decide_eq_true (by omega) | exact decide_eq_false (by omega) | omega | refine ⟨?_, ?_⟩) ?_
    exact e
  · have e : k = 16 := by omega
    subst e
    rw [show nk s p v = (nkI s p v 16).1 from rfl] at hk
    generalize nkI s p v 16 = z at hk ⊢
    obtain ⟨x, t⟩ := z
    refine hwC mixed okA1a 100 [false] [0, 4, 5, 6] [0, 1] 2 [.lp [0, 1, 0, 1, 1, 1], .blk 0, .at [1, 1, 1, 1]] ⟨84, [(0, .ptr 0 0 (.c 0)), (4, .ptr 1 0 (.c 0)), (5, .u .u8 (dbl p)), (6, .c .i64 5)], [(0, bCi s f a0 a1 a2 a3 a4 a5 a6 a7 a8 a9 a10), (1, b96 u0 u1 u2 v x z16 z16 z16 z16 z16 z16)], 2, 1⟩ [false = false] (by kernel_rfl) (by repeat' first | exact trivial | assumption | exact decide_eq_true (by omega) | exact decide_eq_false (by omega) | omega | refine ⟨?_, ?_⟩) ?_
    exact hk
theorem r_4 (p : Nat) (s f a0 a1 a2 a3 a4 a5 a6 a7 a8 a9 a10 u0 u1 u2 v : List Nat) (hk : Hold Tryz.prog (bodyOf Tryz.f64) (FinM Tryz.prog Tryz.f64 F S res) F S stO (sO 5 (dbl p) (bCi s f a0 a1 a2 a3 a4 a5 a6 a7 a8 a9 a10) (b96 u0 u1 u2 v (nk s p v) z16 z16 z16 z16 z16 z16))) : Hold Tryz.prog (bodyOf Tryz.f64) (FinM Tryz.prog Tryz.f64 F S res) F S stO (sO 4 p (bCi s f a0 a1 a2 a3 a4 a5 a6 a7 a8 a9 a10) (b96 u0 u1 u2 v z16 z16 z16 z16 z16 z16 z16)) := by
  have h1 := rk_4 p s f a0 a1 a2 a3 a4 a5 a6 a7 a8 a9 a10 u0 u1 u2 v hk 16 0 rfl (by omega)
  refine hold_ltB (id := 1) (bk := b96 u0 u1 u2 v z16 z16 z16 z16 z16 z16 z16) (k := .u8) (n := 16) (l := v) (by simp [sO]) rfl (by simp [b96]) fun _ hv => ?_
  have g12 := getD_lt hv (by decide) 12
  have g13 := getD_lt hv (by decide) 13
  have g14 := getD_lt hv (by decide) 14
  have g15 := getD_lt hv (by decide) 15
  refine hold_unroll (c := _) rfl ?_
  refine hwC mixed okA1a 100 [] [0, 4, 5, 6, 8, 59] [0, 1, 2] 3 [.lp [0, 1, 1, 1, 1, 0, 0, 1, 0, 0, 1, 0, 1, 1, 1], .blk 2, .blk 1, .at [1, 1, 0, 0, 1, 0, 1, 1, 1], .lp [0, 1, 0, 1, 1, 1], .blk 0, .at [1, 1, 1, 1]] ⟨84, [(0, .ptr 0 0 (.c 0)), (4, .ptr 1 0 (.c 0)), (5, .u .u8 (dbl p)), (6, .c .i64 4), (8, .ptr 2 0 (.c 0)), (59, .c .i64 0)], [(0, bCi s f a0 a1 a2 a3 a4 a5 a6 a7 a8 a9 a10), (1, b96 u0 u1 u2 v z16 z16 z16 z16 z16 z16 z16), (2, ⟨118, [.arr .u8 4 [s.getD (v.getD 13 0) 0 ^^^ p, s.getD (v.getD 14 0) 0, s.getD (v.getD 15 0) 0, s.getD (v.getD 12 0) 0]], false⟩)], 3, 1⟩ [v.getD 13 0 < 256, v.getD 13 0 < 256, v.getD 14 0 < 256, v.getD 14 0 < 256, v.getD 15 0 < 256, v.getD 15 0 < 256, v.getD 12 0 < 256, v.getD 12 0 < 256] (by kernel_rfl) (by repeat' first | exact trivial | exact decide_eq_true (by omega) | exact g13 | exact g14 | exact g15 | exact g12 | omega | refine ⟨?_, ?_⟩) ?_
  exact Hold.weaken h1 (by simp [wks, wk, wk0, wkB, wka, wkl, sK, b96, b118, bCi, lim, nkI, nkT])
theorem rk_5 (p : Nat) (s f a0 a1 a2 a3 a4 a5 a6 a7 a8 a9 a10 u0 u1 u2 u3 v : List Nat) (hk : Hold Tryz.prog (bodyOf Tryz.f64) (FinM Tryz.prog Tryz.f64 F S res) F S stO (sO 6 (dbl p) (bCi s f a0 a1 a2 a3 a4 a5 a6 a7 a8 a9 a10) (b96 u0 u1 u2 u3 v (nk s p v) z16 z16 z16 z16 z16))) : ∀ d k, 16 - k = d → k ≤ 16 → Hold Tryz.prog (bodyOf Tryz.f64) (FinM Tryz.prog Tryz.f64 F S res) F S stK (sK 5 (dbl p) (bCi s f a0 a1 a2 a3 a4 a5 a6 a7 a8 a9 a10) (b96 u0 u1 u2 u3 v (nkI s p v k).1 z16 z16 z16 z16 z16) (nkI s p v k).2 k) := by
  intro d
  induction d using Nat.strongRecOn with
  | _ d ih =>
  intro k hd hi
  refine hold_unroll (c := _) rfl ?_
  by_cases hlt : k < 16
  · have e := ih (16 - (k + 1)) (by omega) (k + 1) rfl (by omega)
    rw [show nkI s p v (k + 1) = ((nkI s p v k).1.set k (((nkI s p v k).2.set (k % 4) ((nkI s p v k).2.getD (k % 4) 0 ^^^ v.getD k 0)).getD (k % 4) 0), (nkI s p v k).2.set (k % 4) ((nkI s p v k).2.getD (k % 4) 0 ^^^ v.getD k 0)) from rfl] at e
    generalize nkI s p v k = z at e ⊢
    obtain ⟨x, t⟩ := z
    refine hwC mixed okA1a 100 [true] [0, 4, 5, 6, 8, 59] [0, 1, 2] 3 [.lp [0, 1, 1, 1, 1, 0, 0, 1, 0, 0, 1, 0, 1, 1, 1], .blk 2, .blk 1, .at [1, 1, 0, 0, 1, 0, 1, 1, 1], .lp [0, 1, 0, 1, 1, 1], .blk 0, .at [1, 1, 1, 1]] ⟨84, [(0, .ptr 0 0 (.c 0)), (4, .ptr 1 0 (.c 0)), (5, .u .u8 (dbl p)), (6, .c .i64 5), (8, .ptr 2 0 (.c 0)), (59, .u .i64 (k + 1))], [(0, bCi s f a0 a1 a2 a3 a4 a5 a6 a7 a8 a9 a10), (1, b96 u0 u1 u2 u3 v (x.set k ((t.set (k % 4) (t.getD (k % 4) 0 ^^^ v.getD k 0)).getD (k % 4) 0)) z16 z16 z16 z16 z16), (2, ⟨118, [.arr .u8 4 (t.set (k % 4) (t.getD (k % 4) 0 ^^^ v.getD k 0))], false⟩)], 3, 1⟩ [Decidable.decide (k < 16) = true, k % 4 < 4, k % 4 < 4, k < 16, k < 16, k % 4 < 4, k % 4 < 4, k % 4 < 4, k % 4 < 4, k < 16, k < 16, k + 1 < 9223372036854775808] (by kernel_rfl) (by repeat' first | exact trivial | assumption | exact decide_eq_true (by omega) | exact decide_eq_false (by omega) | omega | refine ⟨?_, ?_⟩) ?_
    exact e
  · have e : k = 16 := by omega
    subst e
    rw [show nk s p v = (nkI s p v 16).1 from rfl] at hk
    generalize nkI s p v 16 = z at hk ⊢
    obtain ⟨x, t⟩ := z
    refine hwC mixed okA1a 100 [false] [0, 4, 5, 6] [0, 1] 2 [.lp [0, 1, 0, 1, 1, 1], .blk 0, .at [1, 1, 1, 1]] ⟨84, [(0, .ptr 0 0 (.c 0)), (4, .ptr 1 0 (.c 0)), (5, .u .u8 (dbl p)), (6, .c .i64 6)], [(0, bCi s f a0 a1 a2 a3 a4 a5 a6 a7 a8 a9 a10), (1, b96 u0 u1 u2 u3 v x z16 z16 z16 z16 z16)], 2, 1⟩ [false = false] (by kernel_rfl) (by repeat' first | exact trivial | assumption | exact decide_eq_true (by omega) | exact decide_eq_false (by omega) | omega | refine ⟨?_, ?_⟩) ?_
    exact hk
theorem r_5 (p : Nat) (s f a0 a1 a2 a3 a4 a5 a6 a7 a8 a9 a10 u0 u1 u2 u3 v : List Nat) (hk : Hold Tryz.prog (bodyOf Tryz.f64) (FinM Tryz.prog Tryz.f64 F S res) F S stO (sO 6 (dbl p) (bCi s f a0 a1 a2 a3 a4 a5 a6 a7 a8 a9 a10) (b96 u0 u1 u2 u3 v (nk s p v) z16 z16 z16 z16 z16))) : Hold Tryz.prog (bodyOf Tryz.f64) (FinM Tryz.prog Tryz.f64 F S res) F S stO (sO 5 p (bCi s f a0 a1 a2 a3 a4 a5 a6 a7 a8 a9 a10) (b96 u0 u1 u2 u3 v z16 z16 z16 z16 z16 z16)) := by
  have h1 := rk_5 p s f a0 a1 a2 a3 a4 a5 a6 a7 a8 a9 a10 u0 u1 u2 u3 v hk 16 0 rfl (by omega)
  refine hold_ltB (id := 1) (bk := b96 u0 u1 u2 u3 v z16 z16 z16 z16 z16 z16) (k := .u8) (n := 16) (l := v) (by simp [sO]) rfl (by simp [b96]) fun _ hv => ?_
  have g12 := getD_lt hv (by decide) 12
  have g13 := getD_lt hv (by decide) 13
  have g14 := getD_lt hv (by decide) 14
  have g15 := getD_lt hv (by decide) 15
  refine hold_unroll (c := _) rfl ?_
  refine hwC mixed okA1a 100 [] [0, 4, 5, 6, 8, 59] [0, 1, 2] 3 [.lp [0, 1, 1, 1, 1, 0, 0, 1, 0, 0, 1, 0, 1, 1, 1], .blk 2, .blk 1, .at [1, 1, 0, 0, 1, 0, 1, 1, 1], .lp [0, 1, 0, 1, 1, 1], .blk 0, .at [1, 1, 1, 1]] ⟨84, [(0, .ptr 0 0 (.c 0)), (4, .ptr 1 0 (.c 0)), (5, .u .u8 (dbl p)), (6, .c .i64 5), (8, .ptr 2 0 (.c 0)), (59, .c .i64 0)], [(0, bCi s f a0 a1 a2 a3 a4 a5 a6 a7 a8 a9 a10), (1, b96 u0 u1 u2 u3 v z16 z16 z16 z16 z16 z16), (2, ⟨118, [.arr .u8 4 [s.getD (v.getD 13 0) 0 ^^^ p, s.getD (v.getD 14 0) 0, s.getD (v.getD 15 0) 0, s.getD (v.getD 12 0) 0]], false⟩)], 3, 1⟩ [v.getD 13 0 < 256, v.getD 13 0 < 256, v.getD 14 0 < 256, v.getD 14 0 < 256, v.getD 15 0 < 256, v.getD 15 0 < 256, v.getD 12 0 < 256, v.getD 12 0 < 256] (by kernel_rfl) (by repeat' first | exact trivial | exact decide_eq_true (by omega) | exact g13 | exact g14 | exact g15 | exact g12 | omega | refine ⟨?_, ?_⟩) ?_
  exact Hold.weaken h1 (by simp [wks, wk, wk0, wkB, wka, wkl, sK, b96, b118, bCi, lim, nkI, nkT])
end
end Go.Eng.B

