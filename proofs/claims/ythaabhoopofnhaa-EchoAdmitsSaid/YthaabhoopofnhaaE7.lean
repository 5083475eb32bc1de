import Derived.Test.YthaabhoopofnhaaE6
set_option linter.unusedVariables false
set_option linter.unusedSimpArgs false
set_option linter.unusedSectionVars false
namespace Go.Eng.B
open Go Go.Eng Go.Proofs
set_option maxRecDepth 100000
def W4 : TypeId := 98
def stTo : List It := [.lp [0, 1, 0, 1, 1], .blk 0, .at [1, 1, 1]]
def stTi : List It := [.lp [0, 1, 1, 1, 0, 0, 1, 1, 0, 0, 1, 0, 1, 1], .blk 2, .blk 1, .at [1, 1, 1, 0, 0, 1, 0, 1, 1], .lp [0, 1, 0, 1, 1], .blk 0, .at [1, 1, 1]]
def bTi (a b z : List Nat) : List (Nat × Bk) := [(0, ⟨W4, [.arr .u64 4 a], false⟩), (1, ⟨W4, [.arr .u64 4 b], false⟩), (2, ⟨W4, [.arr .u64 4 [0,0,0,0]], false⟩), (3, ⟨W4, [.arr .u64 4 z], false⟩)]
def sTo (a b z : List Nat) (i : Nat) : St := ⟨59, [(2, .ptr 0 0 (.c 0)), (3, .ptr 1 0 (.c 0)), (4, .ptr 2 0 (.c 0)), (5, .ptr 3 0 (.c 0)), (12, .u .i64 i)], bTi a b z, 4, 0⟩
def sTi (a b z : List Nat) (i c j : Nat) : St := ⟨59, [(2, .ptr 0 0 (.c 0)), (3, .ptr 1 0 (.c 0)), (4, .ptr 2 0 (.c 0)), (5, .ptr 3 0 (.c 0)), (6, .u .i64 i), (7, .u .u64 c), (8, .u .i64 j), (12, .u .i64 i)], bTi a b z, 4, 0⟩
theorem times_step {x y q c : Nat} (hx : x < 18446744073709551616) (hy : y < 18446744073709551616) (hq : q < 18446744073709551616) (hc : c < 18446744073709551616) :
    (q + (x * y % 18446744073709551616 + c + 0) % 18446744073709551616 + 0) % 18446744073709551616 +
      18446744073709551616 * (((x * y / 18446744073709551616 + (x * y % 18446744073709551616 + c + 0) / 18446744073709551616) % 18446744073709551616 +
        (q + (x * y % 18446744073709551616 + c + 0) % 18446744073709551616 + 0) / 18446744073709551616) % 18446744073709551616) = x * y + q + c := by
  have hp : x * y ≤ 18446744073709551615 * 18446744073709551615 := Nat.mul_le_mul (by omega) (by omega)
  generalize x * y = p at *
  omega
theorem times_in {V V' R U W d q c c2 x y B t s : Nat} (hst : d + W * c2 = x * y + q + c) (hset : V' + U * q = V + U * d) (hinv : V + U * c = R + t * x * B) (hU : U = t * s) : V' + U * W * c2 = R + t * x * (B + s * y) := by
  subst hU
  have : t * s * (d + W * c2) = t * s * (x * y + q + c) := by rw [hst]
  grind
section
variable {w0 : World} {S : Own} {res : SV}
theorem ti_in (a b z0 : List Nat) (i : Nat) (ha : a.length = 4) (ha2 : ∀ x ∈ a, x < 18446744073709551616) (hb : b.length = 4) (hb2 : ∀ x ∈ b, x < 18446744073709551616) (hi : i < 4)
    (hk : ∀ (z : List Nat) (c : Nat), z.length = 4 → (∀ x ∈ z, x < 18446744073709551616) → vl 18446744073709551616 z + 18446744073709551616 ^ 4 * c = vl 18446744073709551616 z0 + 18446744073709551616 ^ i * a.getD i 0 * vl 18446744073709551616 (b.take (4 - i)) →
      Hold Try.prog (bodyOf Try.f78) (Fin Try.prog Try.f78 w0 S res) w0 S stTo (sTo a b z (i + 1))) :
    ∀ d j, 4 - (i + j) = d → i + j ≤ 4 → ∀ (z : List Nat) (c : Nat), z.length = 4 → (∀ x ∈ z, x < 18446744073709551616) → c < 18446744073709551616 →
      vl 18446744073709551616 z + 18446744073709551616 ^ (i + j) * c = vl 18446744073709551616 z0 + 18446744073709551616 ^ i * a.getD i 0 * vl 18446744073709551616 (b.take j) →
      Hold Try.prog (bodyOf Try.f78) (Fin Try.prog Try.f78 w0 S res) w0 S stTi (sTi a b z i c j) := by
  intro d
  induction d using Nat.strongRecOn with
  | _ d ih =>
  intro j hd hj z c hz hz2 hc hv
  have hx := getD_lt (by decide) ha2 i
  have hy := getD_lt (by decide) hb2 j
  have hq := getD_lt (by decide) hz2 (i + j)
  have hst := times_step hx hy hq hc
  refine hold_unroll (c := _) rfl ?_
  rcases Bool.eq_false_or_eq_true (Decidable.decide (i + j < (4 : Nat))) with hc0 | hc0
  · have hd0 := of_decide_eq_true hc0
    refine hold_cut mixed okM1a (unroll := false) (f := 300) (sc := [true]) (ks := [2,3,4,5,6,7,8,12]) (bs := [0,1,2,3]) (nx := 4) (st' := [Go.Eng.It.lp [(0 : Nat), (1 : Nat), (1 : Nat), (1 : Nat), (0 : Nat), (0 : Nat), (1 : Nat), (1 : Nat), (0 : Nat), (0 : Nat), (1 : Nat), (0 : Nat), (1 : Nat), (1 : Nat)], Go.Eng.It.blk (2 : Nat), Go.Eng.It.blk (1 : Nat), Go.Eng.It.at [(1 : Nat), (1 : Nat), (1 : Nat), (0 : Nat), (0 : Nat), (1 : Nat), (0 : Nat), (1 : Nat), (1 : Nat)], Go.Eng.It.lp [(0 : Nat), (1 : Nat), (0 : Nat), (1 : Nat), (1 : Nat)], Go.Eng.It.blk (0 : Nat), Go.Eng.It.at [(1 : Nat), (1 : Nat), (1 : Nat)]]) (σ' := { nt := (59 : Nat), slots := [((2 : Nat), Go.Eng.SV.ptr (0 : Nat) (0 : Nat) (Go.Eng.Ix.c (0 : Nat))), ((3 : Nat), Go.Eng.SV.ptr (1 : Nat) (0 : Nat) (Go.Eng.Ix.c (0 : Nat))), ((4 : Nat), Go.Eng.SV.ptr (2 : Nat) (0 : Nat) (Go.Eng.Ix.c (0 : Nat))), ((5 : Nat), Go.Eng.SV.ptr (3 : Nat) (0 : Nat) (Go.Eng.Ix.c (0 : Nat))), ((6 : Nat), Go.Eng.SV.u Go.IntKind.i64 i), ((7 : Nat), Go.Eng.SV.u Go.IntKind.u64 (((a.getD i (0 : Nat) * b.getD j (0 : Nat) / (18446744073709551616 : Nat) + (a.getD i (0 : Nat) * b.getD j (0 : Nat) % (18446744073709551616 : Nat) + c + (0 : Nat)) / (18446744073709551616 : Nat)) % (18446744073709551616 : Nat) + (z.getD (i + j) (0 : Nat) + (a.getD i (0 : Nat) * b.getD j (0 : Nat) % (18446744073709551616 : Nat) + c + (0 : Nat)) % (18446744073709551616 : Nat) + (0 : Nat)) / (18446744073709551616 : Nat)) % (18446744073709551616 : Nat))), ((8 : Nat), Go.Eng.SV.u Go.IntKind.i64 (j + (1 : Nat))), ((12 : Nat), Go.Eng.SV.u Go.IntKind.i64 i)], blks := [((0 : Nat), { ty := W4, segs := [Go.Eng.SV.arr Go.IntKind.u64 (4 : Nat) a] }), ((1 : Nat), { ty := W4, segs := [Go.Eng.SV.arr Go.IntKind.u64 (4 : Nat) b] }), ((2 : Nat), { ty := W4, segs := [Go.Eng.SV.arr Go.IntKind.u64 (4 : Nat) [(0 : Nat), (0 : Nat), (0 : Nat), (0 : Nat)]] }), ((3 : Nat), { ty := (98 : Nat), segs := [Go.Eng.SV.arr Go.IntKind.u64 (4 : Nat) (z.set (i + j) ((z.getD (i + j) (0 : Nat) + (a.getD i (0 : Nat) * b.getD j (0 : Nat) % (18446744073709551616 : Nat) + c + (0 : Nat)) % (18446744073709551616 : Nat) + (0 : Nat)) % (18446744073709551616 : Nat)))] })], next := (4 : Nat) }) (ob := [i + j < (9223372036854775808 : Nat), Decidable.decide (i + j < (4 : Nat)) = Bool.true, i < (4 : Nat), i < (4 : Nat), j < (4 : Nat), j < (4 : Nat), (0 : Nat) ≤ (1 : Nat), i + j < (9223372036854775808 : Nat), i + j < (9223372036854775808 : Nat), i + j < (4 : Nat), i + j < (4 : Nat), (0 : Nat) ≤ (1 : Nat), i + j < (4 : Nat), i + j < (4 : Nat), j + (1 : Nat) < (9223372036854775808 : Nat)]) (sc' := []) (by kernel_rfl) ?_ ?_
    · exact ⟨(by first | assumption | omega | (simp; omega)), hc0, (by first | assumption | omega | (simp; omega)), (by first | assumption | omega | (simp; omega)), (by first | assumption | omega | (simp; omega)), (by first | assumption | omega | (simp; omega)), (by first | assumption | omega | (simp; omega)), (by first | assumption | omega | (simp; omega)), (by first | assumption | omega | (simp; omega)), (by first | assumption | omega | (simp; omega)), (by first | assumption | omega | (simp; omega)), (by first | assumption | omega | (simp; omega)), (by first | assumption | omega | (simp; omega)), (by first | assumption | omega | (simp; omega)), (by first | assumption | omega | (simp; omega)), trivial⟩
    · first | (refine ih (4 - (i + (j + 1))) (by omega) (j + 1) rfl (by omega) _ _ (by simpa using hz) (mem_set hz2 (Nat.mod_lt _ (by decide))) (Nat.mod_lt _ (by decide)) ?_; have hset := vl_set 18446744073709551616 z (i + j) ((z.getD (i + j) 0 + (a.getD i 0 * b.getD j 0 % 18446744073709551616 + c + 0) % 18446744073709551616 + 0) % 18446744073709551616) (by omega); rw [vl_take _ b j (by omega), show i + (j + 1) = i + j + 1 by omega, Nat.pow_succ]; exact times_in hst hset hv (Nat.pow_add _ _ _)) | (refine hold_restrict (ks := [2,3,4,5,12]) (bs := [0,1,2,3]) (nx := 4) rfl ?_; exact Hold.weaken (hk z c hz hz2 (by have e : i + j = 4 := (by omega); rw [e] at hv; have e2 : 4 - i = j := (by omega); rw [e2]; exact hv)) (by simp [wks, wk, wk0, lim]))
  · have hd0 := of_decide_eq_false hc0
    refine hold_cut mixed okM1a (unroll := false) (f := 300) (sc := [false]) (ks := [2,3,4,5,6,7,8,12]) (bs := [0,1,2,3]) (nx := 4) (st' := [Go.Eng.It.lp [(0 : Nat), (1 : Nat), (0 : Nat), (1 : Nat), (1 : Nat)], Go.Eng.It.blk (0 : Nat), Go.Eng.It.at [(1 : Nat), (1 : Nat), (1 : Nat)]]) (σ' := { nt := (59 : Nat), slots := [((2 : Nat), Go.Eng.SV.ptr (0 : Nat) (0 : Nat) (Go.Eng.Ix.c (0 : Nat))), ((3 : Nat), Go.Eng.SV.ptr (1 : Nat) (0 : Nat) (Go.Eng.Ix.c (0 : Nat))), ((4 : Nat), Go.Eng.SV.ptr (2 : Nat) (0 : Nat) (Go.Eng.Ix.c (0 : Nat))), ((5 : Nat), Go.Eng.SV.ptr (3 : Nat) (0 : Nat) (Go.Eng.Ix.c (0 : Nat))), ((6 : Nat), Go.Eng.SV.u Go.IntKind.i64 i), ((7 : Nat), Go.Eng.SV.u Go.IntKind.u64 c), ((8 : Nat), Go.Eng.SV.u Go.IntKind.i64 j), ((12 : Nat), Go.Eng.SV.u Go.IntKind.i64 (i + (1 : Nat)))], blks := [((0 : Nat), { ty := W4, segs := [Go.Eng.SV.arr Go.IntKind.u64 (4 : Nat) a] }), ((1 : Nat), { ty := W4, segs := [Go.Eng.SV.arr Go.IntKind.u64 (4 : Nat) b] }), ((2 : Nat), { ty := W4, segs := [Go.Eng.SV.arr Go.IntKind.u64 (4 : Nat) [(0 : Nat), (0 : Nat), (0 : Nat), (0 : Nat)]] }), ((3 : Nat), { ty := W4, segs := [Go.Eng.SV.arr Go.IntKind.u64 (4 : Nat) z] })], next := (4 : Nat) }) (ob := [i + j < (9223372036854775808 : Nat), Decidable.decide (i + j < (4 : Nat)) = Bool.false, i + (1 : Nat) < (9223372036854775808 : Nat)]) (sc' := []) (by kernel_rfl) ?_ ?_
    · exact ⟨(by first | assumption | omega | (simp; omega)), hc0, (by first | assumption | omega | (simp; omega)), trivial⟩
    · first | (refine ih (4 - (i + (j + 1))) (by omega) (j + 1) rfl (by omega) _ _ (by simpa using hz) (mem_set hz2 (Nat.mod_lt _ (by decide))) (Nat.mod_lt _ (by decide)) ?_; have hset := vl_set 18446744073709551616 z (i + j) ((z.getD (i + j) 0 + (a.getD i 0 * b.getD j 0 % 18446744073709551616 + c + 0) % 18446744073709551616 + 0) % 18446744073709551616) (by omega); rw [vl_take _ b j (by omega), show i + (j + 1) = i + j + 1 by omega, Nat.pow_succ]; exact times_in hst hset hv (Nat.pow_add _ _ _)) | (refine hold_restrict (ks := [2,3,4,5,12]) (bs := [0,1,2,3]) (nx := 4) rfl ?_; exact Hold.weaken (hk z c hz hz2 (by have e : i + j = 4 := (by omega); rw [e] at hv; have e2 : 4 - i = j := (by omega); rw [e2]; exact hv)) (by simp [wks, wk, wk0, lim]))
theorem vl_split (W : Nat) (b : List Nat) (n : Nat) (h : n ≤ b.length) : vl W b = vl W (b.take n) + W ^ n * vl W (b.drop n) := by
  conv => lhs; rw [← List.take_append_drop n b]
  have key : ∀ x y : List Nat, vl W (x ++ y) = vl W x + W ^ x.length * vl W y := by
    intro x
    induction x with
    | nil => intro y; simp [vl]
    | cons a x ih => intro y; simp only [List.cons_append, vl, ih, List.length_cons, Nat.pow_succ, Nat.mul_add]; rw [Nat.mul_comm (W ^ x.length) W, Nat.mul_assoc]; omega
  rw [key, List.length_take, Nat.min_eq_left h]
theorem row_mod {W Z Z0 c x B A i : Nat} {b : List Nat} (hi : i < 4) (hb : b.length = 4) (h : Z + W ^ 4 * c = Z0 + W ^ i * x * vl W (b.take (4 - i))) (hB : vl W b = B) (h0 : Z0 % W ^ 4 = A * B % W ^ 4) : Z % W ^ 4 = (A + W ^ i * x) * B % W ^ 4 := by
  have h1 : Z % W ^ 4 = (Z + W ^ 4 * c) % W ^ 4 := by rw [Nat.add_mul_mod_self_left]
  have h2 : W ^ i * x * vl W b = W ^ i * x * vl W (b.take (4 - i)) + W ^ 4 * (x * vl W (b.drop (4 - i))) := by
    rw [vl_split W b (4 - i) (by omega), Nat.mul_add]
    have e : W ^ 4 = W ^ i * W ^ (4 - i) := by rw [← Nat.pow_add]; congr 1; omega
    rw [e]
    congr 1
    rw [Nat.mul_assoc, Nat.mul_assoc, Nat.mul_left_comm x]
  rw [h1, h, Nat.add_mul, ← hB, h2, ← Nat.add_assoc, Nat.add_mul_mod_self_left, Nat.add_mod, h0, ← hB, ← Nat.add_mod]
theorem to_in (a b : List Nat) (ha : a.length = 4) (ha2 : ∀ x ∈ a, x < 18446744073709551616) (hb : b.length = 4) (hb2 : ∀ x ∈ b, x < 18446744073709551616) (hr : res = fe (vF a * vF b)) :
    ∀ d i, 4 - i = d → i ≤ 4 → ∀ z : List Nat, z.length = 4 → (∀ x ∈ z, x < 18446744073709551616) → vl 18446744073709551616 z % 18446744073709551616 ^ 4 = vl 18446744073709551616 (a.take i) * vF b % 18446744073709551616 ^ 4 →
      Hold Try.prog (bodyOf Try.f78) (Fin Try.prog Try.f78 w0 S res) w0 S stTo (sTo a b z i) := by
  intro d
  induction d using Nat.strongRecOn with
  | _ d ih =>
  intro i hd hi z hz hz2 hv
  have hend : ¬ i < 4 → SV.arr .u64 4 z = fe (vF a * vF b) := fun h => by
    rw [show i = 4 by omega, List.take_of_length_le (by omega)] at hv
    unfold fe
    rw [← dF_vF ⟨hz, hz2⟩]
    exact congrArg (SV.arr .u64 4) (dF_congr hv)
  refine hold_unroll (c := _) rfl ?_
  rcases Bool.eq_false_or_eq_true (Decidable.decide (i < (4 : Nat))) with hc0 | hc0
  · have hd0 := of_decide_eq_true hc0
    refine hold_cut mixed okM1a (unroll := false) (f := 300) (sc := [true]) (ks := [2,3,4,5,6,7,8,12]) (bs := [0,1,2,3]) (nx := 4) (st' := [Go.Eng.It.lp [(0 : Nat), (1 : Nat), (1 : Nat), (1 : Nat), (0 : Nat), (0 : Nat), (1 : Nat), (1 : Nat), (0 : Nat), (0 : Nat), (1 : Nat), (0 : Nat), (1 : Nat), (1 : Nat)], Go.Eng.It.blk (2 : Nat), Go.Eng.It.blk (1 : Nat), Go.Eng.It.at [(1 : Nat), (1 : Nat), (1 : Nat), (0 : Nat), (0 : Nat), (1 : Nat), (0 : Nat), (1 : Nat), (1 : Nat)], Go.Eng.It.lp [(0 : Nat), (1 : Nat), (0 : Nat), (1 : Nat), (1 : Nat)], Go.Eng.It.blk (0 : Nat), Go.Eng.It.at [(1 : Nat), (1 : Nat), (1 : Nat)]]) (σ' := { nt := (59 : Nat), slots := [((2 : Nat), Go.Eng.SV.ptr (0 : Nat) (0 : Nat) (Go.Eng.Ix.c (0 : Nat))), ((3 : Nat), Go.Eng.SV.ptr (1 : Nat) (0 : Nat) (Go.Eng.Ix.c (0 : Nat))), ((4 : Nat), Go.Eng.SV.ptr (2 : Nat) (0 : Nat) (Go.Eng.Ix.c (0 : Nat))), ((5 : Nat), Go.Eng.SV.ptr (3 : Nat) (0 : Nat) (Go.Eng.Ix.c (0 : Nat))), ((6 : Nat), Go.Eng.SV.u Go.IntKind.i64 i), ((7 : Nat), Go.Eng.SV.c Go.IntKind.u64 (0 : Int)), ((8 : Nat), Go.Eng.SV.c Go.IntKind.i64 (0 : Int)), ((12 : Nat), Go.Eng.SV.u Go.IntKind.i64 i)], blks := [((0 : Nat), { ty := W4, segs := [Go.Eng.SV.arr Go.IntKind.u64 (4 : Nat) a] }), ((1 : Nat), { ty := W4, segs := [Go.Eng.SV.arr Go.IntKind.u64 (4 : Nat) b] }), ((2 : Nat), { ty := W4, segs := [Go.Eng.SV.arr Go.IntKind.u64 (4 : Nat) [(0 : Nat), (0 : Nat), (0 : Nat), (0 : Nat)]] }), ((3 : Nat), { ty := W4, segs := [Go.Eng.SV.arr Go.IntKind.u64 (4 : Nat) z] })], next := (4 : Nat) }) (ob := [Decidable.decide (i < (4 : Nat)) = Bool.true]) (sc' := []) (by kernel_rfl) ?_ ?_
    · exact ⟨hc0, trivial⟩
    · exact Hold.weaken (ti_in a b z i ha ha2 hb hb2 (by assumption) (fun z' c h1 h2 h3 => ih (4 - (i + 1)) (by omega) (i + 1) rfl (by omega) z' h1 h2 (by rw [vl_take _ a i (by omega)]; exact row_mod (by assumption) hb h3 rfl hv)) _ 0 rfl (by omega) z 0 hz hz2 (by decide) (by simp [vl])) (by simp [wks, wk, wk0, lim, sTi])
  · have hd0 := of_decide_eq_false hc0
    refine hold_endw mixed okM1a (unroll := false) (f := 300) (sc := [false]) (r := (Go.Eng.SV.arr Go.IntKind.u64 (4 : Nat) z)) (ob := [Decidable.decide (i < (4 : Nat)) = Bool.false]) (sc' := []) (by kernel_rfl) ?_ ?_
    · exact ⟨hc0, trivial⟩
    · rw [hr, hend (by assumption)]; exact wkR_of rfl
theorem times_c (a b : List Nat) : Contract Try.prog 78 [.arr .u64 4 a, .arr .u64 4 b] (fe (vF a * vF b)) := by
  refine contract Try.func78 (body := bodyOf Try.f78) rfl (by kernel_rfl) (by kernel_rfl) rfl ?_
  rintro ⟨ha, hb, _⟩ w0 S
  refine hold_cut mixed okM1a (unroll := false) (f := 100) (sc := []) (ks := [2,3,4,5,12]) (bs := [0,1,2,3]) (nx := 4) (st' := [Go.Eng.It.lp [(0 : Nat), (1 : Nat), (0 : Nat), (1 : Nat), (1 : Nat)], Go.Eng.It.blk (0 : Nat), Go.Eng.It.at [(1 : Nat), (1 : Nat), (1 : Nat)]]) (σ' := { nt := (59 : Nat), slots := [((2 : Nat), Go.Eng.SV.ptr (0 : Nat) (0 : Nat) (Go.Eng.Ix.c (0 : Nat))), ((3 : Nat), Go.Eng.SV.ptr (1 : Nat) (0 : Nat) (Go.Eng.Ix.c (0 : Nat))), ((4 : Nat), Go.Eng.SV.ptr (2 : Nat) (0 : Nat) (Go.Eng.Ix.c (0 : Nat))), ((5 : Nat), Go.Eng.SV.ptr (3 : Nat) (0 : Nat) (Go.Eng.Ix.c (0 : Nat))), ((12 : Nat), Go.Eng.SV.c Go.IntKind.i64 (0 : Int))], blks := [((0 : Nat), { ty := (98 : Nat), segs := [Go.Eng.SV.arr Go.IntKind.u64 (4 : Nat) a] }), ((1 : Nat), { ty := (98 : Nat), segs := [Go.Eng.SV.arr Go.IntKind.u64 (4 : Nat) b] }), ((2 : Nat), { ty := (98 : Nat), segs := [Go.Eng.SV.arr Go.IntKind.u64 (4 : Nat) [(0 : Nat), (0 : Nat), (0 : Nat), (0 : Nat)]] }), ((3 : Nat), { ty := (98 : Nat), segs := [Go.Eng.SV.arr Go.IntKind.u64 (4 : Nat) [(0 : Nat), (0 : Nat), (0 : Nat), (0 : Nat)]] })], next := (4 : Nat) }) (ob := []) (sc' := []) (by kernel_rfl) trivial ?_
  exact Hold.weaken (to_in a b ha.1 ha.2 hb.1 hb.2 rfl _ 0 rfl (Nat.zero_le _) [0,0,0,0] rfl (by decide) (by simp [vl])) (by simp [wks, wk, wk0, lim, sTo])
end
def eTimes (args : List SV) : Option (SV × List Prop) :=
  match args with
  | [.arr .u64 4 a, .arr .u64 4 b] => some (fe (vF a * vF b), [])
  | _ => none
theorem cTimes : ∀ args res ob, eTimes args = some (res, ob) → All ob → Contract Try.prog 78 args res := by
  intro args res ob h _
  unfold eTimes at h
  split at h
  · cases h; exact times_c _ _
  · cases h
end Go.Eng.B

namespace Go.Eng
open Go.RowKit
def inl (P : Program) (T : Ctr) (fn : Func) (fuel : Nat) (args : List SV) : Option (SV × List Prop) :=
  if (idss args).isEmpty && Nat.ble args.length fn.ntmps then
    match runR P T (bodyOf fn) fn.results true fuel [.at []] (initSt args fn.ntmps) [] with
    | ([], some r, ob, _) => some (r, ob)
    | _ => none
  else none
theorem inl_ok {P : Program} {T : Ctr} {f : FuncId} {fn : Func} {fuel : Nat} (hm : P.follows .mixedOrders = true) (hf : P.funcs[f]? = some fn) (hb : fn.body.isSome = true) (hname : (fn.name == "runtime.NumGoroutine") = false) (hT : CtrOk P T) :
    ∀ args res ob, inl P T fn fuel args = some (res, ob) → All ob → Contract P f args res := by
  intro args res ob h hob
  unfold inl at h
  split at h
  · rename_i hc
    simp only [Bool.and_eq_true, List.isEmpty_iff] at hc
    split at h
    · rename_i r ob' sc' hr
      cases h
      refine contract (body := bodyOf fn) hf ?_ hname hc.2 hc.1 fun _ w0 S => hold_end hm hT hr hob rfl
      unfold bodyOf
      cases hbd : fn.body with
      | none => rw [hbd] at hb; cases hb
      | some b => rfl
    · cases h
  · cases h
end Go.Eng

namespace Go.Eng.B
open Go Go.Eng Go.Proofs
set_option maxRecDepth 100000
def lessL (a b : List Nat) : Bool := if a.getD 3 0 ≠ b.getD 3 0 then decide (a.getD 3 0 < b.getD 3 0) else if a.getD 2 0 ≠ b.getD 2 0 then decide (a.getD 2 0 < b.getD 2 0) else if a.getD 1 0 ≠ b.getD 1 0 then decide (a.getD 1 0 < b.getD 1 0) else decide (a.getD 0 0 < b.getD 0 0)
theorem less_c (a b : List Nat) : Contract Try.prog 69 [.arr .u64 4 a, .arr .u64 4 b] (.b (lessL a b)) := by
  refine contract Try.func69 (body := bodyOf Try.f69) rfl (by kernel_rfl) (by kernel_rfl) rfl ?_
  rintro ⟨ha, hb, _⟩ w0 S
  rcases Bool.eq_false_or_eq_true (a.getD (3 : Nat) (0 : Nat) != b.getD (3 : Nat) (0 : Nat)) with hc0 | hc0
  · have hd0 := bne_iff_ne.mp hc0
    refine hold_endw mixed okM1a (unroll := true) (f := 300) (sc := [true]) (r := (Go.Eng.SV.b (Decidable.decide (a.getD (3 : Nat) (0 : Nat) < b.getD (3 : Nat) (0 : Nat))))) (ob := [(a.getD (3 : Nat) (0 : Nat) != b.getD (3 : Nat) (0 : Nat)) = Bool.true]) (sc' := []) (by kernel_rfl) ?_ ?_
    · exact ⟨hc0, trivial⟩
    · (simp_all [lessL, wkR, wkl, wk, wk0, wka]; try omega)
  · have hd0 := bne_eq_false_iff_eq.mp hc0
    rcases Bool.eq_false_or_eq_true (a.getD (2 : Nat) (0 : Nat) != b.getD (2 : Nat) (0 : Nat)) with hc1 | hc1
    · have hd1 := bne_iff_ne.mp hc1
      refine hold_endw mixed okM1a (unroll := true) (f := 300) (sc := [false, true]) (r := (Go.Eng.SV.b (Decidable.decide (a.getD (2 : Nat) (0 : Nat) < b.getD (2 : Nat) (0 : Nat))))) (ob := [(a.getD (3 : Nat) (0 : Nat) != b.getD (3 : Nat) (0 : Nat)) = Bool.false, (a.getD (2 : Nat) (0 : Nat) != b.getD (2 : Nat) (0 : Nat)) = Bool.true]) (sc' := []) (by kernel_rfl) ?_ ?_
      · exact ⟨hc0, hc1, trivial⟩
      · (simp_all [lessL, wkR, wkl, wk, wk0, wka]; try omega)
    · have hd1 := bne_eq_false_iff_eq.mp hc1
      rcases Bool.eq_false_or_eq_true (a.getD (1 : Nat) (0 : Nat) != b.getD (1 : Nat) (0 : Nat)) with hc2 | hc2
      · have hd2 := bne_iff_ne.mp hc2
        refine hold_endw mixed okM1a (unroll := true) (f := 300) (sc := [false, false, true]) (r := (Go.Eng.SV.b (Decidable.decide (a.getD (1 : Nat) (0 : Nat) < b.getD (1 : Nat) (0 : Nat))))) (ob := [(a.getD (3 : Nat) (0 : Nat) != b.getD (3 : Nat) (0 : Nat)) = Bool.false, (a.getD (2 : Nat) (0 : Nat) != b.getD (2 : Nat) (0 : Nat)) = Bool.false, (a.getD (1 : Nat) (0 : Nat) != b.getD (1 : Nat) (0 : Nat)) = Bool.true]) (sc' := []) (by kernel_rfl) ?_ ?_
        · exact ⟨hc0, hc1, hc2, trivial⟩
        · (simp_all [lessL, wkR, wkl, wk, wk0, wka]; try omega)
      · have hd2 := bne_eq_false_iff_eq.mp hc2
        rcases Bool.eq_false_or_eq_true (a.getD (0 : Nat) (0 : Nat) != b.getD (0 : Nat) (0 : Nat)) with hc3 | hc3
        · have hd3 := bne_iff_ne.mp hc3
          refine hold_endw mixed okM1a (unroll := true) (f := 300) (sc := [false, false, false, true]) (r := (Go.Eng.SV.b (Decidable.decide (a.getD (0 : Nat) (0 : Nat) < b.getD (0 : Nat) (0 : Nat))))) (ob := [(a.getD (3 : Nat) (0 : Nat) != b.getD (3 : Nat) (0 : Nat)) = Bool.false, (a.getD (2 : Nat) (0 : Nat) != b.getD (2 : Nat) (0 : Nat)) = Bool.false, (a.getD (1 : Nat) (0 : Nat) != b.getD (1 : Nat) (0 : Nat)) = Bool.false, (a.getD (0 : Nat) (0 : Nat) != b.getD (0 : Nat) (0 : Nat)) = Bool.true]) (sc' := []) (by kernel_rfl) ?_ ?_
          · exact ⟨hc0, hc1, hc2, hc3, trivial⟩
          · (simp_all [lessL, wkR, wkl, wk, wk0, wka]; try omega)
        · have hd3 := bne_eq_false_iff_eq.mp hc3
          refine hold_endw mixed okM1a (unroll := true) (f := 300) (sc := [false, false, false, false]) (r := (Go.Eng.SV.cb Bool.false)) (ob := [(a.getD (3 : Nat) (0 : Nat) != b.getD (3 : Nat) (0 : Nat)) = Bool.false, (a.getD (2 : Nat) (0 : Nat) != b.getD (2 : Nat) (0 : Nat)) = Bool.false, (a.getD (1 : Nat) (0 : Nat) != b.getD (1 : Nat) (0 : Nat)) = Bool.false, (a.getD (0 : Nat) (0 : Nat) != b.getD (0 : Nat) (0 : Nat)) = Bool.false]) (sc' := []) (by kernel_rfl) ?_ ?_
          · exact ⟨hc0, hc1, hc2, hc3, trivial⟩
          · (simp_all [lessL, wkR, wkl, wk, wk0, wka]; try omega)
def eLess (args : List SV) : Option (SV × List Prop) :=
  match args with
  | [.arr .u64 4 a, .arr .u64 4 b] => some (if lessL a b then .cb true else .cb false, [])
  | _ => none
theorem Contract.weak {P : Program} {f : FuncId} {args : List SV} {r r' : SV} (h : Contract P f args r) (hw : wk r r') : Contract P f args r' :=
  fun w S vs hlt hvs => by
    have h := h w S vs hlt hvs
    unfold Invokes at h ⊢
    split at h
    · exact ⟨h.1, wk_ok hw h.2⟩
    · exact h.mono fun _ _ ⟨v, h1, h2, h3⟩ => ⟨v, h1, h2, wk_ok hw h3⟩
    · exact h
theorem cLess : ∀ args res ob, eLess args = some (res, ob) → All ob → Contract Try.prog 69 args res := by
  intro args res ob h _
  unfold eLess at h
  split at h
  · cases h
    refine Contract.weak (less_c _ _) ?_
    cases lessL _ _ <;> simp [wk, wk0, wka]
  · cases h
def eCar (t : List SV → Option (SV × List Prop)) (args : List SV) : Option (SV × List Prop) :=
  match args with
  | [x, y, c] => match c.nat? with
    | some (.u64, n) => if Nat.ble n 1 then match t [x, y, c] with
      | some (r, _) => some (r, [])
      | none => none
      else none
    | _ => none
  | _ => none
theorem cAddC : ∀ args res ob, eCar tAdd64 args = some (res, ob) → All ob → Contract Try.prog 80 args res := by
  intro args res ob h _
  unfold eCar at h
  split at h
  · split at h
    · rename_i x y c n hn
      split at h
      · rename_i hle
        split at h
        · rename_i r ob' ht
          cases h
          refine cAdd64 _ _ _ ht ?_
          unfold tAdd64 at ht
          simp only [hn] at ht
          split at ht
          · rename_i hc; cases ht; cases hc; exact ⟨Nat.le_of_ble_eq_true hle, trivial⟩
          · cases ht
        · cases h
      · cases h
    · cases h
  · cases h
theorem cSubC : ∀ args res ob, eCar tSub64 args = some (res, ob) → All ob → Contract Try.prog 79 args res := by
  intro args res ob h _
  unfold eCar at h
  split at h
  · split at h
    · rename_i x y c n hn
      split at h
      · rename_i hle
        split at h
        · rename_i r ob' ht
          cases h
          refine cSub64 _ _ _ ht ?_
          unfold tSub64 at ht
          simp only [hn] at ht
          split at ht
          · rename_i hc; cases ht; cases hc; exact ⟨Nat.le_of_ble_eq_true hle, trivial⟩
          · cases ht
        · cases h
      · cases h
    · cases h
  · cases h
def K0 : Ctr := addC 79 (eCar tSub64) (addC 80 (eCar tAdd64) (addC 69 eLess (addC 78 eTimes M1a)))
def K1 (P : Program) (sq fl nan ab : Func) : Ctr := addC 64 (inl P K0 sq 50) (addC 66 (inl P K0 fl 50) (addC 81 (inl P K0 nan 50) (addC 87 (inl P K0 ab 50) K0)))
def K2 (P : Program) (sq fl nan ab inf : Func) : Ctr := addC 82 (inl P (K1 P sq fl nan ab) inf 50) (K1 P sq fl nan ab)
def K3 (P : Program) (sq fl nan ab inf cb : Func) : Ctr := addC 75 (inl P (K2 P sq fl nan ab inf) cb 400) (K2 P sq fl nan ab inf)
def K4 (P : Program) (sq fl nan ab inf cb cbt : Func) : Ctr := addC 65 (inl P (K3 P sq fl nan ab inf cb) cbt 50) (K3 P sq fl nan ab inf cb)
def K5 (P : Program) (flo min rai low : Func) (T : Ctr) : Ctr := addC 67 (inl P T flo 400) (addC 71 (inl P T min 400) (addC 72 (inl P T rai 100) (addC 70 (inl P T low 100) T)))
def K6 (P : Program) (pow : Func) (T : Ctr) : Ctr := addC 68 (inl P T pow 400) T
def frOk (P : Program) (sq fl nan ab inf cb cbt flo min rai low pow fr : Func) (p n r : Nat) : Bool :=
  match inl P (K6 P pow (K5 P flo min rai low (K4 P sq fl nan ab inf cb cbt))) fr 2000 [.c .u64 p, .c .i64 n] with
  | some (.u .u64 v, []) => Nat.beq v r
  | _ => false
noncomputable def T6 : Ctr := K6 Try.prog Try.f68 (K5 Try.prog Try.f67  Try.f71 Try.f72 Try.f70 (K4 Try.prog Try.f64 Try.f66 Try.f81 Try.f87 Try.f82 Try.f75 Try.f65))
noncomputable def frT (p n r : Nat) : Bool := frOk Try.prog Try.f64 Try.f66 Try.f81 Try.f87 Try.f82 Try.f75 Try.f65 Try.f67 Try.f71 Try.f72 Try.f70 Try.f68 Try.f61 p n r
end Go.Eng.B

namespace Go.Eng.B
open Go Go.Eng Go.Proofs
set_option maxRecDepth 100000
def pL : List Nat := [2, 3, 5, 7, 11, 13, 17, 19, 23, 29, 31, 37, 41, 43, 47, 53, 59, 61, 67, 71, 73, 79, 83, 89, 97, 101, 103, 107, 109, 113, 127, 131, 137, 139, 149, 151, 157, 163, 167, 173, 179, 181, 191, 193, 197, 199, 211, 223, 227, 229, 233, 239, 241, 251, 257, 263, 269, 271, 277, 281, 283, 293, 307, 311, 313, 317, 331, 337, 347, 349, 353, 359, 367, 373, 379, 383, 389, 397, 401, 409]
def primS (l : List Nat) (p : Nat) : List Nat := if l.all (fun q => decide (p % q ≠ 0)) then l ++ [p] else l
def prim : Nat → Nat → List Nat → Nat → List Nat
  | 0, _, l, _ => l
  | f + 1, n, l, p => if l.length < n then prim f n (primS l p) (p + 1) else l
def primN (n : Nat) : List Nat := prim 500 n [] 2
def stPo : List It := [.lp [0, 1, 0, 1, 1], .blk 0, .at [1, 1, 1]]
def stPi : List It := .lp [0, 1, 0, 1, 0, 0, 1, 0, 0, 1, 0, 1, 1] :: .blk 2 :: .at [1, 1, 0, 0, 1, 0, 0, 1, 0, 1, 1] :: .blk 1 :: .at [1, 1, 0, 0, 1, 0, 1, 1] :: stPo
def sPo (l : List Nat) (p n : Nat) : St := ⟨34, [(0, .u .i64 n), (3, .row 0 (.sl .u64 l)), (4, .u .u64 p)], [(0, ⟨22, [], true⟩)], 3, 0⟩
def sPi (l : List Nat) (p n i : Nat) (x : Bool) : St := ⟨34, [(0, .u .i64 n), (3, .row 0 (.sl .u64 l)), (4, .u .u64 p), (5, .b x), (14, .row 0 (.sl .u64 l)), (15, .u .i64 l.length), (16, .u .i64 i)], [(0, ⟨22, [], true⟩)], 3, 0⟩
theorem primS_pos {l : List Nat} {p : Nat} (hp : p ≠ 0) (h : ∀ q ∈ l, q ≠ 0) : ∀ q ∈ primS l p, q ≠ 0 := by
  intro q hq
  unfold primS at hq
  split at hq
  · rcases List.mem_append.1 hq with hq | hq
    · exact h q hq
    · simp only [List.mem_singleton] at hq; omega
  · exact h q hq
theorem all_take {l : List Nat} {f : Nat → Bool} {i : Nat} (h : i < l.length) : (l.take (i + 1)).all f = ((l.take i).all f && f (l.getD i 0)) := by
  rw [List.take_add_one, List.all_append, List.getD_eq_getElem?_getD, List.getElem?_eq_getElem h]
  simp
theorem ne_dec (a : Nat) : (a != 0) = (true && decide (a ≠ 0)) := by
  by_cases h : a = 0 <;> simp [h]
section
variable {w0 : World} {S : Own} {res : SV}
theorem pr_in (l : List Nat) (p n : Nat) (hn : n ≤ 80) (hp : p < 1000) (hl : l.length < n) (h0 : ∀ q ∈ l, q ≠ 0)
    (hk : Hold Try.prog (bodyOf Try.f60) (Fin Try.prog Try.f60 w0 S res) w0 S stPo (sPo (primS l p) (p + 1) n)) :
    ∀ d i, l.length - i = d → i ≤ l.length → ∀ x : Bool, x = (l.take i).all (fun q => decide (p % q ≠ 0)) →
    Hold Try.prog (bodyOf Try.f60) (Fin Try.prog Try.f60 w0 S res) w0 S stPi (sPi l p n i x) := by
  intro d
  induction d using Nat.strongRecOn with
  | _ d ih =>
  intro i hd hi x hx
  have hq : i < l.length → l.getD i 0 ≠ 0 := fun h => by
    rw [List.getD_eq_getElem?_getD, List.getElem?_eq_getElem h]
    exact h0 _ (List.getElem_mem h)
  have hend : ¬ i < l.length → x = l.all (fun q => decide (p % q ≠ 0)) := fun h => by rw [hx, List.take_of_length_le (by omega)]
  have hmod : (p + 1) % 18446744073709551616 = p + 1 := Nat.mod_eq_of_lt (by omega)
  refine hold_unroll (c := _) rfl ?_
  rcases Bool.eq_false_or_eq_true (Decidable.decide (i < l.length)) with hc0 | hc0
  · have hd0 := of_decide_eq_true hc0
    rcases Bool.eq_false_or_eq_true (x) with hc1 | hc1
    · refine hold_cut mixed ctr0_ok (unroll := false) (f := 200) (sc := [true, true]) (ks := [0,3,4,5,14,15,16]) (bs := [0]) (nx := 3) (st' := [Go.Eng.It.lp [(0 : Nat), (1 : Nat), (0 : Nat), (1 : Nat), (0 : Nat), (0 : Nat), (1 : Nat), (0 : Nat), (0 : Nat), (1 : Nat), (0 : Nat), (1 : Nat), (1 : Nat)], Go.Eng.It.blk (2 : Nat), Go.Eng.It.at [(1 : Nat), (1 : Nat), (0 : Nat), (0 : Nat), (1 : Nat), (0 : Nat), (0 : Nat), (1 : Nat), (0 : Nat), (1 : Nat), (1 : Nat)], Go.Eng.It.blk (1 : Nat), Go.Eng.It.at [(1 : Nat), (1 : Nat), (0 : Nat), (0 : Nat), (1 : Nat), (0 : Nat), (1 : Nat), (1 : Nat)], Go.Eng.It.lp [(0 : Nat), (1 : Nat), (0 : Nat), (1 : Nat), (1 : Nat)], Go.Eng.It.blk (0 : Nat), Go.Eng.It.at [(1 : Nat), (1 : Nat), (1 : Nat)]]) (σ' := { nt := (34 : Nat), slots := [((0 : Nat), Go.Eng.SV.u Go.IntKind.i64 n), ((3 : Nat), Go.Eng.SV.row (0 : Nat) (Go.Eng.SV.sl Go.IntKind.u64 l)), ((4 : Nat), Go.Eng.SV.u Go.IntKind.u64 p), ((5 : Nat), Go.Eng.SV.b (p % l.getD i (0 : Nat) != (0 : Nat))), ((14 : Nat), Go.Eng.SV.row (0 : Nat) (Go.Eng.SV.sl Go.IntKind.u64 l)), ((15 : Nat), Go.Eng.SV.u Go.IntKind.i64 l.length), ((16 : Nat), Go.Eng.SV.u Go.IntKind.i64 (i + (1 : Nat)))], blks := [((0 : Nat), { ty := (22 : Nat), segs := [], row := Bool.true })], next := (3 : Nat) }) (ob := [Decidable.decide (i < l.length) = Bool.true, i < l.length, x = Bool.true, l.getD i (0 : Nat) ≠ (0 : Nat), i + (1 : Nat) < (9223372036854775808 : Nat)]) (sc' := []) (by kernel_rfl) ?_ ?_
      · exact ⟨hc0, (by first | trivial | omega | assumption | (simp [slenD, SV.slen]; omega)), hc1, (by first | trivial | omega | assumption | (simp [slenD, SV.slen]; omega)), (by first | trivial | omega | assumption | (simp [slenD, SV.slen]; omega)), trivial⟩
      · first | exact Hold.weaken (ih (l.length - (i + 1)) (by omega) (i + 1) rfl (by omega) (p % l.getD i 0 != 0) (by rw [all_take (by omega), ← hx, hc1]; exact ne_dec _)) (by simp [wks, wk, wk0, lim, sPi]) | exact Hold.weaken (ih (l.length - (i + 1)) (by omega) (i + 1) rfl (by omega) false (by rw [all_take (by omega), ← hx, hc1]; rfl)) (by simp [wks, wk, wk0, lim, sPi]) | (rw [hmod]; refine hold_restrict (ks := [0,3,4]) (bs := [0]) (nx := 3) rfl ?_; have e : primS l p = l ++ [p] := (by unfold primS; rw [← hend (by omega), hc1]; rfl); rw [e] at hk; exact Hold.weaken hk (by simp [wks, wk, wk0, lim, sPo])) | (rw [hmod]; refine hold_restrict (ks := [0,3,4]) (bs := [0]) (nx := 3) rfl ?_; have e : primS l p = l := (by unfold primS; rw [← hend (by omega), hc1]; rfl); rw [e] at hk; exact Hold.weaken hk (by simp [wks, wk, wk0, lim, sPo]))
    · refine hold_cut mixed ctr0_ok (unroll := false) (f := 200) (sc := [true, false]) (ks := [0,3,4,5,14,15,16]) (bs := [0]) (nx := 3) (st' := [Go.Eng.It.lp [(0 : Nat), (1 : Nat), (0 : Nat), (1 : Nat), (0 : Nat), (0 : Nat), (1 : Nat), (0 : Nat), (0 : Nat), (1 : Nat), (0 : Nat), (1 : Nat), (1 : Nat)], Go.Eng.It.blk (2 : Nat), Go.Eng.It.at [(1 : Nat), (1 : Nat), (0 : Nat), (0 : Nat), (1 : Nat), (0 : Nat), (0 : Nat), (1 : Nat), (0 : Nat), (1 : Nat), (1 : Nat)], Go.Eng.It.blk (1 : Nat), Go.Eng.It.at [(1 : Nat), (1 : Nat), (0 : Nat), (0 : Nat), (1 : Nat), (0 : Nat), (1 : Nat), (1 : Nat)], Go.Eng.It.lp [(0 : Nat), (1 : Nat), (0 : Nat), (1 : Nat), (1 : Nat)], Go.Eng.It.blk (0 : Nat), Go.Eng.It.at [(1 : Nat), (1 : Nat), (1 : Nat)]]) (σ' := { nt := (34 : Nat), slots := [((0 : Nat), Go.Eng.SV.u Go.IntKind.i64 n), ((3 : Nat), Go.Eng.SV.row (0 : Nat) (Go.Eng.SV.sl Go.IntKind.u64 l)), ((4 : Nat), Go.Eng.SV.u Go.IntKind.u64 p), ((5 : Nat), Go.Eng.SV.cb Bool.false), ((14 : Nat), Go.Eng.SV.row (0 : Nat) (Go.Eng.SV.sl Go.IntKind.u64 l)), ((15 : Nat), Go.Eng.SV.u Go.IntKind.i64 l.length), ((16 : Nat), Go.Eng.SV.u Go.IntKind.i64 (i + (1 : Nat)))], blks := [((0 : Nat), { ty := (22 : Nat), segs := [], row := Bool.true })], next := (3 : Nat) }) (ob := [Decidable.decide (i < l.length) = Bool.true, i < l.length, x = Bool.false, i + (1 : Nat) < (9223372036854775808 : Nat)]) (sc' := []) (by kernel_rfl) ?_ ?_
      · exact ⟨hc0, (by first | trivial | omega | assumption | (simp [slenD, SV.slen]; omega)), hc1, (by first | trivial | omega | assumption | (simp [slenD, SV.slen]; omega)), trivial⟩
      · first | exact Hold.weaken (ih (l.length - (i + 1)) (by omega) (i + 1) rfl (by omega) (p % l.getD i 0 != 0) (by rw [all_take (by omega), ← hx, hc1]; exact ne_dec _)) (by simp [wks, wk, wk0, lim, sPi]) | exact Hold.weaken (ih (l.length - (i + 1)) (by omega) (i + 1) rfl (by omega) false (by rw [all_take (by omega), ← hx, hc1]; rfl)) (by simp [wks, wk, wk0, lim, sPi]) | (rw [hmod]; refine hold_restrict (ks := [0,3,4]) (bs := [0]) (nx := 3) rfl ?_; have e : primS l p = l ++ [p] := (by unfold primS; rw [← hend (by omega), hc1]; rfl); rw [e] at hk; exact Hold.weaken hk (by simp [wks, wk, wk0, lim, sPo])) | (rw [hmod]; refine hold_restrict (ks := [0,3,4]) (bs := [0]) (nx := 3) rfl ?_; have e : primS l p = l := (by unfold primS; rw [← hend (by omega), hc1]; rfl); rw [e] at hk; exact Hold.weaken hk (by simp [wks, wk, wk0, lim, sPo]))
  · have hd0 := of_decide_eq_false hc0
    rcases Bool.eq_false_or_eq_true (x) with hc1 | hc1
    · refine hold_cut mixed ctr0_ok (unroll := false) (f := 200) (sc := [false, true]) (ks := [0,3,4,5,14,15,16]) (bs := [0]) (nx := 3) (st' := [Go.Eng.It.lp [(0 : Nat), (1 : Nat), (0 : Nat), (1 : Nat), (1 : Nat)], Go.Eng.It.blk (0 : Nat), Go.Eng.It.at [(1 : Nat), (1 : Nat), (1 : Nat)]]) (σ' := { nt := (34 : Nat), slots := [((0 : Nat), Go.Eng.SV.u Go.IntKind.i64 n), ((3 : Nat), Go.Eng.SV.row (0 : Nat) (Go.Eng.SV.sl Go.IntKind.u64 (l ++ [p]))), ((4 : Nat), Go.Eng.SV.u Go.IntKind.u64 ((p + (1 : Nat)) % (18446744073709551616 : Nat))), ((5 : Nat), Go.Eng.SV.b x), ((14 : Nat), Go.Eng.SV.sl Go.IntKind.u64 l), ((15 : Nat), Go.Eng.SV.u Go.IntKind.i64 l.length), ((16 : Nat), Go.Eng.SV.u Go.IntKind.i64 i)], blks := [((0 : Nat), { ty := (22 : Nat), segs := [], row := Bool.true })], next := (3 : Nat) }) (ob := [Decidable.decide (i < l.length) = Bool.false, x = Bool.true, Go.Eng.slenD (Go.Eng.SV.sl Go.IntKind.u64 (l ++ [p])) * (8 : Nat) ≤ (140737488355328 : Nat)]) (sc' := []) (by kernel_rfl) ?_ ?_
      · exact ⟨hc0, hc1, (by first | trivial | omega | assumption | (simp [slenD, SV.slen]; omega)), trivial⟩
      · first | exact Hold.weaken (ih (l.length - (i + 1)) (by omega) (i + 1) rfl (by omega) (p % l.getD i 0 != 0) (by rw [all_take (by omega), ← hx, hc1]; exact ne_dec _)) (by simp [wks, wk, wk0, lim, sPi]) | exact Hold.weaken (ih (l.length - (i + 1)) (by omega) (i + 1) rfl (by omega) false (by rw [all_take (by omega), ← hx, hc1]; rfl)) (by simp [wks, wk, wk0, lim, sPi]) | (rw [hmod]; refine hold_restrict (ks := [0,3,4]) (bs := [0]) (nx := 3) rfl ?_; have e : primS l p = l ++ [p] := (by unfold primS; rw [← hend (by omega), hc1]; rfl); rw [e] at hk; exact Hold.weaken hk (by simp [wks, wk, wk0, lim, sPo])) | (rw [hmod]; refine hold_restrict (ks := [0,3,4]) (bs := [0]) (nx := 3) rfl ?_; have e : primS l p = l := (by unfold primS; rw [← hend (by omega), hc1]; rfl); rw [e] at hk; exact Hold.weaken hk (by simp [wks, wk, wk0, lim, sPo]))
    · refine hold_cut mixed ctr0_ok (unroll := false) (f := 200) (sc := [false, false]) (ks := [0,3,4,5,14,15,16]) (bs := [0]) (nx := 3) (st' := [Go.Eng.It.lp [(0 : Nat), (1 : Nat), (0 : Nat), (1 : Nat), (1 : Nat)], Go.Eng.It.blk (0 : Nat), Go.Eng.It.at [(1 : Nat), (1 : Nat), (1 : Nat)]]) (σ' := { nt := (34 : Nat), slots := [((0 : Nat), Go.Eng.SV.u Go.IntKind.i64 n), ((3 : Nat), Go.Eng.SV.row (0 : Nat) (Go.Eng.SV.sl Go.IntKind.u64 l)), ((4 : Nat), Go.Eng.SV.u Go.IntKind.u64 ((p + (1 : Nat)) % (18446744073709551616 : Nat))), ((5 : Nat), Go.Eng.SV.b x), ((14 : Nat), Go.Eng.SV.row (0 : Nat) (Go.Eng.SV.sl Go.IntKind.u64 l)), ((15 : Nat), Go.Eng.SV.u Go.IntKind.i64 l.length), ((16 : Nat), Go.Eng.SV.u Go.IntKind.i64 i)], blks := [((0 : Nat), { ty := (22 : Nat), segs := [], row := Bool.true })], next := (3 : Nat) }) (ob := [Decidable.decide (i < l.length) = Bool.false, x = Bool.false]) (sc' := []) (by kernel_rfl) ?_ ?_
      · exact ⟨hc0, hc1, trivial⟩
      · first | exact Hold.weaken (ih (l.length - (i + 1)) (by omega) (i + 1) rfl (by omega) (p % l.getD i 0 != 0) (by rw [all_take (by omega), ← hx, hc1]; exact ne_dec _)) (by simp [wks, wk, wk0, lim, sPi]) | exact Hold.weaken (ih (l.length - (i + 1)) (by omega) (i + 1) rfl (by omega) false (by rw [all_take (by omega), ← hx, hc1]; rfl)) (by simp [wks, wk, wk0, lim, sPi]) | (rw [hmod]; refine hold_restrict (ks := [0,3,4]) (bs := [0]) (nx := 3) rfl ?_; have e : primS l p = l ++ [p] := (by unfold primS; rw [← hend (by omega), hc1]; rfl); rw [e] at hk; exact Hold.weaken hk (by simp [wks, wk, wk0, lim, sPo])) | (rw [hmod]; refine hold_restrict (ks := [0,3,4]) (bs := [0]) (nx := 3) rfl ?_; have e : primS l p = l := (by unfold primS; rw [← hend (by omega), hc1]; rfl); rw [e] at hk; exact Hold.weaken hk (by simp [wks, wk, wk0, lim, sPo]))
theorem pr_out : ∀ f (l : List Nat) (p n : Nat), n ≤ 80 → p + f < 600 → 1 ≤ p → (∀ q ∈ l, q ≠ 0) → n ≤ (prim f n l p).length → res = .sl .u64 (prim f n l p) →
    Hold Try.prog (bodyOf Try.f60) (Fin Try.prog Try.f60 w0 S res) w0 S stPo (sPo l p n) := by
  intro f
  induction f with
  | zero =>
    intro l p n hn hp hp1 h0 hlen hr
    simp only [prim] at hlen hr
    refine hold_unroll (c := _) rfl ?_
    rcases Bool.eq_false_or_eq_true (Decidable.decide (l.length < n)) with hc0 | hc0
    · have hd0 := of_decide_eq_true hc0
      refine hold_cut mixed ctr0_ok (unroll := false) (f := 200) (sc := [true]) (ks := [0,3,4,5,14,15,16]) (bs := [0]) (nx := 3) (st' := [Go.Eng.It.lp [(0 : Nat), (1 : Nat), (0 : Nat), (1 : Nat), (0 : Nat), (0 : Nat), (1 : Nat), (0 : Nat), (0 : Nat), (1 : Nat), (0 : Nat), (1 : Nat), (1 : Nat)], Go.Eng.It.blk (2 : Nat), Go.Eng.It.at [(1 : Nat), (1 : Nat), (0 : Nat), (0 : Nat), (1 : Nat), (0 : Nat), (0 : Nat), (1 : Nat), (0 : Nat), (1 : Nat), (1 : Nat)], Go.Eng.It.blk (1 : Nat), Go.Eng.It.at [(1 : Nat), (1 : Nat), (0 : Nat), (0 : Nat), (1 : Nat), (0 : Nat), (1 : Nat), (1 : Nat)], Go.Eng.It.lp [(0 : Nat), (1 : Nat), (0 : Nat), (1 : Nat), (1 : Nat)], Go.Eng.It.blk (0 : Nat), Go.Eng.It.at [(1 : Nat), (1 : Nat), (1 : Nat)]]) (σ' := { nt := (34 : Nat), slots := [((0 : Nat), Go.Eng.SV.u Go.IntKind.i64 n), ((3 : Nat), Go.Eng.SV.row (0 : Nat) (Go.Eng.SV.sl Go.IntKind.u64 l)), ((4 : Nat), Go.Eng.SV.u Go.IntKind.u64 p), ((5 : Nat), Go.Eng.SV.cb Bool.true), ((14 : Nat), Go.Eng.SV.row (0 : Nat) (Go.Eng.SV.sl Go.IntKind.u64 l)), ((15 : Nat), Go.Eng.SV.u Go.IntKind.i64 l.length), ((16 : Nat), Go.Eng.SV.c Go.IntKind.i64 (0 : Int))], blks := [((0 : Nat), { ty := (22 : Nat), segs := [], row := Bool.true })], next := (3 : Nat) }) (ob := [Decidable.decide (l.length < n) = Bool.true]) (sc' := []) (by kernel_rfl) ?_ ?_
      · exact ⟨hc0, trivial⟩
      · exact absurd hlen (by omega)
    · have hd0 := of_decide_eq_false hc0
      refine hold_endw mixed ctr0_ok (unroll := false) (f := 200) (sc := [false]) (r := (Go.Eng.SV.sl Go.IntKind.u64 l)) (ob := [Decidable.decide (l.length < n) = Bool.false]) (sc' := []) (by kernel_rfl) ?_ ?_
      · exact ⟨hc0, trivial⟩
      · (subst hr; simp [wkR, wk, wk0])
  | succ f ih =>
    intro l p n hn hp hp1 h0 hlen hr
    simp only [prim] at hlen hr
    have hk : l.length < n → Hold Try.prog (bodyOf Try.f60) (Fin Try.prog Try.f60 w0 S res) w0 S stPo (sPo (primS l p) (p + 1) n) := fun h => by
      rw [if_pos h] at hlen hr
      exact ih (primS l p) (p + 1) n hn (by omega) (by omega) (primS_pos (by omega) h0) hlen hr
    refine hold_unroll (c := _) rfl ?_
    rcases Bool.eq_false_or_eq_true (Decidable.decide (l.length < n)) with hc0 | hc0
    · have hd0 := of_decide_eq_true hc0
      refine hold_cut mixed ctr0_ok (unroll := false) (f := 200) (sc := [true]) (ks := [0,3,4,5,14,15,16]) (bs := [0]) (nx := 3) (st' := [Go.Eng.It.lp [(0 : Nat), (1 : Nat), (0 : Nat), (1 : Nat), (0 : Nat), (0 : Nat), (1 : Nat), (0 : Nat), (0 : Nat), (1 : Nat), (0 : Nat), (1 : Nat), (1 : Nat)], Go.Eng.It.blk (2 : Nat), Go.Eng.It.at [(1 : Nat), (1 : Nat), (0 : Nat), (0 : Nat), (1 : Nat), (0 : Nat), (0 : Nat), (1 : Nat), (0 : Nat), (1 : Nat), (1 : Nat)], Go.Eng.It.blk (1 : Nat), Go.Eng.It.at [(1 : Nat), (1 : Nat), (0 : Nat), (0 : Nat), (1 : Nat), (0 : Nat), (1 : Nat), (1 : Nat)], Go.Eng.It.lp [(0 : Nat), (1 : Nat), (0 : Nat), (1 : Nat), (1 : Nat)], Go.Eng.It.blk (0 : Nat), Go.Eng.It.at [(1 : Nat), (1 : Nat), (1 : Nat)]]) (σ' := { nt := (34 : Nat), slots := [((0 : Nat), Go.Eng.SV.u Go.IntKind.i64 n), ((3 : Nat), Go.Eng.SV.row (0 : Nat) (Go.Eng.SV.sl Go.IntKind.u64 l)), ((4 : Nat), Go.Eng.SV.u Go.IntKind.u64 p), ((5 : Nat), Go.Eng.SV.cb Bool.true), ((14 : Nat), Go.Eng.SV.row (0 : Nat) (Go.Eng.SV.sl Go.IntKind.u64 l)), ((15 : Nat), Go.Eng.SV.u Go.IntKind.i64 l.length), ((16 : Nat), Go.Eng.SV.c Go.IntKind.i64 (0 : Int))], blks := [((0 : Nat), { ty := (22 : Nat), segs := [], row := Bool.true })], next := (3 : Nat) }) (ob := [Decidable.decide (l.length < n) = Bool.true]) (sc' := []) (by kernel_rfl) ?_ ?_
      · exact ⟨hc0, trivial⟩
      · exact Hold.weaken (pr_in l p n hn (by omega) (by omega) h0 (hk (by omega)) _ 0 rfl (Nat.zero_le _) true rfl) (by simp [wks, wk, wk0, lim, sPi])
    · have hd0 := of_decide_eq_false hc0
      refine hold_endw mixed ctr0_ok (unroll := false) (f := 200) (sc := [false]) (r := (Go.Eng.SV.sl Go.IntKind.u64 l)) (ob := [Decidable.decide (l.length < n) = Bool.false]) (sc' := []) (by kernel_rfl) ?_ ?_
      · exact ⟨hc0, trivial⟩
      · (rw [if_neg (by omega)] at hr; subst hr; simp [wkR, wk, wk0])
theorem primes_c (n : Nat) (hn : n ≤ 80) (hlen : n ≤ (primN n).length) : Contract Try.prog 60 [.u .i64 n] (.sl .u64 (primN n)) := by
  refine contract Try.func60 (body := bodyOf Try.f60) rfl (by kernel_rfl) (by kernel_rfl) rfl ?_
  rintro ⟨_, _⟩ w0 S
  refine hold_cut mixed ctr0_ok (unroll := false) (f := 100) (sc := []) (ks := [0,3,4]) (bs := []) (nx := 0) (st' := [Go.Eng.It.lp [(0 : Nat), (1 : Nat), (0 : Nat), (1 : Nat), (1 : Nat)], Go.Eng.It.blk (0 : Nat), Go.Eng.It.at [(1 : Nat), (1 : Nat), (1 : Nat)]]) (σ' := { nt := (34 : Nat), slots := [((0 : Nat), Go.Eng.SV.u Go.IntKind.i64 n), ((3 : Nat), Go.Eng.SV.nil), ((4 : Nat), Go.Eng.SV.c Go.IntKind.u64 (2 : Int))], blks := [], next := (0 : Nat) }) (ob := []) (sc' := []) (by kernel_rfl) trivial ?_
  refine hold_nil (t := 3) (e := 22) (s0 := .sl .u64 []) rfl ?_
  refine hold_restrict (ks := [0,3,4]) (bs := [0]) (nx := 3) rfl ?_
  exact Hold.weaken (pr_out 500 [] 2 n hn (by omega) (by omega) nofun hlen rfl) (by simp [wks, wk, wk0, lim, sPo])
theorem prim64 : primN 64 = pL.take 64 := by kernel_rfl
theorem prim80 : primN 80 = pL := by kernel_rfl
end
end Go.Eng.B

namespace Go.Eng.B
open Go Go.Eng Go.Proofs
set_option maxRecDepth 100000
theorem x3_2 : frT 2 3 4794697086780616226 = true := by kernel_rfl
theorem x3_3 : frT 3 3 8158064640168781261 = true := by kernel_rfl
theorem x3_5 : frT 5 3 13096744586834688815 = true := by kernel_rfl
theorem x3_7 : frT 7 3 16840607885511220156 = true := by kernel_rfl
theorem x3_11 : frT 11 3 4131703408338449720 = true := by kernel_rfl
theorem x3_13 : frT 13 3 6480981068601479193 = true := by kernel_rfl
theorem x3_17 : frT 17 3 10538285296894168987 = true := by kernel_rfl
theorem x3_19 : frT 19 3 12329834152419229976 = true := by kernel_rfl
theorem x3_23 : frT 23 3 15566598209576043074 = true := by kernel_rfl
theorem x3_29 : frT 29 3 1334009975649890238 = true := by kernel_rfl
theorem x3_31 : frT 31 3 2608012711638119052 = true := by kernel_rfl
theorem x3_37 : frT 37 3 6128411473006802146 = true := by kernel_rfl
theorem x3_41 : frT 41 3 8268148722764581231 = true := by kernel_rfl
theorem x3_43 : frT 43 3 9286055187155687089 = true := by kernel_rfl
theorem x3_47 : frT 47 3 11230858885718282805 = true := by kernel_rfl
theorem x3_53 : frT 53 3 13951009754708518548 = true := by kernel_rfl
theorem x3_59 : frT 59 3 16472876342353939154 = true := by kernel_rfl
theorem x3_61 : frT 61 3 17275323862435702243 = true := by kernel_rfl
theorem x3_67 : frT 67 3 1135362057144423861 = true := by kernel_rfl
theorem x3_71 : frT 71 3 2597628984639134821 = true := by kernel_rfl
theorem x2_2 : frT 2 2 7640891576956012808 = true := by kernel_rfl
theorem x2_3 : frT 3 2 13503953896175478587 = true := by kernel_rfl
def t3a : List (Nat × Nat) := [(2, 4794697086780616226), (3, 8158064640168781261), (5, 13096744586834688815), (7, 16840607885511220156), (11, 4131703408338449720), (13, 6480981068601479193), (17, 10538285296894168987), (19, 12329834152419229976), (23, 15566598209576043074), (29, 1334009975649890238), (31, 2608012711638119052), (37, 6128411473006802146), (41, 8268148722764581231), (43, 9286055187155687089), (47, 11230858885718282805), (53, 13951009754708518548), (59, 16472876342353939154), (61, 17275323862435702243), (67, 1135362057144423861), (71, 2597628984639134821)]
theorem t3a_ok : ∀ q ∈ t3a, frT q.1 3 q.2 = true := by
  unfold t3a
  simp only [List.forall_mem_cons]
  exact ⟨x3_2, x3_3, x3_5, x3_7, x3_11, x3_13, x3_17, x3_19, x3_23, x3_29, x3_31, x3_37, x3_41, x3_43, x3_47, x3_53, x3_59, x3_61, x3_67, x3_71, nofun⟩
def t2a : List (Nat × Nat) := [(2, 7640891576956012808), (3, 13503953896175478587)]
theorem t2a_ok : ∀ q ∈ t2a, frT q.1 2 q.2 = true := by
  unfold t2a
  simp only [List.forall_mem_cons]
  exact ⟨x2_2, x2_3, nofun⟩
end Go.Eng.B

namespace Go.Eng.B
open Go Go.Eng Go.Proofs
set_option maxRecDepth 100000
theorem x3_73 : frT 73 3 3308224258029322869 = true := by kernel_rfl
theorem x3_79 : frT 79 3 5365058923640841347 = true := by kernel_rfl
theorem x3_83 : frT 83 3 6679025012923562964 = true := by kernel_rfl
theorem x3_89 : frT 89 3 8573033837759648693 = true := by kernel_rfl
theorem x3_97 : frT 97 3 10970295158949994411 = true := by kernel_rfl
theorem x3_101 : frT 101 3 12119686244451234320 = true := by kernel_rfl
theorem x3_103 : frT 103 3 12683024718118986047 = true := by kernel_rfl
theorem x3_107 : frT 107 3 13788192230050041572 = true := by kernel_rfl
theorem x3_109 : frT 109 3 14330467153632333762 = true := by kernel_rfl
theorem x3_113 : frT 113 3 15395433587784984357 = true := by kernel_rfl
theorem x3_127 : frT 127 3 489312712824947311 = true := by kernel_rfl
theorem x3_131 : frT 131 3 1452737877330783856 = true := by kernel_rfl
theorem x3_137 : frT 137 3 2861767655752347644 = true := by kernel_rfl
theorem x3_139 : frT 139 3 3322285676063803686 = true := by kernel_rfl
theorem x3_149 : frT 149 3 5560940570517711597 = true := by kernel_rfl
theorem x3_151 : frT 151 3 5996557281743188959 = true := by kernel_rfl
theorem x3_157 : frT 157 3 7280758554555802590 = true := by kernel_rfl
theorem x3_163 : frT 163 3 8532644243296465576 = true := by kernel_rfl
theorem x3_167 : frT 167 3 9350256976987008742 = true := by kernel_rfl
theorem x3_173 : frT 173 3 10552545826968843579 = true := by kernel_rfl
theorem x2_5 : frT 5 2 4354685564936845355 = true := by kernel_rfl
theorem x2_7 : frT 7 2 11912009170470909681 = true := by kernel_rfl
def t3b : List (Nat × Nat) := [(73, 3308224258029322869), (79, 5365058923640841347), (83, 6679025012923562964), (89, 8573033837759648693), (97, 10970295158949994411), (101, 12119686244451234320), (103, 12683024718118986047), (107, 13788192230050041572), (109, 14330467153632333762), (113, 15395433587784984357), (127, 489312712824947311), (131, 1452737877330783856), (137, 2861767655752347644), (139, 3322285676063803686), (149, 5560940570517711597), (151, 5996557281743188959), (157, 7280758554555802590), (163, 8532644243296465576), (167, 9350256976987008742), (173, 10552545826968843579)]
theorem t3b_ok : ∀ q ∈ t3b, frT q.1 3 q.2 = true := by
  unfold t3b
  simp only [List.forall_mem_cons]
  exact ⟨x3_73, x3_79, x3_83, x3_89, x3_97, x3_101, x3_103, x3_107, x3_109, x3_113, x3_127, x3_131, x3_137, x3_139, x3_149, x3_151, x3_157, x3_163, x3_167, x3_173, nofun⟩
def t2b : List (Nat × Nat) := [(5, 4354685564936845355), (7, 11912009170470909681)]
theorem t2b_ok : ∀ q ∈ t2b, frT q.1 2 q.2 = true := by
  unfold t2b
  simp only [List.forall_mem_cons]
  exact ⟨x2_5, x2_7, nofun⟩
end Go.Eng.B

namespace Go.Eng.B
open Go Go.Eng Go.Proofs
set_option maxRecDepth 100000
theorem x3_179 : frT 179 3 11727347734174303076 = true := by kernel_rfl
theorem x3_181 : frT 181 3 12113106623233404929 = true := by kernel_rfl
theorem x3_191 : frT 191 3 14000437183269869457 = true := by kernel_rfl
theorem x3_193 : frT 193 3 14369950271660146224 = true := by kernel_rfl
theorem x3_197 : frT 197 3 15101387698204529176 = true := by kernel_rfl
theorem x3_199 : frT 199 3 15463397548674623760 = true := by kernel_rfl
theorem x3_211 : frT 211 3 17586052441742319658 = true := by kernel_rfl
theorem x3_223 : frT 223 3 1182934255886127544 = true := by kernel_rfl
theorem x3_227 : frT 227 3 1847814050463011016 = true := by kernel_rfl
theorem x3_229 : frT 229 3 2177327727835720531 = true := by kernel_rfl
theorem x3_233 : frT 233 3 2830643537854262169 = true := by kernel_rfl
theorem x3_239 : frT 239 3 3796741975233480872 = true := by kernel_rfl
theorem x3_241 : frT 241 3 4115178125766777443 = true := by kernel_rfl
theorem x3_251 : frT 251 3 5681478168544905931 = true := by kernel_rfl
theorem x3_257 : frT 257 3 6601373596472566643 = true := by kernel_rfl
theorem x3_263 : frT 263 3 7507060721942968483 = true := by kernel_rfl
theorem x3_269 : frT 269 3 8399075790359081724 = true := by kernel_rfl
theorem x3_271 : frT 271 3 8693463985226723168 = true := by kernel_rfl
theorem x3_277 : frT 277 3 9568029438360202098 = true := by kernel_rfl
theorem x3_281 : frT 281 3 10144078919501101548 = true := by kernel_rfl
theorem x2_11 : frT 11 2 5840696475078001361 = true := by kernel_rfl
theorem x2_13 : frT 13 2 11170449401992604703 = true := by kernel_rfl
def t3c : List (Nat × Nat) := [(179, 11727347734174303076), (181, 12113106623233404929), (191, 14000437183269869457), (193, 14369950271660146224), (197, 15101387698204529176), (199, 15463397548674623760), (211, 17586052441742319658), (223, 1182934255886127544), (227, 1847814050463011016), (229, 2177327727835720531), (233, 2830643537854262169), (239, 3796741975233480872), (241, 4115178125766777443), (251, 5681478168544905931), (257, 6601373596472566643), (263, 7507060721942968483), (269, 8399075790359081724), (271, 8693463985226723168), (277, 9568029438360202098), (281, 10144078919501101548)]
theorem t3c_ok : ∀ q ∈ t3c, frT q.1 3 q.2 = true := by
  unfold t3c
  simp only [List.forall_mem_cons]
  exact ⟨x3_179, x3_181, x3_191, x3_193, x3_197, x3_199, x3_211, x3_223, x3_227, x3_229, x3_233, x3_239, x3_241, x3_251, x3_257, x3_263, x3_269, x3_271, x3_277, x3_281, nofun⟩
def t2c : List (Nat × Nat) := [(11, 5840696475078001361), (13, 11170449401992604703)]
theorem t2c_ok : ∀ q ∈ t2c, frT q.1 2 q.2 = true := by
  unfold t2c
  simp only [List.forall_mem_cons]
  exact ⟨x2_11, x2_13, nofun⟩
end Go.Eng.B

namespace Go.Eng.B
open Go Go.Eng Go.Proofs
set_option maxRecDepth 100000
theorem x3_283 : frT 283 3 10430055236837252648 = true := by kernel_rfl
theorem x3_293 : frT 293 3 11840083180663258601 = true := by kernel_rfl
theorem x3_307 : frT 307 3 13761210420658862357 = true := by kernel_rfl
theorem x3_311 : frT 311 3 14299343276471374635 = true := by kernel_rfl
theorem x3_313 : frT 313 3 14566680578165727644 = true := by kernel_rfl
theorem x3_317 : frT 317 3 15097957966210449927 = true := by kernel_rfl
theorem x3_331 : frT 331 3 16922976911328602910 = true := by kernel_rfl
theorem x3_337 : frT 337 3 17689382322260857208 = true := by kernel_rfl
theorem x3_347 : frT 347 3 500013540394364858 = true := by kernel_rfl
theorem x3_349 : frT 349 3 748580250866718886 = true := by kernel_rfl
theorem x3_353 : frT 353 3 1242879168328830382 = true := by kernel_rfl
theorem x3_359 : frT 359 3 1977374033974150939 = true := by kernel_rfl
theorem x3_367 : frT 367 3 2944078676154940804 = true := by kernel_rfl
theorem x3_373 : frT 373 3 3659926193048069267 = true := by kernel_rfl
theorem x3_379 : frT 379 3 4368137639120453308 = true := by kernel_rfl
theorem x3_383 : frT 383 3 4836135668995329356 = true := by kernel_rfl
theorem x3_389 : frT 389 3 5532061633213252278 = true := by kernel_rfl
theorem x3_397 : frT 397 3 6448918945643986474 = true := by kernel_rfl
theorem x3_401 : frT 401 3 6902733635092675308 = true := by kernel_rfl
theorem x3_409 : frT 409 3 7801388544844847127 = true := by kernel_rfl
theorem x2_17 : frT 17 2 2270897969802886507 = true := by kernel_rfl
theorem x2_19 : frT 19 2 6620516959819538809 = true := by kernel_rfl
def t3d : List (Nat × Nat) := [(283, 10430055236837252648), (293, 11840083180663258601), (307, 13761210420658862357), (311, 14299343276471374635), (313, 14566680578165727644), (317, 15097957966210449927), (331, 16922976911328602910), (337, 17689382322260857208), (347, 500013540394364858), (349, 748580250866718886), (353, 1242879168328830382), (359, 1977374033974150939), (367, 2944078676154940804), (373, 3659926193048069267), (379, 4368137639120453308), (383, 4836135668995329356), (389, 5532061633213252278), (397, 6448918945643986474), (401, 6902733635092675308), (409, 7801388544844847127)]
theorem t3d_ok : ∀ q ∈ t3d, frT q.1 3 q.2 = true := by
  unfold t3d
  simp only [List.forall_mem_cons]
  exact ⟨x3_283, x3_293, x3_307, x3_311, x3_313, x3_317, x3_331, x3_337, x3_347, x3_349, x3_353, x3_359, x3_367, x3_373, x3_379, x3_383, x3_389, x3_397, x3_401, x3_409, nofun⟩
def t2d : List (Nat × Nat) := [(17, 2270897969802886507), (19, 6620516959819538809)]
theorem t2d_ok : ∀ q ∈ t2d, frT q.1 2 q.2 = true := by
  unfold t2d
  simp only [List.forall_mem_cons]
  exact ⟨x2_17, x2_19, nofun⟩
end Go.Eng.B

namespace Go.Eng.B
open Go Go.Eng Go.Proofs
set_option maxRecDepth 100000
def kL : List Nat := [4794697086780616226, 8158064640168781261, 13096744586834688815, 16840607885511220156, 4131703408338449720, 6480981068601479193, 10538285296894168987, 12329834152419229976, 15566598209576043074, 1334009975649890238, 2608012711638119052, 6128411473006802146, 8268148722764581231, 9286055187155687089, 11230858885718282805, 13951009754708518548, 16472876342353939154, 17275323862435702243, 1135362057144423861, 2597628984639134821, 3308224258029322869, 5365058923640841347, 6679025012923562964, 8573033837759648693, 10970295158949994411, 12119686244451234320, 12683024718118986047, 13788192230050041572, 14330467153632333762, 15395433587784984357, 489312712824947311, 1452737877330783856, 2861767655752347644, 3322285676063803686, 5560940570517711597, 5996557281743188959, 7280758554555802590, 8532644243296465576, 9350256976987008742, 10552545826968843579, 11727347734174303076, 12113106623233404929, 14000437183269869457, 14369950271660146224, 15101387698204529176, 15463397548674623760, 17586052441742319658, 1182934255886127544, 1847814050463011016, 2177327727835720531, 2830643537854262169, 3796741975233480872, 4115178125766777443, 5681478168544905931, 6601373596472566643, 7507060721942968483, 8399075790359081724, 8693463985226723168, 9568029438360202098, 10144078919501101548, 10430055236837252648, 11840083180663258601, 13761210420658862357, 14299343276471374635, 14566680578165727644, 15097957966210449927, 16922976911328602910, 17689382322260857208, 500013540394364858, 748580250866718886, 1242879168328830382, 1977374033974150939, 2944078676154940804, 3659926193048069267, 4368137639120453308, 4836135668995329356, 5532061633213252278, 6448918945643986474, 6902733635092675308, 7801388544844847127]
def hL : List Nat := [7640891576956012808, 13503953896175478587, 4354685564936845355, 11912009170470909681, 5840696475078001361, 11170449401992604703, 2270897969802886507, 6620516959819538809]
def lk : List Nat → List Nat → Nat → Option Nat
  | p :: ps, r :: rs, x => if Nat.beq p x then some r else lk ps rs x
  | _, _, _ => none
def tabN (n : Nat) : List Nat := if Nat.beq n 3 then kL else if Nat.beq n 2 then hL else []
def eFrac (args : List SV) : Option (SV × List Prop) :=
  match args with
  | [x, y] => match x.nat?, y.nat? with
    | some (.u64, p), some (.i64, n) => match lk pL (tabN n) p with
      | some r => some (.u .u64 r, [])
      | none => none
    | _, _ => none
  | _ => none
def rt (n p : Nat) : Nat := (lk pL (tabN n) p).getD 0
def eFrac2 (args : List SV) : Option (SV × List Prop) :=
  match args with
  | [x, y] => match x.nat?, y.nat? with
    | some (.u64, p), some (.i64, n) => some (.u .u64 (rt n p), [(lk pL (tabN n) p).isSome = true])
    | _, _ => none
  | _ => none
theorem lk_mem : ∀ {ps rs : List Nat} {x r : Nat}, lk ps rs x = some r → (x, r) ∈ ps.zip rs := by
  intro ps
  induction ps with
  | nil => intro rs x r h; cases rs <;> simp [lk] at h
  | cons p ps ih =>
    intro rs x r h
    cases rs with
    | nil => simp [lk] at h
    | cons q rs =>
      simp only [lk] at h
      split at h
      · rename_i e
        cases h
        rw [Nat.eq_of_beq_eq_true e]
        simp
      · simp only [List.zip_cons_cons]
        exact List.mem_cons_of_mem _ (ih h)
theorem zip3 : pL.zip kL = t3a ++ (t3b ++ (t3c ++ t3d)) := by kernel_rfl
theorem zip2 : pL.zip hL = t2a ++ (t2b ++ (t2c ++ t2d)) := by kernel_rfl
theorem tab3_ok : ∀ q ∈ pL.zip kL, frT q.1 3 q.2 = true := by
  rw [zip3]
  intro q h
  rcases List.mem_append.1 h with h | h
  · exact t3a_ok q h
  · rcases List.mem_append.1 h with h | h
    · exact t3b_ok q h
    · rcases List.mem_append.1 h with h | h
      · exact t3c_ok q h
      · exact t3d_ok q h
theorem tab2_ok : ∀ q ∈ pL.zip hL, frT q.1 2 q.2 = true := by
  rw [zip2]
  intro q h
  rcases List.mem_append.1 h with h | h
  · exact t2a_ok q h
  · rcases List.mem_append.1 h with h | h
    · exact t2b_ok q h
    · rcases List.mem_append.1 h with h | h
      · exact t2c_ok q h
      · exact t2d_ok q h
theorem okT6 : CtrOk Try.prog T6 := by
  have h0 : CtrOk Try.prog K0 := addC_ok (addC_ok (addC_ok (addC_ok okM1a cTimes) cLess) cAddC) cSubC
  have h1 : CtrOk Try.prog (K1 Try.prog Try.f64 Try.f66 Try.f81 Try.f87) := addC_ok (addC_ok (addC_ok (addC_ok h0 (inl_ok mixed (by kernel_rfl) (by kernel_rfl) (by kernel_rfl) h0)) (inl_ok mixed (by kernel_rfl) (by kernel_rfl) (by kernel_rfl) h0)) (inl_ok mixed (by kernel_rfl) (by kernel_rfl) (by kernel_rfl) h0)) (inl_ok mixed (by kernel_rfl) (by kernel_rfl) (by kernel_rfl) h0)
  have h2 := addC_ok h1 (inl_ok (f := 82) (fn := Try.f82) (fuel := 50) mixed (by kernel_rfl) (by kernel_rfl) (by kernel_rfl) h1)
  have h3 := addC_ok h2 (inl_ok (f := 75) (fn := Try.f75) (fuel := 400) mixed (by kernel_rfl) (by kernel_rfl) (by kernel_rfl) h2)
  have h4 := addC_ok h3 (inl_ok (f := 65) (fn := Try.f65) (fuel := 50) mixed (by kernel_rfl) (by kernel_rfl) (by kernel_rfl) h3)
  have h5 := addC_ok (addC_ok (addC_ok (addC_ok h4 (inl_ok (f := 70) (fn := Try.f70) (fuel := 100) mixed (by kernel_rfl) (by kernel_rfl) (by kernel_rfl) h4)) (inl_ok (f := 72) (fn := Try.f72) (fuel := 100) mixed (by kernel_rfl) (by kernel_rfl) (by kernel_rfl) h4)) (inl_ok (f := 71) (fn := Try.f71) (fuel := 400) mixed (by kernel_rfl) (by kernel_rfl) (by kernel_rfl) h4)) (inl_ok (f := 67) (fn := Try.f67) (fuel := 400) mixed (by kernel_rfl) (by kernel_rfl) (by kernel_rfl) h4)
  exact addC_ok h5 (inl_ok (f := 68) (fn := Try.f68) (fuel := 400) mixed (by kernel_rfl) (by kernel_rfl) (by kernel_rfl) h5)
theorem frac_c {p n r : Nat} (h : frT p n r = true) : Contract Try.prog 61 [.c .u64 p, .c .i64 n] (.u .u64 r) := by
  have hi := inl_ok (f := 61) (fn := Try.f61) (fuel := 2000) mixed (by kernel_rfl) (by kernel_rfl) (by kernel_rfl) okT6 [.c .u64 p, .c .i64 n]
  unfold frT frOk at h
  split at h
  · rename_i v he
    rw [← Nat.eq_of_beq_eq_true h]
    exact hi _ _ he trivial
  · cases h
theorem frT_ok {p n r : Nat} (h : (p, r) ∈ pL.zip (tabN n)) : frT p n r = true := by
  by_cases h3 : n = 3
  · have e : tabN n = kL := by subst h3; rfl
    rw [e] at h
    subst h3
    exact tab3_ok (p, r) h
  · by_cases h2 : n = 2
    · have e : tabN n = hL := by subst h2; rfl
      rw [e] at h
      subst h2
      exact tab2_ok (p, r) h
    · have e : tabN n = [] := by
        unfold tabN
        rw [if_neg (fun h => h3 (Nat.eq_of_beq_eq_true h)), if_neg (fun h => h2 (Nat.eq_of_beq_eq_true h))]
      rw [e, List.zip_nil_right] at h
      cases h
theorem frac_lk {p n r : Nat} (h : lk pL (tabN n) p = some r) : Contract Try.prog 61 [.c .u64 p, .c .i64 n] (.u .u64 r) := frac_c (frT_ok (lk_mem h))
theorem cFrac : ∀ args res ob, eFrac args = some (res, ob) → All ob → Contract Try.prog 61 args res := by
  intro args res ob h _
  unfold eFrac at h
  split at h
  · split at h
    · rename_i x y p n hx hy
      generalize hl : lk pL (tabN n) p = o at h
      cases o with
      | none => cases h
      | some r =>
        cases h
        exact nat2_args hx hy (Contract.args (args' := [.c .u64 p, .c .i64 n]) ⟨by simp [wk, wk0], by simp [wk, wk0], rfl⟩ (frac_lk hl))
    · cases h
  · cases h
theorem cFrac2 : ∀ args res ob, eFrac2 args = some (res, ob) → All ob → Contract Try.prog 61 args res := by
  intro args res ob h hob
  unfold eFrac2 at h
  split at h
  · split at h
    · rename_i x y p n hx hy
      cases h
      have h1 := hob.1
      unfold rt
      generalize hl : lk pL (tabN n) p = o at h1
      cases o with
      | none => cases h1
      | some r => exact nat2_args hx hy (Contract.args (args' := [.c .u64 p, .c .i64 n]) ⟨by simp [wk, wk0], by simp [wk, wk0], rfl⟩ (frac_lk hl))
    · cases h
  · cases h
def ePrimes (args : List SV) : Option (SV × List Prop) :=
  match args with
  | [.c .i64 64] => some (.sl .u64 (pL.take 64), [])
  | [.c .i64 80] => some (.sl .u64 pL, [])
  | _ => none
def M5a : Ctr := addC 61 eFrac2 (addC 60 ePrimes M1a)
theorem cPrimes : ∀ args res ob, ePrimes args = some (res, ob) → All ob → Contract Try.prog 60 args res := by
  intro args res ob h _
  unfold ePrimes at h
  split at h
  · cases h
    rw [← prim64]
    exact Contract.args (args' := [.u .i64 64]) (by simp [wkl, wk, wk0, lim]) (primes_c 64 (by decide) (by rw [prim64]; decide))
  · cases h
    rw [← prim80]
    exact Contract.args (args' := [.u .i64 80]) (by simp [wkl, wk, wk0, lim]) (primes_c 80 (by decide) (by rw [prim80]; decide))
  · cases h
theorem okM5a : CtrOk Try.prog M5a := addC_ok (addC_ok okM1a cPrimes) cFrac2
end Go.Eng.B

