/- limb.Long: the product, digit by digit. -/
import Derived.Test.YtclpbijalffdkaaB3
import Derived.Test.YtclpbijalffdkaaAdd
import Derived.Test.YtclpbijalffdkaaB4d
namespace Go.Eng.B
open Go Go.Eng Go.Proofs
section
variable {w0 : World} {S : Nat → Prop} {res : SV}
theorem long_step {x y q c : Nat} (hx : x < 18446744073709551616) (hy : y < 18446744073709551616) (hq : q < 18446744073709551616) (hc : c < 18446744073709551616) :
    ((x * y % 18446744073709551616 + q + 0) % 18446744073709551616 + c + 0) % 18446744073709551616 +
      18446744073709551616 * (((x * y / 18446744073709551616 + (x * y % 18446744073709551616 + q + 0) / 18446744073709551616) % 18446744073709551616 +
        ((x * y % 18446744073709551616 + q + 0) % 18446744073709551616 + c + 0) / 18446744073709551616) % 18446744073709551616) = x * y + q + c := by
  have hp : x * y ≤ 18446744073709551615 * 18446744073709551615 := Nat.mul_le_mul (by omega) (by omega)
  generalize x * y = p at *
  omega
theorem long_out {X W R c A V U x : Nat} (h1 : X + W * 0 = R + W * c) (h2 : R + W * c = A * V + U * (0 + x * V)) : X = (A + U * x) * V := by
  rw [Nat.mul_zero, Nat.add_zero] at h1
  rw [Nat.zero_add] at h2
  rw [h1, h2, Nat.add_mul, Nat.mul_assoc]
theorem c87_in (a b : List Nat) (x i : Nat) (hb : b.length = 4) (hb2 : ∀ y ∈ b, y < 18446744073709551616) (hx : x < 18446744073709551616) (hi : i < 4) :
    ∀ n j, j + n = 4 → ∀ (r : List Nat) (c : Nat), r.length = 8 → (∀ y ∈ r, y < 18446744073709551616) → c < 18446744073709551616 →
      (∀ (r' : List Nat) (c' : Nat), r'.length = 8 → (∀ y ∈ r', y < 18446744073709551616) → c' < 18446744073709551616 → (∀ k, i + 4 ≤ k → r'.getD k 0 = r.getD k 0) →
        vl 18446744073709551616 r' + 18446744073709551616 ^ (i + 4) * c' = vl 18446744073709551616 r + 18446744073709551616 ^ (i + j) * (c + x * vl 18446744073709551616 (b.drop j)) →
        Hold Try.prog (bodyOf Try.f87) (Fin Try.prog Try.f87 w0 S res) w0 S st87i (s87i a b r' i x c' 4)) →
      Hold Try.prog (bodyOf Try.f87) (Fin Try.prog Try.f87 w0 S res) w0 S st87i (s87i a b r i x c j) := by
  intro n
  induction n with
  | zero =>
    intro j hj r c hr hr2 hc hk
    have hj : j = 4 := by omega
    subst hj
    refine hk r c hr hr2 hc (fun _ _ => rfl) ?_
    rw [show b.drop 4 = [] by rw [List.drop_eq_nil_iff]; omega]
    simp [vl]
  | succ n ih =>
    intro j hj r c hr hr2 hc hk
    have hy := getD_lt (by decide) hb2 j
    have hq := getD_lt (by decide) hr2 (i + j)
    have hst := long_step hx hy hq hc
    refine hold_unroll (c := _) rfl ?_
    refine hold_cut mixed ok3 (unroll := false) (f := 100) (sc := [true]) (ks := [3,4,5,6,7,8,14,15,19,20]) (bs := [1,2,3]) (nx := 4) (st' := [Go.Eng.It.lp [0, 1, 0, 1, 1, 0, 0, 1, 1, 0, 0, 1, 0, 1, 1], Go.Eng.It.blk 2, Go.Eng.It.at [1, 1, 1, 0, 0, 1, 1, 0, 0, 1, 0, 1, 1], Go.Eng.It.blk 1, Go.Eng.It.at [1, 1, 1, 0, 0, 1, 0, 1, 1], Go.Eng.It.lp [0, 1, 0, 1, 1], Go.Eng.It.blk 0, Go.Eng.It.at [1, 1, 1]]) (σ' := { nt := 64, slots := [(3, Go.Eng.SV.ptr 1 0 (Go.Eng.Ix.c 0)), (4, Go.Eng.SV.ptr 2 0 (Go.Eng.Ix.c 0)), (5, Go.Eng.SV.ptr 3 0 (Go.Eng.Ix.c 0)), (6, Go.Eng.SV.u Go.IntKind.i64 i), (7, Go.Eng.SV.u Go.IntKind.u64 x), (8, Go.Eng.SV.u Go.IntKind.u64 (((x * b.getD j 0 / 18446744073709551616 + (x * b.getD j 0 % 18446744073709551616 + r.getD (i + j) 0 + 0) / 18446744073709551616) % 18446744073709551616 + ((x * b.getD j 0 % 18446744073709551616 + r.getD (i + j) 0 + 0) % 18446744073709551616 + c + 0) / 18446744073709551616) % 18446744073709551616)), (14, Go.Eng.SV.arr Go.IntKind.u64 4 a), (15, Go.Eng.SV.u Go.IntKind.i64 i), (19, Go.Eng.SV.arr Go.IntKind.u64 4 b), (20, Go.Eng.SV.u Go.IntKind.i64 (j + 1))], blks := [(1, { ty := 64, segs := [Go.Eng.SV.arr Go.IntKind.u64 4 b] }), (2, { ty := 79, segs := [Go.Eng.SV.arr Go.IntKind.u64 8 [0, 0, 0, 0, 0, 0, 0, 0]] }), (3, { ty := 79, segs := [Go.Eng.SV.arr Go.IntKind.u64 8 (r.set (i + j) (((x * b.getD j 0 % 18446744073709551616 + r.getD (i + j) 0 + 0) % 18446744073709551616 + c + 0) % 18446744073709551616))] })], next := 4 }) (ob := [Decidable.decide (j < 4) = Bool.true, j < 4, i + j < 9223372036854775808, i + j < 8, i + j < 8, 0 ≤ 1, 0 ≤ 1, i + j < 9223372036854775808, i + j < 8, i + j < 8, j + 1 < 9223372036854775808]) (sc' := []) (by kernel_rfl) ?_ ?_
    · exact ⟨by simp; omega, by omega, by omega, by omega, by omega, by omega, by omega, by omega, by omega, by omega, by omega, trivial⟩
    · refine ih (j + 1) (by omega) _ _ (by simpa using hr) (mem_set hr2 (Nat.mod_lt _ (by decide))) (Nat.mod_lt _ (by decide)) ?_
      intro r' c' h1 h2 h3 h4 h5
      refine hk r' c' h1 h2 h3 (fun k hk' => by rw [h4 k hk', getD_set_ne (by omega)]) ?_
      rw [h5, vl_drop _ b j (by omega)]
      have hset := vl_set 18446744073709551616 r (i + j) ((((x * b.getD j 0 % 18446744073709551616 + r.getD (i + j) 0 + 0) % 18446744073709551616 + c + 0) % 18446744073709551616)) (by omega)
      rw [show i + (j + 1) = i + j + 1 by omega, Nat.pow_succ]
      generalize 18446744073709551616 ^ (i + j) = W at *
      generalize vl 18446744073709551616 (b.drop (j + 1)) = V at *
      generalize vl 18446744073709551616 (r.set _ _) = R at *
      generalize ((x * b.getD j 0 % 18446744073709551616 + r.getD (i + j) 0 + 0) % 18446744073709551616 + c + 0) % 18446744073709551616 = d at *
      generalize ((x * b.getD j 0 / 18446744073709551616 + (x * b.getD j 0 % 18446744073709551616 + r.getD (i + j) 0 + 0) / 18446744073709551616) % 18446744073709551616 +
        ((x * b.getD j 0 % 18446744073709551616 + r.getD (i + j) 0 + 0) % 18446744073709551616 + c + 0) / 18446744073709551616) % 18446744073709551616 = c2 at *
      generalize b.getD j 0 = y at *
      generalize r.getD (i + j) 0 = q at *
      generalize vl 18446744073709551616 r = R0 at *
      clear h5 h4 h3 h2 h1 hk ih
      have e1 : W * (d + 18446744073709551616 * c2) = W * (x * y + q + c) := by rw [hst]
      grind
theorem c87_out (a b : List Nat) (ha : a.length = 4) (ha2 : ∀ y ∈ a, y < 18446744073709551616) (hb : b.length = 4) (hb2 : ∀ y ∈ b, y < 18446744073709551616) (hres : res = .arr .u64 8 (dg 18446744073709551616 8 (vF a * vF b))) :
    ∀ n i, i + n = 4 → ∀ (r : List Nat), r.length = 8 → (∀ y ∈ r, y < 18446744073709551616) → (∀ k, i + 4 ≤ k → r.getD k 0 = 0) → vl 18446744073709551616 r = vl 18446744073709551616 (a.take i) * vl 18446744073709551616 b →
      Hold Try.prog (bodyOf Try.f87) (Fin Try.prog Try.f87 w0 S res) w0 S st87o (s87o a b r i) := by
  intro n
  induction n with
  | zero =>
    intro i hi r hr hr2 hz hv
    have hi : i = 4 := by omega
    subst hi
    refine hold_unroll (c := _) rfl ?_
    refine hold_end mixed ok3 (unroll := false) (f := 100) (sc := [false]) (r := (Go.Eng.SV.arr Go.IntKind.u64 8 r)) (ob := [Bool.false = Bool.false]) (sc' := []) (by kernel_rfl) ?_ ?_
    · exact ⟨by simp, trivial⟩
    · rw [hres]
      refine congrArg (SV.arr .u64 8) ?_
      rw [List.take_of_length_le (by omega)] at hv
      have := dg_vl (b := 18446744073709551616) (by decide) r hr2
      rw [hr, hv] at this
      exact this.symm
  | succ n ih =>
    intro i hi r hr hr2 hz hv
    refine hold_unroll (c := _) rfl ?_
    refine hold_cut mixed ok3 (unroll := false) (f := 100) (sc := [true]) (ks := [3,4,5,6,7,8,14,15,19,20]) (bs := [1,2,3]) (nx := 4) (st' := [Go.Eng.It.lp [0, 1, 0, 1, 1, 0, 0, 1, 1, 0, 0, 1, 0, 1, 1], Go.Eng.It.blk 2, Go.Eng.It.at [1, 1, 1, 0, 0, 1, 1, 0, 0, 1, 0, 1, 1], Go.Eng.It.blk 1, Go.Eng.It.at [1, 1, 1, 0, 0, 1, 0, 1, 1], Go.Eng.It.lp [0, 1, 0, 1, 1], Go.Eng.It.blk 0, Go.Eng.It.at [1, 1, 1]]) (σ' := { nt := 64, slots := [(3, Go.Eng.SV.ptr 1 0 (Go.Eng.Ix.c 0)), (4, Go.Eng.SV.ptr 2 0 (Go.Eng.Ix.c 0)), (5, Go.Eng.SV.ptr 3 0 (Go.Eng.Ix.c 0)), (6, Go.Eng.SV.u Go.IntKind.i64 i), (7, Go.Eng.SV.u Go.IntKind.u64 (a.getD i 0)), (8, Go.Eng.SV.c Go.IntKind.u64 0), (14, Go.Eng.SV.arr Go.IntKind.u64 4 a), (15, Go.Eng.SV.u Go.IntKind.i64 i), (19, Go.Eng.SV.arr Go.IntKind.u64 4 b), (20, Go.Eng.SV.c Go.IntKind.i64 0)], blks := [(1, { ty := 64, segs := [Go.Eng.SV.arr Go.IntKind.u64 4 b] }), (2, { ty := 79, segs := [Go.Eng.SV.arr Go.IntKind.u64 8 [0, 0, 0, 0, 0, 0, 0, 0]] }), (3, { ty := 79, segs := [Go.Eng.SV.arr Go.IntKind.u64 8 r] })], next := 4 }) (ob := [Decidable.decide (i < 4) = Bool.true, i < 4]) (sc' := []) (by kernel_rfl) ?_ ?_
    · exact ⟨by simp; omega, by omega, trivial⟩
    have hx := getD_lt (by decide) ha2 i
    refine Hold.weaken (sl' := (s87i a b r i (a.getD i 0) 0 0).slots) ?_ (by simp [wks, wk, s87i, lim])
    refine c87_in a b (a.getD i 0) i hb hb2 hx (by omega) 4 0 rfl r 0 hr hr2 (by decide) ?_
    intro r' c' h1 h2 h3 h4 h5
    refine hold_unroll (c := _) rfl ?_
    refine hold_cut mixed ok3 (unroll := false) (f := 100) (sc := [false]) (ks := [3,4,5,14,15]) (bs := [1,2,3]) (nx := 4) (st' := [Go.Eng.It.lp [0, 1, 0, 1, 1], Go.Eng.It.blk 0, Go.Eng.It.at [1, 1, 1]]) (σ' := { nt := 64, slots := [(3, Go.Eng.SV.ptr 1 0 (Go.Eng.Ix.c 0)), (4, Go.Eng.SV.ptr 2 0 (Go.Eng.Ix.c 0)), (5, Go.Eng.SV.ptr 3 0 (Go.Eng.Ix.c 0)), (14, Go.Eng.SV.arr Go.IntKind.u64 4 a), (15, Go.Eng.SV.u Go.IntKind.i64 (i + 1))], blks := [(1, { ty := 64, segs := [Go.Eng.SV.arr Go.IntKind.u64 4 b] }), (2, { ty := 79, segs := [Go.Eng.SV.arr Go.IntKind.u64 8 [0, 0, 0, 0, 0, 0, 0, 0]] }), (3, { ty := 79, segs := [Go.Eng.SV.arr Go.IntKind.u64 8 (r'.set (i + 4) c')] })], next := 4 }) (ob := [Bool.false = Bool.false, i + 4 < 9223372036854775808, i + 4 < 8, i + 4 < 8, i + 1 < 9223372036854775808]) (sc' := []) (by kernel_rfl) ?_ ?_
    · exact ⟨by simp, by omega, by omega, by omega, by omega, trivial⟩
    · refine ih (i + 1) (by omega) _ (by simpa using h1) (mem_set h2 h3) (fun k hk => ?_) ?_
      · rw [getD_set_ne (by omega), h4 k (by omega)]
        exact hz k (by omega)
      · have hset := vl_set 18446744073709551616 r' (i + 4) c' (by omega)
        rw [h4 (i + 4) (by omega), hz (i + 4) (by omega)] at hset
        rw [vl_take _ a i (by omega)]
        rw [List.drop_zero, hv] at h5
        have e0 : 18446744073709551616 ^ (i + 0) = 18446744073709551616 ^ i := by rw [Nat.add_zero]
        rw [e0] at h5
        exact long_out hset h5
theorem c87 : ∀ args res ob, e87 args = some (res, ob) → All ob → Contract Try.prog 87 args res := by
  intro args res ob h hob
  simp only [e87, t2] at h
  split at h
  · rename_i a b
    cases h
    refine contract Try.func87 (body := bodyOf Try.f87) rfl (by kernel_rfl) (by kernel_rfl) rfl ?_
    rintro ⟨ha, hb, _⟩ w0 S
    refine hold_cut mixed ok3 (unroll := false) (f := 100) (sc := []) (ks := [3,4,5,14,15]) (bs := [1,2,3]) (nx := 4) (st' := [Go.Eng.It.lp [0, 1, 0, 1, 1], Go.Eng.It.blk 0, Go.Eng.It.at [1, 1, 1]]) (σ' := { nt := 64, slots := [(3, Go.Eng.SV.ptr 1 0 (Go.Eng.Ix.c 0)), (4, Go.Eng.SV.ptr 2 0 (Go.Eng.Ix.c 0)), (5, Go.Eng.SV.ptr 3 0 (Go.Eng.Ix.c 0)), (14, Go.Eng.SV.arr Go.IntKind.u64 4 a), (15, Go.Eng.SV.c Go.IntKind.i64 0)], blks := [(1, { ty := 64, segs := [Go.Eng.SV.arr Go.IntKind.u64 4 b] }), (2, { ty := 79, segs := [Go.Eng.SV.arr Go.IntKind.u64 8 [0, 0, 0, 0, 0, 0, 0, 0]] }), (3, { ty := 79, segs := [Go.Eng.SV.arr Go.IntKind.u64 8 [0, 0, 0, 0, 0, 0, 0, 0]] })], next := 4 }) (ob := []) (sc' := []) (by kernel_rfl) trivial ?_
    refine Hold.weaken (sl' := (s87o a b [0,0,0,0,0,0,0,0] 0).slots) ?_ (by simp [wks, wk, s87o, lim])
    exact c87_out a b ha.1 ha.2 hb.1 hb.2 rfl 4 0 rfl _ rfl (by decide) (by intro k hk; rcases k with _ | _ | _ | _ | _ | _ | _ | _ | k <;> rfl) (by simp [vl])
  · cases h
end
def T4 : Ctr := addC 87 e87 (only [56, 58, 78, 61, 66, 68, 63, 64, 88, 80, 84, 79, 89] tab)
theorem ok4 : CtrOk Try.prog T4 := addC_ok ok3 c87
end Go.Eng.B
