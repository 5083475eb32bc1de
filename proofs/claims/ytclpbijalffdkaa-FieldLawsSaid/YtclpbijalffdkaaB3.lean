/- The contracts of package limb: the remainder, products of words, bytes. -/
import Derived.Test.YtclpbijalffdkaaB2
namespace Go.Eng.B
open Go Go.Eng Go.Proofs
theorem c61 : ∀ args res ob, tab 61 args = some (res, ob) → All ob → Contract Try.prog 61 args res := by
  intro args res ob h hob
  simp only [tab, t1] at h
  split at h
  · rename_i a
    cases h
    refine contract Try.func61 (body := bodyOf Try.f61) rfl (by kernel_rfl) (by kernel_rfl) rfl ?_
    rintro ⟨ha, _⟩ w0 S
    obtain ⟨a0, a1, a2, a3, rfl⟩ := list4 ha.1
    have ha2 := ha.2
    simp only [List.mem_cons, List.not_mem_nil, or_false, forall_eq_or_imp, forall_eq, lim] at ha2
    have e63 : a3 &&& 9223372036854775807 = a3 % 9223372036854775808 := Nat.and_two_pow_sub_one_eq_mod a3 63
    have hA : vF [a0, a1, a2, a3] = a0 + 18446744073709551616 * a1 + 340282366920938463463374607431768211456 * a2 + 6277101735386680763835789423207666416102355444464034512896 * a3 := by rw [vF4]; omega
    have hB : vF [a0, a1, a2, a3 &&& 9223372036854775807] + 57896044618658097711785492504343953926634992332820282019728792003956564819968 * (a3 / 9223372036854775808) = vF [a0, a1, a2, a3] := by rw [vF4, vF4, e63]; omega
    have hC : vF [a0, a1, a2, a3 &&& 9223372036854775807] < 57896044618658097711785492504343953926634992332820282019728792003956564819968 := by rw [vF4, e63]; omega
    have hT : a3 / 9223372036854775808 ≤ 1 := by omega
    by_cases hlt : (vF [a0, a1, a2, a3 &&& 9223372036854775807] + 19 * (a3 / 9223372036854775808)) < P255
    · refine hold_end mixed ok2 (unroll := true) (f := 60) (sc := [false]) (r := (Go.Eng.SV.arr Go.IntKind.u64 4 (Go.Eng.dF (Go.Eng.vF [a0, a1, a2, a3 &&& 9223372036854775807] + Go.Eng.vF [19 * (a3 / 9223372036854775808) % 18446744073709551616, 0, 0, 0])))) (ob := [((if Go.Eng.vF (Go.Eng.dF (Go.Eng.vF [a0, a1, a2, a3 &&& 9223372036854775807] + Go.Eng.vF [19 * (a3 / 9223372036854775808) % 18446744073709551616, 0, 0, 0])) < 57896044618658097711785492504343953926634992332820282019728792003956564819949 then 1 else 0) == 0) = Bool.false]) (sc' := []) (by kernel_rfl) ?_ ?_
      · refine ⟨?_, trivial⟩
        simp only [vF_dF, vF1]
        rw [show 19 * (a3 / 9223372036854775808) % 18446744073709551616 = 19 * (a3 / 9223372036854775808) by omega]
        generalize vF [a0, a1, a2, a3 &&& 9223372036854775807] = X at *
        generalize vF [a0, a1, a2, a3] = Y at *
        generalize a3 / 9223372036854775808 = t at *
        unfold P255 at hlt
        rw [show (X + 19 * t) % M256 = X + 19 * t by unfold M256; omega, if_pos hlt]
        rfl
      · simp only [fe, vF_dF, vF1]
        rw [show 19 * (a3 / 9223372036854775808) % 18446744073709551616 = 19 * (a3 / 9223372036854775808) by omega]
        congr 1
        generalize vF [a0, a1, a2, a3 &&& 9223372036854775807] = X at *
        generalize vF [a0, a1, a2, a3] = Y at *
        generalize a3 / 9223372036854775808 = t at *
        unfold P255 at *
        congr 1
        omega
    · refine hold_end mixed ok2 (unroll := true) (f := 60) (sc := [true]) (r := (Go.Eng.SV.arr Go.IntKind.u64 4 (Go.Eng.dF (Go.Eng.vF (Go.Eng.dF (Go.Eng.vF [a0, a1, a2, a3 &&& 9223372036854775807] + Go.Eng.vF [19 * (a3 / 9223372036854775808) % 18446744073709551616, 0, 0, 0])) + Go.Eng.M256 - 57896044618658097711785492504343953926634992332820282019728792003956564819949)))) (ob := [((if Go.Eng.vF (Go.Eng.dF (Go.Eng.vF [a0, a1, a2, a3 &&& 9223372036854775807] + Go.Eng.vF [19 * (a3 / 9223372036854775808) % 18446744073709551616, 0, 0, 0])) < 57896044618658097711785492504343953926634992332820282019728792003956564819949 then 1 else 0) == 0) = Bool.true]) (sc' := []) (by kernel_rfl) ?_ ?_
      · refine ⟨?_, trivial⟩
        simp only [vF_dF, vF1]
        rw [show 19 * (a3 / 9223372036854775808) % 18446744073709551616 = 19 * (a3 / 9223372036854775808) by omega]
        generalize vF [a0, a1, a2, a3 &&& 9223372036854775807] = X at *
        generalize vF [a0, a1, a2, a3] = Y at *
        generalize a3 / 9223372036854775808 = t at *
        unfold P255 at hlt
        rw [show (X + 19 * t) % M256 = X + 19 * t by unfold M256; omega, if_neg hlt]
        rfl
      · simp only [fe, vF_dF, vF1]
        rw [show 19 * (a3 / 9223372036854775808) % 18446744073709551616 = 19 * (a3 / 9223372036854775808) by omega]
        refine congrArg (SV.arr .u64 4) ?_
        generalize vF [a0, a1, a2, a3 &&& 9223372036854775807] = X at *
        generalize vF [a0, a1, a2, a3] = Y at *
        generalize a3 / 9223372036854775808 = t at *
        have key : ((X + 19 * t) % M256 + M256 - 57896044618658097711785492504343953926634992332820282019728792003956564819949) % M256 = (Y % P255) % M256 := by
          have s1 : (X + 19 * t) % M256 = X + 19 * t := by unfold M256; omega
          rw [s1]
          unfold P255 at hlt
          have s2 : Y % P255 = X + 19 * t - 57896044618658097711785492504343953926634992332820282019728792003956564819949 := by
            unfold P255
            omega
          rw [s2]
          unfold M256
          omega
        exact dF_congr key
  · cases h

theorem mul64_math (x y : Nat) (hx : x < 18446744073709551616) (hy : y < 18446744073709551616) :
    ((x / 2 ^ 32) * (y / 2 ^ 32) % 18446744073709551616 + (((x / 2 ^ 32) * (y &&& 4294967295) % 18446744073709551616 + (x &&& 4294967295) * (y &&& 4294967295) % 18446744073709551616 / 2 ^ 32) % 18446744073709551616) / 2 ^ 32) % 18446744073709551616 +
      (((((x / 2 ^ 32) * (y &&& 4294967295) % 18446744073709551616 + (x &&& 4294967295) * (y &&& 4294967295) % 18446744073709551616 / 2 ^ 32) % 18446744073709551616) &&& 4294967295) + (x &&& 4294967295) * (y / 2 ^ 32) % 18446744073709551616) % 18446744073709551616 / 2 ^ 32 = x * y / 18446744073709551616 ∧ x * y / 18446744073709551616 < 18446744073709551616 := by
  have ex : ∀ z : Nat, z &&& 4294967295 = z % 4294967296 := fun z => Nat.and_two_pow_sub_one_eq_mod z 32
  simp only [ex]
  have hp : x * y = (x % 4294967296) * (y % 4294967296) + 4294967296 * ((x % 4294967296) * (y / 4294967296)) + 4294967296 * ((x / 4294967296) * (y % 4294967296)) + 18446744073709551616 * ((x / 4294967296) * (y / 4294967296)) := by
    have h1 : x = x % 4294967296 + 4294967296 * (x / 4294967296) := by omega
    have h2 : y = y % 4294967296 + 4294967296 * (y / 4294967296) := by omega
    generalize x % 4294967296 = a at *
    generalize x / 4294967296 = b at *
    generalize y % 4294967296 = c at *
    generalize y / 4294967296 = d at *
    subst h1 h2
    grind
  rw [hp]
  have b1 : x % 4294967296 ≤ 4294967295 := by omega
  have b2 : x / 4294967296 ≤ 4294967295 := by omega
  have b3 : y % 4294967296 ≤ 4294967295 := by omega
  have b4 : y / 4294967296 ≤ 4294967295 := by omega
  have m1 := Nat.mul_le_mul b1 b3
  have m2 := Nat.mul_le_mul b1 b4
  have m3 := Nat.mul_le_mul b2 b3
  have m4 := Nat.mul_le_mul b2 b4
  simp only [Nat.reducePow, Nat.reduceMul] at *
  generalize (x % 4294967296) * (y % 4294967296) = p at *
  generalize (x % 4294967296) * (y / 4294967296) = q at *
  generalize (x / 4294967296) * (y % 4294967296) = r at *
  generalize (x / 4294967296) * (y / 4294967296) = s at *
  omega
theorem c78 : ∀ args res ob, tab 78 args = some (res, ob) → All ob → Contract Try.prog 78 args res := by
  intro args res ob h hob
  simp only [tab, tMul64] at h
  split at h
  · rename_i x y
    split at h
    · rename_i x' y' hx hy
      cases h
      have main : ∀ x' y' : Nat, Contract Try.prog 78 [.u .u64 x', .u .u64 y'] (.tup [.u .u64 (x' * y' / 18446744073709551616), .u .u64 (x' * y' % 18446744073709551616)]) := by
        intro x' y'
        refine contract Try.func78 (body := bodyOf Try.f78) rfl (by kernel_rfl) (by kernel_rfl) rfl ?_
        rintro ⟨hx', hy', _⟩ w0 S
        have hm := mul64_math x' y' hx' hy'
        refine hold_end mixed ok2 (unroll := true) (f := 60) (sc := []) (r := (Go.Eng.SV.tup [Go.Eng.SV.u Go.IntKind.u64 (((x' / 4294967296 * (y' / 4294967296) % 18446744073709551616 + (x' / 4294967296 * (y' &&& 4294967295) % 18446744073709551616 + (x' &&& 4294967295) * (y' &&& 4294967295) % 18446744073709551616 / 4294967296) % 18446744073709551616 / 4294967296) % 18446744073709551616 + (((x' / 4294967296 * (y' &&& 4294967295) % 18446744073709551616 + (x' &&& 4294967295) * (y' &&& 4294967295) % 18446744073709551616 / 4294967296) % 18446744073709551616 &&& 4294967295) + (x' &&& 4294967295) * (y' / 4294967296) % 18446744073709551616) % 18446744073709551616 / 4294967296) % 18446744073709551616), Go.Eng.SV.u Go.IntKind.u64 (x' * y' % 18446744073709551616)])) (ob := []) (sc' := []) (by kernel_rfl) trivial ?_
        simp only [SV.tup.injEq, List.cons.injEq, SV.u.injEq, and_true, true_and]
        simp only [Nat.reducePow] at *
        omega
      intro w S vs hlt hvs
      obtain ⟨v1, t1, rfl, ⟨cs1, r1, rfl⟩, v2, t2, rfl, ⟨cs2, r2, rfl⟩, rfl⟩ := hvs
      have s1 := nat?_sc hx
      have s2 := nat?_sc hy
      obtain ⟨rfl, l1⟩ := nat?_ok hx r1
      obtain ⟨rfl, l2⟩ := nat?_ok hy r2
      rw [s1.2, s2.2]
      exact main x' y' w S _ hlt ⟨_, _, rfl, ⟨_, rel_u l1, rfl⟩, _, _, rfl, ⟨_, rel_u l2, rfl⟩, rfl⟩
    · cases h
  · cases h

theorem c58 : ∀ args res ob, tab 58 args = some (res, ob) → All ob → Contract Try.prog 58 args res := by
  intro args res ob h hob
  simp only [tab, t1] at h
  split at h
  · rename_i a
    cases h
    refine contract Try.func58 (body := bodyOf Try.f58) rfl (by kernel_rfl) (by kernel_rfl) rfl ?_
    rintro ⟨ha, _⟩ w0 S
    obtain ⟨a0, a1, a2, a3, rfl⟩ := list4 ha.1
    have ha2 := ha.2
    simp only [List.mem_cons, List.not_mem_nil, or_false, forall_eq_or_imp, forall_eq, lim] at ha2
    refine hold_end mixed ok2 (unroll := true) (f := 500) (sc := []) (r := (Go.Eng.SV.arr Go.IntKind.u8 32 [a0 / 1 % 256, a0 / 256 % 256, a0 / 65536 % 256, a0 / 16777216 % 256, a0 / 4294967296 % 256, a0 / 1099511627776 % 256, a0 / 281474976710656 % 256, a0 / 72057594037927936 % 256, a1 / 1 % 256, a1 / 256 % 256, a1 / 65536 % 256, a1 / 16777216 % 256, a1 / 4294967296 % 256, a1 / 1099511627776 % 256, a1 / 281474976710656 % 256, a1 / 72057594037927936 % 256, a2 / 1 % 256, a2 / 256 % 256, a2 / 65536 % 256, a2 / 16777216 % 256, a2 / 4294967296 % 256, a2 / 1099511627776 % 256, a2 / 281474976710656 % 256, a2 / 72057594037927936 % 256, a3 / 1 % 256, a3 / 256 % 256, a3 / 65536 % 256, a3 / 16777216 % 256, a3 / 4294967296 % 256, a3 / 1099511627776 % 256, a3 / 281474976710656 % 256, a3 / 72057594037927936 % 256])) (ob := []) (sc' := []) (by kernel_rfl) trivial ?_
    simp only [fld, dB, dg, vF4, Nat.div_div_eq_div_mul, Nat.reducePow, Nat.reduceMul, SV.arr.injEq, true_and, List.cons.injEq, and_true]
    refine ⟨?_, ?_, ?_, ?_, ?_, ?_, ?_, ?_, ?_, ?_, ?_, ?_, ?_, ?_, ?_, ?_, ?_, ?_, ?_, ?_, ?_, ?_, ?_, ?_, ?_, ?_, ?_, ?_, ?_, ?_, ?_, ?_⟩ <;> omega
  · cases h

theorem from8 {x0 x1 x2 x3 x4 x5 x6 x7 : Nat} (h0 : x0 < 256) (h1 : x1 < 256) (h2 : x2 < 256) (h3 : x3 < 256) (h4 : x4 < 256) (h5 : x5 < 256) (h6 : x6 < 256) (h7 : x7 < 256) :
    ((((((((0 * 2 ^ 8 % 18446744073709551616 ||| x7) * 2 ^ 8 % 18446744073709551616 ||| x6) * 2 ^ 8 % 18446744073709551616 ||| x5) * 2 ^ 8 % 18446744073709551616 ||| x4) * 2 ^ 8 % 18446744073709551616 ||| x3) * 2 ^ 8 % 18446744073709551616 ||| x2) * 2 ^ 8 % 18446744073709551616 ||| x1) * 2 ^ 8 % 18446744073709551616 ||| x0) =
      x0 + 256 * (x1 + 256 * (x2 + 256 * (x3 + 256 * (x4 + 256 * (x5 + 256 * (x6 + 256 * x7)))))) := by
  rw [shl_or (by omega) h7, shl_or (by omega) h6, shl_or (by omega) h5, shl_or (by omega) h4, shl_or (by omega) h3, shl_or (by omega) h2, shl_or (by omega) h1, shl_or (by omega) h0]
  omega
theorem word_lt {x0 x1 x2 x3 x4 x5 x6 x7 : Nat} (h0 : x0 < 256) (h1 : x1 < 256) (h2 : x2 < 256) (h3 : x3 < 256) (h4 : x4 < 256) (h5 : x5 < 256) (h6 : x6 < 256) (h7 : x7 < 256) :
    x0 + 256 * (x1 + 256 * (x2 + 256 * (x3 + 256 * (x4 + 256 * (x5 + 256 * (x6 + 256 * x7)))))) < 18446744073709551616 := by omega
theorem from_math {x0 x1 x2 x3 x4 x5 x6 x7 x8 x9 x10 x11 x12 x13 x14 x15 x16 x17 x18 x19 x20 x21 x22 x23 x24 x25 x26 x27 x28 x29 x30 x31 : Nat} (h0 : x0 < 256) (h1 : x1 < 256) (h2 : x2 < 256) (h3 : x3 < 256) (h4 : x4 < 256) (h5 : x5 < 256) (h6 : x6 < 256) (h7 : x7 < 256) (h8 : x8 < 256) (h9 : x9 < 256) (h10 : x10 < 256) (h11 : x11 < 256) (h12 : x12 < 256) (h13 : x13 < 256) (h14 : x14 < 256) (h15 : x15 < 256) (h16 : x16 < 256) (h17 : x17 < 256) (h18 : x18 < 256) (h19 : x19 < 256) (h20 : x20 < 256) (h21 : x21 < 256) (h22 : x22 < 256) (h23 : x23 < 256) (h24 : x24 < 256) (h25 : x25 < 256) (h26 : x26 < 256) (h27 : x27 < 256) (h28 : x28 < 256) (h29 : x29 < 256) (h30 : x30 < 256) (h31 : x31 < 256) :
    [(x0 + 256 * (x1 + 256 * (x2 + 256 * (x3 + 256 * (x4 + 256 * (x5 + 256 * (x6 + 256 * x7))))))), (x8 + 256 * (x9 + 256 * (x10 + 256 * (x11 + 256 * (x12 + 256 * (x13 + 256 * (x14 + 256 * x15))))))), (x16 + 256 * (x17 + 256 * (x18 + 256 * (x19 + 256 * (x20 + 256 * (x21 + 256 * (x22 + 256 * x23))))))), (x24 + 256 * (x25 + 256 * (x26 + 256 * (x27 + 256 * (x28 + 256 * (x29 + 256 * (x30 + 256 * x31)))))))] = dF (vB [x0, x1, x2, x3, x4, x5, x6, x7, x8, x9, x10, x11, x12, x13, x14, x15, x16, x17, x18, x19, x20, x21, x22, x23, x24, x25, x26, x27, x28, x29, x30, x31]) := by
  have e : vB [x0, x1, x2, x3, x4, x5, x6, x7, x8, x9, x10, x11, x12, x13, x14, x15, x16, x17, x18, x19, x20, x21, x22, x23, x24, x25, x26, x27, x28, x29, x30, x31] = vF [(x0 + 256 * (x1 + 256 * (x2 + 256 * (x3 + 256 * (x4 + 256 * (x5 + 256 * (x6 + 256 * x7))))))), (x8 + 256 * (x9 + 256 * (x10 + 256 * (x11 + 256 * (x12 + 256 * (x13 + 256 * (x14 + 256 * x15))))))), (x16 + 256 * (x17 + 256 * (x18 + 256 * (x19 + 256 * (x20 + 256 * (x21 + 256 * (x22 + 256 * x23))))))), (x24 + 256 * (x25 + 256 * (x26 + 256 * (x27 + 256 * (x28 + 256 * (x29 + 256 * (x30 + 256 * x31)))))))] := by
    simp only [vB, vF, vl, Nat.mul_zero, Nat.add_zero]
    omega
  rw [e, dF_vF]
  refine ⟨rfl, ?_⟩
  simp only [List.mem_cons, List.not_mem_nil, or_false, forall_eq_or_imp, forall_eq, lim]
  exact ⟨word_lt h0 h1 h2 h3 h4 h5 h6 h7, word_lt h8 h9 h10 h11 h12 h13 h14 h15, word_lt h16 h17 h18 h19 h20 h21 h22 h23, word_lt h24 h25 h26 h27 h28 h29 h30 h31⟩
theorem c56 : ∀ args res ob, tab 56 args = some (res, ob) → All ob → Contract Try.prog 56 args res := by
  intro args res ob h hob
  simp only [tab, t1b] at h
  split at h
  · rename_i a
    cases h
    refine contract Try.func56 (body := bodyOf Try.f56) rfl (by kernel_rfl) (by kernel_rfl) rfl ?_
    rintro ⟨ha, _⟩ w0 S
    obtain ⟨x0, x1, x2, x3, x4, x5, x6, x7, x8, x9, x10, x11, x12, x13, x14, x15, x16, x17, x18, x19, x20, x21, x22, x23, x24, x25, x26, x27, x28, x29, x30, x31, rfl⟩ := list32 ha.1
    have ha2 := ha.2
    simp only [List.mem_cons, List.not_mem_nil, or_false, forall_eq_or_imp, forall_eq, lim] at ha2
    obtain ⟨h0, h1, h2, h3, h4, h5, h6, h7, h8, h9, h10, h11, h12, h13, h14, h15, h16, h17, h18, h19, h20, h21, h22, h23, h24, h25, h26, h27, h28, h29, h30, h31⟩ := ha2
    refine hold_end mixed ok2 (unroll := true) (f := 700) (sc := []) (r := (Go.Eng.SV.arr Go.IntKind.u64 4 [(((((((0 ||| x7) * 256 % 18446744073709551616 ||| x6) * 256 % 18446744073709551616 ||| x5) * 256 % 18446744073709551616 ||| x4) * 256 % 18446744073709551616 ||| x3) * 256 % 18446744073709551616 ||| x2) * 256 % 18446744073709551616 ||| x1) * 256 % 18446744073709551616 ||| x0, (((((((0 ||| x15) * 256 % 18446744073709551616 ||| x14) * 256 % 18446744073709551616 ||| x13) * 256 % 18446744073709551616 ||| x12) * 256 % 18446744073709551616 ||| x11) * 256 % 18446744073709551616 ||| x10) * 256 % 18446744073709551616 ||| x9) * 256 % 18446744073709551616 ||| x8, (((((((0 ||| x23) * 256 % 18446744073709551616 ||| x22) * 256 % 18446744073709551616 ||| x21) * 256 % 18446744073709551616 ||| x20) * 256 % 18446744073709551616 ||| x19) * 256 % 18446744073709551616 ||| x18) * 256 % 18446744073709551616 ||| x17) * 256 % 18446744073709551616 ||| x16, (((((((0 ||| x31) * 256 % 18446744073709551616 ||| x30) * 256 % 18446744073709551616 ||| x29) * 256 % 18446744073709551616 ||| x28) * 256 % 18446744073709551616 ||| x27) * 256 % 18446744073709551616 ||| x26) * 256 % 18446744073709551616 ||| x25) * 256 % 18446744073709551616 ||| x24])) (ob := []) (sc' := []) (by kernel_rfl) trivial ?_
    have e0 := from8 h0 h1 h2 h3 h4 h5 h6 h7
    have e1 := from8 h8 h9 h10 h11 h12 h13 h14 h15
    have e2 := from8 h16 h17 h18 h19 h20 h21 h22 h23
    have e3 := from8 h24 h25 h26 h27 h28 h29 h30 h31
    simp only [Nat.reducePow] at e0 e1 e2 e3 ⊢
    rw [e0, e1, e2, e3]
    refine congrArg (SV.arr .u64 4) ?_
    exact from_math h0 h1 h2 h3 h4 h5 h6 h7 h8 h9 h10 h11 h12 h13 h14 h15 h16 h17 h18 h19 h20 h21 h22 h23 h24 h25 h26 h27 h28 h29 h30 h31
  · cases h
theorem ok3 : CtrOk Try.prog (only [56, 58, 78, 61, 66, 68, 63, 64, 88, 80, 84, 79, 89] tab) := only_cons (only_cons (only_cons (only_cons ok2 c61) c78) c58) c56
end Go.Eng.B
