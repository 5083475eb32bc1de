/- field, and the plain counterpart's first functions. -/
import Derived.Test.YtclpbijalffdkaaB7d
namespace Go.Eng.B
open Go Go.Eng Go.Proofs
theorem c22 : ∀ args res ob, e22 args = some (res, ob) → All ob → Contract Try.prog 22 args res := by
  intro args res ob h hob
  simp only [e22, t1b] at h
  split at h
  · rename_i a
    cases h
    refine contract Try.func22 (body := bodyOf Try.f22) rfl (by kernel_rfl) (by kernel_rfl) rfl ?_
    rintro ⟨ha, _⟩ w0 S
    have Ha := vB_lt ha
    refine hold_end mixed ok6b (unroll := true) (f := 100) (sc := []) (r := (Go.Eng.SV.b (Decidable.decide (Go.Eng.vF (Go.Eng.dF (Go.Eng.vB a)) < 57896044618658097711785492504343953926634992332820282019728792003956564819949)))) (ob := []) (sc' := []) (by kernel_rfl) trivial ?_
    rw [vd Ha]
    rfl
  · cases h
theorem c24 : ∀ args res ob, e24 args = some (res, ob) → All ob → Contract Try.prog 24 args res := by
  intro args res ob h hob
  simp only [e24, t1b] at h
  split at h
  · rename_i a
    cases h
    refine contract Try.func24 (body := bodyOf Try.f24) rfl (by kernel_rfl) (by kernel_rfl) rfl ?_
    rintro ⟨ha, _⟩ w0 S
    have Ha := vB_lt ha
    refine hold_end mixed ok6b (unroll := true) (f := 100) (sc := []) (r := (Go.Eng.SV.arr Go.IntKind.u8 32 (Go.Eng.dB (Go.Eng.vF (Go.Eng.dF (Go.Eng.vF (Go.Eng.dF (Go.Eng.vB a)) % Go.Eng.P255)))))) (ob := []) (sc' := []) (by kernel_rfl) trivial ?_
    rw [vd Ha, vd (P_lt _)]
    rfl
  · cases h
theorem c26 : ∀ args res ob, e26 args = some (res, ob) → All ob → Contract Try.prog 26 args res := by
  intro args res ob h hob
  simp only [e26, t2b] at h
  split at h
  · rename_i a b
    cases h
    refine contract Try.func26 (body := bodyOf Try.f26) rfl (by kernel_rfl) (by kernel_rfl) rfl ?_
    rintro ⟨ha, hb, _⟩ w0 S
    have Ha := vB_lt ha
    have Hb := vB_lt hb
    refine hold_end mixed ok6b (unroll := true) (f := 100) (sc := []) (r := (Go.Eng.SV.b (Decidable.decide (Go.Eng.vF (Go.Eng.dF (Go.Eng.vB a)) < Go.Eng.vF (Go.Eng.dF (Go.Eng.vB b)))))) (ob := []) (sc' := []) (by kernel_rfl) trivial ?_
    rw [vd Ha, vd Hb]
  · cases h
theorem c28 : ∀ args res ob, e28 args = some (res, ob) → All ob → Contract Try.prog 28 args res := by
  intro args res ob h hob
  simp only [e28, t2b] at h
  split at h
  · rename_i a b
    cases h
    refine contract Try.func28 (body := bodyOf Try.f28) rfl (by kernel_rfl) (by kernel_rfl) rfl ?_
    rintro ⟨ha, hb, _⟩ w0 S
    have Ha := vB_lt ha
    have Hb := vB_lt hb
    refine hold_end mixed ok6b (unroll := true) (f := 100) (sc := []) (r := (Go.Eng.SV.arr Go.IntKind.u8 32 (Go.Eng.dB (Go.Eng.vF (Go.Eng.dF (Go.Eng.vF (Go.Eng.dF (Go.Eng.addF (Go.Eng.vF (Go.Eng.dF (Go.Eng.vB a))) (Go.Eng.vF (Go.Eng.dF (Go.Eng.vB b))))) % Go.Eng.P255)))))) (ob := []) (sc' := []) (by kernel_rfl) trivial ?_
    rw [vd Ha, vd Hb, vd (addF_lt Ha Hb), vd (P_lt _), addF_mod Ha Hb]
    rfl
  · cases h
theorem c30 : ∀ args res ob, e30 args = some (res, ob) → All ob → Contract Try.prog 30 args res := by
  intro args res ob h hob
  simp only [e30, t2b] at h
  split at h
  · rename_i a b
    cases h
    refine contract Try.func30 (body := bodyOf Try.f30) rfl (by kernel_rfl) (by kernel_rfl) rfl ?_
    rintro ⟨ha, hb, _⟩ w0 S
    have Ha := vB_lt ha
    have Hb := vB_lt hb
    refine hold_end mixed ok6b (unroll := true) (f := 100) (sc := []) (r := (Go.Eng.SV.arr Go.IntKind.u8 32 (Go.Eng.dB (Go.Eng.vF (Go.Eng.dF (Go.Eng.vF (Go.Eng.dF (Go.Eng.subF (Go.Eng.vF (Go.Eng.dF (Go.Eng.vB a))) (Go.Eng.vF (Go.Eng.dF (Go.Eng.vB b))))) % Go.Eng.P255)))))) (ob := []) (sc' := []) (by kernel_rfl) trivial ?_
    rw [vd Ha, vd Hb, vd (subF_lt _ _), vd (P_lt _), subF_mod Ha Hb]
    rfl
  · cases h
theorem c32 : ∀ args res ob, e32 args = some (res, ob) → All ob → Contract Try.prog 32 args res := by
  intro args res ob h hob
  simp only [e32, t2b] at h
  split at h
  · rename_i a b
    cases h
    refine contract Try.func32 (body := bodyOf Try.f32) rfl (by kernel_rfl) (by kernel_rfl) rfl ?_
    rintro ⟨ha, hb, _⟩ w0 S
    have Ha := vB_lt ha
    have Hb := vB_lt hb
    refine hold_end mixed ok6b (unroll := true) (f := 100) (sc := []) (r := (Go.Eng.SV.arr Go.IntKind.u8 32 (Go.Eng.dB (Go.Eng.vF (Go.Eng.dF (Go.Eng.vF (Go.Eng.dF (Go.Eng.B.mulF (Go.Eng.vF (Go.Eng.dF (Go.Eng.vB a))) (Go.Eng.vF (Go.Eng.dF (Go.Eng.vB b))))) % Go.Eng.P255)))))) (ob := []) (sc' := []) (by kernel_rfl) trivial ?_
    rw [vd Ha, vd Hb, vd (mulF_lt Ha Hb), vd (P_lt _), mulF_mod]
    rfl
  · cases h
theorem c19 : ∀ args res ob, e19 args = some (res, ob) → All ob → Contract Try.prog 19 args res := by
  intro args res ob h hob
  simp only [e19, t1b] at h
  split at h
  · rename_i a
    cases h
    refine contract Try.func19 (body := bodyOf Try.f19) rfl (by kernel_rfl) (by kernel_rfl) rfl ?_
    rintro ⟨ha, _⟩ w0 S
    have Ha := vB_lt ha
    refine hold_end mixed ok6b (unroll := true) (f := 100) (sc := []) (r := (Go.Eng.SV.arr Go.IntKind.u8 32 (Go.Eng.dB (Go.Eng.vF (Go.Eng.dF (Go.Eng.vF (Go.Eng.dF (Go.Eng.B.powF (Go.Eng.vF (Go.Eng.dF (Go.Eng.vB a))) 57896044618658097711785492504343953926634992332820282019728792003956564819947)) % Go.Eng.P255)))))) (ob := []) (sc' := []) (by kernel_rfl) trivial ?_
    rw [vd Ha, vd (powF_lt Ha _), vd (P_lt _)]
    rfl
  · cases h
theorem c17 : ∀ args res ob, e17 args = some (res, ob) → All ob → Contract Try.prog 17 args res := by
  intro args res ob h hob
  simp only [e17, t1b] at h
  split at h
  · rename_i a
    cases h
    refine contract Try.func17 (body := bodyOf Try.f17) rfl (by kernel_rfl) (by kernel_rfl) rfl ?_
    rintro ⟨ha, _⟩ w0 S
    have Ha := vB_lt ha
    cases hq : sqOk (vB a) with
    | true =>
      refine hold_endw mixed ok6b (unroll := true) (f := 100) (sc := [false]) (r := (Go.Eng.SV.tup [Go.Eng.SV.arr Go.IntKind.u8 32 (Go.Eng.dB (Go.Eng.vF (Go.Eng.dF (Go.Eng.B.sqV (Go.Eng.vF (Go.Eng.dF (Go.Eng.vB a))))))), Go.Eng.SV.cb Bool.true])) (ob := [(!Go.Eng.B.sqOk (Go.Eng.vF (Go.Eng.dF (Go.Eng.vB a)))) = Bool.false]) (sc' := []) (by kernel_rfl) ?_ ?_
      · rw [vd Ha, hq]; exact ⟨rfl, trivial⟩
      · rw [vd Ha, vd (sqV_lt _)]; exact ⟨rfl, rfl, rfl⟩
    | false =>
      refine hold_endw mixed ok6b (unroll := true) (f := 100) (sc := [true]) (r := (Go.Eng.SV.tup [Go.Eng.SV.arr Go.IntKind.u8 32 [0, 0, 0, 0, 0, 0, 0, 0, 0, 0, 0, 0, 0, 0, 0, 0, 0, 0, 0, 0, 0, 0, 0, 0, 0, 0, 0, 0, 0, 0, 0, 0], Go.Eng.SV.cb Bool.false])) (ob := [(!Go.Eng.B.sqOk (Go.Eng.vF (Go.Eng.dF (Go.Eng.vB a)))) = Bool.true]) (sc' := []) (by kernel_rfl) ?_ ?_
      · rw [vd Ha, hq]; exact ⟨rfl, trivial⟩
      · have e : sqV (vB a) = 0 := by unfold sqV; rw [hq]; rfl
        rw [e]
        exact ⟨rfl, rfl, rfl⟩
  · cases h
theorem or_at {k b x : Nat} (hk : k ≤ 56) (hb : b < 2 ^ k) (hx : x < 256) : b ||| x * 2 ^ k % 18446744073709551616 = b + x * 2 ^ k := by
  have h1 : x * 2 ^ k < 18446744073709551616 := by
    have h2 : 2 ^ k ≤ 2 ^ 56 := Nat.pow_le_pow_right (by decide) hk
    have h3 : x * 2 ^ k ≤ 255 * 2 ^ 56 := Nat.mul_le_mul (by omega) h2
    exact Nat.lt_of_le_of_lt h3 (by decide)
  rw [Nat.mod_eq_of_lt h1, or_hi hb]
theorem load8 {x0 x1 x2 x3 x4 x5 x6 x7 : Nat} (h0 : x0 < 256) (h1 : x1 < 256) (h2 : x2 < 256) (h3 : x3 < 256) (h4 : x4 < 256) (h5 : x5 < 256) (h6 : x6 < 256) (h7 : x7 < 256) :
    0 ||| x0 * 1 % 18446744073709551616 ||| x1 * 256 % 18446744073709551616 ||| x2 * 65536 % 18446744073709551616 ||| x3 * 16777216 % 18446744073709551616 ||| x4 * 4294967296 % 18446744073709551616 ||| x5 * 1099511627776 % 18446744073709551616 ||| x6 * 281474976710656 % 18446744073709551616 ||| x7 * 72057594037927936 % 18446744073709551616 =
      x0 + 256 * (x1 + 256 * (x2 + 256 * (x3 + 256 * (x4 + 256 * (x5 + 256 * (x6 + 256 * x7)))))) := by
  rw [Nat.zero_or, show x0 * 1 % 18446744073709551616 = x0 by omega]
  have e1 := or_at (k := 8) (b := x0) (by decide) (by omega) h1
  rw [show (2 : Nat) ^ 8 = 256 by decide] at e1
  rw [e1]
  have e2 := or_at (k := 16) (b := x0 + x1 * 256) (by decide) (by omega) h2
  rw [show (2 : Nat) ^ 16 = 65536 by decide] at e2
  rw [e2]
  have e3 := or_at (k := 24) (b := x0 + x1 * 256 + x2 * 65536) (by decide) (by omega) h3
  rw [show (2 : Nat) ^ 24 = 16777216 by decide] at e3
  rw [e3]
  have e4 := or_at (k := 32) (b := x0 + x1 * 256 + x2 * 65536 + x3 * 16777216) (by decide) (by omega) h4
  rw [show (2 : Nat) ^ 32 = 4294967296 by decide] at e4
  rw [e4]
  have e5 := or_at (k := 40) (b := x0 + x1 * 256 + x2 * 65536 + x3 * 16777216 + x4 * 4294967296) (by decide) (by omega) h5
  rw [show (2 : Nat) ^ 40 = 1099511627776 by decide] at e5
  rw [e5]
  have e6 := or_at (k := 48) (b := x0 + x1 * 256 + x2 * 65536 + x3 * 16777216 + x4 * 4294967296 + x5 * 1099511627776) (by decide) (by omega) h6
  rw [show (2 : Nat) ^ 48 = 281474976710656 by decide] at e6
  rw [e6]
  have e7 := or_at (k := 56) (b := x0 + x1 * 256 + x2 * 65536 + x3 * 16777216 + x4 * 4294967296 + x5 * 1099511627776 + x6 * 281474976710656) (by decide) (by omega) h7
  rw [show (2 : Nat) ^ 56 = 72057594037927936 by decide] at e7
  rw [e7]
  omega
theorem c53 : ∀ args res ob, e53 args = some (res, ob) → All ob → Contract Try.prog 53 args res := by
  intro args res ob h hob
  simp only [e53, t1b] at h
  split at h
  · rename_i a
    cases h
    refine contract Try.func53 (body := bodyOf Try.f53) rfl (by kernel_rfl) (by kernel_rfl) rfl ?_
    rintro ⟨ha, _⟩ w0 S
    have Ha := vB_lt ha
    clear Ha
    obtain ⟨x0, x1, x2, x3, x4, x5, x6, x7, x8, x9, x10, x11, x12, x13, x14, x15, x16, x17, x18, x19, x20, x21, x22, x23, x24, x25, x26, x27, x28, x29, x30, x31, rfl⟩ := list32 ha.1
    have ha2 := ha.2
    simp only [List.mem_cons, List.not_mem_nil, or_false, forall_eq_or_imp, forall_eq, lim] at ha2
    obtain ⟨h0, h1, h2, h3, h4, h5, h6, h7, h8, h9, h10, h11, h12, h13, h14, h15, h16, h17, h18, h19, h20, h21, h22, h23, h24, h25, h26, h27, h28, h29, h30, h31⟩ := ha2
    refine hold_end mixed ok6b (unroll := true) (f := 700) (sc := []) (r := (Go.Eng.SV.arr Go.IntKind.u64 4 [0 ||| x0 * 1 % 18446744073709551616 ||| x1 * 256 % 18446744073709551616 ||| x2 * 65536 % 18446744073709551616 ||| x3 * 16777216 % 18446744073709551616 ||| x4 * 4294967296 % 18446744073709551616 ||| x5 * 1099511627776 % 18446744073709551616 ||| x6 * 281474976710656 % 18446744073709551616 ||| x7 * 72057594037927936 % 18446744073709551616, 0 ||| x8 * 1 % 18446744073709551616 ||| x9 * 256 % 18446744073709551616 ||| x10 * 65536 % 18446744073709551616 ||| x11 * 16777216 % 18446744073709551616 ||| x12 * 4294967296 % 18446744073709551616 ||| x13 * 1099511627776 % 18446744073709551616 ||| x14 * 281474976710656 % 18446744073709551616 ||| x15 * 72057594037927936 % 18446744073709551616, 0 ||| x16 * 1 % 18446744073709551616 ||| x17 * 256 % 18446744073709551616 ||| x18 * 65536 % 18446744073709551616 ||| x19 * 16777216 % 18446744073709551616 ||| x20 * 4294967296 % 18446744073709551616 ||| x21 * 1099511627776 % 18446744073709551616 ||| x22 * 281474976710656 % 18446744073709551616 ||| x23 * 72057594037927936 % 18446744073709551616, 0 ||| x24 * 1 % 18446744073709551616 ||| x25 * 256 % 18446744073709551616 ||| x26 * 65536 % 18446744073709551616 ||| x27 * 16777216 % 18446744073709551616 ||| x28 * 4294967296 % 18446744073709551616 ||| x29 * 1099511627776 % 18446744073709551616 ||| x30 * 281474976710656 % 18446744073709551616 ||| x31 * 72057594037927936 % 18446744073709551616])) (ob := []) (sc' := []) (by kernel_rfl) trivial ?_
    rw [load8 h0 h1 h2 h3 h4 h5 h6 h7, load8 h8 h9 h10 h11 h12 h13 h14 h15, load8 h16 h17 h18 h19 h20 h21 h22 h23, load8 h24 h25 h26 h27 h28 h29 h30 h31]
    exact congrArg (SV.arr .u64 4) (from_math h0 h1 h2 h3 h4 h5 h6 h7 h8 h9 h10 h11 h12 h13 h14 h15 h16 h17 h18 h19 h20 h21 h22 h23 h24 h25 h26 h27 h28 h29 h30 h31)
  · cases h
theorem c39 : ∀ args res ob, e39 args = some (res, ob) → All ob → Contract Try.prog 39 args res := by
  intro args res ob h hob
  simp only [e39, t1] at h
  split at h
  · rename_i a
    cases h
    refine contract Try.func39 (body := bodyOf Try.f39) rfl (by kernel_rfl) (by kernel_rfl) rfl ?_
    rintro ⟨ha, _⟩ w0 S
    have Ha := vF_lt ha
    clear Ha
    obtain ⟨a0, a1, a2, a3, rfl⟩ := list4 ha.1
    have ha2 := ha.2
    simp only [List.mem_cons, List.not_mem_nil, or_false, forall_eq_or_imp, forall_eq, lim] at ha2
    refine hold_end mixed ok6b (unroll := true) (f := 700) (sc := []) (r := (Go.Eng.SV.arr Go.IntKind.u8 32 [a0 / 1 % 256, a0 / 256 % 256, a0 / 65536 % 256, a0 / 16777216 % 256, a0 / 4294967296 % 256, a0 / 1099511627776 % 256, a0 / 281474976710656 % 256, a0 / 72057594037927936 % 256, a1 / 1 % 256, a1 / 256 % 256, a1 / 65536 % 256, a1 / 16777216 % 256, a1 / 4294967296 % 256, a1 / 1099511627776 % 256, a1 / 281474976710656 % 256, a1 / 72057594037927936 % 256, a2 / 1 % 256, a2 / 256 % 256, a2 / 65536 % 256, a2 / 16777216 % 256, a2 / 4294967296 % 256, a2 / 1099511627776 % 256, a2 / 281474976710656 % 256, a2 / 72057594037927936 % 256, a3 / 1 % 256, a3 / 256 % 256, a3 / 65536 % 256, a3 / 16777216 % 256, a3 / 4294967296 % 256, a3 / 1099511627776 % 256, a3 / 281474976710656 % 256, a3 / 72057594037927936 % 256])) (ob := []) (sc' := []) (by kernel_rfl) trivial ?_
    simp only [fld, dB, dg, vF4, Nat.div_div_eq_div_mul, Nat.reduceMul, SV.arr.injEq, true_and, List.cons.injEq, and_true]
    refine ⟨?_, ?_, ?_, ?_, ?_, ?_, ?_, ?_, ?_, ?_, ?_, ?_, ?_, ?_, ?_, ?_, ?_, ?_, ?_, ?_, ?_, ?_, ?_, ?_, ?_, ?_, ?_, ?_, ?_, ?_, ?_, ?_⟩ <;> omega
  · cases h
theorem c40 : ∀ args res ob, e40 args = some (res, ob) → All ob → Contract Try.prog 40 args res := by
  intro args res ob h hob
  simp only [e40, t0] at h
  split at h
  · cases h
    refine contract Try.func40 (body := bodyOf Try.f40) rfl (by kernel_rfl) (by kernel_rfl) rfl ?_
    rintro _ w0 S
    exact hold_end mixed ok6b (unroll := true) (f := 40) (sc := []) (r := (Go.Eng.SV.arr Go.IntKind.u64 4 [18446744073709551597, 18446744073709551615, 18446744073709551615, 9223372036854775807])) (ob := []) (sc' := []) (by kernel_rfl) trivial (by kernel_rfl)
  · cases h
theorem c52 : ∀ args res ob, e52 args = some (res, ob) → All ob → Contract Try.prog 52 args res := by
  intro args res ob h hob
  simp only [e52, t0] at h
  split at h
  · cases h
    refine contract Try.func52 (body := bodyOf Try.f52) rfl (by kernel_rfl) (by kernel_rfl) rfl ?_
    rintro _ w0 S
    exact hold_end mixed ok6b (unroll := true) (f := 40) (sc := []) (r := (Go.Eng.SV.arr Go.IntKind.u64 4 [6346243789798364141, 1503914060200516822, 0, 1152921504606846976])) (ob := []) (sc' := []) (by kernel_rfl) trivial (by kernel_rfl)
  · cases h
theorem c76 : ∀ args res ob, e76 args = some (res, ob) → All ob → Contract Try.prog 76 args res := by
  intro args res ob h hob
  simp only [e76, t2] at h
  split at h
  · rename_i a b
    cases h
    refine contract Try.func76 (body := bodyOf Try.f76) rfl (by kernel_rfl) (by kernel_rfl) rfl ?_
    rintro ⟨ha, hb, _⟩ w0 S
    obtain ⟨a0, a1, a2, a3, rfl⟩ := list4 ha.1
    obtain ⟨b0, b1, b2, b3, rfl⟩ := list4 hb.1
    have ha2 := ha.2
    have hb2 := hb.2
    simp only [List.mem_cons, List.not_mem_nil, or_false, forall_eq_or_imp, forall_eq, lim] at ha2 hb2
    refine hold_end mixed ok6b (unroll := true) (f := 400) (sc := []) (r := (Go.Eng.SV.tup [Go.Eng.SV.arr Go.IntKind.u64 4 [(a0 + b0 + 0) % 18446744073709551616, (a1 + b1 + (a0 + b0 + 0) / 18446744073709551616) % 18446744073709551616, (a2 + b2 + (a1 + b1 + (a0 + b0 + 0) / 18446744073709551616) / 18446744073709551616) % 18446744073709551616, (a3 + b3 + (a2 + b2 + (a1 + b1 + (a0 + b0 + 0) / 18446744073709551616) / 18446744073709551616) / 18446744073709551616) % 18446744073709551616], Go.Eng.SV.u Go.IntKind.u64 ((a3 + b3 + (a2 + b2 + (a1 + b1 + (a0 + b0 + 0) / 18446744073709551616) / 18446744073709551616) / 18446744073709551616) / 18446744073709551616)])) (ob := [0 ≤ 1, (a0 + b0 + 0) / 18446744073709551616 ≤ 1, (a1 + b1 + (a0 + b0 + 0) / 18446744073709551616) / 18446744073709551616 ≤ 1, (a2 + b2 + (a1 + b1 + (a0 + b0 + 0) / 18446744073709551616) / 18446744073709551616) / 18446744073709551616 ≤ 1]) (sc' := []) (by kernel_rfl) ?_ ?_
    · exact ⟨by omega, by omega, by omega, by omega, trivial⟩
    · simp only [fe, dF_eq, vF4, M256]
      congr 2
      · congr 1
        simp only [List.cons.injEq, and_true]
        refine ⟨?_, ?_, ?_, ?_⟩ <;> omega
      · simp only [List.cons.injEq, and_true]
        congr 1
        omega
  · cases h
theorem c77 : ∀ args res ob, e77 args = some (res, ob) → All ob → Contract Try.prog 77 args res := by
  intro args res ob h hob
  simp only [e77, t2] at h
  split at h
  · rename_i a b
    cases h
    refine contract Try.func77 (body := bodyOf Try.f77) rfl (by kernel_rfl) (by kernel_rfl) rfl ?_
    rintro ⟨ha, hb, _⟩ w0 S
    obtain ⟨a0, a1, a2, a3, rfl⟩ := list4 ha.1
    obtain ⟨b0, b1, b2, b3, rfl⟩ := list4 hb.1
    have ha2 := ha.2
    have hb2 := hb.2
    simp only [List.mem_cons, List.not_mem_nil, or_false, forall_eq_or_imp, forall_eq, lim] at ha2 hb2
    refine hold_end mixed ok6b (unroll := true) (f := 400) (sc := []) (r := (Go.Eng.SV.tup [Go.Eng.SV.arr Go.IntKind.u64 4 [(a0 + 18446744073709551616 - b0 - 0) % 18446744073709551616, (a1 + 18446744073709551616 - b1 - if a0 < b0 + 0 then 1 else 0) % 18446744073709551616, (a2 + 18446744073709551616 - b2 - if a1 < b1 + if a0 < b0 + 0 then 1 else 0 then 1 else 0) % 18446744073709551616, (a3 + 18446744073709551616 - b3 - if a2 < b2 + if a1 < b1 + if a0 < b0 + 0 then 1 else 0 then 1 else 0 then 1 else 0) % 18446744073709551616], Go.Eng.SV.u Go.IntKind.u64 (if a3 < b3 + if a2 < b2 + if a1 < b1 + if a0 < b0 + 0 then 1 else 0 then 1 else 0 then 1 else 0 then 1 else 0)])) (ob := [0 ≤ 1, (if a0 < b0 + 0 then 1 else 0) ≤ 1, (if a1 < b1 + if a0 < b0 + 0 then 1 else 0 then 1 else 0) ≤ 1, (if a2 < b2 + if a1 < b1 + if a0 < b0 + 0 then 1 else 0 then 1 else 0 then 1 else 0) ≤ 1]) (sc' := []) (by kernel_rfl) ?_ ?_
    · have k : ∀ p : Prop, [Decidable p] → (if p then 1 else 0 : Nat) ≤ 1 := fun p _ => by split <;> omega
      exact ⟨by omega, k _, k _, k _, trivial⟩
    · simp only [fe, dF_eq, vF4, M256]
      generalize h0 : (if a0 < b0 + 0 then 1 else 0 : Nat) = k0
      generalize h1 : (if a1 < b1 + k0 then 1 else 0 : Nat) = k1
      generalize h2 : (if a2 < b2 + k1 then 1 else 0 : Nat) = k2
      generalize h3 : (if a3 < b3 + k2 then 1 else 0 : Nat) = k3
      have e0 : k0 = 0 ∧ b0 ≤ a0 ∨ k0 = 1 ∧ a0 < b0 := by rw [← h0]; split <;> omega
      have e1 : k1 = 0 ∧ b1 + k0 ≤ a1 ∨ k1 = 1 ∧ a1 < b1 + k0 := by rw [← h1]; split <;> omega
      have e2 : k2 = 0 ∧ b2 + k1 ≤ a2 ∨ k2 = 1 ∧ a2 < b2 + k1 := by rw [← h2]; split <;> omega
      have e3 : k3 = 0 ∧ b3 + k2 ≤ a3 ∨ k3 = 1 ∧ a3 < b3 + k2 := by rw [← h3]; split <;> omega
      clear h0 h1 h2 h3
      congr 2
      · congr 1
        simp only [List.cons.injEq, and_true]
        refine ⟨?_, ?_, ?_, ?_⟩ <;> omega
      · simp only [List.cons.injEq, and_true]
        congr 1
        split <;> omega
  · cases h
theorem ok7a : CtrOk Try.prog T7a := (addC_ok (addC_ok (addC_ok (addC_ok (addC_ok (addC_ok (addC_ok (addC_ok (addC_ok (addC_ok (addC_ok (addC_ok (addC_ok (addC_ok ok6b c22) c24) c26) c28) c30) c32) c19) c17) c53) c39) c40) c52) c76) c77)
theorem c65 : ∀ args res ob, e65 args = some (res, ob) → All ob → Contract Try.prog 65 args res := by
  intro args res ob h hob
  simp only [e65, t2] at h
  split at h
  · rename_i a b
    cases h
    refine contract Try.func65 (body := bodyOf Try.f65) rfl (by kernel_rfl) (by kernel_rfl) rfl ?_
    rintro ⟨ha, hb, _⟩ w0 S
    have Ha := vF_lt ha
    have Hb := vF_lt hb
    refine hold_end mixed ok7a (unroll := true) (f := 100) (sc := []) (r := (Go.Eng.SV.b ((if Go.Eng.vF a < Go.Eng.vF b then 1 else 0) == 1))) (ob := []) (sc' := []) (by kernel_rfl) trivial ?_
    congr 1
    by_cases hlt : vF a < vF b <;> simp [hlt]
  · cases h
theorem ok7b : CtrOk Try.prog T7b := addC_ok ok7a c65
theorem mod_e2 {X : Nat} (h : ¬ X < 2 * P255) (hX : X < M256) : (X - 57896044618658097711785492504343953926634992332820282019728792003956564819949 + M256 - 57896044618658097711785492504343953926634992332820282019728792003956564819949) % M256 = X - 115792089237316195423570985008687907853269984665640564039457584007913129639898 := by
  unfold M256 P255 at *
  omega
theorem c55 : ∀ args res ob, e55 args = some (res, ob) → All ob → Contract Try.prog 55 args res := by
  intro args res ob h hob
  simp only [e55, t1] at h
  split at h
  · rename_i a
    cases h
    refine contract Try.func55 (body := bodyOf Try.f55) rfl (by kernel_rfl) (by kernel_rfl) rfl ?_
    rintro ⟨ha, _⟩ w0 S
    have Ha := vF_lt ha
    by_cases h1 : vF a < P255
    · refine hold_end mixed ok7b (unroll := true) (f := 100) (sc := [false]) (r := (Go.Eng.SV.arr Go.IntKind.u64 4 a)) (ob := [(!Decidable.decide (Go.Eng.vF a < 57896044618658097711785492504343953926634992332820282019728792003956564819949)) = Bool.false]) (sc' := []) (by kernel_rfl) ?_ ?_
      · exact ⟨by simpa [P255] using h1, trivial⟩
      · exact congrArg (SV.arr .u64 4) (by rw [Nat.mod_eq_of_lt h1, dF_vF ha])
    · have e1 : (vF a + M256 - 57896044618658097711785492504343953926634992332820282019728792003956564819949) % M256 = vF a - 57896044618658097711785492504343953926634992332820282019728792003956564819949 := by unfold M256 P255 at *; omega
      by_cases h2 : vF a < 2 * P255
      · refine hold_end mixed ok7b (unroll := true) (f := 100) (sc := [true, false]) (r := (Go.Eng.SV.arr Go.IntKind.u64 4 (Go.Eng.dF (Go.Eng.vF a + Go.Eng.M256 - 57896044618658097711785492504343953926634992332820282019728792003956564819949)))) (ob := [(!Decidable.decide (Go.Eng.vF a < 57896044618658097711785492504343953926634992332820282019728792003956564819949)) = Bool.true, (!Decidable.decide (Go.Eng.vF (Go.Eng.dF (Go.Eng.vF a + Go.Eng.M256 - 57896044618658097711785492504343953926634992332820282019728792003956564819949)) < 57896044618658097711785492504343953926634992332820282019728792003956564819949)) = Bool.false]) (sc' := []) (by kernel_rfl) ?_ ?_
        · rw [vF_dF, e1]
          exact ⟨by simpa [P255] using h1, by unfold P255 at *; simp; omega, trivial⟩
        · refine congrArg (SV.arr .u64 4) (dF_congr ?_)
          rw [e1]
          have : vF a % P255 = vF a - 57896044618658097711785492504343953926634992332820282019728792003956564819949 := by unfold P255 at *; omega
          rw [this]
          unfold M256 at *
          omega
      · have e2 : (vF a - 57896044618658097711785492504343953926634992332820282019728792003956564819949 + M256 - 57896044618658097711785492504343953926634992332820282019728792003956564819949) % M256 = vF a - 115792089237316195423570985008687907853269984665640564039457584007913129639898 := mod_e2 h2 Ha
        refine hold_end mixed ok7b (unroll := true) (f := 100) (sc := [true, true, false]) (r := (Go.Eng.SV.arr Go.IntKind.u64 4 (Go.Eng.dF (Go.Eng.vF (Go.Eng.dF (Go.Eng.vF a + Go.Eng.M256 - 57896044618658097711785492504343953926634992332820282019728792003956564819949)) + Go.Eng.M256 - 57896044618658097711785492504343953926634992332820282019728792003956564819949)))) (ob := [(!Decidable.decide (Go.Eng.vF a < 57896044618658097711785492504343953926634992332820282019728792003956564819949)) = Bool.true, (!Decidable.decide (Go.Eng.vF (Go.Eng.dF (Go.Eng.vF a + Go.Eng.M256 - 57896044618658097711785492504343953926634992332820282019728792003956564819949)) < 57896044618658097711785492504343953926634992332820282019728792003956564819949)) = Bool.true, (!Decidable.decide (Go.Eng.vF (Go.Eng.dF (Go.Eng.vF (Go.Eng.dF (Go.Eng.vF a + Go.Eng.M256 - 57896044618658097711785492504343953926634992332820282019728792003956564819949)) + Go.Eng.M256 - 57896044618658097711785492504343953926634992332820282019728792003956564819949)) < 57896044618658097711785492504343953926634992332820282019728792003956564819949)) = Bool.false]) (sc' := []) (by kernel_rfl) ?_ ?_
        · rw [vF_dF, e1, vF_dF, e2]
          exact ⟨by simpa [P255] using h1, by unfold P255 at *; simp; omega, by unfold P255 M256 at *; simp; omega, trivial⟩
        · refine congrArg (SV.arr .u64 4) (dF_congr ?_)
          rw [vF_dF, e1, e2]
          have : vF a % P255 = vF a - 115792089237316195423570985008687907853269984665640564039457584007913129639898 := by unfold P255 M256 at *; omega
          rw [this]
          unfold M256 at *
          omega
  · cases h
theorem ok7c : CtrOk Try.prog T7c := addC_ok ok7b c55
theorem c67 : ∀ args res ob, e67 args = some (res, ob) → All ob → Contract Try.prog 67 args res := by
  intro args res ob h hob
  simp only [e67, t2o] at h
  split at h
  · rename_i a b
    cases h
    refine contract Try.func67 (body := bodyOf Try.f67) rfl (by kernel_rfl) (by kernel_rfl) rfl ?_
    rintro ⟨ha, hb, _⟩ w0 S
    have Ha := vF_lt ha
    have Hb := vF_lt hb
    obtain ⟨ga, gb, _⟩ := hob
    refine hold_end mixed ok7c (unroll := true) (f := 100) (sc := []) (r := (Go.Eng.SV.arr Go.IntKind.u64 4 (Go.Eng.dF (Go.Eng.vF (Go.Eng.dF (Go.Eng.vF a + Go.Eng.vF b)) % Go.Eng.P255)))) (ob := []) (sc' := []) (by kernel_rfl) trivial ?_
    rw [vF_dF, Nat.mod_eq_of_lt (a := vF a + vF b) (by unfold M256 P255 at *; omega)]
    rfl
  · cases h
theorem c69 : ∀ args res ob, e69 args = some (res, ob) → All ob → Contract Try.prog 69 args res := by
  intro args res ob h hob
  simp only [e69, t2o] at h
  split at h
  · rename_i a b
    cases h
    refine contract Try.func69 (body := bodyOf Try.f69) rfl (by kernel_rfl) (by kernel_rfl) rfl ?_
    rintro ⟨ha, hb, _⟩ w0 S
    have Ha := vF_lt ha
    have Hb := vF_lt hb
    obtain ⟨ga, gb, _⟩ := hob
    by_cases h1 : vF a < vF b
    · refine hold_end mixed ok7c (unroll := true) (f := 100) (sc := [true]) (r := (Go.Eng.SV.arr Go.IntKind.u64 4 (Go.Eng.dF (Go.Eng.vF (Go.Eng.dF (Go.Eng.vF a + Go.Eng.M256 - Go.Eng.vF b)) + 57896044618658097711785492504343953926634992332820282019728792003956564819949)))) (ob := [((if Go.Eng.vF a < Go.Eng.vF b then 1 else 0) == 1) = Bool.true]) (sc' := []) (by kernel_rfl) ?_ ?_
      · exact ⟨by simp [h1], trivial⟩
      · refine congrArg (SV.arr .u64 4) (dF_congr ?_)
        rw [vF_dF]
        have e1 : (vF a + M256 - vF b) % M256 = vF a + M256 - vF b := by unfold M256 P255 at *; omega
        have e2 : (vF a + P255 - vF b) % P255 = vF a + P255 - vF b := by unfold M256 P255 at *; omega
        rw [e1, e2]
        unfold M256 P255 at *
        omega
    · refine hold_end mixed ok7c (unroll := true) (f := 100) (sc := [false]) (r := (Go.Eng.SV.arr Go.IntKind.u64 4 (Go.Eng.dF (Go.Eng.vF a + Go.Eng.M256 - Go.Eng.vF b)))) (ob := [((if Go.Eng.vF a < Go.Eng.vF b then 1 else 0) == 1) = Bool.false]) (sc' := []) (by kernel_rfl) ?_ ?_
      · exact ⟨by simp [h1], trivial⟩
      · refine congrArg (SV.arr .u64 4) (dF_congr ?_)
        have e2 : (vF a + P255 - vF b) % P255 = vF a - vF b := by unfold M256 P255 at *; omega
        rw [e2]
        unfold M256 P255 at *
        omega
  · cases h
theorem c23 : ∀ args res ob, e23 args = some (res, ob) → All ob → Contract Try.prog 23 args res := by
  intro args res ob h hob
  simp only [e23, t1b] at h
  split at h
  · rename_i a
    cases h
    refine contract Try.func23 (body := bodyOf Try.f23) rfl (by kernel_rfl) (by kernel_rfl) rfl ?_
    rintro ⟨ha, _⟩ w0 S
    have Ha := vB_lt ha
    refine hold_end mixed ok7c (unroll := true) (f := 100) (sc := []) (r := (Go.Eng.SV.b (Decidable.decide (Go.Eng.vF (Go.Eng.dF (Go.Eng.vB a)) < 57896044618658097711785492504343953926634992332820282019728792003956564819949)))) (ob := []) (sc' := []) (by kernel_rfl) trivial ?_
    rw [vd Ha]
    rfl
  · cases h
theorem c25 : ∀ args res ob, e25 args = some (res, ob) → All ob → Contract Try.prog 25 args res := by
  intro args res ob h hob
  simp only [e25, t1b] at h
  split at h
  · rename_i a
    cases h
    refine contract Try.func25 (body := bodyOf Try.f25) rfl (by kernel_rfl) (by kernel_rfl) rfl ?_
    rintro ⟨ha, _⟩ w0 S
    have Ha := vB_lt ha
    refine hold_end mixed ok7c (unroll := true) (f := 100) (sc := []) (r := (Go.Eng.SV.arr Go.IntKind.u8 32 (Go.Eng.dB (Go.Eng.vF (Go.Eng.dF (Go.Eng.vF (Go.Eng.dF (Go.Eng.vB a)) % Go.Eng.P255)))))) (ob := []) (sc' := []) (by kernel_rfl) trivial ?_
    rw [vd Ha, vd (P_lt _)]
    rfl
  · cases h
theorem c27 : ∀ args res ob, e27 args = some (res, ob) → All ob → Contract Try.prog 27 args res := by
  intro args res ob h hob
  simp only [e27, t2b] at h
  split at h
  · rename_i a b
    cases h
    refine contract Try.func27 (body := bodyOf Try.f27) rfl (by kernel_rfl) (by kernel_rfl) rfl ?_
    rintro ⟨ha, hb, _⟩ w0 S
    have Ha := vB_lt ha
    have Hb := vB_lt hb
    refine hold_end mixed ok7c (unroll := true) (f := 100) (sc := []) (r := (Go.Eng.SV.b (Decidable.decide (Go.Eng.vF (Go.Eng.dF (Go.Eng.vB a)) < Go.Eng.vF (Go.Eng.dF (Go.Eng.vB b)))))) (ob := []) (sc' := []) (by kernel_rfl) trivial ?_
    rw [vd Ha, vd Hb]
  · cases h
theorem ok7d : CtrOk Try.prog T7d := addC_ok (addC_ok (addC_ok (addC_ok (addC_ok ok7c c67) c69) c23) c25) c27
theorem P_ltP (A : Nat) : A % P255 < P255 := Nat.mod_lt _ (by decide)
theorem c29 : ∀ args res ob, e29 args = some (res, ob) → All ob → Contract Try.prog 29 args res := by
  intro args res ob h hob
  simp only [e29, t2b] at h
  split at h
  · rename_i a b
    cases h
    refine contract Try.func29 (body := bodyOf Try.f29) rfl (by kernel_rfl) (by kernel_rfl) rfl ?_
    rintro ⟨ha, hb, _⟩ w0 S
    have Ha := vB_lt ha
    have Hb := vB_lt hb
    refine hold_end mixed ok7d (unroll := true) (f := 100) (sc := []) (r := (Go.Eng.SV.arr Go.IntKind.u8 32 (Go.Eng.dB (Go.Eng.vF (Go.Eng.dF ((Go.Eng.vF (Go.Eng.dF (Go.Eng.vF (Go.Eng.dF (Go.Eng.vB a)) % Go.Eng.P255)) + Go.Eng.vF (Go.Eng.dF (Go.Eng.vF (Go.Eng.dF (Go.Eng.vB b)) % Go.Eng.P255))) % Go.Eng.P255)))))) (ob := [Go.Eng.vF (Go.Eng.dF (Go.Eng.vF (Go.Eng.dF (Go.Eng.vB a)) % Go.Eng.P255)) < Go.Eng.P255, Go.Eng.vF (Go.Eng.dF (Go.Eng.vF (Go.Eng.dF (Go.Eng.vB b)) % Go.Eng.P255)) < Go.Eng.P255]) (sc' := []) (by kernel_rfl) ?_ ?_
    · rw [vd Ha, vd Hb, vd (P_lt _), vd (P_lt _)]
      exact ⟨P_ltP _, P_ltP _, trivial⟩
    · rw [vd Ha, vd Hb, vd (P_lt _), vd (P_lt _), vd (P_lt _), ← Nat.add_mod]
      rfl
  · cases h
theorem c31 : ∀ args res ob, e31 args = some (res, ob) → All ob → Contract Try.prog 31 args res := by
  intro args res ob h hob
  simp only [e31, t2b] at h
  split at h
  · rename_i a b
    cases h
    refine contract Try.func31 (body := bodyOf Try.f31) rfl (by kernel_rfl) (by kernel_rfl) rfl ?_
    rintro ⟨ha, hb, _⟩ w0 S
    have Ha := vB_lt ha
    have Hb := vB_lt hb
    refine hold_end mixed ok7d (unroll := true) (f := 100) (sc := []) (r := (Go.Eng.SV.arr Go.IntKind.u8 32 (Go.Eng.dB (Go.Eng.vF (Go.Eng.dF ((Go.Eng.vF (Go.Eng.dF (Go.Eng.vF (Go.Eng.dF (Go.Eng.vB a)) % Go.Eng.P255)) + Go.Eng.P255 - Go.Eng.vF (Go.Eng.dF (Go.Eng.vF (Go.Eng.dF (Go.Eng.vB b)) % Go.Eng.P255))) % Go.Eng.P255)))))) (ob := [Go.Eng.vF (Go.Eng.dF (Go.Eng.vF (Go.Eng.dF (Go.Eng.vB a)) % Go.Eng.P255)) < Go.Eng.P255, Go.Eng.vF (Go.Eng.dF (Go.Eng.vF (Go.Eng.dF (Go.Eng.vB b)) % Go.Eng.P255)) < Go.Eng.P255]) (sc' := []) (by kernel_rfl) ?_ ?_
    · rw [vd Ha, vd Hb, vd (P_lt _), vd (P_lt _)]
      exact ⟨P_ltP _, P_ltP _, trivial⟩
    · rw [vd Ha, vd Hb, vd (P_lt _), vd (P_lt _), vd (P_lt _)]
      have : (vB a % P255 + P255 - vB b % P255) % P255 = (vB a + 3 * P255 - vB b) % P255 := by unfold P255 M256 at *; omega
      rw [this]
      rfl
  · cases h
theorem ok7e : CtrOk Try.prog T7e := addC_ok (addC_ok ok7d c29) c31
end Go.Eng.B
