import Derived.Test.YtjefhfgkeeggoaaE2
set_option linter.unusedVariables false
set_option linter.unusedSimpArgs false
set_option linter.unusedSectionVars false
/- limb: Inv, Equal, quarter, Sqrt. -/
namespace Go.Eng.G
open Go Go.Eng Go.Proofs
set_option maxRecDepth 100000
set_option linter.unusedSimpArgs false
section
variable {w0 : World} {S : Own} {res : SV}
theorem c60 : ∀ args res ob, e60 args = some (res, ob) → All ob → Contract Try.prog 56 args res := by
  intro args res ob h hob
  simp only [e60, t1] at h
  split at h
  · rename_i a
    cases h
    refine contract Try.func56 (body := bodyOf Try.f56) rfl (by kernel_rfl) (by kernel_rfl) rfl ?_
    rintro ⟨ha, _⟩ w0 S
    exact hold_end mixed ok5 (unroll := true) (f := 100) (sc := []) (r := (Go.Eng.SV.arr Go.IntKind.u64 (4 : Nat) (Go.Eng.dF (Go.Eng.G.powF (Go.Eng.vF a) (57896044618658097711785492504343953926634992332820282019728792003956564819947 : Nat))))) (ob := []) (sc' := []) (by kernel_rfl) trivial rfl
  · cases h
theorem dF_inj {A B : Nat} (ha : A < M256) (hb : B < M256) : (dF A == dF B) = decide (A = B) := by
  by_cases h : A = B
  · subst h; simp
  · rw [decide_eq_false h]
    rw [beq_eq_false_iff_ne]
    intro e
    apply h
    have := congrArg vF e
    rwa [vF_dF, vF_dF, Nat.mod_eq_of_lt ha, Nat.mod_eq_of_lt hb] at this
theorem P_lt (A : Nat) : A % P255 < M256 := Nat.lt_trans (Nat.mod_lt _ (by decide)) (by decide)
theorem c83 : ∀ args res ob, e83 args = some (res, ob) → All ob → Contract Try.prog 58 args res := by
  intro args res ob h hob
  simp only [e83, t2] at h
  split at h
  · rename_i a b
    cases h
    refine contract Try.func58 (body := bodyOf Try.f58) rfl (by kernel_rfl) (by kernel_rfl) rfl ?_
    rintro ⟨ha, hb, _⟩ w0 S
    refine hold_end mixed ok5 (unroll := true) (f := 100) (sc := []) (r := (Go.Eng.SV.b (Go.Eng.dF (Go.Eng.vF a % Go.Eng.P255) == Go.Eng.dF (Go.Eng.vF b % Go.Eng.P255)))) (ob := []) (sc' := []) (by kernel_rfl) trivial ?_
    rw [dF_inj (P_lt _) (P_lt _)]
  · cases h
theorem or_hi {k a b : Nat} (h : b < 2 ^ k) : b ||| a * 2 ^ k = b + a * 2 ^ k := by
  rw [Nat.or_comm, Nat.mul_comm a, ← Nat.two_pow_add_eq_or_of_lt h]
  omega
theorem q3 {x y : Nat} (hx : x < 18446744073709551616) : x / 8 ||| y * 2305843009213693952 % 18446744073709551616 = x / 8 + y % 8 * 2305843009213693952 := by
  rw [show y * 2305843009213693952 % 18446744073709551616 = (y % 8) * 2 ^ 61 by omega, or_hi (by omega)]
theorem q2 {x y : Nat} (hx : x < 18446744073709551616) : x / 4 ||| y * 4611686018427387904 % 18446744073709551616 = x / 4 + y % 4 * 4611686018427387904 := by
  rw [show y * 4611686018427387904 % 18446744073709551616 = (y % 4) * 2 ^ 62 by omega, or_hi (by omega)]
theorem c82 : ∀ args res ob, e82 args = some (res, ob) → All ob → Contract Try.prog 73 args res := by
  intro args res ob h hob
  unfold e82 at h
  split at h
  · rename_i a k
    split at h
    · rename_i hk
      subst hk
      cases h
      refine contract Try.func73 (body := bodyOf Try.f73) rfl (by kernel_rfl) (by kernel_rfl) rfl ?_
      rintro ⟨ha, _⟩ w0 S
      obtain ⟨a0, a1, a2, a3, rfl⟩ := list4 ha.1
      have ha2 := ha.2
      simp only [List.mem_cons, List.not_mem_nil, or_false, forall_eq_or_imp, forall_eq, lim] at ha2
      refine hold_end mixed ok5 (unroll := true) (f := 100) (sc := []) (r := (Go.Eng.SV.arr Go.IntKind.u64 (4 : Nat) [a0 / (8 : Nat) ||| a1 * (2305843009213693952 : Nat) % (18446744073709551616 : Nat), a1 / (8 : Nat) ||| a2 * (2305843009213693952 : Nat) % (18446744073709551616 : Nat), a2 / (8 : Nat) ||| a3 * (2305843009213693952 : Nat) % (18446744073709551616 : Nat), a3 / (8 : Nat)])) (ob := []) (sc' := []) (by kernel_rfl) trivial ?_
      rw [q3 ha2.1, q3 ha2.2.1, q3 ha2.2.2.1]
      refine congrArg (SV.arr .u64 4) ?_
      have e : vF [a0, a1, a2, a3] / 8 = vF [a0 / 8 + a1 % 8 * 2305843009213693952, a1 / 8 + a2 % 8 * 2305843009213693952, a2 / 8 + a3 % 8 * 2305843009213693952, a3 / 8] := by
        rw [vF4, vF4]; omega
      rw [e, dF_vF]
      refine ⟨rfl, ?_⟩
      simp only [List.mem_cons, List.not_mem_nil, or_false, forall_eq_or_imp, forall_eq, lim]
      omega
    · split at h
      · rename_i hk
        subst hk
        cases h
        refine contract Try.func73 (body := bodyOf Try.f73) rfl (by kernel_rfl) (by kernel_rfl) rfl ?_
        rintro ⟨ha, _⟩ w0 S
        obtain ⟨a0, a1, a2, a3, rfl⟩ := list4 ha.1
        have ha2 := ha.2
        simp only [List.mem_cons, List.not_mem_nil, or_false, forall_eq_or_imp, forall_eq, lim] at ha2
        refine hold_end mixed ok5 (unroll := true) (f := 100) (sc := []) (r := (Go.Eng.SV.arr Go.IntKind.u64 (4 : Nat) [a0 / (4 : Nat) ||| a1 * (4611686018427387904 : Nat) % (18446744073709551616 : Nat), a1 / (4 : Nat) ||| a2 * (4611686018427387904 : Nat) % (18446744073709551616 : Nat), a2 / (4 : Nat) ||| a3 * (4611686018427387904 : Nat) % (18446744073709551616 : Nat), a3 / (4 : Nat)])) (ob := []) (sc' := []) (by kernel_rfl) trivial ?_
        rw [q2 ha2.1, q2 ha2.2.1, q2 ha2.2.2.1]
        refine congrArg (SV.arr .u64 4) ?_
        have e : vF [a0, a1, a2, a3] / 4 = vF [a0 / 4 + a1 % 4 * 4611686018427387904, a1 / 4 + a2 % 4 * 4611686018427387904, a2 / 4 + a3 % 4 * 4611686018427387904, a3 / 4] := by
          rw [vF4, vF4]; omega
        rw [e, dF_vF]
        refine ⟨rfl, ?_⟩
        simp only [List.mem_cons, List.not_mem_nil, or_false, forall_eq_or_imp, forall_eq, lim]
        omega
      · cases h
  · cases h
theorem ok6a : CtrOk Try.prog T6a := addC_ok (addC_ok (addC_ok ok5 c60) c83) c82
theorem vd {A : Nat} (h : A < M256) : vF (dF A) = A := by rw [vF_dF, Nat.mod_eq_of_lt h]
theorem dF_head (N : Nat) : (dF N).getD 0 0 = N % 18446744073709551616 := by rw [dF_eq]; rfl
theorem subF_lt (A B : Nat) : subF A B < M256 := by unfold subF; exact Nat.mod_lt _ (by decide)
theorem sqI : powF 2 E14 = 19681161376707505956807079304988542015446066515923890162744021073123829784752 := by kernel_rfl
theorem c57 : ∀ args res ob, e57 args = some (res, ob) → All ob → Contract Try.prog 57 args res := by
  intro args res ob h hob
  simp only [e57, t1] at h
  split at h
  · rename_i a
    cases h
    refine contract Try.func57 (body := bodyOf Try.f57) rfl (by kernel_rfl) (by kernel_rfl) rfl ?_
    rintro ⟨ha, _⟩ w0 S
    have hA := vF_lt ha
    have hx : sqX (vF a) < M256 := powF_lt hA _
    have hxx := mulF_lt hx hx
    have hI : 19681161376707505956807079304988542015446066515923890162744021073123829784752 < M256 := by decide
    have hz := mulF_lt hx hI
    have hzz := mulF_lt hz hz
    have ex : powF (vF a) 7237005577332262213973186563042994240829374041602535252466099000494570602494 = sqX (vF a) := rfl
    have hodd : ∀ Y : Nat, (Y % P255 % 18446744073709551616 &&& 1 == 1) = decide (Y % P255 % 2 = 1) := by
      intro Y
      rw [and_one, show Y % P255 % 18446744073709551616 % 2 = Y % P255 % 2 by omega]
      rfl
    by_cases h1 : mulF (sqX (vF a)) (sqX (vF a)) % P255 = vF a % P255
    · have eY : sqY (vF a) = sqX (vF a) := by unfold sqY; rw [if_pos h1]
      have eO : sqOk (vF a) = true := by unfold sqOk; rw [eY]; exact decide_eq_true h1
      by_cases h3 : sqX (vF a) % P255 % 2 = 1
      · refine hold_endw mixed ok6a (unroll := true) (f := 100) (sc := [false, false, true]) (r := (Go.Eng.SV.tup [Go.Eng.SV.arr Go.IntKind.u64 (4 : Nat) (Go.Eng.dF (Go.Eng.vF (Go.Eng.dF (Go.Eng.subF (0 : Nat) (Go.Eng.vF (Go.Eng.dF (Go.Eng.vF (Go.Eng.dF (Go.Eng.G.powF (Go.Eng.vF a) (7237005577332262213973186563042994240829374041602535252466099000494570602494 : Nat))) % Go.Eng.P255))))) % Go.Eng.P255)), Go.Eng.SV.cb Bool.true])) (ob := [(!Decidable.decide (Go.Eng.vF (Go.Eng.dF (Go.Eng.G.mulF (Go.Eng.vF (Go.Eng.dF (Go.Eng.G.powF (Go.Eng.vF a) (7237005577332262213973186563042994240829374041602535252466099000494570602494 : Nat)))) (Go.Eng.vF (Go.Eng.dF (Go.Eng.G.powF (Go.Eng.vF a) (7237005577332262213973186563042994240829374041602535252466099000494570602494 : Nat)))))) % Go.Eng.P255 = Go.Eng.vF a % Go.Eng.P255)) = Bool.false, (!Decidable.decide (Go.Eng.vF (Go.Eng.dF (Go.Eng.G.mulF (Go.Eng.vF (Go.Eng.dF (Go.Eng.G.powF (Go.Eng.vF a) (7237005577332262213973186563042994240829374041602535252466099000494570602494 : Nat)))) (Go.Eng.vF (Go.Eng.dF (Go.Eng.G.powF (Go.Eng.vF a) (7237005577332262213973186563042994240829374041602535252466099000494570602494 : Nat)))))) % Go.Eng.P255 = Go.Eng.vF a % Go.Eng.P255)) = Bool.false, ((Go.Eng.dF (Go.Eng.vF (Go.Eng.dF (Go.Eng.G.powF (Go.Eng.vF a) (7237005577332262213973186563042994240829374041602535252466099000494570602494 : Nat))) % Go.Eng.P255)).getD (0 : Nat) (0 : Nat) &&& (1 : Nat) == (1 : Nat)) = Bool.true]) (sc' := []) (by kernel_rfl) ?_ ?_
        · rw [ex, vd hx, vd hxx, dF_head, hodd]
          exact ⟨by simp [h1], by simp [h1], by simp [h3], trivial⟩
        · have eV : sqV (vF a) = subF 0 (sqX (vF a) % P255) % P255 := by unfold sqV; rw [if_pos eO, eY, if_pos h3]
          rw [ex, vd hx, vd (P_lt _), vd (subF_lt _ _)]
          rw [eO, eV]
          exact ⟨rfl, rfl, rfl⟩
      · refine hold_endw mixed ok6a (unroll := true) (f := 100) (sc := [false, false, false]) (r := (Go.Eng.SV.tup [Go.Eng.SV.arr Go.IntKind.u64 (4 : Nat) (Go.Eng.dF (Go.Eng.vF (Go.Eng.dF (Go.Eng.G.powF (Go.Eng.vF a) (7237005577332262213973186563042994240829374041602535252466099000494570602494 : Nat))) % Go.Eng.P255)), Go.Eng.SV.cb Bool.true])) (ob := [(!Decidable.decide (Go.Eng.vF (Go.Eng.dF (Go.Eng.G.mulF (Go.Eng.vF (Go.Eng.dF (Go.Eng.G.powF (Go.Eng.vF a) (7237005577332262213973186563042994240829374041602535252466099000494570602494 : Nat)))) (Go.Eng.vF (Go.Eng.dF (Go.Eng.G.powF (Go.Eng.vF a) (7237005577332262213973186563042994240829374041602535252466099000494570602494 : Nat)))))) % Go.Eng.P255 = Go.Eng.vF a % Go.Eng.P255)) = Bool.false, (!Decidable.decide (Go.Eng.vF (Go.Eng.dF (Go.Eng.G.mulF (Go.Eng.vF (Go.Eng.dF (Go.Eng.G.powF (Go.Eng.vF a) (7237005577332262213973186563042994240829374041602535252466099000494570602494 : Nat)))) (Go.Eng.vF (Go.Eng.dF (Go.Eng.G.powF (Go.Eng.vF a) (7237005577332262213973186563042994240829374041602535252466099000494570602494 : Nat)))))) % Go.Eng.P255 = Go.Eng.vF a % Go.Eng.P255)) = Bool.false, ((Go.Eng.dF (Go.Eng.vF (Go.Eng.dF (Go.Eng.G.powF (Go.Eng.vF a) (7237005577332262213973186563042994240829374041602535252466099000494570602494 : Nat))) % Go.Eng.P255)).getD (0 : Nat) (0 : Nat) &&& (1 : Nat) == (1 : Nat)) = Bool.false]) (sc' := []) (by kernel_rfl) ?_ ?_
        · rw [ex, vd hx, vd hxx, dF_head, hodd]
          exact ⟨by simp [h1], by simp [h1], by simp [h3], trivial⟩
        · have eV : sqV (vF a) = sqX (vF a) % P255 := by unfold sqV; rw [if_pos eO, eY, if_neg h3]
          rw [ex, vd hx]
          rw [eO, eV]
          exact ⟨rfl, rfl, rfl⟩
    · have eY : sqY (vF a) = mulF (sqX (vF a)) 19681161376707505956807079304988542015446066515923890162744021073123829784752 := by unfold sqY; rw [if_neg h1, sqI]
      by_cases h2 : mulF (sqY (vF a)) (sqY (vF a)) % P255 = vF a % P255
      · have eO : sqOk (vF a) = true := by unfold sqOk; exact decide_eq_true h2
        by_cases h3 : sqY (vF a) % P255 % 2 = 1
        · refine hold_endw mixed ok6a (unroll := true) (f := 100) (sc := [true, false, true]) (r := (Go.Eng.SV.tup [Go.Eng.SV.arr Go.IntKind.u64 (4 : Nat) (Go.Eng.dF (Go.Eng.vF (Go.Eng.dF (Go.Eng.subF (0 : Nat) (Go.Eng.vF (Go.Eng.dF (Go.Eng.vF (Go.Eng.dF (Go.Eng.G.mulF (Go.Eng.vF (Go.Eng.dF (Go.Eng.G.powF (Go.Eng.vF a) (7237005577332262213973186563042994240829374041602535252466099000494570602494 : Nat)))) (19681161376707505956807079304988542015446066515923890162744021073123829784752 : Nat))) % Go.Eng.P255))))) % Go.Eng.P255)), Go.Eng.SV.cb Bool.true])) (ob := [(!Decidable.decide (Go.Eng.vF (Go.Eng.dF (Go.Eng.G.mulF (Go.Eng.vF (Go.Eng.dF (Go.Eng.G.powF (Go.Eng.vF a) (7237005577332262213973186563042994240829374041602535252466099000494570602494 : Nat)))) (Go.Eng.vF (Go.Eng.dF (Go.Eng.G.powF (Go.Eng.vF a) (7237005577332262213973186563042994240829374041602535252466099000494570602494 : Nat)))))) % Go.Eng.P255 = Go.Eng.vF a % Go.Eng.P255)) = Bool.true, (!Decidable.decide (Go.Eng.vF (Go.Eng.dF (Go.Eng.G.mulF (Go.Eng.vF (Go.Eng.dF (Go.Eng.G.mulF (Go.Eng.vF (Go.Eng.dF (Go.Eng.G.powF (Go.Eng.vF a) (7237005577332262213973186563042994240829374041602535252466099000494570602494 : Nat)))) (19681161376707505956807079304988542015446066515923890162744021073123829784752 : Nat)))) (Go.Eng.vF (Go.Eng.dF (Go.Eng.G.mulF (Go.Eng.vF (Go.Eng.dF (Go.Eng.G.powF (Go.Eng.vF a) (7237005577332262213973186563042994240829374041602535252466099000494570602494 : Nat)))) (19681161376707505956807079304988542015446066515923890162744021073123829784752 : Nat)))))) % Go.Eng.P255 = Go.Eng.vF a % Go.Eng.P255)) = Bool.false, ((Go.Eng.dF (Go.Eng.vF (Go.Eng.dF (Go.Eng.G.mulF (Go.Eng.vF (Go.Eng.dF (Go.Eng.G.powF (Go.Eng.vF a) (7237005577332262213973186563042994240829374041602535252466099000494570602494 : Nat)))) (19681161376707505956807079304988542015446066515923890162744021073123829784752 : Nat))) % Go.Eng.P255)).getD (0 : Nat) (0 : Nat) &&& (1 : Nat) == (1 : Nat)) = Bool.true]) (sc' := []) (by kernel_rfl) ?_ ?_
          · rw [ex, vd hx, vd hz, vd hxx, vd hzz, dF_head, hodd]
            rw [← eY]
            exact ⟨by simp [h1], by simp [h2], by simp [h3], trivial⟩
          · have eV : sqV (vF a) = subF 0 (sqY (vF a) % P255) % P255 := by unfold sqV; rw [if_pos eO, if_pos h3]
            rw [ex, vd hx, vd hz, vd (P_lt _), vd (subF_lt _ _)]
            rw [eO, eV, eY]
            exact ⟨rfl, rfl, rfl⟩
        · refine hold_endw mixed ok6a (unroll := true) (f := 100) (sc := [true, false, false]) (r := (Go.Eng.SV.tup [Go.Eng.SV.arr Go.IntKind.u64 (4 : Nat) (Go.Eng.dF (Go.Eng.vF (Go.Eng.dF (Go.Eng.G.mulF (Go.Eng.vF (Go.Eng.dF (Go.Eng.G.powF (Go.Eng.vF a) (7237005577332262213973186563042994240829374041602535252466099000494570602494 : Nat)))) (19681161376707505956807079304988542015446066515923890162744021073123829784752 : Nat))) % Go.Eng.P255)), Go.Eng.SV.cb Bool.true])) (ob := [(!Decidable.decide (Go.Eng.vF (Go.Eng.dF (Go.Eng.G.mulF (Go.Eng.vF (Go.Eng.dF (Go.Eng.G.powF (Go.Eng.vF a) (7237005577332262213973186563042994240829374041602535252466099000494570602494 : Nat)))) (Go.Eng.vF (Go.Eng.dF (Go.Eng.G.powF (Go.Eng.vF a) (7237005577332262213973186563042994240829374041602535252466099000494570602494 : Nat)))))) % Go.Eng.P255 = Go.Eng.vF a % Go.Eng.P255)) = Bool.true, (!Decidable.decide (Go.Eng.vF (Go.Eng.dF (Go.Eng.G.mulF (Go.Eng.vF (Go.Eng.dF (Go.Eng.G.mulF (Go.Eng.vF (Go.Eng.dF (Go.Eng.G.powF (Go.Eng.vF a) (7237005577332262213973186563042994240829374041602535252466099000494570602494 : Nat)))) (19681161376707505956807079304988542015446066515923890162744021073123829784752 : Nat)))) (Go.Eng.vF (Go.Eng.dF (Go.Eng.G.mulF (Go.Eng.vF (Go.Eng.dF (Go.Eng.G.powF (Go.Eng.vF a) (7237005577332262213973186563042994240829374041602535252466099000494570602494 : Nat)))) (19681161376707505956807079304988542015446066515923890162744021073123829784752 : Nat)))))) % Go.Eng.P255 = Go.Eng.vF a % Go.Eng.P255)) = Bool.false, ((Go.Eng.dF (Go.Eng.vF (Go.Eng.dF (Go.Eng.G.mulF (Go.Eng.vF (Go.Eng.dF (Go.Eng.G.powF (Go.Eng.vF a) (7237005577332262213973186563042994240829374041602535252466099000494570602494 : Nat)))) (19681161376707505956807079304988542015446066515923890162744021073123829784752 : Nat))) % Go.Eng.P255)).getD (0 : Nat) (0 : Nat) &&& (1 : Nat) == (1 : Nat)) = Bool.false]) (sc' := []) (by kernel_rfl) ?_ ?_
          · rw [ex, vd hx, vd hz, vd hxx, vd hzz, dF_head, hodd]
            rw [← eY]
            exact ⟨by simp [h1], by simp [h2], by simp [h3], trivial⟩
          · have eV : sqV (vF a) = sqY (vF a) % P255 := by unfold sqV; rw [if_pos eO, if_neg h3]
            rw [ex, vd hx, vd hz]
            rw [eO, eV, eY]
            exact ⟨rfl, rfl, rfl⟩
      · have eO : sqOk (vF a) = false := by unfold sqOk; exact decide_eq_false h2
        refine hold_endw mixed ok6a (unroll := true) (f := 100) (sc := [true, true]) (r := (Go.Eng.SV.tup [Go.Eng.SV.arr Go.IntKind.u64 (4 : Nat) [(0 : Nat), (0 : Nat), (0 : Nat), (0 : Nat)], Go.Eng.SV.cb Bool.false])) (ob := [(!Decidable.decide (Go.Eng.vF (Go.Eng.dF (Go.Eng.G.mulF (Go.Eng.vF (Go.Eng.dF (Go.Eng.G.powF (Go.Eng.vF a) (7237005577332262213973186563042994240829374041602535252466099000494570602494 : Nat)))) (Go.Eng.vF (Go.Eng.dF (Go.Eng.G.powF (Go.Eng.vF a) (7237005577332262213973186563042994240829374041602535252466099000494570602494 : Nat)))))) % Go.Eng.P255 = Go.Eng.vF a % Go.Eng.P255)) = Bool.true, (!Decidable.decide (Go.Eng.vF (Go.Eng.dF (Go.Eng.G.mulF (Go.Eng.vF (Go.Eng.dF (Go.Eng.G.mulF (Go.Eng.vF (Go.Eng.dF (Go.Eng.G.powF (Go.Eng.vF a) (7237005577332262213973186563042994240829374041602535252466099000494570602494 : Nat)))) (19681161376707505956807079304988542015446066515923890162744021073123829784752 : Nat)))) (Go.Eng.vF (Go.Eng.dF (Go.Eng.G.mulF (Go.Eng.vF (Go.Eng.dF (Go.Eng.G.powF (Go.Eng.vF a) (7237005577332262213973186563042994240829374041602535252466099000494570602494 : Nat)))) (19681161376707505956807079304988542015446066515923890162744021073123829784752 : Nat)))))) % Go.Eng.P255 = Go.Eng.vF a % Go.Eng.P255)) = Bool.true]) (sc' := []) (by kernel_rfl) ?_ ?_
        · rw [ex, vd hx, vd hz, vd hxx, vd hzz]
          rw [← eY]
          exact ⟨by simp [h1], by simp [h2], trivial⟩
        · have eV : sqV (vF a) = 0 := by unfold sqV; rw [eO]; rfl
          rw [eO, eV]
          exact ⟨rfl, rfl, rfl⟩
  · cases h
theorem ok6b : CtrOk Try.prog T6b := addC_ok ok6a c57
end
end Go.Eng.G

/- field and its plain counterpart: what the functions give. -/
namespace Go.Eng.G
open Go Go.Eng Go.Proofs
set_option maxRecDepth 100000
set_option linter.unusedSimpArgs false
def t2b (g : List Nat → List Nat → SV) (args : List SV) : Option (SV × List Prop) :=
  match args with
  | [.arr .u8 32 a, .arr .u8 32 b] => some (g a b, [])
  | _ => none
def t2o (g : List Nat → List Nat → SV) (o : List Nat → List Nat → List Prop) (args : List SV) : Option (SV × List Prop) :=
  match args with
  | [.arr .u64 4 a, .arr .u64 4 b] => some (g a b, o a b)
  | _ => none
def t1o (g : List Nat → SV) (o : List Nat → List Prop) (args : List SV) : Option (SV × List Prop) :=
  match args with
  | [.arr .u64 4 a] => some (g a, o a)
  | _ => none
def PI : Nat := 57896044618658097711785492504343953926634992332820282019728792003956564819947
def e22 := t1b (fun l => .b (decide (vB l < P255)))
def e24 := t1b (fun l => fld (vB l % P255))
def e26 := t2b (fun a b => .b (decide (vB a < vB b)))
def e28 := t2b (fun a b => fld ((vB a + vB b) % P255))
def e30 := t2b (fun a b => fld ((vB a + 3 * P255 - vB b) % P255))
def e32 := t2b (fun a b => fld (vB a * vB b % P255))
def e19 := t1b (fun l => fld (powF (vB l) PI % P255))
def e17 := t1b (fun l => .tup [fld (sqV (vB l)), .b (sqOk (vB l))])
def e53 := t1b (fun l => fe (vB l))
def e39 := t1 (fun a => fld (vF a))
def e40 := t0 (fe P255)
def e52 := t0 (fe QQ)
def e76 := t2 (fun a b => .tup [fe (vF a + vF b), .u .u64 ((vF a + vF b) / M256)])
def e77 := t2 (fun a b => .tup [fe (vF a + M256 - vF b), .u .u64 (if vF a < vF b then 1 else 0)])
def e65 := t2 (fun a b => .b (decide (vF a < vF b)))
def e55 := t1 (fun a => fe (vF a % P255))
def e67 := t2o (fun a b => fe ((vF a + vF b) % P255)) (fun a b => [vF a < P255, vF b < P255])
def e69 := t2o (fun a b => fe ((vF a + P255 - vF b) % P255)) (fun a b => [vF a < P255, vF b < P255])
def T7a : Ctr := addC 88 e77 (addC 89 e76 (addC 12 e52 (addC 87 e40 (addC 11 e39 (addC 78 e53 ((((((((T6b)))))))))))))
def T7b : Ctr := addC 86 e65 T7a
def T7c : Ctr := addC 77 e55 T7b
def e23 := t1b (fun l => .b (decide (vB l < P255)))
def e25 := t1b (fun l => fld (vB l % P255))
def e27 := t2b (fun a b => .b (decide (vB a < vB b)))
def T7d : Ctr := addC 80 e69 (addC 79 e67 T7c)
def e29 := t2b (fun a b => fld ((vB a + vB b) % P255))
def e31 := t2b (fun a b => fld ((vB a + 3 * P255 - vB b) % P255))
def T7e : Ctr := T7d

theorem addF_mod {A B : Nat} (ha : A < M256) (hb : B < M256) : addF A B % P255 = (A + B) % P255 := by
  unfold addF P255 M256 at *; omega
theorem addF_lt {A B : Nat} (ha : A < M256) (hb : B < M256) : addF A B < M256 := by
  unfold addF M256 at *; omega
theorem subF_mod {A B : Nat} (ha : A < M256) (hb : B < M256) : subF A B % P255 = (A + 3 * P255 - B) % P255 := by
  unfold subF
  by_cases h : A < B
  · have e1 : (A + M256 - B) % M256 = A + M256 - B := by unfold M256 at *; omega
    simp only [if_pos h, e1, Nat.mul_one]
    by_cases h2 : A + M256 - B < 38
    · simp only [if_pos h2, Nat.mul_one]
      have e2 : (A + M256 - B + M256 - 38) % M256 = A + M256 - B + M256 - 38 := by unfold M256 at *; omega
      rw [e2]
      unfold P255 M256 at *
      omega
    · simp only [if_neg h2, Nat.mul_zero, Nat.sub_zero]
      unfold P255 M256 at *
      omega
  · have e1 : (A + M256 - B) % M256 = A - B := by unfold M256 at *; omega
    simp only [if_neg h, e1, Nat.mul_zero, Nat.sub_zero, Nat.not_lt_zero, if_false]
    unfold P255 M256 at *
    omega
theorem sqV_lt (A : Nat) : sqV A < M256 := by
  unfold sqV
  split
  · split
    · exact P_lt _
    · exact P_lt _
  · decide
end Go.Eng.G

/- field, and the plain counterpart's first functions. -/
namespace Go.Eng.G
open Go Go.Eng Go.Proofs
set_option maxRecDepth 100000
set_option linter.unusedSimpArgs false
theorem or_at {k b x : Nat} (hk : k ≤ 56) (hb : b < 2 ^ k) (hx : x < 256) : b ||| x * 2 ^ k % 18446744073709551616 = b + x * 2 ^ k := by
  have h1 : x * 2 ^ k < 18446744073709551616 := by
    have h2 : 2 ^ k ≤ 2 ^ 56 := Nat.pow_le_pow_right (by decide) hk
    have h3 : x * 2 ^ k ≤ 255 * 2 ^ 56 := Nat.mul_le_mul (by omega) h2
    exact Nat.lt_of_le_of_lt h3 (by decide)
  rw [Nat.mod_eq_of_lt h1, or_hi hb]
theorem load8 {x0 x1 x2 x3 x4 x5 x6 x7 : Nat} (h0 : x0 < 256) (h1 : x1 < 256) (h2 : x2 < 256) (h3 : x3 < 256) (h4 : x4 < 256) (h5 : x5 < 256) (h6 : x6 < 256) (h7 : x7 < 256) :
    0 ||| x0 * 1 % 18446744073709551616 ||| x1 * 256 % 18446744073709551616 ||| x2 * 65536 % 18446744073709551616 ||| x3 * 16777216 % 18446744073709551616 ||| x4 * 4294967296 % 18446744073709551616 ||| x5 * 1099511627776 % 18446744073709551616 ||| x6 * 281474976710656 % 18446744073709551616 ||| x7 * 72057594037927936 % 18446744073709551616 =
      x0 + 256 * (x1 + 256 * (x2 + 256 * (x3 + 256 * (x4 + 256 * (x5 + 256 * (x6 + 256 * x7)))))) := by
  rw [Nat.zero_or, show x0 * 1 % 18446744073709551616 = x0 by omega]
  have e1 := or_at (k := 8) (b := x0) (by decide) (by omega) h1
  rw [show (2 : Nat) ^ 8 = 256 by decide] at e1
  rw [e1]
  have e2 := or_at (k := 16) (b := x0 + x1 * 256) (by decide) (by omega) h2
  rw [show (2 : Nat) ^ 16 = 65536 by decide] at e2
  rw [e2]
  have e3 := or_at (k := 24) (b := x0 + x1 * 256 + x2 * 65536) (by decide) (by omega) h3
  rw [show (2 : Nat) ^ 24 = 16777216 by decide] at e3
  rw [e3]
  have e4 := or_at (k := 32) (b := x0 + x1 * 256 + x2 * 65536 + x3 * 16777216) (by decide) (by omega) h4
  rw [show (2 : Nat) ^ 32 = 4294967296 by decide] at e4
  rw [e4]
  have e5 := or_at (k := 40) (b := x0 + x1 * 256 + x2 * 65536 + x3 * 16777216 + x4 * 4294967296) (by decide) (by omega) h5
  rw [show (2 : Nat) ^ 40 = 1099511627776 by decide] at e5
  rw [e5]
  have e6 := or_at (k := 48) (b := x0 + x1 * 256 + x2 * 65536 + x3 * 16777216 + x4 * 4294967296 + x5 * 1099511627776) (by decide) (by omega) h6
  rw [show (2 : Nat) ^ 48 = 281474976710656 by decide] at e6
  rw [e6]
  have e7 := or_at (k := 56) (b := x0 + x1 * 256 + x2 * 65536 + x3 * 16777216 + x4 * 4294967296 + x5 * 1099511627776 + x6 * 281474976710656) (by decide) (by omega) h7
  rw [show (2 : Nat) ^ 56 = 72057594037927936 by decide] at e7
  rw [e7]
  omega
theorem c53 : ∀ args res ob, e53 args = some (res, ob) → All ob → Contract Try.prog 78 args res := by
  intro args res ob h hob
  simp only [e53, t1b] at h
  split at h
  · rename_i a
    cases h
    refine contract Try.func78 (body := bodyOf Try.f78) rfl (by kernel_rfl) (by kernel_rfl) rfl ?_
    rintro ⟨ha, _⟩ w0 S
    have Ha := vB_lt ha
    clear Ha
    obtain ⟨x0, x1, x2, x3, x4, x5, x6, x7, x8, x9, x10, x11, x12, x13, x14, x15, x16, x17, x18, x19, x20, x21, x22, x23, x24, x25, x26, x27, x28, x29, x30, x31, rfl⟩ := list32 ha.1
    have ha2 := ha.2
    simp only [List.mem_cons, List.not_mem_nil, or_false, forall_eq_or_imp, forall_eq, lim] at ha2
    obtain ⟨h0, h1, h2, h3, h4, h5, h6, h7, h8, h9, h10, h11, h12, h13, h14, h15, h16, h17, h18, h19, h20, h21, h22, h23, h24, h25, h26, h27, h28, h29, h30, h31⟩ := ha2
    refine hold_end mixed ok6b (unroll := true) (f := 700) (sc := []) (r := (Go.Eng.SV.arr Go.IntKind.u64 (4 : Nat) [(0 : Nat) ||| x0 * (1 : Nat) % (18446744073709551616 : Nat) ||| x1 * (256 : Nat) % (18446744073709551616 : Nat) ||| x2 * (65536 : Nat) % (18446744073709551616 : Nat) ||| x3 * (16777216 : Nat) % (18446744073709551616 : Nat) ||| x4 * (4294967296 : Nat) % (18446744073709551616 : Nat) ||| x5 * (1099511627776 : Nat) % (18446744073709551616 : Nat) ||| x6 * (281474976710656 : Nat) % (18446744073709551616 : Nat) ||| x7 * (72057594037927936 : Nat) % (18446744073709551616 : Nat), (0 : Nat) ||| x8 * (1 : Nat) % (18446744073709551616 : Nat) ||| x9 * (256 : Nat) % (18446744073709551616 : Nat) ||| x10 * (65536 : Nat) % (18446744073709551616 : Nat) ||| x11 * (16777216 : Nat) % (18446744073709551616 : Nat) ||| x12 * (4294967296 : Nat) % (18446744073709551616 : Nat) ||| x13 * (1099511627776 : Nat) % (18446744073709551616 : Nat) ||| x14 * (281474976710656 : Nat) % (18446744073709551616 : Nat) ||| x15 * (72057594037927936 : Nat) % (18446744073709551616 : Nat), (0 : Nat) ||| x16 * (1 : Nat) % (18446744073709551616 : Nat) ||| x17 * (256 : Nat) % (18446744073709551616 : Nat) ||| x18 * (65536 : Nat) % (18446744073709551616 : Nat) ||| x19 * (16777216 : Nat) % (18446744073709551616 : Nat) ||| x20 * (4294967296 : Nat) % (18446744073709551616 : Nat) ||| x21 * (1099511627776 : Nat) % (18446744073709551616 : Nat) ||| x22 * (281474976710656 : Nat) % (18446744073709551616 : Nat) ||| x23 * (72057594037927936 : Nat) % (18446744073709551616 : Nat), (0 : Nat) ||| x24 * (1 : Nat) % (18446744073709551616 : Nat) ||| x25 * (256 : Nat) % (18446744073709551616 : Nat) ||| x26 * (65536 : Nat) % (18446744073709551616 : Nat) ||| x27 * (16777216 : Nat) % (18446744073709551616 : Nat) ||| x28 * (4294967296 : Nat) % (18446744073709551616 : Nat) ||| x29 * (1099511627776 : Nat) % (18446744073709551616 : Nat) ||| x30 * (281474976710656 : Nat) % (18446744073709551616 : Nat) ||| x31 * (72057594037927936 : Nat) % (18446744073709551616 : Nat)])) (ob := []) (sc' := []) (by kernel_rfl) trivial ?_
    rw [load8 h0 h1 h2 h3 h4 h5 h6 h7, load8 h8 h9 h10 h11 h12 h13 h14 h15, load8 h16 h17 h18 h19 h20 h21 h22 h23, load8 h24 h25 h26 h27 h28 h29 h30 h31]
    exact congrArg (SV.arr .u64 4) (from_math h0 h1 h2 h3 h4 h5 h6 h7 h8 h9 h10 h11 h12 h13 h14 h15 h16 h17 h18 h19 h20 h21 h22 h23 h24 h25 h26 h27 h28 h29 h30 h31)
  · cases h
theorem c39 : ∀ args res ob, e39 args = some (res, ob) → All ob → Contract Try.prog 11 args res := by
  intro args res ob h hob
  simp only [e39, t1] at h
  split at h
  · rename_i a
    cases h
    refine contract Try.func11 (body := bodyOf Try.f11) rfl (by kernel_rfl) (by kernel_rfl) rfl ?_
    rintro ⟨ha, _⟩ w0 S
    have Ha := vF_lt ha
    clear Ha
    obtain ⟨a0, a1, a2, a3, rfl⟩ := list4 ha.1
    have ha2 := ha.2
    simp only [List.mem_cons, List.not_mem_nil, or_false, forall_eq_or_imp, forall_eq, lim] at ha2
    refine hold_end mixed ok6b (unroll := true) (f := 700) (sc := []) (r := (Go.Eng.SV.arr Go.IntKind.u8 (32 : Nat) [a0 / (1 : Nat) % (256 : Nat), a0 / (256 : Nat) % (256 : Nat), a0 / (65536 : Nat) % (256 : Nat), a0 / (16777216 : Nat) % (256 : Nat), a0 / (4294967296 : Nat) % (256 : Nat), a0 / (1099511627776 : Nat) % (256 : Nat), a0 / (281474976710656 : Nat) % (256 : Nat), a0 / (72057594037927936 : Nat) % (256 : Nat), a1 / (1 : Nat) % (256 : Nat), a1 / (256 : Nat) % (256 : Nat), a1 / (65536 : Nat) % (256 : Nat), a1 / (16777216 : Nat) % (256 : Nat), a1 / (4294967296 : Nat) % (256 : Nat), a1 / (1099511627776 : Nat) % (256 : Nat), a1 / (281474976710656 : Nat) % (256 : Nat), a1 / (72057594037927936 : Nat) % (256 : Nat), a2 / (1 : Nat) % (256 : Nat), a2 / (256 : Nat) % (256 : Nat), a2 / (65536 : Nat) % (256 : Nat), a2 / (16777216 : Nat) % (256 : Nat), a2 / (4294967296 : Nat) % (256 : Nat), a2 / (1099511627776 : Nat) % (256 : Nat), a2 / (281474976710656 : Nat) % (256 : Nat), a2 / (72057594037927936 : Nat) % (256 : Nat), a3 / (1 : Nat) % (256 : Nat), a3 / (256 : Nat) % (256 : Nat), a3 / (65536 : Nat) % (256 : Nat), a3 / (16777216 : Nat) % (256 : Nat), a3 / (4294967296 : Nat) % (256 : Nat), a3 / (1099511627776 : Nat) % (256 : Nat), a3 / (281474976710656 : Nat) % (256 : Nat), a3 / (72057594037927936 : Nat) % (256 : Nat)])) (ob := []) (sc' := []) (by kernel_rfl) trivial ?_
    simp only [fld, dB, dg, vF4, Nat.div_div_eq_div_mul, Nat.reduceMul, SV.arr.injEq, true_and, List.cons.injEq, and_true]
    refine ⟨?_, ?_, ?_, ?_, ?_, ?_, ?_, ?_, ?_, ?_, ?_, ?_, ?_, ?_, ?_, ?_, ?_, ?_, ?_, ?_, ?_, ?_, ?_, ?_, ?_, ?_, ?_, ?_, ?_, ?_, ?_, ?_⟩ <;> omega
  · cases h
theorem c40 : ∀ args res ob, e40 args = some (res, ob) → All ob → Contract Try.prog 87 args res := by
  intro args res ob h hob
  simp only [e40, t0] at h
  split at h
  · cases h
    refine contract Try.func87 (body := bodyOf Try.f87) rfl (by kernel_rfl) (by kernel_rfl) rfl ?_
    rintro _ w0 S
    exact hold_end mixed ok6b (unroll := true) (f := 40) (sc := []) (r := (Go.Eng.SV.arr Go.IntKind.u64 (4 : Nat) [(18446744073709551597 : Nat), (18446744073709551615 : Nat), (18446744073709551615 : Nat), (9223372036854775807 : Nat)])) (ob := []) (sc' := []) (by kernel_rfl) trivial (by kernel_rfl)
  · cases h
theorem c52 : ∀ args res ob, e52 args = some (res, ob) → All ob → Contract Try.prog 12 args res := by
  intro args res ob h hob
  simp only [e52, t0] at h
  split at h
  · cases h
    refine contract Try.func12 (body := bodyOf Try.f12) rfl (by kernel_rfl) (by kernel_rfl) rfl ?_
    rintro _ w0 S
    exact hold_end mixed ok6b (unroll := true) (f := 40) (sc := []) (r := (Go.Eng.SV.arr Go.IntKind.u64 (4 : Nat) [(6346243789798364141 : Nat), (1503914060200516822 : Nat), (0 : Nat), (1152921504606846976 : Nat)])) (ob := []) (sc' := []) (by kernel_rfl) trivial (by kernel_rfl)
  · cases h
theorem c76 : ∀ args res ob, e76 args = some (res, ob) → All ob → Contract Try.prog 89 args res := by
  intro args res ob h hob
  simp only [e76, t2] at h
  split at h
  · rename_i a b
    cases h
    refine contract Try.func89 (body := bodyOf Try.f89) rfl (by kernel_rfl) (by kernel_rfl) rfl ?_
    rintro ⟨ha, hb, _⟩ w0 S
    obtain ⟨a0, a1, a2, a3, rfl⟩ := list4 ha.1
    obtain ⟨b0, b1, b2, b3, rfl⟩ := list4 hb.1
    have ha2 := ha.2
    have hb2 := hb.2
    simp only [List.mem_cons, List.not_mem_nil, or_false, forall_eq_or_imp, forall_eq, lim] at ha2 hb2
    refine hold_end mixed ok6b (unroll := true) (f := 400) (sc := []) (r := (Go.Eng.SV.tup [Go.Eng.SV.arr Go.IntKind.u64 (4 : Nat) [(a0 + b0 + (0 : Nat)) % (18446744073709551616 : Nat), (a1 + b1 + (a0 + b0 + (0 : Nat)) / (18446744073709551616 : Nat)) % (18446744073709551616 : Nat), (a2 + b2 + (a1 + b1 + (a0 + b0 + (0 : Nat)) / (18446744073709551616 : Nat)) / (18446744073709551616 : Nat)) % (18446744073709551616 : Nat), (a3 + b3 + (a2 + b2 + (a1 + b1 + (a0 + b0 + (0 : Nat)) / (18446744073709551616 : Nat)) / (18446744073709551616 : Nat)) / (18446744073709551616 : Nat)) % (18446744073709551616 : Nat)], Go.Eng.SV.u Go.IntKind.u64 ((a3 + b3 + (a2 + b2 + (a1 + b1 + (a0 + b0 + (0 : Nat)) / (18446744073709551616 : Nat)) / (18446744073709551616 : Nat)) / (18446744073709551616 : Nat)) / (18446744073709551616 : Nat))])) (ob := [(0 : Nat) ≤ (1 : Nat), (a0 + b0 + (0 : Nat)) / (18446744073709551616 : Nat) ≤ (1 : Nat), (a1 + b1 + (a0 + b0 + (0 : Nat)) / (18446744073709551616 : Nat)) / (18446744073709551616 : Nat) ≤ (1 : Nat), (a2 + b2 + (a1 + b1 + (a0 + b0 + (0 : Nat)) / (18446744073709551616 : Nat)) / (18446744073709551616 : Nat)) / (18446744073709551616 : Nat) ≤ (1 : Nat)]) (sc' := []) (by kernel_rfl) ?_ ?_
    · exact ⟨by omega, by omega, by omega, by omega, trivial⟩
    · simp only [fe, dF_eq, vF4, M256]
      congr 2
      · congr 1
        simp only [List.cons.injEq, and_true]
        refine ⟨?_, ?_, ?_, ?_⟩ <;> omega
      · simp only [List.cons.injEq, and_true]
        congr 1
        omega
  · cases h
theorem c77 : ∀ args res ob, e77 args = some (res, ob) → All ob → Contract Try.prog 88 args res := by
  intro args res ob h hob
  simp only [e77, t2] at h
  split at h
  · rename_i a b
    cases h
    refine contract Try.func88 (body := bodyOf Try.f88) rfl (by kernel_rfl) (by kernel_rfl) rfl ?_
    rintro ⟨ha, hb, _⟩ w0 S
    obtain ⟨a0, a1, a2, a3, rfl⟩ := list4 ha.1
    obtain ⟨b0, b1, b2, b3, rfl⟩ := list4 hb.1
    have ha2 := ha.2
    have hb2 := hb.2
    simp only [List.mem_cons, List.not_mem_nil, or_false, forall_eq_or_imp, forall_eq, lim] at ha2 hb2
    refine hold_end mixed ok6b (unroll := true) (f := 400) (sc := []) (r := (Go.Eng.SV.tup [Go.Eng.SV.arr Go.IntKind.u64 (4 : Nat) [(a0 + (18446744073709551616 : Nat) - b0 - (0 : Nat)) % (18446744073709551616 : Nat), (a1 + (18446744073709551616 : Nat) - b1 - if a0 < b0 + (0 : Nat) then (1 : Nat) else (0 : Nat)) % (18446744073709551616 : Nat), (a2 + (18446744073709551616 : Nat) - b2 - if a1 < b1 + if a0 < b0 + (0 : Nat) then (1 : Nat) else (0 : Nat) then (1 : Nat) else (0 : Nat)) % (18446744073709551616 : Nat), (a3 + (18446744073709551616 : Nat) - b3 - if a2 < b2 + if a1 < b1 + if a0 < b0 + (0 : Nat) then (1 : Nat) else (0 : Nat) then (1 : Nat) else (0 : Nat) then (1 : Nat) else (0 : Nat)) % (18446744073709551616 : Nat)], Go.Eng.SV.u Go.IntKind.u64 (if a3 < b3 + if a2 < b2 + if a1 < b1 + if a0 < b0 + (0 : Nat) then (1 : Nat) else (0 : Nat) then (1 : Nat) else (0 : Nat) then (1 : Nat) else (0 : Nat) then (1 : Nat) else (0 : Nat))])) (ob := [(0 : Nat) ≤ (1 : Nat), (if a0 < b0 + (0 : Nat) then (1 : Nat) else (0 : Nat)) ≤ (1 : Nat), (if a1 < b1 + if a0 < b0 + (0 : Nat) then (1 : Nat) else (0 : Nat) then (1 : Nat) else (0 : Nat)) ≤ (1 : Nat), (if a2 < b2 + if a1 < b1 + if a0 < b0 + (0 : Nat) then (1 : Nat) else (0 : Nat) then (1 : Nat) else (0 : Nat) then (1 : Nat) else (0 : Nat)) ≤ (1 : Nat)]) (sc' := []) (by kernel_rfl) ?_ ?_
    · have k : ∀ p : Prop, [Decidable p] → (if p then 1 else 0 : Nat) ≤ 1 := fun p _ => by split <;> omega
      exact ⟨by omega, k _, k _, k _, trivial⟩
    · simp only [fe, dF_eq, vF4, M256]
      generalize h0 : (if a0 < b0 + 0 then 1 else 0 : Nat) = k0
      generalize h1 : (if a1 < b1 + k0 then 1 else 0 : Nat) = k1
      generalize h2 : (if a2 < b2 + k1 then 1 else 0 : Nat) = k2
      generalize h3 : (if a3 < b3 + k2 then 1 else 0 : Nat) = k3
      have e0 : k0 = 0 ∧ b0 ≤ a0 ∨ k0 = 1 ∧ a0 < b0 := by rw [← h0]; split <;> omega
      have e1 : k1 = 0 ∧ b1 + k0 ≤ a1 ∨ k1 = 1 ∧ a1 < b1 + k0 := by rw [← h1]; split <;> omega
      have e2 : k2 = 0 ∧ b2 + k1 ≤ a2 ∨ k2 = 1 ∧ a2 < b2 + k1 := by rw [← h2]; split <;> omega
      have e3 : k3 = 0 ∧ b3 + k2 ≤ a3 ∨ k3 = 1 ∧ a3 < b3 + k2 := by rw [← h3]; split <;> omega
      clear h0 h1 h2 h3
      congr 2
      · congr 1
        simp only [List.cons.injEq, and_true]
        refine ⟨?_, ?_, ?_, ?_⟩ <;> omega
      · simp only [List.cons.injEq, and_true]
        congr 1
        split <;> omega
  · cases h
theorem ok7a : CtrOk Try.prog T7a := (addC_ok (addC_ok (addC_ok (addC_ok (addC_ok (addC_ok (ok6b) c53) c39) c40) c52) c76) c77)
theorem c65 : ∀ args res ob, e65 args = some (res, ob) → All ob → Contract Try.prog 86 args res := by
  intro args res ob h hob
  simp only [e65, t2] at h
  split at h
  · rename_i a b
    cases h
    refine contract Try.func86 (body := bodyOf Try.f86) rfl (by kernel_rfl) (by kernel_rfl) rfl ?_
    rintro ⟨ha, hb, _⟩ w0 S
    have Ha := vF_lt ha
    have Hb := vF_lt hb
    refine hold_end mixed ok7a (unroll := true) (f := 100) (sc := []) (r := (Go.Eng.SV.b ((if Go.Eng.vF a < Go.Eng.vF b then (1 : Nat) else (0 : Nat)) == (1 : Nat)))) (ob := []) (sc' := []) (by kernel_rfl) trivial ?_
    congr 1
    by_cases hlt : vF a < vF b <;> simp [hlt]
  · cases h
theorem ok7b : CtrOk Try.prog T7b := addC_ok ok7a c65
theorem mod_e2 {X : Nat} (h : ¬ X < 2 * P255) (hX : X < M256) : (X - 57896044618658097711785492504343953926634992332820282019728792003956564819949 + M256 - 57896044618658097711785492504343953926634992332820282019728792003956564819949) % M256 = X - 115792089237316195423570985008687907853269984665640564039457584007913129639898 := by
  unfold M256 P255 at *
  omega
theorem c55 : ∀ args res ob, e55 args = some (res, ob) → All ob → Contract Try.prog 77 args res := by
  intro args res ob h hob
  simp only [e55, t1] at h
  split at h
  · rename_i a
    cases h
    refine contract Try.func77 (body := bodyOf Try.f77) rfl (by kernel_rfl) (by kernel_rfl) rfl ?_
    rintro ⟨ha, _⟩ w0 S
    have Ha := vF_lt ha
    by_cases h1 : vF a < P255
    · refine hold_end mixed ok7b (unroll := true) (f := 100) (sc := [false]) (r := (Go.Eng.SV.arr Go.IntKind.u64 (4 : Nat) a)) (ob := [(!Decidable.decide (Go.Eng.vF a < (57896044618658097711785492504343953926634992332820282019728792003956564819949 : Nat))) = Bool.false]) (sc' := []) (by kernel_rfl) ?_ ?_
      · exact ⟨by simpa [P255] using h1, trivial⟩
      · exact congrArg (SV.arr .u64 4) (by rw [Nat.mod_eq_of_lt h1, dF_vF ha])
    · have e1 : (vF a + M256 - 57896044618658097711785492504343953926634992332820282019728792003956564819949) % M256 = vF a - 57896044618658097711785492504343953926634992332820282019728792003956564819949 := by unfold M256 P255 at *; omega
      by_cases h2 : vF a < 2 * P255
      · refine hold_end mixed ok7b (unroll := true) (f := 100) (sc := [true, false]) (r := (Go.Eng.SV.arr Go.IntKind.u64 (4 : Nat) (Go.Eng.dF (Go.Eng.vF a + Go.Eng.M256 - (57896044618658097711785492504343953926634992332820282019728792003956564819949 : Nat))))) (ob := [(!Decidable.decide (Go.Eng.vF a < (57896044618658097711785492504343953926634992332820282019728792003956564819949 : Nat))) = Bool.true, (!Decidable.decide (Go.Eng.vF (Go.Eng.dF (Go.Eng.vF a + Go.Eng.M256 - (57896044618658097711785492504343953926634992332820282019728792003956564819949 : Nat))) < (57896044618658097711785492504343953926634992332820282019728792003956564819949 : Nat))) = Bool.false]) (sc' := []) (by kernel_rfl) ?_ ?_
        · rw [vF_dF, e1]
          exact ⟨by simpa [P255] using h1, by unfold P255 at *; simp; omega, trivial⟩
        · refine congrArg (SV.arr .u64 4) (dF_congr ?_)
          rw [e1]
          have : vF a % P255 = vF a - 57896044618658097711785492504343953926634992332820282019728792003956564819949 := by unfold P255 at *; omega
          rw [this]
          unfold M256 at *
          omega
      · have e2 : (vF a - 57896044618658097711785492504343953926634992332820282019728792003956564819949 + M256 - 57896044618658097711785492504343953926634992332820282019728792003956564819949) % M256 = vF a - 115792089237316195423570985008687907853269984665640564039457584007913129639898 := mod_e2 h2 Ha
        refine hold_end mixed ok7b (unroll := true) (f := 100) (sc := [true, true, false]) (r := (Go.Eng.SV.arr Go.IntKind.u64 (4 : Nat) (Go.Eng.dF (Go.Eng.vF (Go.Eng.dF (Go.Eng.vF a + Go.Eng.M256 - (57896044618658097711785492504343953926634992332820282019728792003956564819949 : Nat))) + Go.Eng.M256 - (57896044618658097711785492504343953926634992332820282019728792003956564819949 : Nat))))) (ob := [(!Decidable.decide (Go.Eng.vF a < (57896044618658097711785492504343953926634992332820282019728792003956564819949 : Nat))) = Bool.true, (!Decidable.decide (Go.Eng.vF (Go.Eng.dF (Go.Eng.vF a + Go.Eng.M256 - (57896044618658097711785492504343953926634992332820282019728792003956564819949 : Nat))) < (57896044618658097711785492504343953926634992332820282019728792003956564819949 : Nat))) = Bool.true, (!Decidable.decide (Go.Eng.vF (Go.Eng.dF (Go.Eng.vF (Go.Eng.dF (Go.Eng.vF a + Go.Eng.M256 - (57896044618658097711785492504343953926634992332820282019728792003956564819949 : Nat))) + Go.Eng.M256 - (57896044618658097711785492504343953926634992332820282019728792003956564819949 : Nat))) < (57896044618658097711785492504343953926634992332820282019728792003956564819949 : Nat))) = Bool.false]) (sc' := []) (by kernel_rfl) ?_ ?_
        · rw [vF_dF, e1, vF_dF, e2]
          exact ⟨by simpa [P255] using h1, by unfold P255 at *; simp; omega, by unfold P255 M256 at *; simp; omega, trivial⟩
        · refine congrArg (SV.arr .u64 4) (dF_congr ?_)
          rw [vF_dF, e1, e2]
          have : vF a % P255 = vF a - 115792089237316195423570985008687907853269984665640564039457584007913129639898 := by unfold P255 M256 at *; omega
          rw [this]
          unfold M256 at *
          omega
  · cases h
theorem ok7c : CtrOk Try.prog T7c := addC_ok ok7b c55
theorem c67 : ∀ args res ob, e67 args = some (res, ob) → All ob → Contract Try.prog 79 args res := by
  intro args res ob h hob
  simp only [e67, t2o] at h
  split at h
  · rename_i a b
    cases h
    refine contract Try.func79 (body := bodyOf Try.f79) rfl (by kernel_rfl) (by kernel_rfl) rfl ?_
    rintro ⟨ha, hb, _⟩ w0 S
    have Ha := vF_lt ha
    have Hb := vF_lt hb
    obtain ⟨ga, gb, _⟩ := hob
    refine hold_end mixed ok7c (unroll := true) (f := 100) (sc := []) (r := (Go.Eng.SV.arr Go.IntKind.u64 (4 : Nat) (Go.Eng.dF (Go.Eng.vF (Go.Eng.dF (Go.Eng.vF a + Go.Eng.vF b)) % Go.Eng.P255)))) (ob := []) (sc' := []) (by kernel_rfl) trivial ?_
    rw [vF_dF, Nat.mod_eq_of_lt (a := vF a + vF b) (by unfold M256 P255 at *; omega)]
    rfl
  · cases h
theorem c69 : ∀ args res ob, e69 args = some (res, ob) → All ob → Contract Try.prog 80 args res := by
  intro args res ob h hob
  simp only [e69, t2o] at h
  split at h
  · rename_i a b
    cases h
    refine contract Try.func80 (body := bodyOf Try.f80) rfl (by kernel_rfl) (by kernel_rfl) rfl ?_
    rintro ⟨ha, hb, _⟩ w0 S
    have Ha := vF_lt ha
    have Hb := vF_lt hb
    obtain ⟨ga, gb, _⟩ := hob
    by_cases h1 : vF a < vF b
    · refine hold_end mixed ok7c (unroll := true) (f := 100) (sc := [true]) (r := (Go.Eng.SV.arr Go.IntKind.u64 (4 : Nat) (Go.Eng.dF (Go.Eng.vF (Go.Eng.dF (Go.Eng.vF a + Go.Eng.M256 - Go.Eng.vF b)) + (57896044618658097711785492504343953926634992332820282019728792003956564819949 : Nat))))) (ob := [((if Go.Eng.vF a < Go.Eng.vF b then (1 : Nat) else (0 : Nat)) == (1 : Nat)) = Bool.true]) (sc' := []) (by kernel_rfl) ?_ ?_
      · exact ⟨by simp [h1], trivial⟩
      · refine congrArg (SV.arr .u64 4) (dF_congr ?_)
        rw [vF_dF]
        have e1 : (vF a + M256 - vF b) % M256 = vF a + M256 - vF b := by unfold M256 P255 at *; omega
        have e2 : (vF a + P255 - vF b) % P255 = vF a + P255 - vF b := by unfold M256 P255 at *; omega
        rw [e1, e2]
        unfold M256 P255 at *
        omega
    · refine hold_end mixed ok7c (unroll := true) (f := 100) (sc := [false]) (r := (Go.Eng.SV.arr Go.IntKind.u64 (4 : Nat) (Go.Eng.dF (Go.Eng.vF a + Go.Eng.M256 - Go.Eng.vF b)))) (ob := [((if Go.Eng.vF a < Go.Eng.vF b then (1 : Nat) else (0 : Nat)) == (1 : Nat)) = Bool.false]) (sc' := []) (by kernel_rfl) ?_ ?_
      · exact ⟨by simp [h1], trivial⟩
      · refine congrArg (SV.arr .u64 4) (dF_congr ?_)
        have e2 : (vF a + P255 - vF b) % P255 = vF a - vF b := by unfold M256 P255 at *; omega
        rw [e2]
        unfold M256 P255 at *
        omega
  · cases h
theorem ok7d : CtrOk Try.prog T7d := addC_ok (addC_ok ok7c c67) c69
theorem P_ltP (A : Nat) : A % P255 < P255 := Nat.mod_lt _ (by decide)
theorem ok7e : CtrOk Try.prog T7e := ok7d
end Go.Eng.G

/- coresecref08: products, powers and roots: what they are, and the states of the loops. -/
namespace Go.Eng.G
open Go Go.Eng Go.Proofs
set_option maxRecDepth 100000
set_option linter.unusedSimpArgs false
def e75 := t2 (fun a b => .arr .u64 8 (dg 18446744073709551616 8 (vF a * vF b)))
def st75o : List It := [It.lp [0, 1, 0, 1, 1], It.blk 0, It.at [1, 1, 1]]
def st75i : List It := [It.lp [0, 1, 0, 1, 1, 0, 0, 1, 1, 0, 0, 1, 0, 1, 1], It.blk 2, It.at [1, 1, 1, 0, 0, 1, 1, 0, 0, 1, 0, 1, 1],
    It.blk 1, It.at [1, 1, 1, 0, 0, 1, 0, 1, 1], It.lp [0, 1, 0, 1, 1], It.blk 0, It.at [1, 1, 1]]
def s75i (a b r : List Nat) (i c j : Nat) : St := ⟨63, [(2, SV.ptr 0 0 (Ix.c 0)), (3, SV.ptr 1 0 (Ix.c 0)), (4, SV.ptr 2 0 (Ix.c 0)), (5, SV.ptr 3 0 (Ix.c 0)), (6, SV.u IntKind.i64 i),
          (7, SV.u IntKind.u64 c), (12, SV.u IntKind.i64 i), (15, SV.u IntKind.i64 j)], [(0, { ty := 35, segs := [SV.arr IntKind.u64 4 a] }), (1, { ty := 35, segs := [SV.arr IntKind.u64 4 b] }),
          (2, { ty := 68, segs := [SV.arr IntKind.u64 8 [0, 0, 0, 0, 0, 0, 0, 0]] }),
          (3, { ty := 68, segs := [SV.arr IntKind.u64 8 r] })], 4, 0⟩
def s75o (a b r : List Nat) (i : Nat) : St := ⟨63, [(2, SV.ptr 0 0 (Ix.c 0)), (3, SV.ptr 1 0 (Ix.c 0)), (4, SV.ptr 2 0 (Ix.c 0)), (5, SV.ptr 3 0 (Ix.c 0)), (12, SV.u IntKind.i64 i)],
          [(0, { ty := 35, segs := [SV.arr IntKind.u64 4 a] }), (1, { ty := 35, segs := [SV.arr IntKind.u64 4 b] }),
          (2, { ty := 68, segs := [SV.arr IntKind.u64 8 [0, 0, 0, 0, 0, 0, 0, 0]] }),
          (3, { ty := 68, segs := [SV.arr IntKind.u64 8 r] })], 4, 0⟩
def T11a : Ctr := addC 90 e75 T7e
def e54 := t2 (fun a b => fe (vF a * vF b % P255))
def T11b : Ctr := addC 81 e54 T11a
def st54 : List It := [.lp [0, 1, 0, 1, 1, 1, 1], .blk 0, .at [1, 1, 1, 1, 1]]
def s54 (a n : List Nat) (i c : Nat) : St := ⟨70, [(4, SV.ptr 2 0 (Ix.c 0)), (5, SV.ptr 3 0 (Ix.c 0)), (6, SV.ptr 4 0 (Ix.c 0)), (7, SV.u IntKind.u64 c), (16, SV.u IntKind.i64 i)],
  [(2, { ty := 35, segs := [SV.arr IntKind.u64 4 [0, 0, 0, 0]] }), (3, { ty := 68, segs := [SV.arr IntKind.u64 8 n] }), (4, { ty := 35, segs := [SV.arr IntKind.u64 4 a] })], 5, 0⟩
def e85 := t2 (fun a b => fe (powF (vF a) (vF b) % P255))
def T11c : Ctr := addC 91 e85 T11b
def st85 : List It := [.lp [0, 1, 0, 1, 1], .blk 0, .at [1, 1, 1]]
def s85 (a b : List Nat) (x : SV) (acc : Nat) : St := ⟨29, [(2, SV.ptr 0 0 (Ix.c 0)), (3, SV.ptr 1 0 (Ix.c 0)), (4, SV.ptr 2 0 (Ix.c 0)), (5, SV.ptr 3 0 (Ix.c 0)), (6, x)],
  [(0, { ty := 35, segs := [SV.arr IntKind.u64 4 a] }), (1, { ty := 35, segs := [SV.arr IntKind.u64 4 b] }), (2, { ty := 35, segs := [SV.arr IntKind.u64 4 [0, 0, 0, 0]] }), (3, { ty := 35, segs := [SV.arr IntKind.u64 4 (dF acc)] })], 4, 0⟩
def e62 := t1 (fun a => fe (powF (vF a) PI % P255))
def e86 (args : List SV) : Option (SV × List Prop) :=
  match args with
  | [.arr .u64 4 a, .c .i64 k] => if k = 3 then some (fe (vF a / 8), []) else if k = 2 then some (fe (vF a / 4), []) else none
  | _ => none
def T11d : Ctr := addC 82 e62 T11c
def e59 := t1o (fun a => .tup [fe (sqV (vF a)), .b (sqOk (vF a))]) (fun a => [vF a < P255])
def T11e : Ctr := T11d
def e16 := t2b (fun a b => fld (vB a * vB b % P255))
def e20 := t1b (fun l => fld (powF (vB l) PI % P255))
def e18 := t1b (fun l => .tup [fld (sqV (vB l)), .b (sqOk (vB l))])
def T11 : Ctr := T11e

theorem pwF_congr (A B E : Nat) (hAB : A % P255 = B % P255) : ∀ n acc acc', acc % P255 = acc' % P255 → pwF A E n acc % P255 = pwF B E n acc' % P255 := by
  intro n
  induction n with
  | zero => intro acc acc' h; exact h
  | succ n ih =>
    intro acc acc' h
    have hs : mulF acc acc % P255 = mulF acc' acc' % P255 := by rw [mulF_mod, mulF_mod, Nat.mul_mod, h, ← Nat.mul_mod]
    simp only [pwF]
    split
    · exact ih _ _ (by rw [mulF_mod, mulF_mod, Nat.mul_mod, hs, hAB, ← Nat.mul_mod])
    · exact ih _ _ hs
theorem powF_congr {A B : Nat} (E : Nat) (h : A % P255 = B % P255) : powF A E % P255 = powF B E % P255 := pwF_congr A B E h 256 1 1 rfl
theorem mulF_congr {A B C D : Nat} (h : A % P255 = C % P255) (h2 : B % P255 = D % P255) : mulF A B % P255 = mulF C D % P255 := by
  rw [mulF_mod, mulF_mod, Nat.mul_mod, h, h2, ← Nat.mul_mod]
theorem sqX_congr {A B : Nat} (h : A % P255 = B % P255) : sqX A % P255 = sqX B % P255 := powF_congr _ h
theorem sqY_congr {A B : Nat} (h : A % P255 = B % P255) : sqY A % P255 = sqY B % P255 := by
  have h1 := sqX_congr h
  unfold sqY
  rw [mulF_congr h1 h1, h]
  split
  · exact h1
  · exact mulF_congr h1 rfl
theorem sqOk_congr {A B : Nat} (h : A % P255 = B % P255) : sqOk A = sqOk B := by
  unfold sqOk
  rw [mulF_congr (sqY_congr h) (sqY_congr h), h]
theorem sqV_congr {A B : Nat} (h : A % P255 = B % P255) : sqV A = sqV B := by
  unfold sqV
  rw [sqOk_congr h, sqY_congr h]
end Go.Eng.G

/- coresecref08: product, Times, Power, Inverse, shifted. -/
namespace Go.Eng.G
open Go Go.Eng Go.Proofs
set_option maxRecDepth 100000
set_option linter.unusedSimpArgs false
section
variable {w0 : World} {S : Own} {res : SV}
theorem c75_in (a b : List Nat) (i : Nat) (ha2 : ∀ y ∈ a, y < 18446744073709551616) (hb : b.length = 4) (hb2 : ∀ y ∈ b, y < 18446744073709551616) (hi : i < 4) :
    ∀ n j, j + n = 4 → ∀ (r : List Nat) (c : Nat), r.length = 8 → (∀ y ∈ r, y < 18446744073709551616) → c < 18446744073709551616 →
      (∀ (r' : List Nat) (c' : Nat), r'.length = 8 → (∀ y ∈ r', y < 18446744073709551616) → c' < 18446744073709551616 → (∀ k, i + 4 ≤ k → r'.getD k 0 = r.getD k 0) →
        vl 18446744073709551616 r' + 18446744073709551616 ^ (i + 4) * c' = vl 18446744073709551616 r + 18446744073709551616 ^ (i + j) * (c + a.getD i 0 * vl 18446744073709551616 (b.drop j)) →
        Hold Try.prog (bodyOf Try.f90) (Fin Try.prog Try.f90 w0 S res) w0 S st75i (s75i a b r' i c' 4)) →
      Hold Try.prog (bodyOf Try.f90) (Fin Try.prog Try.f90 w0 S res) w0 S st75i (s75i a b r i c j) := by
  intro n
  induction n with
  | zero =>
    intro j hj r c hr hr2 hc hk
    have hj : j = 4 := by omega
    subst hj
    refine hk r c hr hr2 hc (fun _ _ => rfl) ?_
    rw [show b.drop 4 = [] by rw [List.drop_eq_nil_iff]; omega]
    simp [vl]
  | succ n ih =>
    intro j hj r c hr hr2 hc hk
    have hx := getD_lt (by decide) ha2 i
    have hy := getD_lt (by decide) hb2 j
    have hq := getD_lt (by decide) hr2 (i + j)
    have hst := long_step hx hy hq hc
    refine hold_unroll (c := _) rfl ?_
    refine hold_cut mixed ok7e (unroll := false) (f := 100) (sc := [true]) (ks := [2,3,4,5,6,7,12,15]) (bs := [0,1,2,3]) (nx := 4) (st' := [Go.Eng.It.lp [(0 : Nat), (1 : Nat), (0 : Nat), (1 : Nat), (1 : Nat), (0 : Nat), (0 : Nat), (1 : Nat), (1 : Nat), (0 : Nat), (0 : Nat), (1 : Nat), (0 : Nat), (1 : Nat), (1 : Nat)], Go.Eng.It.blk (2 : Nat), Go.Eng.It.at [(1 : Nat), (1 : Nat), (1 : Nat), (0 : Nat), (0 : Nat), (1 : Nat), (1 : Nat), (0 : Nat), (0 : Nat), (1 : Nat), (0 : Nat), (1 : Nat), (1 : Nat)], Go.Eng.It.blk (1 : Nat), Go.Eng.It.at [(1 : Nat), (1 : Nat), (1 : Nat), (0 : Nat), (0 : Nat), (1 : Nat), (0 : Nat), (1 : Nat), (1 : Nat)], Go.Eng.It.lp [(0 : Nat), (1 : Nat), (0 : Nat), (1 : Nat), (1 : Nat)], Go.Eng.It.blk (0 : Nat), Go.Eng.It.at [(1 : Nat), (1 : Nat), (1 : Nat)]]) (σ' := { nt := (63 : Nat), slots := [((2 : Nat), Go.Eng.SV.ptr (0 : Nat) (0 : Nat) (Go.Eng.Ix.c (0 : Nat))), ((3 : Nat), Go.Eng.SV.ptr (1 : Nat) (0 : Nat) (Go.Eng.Ix.c (0 : Nat))), ((4 : Nat), Go.Eng.SV.ptr (2 : Nat) (0 : Nat) (Go.Eng.Ix.c (0 : Nat))), ((5 : Nat), Go.Eng.SV.ptr (3 : Nat) (0 : Nat) (Go.Eng.Ix.c (0 : Nat))), ((6 : Nat), Go.Eng.SV.u Go.IntKind.i64 i), ((7 : Nat), Go.Eng.SV.u Go.IntKind.u64 (((a.getD i (0 : Nat) * b.getD j (0 : Nat) / (18446744073709551616 : Nat) + (a.getD i (0 : Nat) * b.getD j (0 : Nat) % (18446744073709551616 : Nat) + r.getD (i + j) (0 : Nat) + (0 : Nat)) / (18446744073709551616 : Nat)) % (18446744073709551616 : Nat) + ((a.getD i (0 : Nat) * b.getD j (0 : Nat) % (18446744073709551616 : Nat) + r.getD (i + j) (0 : Nat) + (0 : Nat)) % (18446744073709551616 : Nat) + c + (0 : Nat)) / (18446744073709551616 : Nat)) % (18446744073709551616 : Nat))), ((12 : Nat), Go.Eng.SV.u Go.IntKind.i64 i), ((15 : Nat), Go.Eng.SV.u Go.IntKind.i64 (j + (1 : Nat)))], blks := [((0 : Nat), { ty := (35 : Nat), segs := [Go.Eng.SV.arr Go.IntKind.u64 (4 : Nat) a] }), ((1 : Nat), { ty := (35 : Nat), segs := [Go.Eng.SV.arr Go.IntKind.u64 (4 : Nat) b] }), ((2 : Nat), { ty := (68 : Nat), segs := [Go.Eng.SV.arr Go.IntKind.u64 (8 : Nat) [(0 : Nat), (0 : Nat), (0 : Nat), (0 : Nat), (0 : Nat), (0 : Nat), (0 : Nat), (0 : Nat)]] }), ((3 : Nat), { ty := (68 : Nat), segs := [Go.Eng.SV.arr Go.IntKind.u64 (8 : Nat) (r.set (i + j) (((a.getD i (0 : Nat) * b.getD j (0 : Nat) % (18446744073709551616 : Nat) + r.getD (i + j) (0 : Nat) + (0 : Nat)) % (18446744073709551616 : Nat) + c + (0 : Nat)) % (18446744073709551616 : Nat)))] })], next := (4 : Nat) }) (ob := [Decidable.decide (j < (4 : Nat)) = Bool.true, i < (4 : Nat), i < (4 : Nat), j < (4 : Nat), j < (4 : Nat), i + j < (9223372036854775808 : Nat), i + j < (8 : Nat), i + j < (8 : Nat), (0 : Nat) ≤ (1 : Nat), (0 : Nat) ≤ (1 : Nat), i + j < (9223372036854775808 : Nat), i + j < (8 : Nat), i + j < (8 : Nat), j + (1 : Nat) < (9223372036854775808 : Nat)]) (sc' := []) (by kernel_rfl) ?_ ?_
    · repeat' (first | exact True.intro | refine And.intro ?_ ?_)
      all_goals first | omega | (simp; omega)
    · generalize hX : a.getD i 0 = x at *
      refine ih (j + 1) (by omega) _ _ (by simpa using hr) (mem_set hr2 (Nat.mod_lt _ (by decide))) (Nat.mod_lt _ (by decide)) ?_
      intro r' c' h1 h2 h3 h4 h5
      refine hk r' c' h1 h2 h3 (fun k hk' => by rw [h4 k hk', getD_set_ne (by omega)]) ?_
      rw [h5, vl_drop _ b j (by omega)]
      have hset := vl_set 18446744073709551616 r (i + j) ((((x * b.getD j 0 % 18446744073709551616 + r.getD (i + j) 0 + 0) % 18446744073709551616 + c + 0) % 18446744073709551616)) (by omega)
      rw [show i + (j + 1) = i + j + 1 by omega, Nat.pow_succ]
      generalize 18446744073709551616 ^ (i + j) = W at *
      generalize vl 18446744073709551616 (b.drop (j + 1)) = V at *
      generalize vl 18446744073709551616 (r.set _ _) = R at *
      generalize ((x * b.getD j 0 % 18446744073709551616 + r.getD (i + j) 0 + 0) % 18446744073709551616 + c + 0) % 18446744073709551616 = d at *
      generalize ((x * b.getD j 0 / 18446744073709551616 + (x * b.getD j 0 % 18446744073709551616 + r.getD (i + j) 0 + 0) / 18446744073709551616) % 18446744073709551616 +
        ((x * b.getD j 0 % 18446744073709551616 + r.getD (i + j) 0 + 0) % 18446744073709551616 + c + 0) / 18446744073709551616) % 18446744073709551616 = c2 at *
      generalize b.getD j 0 = y at *
      generalize r.getD (i + j) 0 = q at *
      generalize vl 18446744073709551616 r = R0 at *
      clear h5 h4 h3 h2 h1 hk ih
      have e1 : W * (d + 18446744073709551616 * c2) = W * (x * y + q + c) := by rw [hst]
      grind
theorem c75_out (a b : List Nat) (ha : a.length = 4) (ha2 : ∀ y ∈ a, y < 18446744073709551616) (hb : b.length = 4) (hb2 : ∀ y ∈ b, y < 18446744073709551616) (hres : res = .arr .u64 8 (dg 18446744073709551616 8 (vF a * vF b))) :
    ∀ n i, i + n = 4 → ∀ (r : List Nat), r.length = 8 → (∀ y ∈ r, y < 18446744073709551616) → (∀ k, i + 4 ≤ k → r.getD k 0 = 0) → vl 18446744073709551616 r = vl 18446744073709551616 (a.take i) * vl 18446744073709551616 b →
      Hold Try.prog (bodyOf Try.f90) (Fin Try.prog Try.f90 w0 S res) w0 S st75o (s75o a b r i) := by
  intro n
  induction n with
  | zero =>
    intro i hi r hr hr2 hz hv
    have hi : i = 4 := by omega
    subst hi
    refine hold_unroll (c := _) rfl ?_
    refine hold_end mixed ok7e (unroll := false) (f := 100) (sc := [false]) (r := (Go.Eng.SV.arr Go.IntKind.u64 (8 : Nat) r)) (ob := [Bool.false = Bool.false]) (sc' := []) (by kernel_rfl) ?_ ?_
    · exact ⟨by simp, trivial⟩
    · rw [hres]
      refine congrArg (SV.arr .u64 8) ?_
      rw [List.take_of_length_le (by omega)] at hv
      have := dg_vl (b := 18446744073709551616) (by decide) r hr2
      rw [hr, hv] at this
      exact this.symm
  | succ n ih =>
    intro i hi r hr hr2 hz hv
    refine hold_unroll (c := _) rfl ?_
    refine hold_cut mixed ok7e (unroll := false) (f := 100) (sc := [true]) (ks := [2,3,4,5,6,7,12,15]) (bs := [0,1,2,3]) (nx := 4) (st' := [Go.Eng.It.lp [(0 : Nat), (1 : Nat), (0 : Nat), (1 : Nat), (1 : Nat), (0 : Nat), (0 : Nat), (1 : Nat), (1 : Nat), (0 : Nat), (0 : Nat), (1 : Nat), (0 : Nat), (1 : Nat), (1 : Nat)], Go.Eng.It.blk (2 : Nat), Go.Eng.It.at [(1 : Nat), (1 : Nat), (1 : Nat), (0 : Nat), (0 : Nat), (1 : Nat), (1 : Nat), (0 : Nat), (0 : Nat), (1 : Nat), (0 : Nat), (1 : Nat), (1 : Nat)], Go.Eng.It.blk (1 : Nat), Go.Eng.It.at [(1 : Nat), (1 : Nat), (1 : Nat), (0 : Nat), (0 : Nat), (1 : Nat), (0 : Nat), (1 : Nat), (1 : Nat)], Go.Eng.It.lp [(0 : Nat), (1 : Nat), (0 : Nat), (1 : Nat), (1 : Nat)], Go.Eng.It.blk (0 : Nat), Go.Eng.It.at [(1 : Nat), (1 : Nat), (1 : Nat)]]) (σ' := { nt := (63 : Nat), slots := [((2 : Nat), Go.Eng.SV.ptr (0 : Nat) (0 : Nat) (Go.Eng.Ix.c (0 : Nat))), ((3 : Nat), Go.Eng.SV.ptr (1 : Nat) (0 : Nat) (Go.Eng.Ix.c (0 : Nat))), ((4 : Nat), Go.Eng.SV.ptr (2 : Nat) (0 : Nat) (Go.Eng.Ix.c (0 : Nat))), ((5 : Nat), Go.Eng.SV.ptr (3 : Nat) (0 : Nat) (Go.Eng.Ix.c (0 : Nat))), ((6 : Nat), Go.Eng.SV.u Go.IntKind.i64 i), ((7 : Nat), Go.Eng.SV.c Go.IntKind.u64 (0 : Int)), ((12 : Nat), Go.Eng.SV.u Go.IntKind.i64 i), ((15 : Nat), Go.Eng.SV.c Go.IntKind.i64 (0 : Int))], blks := [((0 : Nat), { ty := (35 : Nat), segs := [Go.Eng.SV.arr Go.IntKind.u64 (4 : Nat) a] }), ((1 : Nat), { ty := (35 : Nat), segs := [Go.Eng.SV.arr Go.IntKind.u64 (4 : Nat) b] }), ((2 : Nat), { ty := (68 : Nat), segs := [Go.Eng.SV.arr Go.IntKind.u64 (8 : Nat) [(0 : Nat), (0 : Nat), (0 : Nat), (0 : Nat), (0 : Nat), (0 : Nat), (0 : Nat), (0 : Nat)]] }), ((3 : Nat), { ty := (68 : Nat), segs := [Go.Eng.SV.arr Go.IntKind.u64 (8 : Nat) r] })], next := (4 : Nat) }) (ob := [Decidable.decide (i < (4 : Nat)) = Bool.true]) (sc' := []) (by kernel_rfl) ?_ ?_
    · repeat' (first | exact True.intro | refine And.intro ?_ ?_)
      all_goals first | omega | (simp; omega)
    refine Hold.weaken (sl' := (s75i a b r i 0 0).slots) ?_ (by simp [wks, wk, wk0, wka, s75i, lim])
    refine c75_in a b i ha2 hb hb2 (by omega) 4 0 rfl r 0 hr hr2 (by decide) ?_
    intro r' c' h1 h2 h3 h4 h5
    refine hold_unroll (c := _) rfl ?_
    refine hold_cut mixed ok7e (unroll := false) (f := 100) (sc := [false]) (ks := [2,3,4,5,12]) (bs := [0,1,2,3]) (nx := 4) (st' := [Go.Eng.It.lp [(0 : Nat), (1 : Nat), (0 : Nat), (1 : Nat), (1 : Nat)], Go.Eng.It.blk (0 : Nat), Go.Eng.It.at [(1 : Nat), (1 : Nat), (1 : Nat)]]) (σ' := { nt := (63 : Nat), slots := [((2 : Nat), Go.Eng.SV.ptr (0 : Nat) (0 : Nat) (Go.Eng.Ix.c (0 : Nat))), ((3 : Nat), Go.Eng.SV.ptr (1 : Nat) (0 : Nat) (Go.Eng.Ix.c (0 : Nat))), ((4 : Nat), Go.Eng.SV.ptr (2 : Nat) (0 : Nat) (Go.Eng.Ix.c (0 : Nat))), ((5 : Nat), Go.Eng.SV.ptr (3 : Nat) (0 : Nat) (Go.Eng.Ix.c (0 : Nat))), ((12 : Nat), Go.Eng.SV.u Go.IntKind.i64 (i + (1 : Nat)))], blks := [((0 : Nat), { ty := (35 : Nat), segs := [Go.Eng.SV.arr Go.IntKind.u64 (4 : Nat) a] }), ((1 : Nat), { ty := (35 : Nat), segs := [Go.Eng.SV.arr Go.IntKind.u64 (4 : Nat) b] }), ((2 : Nat), { ty := (68 : Nat), segs := [Go.Eng.SV.arr Go.IntKind.u64 (8 : Nat) [(0 : Nat), (0 : Nat), (0 : Nat), (0 : Nat), (0 : Nat), (0 : Nat), (0 : Nat), (0 : Nat)]] }), ((3 : Nat), { ty := (68 : Nat), segs := [Go.Eng.SV.arr Go.IntKind.u64 (8 : Nat) (r'.set (i + (4 : Nat)) c')] })], next := (4 : Nat) }) (ob := [Bool.false = Bool.false, i + (4 : Nat) < (9223372036854775808 : Nat), i + (4 : Nat) < (8 : Nat), i + (4 : Nat) < (8 : Nat), i + (1 : Nat) < (9223372036854775808 : Nat)]) (sc' := []) (by kernel_rfl) ?_ ?_
    · repeat' (first | exact True.intro | refine And.intro ?_ ?_)
      all_goals first | omega | (simp; done) | (simp; omega)
    · refine ih (i + 1) (by omega) _ (by simpa using h1) (mem_set h2 h3) (fun k hk => ?_) ?_
      · rw [getD_set_ne (by omega), h4 k (by omega)]
        exact hz k (by omega)
      · have hset := vl_set 18446744073709551616 r' (i + 4) c' (by omega)
        rw [h4 (i + 4) (by omega), hz (i + 4) (by omega)] at hset
        rw [vl_take _ a i (by omega)]
        rw [List.drop_zero, hv] at h5
        have e0 : 18446744073709551616 ^ (i + 0) = 18446744073709551616 ^ i := by rw [Nat.add_zero]
        rw [e0] at h5
        exact long_out hset h5
theorem c75 : ∀ args res ob, e75 args = some (res, ob) → All ob → Contract Try.prog 90 args res := by
  intro args res ob h hob
  simp only [e75, t2] at h
  split at h
  · rename_i a b
    cases h
    refine contract Try.func90 (body := bodyOf Try.f90) rfl (by kernel_rfl) (by kernel_rfl) rfl ?_
    rintro ⟨ha, hb, _⟩ w0 S
    refine hold_cut mixed ok7e (unroll := false) (f := 100) (sc := []) (ks := [2,3,4,5,12]) (bs := [0,1,2,3]) (nx := 4) (st' := [Go.Eng.It.lp [(0 : Nat), (1 : Nat), (0 : Nat), (1 : Nat), (1 : Nat)], Go.Eng.It.blk (0 : Nat), Go.Eng.It.at [(1 : Nat), (1 : Nat), (1 : Nat)]]) (σ' := { nt := (63 : Nat), slots := [((2 : Nat), Go.Eng.SV.ptr (0 : Nat) (0 : Nat) (Go.Eng.Ix.c (0 : Nat))), ((3 : Nat), Go.Eng.SV.ptr (1 : Nat) (0 : Nat) (Go.Eng.Ix.c (0 : Nat))), ((4 : Nat), Go.Eng.SV.ptr (2 : Nat) (0 : Nat) (Go.Eng.Ix.c (0 : Nat))), ((5 : Nat), Go.Eng.SV.ptr (3 : Nat) (0 : Nat) (Go.Eng.Ix.c (0 : Nat))), ((12 : Nat), Go.Eng.SV.c Go.IntKind.i64 (0 : Int))], blks := [((0 : Nat), { ty := (35 : Nat), segs := [Go.Eng.SV.arr Go.IntKind.u64 (4 : Nat) a] }), ((1 : Nat), { ty := (35 : Nat), segs := [Go.Eng.SV.arr Go.IntKind.u64 (4 : Nat) b] }), ((2 : Nat), { ty := (68 : Nat), segs := [Go.Eng.SV.arr Go.IntKind.u64 (8 : Nat) [(0 : Nat), (0 : Nat), (0 : Nat), (0 : Nat), (0 : Nat), (0 : Nat), (0 : Nat), (0 : Nat)]] }), ((3 : Nat), { ty := (68 : Nat), segs := [Go.Eng.SV.arr Go.IntKind.u64 (8 : Nat) [(0 : Nat), (0 : Nat), (0 : Nat), (0 : Nat), (0 : Nat), (0 : Nat), (0 : Nat), (0 : Nat)]] })], next := (4 : Nat) }) (ob := []) (sc' := []) (by kernel_rfl) trivial ?_
    refine Hold.weaken (sl' := (s75o a b [0,0,0,0,0,0,0,0] 0).slots) ?_ (by simp [wks, wk, wk0, wka, s75o, lim])
    exact c75_out a b ha.1 ha.2 hb.1 hb.2 rfl 4 0 rfl _ rfl (by decide) (by intro k hk; rcases k with _ | _ | _ | _ | _ | _ | _ | _ | k <;> rfl) (by simp [vl])
  · cases h
theorem ok11a : CtrOk Try.prog T11a := addC_ok ok7e c75
theorem c54_in (n : List Nat) (hn : n.length = 8) (hn2 : ∀ y ∈ n, y < 18446744073709551616)
    (hk : ∀ (a : List Nat) (c : Nat), a.length = 4 → (∀ y ∈ a, y < 18446744073709551616) → c < 18446744073709551616 →
        vl 18446744073709551616 (a.take 4) + 18446744073709551616 ^ 4 * c = vl 18446744073709551616 (n.take 4) + 38 * vl 18446744073709551616 ((n.drop 4).take 4) →
        Hold Try.prog (bodyOf Try.f81) (Fin Try.prog Try.f81 w0 S res) w0 S st54 (s54 a n 4 c)) :
    ∀ m i, i + m = 4 → ∀ (a : List Nat) (c : Nat), a.length = 4 → (∀ y ∈ a, y < 18446744073709551616) → c < 18446744073709551616 →
      vl 18446744073709551616 (a.take i) + 18446744073709551616 ^ i * c = vl 18446744073709551616 (n.take i) + 38 * vl 18446744073709551616 ((n.drop 4).take i) →
      Hold Try.prog (bodyOf Try.f81) (Fin Try.prog Try.f81 w0 S res) w0 S st54 (s54 a n i c) := by
  intro m
  induction m with
  | zero =>
    intro i hi a c ha ha2 hc hv
    have hi : i = 4 := by omega
    subst hi
    exact hk a c ha ha2 hc hv
  | succ m ih =>
    intro i hi a c ha ha2 hc hv
    have hx := getD_lt (by decide) hn2 (4 + i)
    have hq := getD_lt (by decide) hn2 i
    have hst := long_step hx (show 38 < 18446744073709551616 by decide) hq hc
    refine hold_unroll (c := _) rfl ?_
    refine hold_cut mixed ok11a (unroll := false) (f := 100) (sc := [true]) (ks := [4,5,6,7,16]) (bs := [2,3,4]) (nx := 5) (st' := [Go.Eng.It.lp [(0 : Nat), (1 : Nat), (0 : Nat), (1 : Nat), (1 : Nat), (1 : Nat), (1 : Nat)], Go.Eng.It.blk (0 : Nat), Go.Eng.It.at [(1 : Nat), (1 : Nat), (1 : Nat), (1 : Nat), (1 : Nat)]]) (σ' := { nt := (70 : Nat), slots := [((4 : Nat), Go.Eng.SV.ptr (2 : Nat) (0 : Nat) (Go.Eng.Ix.c (0 : Nat))), ((5 : Nat), Go.Eng.SV.ptr (3 : Nat) (0 : Nat) (Go.Eng.Ix.c (0 : Nat))), ((6 : Nat), Go.Eng.SV.ptr (4 : Nat) (0 : Nat) (Go.Eng.Ix.c (0 : Nat))), ((7 : Nat), Go.Eng.SV.u Go.IntKind.u64 (((n.getD ((4 : Nat) + i) (0 : Nat) * (38 : Nat) / (18446744073709551616 : Nat) + (n.getD ((4 : Nat) + i) (0 : Nat) * (38 : Nat) % (18446744073709551616 : Nat) + n.getD i (0 : Nat) + (0 : Nat)) / (18446744073709551616 : Nat)) % (18446744073709551616 : Nat) + ((n.getD ((4 : Nat) + i) (0 : Nat) * (38 : Nat) % (18446744073709551616 : Nat) + n.getD i (0 : Nat) + (0 : Nat)) % (18446744073709551616 : Nat) + c + (0 : Nat)) / (18446744073709551616 : Nat)) % (18446744073709551616 : Nat))), ((16 : Nat), Go.Eng.SV.u Go.IntKind.i64 (i + (1 : Nat)))], blks := [((2 : Nat), { ty := (35 : Nat), segs := [Go.Eng.SV.arr Go.IntKind.u64 (4 : Nat) [(0 : Nat), (0 : Nat), (0 : Nat), (0 : Nat)]] }), ((3 : Nat), { ty := (68 : Nat), segs := [Go.Eng.SV.arr Go.IntKind.u64 (8 : Nat) n] }), ((4 : Nat), { ty := (35 : Nat), segs := [Go.Eng.SV.arr Go.IntKind.u64 (4 : Nat) (a.set i (((n.getD ((4 : Nat) + i) (0 : Nat) * (38 : Nat) % (18446744073709551616 : Nat) + n.getD i (0 : Nat) + (0 : Nat)) % (18446744073709551616 : Nat) + c + (0 : Nat)) % (18446744073709551616 : Nat)))] })], next := (5 : Nat) }) (ob := [Decidable.decide (i < (4 : Nat)) = Bool.true, (4 : Nat) + i < (9223372036854775808 : Nat), (4 : Nat) + i < (8 : Nat), (4 : Nat) + i < (8 : Nat), i < (8 : Nat), i < (8 : Nat), (0 : Nat) ≤ (1 : Nat), (0 : Nat) ≤ (1 : Nat), i < (4 : Nat), i < (4 : Nat), i + (1 : Nat) < (9223372036854775808 : Nat)]) (sc' := []) (by kernel_rfl) ?_ ?_
    · repeat' (first | exact True.intro | refine And.intro ?_ ?_)
      all_goals first | omega | (simp; done) | (simp; omega)
    · refine ih (i + 1) (by omega) _ _ (by simpa using ha) (mem_set ha2 (Nat.mod_lt _ (by decide))) (Nat.mod_lt _ (by decide)) ?_
      rw [vl_take _ _ i (by simp; omega), vl_take _ n i (by omega), vl_take _ (n.drop 4) i (by simp; omega), take_set, getD_set_eq (by omega)]
      rw [show (n.drop 4).getD i 0 = n.getD (4 + i) 0 by simp [List.getD_eq_getElem?_getD]]
      rw [Nat.pow_succ, mul_step hst hv]
      generalize 18446744073709551616 ^ i = U
      grind
theorem c54 : ∀ args res ob, e54 args = some (res, ob) → All ob → Contract Try.prog 81 args res := by
  intro args res ob h hob
  simp only [e54, t2] at h
  split at h
  · rename_i a b
    cases h
    refine contract Try.func81 (body := bodyOf Try.f81) rfl (by kernel_rfl) (by kernel_rfl) rfl ?_
    rintro ⟨ha, hb, _⟩ w0 S
    refine hold_cut mixed ok11a (unroll := false) (f := 100) (sc := []) (ks := [4,5,6,7,16]) (bs := [2,3,4]) (nx := 5) (st' := [Go.Eng.It.lp [(0 : Nat), (1 : Nat), (0 : Nat), (1 : Nat), (1 : Nat), (1 : Nat), (1 : Nat)], Go.Eng.It.blk (0 : Nat), Go.Eng.It.at [(1 : Nat), (1 : Nat), (1 : Nat), (1 : Nat), (1 : Nat)]]) (σ' := { nt := (70 : Nat), slots := [((4 : Nat), Go.Eng.SV.ptr (2 : Nat) (0 : Nat) (Go.Eng.Ix.c (0 : Nat))), ((5 : Nat), Go.Eng.SV.ptr (3 : Nat) (0 : Nat) (Go.Eng.Ix.c (0 : Nat))), ((6 : Nat), Go.Eng.SV.ptr (4 : Nat) (0 : Nat) (Go.Eng.Ix.c (0 : Nat))), ((7 : Nat), Go.Eng.SV.c Go.IntKind.u64 (0 : Int)), ((16 : Nat), Go.Eng.SV.c Go.IntKind.i64 (0 : Int))], blks := [((2 : Nat), { ty := (35 : Nat), segs := [Go.Eng.SV.arr Go.IntKind.u64 (4 : Nat) [(0 : Nat), (0 : Nat), (0 : Nat), (0 : Nat)]] }), ((3 : Nat), { ty := (68 : Nat), segs := [Go.Eng.SV.arr Go.IntKind.u64 (8 : Nat) (Go.Eng.dg (18446744073709551616 : Nat) (8 : Nat) (Go.Eng.vF a * Go.Eng.vF b))] }), ((4 : Nat), { ty := (35 : Nat), segs := [Go.Eng.SV.arr Go.IntKind.u64 (4 : Nat) [(0 : Nat), (0 : Nat), (0 : Nat), (0 : Nat)]] })], next := (5 : Nat) }) (ob := []) (sc' := []) (by kernel_rfl) trivial ?_
    refine Hold.weaken (sl' := (s54 [0, 0, 0, 0] (dg 18446744073709551616 8 (vF a * vF b)) 0 0).slots) ?_ (by simp [wks, wk, wk0, wka, s54, lim])
    have hl := dg_length 18446744073709551616 8 (vF a * vF b)
    have hl2 := dg_lt (b := 18446744073709551616) (by decide) 8 (vF a * vF b)
    have hlt : vF a * vF b < M256 * M256 := Nat.mul_lt_mul'' (vF_lt ha) (vF_lt hb)
    have hval := vl_dg 18446744073709551616 8 (vF a * vF b)
    generalize hN : vF a * vF b = N at *
    rw [show 18446744073709551616 ^ 8 = M256 * M256 by decide, Nat.mod_eq_of_lt hlt] at hval
    generalize dg 18446744073709551616 8 N = n at *
    refine c54_in n hl hl2 ?_ 4 0 rfl [0, 0, 0, 0] 0 rfl (by decide) (by decide) (by simp [vl])
    intro r c hr hr2 hc hv
    obtain ⟨r0, r1, r2, r3, rfl⟩ := list4 hr
    obtain ⟨n0, n1, n2, n3, n4, n5, n6, n7, rfl⟩ := list8 hl
    simp only [List.mem_cons, List.not_mem_nil, or_false, forall_eq_or_imp, forall_eq] at hr2 hl2
    rw [show 18446744073709551616 ^ 4 = M256 by decide] at hv
    simp only [List.take, List.drop, vl, Nat.mul_zero, Nat.add_zero] at hv hval
    have hR : vF [r0, r1, r2, r3] < M256 := by rw [vF4]; unfold M256; omega
    have hlo : n0 + 18446744073709551616 * (n1 + 18446744073709551616 * (n2 + 18446744073709551616 * n3)) < M256 := by unfold M256; omega
    have hval2 : N = n0 + 18446744073709551616 * (n1 + 18446744073709551616 * (n2 + 18446744073709551616 * n3)) + M256 * (n4 + 18446744073709551616 * (n5 + 18446744073709551616 * (n6 + 18446744073709551616 * n7))) := by unfold M256; omega
    have hv2 : vF [r0, r1, r2, r3] + M256 * c = fold38 N := by
      rw [vF4, hv]
      unfold fold38
      have e1 : N % M256 = n0 + 18446744073709551616 * (n1 + 18446744073709551616 * (n2 + 18446744073709551616 * n3)) := by
        rw [hval2, Nat.add_mul_mod_self_left, Nat.mod_eq_of_lt hlo]
      have e2 : N / M256 = n4 + 18446744073709551616 * (n5 + 18446744073709551616 * (n6 + 18446744073709551616 * n7)) := by
        rw [hval2, Nat.add_mul_div_left _ _ (by decide), Nat.div_eq_of_lt hlo, Nat.zero_add]
      rw [e1, e2]
    have hf0 := fold38_lt0 hlt
    have hfa : fold38 N % M256 = vF [r0, r1, r2, r3] := by rw [← hv2, Nat.add_mul_mod_self_left, Nat.mod_eq_of_lt hR]
    have hfb : fold38 N / M256 = c := by rw [← hv2, Nat.add_mul_div_left _ _ (by decide), Nat.div_eq_of_lt hR, Nat.zero_add]
    have hc40 : c < 40 := by rw [← hfb]; exact Nat.div_lt_of_lt_mul hf0
    have hf1 : fold38 (fold38 N) = vF [r0, r1, r2, r3] + 38 * c := by unfold fold38; unfold fold38 at hfa hfb; rw [hfa, hfb]
    clear hval hval2 hlo hv hv2
    have e3 : c * 38 % 18446744073709551616 = 38 * c := by omega
    have hf2 := fold38_lt hf0
    have hm2 : fold38 (fold38 N) % P255 = N % P255 := by rw [fold38_mod, fold38_mod]
    have e4 : fold38 (fold38 N) / M256 ≤ 1 := by
      generalize fold38 (fold38 N) = Z at *
      unfold M256 at *
      omega
    refine hold_unroll (c := _) rfl ?_
    by_cases hc1 : fold38 (fold38 N) / M256 = 1
    · refine hold_end mixed ok11a (unroll := false) (f := 100) (sc := [false, true]) (r := (Go.Eng.SV.arr Go.IntKind.u64 (4 : Nat) (Go.Eng.dF (Go.Eng.vF (Go.Eng.dF (Go.Eng.vF (Go.Eng.dF (Go.Eng.vF [r0, r1, r2, r3] + Go.Eng.vF [c * (38 : Nat) % (18446744073709551616 : Nat), (0 : Nat), (0 : Nat), (0 : Nat)])) + (38 : Nat))) % Go.Eng.P255)))) (ob := [Bool.false = Bool.false, ((Go.Eng.vF [r0, r1, r2, r3] + Go.Eng.vF [c * (38 : Nat) % (18446744073709551616 : Nat), (0 : Nat), (0 : Nat), (0 : Nat)]) / Go.Eng.M256 == (1 : Nat)) = Bool.true]) (sc' := []) (by kernel_rfl) ?_ ?_
      · refine ⟨by simp, ?_, trivial⟩
        rw [vF1, e3, ← hf1, hc1]; rfl
      · simp only [vF1, vF_dF]
        rw [e3, ← hf1]
        refine congrArg fe ?_
        rw [← hm2]
        generalize fold38 (fold38 N) = Z at *
        unfold M256 P255 at *
        omega
    · refine hold_end mixed ok11a (unroll := false) (f := 100) (sc := [false, false]) (r := (Go.Eng.SV.arr Go.IntKind.u64 (4 : Nat) (Go.Eng.dF (Go.Eng.vF (Go.Eng.dF (Go.Eng.vF [r0, r1, r2, r3] + Go.Eng.vF [c * (38 : Nat) % (18446744073709551616 : Nat), (0 : Nat), (0 : Nat), (0 : Nat)])) % Go.Eng.P255)))) (ob := [Bool.false = Bool.false, ((Go.Eng.vF [r0, r1, r2, r3] + Go.Eng.vF [c * (38 : Nat) % (18446744073709551616 : Nat), (0 : Nat), (0 : Nat), (0 : Nat)]) / Go.Eng.M256 == (1 : Nat)) = Bool.false]) (sc' := []) (by kernel_rfl) ?_ ?_
      · refine ⟨by simp, ?_, trivial⟩
        rw [vF1, e3, ← hf1]
        simpa using hc1
      · simp only [vF1, vF_dF]
        rw [e3, ← hf1]
        refine congrArg fe ?_
        rw [← hm2]
        generalize fold38 (fold38 N) = Z at *
        unfold M256 P255 at *
        omega
  · cases h
theorem ok11b : CtrOk Try.prog T11b := addC_ok ok11a c54
end
end Go.Eng.G

/- coresecref08: Power, Inverse, shifted, Root, Mul, Inv, Sqrt. -/
namespace Go.Eng.G
open Go Go.Eng Go.Proofs
set_option maxRecDepth 100000
set_option linter.unusedSimpArgs false
section
variable {w0 : World} {S : Own} {res : SV}
theorem c85_in (a b : List Nat) (hb2 : ∀ y ∈ b, y < 18446744073709551616) (X : Nat) (hX : res = fe X) :
    ∀ n, n ≤ 256 → ∀ acc, acc < M256 → (n = 0 → acc < P255) → pwF (vF a) (vF b) n acc % P255 = X →
      Hold Try.prog (bodyOf Try.f91) (Fin Try.prog Try.f91 w0 S res) w0 S st85 (s85 a b (.i .i64 ((n : Int) - 1)) acc) := by
  intro n
  induction n with
  | zero =>
    intro _ acc hacc h0 hp
    refine hold_unroll (c := _) rfl ?_
    refine hold_end mixed ok11b (unroll := false) (f := 100) (sc := [false]) (r := (Go.Eng.SV.arr Go.IntKind.u64 (4 : Nat) (Go.Eng.dF acc))) (ob := [Bool.false = Bool.false]) (sc' := []) (by kernel_rfl) ?_ ?_
    · exact ⟨by decide, trivial⟩
    · have e : pwF (vF a) (vF b) 0 acc = acc := rfl
      rw [e, Nat.mod_eq_of_lt (h0 rfl)] at hp
      rw [hX, ← hp]; rfl
  | succ n ih =>
    intro hn acc hacc _ hp
    refine Hold.weaken (sl' := (s85 a b (.u .i64 n) acc).slots) ?_ (by simp [wks, wk, wk0, wka, s85, lim]; omega)
    refine hold_unroll (c := _) rfl ?_
    have hbit := bit_vl b hb2 n
    have hsq : vF (dF acc) = acc := by rw [vF_dF, Nat.mod_eq_of_lt hacc]
    have hsm : vF (dF (acc * acc % P255)) = acc * acc % P255 := by rw [vF_dF, Nat.mod_eq_of_lt (P_lt _)]
    simp only [pwF] at hp
    by_cases hE : vF b / 2 ^ n % 2 = 1
    · refine hold_cut mixed ok11b (unroll := false) (f := 100) (sc := [true, true]) (ks := [2,3,4,5,6]) (bs := [0,1,2,3]) (nx := 4) (st' := [Go.Eng.It.lp [(0 : Nat), (1 : Nat), (0 : Nat), (1 : Nat), (1 : Nat)], Go.Eng.It.blk (0 : Nat), Go.Eng.It.at [(1 : Nat), (1 : Nat), (1 : Nat)]]) (σ' := { nt := (29 : Nat), slots := [((2 : Nat), Go.Eng.SV.ptr (0 : Nat) (0 : Nat) (Go.Eng.Ix.c (0 : Nat))), ((3 : Nat), Go.Eng.SV.ptr (1 : Nat) (0 : Nat) (Go.Eng.Ix.c (0 : Nat))), ((4 : Nat), Go.Eng.SV.ptr (2 : Nat) (0 : Nat) (Go.Eng.Ix.c (0 : Nat))), ((5 : Nat), Go.Eng.SV.ptr (3 : Nat) (0 : Nat) (Go.Eng.Ix.c (0 : Nat))), ((6 : Nat), Go.Eng.SV.i Go.IntKind.i64 ((↑n : Int) - (1 : Int)))], blks := [((0 : Nat), { ty := (35 : Nat), segs := [Go.Eng.SV.arr Go.IntKind.u64 (4 : Nat) a] }), ((1 : Nat), { ty := (35 : Nat), segs := [Go.Eng.SV.arr Go.IntKind.u64 (4 : Nat) b] }), ((2 : Nat), { ty := (35 : Nat), segs := [Go.Eng.SV.arr Go.IntKind.u64 (4 : Nat) [(0 : Nat), (0 : Nat), (0 : Nat), (0 : Nat)]] }), ((3 : Nat), { ty := (35 : Nat), segs := [Go.Eng.SV.arr Go.IntKind.u64 (4 : Nat) (Go.Eng.dF (Go.Eng.vF (Go.Eng.dF (Go.Eng.vF (Go.Eng.dF acc) * Go.Eng.vF (Go.Eng.dF acc) % Go.Eng.P255)) * Go.Eng.vF a % Go.Eng.P255))] })], next := (4 : Nat) }) (ob := [Decidable.decide ((0 : Nat) ≤ n) = Bool.true, n / (64 : Nat) < (4 : Nat), n / (64 : Nat) < (4 : Nat), n % (64 : Nat) < (64 : Nat), (b.getD (n / (64 : Nat)) (0 : Nat) / (2 : Nat) ^ (n % (64 : Nat)) &&& (1 : Nat) == (1 : Nat)) = Bool.true]) (sc' := []) (by kernel_rfl) ?_ ?_
      · repeat' (first | exact True.intro | refine And.intro ?_ ?_)
        all_goals first | omega | (simp; done) | (rw [and_one, hbit]; simpa [vF] using hE)
      · rw [if_pos hE] at hp
        have := ih (by omega) (acc * acc % P255 * vF a % P255) (P_lt _) (fun _ => Nat.mod_lt _ (by decide)) (by
          rw [← hp]
          refine pwF_congr _ _ _ rfl _ _ _ ?_
          rw [mulF_mod, Nat.mod_mod, Nat.mul_mod (mulF acc acc), mulF_mod, ← Nat.mul_mod, Nat.mod_mul_mod])
        refine Hold.cast this ?_
        rw [hsq, hsm]
        rfl
    · refine hold_cut mixed ok11b (unroll := false) (f := 100) (sc := [true, false]) (ks := [2,3,4,5,6]) (bs := [0,1,2,3]) (nx := 4) (st' := [Go.Eng.It.lp [(0 : Nat), (1 : Nat), (0 : Nat), (1 : Nat), (1 : Nat)], Go.Eng.It.blk (0 : Nat), Go.Eng.It.at [(1 : Nat), (1 : Nat), (1 : Nat)]]) (σ' := { nt := (29 : Nat), slots := [((2 : Nat), Go.Eng.SV.ptr (0 : Nat) (0 : Nat) (Go.Eng.Ix.c (0 : Nat))), ((3 : Nat), Go.Eng.SV.ptr (1 : Nat) (0 : Nat) (Go.Eng.Ix.c (0 : Nat))), ((4 : Nat), Go.Eng.SV.ptr (2 : Nat) (0 : Nat) (Go.Eng.Ix.c (0 : Nat))), ((5 : Nat), Go.Eng.SV.ptr (3 : Nat) (0 : Nat) (Go.Eng.Ix.c (0 : Nat))), ((6 : Nat), Go.Eng.SV.i Go.IntKind.i64 ((↑n : Int) - (1 : Int)))], blks := [((0 : Nat), { ty := (35 : Nat), segs := [Go.Eng.SV.arr Go.IntKind.u64 (4 : Nat) a] }), ((1 : Nat), { ty := (35 : Nat), segs := [Go.Eng.SV.arr Go.IntKind.u64 (4 : Nat) b] }), ((2 : Nat), { ty := (35 : Nat), segs := [Go.Eng.SV.arr Go.IntKind.u64 (4 : Nat) [(0 : Nat), (0 : Nat), (0 : Nat), (0 : Nat)]] }), ((3 : Nat), { ty := (35 : Nat), segs := [Go.Eng.SV.arr Go.IntKind.u64 (4 : Nat) (Go.Eng.dF (Go.Eng.vF (Go.Eng.dF acc) * Go.Eng.vF (Go.Eng.dF acc) % Go.Eng.P255))] })], next := (4 : Nat) }) (ob := [Decidable.decide ((0 : Nat) ≤ n) = Bool.true, n / (64 : Nat) < (4 : Nat), n / (64 : Nat) < (4 : Nat), n % (64 : Nat) < (64 : Nat), (b.getD (n / (64 : Nat)) (0 : Nat) / (2 : Nat) ^ (n % (64 : Nat)) &&& (1 : Nat) == (1 : Nat)) = Bool.false]) (sc' := []) (by kernel_rfl) ?_ ?_
      · repeat' (first | exact True.intro | refine And.intro ?_ ?_)
        all_goals first | omega | (simp; done) | (rw [and_one, hbit]; simpa [vF] using hE)
      · rw [if_neg hE] at hp
        have := ih (by omega) (acc * acc % P255) (P_lt _) (fun _ => Nat.mod_lt _ (by decide)) (by
          rw [← hp]
          refine pwF_congr _ _ _ rfl _ _ _ ?_
          rw [mulF_mod, Nat.mod_mod])
        refine Hold.cast this ?_
        rw [hsq]
        rfl
theorem c85 : ∀ args res ob, e85 args = some (res, ob) → All ob → Contract Try.prog 91 args res := by
  intro args res ob h hob
  simp only [e85, t2] at h
  split at h
  · rename_i a b
    cases h
    refine contract Try.func91 (body := bodyOf Try.f91) rfl (by kernel_rfl) (by kernel_rfl) rfl ?_
    rintro ⟨ha, hb, _⟩ w0 S
    refine hold_cut mixed ok11b (unroll := false) (f := 100) (sc := []) (ks := [2,3,4,5,6]) (bs := [0,1,2,3]) (nx := 4) (st' := [Go.Eng.It.lp [(0 : Nat), (1 : Nat), (0 : Nat), (1 : Nat), (1 : Nat)], Go.Eng.It.blk (0 : Nat), Go.Eng.It.at [(1 : Nat), (1 : Nat), (1 : Nat)]]) (σ' := { nt := (29 : Nat), slots := [((2 : Nat), Go.Eng.SV.ptr (0 : Nat) (0 : Nat) (Go.Eng.Ix.c (0 : Nat))), ((3 : Nat), Go.Eng.SV.ptr (1 : Nat) (0 : Nat) (Go.Eng.Ix.c (0 : Nat))), ((4 : Nat), Go.Eng.SV.ptr (2 : Nat) (0 : Nat) (Go.Eng.Ix.c (0 : Nat))), ((5 : Nat), Go.Eng.SV.ptr (3 : Nat) (0 : Nat) (Go.Eng.Ix.c (0 : Nat))), ((6 : Nat), Go.Eng.SV.c Go.IntKind.i64 (255 : Int))], blks := [((0 : Nat), { ty := (35 : Nat), segs := [Go.Eng.SV.arr Go.IntKind.u64 (4 : Nat) a] }), ((1 : Nat), { ty := (35 : Nat), segs := [Go.Eng.SV.arr Go.IntKind.u64 (4 : Nat) b] }), ((2 : Nat), { ty := (35 : Nat), segs := [Go.Eng.SV.arr Go.IntKind.u64 (4 : Nat) [(0 : Nat), (0 : Nat), (0 : Nat), (0 : Nat)]] }), ((3 : Nat), { ty := (35 : Nat), segs := [Go.Eng.SV.arr Go.IntKind.u64 (4 : Nat) [(1 : Nat), (0 : Nat), (0 : Nat), (0 : Nat)]] })], next := (4 : Nat) }) (ob := []) (sc' := []) (by kernel_rfl) trivial ?_
    have := c85_in (w0 := w0) (S := S) a b hb.2 (powF (vF a) (vF b) % P255) rfl 256 (Nat.le_refl _) 1 (by decide) (fun h => by cases h) rfl
    exact Hold.weaken this (by simp [wks, wk, wk0, wka])
  · cases h
theorem ok11c : CtrOk Try.prog T11c := addC_ok ok11b c85
theorem c62 : ∀ args res ob, e62 args = some (res, ob) → All ob → Contract Try.prog 82 args res := by
  intro args res ob h hob
  simp only [e62, t1] at h
  split at h
  · rename_i a
    cases h
    refine contract Try.func82 (body := bodyOf Try.f82) rfl (by kernel_rfl) (by kernel_rfl) rfl ?_
    rintro ⟨ha, _⟩ w0 S
    exact hold_end mixed ok11c (unroll := true) (f := 100) (sc := []) (r := (Go.Eng.SV.arr Go.IntKind.u64 (4 : Nat) (Go.Eng.dF (Go.Eng.G.powF (Go.Eng.vF a) (57896044618658097711785492504343953926634992332820282019728792003956564819947 : Nat) % Go.Eng.P255)))) (ob := []) (sc' := []) (by kernel_rfl) trivial rfl
  · cases h
theorem ok11d : CtrOk Try.prog T11d := addC_ok ok11c c62
end
end Go.Eng.G

/- coresecref08: Root, Mul, Inv, Sqrt. -/
namespace Go.Eng.G
open Go Go.Eng Go.Proofs
set_option maxRecDepth 100000
set_option linter.unusedSimpArgs false
section
variable {w0 : World} {S : Own} {res : SV}
theorem ok11e : CtrOk Try.prog T11e := ok11d
theorem ok11 : CtrOk Try.prog T11 := ok11e
end
end Go.Eng.G

/- Prime numbers, plain: Fermat's theorem, and that 2^255 - 19 is a prime. -/
namespace Go.Eng

def Pr (p : Nat) : Prop := 2 ≤ p ∧ ∀ d, d ∣ p → d = 1 ∨ d = p

theorem Pr.cop {p a : Nat} (h : Pr p) (ha : ¬ p ∣ a) : Nat.Coprime p a := by
  rcases h.2 (Nat.gcd p a) (Nat.gcd_dvd_left _ _) with e | e
  · exact e
  · exact absurd (e ▸ Nat.gcd_dvd_right p a) ha
theorem Pr.mul {p a b : Nat} (h : Pr p) (hab : p ∣ a * b) : p ∣ a ∨ p ∣ b := by
  by_cases ha : p ∣ a
  · exact .inl ha
  · exact .inr ((h.cop ha).dvd_of_dvd_mul_left hab)
theorem Pr.pow {p a : Nat} (h : Pr p) : ∀ n, p ∣ a ^ n → p ∣ a := by
  intro n
  induction n with
  | zero => intro hd; have h1 := h.1; have : p ≤ 1 := Nat.le_of_dvd (by decide) (by simpa using hd); omega
  | succ n ih => intro hd; rw [Nat.pow_succ] at hd; exact (h.mul hd).elim ih id

/-! ### sums and binomials -/
def sm (f : Nat → Nat) : Nat → Nat
  | 0 => 0
  | n + 1 => sm f n + f n
def ch : Nat → Nat → Nat
  | _, 0 => 1
  | 0, _ + 1 => 0
  | n + 1, k + 1 => ch n k + ch n (k + 1)

theorem ch_zero (n : Nat) : ch n 0 = 1 := by cases n <;> rfl
theorem ch_big : ∀ n k, n < k → ch n k = 0
  | 0, 0, h => by omega
  | 0, _ + 1, _ => rfl
  | n + 1, 0, h => by omega
  | n + 1, k + 1, h => by simp only [ch]; rw [ch_big n k (by omega), ch_big n (k + 1) (by omega)]
theorem ch_self : ∀ n, ch n n = 1
  | 0 => rfl
  | n + 1 => by simp only [ch]; rw [ch_self n, ch_big n (n + 1) (by omega)]
theorem ch_mul : ∀ n k, (k + 1) * ch (n + 1) (k + 1) = (n + 1) * ch n k := by
  intro n
  induction n with
  | zero =>
    intro k
    cases k with
    | zero => rfl
    | succ k => simp [ch]
  | succ n ih =>
    intro k
    have h1 := ih k
    cases k with
    | zero =>
      have e : ch (n + 1 + 1) (0 + 1) = ch (n + 1) 0 + ch (n + 1) (0 + 1) := rfl
      rw [e, Nat.mul_add, h1, ch_zero, ch_zero]
      omega
    | succ k =>
      have h2 := ih (k + 1)
      have h3 := ih k
      have e : ch (n + 1 + 1) (k + 1 + 1) = ch (n + 1) (k + 1) + ch (n + 1) (k + 1 + 1) := rfl
      have e2 : ch (n + 1) (k + 1) = ch n k + ch n (k + 1) := rfl
      rw [e, Nat.mul_add, h2]
      have e3 : (k + 1 + 1) * ch (n + 1) (k + 1) = (k + 1) * ch (n + 1) (k + 1) + ch (n + 1) (k + 1) := by rw [Nat.add_mul (k + 1) 1, Nat.one_mul]
      rw [e3, h3]
      have e4 : (n + 1 + 1) * ch (n + 1) (k + 1) = (n + 1) * ch (n + 1) (k + 1) + ch (n + 1) (k + 1) := by rw [Nat.add_mul (n + 1) 1, Nat.one_mul]
      rw [e4, e2, Nat.mul_add]
      omega

theorem sm_congr {f g : Nat → Nat} : ∀ n, (∀ k, k < n → f k = g k) → sm f n = sm g n
  | 0, _ => rfl
  | n + 1, h => by simp only [sm]; rw [sm_congr n fun k hk => h k (by omega), h n (by omega)]
theorem sm_add (f g : Nat → Nat) : ∀ n, sm (fun k => f k + g k) n = sm f n + sm g n
  | 0 => rfl
  | n + 1 => by simp only [sm, sm_add f g n]; omega
theorem sm_mul (c : Nat) (f : Nat → Nat) : ∀ n, sm (fun k => c * f k) n = c * sm f n
  | 0 => rfl
  | n + 1 => by simp only [sm, sm_mul c f n, Nat.mul_add]
theorem sm_shift (f : Nat → Nat) : ∀ n, sm f (n + 1) = f 0 + sm (fun k => f (k + 1)) n
  | 0 => by simp [sm]
  | n + 1 => by rw [sm, sm_shift f n]; simp only [sm]; omega

theorem binom (x : Nat) : ∀ n, (x + 1) ^ n = sm (fun k => ch n k * x ^ k) (n + 1) := by
  intro n
  induction n with
  | zero => simp [sm, ch]
  | succ n ih =>
    rw [Nat.pow_succ, ih, Nat.mul_add, Nat.mul_one, sm_shift (fun k => ch (n + 1) k * x ^ k)]
    have e1 : sm (fun k => ch (n + 1) (k + 1) * x ^ (k + 1)) (n + 1) = sm (fun k => ch n k * x ^ (k + 1) + ch n (k + 1) * x ^ (k + 1)) (n + 1) :=
      sm_congr _ fun k _ => by show (ch n k + ch n (k + 1)) * _ = _; rw [Nat.add_mul]
    rw [e1, sm_add]
    have e2 : sm (fun k => ch n k * x ^ (k + 1)) (n + 1) = x * sm (fun k => ch n k * x ^ k) (n + 1) := by
      rw [← sm_mul]
      exact sm_congr _ fun k _ => by rw [Nat.pow_succ]; rw [Nat.mul_comm x, Nat.mul_assoc]
    rw [e2, Nat.mul_comm x]
    have e3 : sm (fun k => ch n k * x ^ k) (n + 1) = ch n 0 * x ^ 0 + sm (fun k => ch n (k + 1) * x ^ (k + 1)) n := sm_shift _ n
    have e4 : sm (fun k => ch n (k + 1) * x ^ (k + 1)) (n + 1) = sm (fun k => ch n (k + 1) * x ^ (k + 1)) n := by
      rw [sm, ch_big n (n + 1) (by omega), Nat.zero_mul, Nat.add_zero]
    rw [e4, e3, ch_zero, ch_zero]
    omega

theorem sm_dvd {p : Nat} {f : Nat → Nat} : ∀ n, (∀ k, k < n → p ∣ f k) → p ∣ sm f n
  | 0, _ => Nat.dvd_zero p
  | n + 1, h => Nat.dvd_add (sm_dvd n fun k hk => h k (by omega)) (h n (by omega))

theorem ch_dvd {p k : Nat} (h : Pr p) (hk : 0 < k) (hkp : k < p) : p ∣ ch p k := by
  obtain ⟨q, rfl⟩ : ∃ q, p = q + 1 := ⟨p - 1, by have := h.1; omega⟩
  obtain ⟨j, rfl⟩ : ∃ j, k = j + 1 := ⟨k - 1, by omega⟩
  have := ch_mul q j
  rcases h.mul (a := j + 1) (b := ch (q + 1) (j + 1)) ⟨_, this⟩ with hd | hd
  · have := Nat.le_of_dvd (by omega) hd; omega
  · exact hd

theorem fermat_add {p : Nat} (h : Pr p) (x : Nat) : (x + 1) ^ p % p = (x ^ p + 1) % p := by
  have h1 := h.1
  obtain ⟨q, hq⟩ : ∃ q, p = q + 1 := ⟨p - 1, by omega⟩
  have hb := binom x p
  rw [sm] at hb
  have hs := sm_shift (fun k => ch p k * x ^ k) q
  rw [← hq] at hs
  rw [hs, ch_zero, ch_self] at hb
  obtain ⟨c, hc⟩ := sm_dvd (p := p) (f := fun k => ch p (k + 1) * x ^ (k + 1)) q (fun k hk => Nat.dvd_mul_right_of_dvd (ch_dvd h (by omega) (by omega)) _)
  rw [hc] at hb
  rw [hb]
  have e : 1 * x ^ 0 + p * c + 1 * x ^ p = x ^ p + 1 + p * c := by rw [Nat.pow_zero]; omega
  rw [e, Nat.add_mul_mod_self_left]

theorem fermat_p {p : Nat} (h : Pr p) : ∀ x, x ^ p % p = x % p
  | 0 => by have := h.1; rw [Nat.zero_pow (by omega)]
  | x + 1 => by rw [fermat_add h, Nat.add_mod, fermat_p h x, ← Nat.add_mod]

theorem dvd_sub_of_mod {p a b : Nat} (h : a % p = b % p) : p ∣ a - b := by
  have h1 := Nat.div_add_mod a p
  have h2 := Nat.div_add_mod b p
  rcases Nat.le_total (b / p) (a / p) with hl | hl
  · refine ⟨a / p - b / p, ?_⟩
    rw [Nat.mul_sub]
    omega
  · have := Nat.mul_le_mul_left p hl
    rw [show a - b = 0 by omega]
    exact Nat.dvd_zero p

theorem fermat {p x : Nat} (h : Pr p) (hx : x % p ≠ 0) : x ^ (p - 1) % p = 1 := by
  have h1 := h.1
  have hp := fermat_p h x
  have hpos : 0 < x := by rcases Nat.eq_zero_or_pos x with e | e; · subst e; simp at hx
                          · exact e
  have hone : 1 ≤ x ^ (p - 1) := Nat.one_le_pow _ _ hpos
  have e : x ^ p = x * x ^ (p - 1) := by
    obtain ⟨q, rfl⟩ : ∃ q, p = q + 1 := ⟨p - 1, by omega⟩
    rw [Nat.pow_succ, Nat.mul_comm]; rfl
  have hd : p ∣ x * (x ^ (p - 1) - 1) := by
    have : x * (x ^ (p - 1) - 1) = x ^ p - x := by rw [e, Nat.mul_sub, Nat.mul_one]
    rw [this]
    exact dvd_sub_of_mod hp
  rcases h.mul hd with hd | hd
  · exact absurd (Nat.mod_eq_zero_of_dvd hd) hx
  · obtain ⟨c, hc⟩ := hd
    have : x ^ (p - 1) = 1 + p * c := by omega
    rw [this, Nat.add_mul_mod_self_left]
    exact Nat.mod_eq_of_lt (by omega)

/-! ### how a prime is known -/
theorem exists_prime_dvd : ∀ n : Nat, 2 ≤ n → ∃ r, Pr r ∧ r ∣ n := by
  intro n
  induction n using Nat.strongRecOn with
  | _ n ih =>
    intro hn
    by_cases h : ∀ d, d ∣ n → d = 1 ∨ d = n
    · exact ⟨n, ⟨hn, h⟩, Nat.dvd_refl n⟩
    · obtain ⟨d, hd⟩ := Classical.not_forall.1 h
      obtain ⟨hdn, hne⟩ := Classical.not_imp.1 hd
      have h1 : d ≠ 1 := fun e => hne (.inl e)
      have h2 : d ≠ n := fun e => hne (.inr e)
      have hpos : 0 < d := Nat.pos_of_dvd_of_pos hdn (by omega)
      have hle := Nat.le_of_dvd (by omega) hdn
      obtain ⟨r, hr, hrd⟩ := ih d (by omega) (by omega)
      exact ⟨r, hr, Nat.dvd_trans hrd hdn⟩

/-- a number without a prime divisor up to its root is a prime -/
theorem prime_of_big {N F : Nat} (hN : 2 ≤ N) (hF : N < F * F) (h : ∀ r, Pr r → r ∣ N → F ≤ r) : Pr N := by
  refine ⟨hN, fun d hd => ?_⟩
  obtain ⟨e, he⟩ := hd
  by_cases h1 : d = 1
  · exact .inl h1
  · refine .inr ?_
    by_cases h2 : e = 1
    · rw [he, h2, Nat.mul_one]
    · have hd0 : d ≠ 0 := fun h0 => by subst h0; rw [Nat.zero_mul] at he; omega
      have he0 : e ≠ 0 := fun h0 => by subst h0; rw [Nat.mul_zero] at he; omega
      obtain ⟨r, hr, hrd⟩ := exists_prime_dvd d (by omega)
      obtain ⟨s, hs, hse⟩ := exists_prime_dvd e (by omega)
      have h3 := h r hr (Nat.dvd_trans hrd ⟨e, he⟩)
      have h4 := h s hs (Nat.dvd_trans hse ⟨d, by rw [he, Nat.mul_comm]⟩)
      have h5 := Nat.le_of_dvd (by omega) hrd
      have h6 := Nat.le_of_dvd (by omega) hse
      have : F * F ≤ d * e := Nat.mul_le_mul (by omega) (by omega)
      omega

theorem pow_one_mod {b r : Nat} (hr : 2 ≤ r) {n : Nat} (h : b ^ n % r = 1) (m : Nat) : b ^ (n * m) % r = 1 := by
  rw [Nat.pow_mul, Nat.pow_mod, h, Nat.one_pow, Nat.mod_eq_of_lt (by omega)]

theorem pow_gcd {b r : Nat} (hr : 2 ≤ r) : ∀ q s, b ^ q % r = 1 → b ^ s % r = 1 → b ^ Nat.gcd q s % r = 1 := by
  intro q s
  induction q, s using Nat.gcd.induction with
  | H0 s => intro _ h; rw [Nat.gcd_zero_left]; exact h
  | H1 q s hq ih =>
    intro h1 h2
    rw [Nat.gcd_rec]
    refine ih ?_ h1
    have e := Nat.div_add_mod s q
    rw [← e, Nat.pow_add, Nat.mul_mod, pow_one_mod hr h1, Nat.one_mul, Nat.mod_mod] at h2
    exact h2

/-- a prime factor q of N - 1 divides r - 1 for each prime r of N, if some a tells it -/
theorem pock {N q r a m : Nat} (hq : Pr q) (hr : Pr r) (hrN : r ∣ N) (hm : m * q = N - 1) (h1 : a ^ (m * q) % N = 1) (hg : Nat.gcd (a ^ m - 1) N = 1) : q ∣ r - 1 := by
  have hr2 := hr.1
  have hone : a ^ (m * q) % r = 1 := by
    obtain ⟨c, rfl⟩ := hrN
    have := congrArg (· % r) h1
    simp only [Nat.mod_mul_right_mod] at this
    rw [this, Nat.mod_eq_of_lt (by omega)]
  refine Classical.byContradiction fun hno => ?_
  have hcop := hq.cop hno
  have hb : a ^ m % r ≠ 0 := fun h0 => by
    rw [Nat.pow_mul, Nat.pow_mod, h0, Nat.zero_pow (by have := hq.1; omega), Nat.zero_mod] at hone
    omega
  have hf := fermat hr hb
  generalize hB : a ^ m = b at *
  have hq1 : b ^ q % r = 1 := by rw [← hB, ← Nat.pow_mul]; exact hone
  have hb1 : b % r = 1 := by
    have := pow_gcd hr2 q (r - 1) hq1 hf
    rw [show Nat.gcd q (r - 1) = 1 from hcop, Nat.pow_one] at this
    exact this
  have hpos : 1 ≤ b := by
    rcases Nat.eq_zero_or_pos b with e | e
    · subst e; simp at hb1
    · exact e
  have hd : r ∣ b - 1 := dvd_sub_of_mod (by rw [hb1, Nat.mod_eq_of_lt (by omega)])
  have := Nat.dvd_gcd hd hrN
  rw [hg] at this
  have := Nat.le_of_dvd (by decide) this
  omega

/-- no divisor from k on, f steps -/
def noDiv (n : Nat) : Nat → Nat → Bool
  | 0, _ => true
  | f + 1, k => (n % k != 0) && noDiv n f (k + 1)
theorem noDiv_spec {n : Nat} : ∀ f k, noDiv n f k = true → ∀ d, k ≤ d → d < k + f → ¬ d ∣ n := by
  intro f
  induction f with
  | zero => intro k _ d h1 h2; omega
  | succ f ih =>
    intro k h d h1 h2 hd
    simp only [noDiv, Bool.and_eq_true, bne_iff_ne, ne_eq] at h
    by_cases e : d = k
    · subst e; exact h.1 (Nat.mod_eq_zero_of_dvd hd)
    · exact ih (k + 1) h.2 d (by omega) (by omega) hd
theorem prime_small {n : Nat} (f : Nat) (hn : 2 ≤ n) (hf : n < (2 + f) * (2 + f)) (h : noDiv n f 2 = true) : Pr n := by
  refine prime_of_big hn hf fun r hr hd => ?_
  refine Nat.le_of_not_lt fun hlt => ?_
  exact noDiv_spec f 2 h r hr.1 hlt hd

/-- one large prime factor, or two -/
theorem prime_pock1 {N q a m : Nat} (hN : 2 ≤ N) (hq : Pr q) (hm : m * q = N - 1) (hF : N < (q + 1) * (q + 1)) (h1 : a ^ (m * q) % N = 1) (hg : Nat.gcd (a ^ m - 1) N = 1) : Pr N := by
  refine prime_of_big hN hF fun r hr hd => ?_
  have hr2 := hr.1
  have e1 := Nat.le_of_dvd (by omega) (pock hq hr hd hm h1 hg)
  omega
theorem prime_pock2 {N q s a m k : Nat} (hN : 2 ≤ N) (hq : Pr q) (hs : Pr s) (hqs : Nat.Coprime q s) (hm : m * q = N - 1) (hk : k * s = N - 1) (hF : N < (q * s + 1) * (q * s + 1))
    (h1 : a ^ (m * q) % N = 1) (hg : Nat.gcd (a ^ m - 1) N = 1) (h2 : a ^ (k * s) % N = 1) (hg2 : Nat.gcd (a ^ k - 1) N = 1) : Pr N := by
  refine prime_of_big hN hF fun r hr hd => ?_
  have e1 := pock hq hr hd hm h1 hg
  have e2 := pock hs hr hd hk h2 hg2
  have hr2 := hr.1
  have e3 := Nat.le_of_dvd (by omega) (Nat.Coprime.mul_dvd_of_dvd_of_dvd hqs e1 e2)
  omega

/-- powers modulo N, by squaring -/
def pm (N : Nat) : Nat → Nat → Nat → Nat → Nat
  | 0, _, _, acc => acc
  | f + 1, a, e, acc => pm N f (a * a % N) (e / 2) (if e % 2 = 1 then acc * a % N else acc)
theorem pm_spec (N : Nat) : ∀ f a e acc, e < 2 ^ f → pm N f a e acc % N = acc * a ^ e % N := by
  intro f
  induction f with
  | zero => intro a e acc h; have : e = 0 := by simpa using h
            subst this; simp [pm]
  | succ f ih =>
    intro a e acc h
    have he : e / 2 < 2 ^ f := by rw [Nat.pow_succ] at h; omega
    simp only [pm]
    rw [ih _ _ _ he]
    have e2 : (a * a % N) ^ (e / 2) % N = a ^ (2 * (e / 2)) % N := by rw [← Nat.pow_mod, Nat.pow_mul, Nat.pow_two]
    rw [Nat.mul_mod, e2]
    split
    · rename_i h1
      rw [Nat.mod_mod, ← Nat.mul_mod, Nat.mul_assoc, Nat.mul_comm a, ← Nat.pow_succ]
      rw [show (2 * (e / 2)).succ = e by omega]
    · rename_i h1
      rw [← Nat.mul_mod, show 2 * (e / 2) = e by omega]
theorem pm_pow {N a e v : Nat} (f : Nat) (h : e < 2 ^ f) (hv : pm N f a e 1 % N = v) : a ^ e % N = v := by
  rw [← hv, pm_spec N f a e 1 h, Nat.one_mul]
/-- the gcd that tells it, by remainders -/
theorem gcd_of_mod {N x v : Nat} (hx : x % N = v) (hv : 1 ≤ v) (hg : Nat.gcd (v - 1) N = 1) : Nat.gcd (x - 1) N = 1 := by
  have e := Nat.div_add_mod x N
  have : x - 1 = (v - 1) + N * (x / N) := by omega
  rw [this, Nat.gcd_comm, Nat.gcd_add_mul_left_right, Nat.gcd_comm]
  exact hg
theorem prime_pm1 {N q a m v : Nat} (f : Nat) (hN : 2 ≤ N) (hq : Pr q) (hm : m * q = N - 1) (hF : N < (q + 1) * (q + 1)) (hl : m * q < 2 ^ f) (h1 : pm N f a (m * q) 1 % N = 1)
    (hlm : m < 2 ^ f) (hv : pm N f a m 1 % N = v) (hv1 : 1 ≤ v) (hg : Nat.gcd (v - 1) N = 1) : Pr N :=
  prime_pock1 hN hq hm hF (pm_pow f hl h1) (gcd_of_mod (pm_pow f hlm hv) hv1 hg)
theorem prime_pm2 {N q s a m k v u : Nat} (f : Nat) (hN : 2 ≤ N) (hq : Pr q) (hs : Pr s) (hqs : Nat.Coprime q s) (hm : m * q = N - 1) (hk : k * s = N - 1) (hF : N < (q * s + 1) * (q * s + 1))
    (hl : m * q < 2 ^ f) (h1 : pm N f a (m * q) 1 % N = 1) (hlm : m < 2 ^ f) (hv : pm N f a m 1 % N = v) (hv1 : 1 ≤ v) (hg : Nat.gcd (v - 1) N = 1)
    (hlk : k < 2 ^ f) (hu : pm N f a k 1 % N = u) (hu1 : 1 ≤ u) (hgu : Nat.gcd (u - 1) N = 1) : Pr N :=
  prime_pock2 hN hq hs hqs hm hk hF (pm_pow f hl h1) (gcd_of_mod (pm_pow f hlm hv) hv1 hg) (by rw [hk, ← hm]; exact pm_pow f hl h1) (gcd_of_mod (pm_pow f hlk hu) hu1 hgu)
end Go.Eng

/- 2^255 - 19 is a prime. -/
namespace Go.Eng
theorem pr_353 : Pr 353 := prime_small 20 (by decide) (by decide) (by decide +kernel)
theorem pr_47 : Pr 47 := prime_small 6 (by decide) (by decide) (by decide +kernel)
theorem pr_75707 : Pr 75707 := prime_small 300 (by decide) (by decide) (by decide +kernel)
theorem pr_8574133 : Pr 8574133 := prime_small 3000 (by decide) (by decide) (by decide +kernel)
theorem pr_c : Pr 1919519569386763 :=
  prime_pm2 (q := 8574133) (s := 47) (a := 2) (m := 223873314) (k := 40840841901846) (v := 1059928654987441) (u := 621931926534591) 64 (by decide) pr_8574133 pr_47 (by decide +kernel) (by decide +kernel) (by decide +kernel) (by decide +kernel) (by decide +kernel) (by decide +kernel) (by decide +kernel) (by decide +kernel) (by decide +kernel) (by decide +kernel) (by decide +kernel) (by decide +kernel) (by decide +kernel) (by decide +kernel)
theorem pr_b : Pr 75445702479781427272750846543864801 :=
  prime_pm2 (q := 1919519569386763) (s := 75707) (a := 2) (m := 39304471641247389600) (k := 996548568557483816196003626400) (v := 56747016255153332959347766392083459) (u := 58781699294900834553279248901967638) 128 (by decide) pr_c pr_75707 (by decide +kernel) (by decide +kernel) (by decide +kernel) (by decide +kernel) (by decide +kernel) (by decide +kernel) (by decide +kernel) (by decide +kernel) (by decide +kernel) (by decide +kernel) (by decide +kernel) (by decide +kernel) (by decide +kernel) (by decide +kernel)
theorem pr_a : Pr 74058212732561358302231226437062788676166966415465897661863160754340907 :=
  prime_pm2 (q := 75445702479781427272750846543864801) (s := 353) (a := 2) (m := 981609426360740691344999861639072106) (k := 209796636636151156663544550813209033076960244803019540118592523383402) (v := 69490809710348678725736597923071784769591275419387514694139338586948360) (u := 8562916886866218785688304546164188478888058893729309188831496247839076) 256 (by decide) pr_b pr_353 (by decide +kernel) (by decide +kernel) (by decide +kernel) (by decide +kernel) (by decide +kernel) (by decide +kernel) (by decide +kernel) (by decide +kernel) (by decide +kernel) (by decide +kernel) (by decide +kernel) (by decide +kernel) (by decide +kernel) (by decide +kernel)
theorem prP : Pr P255 :=
  prime_pm1 (q := 74058212732561358302231226437062788676166966415465897661863160754340907) (a := 2) (m := 781764) (v := 427094198651976259540344842774561673889945192655078505504941250475370961481) 256 (by decide) pr_a (by decide +kernel) (by decide +kernel) (by decide +kernel) (by decide +kernel) (by decide +kernel) (by decide +kernel) (by decide +kernel) (by decide +kernel)
end Go.Eng

/- Inverses and square roots modulo a prime, plain. -/
namespace Go.Eng

theorem mulc {p a b c d : Nat} (h : a % p = c % p) (h2 : b % p = d % p) : a * b % p = c * d % p := by rw [Nat.mul_mod, h, h2, ← Nat.mul_mod]
theorem powc {p a b : Nat} (n : Nat) (h : a % p = b % p) : a ^ n % p = b ^ n % p := by rw [Nat.pow_mod, h, ← Nat.pow_mod]

theorem inv_gen {p a e : Nat} (hp : Pr p) (he : p - 1 = e + 1) (ha : a % p ≠ 0) : a * a ^ e % p = 1 := by
  have := fermat hp ha
  rw [he, Nat.pow_succ, Nat.mul_comm] at this
  exact this

/-- a square root of one -/
theorem unit_root {p u : Nat} (hp : Pr p) (h : u * u % p = 1) : u % p = 1 ∨ u % p = p - 1 := by
  have h2 := hp.1
  have hu : 1 ≤ u := by
    rcases Nat.eq_zero_or_pos u with e | e
    · subst e; simp at h
    · exact e
  have hd : p ∣ (u - 1) * (u + 1) := by
    have e : (u - 1) * (u + 1) = u * u - 1 := by
      obtain ⟨v, rfl⟩ : ∃ v, u = v + 1 := ⟨u - 1, by omega⟩
      have : (v + 1) * (v + 1) = v * (v + 1 + 1) + 1 := by grind
      rw [this]; rfl
    rw [e]
    exact dvd_sub_of_mod (by rw [h, Nat.mod_eq_of_lt (by omega)])
  rcases hp.mul hd with ⟨c, hc⟩ | ⟨c, hc⟩
  · left
    have : u = 1 + p * c := by omega
    rw [this, Nat.add_mul_mod_self_left, Nat.mod_eq_of_lt (by omega)]
  · right
    have hc0 : c ≠ 0 := fun e => by subst e; simp at hc
    obtain ⟨d, rfl⟩ : ∃ d, c = d + 1 := ⟨c - 1, by omega⟩
    have : u = (p - 1) + p * d := by rw [Nat.mul_add] at hc; omega
    rw [this, Nat.add_mul_mod_self_left, Nat.mod_eq_of_lt (by omega)]

/-- squares that agree -/
theorem square_eq {p a b : Nat} (hp : Pr p) (h : a * a % p = b * b % p) : a % p = b % p ∨ (a + b) % p = 0 := by
  rcases Nat.le_total b a with hl | hl
  · have hd : p ∣ (a - b) * (a + b) := by
      have e : (a - b) * (a + b) = a * a - b * b := by
        obtain ⟨c, rfl⟩ : ∃ c, a = b + c := ⟨a - b, by omega⟩
        have : (b + c) * (b + c) = c * (b + c + b) + b * b := by grind
        rw [this, Nat.add_sub_cancel, Nat.add_sub_cancel_left]
      rw [e]; exact dvd_sub_of_mod h
    rcases hp.mul hd with ⟨c, hc⟩ | hd
    · left; have : a = b + p * c := by omega
      rw [this, Nat.add_mul_mod_self_left]
    · right; exact Nat.mod_eq_zero_of_dvd hd
  · have hd : p ∣ (b - a) * (a + b) := by
      have e : (b - a) * (a + b) = b * b - a * a := by
        obtain ⟨c, rfl⟩ : ∃ c, b = a + c := ⟨b - a, by omega⟩
        have : (a + c) * (a + c) = c * (a + (a + c)) + a * a := by grind
        rw [this, Nat.add_sub_cancel, Nat.add_sub_cancel_left]
      rw [e]; exact dvd_sub_of_mod h.symm
    rcases hp.mul hd with ⟨c, hc⟩ | hd
    · left; have : b = a + p * c := by omega
      rw [this, Nat.add_mul_mod_self_left]
    · right; exact Nat.mod_eq_zero_of_dvd hd

theorem neg_neg {p a b : Nat} (hp : 2 ≤ p) (ha : a % p = p - 1) (hb : b % p = p - 1) : a * b % p = 1 := by
  rw [Nat.mul_mod, ha, hb]
  obtain ⟨q, rfl⟩ : ∃ q, p = q + 2 := ⟨p - 2, by omega⟩
  have : (q + 2 - 1) * (q + 2 - 1) = 1 + (q + 2) * q := by
    show (q + 1) * (q + 1) = _
    grind
  rw [this, Nat.add_mul_mod_self_left, Nat.mod_eq_of_lt (by omega)]

/-- a root of a, if a is a square: x, or x times i -/
theorem root_ok {p a e38 e14 e12 i : Nat} (hp : Pr p) (h1 : e38 + e38 = e14 + 1) (h2 : e14 + e14 = e12) (hi : i * i % p = p - 1) (hs : a ^ e12 % p = 1) :
    a ^ e38 * a ^ e38 % p = a % p ∨ (a ^ e38 * i) * (a ^ e38 * i) % p = a % p := by
  have hx : a ^ e38 * a ^ e38 = a * a ^ e14 := by rw [← Nat.pow_add, h1, Nat.pow_succ, Nat.mul_comm]
  have hu : a ^ e14 * a ^ e14 % p = 1 := by rw [← Nat.pow_add, h2]; exact hs
  rcases unit_root hp hu with h | h
  · left
    rw [hx, Nat.mul_mod, h, Nat.mul_one, Nat.mod_mod]
  · right
    have e : (a ^ e38 * i) * (a ^ e38 * i) = a * (a ^ e14 * (i * i)) := by
      rw [show (a ^ e38 * i) * (a ^ e38 * i) = (a ^ e38 * a ^ e38) * (i * i) by ac_rfl, hx, Nat.mul_assoc]
    have h3 := neg_neg hp.1 h hi
    rw [e, Nat.mul_mod, h3, Nat.mul_one, Nat.mod_mod]

theorem sq_unit {p a y e12 : Nat} (hp : Pr p) (h2 : e12 + e12 = p - 1) (ha : a % p ≠ 0) (hy : y * y % p = a % p) : a ^ e12 % p = 1 := by
  have hy0 : y % p ≠ 0 := fun h => ha (by rw [← hy, Nat.mul_mod, h]; simp)
  rw [← powc e12 hy, Nat.mul_pow, ← Nat.pow_add, h2]
  exact fermat hp hy0

theorem half_unit {p a e12 : Nat} (hp : Pr p) (h2 : e12 + e12 = p - 1) (ha : a % p ≠ 0) : a ^ e12 % p = 1 ∨ a ^ e12 % p = p - 1 := by
  refine unit_root hp ?_
  rw [← Nat.pow_add, h2]
  exact fermat hp ha
end Go.Eng

/- What a state says of plain numbers. -/
namespace Go.Eng
open Go.RowKit

theorem Hold.plain {P : Program} {body : Code} {Q : Exit → Act → World → Prop} {w0 : Fr} {S : Own} {st : List It} {σ : St}
    (h : (∀ id bk, (id, bk) ∈ σ.blks → bk.row = false → pureF.pureFs bk.segs) → (∀ d s, (d, s) ∈ σ.slots → s.isTup = false → pureF s) → Hold P body Q w0 S st σ) : Hold P body Q w0 S st σ := by
  intro β a w hS
  refine h (fun id bk hm hr => ?_) (fun d s hm ht => ?_) β a w hS
  · obtain ⟨cs, hr, _⟩ := (hS.blk id bk hm).1 hr
    exact pureFs_ok _ _ hr
  · obtain ⟨cs, hr, _⟩ := relV_one ht (hS.slot d s hm)
    exact pureF_ok s cs hr
end Go.Eng

/- Roots and inverses of the field: what the code's terms are, plain. -/
namespace Go.Eng.G
open Go Go.Eng Go.Proofs
set_option maxRecDepth 100000
set_option linter.unusedSimpArgs false
def E12 : Nat := 28948022309329048855892746252171976963317496166410141009864396001978282409974
theorem e_12 : E12 + E12 = P255 - 1 := by decide
theorem e_14 : E14 + E14 = E12 := by decide
theorem e_38 : E38 + E38 = E14 + 1 := by decide
theorem sqX_pow (A : Nat) : sqX A % P255 = A ^ E38 % P255 := powF_mod A (by decide)
theorem i_pow : powF 2 E14 % P255 = 2 ^ E14 % P255 := powF_mod 2 (by decide)
theorem ii : powF 2 E14 * powF 2 E14 % P255 = P255 - 1 := by rw [sqI]; decide +kernel
theorem two_half : 2 ^ E12 % P255 = P255 - 1 := by
  rw [← e_14, Nat.pow_add, ← ii]
  exact mulc i_pow.symm i_pow.symm
theorem sqY_sq {A : Nat} (h : A ^ E12 % P255 = 1) : mulF (sqY A) (sqY A) % P255 = A % P255 := by
  have hX := sqX_pow A
  unfold sqY
  split
  · assumption
  · rename_i hn
    have hXX : mulF (sqX A) (sqX A) % P255 = A ^ E38 * A ^ E38 % P255 := by rw [mulF_mod]; exact mulc hX hX
    have hY : mulF (sqX A) (powF 2 E14) % P255 = A ^ E38 * powF 2 E14 % P255 := by rw [mulF_mod]; exact mulc hX rfl
    rcases root_ok prP e_38 e_14 ii h with h1 | h1
    · exact absurd (hXX.trans h1) hn
    · rw [mulF_mod, mulc hY hY]; exact h1
theorem sqOk_of {A : Nat} (h : A ^ E12 % P255 = 1) : sqOk A = true := decide_eq_true (sqY_sq h)
theorem of_sqOk {A : Nat} (ha : A % P255 ≠ 0) (h : sqOk A = true) : A ^ E12 % P255 = 1 := by
  have := of_decide_eq_true h
  rw [mulF_mod] at this
  exact sq_unit prP e_12 ha this
theorem sqOk_zero : sqOk 0 = true := by decide +kernel
theorem sqOk_square (A : Nat) : sqOk (A * A) = true := by
  by_cases h : A % P255 = 0
  · rw [sqOk_congr (B := 0) (by rw [Nat.mul_mod, h])]
    exact sqOk_zero
  · refine sqOk_of ?_
    rw [Nat.mul_pow, ← Nat.pow_add, e_12]
    exact fermat prP h
theorem sqOk_twice {A : Nat} (h : A % P255 ≠ 0) : sqOk A ≠ sqOk (A + A) := by
  have e2 : A + A = 2 * A := by omega
  have h2 : (A + A) % P255 ≠ 0 := fun h0 => by
    have hd := Nat.dvd_of_mod_eq_zero h0
    rw [e2] at hd
    rcases prP.mul hd with hd | hd
    · exact absurd (Nat.le_of_dvd (by decide) hd) (by decide)
    · exact h (Nat.mod_eq_zero_of_dvd hd)
  have hmul : (A + A) ^ E12 % P255 = (P255 - 1) * (A ^ E12) % P255 := by
    rw [e2, Nat.mul_pow]
    exact mulc (by rw [two_half, Nat.mod_eq_of_lt (by decide)]) rfl
  rcases half_unit prP e_12 h with h1 | h1
  · rw [sqOk_of h1]
    intro hc
    have := of_sqOk h2 hc.symm
    rw [hmul, Nat.mul_mod, h1] at this
    exact absurd this (by decide)
  · have : (A + A) ^ E12 % P255 = 1 := by
      rw [hmul]
      exact neg_neg (by decide) (Nat.mod_eq_of_lt (by decide)) h1
    rw [sqOk_of this]
    intro hc
    have := of_sqOk h hc
    rw [h1] at this
    exact absurd this (by decide)
theorem neg_odd {y : Nat} (hy : y < P255) (h : y % 2 = 1) : (0 + 3 * P255 - y) % P255 = P255 - y := by
  have e : 0 + 3 * P255 - y = (P255 - y) + P255 * 2 := by omega
  rw [e, Nat.add_mul_mod_self_left, Nat.mod_eq_of_lt (by omega)]
theorem P_odd : P255 % 2 = 1 := by decide
theorem sqV_even {A : Nat} : sqV A % 2 = 0 := by
  unfold sqV
  split
  · split
    · rename_i h
      have hy := P_ltP (sqY A)
      rw [subF_mod (A := 0) (by decide) (P_lt _), neg_odd hy h]
      have := P_odd
      omega
    · omega
  · rfl
theorem sqV_P (A : Nat) : sqV A < P255 := by
  unfold sqV
  split
  · split
    · exact P_ltP _
    · exact P_ltP _
  · decide
theorem sqV_sq {A : Nat} (h : sqOk A = true) : sqV A * sqV A % P255 = A % P255 := by
  have h1 := of_decide_eq_true h
  rw [mulF_mod] at h1
  unfold sqV
  rw [if_pos h]
  split
  · rename_i ho
    rw [← h1]
    have hy := P_ltP (sqY A)
    rw [subF_mod (A := 0) (by decide) (P_lt _), neg_odd hy ho, Nat.mul_mod (sqY A)]
    clear h1
    generalize sqY A % P255 = y at *
    obtain ⟨z, hz⟩ : ∃ z, P255 = y + z := ⟨P255 - y, by omega⟩
    rw [show P255 - y = z by omega]
    have : z * z + P255 * y = y * y + P255 * z := by rw [hz]; grind
    rw [← Nat.add_mul_mod_self_left (z * z) P255 y, this, Nat.add_mul_mod_self_left]
  · rw [← h1, ← Nat.mul_mod]
theorem inv_mul {A : Nat} (h : A % P255 ≠ 0) : A * (powF A PI % P255) % P255 = 1 := by
  rw [mulc (c := A) (d := A ^ PI) rfl (by rw [Nat.mod_mod]; exact powF_mod A (by decide))]
  exact inv_gen prP (by decide) h
theorem bd {A : Nat} (h : A < M256) : vB (dB A) = A := by rw [vB_dB, Nat.mod_eq_of_lt h]
theorem dB_inj {A B : Nat} (ha : A < M256) (hb : B < M256) : (dB A == dB B) = decide (A = B) := by
  by_cases h : A = B
  · subst h; simp
  · rw [decide_eq_false h, beq_eq_false_iff_ne]
    intro e
    apply h
    have := congrArg vB e
    rwa [bd ha, bd hb] at this
theorem dB_ne {A B : Nat} (ha : A < M256) (hb : B < M256) : (dB A != dB B) = decide (A ≠ B) := by
  rw [bne, dB_inj ha hb]; simp
theorem dB_head (N : Nat) : (dB N).getD 0 0 = N % 256 := rfl
theorem dB_zero : [0, 0, 0, 0, 0, 0, 0, 0, 0, 0, 0, 0, 0, 0, 0, 0, 0, 0, 0, 0, 0, 0, 0, 0, 0, 0, 0, 0, 0, 0, 0, 0] = dB 0 := by decide
theorem dB_one : [1, 0, 0, 0, 0, 0, 0, 0, 0, 0, 0, 0, 0, 0, 0, 0, 0, 0, 0, 0, 0, 0, 0, 0, 0, 0, 0, 0, 0, 0, 0, 0] = dB 1 := by decide
end Go.Eng.G

/- The group of points of the curve: -x^2 + y^2 = 1 + d x^2 y^2 modulo p. Identities in whole numbers. -/
namespace Go.Eng.B
set_option maxHeartbeats 4000000
set_option maxRecDepth 100000
def eE (d x y : Int) : Int := y*y - x*x - 1 - d*x*x*y*y
def dl (d x1 y1 x2 y2 : Int) : Int := d*x1*x2*y1*y2
def nX (x1 y1 x2 y2 : Int) : Int := x1*y2 + y1*x2
def nY (x1 y1 x2 y2 : Int) : Int := y1*y2 + x1*x2
theorem idX (d x1 y1 x2 y2 x3 y3 : Int) : (nX x1 y1 x2 y2 * (1 - dl d x1 y1 x2 y2) * y3 + nY x1 y1 x2 y2 * (1 + dl d x1 y1 x2 y2) * x3) * ((1 - dl d x2 y2 x3 y3 * dl d x2 y2 x3 y3) + d * nX x2 y2 x3 y3 * nY x2 y2 x3 y3 * x1 * y1) - (nX x2 y2 x3 y3 * (1 - dl d x2 y2 x3 y3) * y1 + nY x2 y2 x3 y3 * (1 + dl d x2 y2 x3 y3) * x1) * ((1 - dl d x1 y1 x2 y2 * dl d x1 y1 x2 y2) + d * nX x1 y1 x2 y2 * nY x1 y1 x2 y2 * x3 * y3)
    = (0 - d*d*x1*x2*x2*x2*x2*y2*y2*y2*x3*x3*y3 - d*d*x1*x2*x2*x2*y2*y2*y2*y2*x3*y3*y3 + d*d*y1*x2*x2*x2*x2*y2*y2*y2*x3*y3*y3 + d*d*y1*x2*x2*x2*y2*y2*y2*y2*x3*x3*y3 - d*x1*x2*x2*x2*x2*y2*x3*x3*y3 - d*x1*x2*x2*x2*y2*y2*x3*x3*x3 - d*x1*x2*x2*x2*y2*y2*x3 + d*x1*x2*x2*y2*y2*y2*y3*y3*y3 - d*x1*x2*x2*y2*y2*y2*y3 + d*x1*x2*y2*y2*y2*y2*x3*y3*y3 + d*y1*x2*x2*x2*x2*y2*x3*y3*y3 + d*y1*x2*x2*x2*y2*y2*y3*y3*y3 - d*y1*x2*x2*x2*y2*y2*y3 - d*y1*x2*x2*y2*y2*y2*x3*x3*x3 - d*y1*x2*x2*y2*y2*y2*x3 - d*y1*x2*y2*y2*y2*y2*x3*x3*y3) * eE d x1 y1
    + (d*d*x1*x1*y1*x2*x2*y2*x3*x3*x3*y3*y3 - d*d*x1*x1*y1*x2*y2*y2*x3*x3*y3*y3*y3 - d*d*x1*y1*y1*x2*x2*y2*x3*x3*y3*y3*y3 + d*d*x1*y1*y1*x2*y2*y2*x3*x3*x3*y3*y3 + d*x1*x1*x1*x2*x2*y2*x3*x3*y3 + d*x1*x1*x1*x2*y2*y2*x3*y3*y3 + d*x1*x1*x1*x2*x3*x3*x3*y3*y3 + d*x1*x1*x1*y2*x3*x3*y3*y3*y3 - d*x1*x1*y1*x2*x2*y2*x3*y3*y3 - d*x1*x1*y1*x2*y2*y2*x3*x3*y3 + d*x1*x1*y1*x2*x3*x3*y3*y3*y3 + d*x1*x1*y1*y2*x3*x3*x3*y3*y3 - d*x1*y1*y1*x2*x2*y2*x3*x3*y3 - d*x1*y1*y1*x2*y2*y2*x3*y3*y3 - d*x1*y1*y1*x2*x3*x3*x3*y3*y3 - d*x1*y1*y1*y2*x3*x3*y3*y3*y3 + d*x1*x2*x2*y2*x3*x3*y3 + d*x1*x2*y2*y2*x3*y3*y3 + d*x1*x2*x3*x3*x3*y3*y3 + d*x1*y2*x3*x3*y3*y3*y3 + d*y1*y1*y1*x2*x2*y2*x3*y3*y3 + d*y1*y1*y1*x2*y2*y2*x3*x3*y3 - d*y1*y1*y1*x2*x3*x3*y3*y3*y3 - d*y1*y1*y1*y2*x3*x3*x3*y3*y3 - d*y1*x2*x2*y2*x3*y3*y3 - d*y1*x2*y2*y2*x3*x3*y3 + d*y1*x2*x3*x3*y3*y3*y3 + d*y1*y2*x3*x3*x3*y3*y3 + x1*x1*x1*x2*x3*x3*x3 - x1*x1*x1*x2*x3*y3*y3 + x1*x1*x1*x2*x3 + x1*x1*x1*y2*x3*x3*y3 - x1*x1*x1*y2*y3*y3*y3 + x1*x1*x1*y2*y3 + x1*x1*y1*x2*x3*x3*y3 - x1*x1*y1*x2*y3*y3*y3 + x1*x1*y1*x2*y3 + x1*x1*y1*y2*x3*x3*x3 - x1*x1*y1*y2*x3*y3*y3 + x1*x1*y1*y2*x3 - x1*y1*y1*x2*x3*x3*x3 + x1*y1*y1*x2*x3*y3*y3 - x1*y1*y1*x2*x3 - x1*y1*y1*y2*x3*x3*y3 + x1*y1*y1*y2*y3*y3*y3 - x1*y1*y1*y2*y3 + x1*x2*x3*x3*x3 - x1*x2*x3*y3*y3 + x1*x2*x3 + x1*y2*x3*x3*y3 - x1*y2*y3*y3*y3 + x1*y2*y3 - y1*y1*y1*x2*x3*x3*y3 + y1*y1*y1*x2*y3*y3*y3 - y1*y1*y1*x2*y3 - y1*y1*y1*y2*x3*x3*x3 + y1*y1*y1*y2*x3*y3*y3 - y1*y1*y1*y2*x3 + y1*x2*x3*x3*y3 - y1*x2*y3*y3*y3 + y1*x2*y3 + y1*y2*x3*x3*x3 - y1*y2*x3*y3*y3 + y1*y2*x3) * eE d x2 y2
    + (0 - d*x1*x1*y1*x2*x2*y2*x3 + d*x1*x1*y1*x2*y2*y2*y3 + d*x1*y1*y1*x2*x2*y2*y3 - d*x1*y1*y1*x2*y2*y2*x3 - x1*x1*x1*x2*x2*x2*x3 - x1*x1*x1*x2*x2*y2*y3 + x1*x1*x1*x2*y2*y2*x3 - x1*x1*x1*x2*x3 + x1*x1*x1*y2*y2*y2*y3 - x1*x1*x1*y2*y3 - x1*x1*y1*x2*x2*x2*y3 - x1*x1*y1*x2*x2*y2*x3 + x1*x1*y1*x2*y2*y2*y3 - x1*x1*y1*x2*y3 + x1*x1*y1*y2*y2*y2*x3 - x1*x1*y1*y2*x3 + x1*y1*y1*x2*x2*x2*x3 + x1*y1*y1*x2*x2*y2*y3 - x1*y1*y1*x2*y2*y2*x3 + x1*y1*y1*x2*x3 - x1*y1*y1*y2*y2*y2*y3 + x1*y1*y1*y2*y3 - x1*x2*x2*x2*x3 - x1*x2*x2*y2*y3 + x1*x2*y2*y2*x3 - x1*x2*x3 + x1*y2*y2*y2*y3 - x1*y2*y3 + y1*y1*y1*x2*x2*x2*y3 + y1*y1*y1*x2*x2*y2*x3 - y1*y1*y1*x2*y2*y2*y3 + y1*y1*y1*x2*y3 - y1*y1*y1*y2*y2*y2*x3 + y1*y1*y1*y2*x3 - y1*x2*x2*x2*y3 - y1*x2*x2*y2*x3 + y1*x2*y2*y2*y3 - y1*x2*y3 + y1*y2*y2*y2*x3 - y1*y2*x3) * eE d x3 y3 := by
  unfold nX nY dl eE
  grind
theorem idY (d x1 y1 x2 y2 x3 y3 : Int) : (nY x1 y1 x2 y2 * (1 + dl d x1 y1 x2 y2) * y3 + nX x1 y1 x2 y2 * (1 - dl d x1 y1 x2 y2) * x3) * ((1 - dl d x2 y2 x3 y3 * dl d x2 y2 x3 y3) - d * nX x2 y2 x3 y3 * nY x2 y2 x3 y3 * x1 * y1) - (nY x2 y2 x3 y3 * (1 + dl d x2 y2 x3 y3) * y1 + nX x2 y2 x3 y3 * (1 - dl d x2 y2 x3 y3) * x1) * ((1 - dl d x1 y1 x2 y2 * dl d x1 y1 x2 y2) - d * nX x1 y1 x2 y2 * nY x1 y1 x2 y2 * x3 * y3)
    = (d*d*x1*x2*x2*x2*x2*y2*y2*y2*x3*y3*y3 + d*d*x1*x2*x2*x2*y2*y2*y2*y2*x3*x3*y3 - d*d*y1*x2*x2*x2*x2*y2*y2*y2*x3*x3*y3 - d*d*y1*x2*x2*x2*y2*y2*y2*y2*x3*y3*y3 + d*x1*x2*x2*x2*x2*y2*x3*y3*y3 + d*x1*x2*x2*x2*y2*y2*y3*y3*y3 - d*x1*x2*x2*x2*y2*y2*y3 - d*x1*x2*x2*y2*y2*y2*x3*x3*x3 - d*x1*x2*x2*y2*y2*y2*x3 - d*x1*x2*y2*y2*y2*y2*x3*x3*y3 - d*y1*x2*x2*x2*x2*y2*x3*x3*y3 - d*y1*x2*x2*x2*y2*y2*x3*x3*x3 - d*y1*x2*x2*x2*y2*y2*x3 + d*y1*x2*x2*y2*y2*y2*y3*y3*y3 - d*y1*x2*x2*y2*y2*y2*y3 + d*y1*x2*y2*y2*y2*y2*x3*y3*y3) * eE d x1 y1
    + (d*d*x1*x1*y1*x2*x2*y2*x3*x3*y3*y3*y3 - d*d*x1*x1*y1*x2*y2*y2*x3*x3*x3*y3*y3 - d*d*x1*y1*y1*x2*x2*y2*x3*x3*x3*y3*y3 + d*d*x1*y1*y1*x2*y2*y2*x3*x3*y3*y3*y3 - d*x1*x1*x1*x2*x2*y2*x3*y3*y3 - d*x1*x1*x1*x2*y2*y2*x3*x3*y3 + d*x1*x1*x1*x2*x3*x3*y3*y3*y3 + d*x1*x1*x1*y2*x3*x3*x3*y3*y3 + d*x1*x1*y1*x2*x2*y2*x3*x3*y3 + d*x1*x1*y1*x2*y2*y2*x3*y3*y3 + d*x1*x1*y1*x2*x3*x3*x3*y3*y3 + d*x1*x1*y1*y2*x3*x3*y3*y3*y3 + d*x1*y1*y1*x2*x2*y2*x3*y3*y3 + d*x1*y1*y1*x2*y2*y2*x3*x3*y3 - d*x1*y1*y1*x2*x3*x3*y3*y3*y3 - d*x1*y1*y1*y2*x3*x3*x3*y3*y3 - d*x1*x2*x2*y2*x3*y3*y3 - d*x1*x2*y2*y2*x3*x3*y3 + d*x1*x2*x3*x3*y3*y3*y3 + d*x1*y2*x3*x3*x3*y3*y3 - d*y1*y1*y1*x2*x2*y2*x3*x3*y3 - d*y1*y1*y1*x2*y2*y2*x3*y3*y3 - d*y1*y1*y1*x2*x3*x3*x3*y3*y3 - d*y1*y1*y1*y2*x3*x3*y3*y3*y3 + d*y1*x2*x2*y2*x3*x3*y3 + d*y1*x2*y2*y2*x3*y3*y3 + d*y1*x2*x3*x3*x3*y3*y3 + d*y1*y2*x3*x3*y3*y3*y3 + x1*x1*x1*x2*x3*x3*y3 - x1*x1*x1*x2*y3*y3*y3 + x1*x1*x1*x2*y3 + x1*x1*x1*y2*x3*x3*x3 - x1*x1*x1*y2*x3*y3*y3 + x1*x1*x1*y2*x3 + x1*x1*y1*x2*x3*x3*x3 - x1*x1*y1*x2*x3*y3*y3 + x1*x1*y1*x2*x3 + x1*x1*y1*y2*x3*x3*y3 - x1*x1*y1*y2*y3*y3*y3 + x1*x1*y1*y2*y3 - x1*y1*y1*x2*x3*x3*y3 + x1*y1*y1*x2*y3*y3*y3 - x1*y1*y1*x2*y3 - x1*y1*y1*y2*x3*x3*x3 + x1*y1*y1*y2*x3*y3*y3 - x1*y1*y1*y2*x3 + x1*x2*x3*x3*y3 - x1*x2*y3*y3*y3 + x1*x2*y3 + x1*y2*x3*x3*x3 - x1*y2*x3*y3*y3 + x1*y2*x3 - y1*y1*y1*x2*x3*x3*x3 + y1*y1*y1*x2*x3*y3*y3 - y1*y1*y1*x2*x3 - y1*y1*y1*y2*x3*x3*y3 + y1*y1*y1*y2*y3*y3*y3 - y1*y1*y1*y2*y3 + y1*x2*x3*x3*x3 - y1*x2*x3*y3*y3 + y1*x2*x3 + y1*y2*x3*x3*y3 - y1*y2*y3*y3*y3 + y1*y2*y3) * eE d x2 y2
    + (0 - d*x1*x1*y1*x2*x2*y2*y3 + d*x1*x1*y1*x2*y2*y2*x3 + d*x1*y1*y1*x2*x2*y2*x3 - d*x1*y1*y1*x2*y2*y2*y3 - x1*x1*x1*x2*x2*x2*y3 - x1*x1*x1*x2*x2*y2*x3 + x1*x1*x1*x2*y2*y2*y3 - x1*x1*x1*x2*y3 + x1*x1*x1*y2*y2*y2*x3 - x1*x1*x1*y2*x3 - x1*x1*y1*x2*x2*x2*x3 - x1*x1*y1*x2*x2*y2*y3 + x1*x1*y1*x2*y2*y2*x3 - x1*x1*y1*x2*x3 + x1*x1*y1*y2*y2*y2*y3 - x1*x1*y1*y2*y3 + x1*y1*y1*x2*x2*x2*y3 + x1*y1*y1*x2*x2*y2*x3 - x1*y1*y1*x2*y2*y2*y3 + x1*y1*y1*x2*y3 - x1*y1*y1*y2*y2*y2*x3 + x1*y1*y1*y2*x3 - x1*x2*x2*x2*y3 - x1*x2*x2*y2*x3 + x1*x2*y2*y2*y3 - x1*x2*y3 + x1*y2*y2*y2*x3 - x1*y2*x3 + y1*y1*y1*x2*x2*x2*x3 + y1*y1*y1*x2*x2*y2*y3 - y1*y1*y1*x2*y2*y2*x3 + y1*y1*y1*x2*x3 - y1*y1*y1*y2*y2*y2*y3 + y1*y1*y1*y2*y3 - y1*x2*x2*x2*x3 - y1*x2*x2*y2*y3 + y1*x2*y2*y2*x3 - y1*x2*x3 + y1*y2*y2*y2*y3 - y1*y2*y3) * eE d x3 y3 := by
  unfold nX nY dl eE
  grind
theorem idC (d x1 y1 x2 y2 : Int) : nY x1 y1 x2 y2 * nY x1 y1 x2 y2 * (1 + dl d x1 y1 x2 y2) * (1 + dl d x1 y1 x2 y2) - nX x1 y1 x2 y2 * nX x1 y1 x2 y2 * (1 - dl d x1 y1 x2 y2) * (1 - dl d x1 y1 x2 y2)
      - (1 - dl d x1 y1 x2 y2 * dl d x1 y1 x2 y2) * (1 - dl d x1 y1 x2 y2 * dl d x1 y1 x2 y2) - d * nX x1 y1 x2 y2 * nX x1 y1 x2 y2 * nY x1 y1 x2 y2 * nY x1 y1 x2 y2
    = (d*d*d*x1*x1*y1*y1*x2*x2*x2*x2*y2*y2*y2*y2 - d*d*x1*x1*x2*x2*x2*x2*y2*y2*y2*y2 + d*d*y1*y1*x2*x2*x2*x2*y2*y2*y2*y2 - d*d*x2*x2*x2*x2*y2*y2*y2*y2 - d*x1*x1*x2*x2*x2*x2*y2*y2 + d*x1*x1*x2*x2*y2*y2*y2*y2 + d*y1*y1*x2*x2*x2*x2*y2*y2 - d*y1*y1*x2*x2*y2*y2*y2*y2 - 2*d*x2*x2*x2*x2*y2*y2*y2*y2 - 2*d*x2*x2*y2*y2 - 2*x2*x2*x2*x2*y2*y2 + x2*x2*x2*x2 + 2*x2*x2*y2*y2*y2*y2 - 4*x2*x2*y2*y2 + y2*y2*y2*y2) * eE d x1 y1
    + (d*x1*x1*x1*x1*x2*x2*y2*y2 + 2*d*x1*x1*x2*x2*y2*y2 + d*y1*y1*y1*y1*x2*x2*y2*y2 - 2*d*y1*y1*x2*x2*y2*y2 + d*x2*x2*y2*y2 + 2*x1*x1*x2*x2*y2*y2 - x1*x1*x2*x2 + x1*x1*y2*y2 - 2*y1*y1*x2*x2*y2*y2 + y1*y1*x2*x2 - y1*y1*y2*y2 + 2*x2*x2*y2*y2 - x2*x2 + y2*y2 + 1) * eE d x2 y2 := by
  unfold nX nY dl eE
  grind
end Go.Eng.B

/- The group of points of the curve modulo p. -/
namespace Go.Eng.G
open Go Go.Eng Go.Proofs Go.Eng.B
set_option maxRecDepth 100000
set_option linter.unusedSimpArgs false
set_option maxHeartbeats 1000000
/-- divisible by p -/
def D (a : Int) : Prop := (P255 : Int) ∣ a
/-- equal modulo p -/
def Q (a b : Int) : Prop := D (a - b)
theorem D.add {a b : Int} (h : D a) (h2 : D b) : D (a + b) := Int.dvd_add h h2
theorem D.sub {a b : Int} (h : D a) (h2 : D b) : D (a - b) := Int.dvd_sub h h2
theorem D.mul {a : Int} (h : D a) (c : Int) : D (c * a) := Int.dvd_mul_of_dvd_right h
theorem D.neg {a : Int} (h : D a) : D (-a) := (Int.dvd_neg).2 h
theorem D.of {a b : Int} (h : D a) (e : b = a) : D b := e ▸ h
theorem D_zero : D 0 := Int.dvd_zero _
theorem D_nat {a : Nat} : D (a : Int) ↔ P255 ∣ a := Int.natCast_dvd_natCast
theorem D_prime {a b : Int} (h : D (a * b)) : D a ∨ D b := by
  have h1 : P255 ∣ (a * b).natAbs := Int.ofNat_dvd_left.1 h
  rw [Int.natAbs_mul] at h1
  rcases prP.mul h1 with h1 | h1
  · exact .inl (Int.ofNat_dvd_left.2 h1)
  · exact .inr (Int.ofNat_dvd_left.2 h1)
theorem D_cancel {a b : Int} (h : D (a * b)) (ha : ¬ D a) : D b := (D_prime h).resolve_left ha
theorem nD_mul {a b : Int} (ha : ¬ D a) (hb : ¬ D b) : ¬ D (a * b) := fun h => (D_prime h).elim ha hb
theorem Q.rfl' (a : Int) : Q a a := by unfold Q; rw [Int.sub_self]; exact D_zero
theorem Q.of {a b : Int} (h : a = b) : Q a b := h ▸ Q.rfl' a
theorem Q.symm {a b : Int} (h : Q a b) : Q b a := D.of (D.neg h) (by omega)
theorem Q.trans {a b c : Int} (h : Q a b) (h2 : Q b c) : Q a c := D.of (D.add h h2) (by omega)
theorem Q.add {a b c d : Int} (h : Q a b) (h2 : Q c d) : Q (a + c) (b + d) := D.of (D.add h h2) (by omega)
theorem Q.sub {a b c d : Int} (h : Q a b) (h2 : Q c d) : Q (a - c) (b - d) := D.of (D.sub h h2) (by omega)
theorem Q.mul {a b c d : Int} (h : Q a b) (h2 : Q c d) : Q (a * c) (b * d) :=
  D.of (D.add (D.mul h c) (D.mul h2 b)) (by grind)
theorem Q.toD {a b : Int} (h : Q a b) (hb : D b) : D a := D.of (D.add h hb) (by omega)
theorem Q.nD {a b : Int} (h : Q a b) (hb : ¬ D b) : ¬ D a := fun ha => hb (h.symm.toD ha)
theorem Q_zero {a : Int} : Q a 0 ↔ D a := by unfold Q; rw [Int.sub_zero]
theorem Q.cancel {a b c : Int} (hc : ¬ D c) (h : Q (c * a) (c * b)) : Q a b := D_cancel (D.of h (by grind)) hc
theorem nD1 : ¬ D 1 := by unfold D; decide
theorem nD2 : ¬ D 2 := by unfold D; decide
/-- the number below p -/
def red (a : Int) : Nat := (a % (P255 : Int)).toNat
theorem red_cast (a : Int) : (red a : Int) = a % (P255 : Int) := Int.toNat_of_nonneg (Int.emod_nonneg a (by decide))
theorem red_Q (a : Int) : Q (red a) a := by
  rw [red_cast]
  exact D.of (D.neg (Int.dvd_mul_right (P255 : Int) (a / (P255 : Int)))) (by have := Int.mul_ediv_add_emod a (P255 : Int); omega)
theorem red_lt (a : Int) : red a < P255 := by
  have := Int.emod_lt_of_pos a (show (0 : Int) < (P255 : Int) by decide)
  have h := red_cast a
  omega
theorem red_congr {a b : Int} (h : Q a b) : red a = red b := by
  unfold red
  rw [Int.emod_eq_emod_iff_emod_sub_eq_zero.2 (Int.emod_eq_zero_of_dvd h)]
theorem red_nat {a : Nat} (h : a < P255) : red (a : Int) = a := by
  have := red_cast (a : Int)
  rw [Int.emod_eq_of_lt (by omega) (by omega)] at this
  omega
theorem Q_nat {a b : Nat} : Q (a : Int) (b : Int) ↔ a % P255 = b % P255 := by
  constructor
  · intro h
    have h1 := red_congr h
    have e : ∀ c : Nat, red (c : Int) = c % P255 := fun c => by
      have := red_cast (c : Int)
      omega
    rw [e, e] at h1
    exact h1
  · intro h
    have : D (((a : Int) - b)) := by
      unfold D
      apply Int.dvd_of_emod_eq_zero
      rw [← Int.emod_eq_emod_iff_emod_sub_eq_zero]
      omega
    exact this
theorem Q_uniq {a b : Nat} (ha : a < P255) (hb : b < P255) (h : Q (a : Int) (b : Int)) : a = b := by
  have := Q_nat.1 h
  rwa [Nat.mod_eq_of_lt ha, Nat.mod_eq_of_lt hb] at this
/-- inverses -/
def iv (a : Int) : Nat := powF (red a) PI % P255
theorem iv_spec {a : Int} (h : ¬ D a) : Q (a * (iv a : Int)) 1 := by
  have h0 : red a % P255 ≠ 0 := fun h0 => h ((red_Q a).symm.toD (D_nat.2 (Nat.dvd_of_mod_eq_zero h0)))
  have h1 : Q (((red a * iv a : Nat)) : Int) ((1 : Nat) : Int) := Q_nat.2 (by unfold iv; rw [inv_mul h0]; rfl)
  refine Q.trans (Q.mul (red_Q a).symm (Q.rfl' _)) ?_
  rw [Int.natCast_mul] at h1
  exact h1
/-- the curve's number -/
def dN : Nat := 37095705934669439343138083508754565189542113879843219016388785533085940283555
def iN : Nat := 19681161376707505956807079304988542015446066515923890162744021073123829784752
theorem dN_lt : dN < P255 := by decide
theorem iN_sq : Q ((iN : Int) * iN) (-1) := by unfold Q D; decide +kernel
theorem dN_half : dN ^ E12 % P255 = P255 - 1 := pm_pow 256 (by decide) (by decide +kernel)
theorem dN_ns {s : Nat} (h : s * s % P255 = dN % P255) : False := by
  have := sq_unit prP e_12 (a := dN) (by decide) h
  rw [dN_half] at this
  exact absurd this (by decide)
theorem d_ns {a b : Int} (h : Q (a * a) ((dN : Int) * (b * b))) : D b := by
  refine Classical.byContradiction fun hb => ?_
  have hi := iv_spec hb
  have h1 : Q ((a * iv b) * (a * iv b)) (dN : Int) := by
    have h2 : Q ((a * a) * (iv b * iv b)) (((dN : Int) * (b * b)) * (iv b * iv b)) := Q.mul h (Q.rfl' _)
    have h3 : Q ((dN : Int) * ((b * iv b) * (b * iv b))) ((dN : Int) * (1 * 1)) := Q.mul (Q.rfl' _) (Q.mul hi hi)
    refine Q.trans (Q.of (by grind)) (Q.trans h2 (Q.trans (Q.of (by grind)) (Q.trans h3 (Q.of (by grind)))))
  have h4 : Q ((((red (a * iv b)) * (red (a * iv b)) : Nat)) : Int) (dN : Int) := by
    rw [Int.natCast_mul]
    exact Q.trans (Q.mul (red_Q _) (red_Q _)) h1
  exact dN_ns (Q_nat.1 h4)
abbrev Pt := Nat × Nat
def onC (p : Pt) : Prop := p.1 < P255 ∧ p.2 < P255 ∧ D (eE dN p.1 p.2)
theorem idS (i d x1 y1 x2 y2 : Int) : (i * x1 + dl d x1 y1 x2 y2 * y1) * (i * x1 + dl d x1 y1 x2 y2 * y1) - d * ((x1 * y1 * (i * x2 + y2)) * (x1 * y1 * (i * x2 + y2)))
    = eE d x1 y1 + (y1 * y1 - 1) * (dl d x1 y1 x2 y2 * dl d x1 y1 x2 y2 - 1) + (0 - d * (x1 * x1) * (y1 * y1)) * eE d x2 y2 + (x1 * x1 - d * (x1 * x1) * (y1 * y1) * (x2 * x2)) * (i * i + 1) := by
  unfold dl eE; grind
theorem idS2 (i d x1 y1 x2 y2 : Int) : (i * x1 - dl d x1 y1 x2 y2 * y1) * (i * x1 - dl d x1 y1 x2 y2 * y1) - d * ((x1 * y1 * (i * x2 - y2)) * (x1 * y1 * (i * x2 - y2)))
    = eE d x1 y1 + (y1 * y1 - 1) * (dl d x1 y1 x2 y2 * dl d x1 y1 x2 y2 - 1) + (0 - d * (x1 * x1) * (y1 * y1)) * eE d x2 y2 + (x1 * x1 - d * (x1 * x1) * (y1 * y1) * (x2 * x2)) * (i * i + 1) := by
  unfold dl eE; grind
/-- the formulas of sums are complete -/
theorem complete {x1 y1 x2 y2 : Int} (h1 : D (eE dN x1 y1)) (h2 : D (eE dN x2 y2)) : ¬ D (dl dN x1 y1 x2 y2 * dl dN x1 y1 x2 y2 - 1) := by
  intro h
  have hi : D ((iN : Int) * iN + 1) := iN_sq
  have k1 : D (x1 * y1 * (iN * x2 + y2)) := d_ns (a := iN * x1 + dl dN x1 y1 x2 y2 * y1)
    (D.of (D.add (D.add (D.add h1 (D.mul h _)) (D.mul h2 _)) (D.mul hi _)) (idS iN dN x1 y1 x2 y2))
  have k2 : D (x1 * y1 * (iN * x2 - y2)) := d_ns (a := iN * x1 - dl dN x1 y1 x2 y2 * y1)
    (D.of (D.add (D.add (D.add h1 (D.mul h _)) (D.mul h2 _)) (D.mul hi _)) (idS2 iN dN x1 y1 x2 y2))
  have hd : ¬ D (dl dN x1 y1 x2 y2) := fun hd => nD1 (D.of (D.sub (D.mul hd (dl dN x1 y1 x2 y2)) h) (by omega))
  have hxy : ¬ D (x1 * y1) := fun hx => hd (D.of (D.mul hx (dN * x2 * y2)) (by unfold dl; grind))
  have m1 := D_cancel k1 hxy
  have m2 := D_cancel k2 hxy
  have m3 : D y2 := D_cancel (D.of (D.sub m1 m2) (by grind)) nD2
  exact hd (D.of (D.mul m3 (dN * x1 * x2 * y1)) (by unfold dl; grind))
theorem complete1 {x1 y1 x2 y2 : Int} (h1 : D (eE dN x1 y1)) (h2 : D (eE dN x2 y2)) : ¬ D (1 + dl dN x1 y1 x2 y2) :=
  fun h => complete h1 h2 (D.of (D.mul h (dl dN x1 y1 x2 y2 - 1)) (by grind))
theorem complete2 {x1 y1 x2 y2 : Int} (h1 : D (eE dN x1 y1)) (h2 : D (eE dN x2 y2)) : ¬ D (1 - dl dN x1 y1 x2 y2) :=
  fun h => complete h1 h2 (D.of (D.mul h (0 - dl dN x1 y1 x2 y2 - 1)) (by grind))
theorem fst_lt (a b : Int) : ((red a, red b) : Pt).1 < P255 := red_lt a
theorem snd_lt (a b : Int) : ((red a, red b) : Pt).2 < P255 := red_lt b
def padd (p q : Pt) : Pt :=
  (red (nX p.1 p.2 q.1 q.2 * iv (1 + dl dN p.1 p.2 q.1 q.2)), red (nY p.1 p.2 q.1 q.2 * iv (1 - dl dN p.1 p.2 q.1 q.2)))
theorem frac {a n : Int} (h : ¬ D a) : Q (a * (red (n * iv a) : Int)) n := by
  have h1 := iv_spec h
  refine Q.trans (Q.mul (Q.rfl' a) (red_Q _)) ?_
  exact Q.trans (Q.of (by grind)) (Q.trans (Q.mul (Q.rfl' n) h1) (Q.of (by grind)))
section
variable {p q r : Pt} (hp : onC p) (hq : onC q)
include hp hq
theorem padd_x : Q ((1 + dl dN p.1 p.2 q.1 q.2) * ((padd p q).1 : Int)) (nX p.1 p.2 q.1 q.2) := by
  show Q ((1 + dl dN p.1 p.2 q.1 q.2) * (red (nX p.1 p.2 q.1 q.2 * iv (1 + dl dN p.1 p.2 q.1 q.2)) : Int)) (nX p.1 p.2 q.1 q.2)
  exact frac (complete1 hp.2.2 hq.2.2)
theorem padd_y : Q ((1 - dl dN p.1 p.2 q.1 q.2) * ((padd p q).2 : Int)) (nY p.1 p.2 q.1 q.2) := by
  show Q ((1 - dl dN p.1 p.2 q.1 q.2) * (red (nY p.1 p.2 q.1 q.2 * iv (1 - dl dN p.1 p.2 q.1 q.2)) : Int)) (nY p.1 p.2 q.1 q.2)
  exact frac (complete2 hp.2.2 hq.2.2)
theorem padd_on : onC (padd p q) := by
  refine ⟨fst_lt _ _, snd_lt _ _, ?_⟩
  have hx := padd_x hp hq
  have hy := padd_y hp hq
  have n1 := complete1 hp.2.2 hq.2.2
  have n2 := complete2 hp.2.2 hq.2.2
  have hI := idC dN p.1 p.2 q.1 q.2
  have hD := D.of (D.add (D.mul hp.2.2 _) (D.mul hq.2.2 _)) hI
  clear hI
  generalize ((padd p q).1 : Int) = X at *
  generalize ((padd p q).2 : Int) = Y at *
  generalize nX (p.1 : Int) p.2 q.1 q.2 = a at *
  generalize nY (p.1 : Int) p.2 q.1 q.2 = b at *
  generalize dl dN (p.1 : Int) p.2 q.1 q.2 = e at *
  have hQ : Q ((1 - e) * Y * ((1 - e) * Y) * (1 + e) * (1 + e) - (1 + e) * X * ((1 + e) * X) * (1 - e) * (1 - e) - (1 - e * e) * (1 - e * e) - dN * ((1 + e) * X) * ((1 + e) * X) * ((1 - e) * Y) * ((1 - e) * Y))
      (b * b * (1 + e) * (1 + e) - a * a * (1 - e) * (1 - e) - (1 - e * e) * (1 - e * e) - dN * a * a * b * b) :=
    Q.sub (Q.sub (Q.sub (Q.mul (Q.mul (Q.mul hy hy) (Q.rfl' _)) (Q.rfl' _)) (Q.mul (Q.mul (Q.mul hx hx) (Q.rfl' _)) (Q.rfl' _))) (Q.rfl' _)) (Q.mul (Q.mul (Q.mul (Q.mul (Q.rfl' _) hx) hx) hy) hy)
  have h3 := hQ.toD hD
  refine D_cancel (a := (1 + e) * (1 + e) * ((1 - e) * (1 - e))) (D.of h3 ?_) (nD_mul (nD_mul n1 n1) (nD_mul n2 n2))
  unfold eE; grind
omit hp hq in
theorem padd_comm : padd p q = padd q p := by
  unfold padd
  have e1 : nX (p.1 : Int) p.2 q.1 q.2 = nX q.1 q.2 p.1 p.2 := by unfold nX; grind
  have e2 : nY (p.1 : Int) p.2 q.1 q.2 = nY q.1 q.2 p.1 p.2 := by unfold nY; grind
  have e3 : dl dN (p.1 : Int) p.2 q.1 q.2 = dl dN q.1 q.2 p.1 p.2 := by unfold dl; grind
  rw [e1, e2, e3]
end
theorem tri {e x y a b x3 y3 d s : Int} (hx : Q ((1 + e) * x) a) (hy : Q ((1 - e) * y) b) {R : Int} (hR : Q ((1 + d * x * y * x3 * y3) * R) (x * y3 + y * x3)) (hs : s = (1 - e * e) + d * a * b * x3 * y3) :
    Q (s * R) (a * (1 - e) * y3 + b * (1 + e) * x3) := by
  subst hs
  have h1 : Q (((1 - e * e) + d * a * b * x3 * y3) * R) (((1 - e * e) + d * ((1 + e) * x) * ((1 - e) * y) * x3 * y3) * R) :=
    Q.mul (Q.add (Q.rfl' _) (Q.mul (Q.mul (Q.mul (Q.mul (Q.rfl' _) hx.symm) hy.symm) (Q.rfl' _)) (Q.rfl' _))) (Q.rfl' _)
  have h2 : Q (((1 - e) * (1 + e)) * ((1 + d * x * y * x3 * y3) * R)) (((1 - e) * (1 + e)) * (x * y3 + y * x3)) := Q.mul (Q.rfl' _) hR
  have h3 : Q ((1 + e) * x * (1 - e) * y3 + (1 - e) * y * (1 + e) * x3) (a * (1 - e) * y3 + b * (1 + e) * x3) :=
    Q.add (Q.mul (Q.mul hx (Q.rfl' _)) (Q.rfl' _)) (Q.mul (Q.mul hy (Q.rfl' _)) (Q.rfl' _))
  exact Q.trans h1 (Q.trans (Q.of (by grind)) (Q.trans h2 (Q.trans (Q.of (by grind)) h3)))
theorem triY {e x y a b x3 y3 d s : Int} (hx : Q ((1 + e) * x) a) (hy : Q ((1 - e) * y) b) {R : Int} (hR : Q ((1 - d * x * y * x3 * y3) * R) (y * y3 + x * x3)) (hs : s = (1 - e * e) - d * a * b * x3 * y3) :
    Q (s * R) (b * (1 + e) * y3 + a * (1 - e) * x3) := by
  subst hs
  have h1 : Q (((1 - e * e) - d * a * b * x3 * y3) * R) (((1 - e * e) - d * ((1 + e) * x) * ((1 - e) * y) * x3 * y3) * R) :=
    Q.mul (Q.sub (Q.rfl' _) (Q.mul (Q.mul (Q.mul (Q.mul (Q.rfl' _) hx.symm) hy.symm) (Q.rfl' _)) (Q.rfl' _))) (Q.rfl' _)
  have h2 : Q (((1 - e) * (1 + e)) * ((1 - d * x * y * x3 * y3) * R)) (((1 - e) * (1 + e)) * (y * y3 + x * x3)) := Q.mul (Q.rfl' _) hR
  have h3 : Q ((1 - e) * y * (1 + e) * y3 + (1 + e) * x * (1 - e) * x3) (b * (1 + e) * y3 + a * (1 - e) * x3) :=
    Q.add (Q.mul (Q.mul hy (Q.rfl' _)) (Q.rfl' _)) (Q.mul (Q.mul hx (Q.rfl' _)) (Q.rfl' _))
  exact Q.trans h1 (Q.trans (Q.of (by grind)) (Q.trans h2 (Q.trans (Q.of (by grind)) h3)))
theorem denX {e x y a b x3 y3 d : Int} (hx : Q ((1 + e) * x) a) (hy : Q ((1 - e) * y) b) (n1 : ¬ D (1 + e)) (n2 : ¬ D (1 - e)) (n3 : ¬ D (1 + d * x * y * x3 * y3)) : ¬ D ((1 - e * e) + d * a * b * x3 * y3) := by
  refine Q.nD (b := ((1 + e) * (1 - e)) * (1 + d * x * y * x3 * y3)) ?_ (nD_mul (nD_mul n1 n2) n3)
  refine Q.trans (Q.add (Q.rfl' _) (Q.mul (Q.mul (Q.mul (Q.mul (Q.rfl' _) hx.symm) hy.symm) (Q.rfl' _)) (Q.rfl' _))) (Q.of (by grind))
theorem denY {e x y a b x3 y3 d : Int} (hx : Q ((1 + e) * x) a) (hy : Q ((1 - e) * y) b) (n1 : ¬ D (1 + e)) (n2 : ¬ D (1 - e)) (n3 : ¬ D (1 - d * x * y * x3 * y3)) : ¬ D ((1 - e * e) - d * a * b * x3 * y3) := by
  refine Q.nD (b := ((1 + e) * (1 - e)) * (1 - d * x * y * x3 * y3)) ?_ (nD_mul (nD_mul n1 n2) n3)
  refine Q.trans (Q.sub (Q.rfl' _) (Q.mul (Q.mul (Q.mul (Q.mul (Q.rfl' _) hx.symm) hy.symm) (Q.rfl' _)) (Q.rfl' _))) (Q.of (by grind))
theorem cross {a b c d R S : Int} (h1 : Q (b * R) a) (h2 : Q (d * S) c) (h : D (a * d - c * b)) (hb : ¬ D b) (hd : ¬ D d) : Q R S := by
  refine Q.cancel (nD_mul hb hd) ?_
  refine Q.trans (Q.of (show b * d * R = (b * R) * d by grind)) (Q.trans (Q.mul h1 (Q.rfl' _)) (Q.trans (b := c * b) h (Q.trans (Q.mul h2.symm (Q.rfl' _)) (Q.of (by grind)))))
theorem padd_assoc {p q r : Pt} (hp : onC p) (hq : onC q) (hr : onC r) : padd (padd p q) r = padd p (padd q r) := by
  have o1 := padd_on hp hq
  have o2 := padd_on hq hr
  have x12 := padd_x hp hq
  have y12 := padd_y hp hq
  have x23 := padd_x hq hr
  have y23 := padd_y hq hr
  have a1 := complete1 hp.2.2 hq.2.2
  have a2 := complete2 hp.2.2 hq.2.2
  have b1 := complete1 hq.2.2 hr.2.2
  have b2 := complete2 hq.2.2 hr.2.2
  have c1 := complete1 o1.2.2 hr.2.2
  have c2 := complete2 o1.2.2 hr.2.2
  have d1 := complete1 hp.2.2 o2.2.2
  have d2 := complete2 hp.2.2 o2.2.2
  have X := padd_x o1 hr
  have Y := padd_y o1 hr
  have X' := padd_x hp o2
  have Y' := padd_y hp o2
  have oL := padd_on o1 hr
  have oR := padd_on hp o2
  have iX := D.of (D.add (D.add (D.mul hp.2.2 _) (D.mul hq.2.2 _)) (D.mul hr.2.2 _)) (idX dN p.1 p.2 q.1 q.2 r.1 r.2)
  have iY := D.of (D.add (D.add (D.mul hp.2.2 _) (D.mul hq.2.2 _)) (D.mul hr.2.2 _)) (idY dN p.1 p.2 q.1 q.2 r.1 r.2)
  refine Prod.ext (Q_uniq oL.1 oR.1 ?_) (Q_uniq oL.2.1 oR.2.1 ?_)
  · refine cross (tri x12 y12 (s := _) (x3 := (r.1 : Int)) (y3 := (r.2 : Int)) (d := dN) (Q.trans (Q.of ?_) (Q.trans X (Q.of ?_))) rfl) (tri x23 y23 (s := _) (x3 := (p.1 : Int)) (y3 := (p.2 : Int)) (d := dN) (Q.trans (Q.of ?_) (Q.trans X' (Q.of ?_))) rfl) ?_ ?_ ?_
    · unfold dl; grind
    · unfold nX; grind
    · unfold dl; grind
    · unfold nX; grind
    · exact iX
    · exact denX x12 y12 a1 a2 (fun h => c1 (D.of h (by unfold dl; grind)))
    · exact denX x23 y23 b1 b2 (fun h => d1 (D.of h (by unfold dl; grind)))
  · refine cross (triY x12 y12 (s := _) (x3 := (r.1 : Int)) (y3 := (r.2 : Int)) (d := dN) (Q.trans (Q.of ?_) (Q.trans Y (Q.of ?_))) rfl) (triY x23 y23 (s := _) (x3 := (p.1 : Int)) (y3 := (p.2 : Int)) (d := dN) (Q.trans (Q.of ?_) (Q.trans Y' (Q.of ?_))) rfl) ?_ ?_ ?_
    · unfold dl; grind
    · unfold nY; grind
    · unfold dl; grind
    · unfold nY; grind
    · exact iY
    · exact denY x12 y12 a1 a2 (fun h => c2 (D.of h (by unfold dl; grind)))
    · exact denY x23 y23 b1 b2 (fun h => d2 (D.of h (by unfold dl; grind)))
/-- the neutral point -/
def pO : Pt := (0, 1)
theorem pO_on : onC pO := ⟨by decide, by decide, by unfold eE pO D; decide⟩
theorem padd_O {p : Pt} (hp : onC p) : padd p pO = p := by
  have o := padd_on hp pO_on
  have hx := padd_x hp pO_on
  have hy := padd_y hp pO_on
  have e : dl dN p.1 p.2 pO.1 pO.2 = 0 := by unfold dl pO; simp
  rw [e] at hx hy
  refine Prod.ext (Q_uniq o.1 hp.1 (Q.trans (Q.of (by grind)) (Q.trans hx (Q.of ?_)))) (Q_uniq o.2.1 hp.2.1 (Q.trans (Q.of (by grind)) (Q.trans hy (Q.of ?_))))
  · unfold nX pO; simp
  · unfold nY pO; simp
theorem O_padd {p : Pt} (hp : onC p) : padd pO p = p := by rw [padd_comm, padd_O hp]
/-- multiples -/
def nsm : Nat → Pt → Pt
  | 0, _ => pO
  | n + 1, p => padd (nsm n p) p
theorem nsm_on {p : Pt} (hp : onC p) : ∀ n, onC (nsm n p)
  | 0 => pO_on
  | n + 1 => padd_on (nsm_on hp n) hp
theorem nsm_one {p : Pt} (hp : onC p) : nsm 1 p = p := O_padd hp
theorem nsm_add {p : Pt} (hp : onC p) (m : Nat) : ∀ n, nsm (m + n) p = padd (nsm m p) (nsm n p)
  | 0 => (padd_O (nsm_on hp m)).symm
  | n + 1 => by
    show padd (nsm (m + n) p) p = padd (nsm m p) (padd (nsm n p) p)
    rw [nsm_add hp m n, padd_assoc (nsm_on hp m) (nsm_on hp n) hp]
theorem nsm_mul {p : Pt} (hp : onC p) (m : Nat) : ∀ n, nsm (m * n) p = nsm n (nsm m p)
  | 0 => rfl
  | n + 1 => by
    rw [Nat.mul_succ, nsm_add hp, nsm_mul hp m n]
    rfl
theorem nsm_O : ∀ n, nsm n pO = pO
  | 0 => rfl
  | n + 1 => by show padd (nsm n pO) pO = pO; rw [nsm_O n, padd_O pO_on]
/-- a point in the coordinates of the code -/
def rep (X Y Z T : Int) (p : Pt) : Prop := ¬ D Z ∧ Q X (p.1 * Z) ∧ Q Y (p.2 * Z) ∧ Q T (p.1 * p.2 * Z)
theorem rep_add {X1 Y1 Z1 T1 X2 Y2 Z2 T2 a b c z e f h i : Int} {p q : Pt} (hp : onC p) (hq : onC q) (h1 : rep X1 Y1 Z1 T1 p) (h2 : rep X2 Y2 Z2 T2 q)
    (ha : Q a ((Y1 - X1) * (Y2 - X2))) (hb : Q b ((Y1 + X1) * (Y2 + X2))) (hc : Q c (T1 * (dN + dN) * T2)) (hz : Q z (Z1 * Z2 + Z1 * Z2))
    (he : Q e (b - a)) (hf : Q f (z - c)) (hh : Q h (z + c)) (hi : Q i (b + a)) : rep (e * f) (h * i) (f * h) (e * i) (padd p q) := by
  obtain ⟨z1, hX1, hY1, hT1⟩ := h1
  obtain ⟨z2, hX2, hY2, hT2⟩ := h2
  have n1 := complete1 hp.2.2 hq.2.2
  have n2 := complete2 hp.2.2 hq.2.2
  have x := padd_x hp hq
  have y := padd_y hp hq
  have e1 : Q e (2 * (Z1 * Z2) * nX p.1 p.2 q.1 q.2) := by
    refine Q.trans he (Q.trans (Q.sub hb ha) ?_)
    refine Q.trans (Q.sub (Q.mul (Q.add hY1 hX1) (Q.add hY2 hX2)) (Q.mul (Q.sub hY1 hX1) (Q.sub hY2 hX2))) (Q.of ?_)
    unfold nX; grind
  have i1 : Q i (2 * (Z1 * Z2) * nY p.1 p.2 q.1 q.2) := by
    refine Q.trans hi (Q.trans (Q.add hb ha) ?_)
    refine Q.trans (Q.add (Q.mul (Q.add hY1 hX1) (Q.add hY2 hX2)) (Q.mul (Q.sub hY1 hX1) (Q.sub hY2 hX2))) (Q.of ?_)
    unfold nY; grind
  have c1 : Q c (2 * (Z1 * Z2) * dl dN p.1 p.2 q.1 q.2) := by
    refine Q.trans hc (Q.trans (Q.mul (Q.mul hT1 (Q.rfl' _)) hT2) (Q.of ?_))
    unfold dl; grind
  have f1 : Q f (2 * (Z1 * Z2) * (1 - dl dN p.1 p.2 q.1 q.2)) := Q.trans hf (Q.trans (Q.sub hz c1) (Q.of (by grind)))
  have k1 : Q h (2 * (Z1 * Z2) * (1 + dl dN p.1 p.2 q.1 q.2)) := Q.trans hh (Q.trans (Q.add hz c1) (Q.of (by grind)))
  have nz : ¬ D (2 * (Z1 * Z2)) := nD_mul nD2 (nD_mul z1 z2)
  have nf : ¬ D f := f1.nD (nD_mul nz n2)
  have nh : ¬ D h := k1.nD (nD_mul nz n1)
  have e2 : Q e (h * (padd p q).1) := by
    refine Q.trans e1 (Q.trans (Q.mul (Q.rfl' _) x.symm) ?_)
    exact Q.trans (Q.of (by grind)) (Q.mul k1.symm (Q.rfl' _))
  have i2 : Q i (f * (padd p q).2) := by
    refine Q.trans i1 (Q.trans (Q.mul (Q.rfl' _) y.symm) ?_)
    exact Q.trans (Q.of (by grind)) (Q.mul f1.symm (Q.rfl' _))
  refine ⟨nD_mul nf nh, ?_, ?_, ?_⟩
  · exact Q.trans (Q.mul e2 (Q.rfl' _)) (Q.of (by grind))
  · exact Q.trans (Q.mul (Q.rfl' _) i2) (Q.of (by grind))
  · exact Q.trans (Q.mul e2 i2) (Q.of (by grind))
end Go.Eng.G

/- Montgomery: the ladder on numbers. -/
namespace Go.Eng.G
open Go Go.Eng Go.Proofs
set_option maxRecDepth 100000
set_option linter.unusedSimpArgs false

def clampL (l : List Nat) : List Nat := (l.set 0 (l.getD 0 0 &&& 248)).set 31 (((l.set 0 (l.getD 0 0 &&& 248)).getD 31 0 &&& 127) ||| 64)
def maskL (l : List Nat) : List Nat := l.set 31 (l.getD 31 0 &&& 127)
def e33 := t1b (fun l => .arr .u8 32 (clampL l))
def e34 := t1b (fun l => .arr .u8 32 (clampL l))

/-- a step, as package limb computes it -/
def sfA (x z : Nat) : Nat := addF x z
def sfX2 (x2 z2 : Nat) : Nat := mulF (mulF (addF x2 z2) (addF x2 z2)) (mulF (subF x2 z2) (subF x2 z2))
def sfE (x2 z2 : Nat) : Nat := subF (mulF (addF x2 z2) (addF x2 z2)) (mulF (subF x2 z2) (subF x2 z2))
def sfZ2 (x2 z2 : Nat) : Nat := mulF (sfE x2 z2) (addF (mulF (addF x2 z2) (addF x2 z2)) (mulF (sfE x2 z2) 121665))
def sfDA (x2 z2 x3 z3 : Nat) : Nat := mulF (subF x3 z3) (addF x2 z2)
def sfCB (x2 z2 x3 z3 : Nat) : Nat := mulF (addF x3 z3) (subF x2 z2)
def sfX3 (x2 z2 x3 z3 : Nat) : Nat := mulF (addF (sfDA x2 z2 x3 z3) (sfCB x2 z2 x3 z3)) (addF (sfDA x2 z2 x3 z3) (sfCB x2 z2 x3 z3))
def sfZ3 (x2 z2 x3 z3 u : Nat) : Nat := mulF u (mulF (subF (sfDA x2 z2 x3 z3) (sfCB x2 z2 x3 z3)) (subF (sfDA x2 z2 x3 z3) (sfCB x2 z2 x3 z3)))
def e71 (args : List SV) : Option (SV × List Prop) :=
  match args with
  | [.ag [.arr .u64 4 a, .arr .u64 4 b], .ag [.arr .u64 4 c, .arr .u64 4 d], .arr .u64 4 u] =>
    some (.tup [.ag [fe (sfX2 (vF a) (vF b)), fe (sfZ2 (vF a) (vF b))], .ag [fe (sfX3 (vF a) (vF b) (vF c) (vF d)), fe (sfZ3 (vF a) (vF b) (vF c) (vF d) (vF u))]], [])
  | _ => none

/-- a step on numbers below p -/
def pl (a b : Nat) : Nat := (a + b) % P255
def mi (a b : Nat) : Nat := (a + P255 - b) % P255
def ml (a b : Nat) : Nat := a * b % P255
def stE (x2 z2 : Nat) : Nat := mi (ml (pl x2 z2) (pl x2 z2)) (ml (mi x2 z2) (mi x2 z2))
def stX2 (x2 z2 : Nat) : Nat := ml (ml (pl x2 z2) (pl x2 z2)) (ml (mi x2 z2) (mi x2 z2))
def stZ2 (x2 z2 : Nat) : Nat := ml (stE x2 z2) (pl (ml (pl x2 z2) (pl x2 z2)) (ml 121665 (stE x2 z2)))
def stDA (x2 z2 x3 z3 : Nat) : Nat := ml (mi x3 z3) (pl x2 z2)
def stCB (x2 z2 x3 z3 : Nat) : Nat := ml (pl x3 z3) (mi x2 z2)
def stX3 (x2 z2 x3 z3 : Nat) : Nat := ml (pl (stDA x2 z2 x3 z3) (stCB x2 z2 x3 z3)) (pl (stDA x2 z2 x3 z3) (stCB x2 z2 x3 z3))
def stZ3 (x2 z2 x3 z3 u : Nat) : Nat := ml u (ml (mi (stDA x2 z2 x3 z3) (stCB x2 z2 x3 z3)) (mi (stDA x2 z2 x3 z3) (stCB x2 z2 x3 z3)))

theorem pl_lt (a b : Nat) : pl a b < P255 := Nat.mod_lt _ (by decide)
theorem mi_lt (a b : Nat) : mi a b < P255 := Nat.mod_lt _ (by decide)
theorem ml_lt (a b : Nat) : ml a b < P255 := Nat.mod_lt _ (by decide)

theorem cg_add {A B a b : Nat} (hA : A < M256) (hB : B < M256) (ha : A % P255 = a) (hb : B % P255 = b) : addF A B % P255 = pl a b := by
  rw [addF_mod hA hB, pl, ← ha, ← hb, ← Nat.add_mod]
theorem sub_gen0 {A B p : Nat} (hB : B ≤ 3 * p) : ∀ qa ra qb rb, p * qa + ra = A → p * qb + rb = B → rb < p → qb ≤ 3 → (A + 3 * p - B) % p = (ra + p - rb) % p := by
  intro qa ra qb rb h1 h2 h3 hd
  rcases Nat.lt_or_ge (qa + 2) qb with h | h
  · have e3 : qb = 3 := by omega
    have e0 : qa = 0 := by omega
    subst e3 e0
    have hb0 : rb = 0 := by omega
    subst hb0
    have hA : A = ra := by omega
    have hb3 : B = 3 * p := by omega
    rw [hA, hb3]
    simp
  · have e : A + 3 * p - B = (ra + p - rb) + p * (qa + 2 - qb) := by
      rw [Nat.mul_sub, Nat.mul_add]
      have : p * qb ≤ p * qa + p * 2 := by rw [← Nat.mul_add]; exact Nat.mul_le_mul_left _ h
      omega
    rw [e, Nat.add_mul_mod_self_left]
theorem sub_gen {A B a b p : Nat} (hp : 0 < p) (hB : B ≤ 3 * p) (ha : A % p = a) (hb : B % p = b) : (A + 3 * p - B) % p = (a + p - b) % p := by
  subst ha hb
  refine sub_gen0 hB (A / p) (A % p) (B / p) (B % p) (Nat.div_add_mod A p) (Nat.div_add_mod B p) (Nat.mod_lt _ hp) ?_
  have h2 := Nat.div_le_div_right (c := p) hB
  rwa [Nat.mul_div_cancel _ hp] at h2
theorem cg_sub {A B a b : Nat} (hA : A < M256) (hB : B < M256) (ha : A % P255 = a) (hb : B % P255 = b) : subF A B % P255 = mi a b := by
  rw [subF_mod hA hB, mi]
  refine sub_gen (by decide) (Nat.le_of_lt (Nat.lt_trans hB (by decide))) ha hb
theorem cg_mul {A B a b : Nat} (ha : A % P255 = a) (hb : B % P255 = b) : mulF A B % P255 = ml a b := by
  rw [mulF_mod, ml, ← ha, ← hb, ← Nat.mul_mod]
theorem ml_comm (a b : Nat) : ml a b = ml b a := by rw [ml, ml, Nat.mul_comm]

theorem bit_vB : ∀ (l : List Nat), (∀ x ∈ l, x < 256) → ∀ n, l.getD (n / 8) 0 / 2 ^ (n % 8) % 2 = vl 256 l / 2 ^ n % 2 := by
  intro l
  induction l with
  | nil => intro _ n; simp [vl]
  | cons x l ih =>
    intro h n
    have hx : x < 256 := h x (by simp)
    rcases Nat.lt_or_ge n 8 with hn | hn
    · rw [Nat.div_eq_of_lt hn, Nat.mod_eq_of_lt hn]
      simp only [List.getD_cons_zero, vl]
      have e : 256 * vl 256 l = 2 ^ n * (2 * (2 ^ (7 - n) * vl 256 l)) := by
        rw [← Nat.mul_assoc, ← Nat.mul_assoc, ← Nat.pow_succ, ← Nat.pow_add, show n + 1 + (7 - n) = 8 by omega]
      rw [e, Nat.add_mul_div_left _ _ (Nat.two_pow_pos n), Nat.add_mul_mod_self_left]
    · obtain ⟨m, rfl⟩ : ∃ m, n = m + 8 := ⟨n - 8, by omega⟩
      rw [Nat.add_div_right _ (by decide), Nat.add_mod_right, List.getD_cons_succ, ih (fun y hy => h y (by simp [hy])) m]
      simp only [vl]
      rw [Nat.pow_add, show 2 ^ 8 = 256 by decide, Nat.mul_comm (2 ^ m) 256, ← Nat.div_div_eq_div_mul]
      rw [show (x + 256 * vl 256 l) / 256 = vl 256 l by omega]

/-- the ladder -/
def lad (k u : Nat) : Nat → Nat → Nat → Nat → Nat → Nat × Nat
  | 0, x2, z2, _, _ => (x2, z2)
  | n + 1, x2, z2, x3, z3 => if k / 2 ^ n % 2 = 1 then lad k u n (stX3 x3 z3 x2 z2) (stZ3 x3 z3 x2 z2 u) (stX2 x3 z3) (stZ2 x3 z3) else lad k u n (stX2 x2 z2) (stZ2 x2 z2) (stX3 x2 z2 x3 z3) (stZ3 x2 z2 x3 z3 u)
def finV (r : Nat × Nat) : Nat := ml r.1 (powF r.2 PI % P255)
def multN (k u : Nat) : Nat := finV (lad k u 256 1 0 u 1)
def multV (k u : List Nat) : Nat := multN (vB (clampL k)) (vB (maskL u) % P255)
def e35 := t2b (fun k u => fld (multV k u))
def e36 := t2b (fun k u => fld (multV k u))
def T16a : Ctr := addC 65 e71 (addC 76 e34 (addC 46 e33 T11))
def T16b : Ctr := addC 44 e35 T16a
def T16c : Ctr := addC 66 e36 T16b
def st35 : List It := [.lp [0, 1, 0, 1, 1, 1, 1, 1], .blk 0, .at [1, 1, 1, 1, 1, 1]]
def s35 (K : List Nat) (X A B C D : Nat) (i : SV) : St := ⟨58, [(2, .ptr 0 0 (.c 0)), (4, .ptr 2 0 (.c 0)), (5, .ptr 3 0 (.c 0)), (6, .ptr 4 0 (.c 0)), (7, .ptr 5 0 (.c 0)), (8, i)],
  [(0, ⟨31, [.arr .u8 32 K], false⟩), (2, ⟨31, [.arr .u8 32 [0, 0, 0, 0, 0, 0, 0, 0, 0, 0, 0, 0, 0, 0, 0, 0, 0, 0, 0, 0, 0, 0, 0, 0, 0, 0, 0, 0, 0, 0, 0, 0]], false⟩), (3, ⟨47, [.arr .u64 4 (dF X)], false⟩), (4, ⟨91, [.arr .u64 4 (dF A), .arr .u64 4 (dF B)], false⟩), (5, ⟨91, [.arr .u64 4 (dF C), .arr .u64 4 (dF D)], false⟩)], 6, 0⟩
def s36 (K : List Nat) (X A B C D : Nat) (i : SV) : St := ⟨112, [(2, .ptr 0 0 (.c 0)), (4, .ptr 2 0 (.c 0)), (5, .ptr 3 0 (.c 0)), (6, .ptr 4 0 (.c 0)), (7, .ptr 5 0 (.c 0)), (8, .ptr 6 0 (.c 0)), (9, .ptr 7 0 (.c 0)), (10, i)],
  [(0, ⟨31, [.arr .u8 32 K], false⟩), (2, ⟨31, [.arr .u8 32 [0, 0, 0, 0, 0, 0, 0, 0, 0, 0, 0, 0, 0, 0, 0, 0, 0, 0, 0, 0, 0, 0, 0, 0, 0, 0, 0, 0, 0, 0, 0, 0]], false⟩), (3, ⟨35, [.arr .u64 4 (dF X)], false⟩), (4, ⟨35, [.arr .u64 4 (dF A)], false⟩), (5, ⟨35, [.arr .u64 4 (dF B)], false⟩), (6, ⟨35, [.arr .u64 4 (dF C)], false⟩), (7, ⟨35, [.arr .u64 4 (dF D)], false⟩)], 8, 0⟩
theorem sfDA_lt {A B C D : Nat} (hA : A < M256) (hB : B < M256) : sfDA A B C D < M256 := mulF_lt (subF_lt _ _) (addF_lt hA hB)
theorem sfCB_lt {A B C D : Nat} (hC : C < M256) (hD : D < M256) : sfCB A B C D < M256 := mulF_lt (addF_lt hC hD) (subF_lt _ _)
section
variable {A B C D U x2 z2 x3 z3 u : Nat} (hA : A < M256) (hB : B < M256) (hC : C < M256) (hD : D < M256) (ha : A % P255 = x2) (hb : B % P255 = z2) (hc : C % P255 = x3) (hd : D % P255 = z3)
include hA hB ha hb
theorem cgX2 : sfX2 A B % P255 = stX2 x2 z2 := cg_mul (cg_mul (cg_add hA hB ha hb) (cg_add hA hB ha hb)) (cg_mul (cg_sub hA hB ha hb) (cg_sub hA hB ha hb))
theorem cgE : sfE A B % P255 = stE x2 z2 := cg_sub (mulF_lt (addF_lt hA hB) (addF_lt hA hB)) (mulF_lt (subF_lt _ _) (subF_lt _ _)) (cg_mul (cg_add hA hB ha hb) (cg_add hA hB ha hb)) (cg_mul (cg_sub hA hB ha hb) (cg_sub hA hB ha hb))
theorem cgZ2 : sfZ2 A B % P255 = stZ2 x2 z2 := by
  have h1 := cgE hA hB ha hb
  refine cg_mul h1 (cg_add (mulF_lt (addF_lt hA hB) (addF_lt hA hB)) (mulF_lt (subF_lt _ _) (by decide)) (cg_mul (cg_add hA hB ha hb) (cg_add hA hB ha hb)) ?_)
  rw [ml_comm]
  exact cg_mul h1 (by decide)
include hC hD hc hd
theorem cgDA : sfDA A B C D % P255 = stDA x2 z2 x3 z3 := cg_mul (cg_sub hC hD hc hd) (cg_add hA hB ha hb)
theorem cgCB : sfCB A B C D % P255 = stCB x2 z2 x3 z3 := cg_mul (cg_add hC hD hc hd) (cg_sub hA hB ha hb)
theorem cgX3 : sfX3 A B C D % P255 = stX3 x2 z2 x3 z3 := cg_mul (cg_add (sfDA_lt hA hB) (sfCB_lt hC hD) (cgDA hA hB hC hD ha hb hc hd) (cgCB hA hB hC hD ha hb hc hd)) (cg_add (sfDA_lt hA hB) (sfCB_lt hC hD) (cgDA hA hB hC hD ha hb hc hd) (cgCB hA hB hC hD ha hb hc hd))
theorem cgZ3 (hu : U % P255 = u) : sfZ3 A B C D U % P255 = stZ3 x2 z2 x3 z3 u := cg_mul hu (cg_mul (cg_sub (sfDA_lt hA hB) (sfCB_lt hC hD) (cgDA hA hB hC hD ha hb hc hd) (cgCB hA hB hC hD ha hb hc hd)) (cg_sub (sfDA_lt hA hB) (sfCB_lt hC hD) (cgDA hA hB hC hD ha hb hc hd) (cgCB hA hB hC hD ha hb hc hd)))
end
section
variable {A B C D U : Nat} (hA : A < M256) (hB : B < M256)
include hA hB
theorem sfX2_lt : sfX2 A B < M256 := mulF_lt (mulF_lt (addF_lt hA hB) (addF_lt hA hB)) (mulF_lt (subF_lt _ _) (subF_lt _ _))
theorem sfZ2_lt : sfZ2 A B < M256 := mulF_lt (subF_lt _ _) (addF_lt (mulF_lt (addF_lt hA hB) (addF_lt hA hB)) (mulF_lt (subF_lt _ _) (by decide)))
theorem sfX3_lt (hC : C < M256) (hD : D < M256) : sfX3 A B C D < M256 := mulF_lt (addF_lt (mulF_lt (subF_lt _ _) (addF_lt hA hB)) (mulF_lt (addF_lt hC hD) (subF_lt _ _))) (addF_lt (mulF_lt (subF_lt _ _) (addF_lt hA hB)) (mulF_lt (addF_lt hC hD) (subF_lt _ _)))
end
theorem sfZ3_lt {A B C D U : Nat} (hU : U < M256) : sfZ3 A B C D U < M256 := mulF_lt hU (mulF_lt (subF_lt _ _) (subF_lt _ _))
theorem vdP (E : Nat) : vF (dF (E % P255)) = E % P255 := vd (P_lt _)
theorem dF1 : dF 1 = [1, 0, 0, 0] := by decide +kernel
theorem dF0 : dF 0 = [0, 0, 0, 0] := by decide +kernel
theorem bits_clamp {k : List Nat} (h : k.length = 32 ∧ ∀ x ∈ k, x < lim .u8) : ∀ x ∈ clampL k, x < 256 := by
  have h0 : ∀ j, k.getD j 0 < 256 := fun j => by
    rw [List.getD_eq_getElem?_getD]
    cases hj : k[j]? with
    | none => simp
    | some v => exact h.2 v (List.mem_of_getElem? hj)
  have h1 : ∀ x ∈ k.set 0 (k.getD 0 0 &&& 248), x < 256 := fun x hx => by
    rcases List.mem_or_eq_of_mem_set hx with hx | rfl
    · exact h.2 x hx
    · exact Nat.lt_of_le_of_lt Nat.and_le_left (h0 0)
  have h2 : ∀ j, (k.set 0 (k.getD 0 0 &&& 248)).getD j 0 < 256 := fun j => by
    rw [List.getD_eq_getElem?_getD]
    cases hj : (k.set 0 (k.getD 0 0 &&& 248))[j]? with
    | none => simp
    | some v => exact h1 v (List.mem_of_getElem? hj)
  intro x hx
  rcases List.mem_or_eq_of_mem_set hx with hx | rfl
  · exact h1 x hx
  · exact Nat.or_lt_two_pow (n := 8) (Nat.lt_of_le_of_lt Nat.and_le_left (h2 31)) (by decide)
end Go.Eng.G

/- Montgomery: Clamp, step, Mult of the program and of the document's answer. -/
namespace Go.Eng.G
open Go Go.Eng Go.Proofs
set_option maxRecDepth 100000
set_option linter.unusedSimpArgs false
theorem c33 : ∀ args res ob, e33 args = some (res, ob) → All ob → Contract Try.prog 46 args res := by
  intro args res ob h hob
  simp only [e33, t1b] at h
  split at h
  · rename_i l
    cases h
    refine contract Try.func46 (body := bodyOf Try.f46) rfl (by kernel_rfl) (by kernel_rfl) rfl ?_
    rintro ⟨ha, _⟩ w0 S
    exact hold_end mixed ok11 (unroll := true) (f := 100) (sc := []) (r := (Go.Eng.SV.arr Go.IntKind.u8 (32 : Nat) ((l.set (0 : Nat) (l.getD (0 : Nat) (0 : Nat) &&& (248 : Nat))).set (31 : Nat) ((l.set (0 : Nat) (l.getD (0 : Nat) (0 : Nat) &&& (248 : Nat))).getD (31 : Nat) (0 : Nat) &&& (127 : Nat) ||| (64 : Nat))))) (ob := []) (sc' := []) (by kernel_rfl) trivial rfl
  · cases h
theorem c34 : ∀ args res ob, e34 args = some (res, ob) → All ob → Contract Try.prog 76 args res := by
  intro args res ob h hob
  simp only [e34, t1b] at h
  split at h
  · rename_i l
    cases h
    refine contract Try.func76 (body := bodyOf Try.f76) rfl (by kernel_rfl) (by kernel_rfl) rfl ?_
    rintro ⟨ha, _⟩ w0 S
    exact hold_end mixed ok11 (unroll := true) (f := 100) (sc := []) (r := (Go.Eng.SV.arr Go.IntKind.u8 (32 : Nat) ((l.set (0 : Nat) (l.getD (0 : Nat) (0 : Nat) &&& (248 : Nat))).set (31 : Nat) ((l.set (0 : Nat) (l.getD (0 : Nat) (0 : Nat) &&& (248 : Nat))).getD (31 : Nat) (0 : Nat) &&& (127 : Nat) ||| (64 : Nat))))) (ob := []) (sc' := []) (by kernel_rfl) trivial rfl
  · cases h
theorem c71 : ∀ args res ob, e71 args = some (res, ob) → All ob → Contract Try.prog 65 args res := by
  intro args res ob h hob
  unfold e71 at h
  split at h
  · rename_i a b c d u
    cases h
    refine contract Try.func65 (body := bodyOf Try.f65) rfl (by kernel_rfl) (by kernel_rfl) rfl ?_
    rintro ⟨⟨ha, hb, _⟩, ⟨hc, hd, _⟩, hu, _⟩ w0 S
    have hA := vF_lt ha
    have hB := vF_lt hb
    have hC := vF_lt hc
    have hD := vF_lt hd
    have hU := vF_lt hu
    refine hold_end mixed ok11 (unroll := true) (f := 100) (sc := []) (r := (Go.Eng.SV.tup [Go.Eng.SV.ag [Go.Eng.SV.arr Go.IntKind.u64 (4 : Nat) (Go.Eng.dF (Go.Eng.G.mulF (Go.Eng.vF (Go.Eng.dF (Go.Eng.G.mulF (Go.Eng.vF (Go.Eng.dF (Go.Eng.addF (Go.Eng.vF a) (Go.Eng.vF b)))) (Go.Eng.vF (Go.Eng.dF (Go.Eng.addF (Go.Eng.vF a) (Go.Eng.vF b))))))) (Go.Eng.vF (Go.Eng.dF (Go.Eng.G.mulF (Go.Eng.vF (Go.Eng.dF (Go.Eng.subF (Go.Eng.vF a) (Go.Eng.vF b)))) (Go.Eng.vF (Go.Eng.dF (Go.Eng.subF (Go.Eng.vF a) (Go.Eng.vF b))))))))), Go.Eng.SV.arr Go.IntKind.u64 (4 : Nat) (Go.Eng.dF (Go.Eng.G.mulF (Go.Eng.vF (Go.Eng.dF (Go.Eng.subF (Go.Eng.vF (Go.Eng.dF (Go.Eng.G.mulF (Go.Eng.vF (Go.Eng.dF (Go.Eng.addF (Go.Eng.vF a) (Go.Eng.vF b)))) (Go.Eng.vF (Go.Eng.dF (Go.Eng.addF (Go.Eng.vF a) (Go.Eng.vF b))))))) (Go.Eng.vF (Go.Eng.dF (Go.Eng.G.mulF (Go.Eng.vF (Go.Eng.dF (Go.Eng.subF (Go.Eng.vF a) (Go.Eng.vF b)))) (Go.Eng.vF (Go.Eng.dF (Go.Eng.subF (Go.Eng.vF a) (Go.Eng.vF b)))))))))) (Go.Eng.vF (Go.Eng.dF (Go.Eng.addF (Go.Eng.vF (Go.Eng.dF (Go.Eng.G.mulF (Go.Eng.vF (Go.Eng.dF (Go.Eng.addF (Go.Eng.vF a) (Go.Eng.vF b)))) (Go.Eng.vF (Go.Eng.dF (Go.Eng.addF (Go.Eng.vF a) (Go.Eng.vF b))))))) (Go.Eng.vF (Go.Eng.dF (Go.Eng.G.mulF (Go.Eng.vF (Go.Eng.dF (Go.Eng.subF (Go.Eng.vF (Go.Eng.dF (Go.Eng.G.mulF (Go.Eng.vF (Go.Eng.dF (Go.Eng.addF (Go.Eng.vF a) (Go.Eng.vF b)))) (Go.Eng.vF (Go.Eng.dF (Go.Eng.addF (Go.Eng.vF a) (Go.Eng.vF b))))))) (Go.Eng.vF (Go.Eng.dF (Go.Eng.G.mulF (Go.Eng.vF (Go.Eng.dF (Go.Eng.subF (Go.Eng.vF a) (Go.Eng.vF b)))) (Go.Eng.vF (Go.Eng.dF (Go.Eng.subF (Go.Eng.vF a) (Go.Eng.vF b)))))))))) (121665 : Nat)))))))))], Go.Eng.SV.ag [Go.Eng.SV.arr Go.IntKind.u64 (4 : Nat) (Go.Eng.dF (Go.Eng.G.mulF (Go.Eng.vF (Go.Eng.dF (Go.Eng.addF (Go.Eng.vF (Go.Eng.dF (Go.Eng.G.mulF (Go.Eng.vF (Go.Eng.dF (Go.Eng.subF (Go.Eng.vF c) (Go.Eng.vF d)))) (Go.Eng.vF (Go.Eng.dF (Go.Eng.addF (Go.Eng.vF a) (Go.Eng.vF b))))))) (Go.Eng.vF (Go.Eng.dF (Go.Eng.G.mulF (Go.Eng.vF (Go.Eng.dF (Go.Eng.addF (Go.Eng.vF c) (Go.Eng.vF d)))) (Go.Eng.vF (Go.Eng.dF (Go.Eng.subF (Go.Eng.vF a) (Go.Eng.vF b)))))))))) (Go.Eng.vF (Go.Eng.dF (Go.Eng.addF (Go.Eng.vF (Go.Eng.dF (Go.Eng.G.mulF (Go.Eng.vF (Go.Eng.dF (Go.Eng.subF (Go.Eng.vF c) (Go.Eng.vF d)))) (Go.Eng.vF (Go.Eng.dF (Go.Eng.addF (Go.Eng.vF a) (Go.Eng.vF b))))))) (Go.Eng.vF (Go.Eng.dF (Go.Eng.G.mulF (Go.Eng.vF (Go.Eng.dF (Go.Eng.addF (Go.Eng.vF c) (Go.Eng.vF d)))) (Go.Eng.vF (Go.Eng.dF (Go.Eng.subF (Go.Eng.vF a) (Go.Eng.vF b)))))))))))), Go.Eng.SV.arr Go.IntKind.u64 (4 : Nat) (Go.Eng.dF (Go.Eng.G.mulF (Go.Eng.vF u) (Go.Eng.vF (Go.Eng.dF (Go.Eng.G.mulF (Go.Eng.vF (Go.Eng.dF (Go.Eng.subF (Go.Eng.vF (Go.Eng.dF (Go.Eng.G.mulF (Go.Eng.vF (Go.Eng.dF (Go.Eng.subF (Go.Eng.vF c) (Go.Eng.vF d)))) (Go.Eng.vF (Go.Eng.dF (Go.Eng.addF (Go.Eng.vF a) (Go.Eng.vF b))))))) (Go.Eng.vF (Go.Eng.dF (Go.Eng.G.mulF (Go.Eng.vF (Go.Eng.dF (Go.Eng.addF (Go.Eng.vF c) (Go.Eng.vF d)))) (Go.Eng.vF (Go.Eng.dF (Go.Eng.subF (Go.Eng.vF a) (Go.Eng.vF b)))))))))) (Go.Eng.vF (Go.Eng.dF (Go.Eng.subF (Go.Eng.vF (Go.Eng.dF (Go.Eng.G.mulF (Go.Eng.vF (Go.Eng.dF (Go.Eng.subF (Go.Eng.vF c) (Go.Eng.vF d)))) (Go.Eng.vF (Go.Eng.dF (Go.Eng.addF (Go.Eng.vF a) (Go.Eng.vF b))))))) (Go.Eng.vF (Go.Eng.dF (Go.Eng.G.mulF (Go.Eng.vF (Go.Eng.dF (Go.Eng.addF (Go.Eng.vF c) (Go.Eng.vF d)))) (Go.Eng.vF (Go.Eng.dF (Go.Eng.subF (Go.Eng.vF a) (Go.Eng.vF b)))))))))))))))]])) (ob := []) (sc' := []) (by kernel_rfl) trivial ?_
    have e1 := vd (addF_lt hA hB)
    have e2 := vd (subF_lt (vF a) (vF b))
    have e3 := vd (addF_lt hC hD)
    have e4 := vd (subF_lt (vF c) (vF d))
    have e5 := vd (mulF_lt (addF_lt hA hB) (addF_lt hA hB))
    have e6 := vd (mulF_lt (subF_lt (vF a) (vF b)) (subF_lt (vF a) (vF b)))
    have e7 := vd (subF_lt (mulF (addF (vF a) (vF b)) (addF (vF a) (vF b))) (mulF (subF (vF a) (vF b)) (subF (vF a) (vF b))))
    have e8 := vd (mulF_lt (subF_lt (vF c) (vF d)) (addF_lt hA hB))
    have e9 := vd (mulF_lt (addF_lt hC hD) (subF_lt (vF a) (vF b)))
    have f1 := mulF_lt (subF_lt (vF c) (vF d)) (addF_lt hA hB)
    have f2 := mulF_lt (addF_lt hC hD) (subF_lt (vF a) (vF b))
    have g1 := vd (addF_lt f1 f2)
    have g2 := vd (subF_lt (mulF (subF (vF c) (vF d)) (addF (vF a) (vF b))) (mulF (addF (vF c) (vF d)) (subF (vF a) (vF b))))
    have f3 := mulF_lt (addF_lt hA hB) (addF_lt hA hB)
    have f4 := mulF_lt (subF_lt (mulF (addF (vF a) (vF b)) (addF (vF a) (vF b))) (mulF (subF (vF a) (vF b)) (subF (vF a) (vF b)))) (show 121665 < M256 by decide)
    have g3 := vd f4
    have g4 := vd (addF_lt f3 f4)
    have g5 := vd (mulF_lt (subF_lt (mulF (subF (vF c) (vF d)) (addF (vF a) (vF b))) (mulF (addF (vF c) (vF d)) (subF (vF a) (vF b)))) (subF_lt (mulF (subF (vF c) (vF d)) (addF (vF a) (vF b))) (mulF (addF (vF c) (vF d)) (subF (vF a) (vF b)))))
    simp only [e1, e2, e3, e4, e5, e6, e7, e8, e9, g1, g2, vF1, g3, g4, g5]
    rfl
  · cases h
theorem ok16a : CtrOk Try.prog T16a := addC_ok (addC_ok (addC_ok ok11 c33) c34) c71
section
variable {w0 : World} {S : Own} {res : SV}
theorem c35_in (K : List Nat) (hK : ∀ x ∈ K, x < 256) (X : Nat) (hX : X < P255) (R : Nat) (hR : res = fld R) :
    ∀ n, n ≤ 256 → ∀ A B C D, A < M256 → B < M256 → C < M256 → D < M256 → finV (lad (vB K) X n (A % P255) (B % P255) (C % P255) (D % P255)) = R →
      Hold Try.prog (bodyOf Try.f44) (Fin Try.prog Try.f44 w0 S res) w0 S st35 (s35 K X A B C D (.i .i64 ((n : Int) - 1))) := by
  have hXm : X < M256 := Nat.lt_trans hX (by decide)
  intro n
  induction n with
  | zero =>
    intro _ A B C D hA hB hC hD hr
    refine hold_unroll (c := _) rfl ?_
    refine hold_end mixed ok16a (unroll := false) (f := 100) (sc := [false]) (r := (Go.Eng.SV.arr Go.IntKind.u8 (32 : Nat) (Go.Eng.dB (Go.Eng.vF (Go.Eng.dF (Go.Eng.vF (Go.Eng.dF (Go.Eng.G.mulF (Go.Eng.vF (Go.Eng.dF A)) (Go.Eng.vF (Go.Eng.dF (Go.Eng.G.powF (Go.Eng.vF (Go.Eng.dF B)) (57896044618658097711785492504343953926634992332820282019728792003956564819947 : Nat)))))) % Go.Eng.P255)))))) (ob := [Bool.false = Bool.false]) (sc' := []) (by kernel_rfl) ?_ ?_
    · exact ⟨by decide, trivial⟩
    · rw [vd hA, vd hB, vd (powF_lt hB _), vd (mulF_lt hA (powF_lt hB _)), vdP, hR, ← hr]
      simp only [lad, finV]
      rw [cg_mul rfl rfl, show powF B 57896044618658097711785492504343953926634992332820282019728792003956564819947 % P255 = powF (B % P255) PI % P255 from powF_congr _ (Nat.mod_mod _ _).symm]
      rfl
  | succ n ih =>
    intro hn A B C D hA hB hC hD hr
    refine Hold.weaken (sl' := (s35 K X A B C D (.u .i64 n)).slots) ?_ (by simp [wks, wk, wk0, wka, s35, lim]; omega)
    refine hold_unroll (c := _) rfl ?_
    have hbit := bit_vB K hK n
    simp only [lad] at hr
    by_cases hE : vB K / 2 ^ n % 2 = 1
    · refine hold_cut mixed ok16a (unroll := false) (f := 100) (sc := [true, true]) (ks := [2,4,5,6,7,8]) (bs := [0,2,3,4,5]) (nx := 6) (st' := [Go.Eng.It.lp [(0 : Nat), (1 : Nat), (0 : Nat), (1 : Nat), (1 : Nat), (1 : Nat), (1 : Nat), (1 : Nat)], Go.Eng.It.blk (0 : Nat), Go.Eng.It.at [(1 : Nat), (1 : Nat), (1 : Nat), (1 : Nat), (1 : Nat), (1 : Nat)]]) (σ' := { nt := (58 : Nat), slots := [((2 : Nat), Go.Eng.SV.ptr (0 : Nat) (0 : Nat) (Go.Eng.Ix.c (0 : Nat))), ((4 : Nat), Go.Eng.SV.ptr (2 : Nat) (0 : Nat) (Go.Eng.Ix.c (0 : Nat))), ((5 : Nat), Go.Eng.SV.ptr (3 : Nat) (0 : Nat) (Go.Eng.Ix.c (0 : Nat))), ((6 : Nat), Go.Eng.SV.ptr (4 : Nat) (0 : Nat) (Go.Eng.Ix.c (0 : Nat))), ((7 : Nat), Go.Eng.SV.ptr (5 : Nat) (0 : Nat) (Go.Eng.Ix.c (0 : Nat))), ((8 : Nat), Go.Eng.SV.i Go.IntKind.i64 ((↑n : Int) - (1 : Int)))], blks := [((0 : Nat), { ty := (31 : Nat), segs := [Go.Eng.SV.arr Go.IntKind.u8 (32 : Nat) K] }), ((2 : Nat), { ty := (31 : Nat), segs := [Go.Eng.SV.arr Go.IntKind.u8 (32 : Nat) [(0 : Nat), (0 : Nat), (0 : Nat), (0 : Nat), (0 : Nat), (0 : Nat), (0 : Nat), (0 : Nat), (0 : Nat), (0 : Nat), (0 : Nat), (0 : Nat), (0 : Nat), (0 : Nat), (0 : Nat), (0 : Nat), (0 : Nat), (0 : Nat), (0 : Nat), (0 : Nat), (0 : Nat), (0 : Nat), (0 : Nat), (0 : Nat), (0 : Nat), (0 : Nat), (0 : Nat), (0 : Nat), (0 : Nat), (0 : Nat), (0 : Nat), (0 : Nat)]] }), ((3 : Nat), { ty := (47 : Nat), segs := [Go.Eng.SV.arr Go.IntKind.u64 (4 : Nat) (Go.Eng.dF X)] }), ((4 : Nat), { ty := (91 : Nat), segs := [Go.Eng.SV.arr Go.IntKind.u64 (4 : Nat) (Go.Eng.dF (Go.Eng.G.sfX3 (Go.Eng.vF (Go.Eng.dF C)) (Go.Eng.vF (Go.Eng.dF D)) (Go.Eng.vF (Go.Eng.dF A)) (Go.Eng.vF (Go.Eng.dF B)))), Go.Eng.SV.arr Go.IntKind.u64 (4 : Nat) (Go.Eng.dF (Go.Eng.G.sfZ3 (Go.Eng.vF (Go.Eng.dF C)) (Go.Eng.vF (Go.Eng.dF D)) (Go.Eng.vF (Go.Eng.dF A)) (Go.Eng.vF (Go.Eng.dF B)) (Go.Eng.vF (Go.Eng.dF X))))] }), ((5 : Nat), { ty := (91 : Nat), segs := [Go.Eng.SV.arr Go.IntKind.u64 (4 : Nat) (Go.Eng.dF (Go.Eng.G.sfX2 (Go.Eng.vF (Go.Eng.dF C)) (Go.Eng.vF (Go.Eng.dF D)))), Go.Eng.SV.arr Go.IntKind.u64 (4 : Nat) (Go.Eng.dF (Go.Eng.G.sfZ2 (Go.Eng.vF (Go.Eng.dF C)) (Go.Eng.vF (Go.Eng.dF D))))] })], next := (6 : Nat) }) (ob := [Decidable.decide ((0 : Nat) ≤ n) = Bool.true, n / (8 : Nat) < (32 : Nat), n / (8 : Nat) < (32 : Nat), n % (8 : Nat) < (8 : Nat), (K.getD (n / (8 : Nat)) (0 : Nat) / (2 : Nat) ^ (n % (8 : Nat)) &&& (1 : Nat) == (1 : Nat)) = Bool.true]) (sc' := []) (by kernel_rfl) ?_ ?_
      · repeat' (first | exact True.intro | refine And.intro ?_ ?_)
        all_goals first | omega | (simp; done) | (rw [and_one, hbit]; simpa [vB] using hE)
      · rw [if_pos hE] at hr
        have := ih (by omega) (sfX3 C D A B) (sfZ3 C D A B X) (sfX2 C D) (sfZ2 C D) (sfX3_lt hC hD hA hB) (sfZ3_lt hXm) (sfX2_lt hC hD) (sfZ2_lt hC hD) (by
          rw [cgX3 hC hD hA hB rfl rfl rfl rfl, cgZ3 hC hD hA hB rfl rfl rfl rfl (Nat.mod_eq_of_lt hX), cgX2 hC hD rfl rfl, cgZ2 hC hD rfl rfl]
          exact hr)
        refine Hold.cast this ?_
        rw [vd hA, vd hB, vd hC, vd hD, vd hXm]
        rfl
    · refine hold_cut mixed ok16a (unroll := false) (f := 100) (sc := [true, false]) (ks := [2,4,5,6,7,8]) (bs := [0,2,3,4,5]) (nx := 6) (st' := [Go.Eng.It.lp [(0 : Nat), (1 : Nat), (0 : Nat), (1 : Nat), (1 : Nat), (1 : Nat), (1 : Nat), (1 : Nat)], Go.Eng.It.blk (0 : Nat), Go.Eng.It.at [(1 : Nat), (1 : Nat), (1 : Nat), (1 : Nat), (1 : Nat), (1 : Nat)]]) (σ' := { nt := (58 : Nat), slots := [((2 : Nat), Go.Eng.SV.ptr (0 : Nat) (0 : Nat) (Go.Eng.Ix.c (0 : Nat))), ((4 : Nat), Go.Eng.SV.ptr (2 : Nat) (0 : Nat) (Go.Eng.Ix.c (0 : Nat))), ((5 : Nat), Go.Eng.SV.ptr (3 : Nat) (0 : Nat) (Go.Eng.Ix.c (0 : Nat))), ((6 : Nat), Go.Eng.SV.ptr (4 : Nat) (0 : Nat) (Go.Eng.Ix.c (0 : Nat))), ((7 : Nat), Go.Eng.SV.ptr (5 : Nat) (0 : Nat) (Go.Eng.Ix.c (0 : Nat))), ((8 : Nat), Go.Eng.SV.i Go.IntKind.i64 ((↑n : Int) - (1 : Int)))], blks := [((0 : Nat), { ty := (31 : Nat), segs := [Go.Eng.SV.arr Go.IntKind.u8 (32 : Nat) K] }), ((2 : Nat), { ty := (31 : Nat), segs := [Go.Eng.SV.arr Go.IntKind.u8 (32 : Nat) [(0 : Nat), (0 : Nat), (0 : Nat), (0 : Nat), (0 : Nat), (0 : Nat), (0 : Nat), (0 : Nat), (0 : Nat), (0 : Nat), (0 : Nat), (0 : Nat), (0 : Nat), (0 : Nat), (0 : Nat), (0 : Nat), (0 : Nat), (0 : Nat), (0 : Nat), (0 : Nat), (0 : Nat), (0 : Nat), (0 : Nat), (0 : Nat), (0 : Nat), (0 : Nat), (0 : Nat), (0 : Nat), (0 : Nat), (0 : Nat), (0 : Nat), (0 : Nat)]] }), ((3 : Nat), { ty := (47 : Nat), segs := [Go.Eng.SV.arr Go.IntKind.u64 (4 : Nat) (Go.Eng.dF X)] }), ((4 : Nat), { ty := (91 : Nat), segs := [Go.Eng.SV.arr Go.IntKind.u64 (4 : Nat) (Go.Eng.dF (Go.Eng.G.sfX2 (Go.Eng.vF (Go.Eng.dF A)) (Go.Eng.vF (Go.Eng.dF B)))), Go.Eng.SV.arr Go.IntKind.u64 (4 : Nat) (Go.Eng.dF (Go.Eng.G.sfZ2 (Go.Eng.vF (Go.Eng.dF A)) (Go.Eng.vF (Go.Eng.dF B))))] }), ((5 : Nat), { ty := (91 : Nat), segs := [Go.Eng.SV.arr Go.IntKind.u64 (4 : Nat) (Go.Eng.dF (Go.Eng.G.sfX3 (Go.Eng.vF (Go.Eng.dF A)) (Go.Eng.vF (Go.Eng.dF B)) (Go.Eng.vF (Go.Eng.dF C)) (Go.Eng.vF (Go.Eng.dF D)))), Go.Eng.SV.arr Go.IntKind.u64 (4 : Nat) (Go.Eng.dF (Go.Eng.G.sfZ3 (Go.Eng.vF (Go.Eng.dF A)) (Go.Eng.vF (Go.Eng.dF B)) (Go.Eng.vF (Go.Eng.dF C)) (Go.Eng.vF (Go.Eng.dF D)) (Go.Eng.vF (Go.Eng.dF X))))] })], next := (6 : Nat) }) (ob := [Decidable.decide ((0 : Nat) ≤ n) = Bool.true, n / (8 : Nat) < (32 : Nat), n / (8 : Nat) < (32 : Nat), n % (8 : Nat) < (8 : Nat), (K.getD (n / (8 : Nat)) (0 : Nat) / (2 : Nat) ^ (n % (8 : Nat)) &&& (1 : Nat) == (1 : Nat)) = Bool.false]) (sc' := []) (by kernel_rfl) ?_ ?_
      · repeat' (first | exact True.intro | refine And.intro ?_ ?_)
        all_goals first | omega | (simp; done) | (rw [and_one, hbit]; simpa [vB] using hE)
      · rw [if_neg hE] at hr
        have := ih (by omega) (sfX2 A B) (sfZ2 A B) (sfX3 A B C D) (sfZ3 A B C D X) (sfX2_lt hA hB) (sfZ2_lt hA hB) (sfX3_lt hA hB hC hD) (sfZ3_lt hXm) (by
          rw [cgX3 hA hB hC hD rfl rfl rfl rfl, cgZ3 hA hB hC hD rfl rfl rfl rfl (Nat.mod_eq_of_lt hX), cgX2 hA hB rfl rfl, cgZ2 hA hB rfl rfl]
          exact hr)
        refine Hold.cast this ?_
        rw [vd hA, vd hB, vd hC, vd hD, vd hXm]
        rfl
end
theorem mask_ok {u : List Nat} (h : u.length = 32 ∧ ∀ x ∈ u, x < lim .u8) : (maskL u).length = 32 ∧ ∀ x ∈ maskL u, x < lim .u8 := by
  refine ⟨by simp [maskL, h.1], fun x hx => ?_⟩
  rcases List.mem_or_eq_of_mem_set hx with hx | rfl
  · exact h.2 x hx
  · exact Nat.lt_of_le_of_lt Nat.and_le_right (by decide)
theorem c35 : ∀ args res ob, e35 args = some (res, ob) → All ob → Contract Try.prog 44 args res := by
  intro args res ob h hob
  simp only [e35, t2b] at h
  split at h
  · rename_i k u
    cases h
    refine contract Try.func44 (body := bodyOf Try.f44) rfl (by kernel_rfl) (by kernel_rfl) rfl ?_
    rintro ⟨hk, hu, _⟩ w0 S
    have hm := vB_lt (mask_ok hu)
    refine hold_cut mixed ok16a (unroll := false) (f := 100) (sc := []) (ks := [2,4,5,6,7,8]) (bs := [0,2,3,4,5]) (nx := 6) (st' := [Go.Eng.It.lp [(0 : Nat), (1 : Nat), (0 : Nat), (1 : Nat), (1 : Nat), (1 : Nat), (1 : Nat), (1 : Nat)], Go.Eng.It.blk (0 : Nat), Go.Eng.It.at [(1 : Nat), (1 : Nat), (1 : Nat), (1 : Nat), (1 : Nat), (1 : Nat)]]) (σ' := { nt := (58 : Nat), slots := [((2 : Nat), Go.Eng.SV.ptr (0 : Nat) (0 : Nat) (Go.Eng.Ix.c (0 : Nat))), ((4 : Nat), Go.Eng.SV.ptr (2 : Nat) (0 : Nat) (Go.Eng.Ix.c (0 : Nat))), ((5 : Nat), Go.Eng.SV.ptr (3 : Nat) (0 : Nat) (Go.Eng.Ix.c (0 : Nat))), ((6 : Nat), Go.Eng.SV.ptr (4 : Nat) (0 : Nat) (Go.Eng.Ix.c (0 : Nat))), ((7 : Nat), Go.Eng.SV.ptr (5 : Nat) (0 : Nat) (Go.Eng.Ix.c (0 : Nat))), ((8 : Nat), Go.Eng.SV.c Go.IntKind.i64 (255 : Int))], blks := [((0 : Nat), { ty := (31 : Nat), segs := [Go.Eng.SV.arr Go.IntKind.u8 (32 : Nat) (Go.Eng.G.clampL k)] }), ((2 : Nat), { ty := (31 : Nat), segs := [Go.Eng.SV.arr Go.IntKind.u8 (32 : Nat) [(0 : Nat), (0 : Nat), (0 : Nat), (0 : Nat), (0 : Nat), (0 : Nat), (0 : Nat), (0 : Nat), (0 : Nat), (0 : Nat), (0 : Nat), (0 : Nat), (0 : Nat), (0 : Nat), (0 : Nat), (0 : Nat), (0 : Nat), (0 : Nat), (0 : Nat), (0 : Nat), (0 : Nat), (0 : Nat), (0 : Nat), (0 : Nat), (0 : Nat), (0 : Nat), (0 : Nat), (0 : Nat), (0 : Nat), (0 : Nat), (0 : Nat), (0 : Nat)]] }), ((3 : Nat), { ty := (47 : Nat), segs := [Go.Eng.SV.arr Go.IntKind.u64 (4 : Nat) (Go.Eng.dF (Go.Eng.vF (Go.Eng.dF (Go.Eng.vB (u.set (31 : Nat) (u.getD (31 : Nat) (0 : Nat) &&& (127 : Nat))))) % Go.Eng.P255))] }), ((4 : Nat), { ty := (91 : Nat), segs := [Go.Eng.SV.arr Go.IntKind.u64 (4 : Nat) [(1 : Nat), (0 : Nat), (0 : Nat), (0 : Nat)], Go.Eng.SV.arr Go.IntKind.u64 (4 : Nat) [(0 : Nat), (0 : Nat), (0 : Nat), (0 : Nat)]] }), ((5 : Nat), { ty := (91 : Nat), segs := [Go.Eng.SV.arr Go.IntKind.u64 (4 : Nat) (Go.Eng.dF (Go.Eng.vF (Go.Eng.dF (Go.Eng.vB (u.set (31 : Nat) (u.getD (31 : Nat) (0 : Nat) &&& (127 : Nat))))) % Go.Eng.P255)), Go.Eng.SV.arr Go.IntKind.u64 (4 : Nat) [(1 : Nat), (0 : Nat), (0 : Nat), (0 : Nat)]] })], next := (6 : Nat) }) (ob := []) (sc' := []) (by kernel_rfl) trivial ?_
    have := c35_in (w0 := w0) (S := S) (clampL k) (bits_clamp hk) (vB (maskL u) % P255) (Nat.mod_lt _ (by decide)) (multV k u) rfl 256 (Nat.le_refl _) 1 0 (vB (maskL u) % P255) 1 (by decide) (by decide) (P_lt _) (by decide) (by
      rw [Nat.mod_mod, Nat.mod_eq_of_lt (show 1 < P255 by decide), Nat.zero_mod]; rfl)
    refine Hold.weaken (sl' := (s35 (clampL k) 0 0 0 0 0 (.i .i64 255)).slots) (Hold.cast this ?_) (by simp [wks, wk, wk0, wka, s35])
    rw [show vF (dF (vB (u.set 31 (u.getD 31 0 &&& 127)))) = vB (maskL u) from vd hm]
    simp only [s35, dF1, dF0]
    rfl
  · cases h
theorem ok16b : CtrOk Try.prog T16b := addC_ok ok16a c35
section
variable {w0 : World} {S : Own} {res : SV}
theorem c36_in (K : List Nat) (hK : ∀ x ∈ K, x < 256) (X : Nat) (hX : X < P255) (R : Nat) (hR : res = fld R) :
    ∀ n, n ≤ 256 → ∀ A B C D, A < P255 → B < P255 → C < P255 → D < P255 → finV (lad (vB K) X n A B C D) = R →
      Hold Try.prog (bodyOf Try.f66) (Fin Try.prog Try.f66 w0 S res) w0 S st35 (s36 K X A B C D (.i .i64 ((n : Int) - 1))) := by
  have hXm : vF (dF X) = X := vd (Nat.lt_trans hX (by decide))
  intro n
  induction n with
  | zero =>
    intro _ A B C D hA hB hC hD hr
    have eA : vF (dF A) = A := vd (Nat.lt_trans hA (by decide))
    have eB : vF (dF B) = B := vd (Nat.lt_trans hB (by decide))
    refine hold_unroll (c := _) rfl ?_
    refine hold_end mixed ok16b (unroll := false) (f := 100) (sc := [false]) (r := (Go.Eng.SV.arr Go.IntKind.u8 (32 : Nat) (Go.Eng.dB (Go.Eng.vF (Go.Eng.dF (Go.Eng.vF (Go.Eng.dF A) * Go.Eng.vF (Go.Eng.dF (Go.Eng.G.powF (Go.Eng.vF (Go.Eng.dF B)) Go.Eng.G.PI % Go.Eng.P255)) % Go.Eng.P255)))))) (ob := [Bool.false = Bool.false]) (sc' := []) (by kernel_rfl) ?_ ?_
    · exact ⟨by decide, trivial⟩
    · simp only [eA, eB, vdP]
      rw [hR, ← hr]
      rfl
  | succ n ih =>
    intro hn A B C D hA hB hC hD hr
    have eA : vF (dF A) = A := vd (Nat.lt_trans hA (by decide))
    have eB : vF (dF B) = B := vd (Nat.lt_trans hB (by decide))
    have eC : vF (dF C) = C := vd (Nat.lt_trans hC (by decide))
    have eD : vF (dF D) = D := vd (Nat.lt_trans hD (by decide))
    refine Hold.weaken (sl' := (s36 K X A B C D (.u .i64 n)).slots) ?_ (by simp [wks, wk, wk0, wka, s36, lim]; omega)
    refine hold_unroll (c := _) rfl ?_
    have hbit := bit_vB K hK n
    simp only [lad] at hr
    have hlt : ∀ E, E % P255 < P255 := fun E => Nat.mod_lt _ (by decide)
    by_cases hE : vB K / 2 ^ n % 2 = 1
    · refine hold_cut mixed ok16b (unroll := false) (f := 300) (sc := [true, true, true]) (ks := [2,4,5,6,7,8,9,10]) (bs := [0,2,3,4,5,6,7]) (nx := 8) (st' := [Go.Eng.It.lp [(0 : Nat), (1 : Nat), (0 : Nat), (1 : Nat), (1 : Nat), (1 : Nat), (1 : Nat), (1 : Nat)], Go.Eng.It.blk (0 : Nat), Go.Eng.It.at [(1 : Nat), (1 : Nat), (1 : Nat), (1 : Nat), (1 : Nat), (1 : Nat)]]) (σ' := { nt := (112 : Nat), slots := [((2 : Nat), Go.Eng.SV.ptr (0 : Nat) (0 : Nat) (Go.Eng.Ix.c (0 : Nat))), ((4 : Nat), Go.Eng.SV.ptr (2 : Nat) (0 : Nat) (Go.Eng.Ix.c (0 : Nat))), ((5 : Nat), Go.Eng.SV.ptr (3 : Nat) (0 : Nat) (Go.Eng.Ix.c (0 : Nat))), ((6 : Nat), Go.Eng.SV.ptr (4 : Nat) (0 : Nat) (Go.Eng.Ix.c (0 : Nat))), ((7 : Nat), Go.Eng.SV.ptr (5 : Nat) (0 : Nat) (Go.Eng.Ix.c (0 : Nat))), ((8 : Nat), Go.Eng.SV.ptr (6 : Nat) (0 : Nat) (Go.Eng.Ix.c (0 : Nat))), ((9 : Nat), Go.Eng.SV.ptr (7 : Nat) (0 : Nat) (Go.Eng.Ix.c (0 : Nat))), ((10 : Nat), Go.Eng.SV.i Go.IntKind.i64 ((↑n : Int) - (1 : Int)))], blks := [((0 : Nat), { ty := (31 : Nat), segs := [Go.Eng.SV.arr Go.IntKind.u8 (32 : Nat) K] }), ((2 : Nat), { ty := (31 : Nat), segs := [Go.Eng.SV.arr Go.IntKind.u8 (32 : Nat) [(0 : Nat), (0 : Nat), (0 : Nat), (0 : Nat), (0 : Nat), (0 : Nat), (0 : Nat), (0 : Nat), (0 : Nat), (0 : Nat), (0 : Nat), (0 : Nat), (0 : Nat), (0 : Nat), (0 : Nat), (0 : Nat), (0 : Nat), (0 : Nat), (0 : Nat), (0 : Nat), (0 : Nat), (0 : Nat), (0 : Nat), (0 : Nat), (0 : Nat), (0 : Nat), (0 : Nat), (0 : Nat), (0 : Nat), (0 : Nat), (0 : Nat), (0 : Nat)]] }), ((3 : Nat), { ty := (35 : Nat), segs := [Go.Eng.SV.arr Go.IntKind.u64 (4 : Nat) (Go.Eng.dF X)] }), ((4 : Nat), { ty := (35 : Nat), segs := [Go.Eng.SV.arr Go.IntKind.u64 (4 : Nat) (Go.Eng.dF (Go.Eng.vF (Go.Eng.dF ((Go.Eng.vF (Go.Eng.dF (Go.Eng.vF (Go.Eng.dF ((Go.Eng.vF (Go.Eng.dF A) + Go.Eng.P255 - Go.Eng.vF (Go.Eng.dF B)) % Go.Eng.P255)) * Go.Eng.vF (Go.Eng.dF ((Go.Eng.vF (Go.Eng.dF C) + Go.Eng.vF (Go.Eng.dF D)) % Go.Eng.P255)) % Go.Eng.P255)) + Go.Eng.vF (Go.Eng.dF (Go.Eng.vF (Go.Eng.dF ((Go.Eng.vF (Go.Eng.dF A) + Go.Eng.vF (Go.Eng.dF B)) % Go.Eng.P255)) * Go.Eng.vF (Go.Eng.dF ((Go.Eng.vF (Go.Eng.dF C) + Go.Eng.P255 - Go.Eng.vF (Go.Eng.dF D)) % Go.Eng.P255)) % Go.Eng.P255))) % Go.Eng.P255)) * Go.Eng.vF (Go.Eng.dF ((Go.Eng.vF (Go.Eng.dF (Go.Eng.vF (Go.Eng.dF ((Go.Eng.vF (Go.Eng.dF A) + Go.Eng.P255 - Go.Eng.vF (Go.Eng.dF B)) % Go.Eng.P255)) * Go.Eng.vF (Go.Eng.dF ((Go.Eng.vF (Go.Eng.dF C) + Go.Eng.vF (Go.Eng.dF D)) % Go.Eng.P255)) % Go.Eng.P255)) + Go.Eng.vF (Go.Eng.dF (Go.Eng.vF (Go.Eng.dF ((Go.Eng.vF (Go.Eng.dF A) + Go.Eng.vF (Go.Eng.dF B)) % Go.Eng.P255)) * Go.Eng.vF (Go.Eng.dF ((Go.Eng.vF (Go.Eng.dF C) + Go.Eng.P255 - Go.Eng.vF (Go.Eng.dF D)) % Go.Eng.P255)) % Go.Eng.P255))) % Go.Eng.P255)) % Go.Eng.P255))] }), ((5 : Nat), { ty := (35 : Nat), segs := [Go.Eng.SV.arr Go.IntKind.u64 (4 : Nat) (Go.Eng.dF (Go.Eng.vF (Go.Eng.dF X) * Go.Eng.vF (Go.Eng.dF (Go.Eng.vF (Go.Eng.dF ((Go.Eng.vF (Go.Eng.dF (Go.Eng.vF (Go.Eng.dF ((Go.Eng.vF (Go.Eng.dF A) + Go.Eng.P255 - Go.Eng.vF (Go.Eng.dF B)) % Go.Eng.P255)) * Go.Eng.vF (Go.Eng.dF ((Go.Eng.vF (Go.Eng.dF C) + Go.Eng.vF (Go.Eng.dF D)) % Go.Eng.P255)) % Go.Eng.P255)) + Go.Eng.P255 - Go.Eng.vF (Go.Eng.dF (Go.Eng.vF (Go.Eng.dF ((Go.Eng.vF (Go.Eng.dF A) + Go.Eng.vF (Go.Eng.dF B)) % Go.Eng.P255)) * Go.Eng.vF (Go.Eng.dF ((Go.Eng.vF (Go.Eng.dF C) + Go.Eng.P255 - Go.Eng.vF (Go.Eng.dF D)) % Go.Eng.P255)) % Go.Eng.P255))) % Go.Eng.P255)) * Go.Eng.vF (Go.Eng.dF ((Go.Eng.vF (Go.Eng.dF (Go.Eng.vF (Go.Eng.dF ((Go.Eng.vF (Go.Eng.dF A) + Go.Eng.P255 - Go.Eng.vF (Go.Eng.dF B)) % Go.Eng.P255)) * Go.Eng.vF (Go.Eng.dF ((Go.Eng.vF (Go.Eng.dF C) + Go.Eng.vF (Go.Eng.dF D)) % Go.Eng.P255)) % Go.Eng.P255)) + Go.Eng.P255 - Go.Eng.vF (Go.Eng.dF (Go.Eng.vF (Go.Eng.dF ((Go.Eng.vF (Go.Eng.dF A) + Go.Eng.vF (Go.Eng.dF B)) % Go.Eng.P255)) * Go.Eng.vF (Go.Eng.dF ((Go.Eng.vF (Go.Eng.dF C) + Go.Eng.P255 - Go.Eng.vF (Go.Eng.dF D)) % Go.Eng.P255)) % Go.Eng.P255))) % Go.Eng.P255)) % Go.Eng.P255)) % Go.Eng.P255))] }), ((6 : Nat), { ty := (35 : Nat), segs := [Go.Eng.SV.arr Go.IntKind.u64 (4 : Nat) (Go.Eng.dF (Go.Eng.vF (Go.Eng.dF (Go.Eng.vF (Go.Eng.dF ((Go.Eng.vF (Go.Eng.dF C) + Go.Eng.vF (Go.Eng.dF D)) % Go.Eng.P255)) * Go.Eng.vF (Go.Eng.dF ((Go.Eng.vF (Go.Eng.dF C) + Go.Eng.vF (Go.Eng.dF D)) % Go.Eng.P255)) % Go.Eng.P255)) * Go.Eng.vF (Go.Eng.dF (Go.Eng.vF (Go.Eng.dF ((Go.Eng.vF (Go.Eng.dF C) + Go.Eng.P255 - Go.Eng.vF (Go.Eng.dF D)) % Go.Eng.P255)) * Go.Eng.vF (Go.Eng.dF ((Go.Eng.vF (Go.Eng.dF C) + Go.Eng.P255 - Go.Eng.vF (Go.Eng.dF D)) % Go.Eng.P255)) % Go.Eng.P255)) % Go.Eng.P255))] }), ((7 : Nat), { ty := (35 : Nat), segs := [Go.Eng.SV.arr Go.IntKind.u64 (4 : Nat) (Go.Eng.dF (Go.Eng.vF (Go.Eng.dF ((Go.Eng.vF (Go.Eng.dF (Go.Eng.vF (Go.Eng.dF ((Go.Eng.vF (Go.Eng.dF C) + Go.Eng.vF (Go.Eng.dF D)) % Go.Eng.P255)) * Go.Eng.vF (Go.Eng.dF ((Go.Eng.vF (Go.Eng.dF C) + Go.Eng.vF (Go.Eng.dF D)) % Go.Eng.P255)) % Go.Eng.P255)) + Go.Eng.P255 - Go.Eng.vF (Go.Eng.dF (Go.Eng.vF (Go.Eng.dF ((Go.Eng.vF (Go.Eng.dF C) + Go.Eng.P255 - Go.Eng.vF (Go.Eng.dF D)) % Go.Eng.P255)) * Go.Eng.vF (Go.Eng.dF ((Go.Eng.vF (Go.Eng.dF C) + Go.Eng.P255 - Go.Eng.vF (Go.Eng.dF D)) % Go.Eng.P255)) % Go.Eng.P255))) % Go.Eng.P255)) * Go.Eng.vF (Go.Eng.dF ((Go.Eng.vF (Go.Eng.dF (Go.Eng.vF (Go.Eng.dF ((Go.Eng.vF (Go.Eng.dF C) + Go.Eng.vF (Go.Eng.dF D)) % Go.Eng.P255)) * Go.Eng.vF (Go.Eng.dF ((Go.Eng.vF (Go.Eng.dF C) + Go.Eng.vF (Go.Eng.dF D)) % Go.Eng.P255)) % Go.Eng.P255)) + Go.Eng.vF (Go.Eng.dF ((121665 : Nat) * Go.Eng.vF (Go.Eng.dF ((Go.Eng.vF (Go.Eng.dF (Go.Eng.vF (Go.Eng.dF ((Go.Eng.vF (Go.Eng.dF C) + Go.Eng.vF (Go.Eng.dF D)) % Go.Eng.P255)) * Go.Eng.vF (Go.Eng.dF ((Go.Eng.vF (Go.Eng.dF C) + Go.Eng.vF (Go.Eng.dF D)) % Go.Eng.P255)) % Go.Eng.P255)) + Go.Eng.P255 - Go.Eng.vF (Go.Eng.dF (Go.Eng.vF (Go.Eng.dF ((Go.Eng.vF (Go.Eng.dF C) + Go.Eng.P255 - Go.Eng.vF (Go.Eng.dF D)) % Go.Eng.P255)) * Go.Eng.vF (Go.Eng.dF ((Go.Eng.vF (Go.Eng.dF C) + Go.Eng.P255 - Go.Eng.vF (Go.Eng.dF D)) % Go.Eng.P255)) % Go.Eng.P255))) % Go.Eng.P255)) % Go.Eng.P255))) % Go.Eng.P255)) % Go.Eng.P255))] })], next := (8 : Nat) }) (ob := [Decidable.decide ((0 : Nat) ≤ n) = Bool.true, n / (8 : Nat) < (32 : Nat), n / (8 : Nat) < (32 : Nat), n % (8 : Nat) < (8 : Nat), (K.getD (n / (8 : Nat)) (0 : Nat) / (2 : Nat) ^ (n % (8 : Nat)) &&& (1 : Nat) == (1 : Nat)) = Bool.true, Go.Eng.vF (Go.Eng.dF C) < Go.Eng.P255, Go.Eng.vF (Go.Eng.dF D) < Go.Eng.P255, Go.Eng.vF (Go.Eng.dF C) < Go.Eng.P255, Go.Eng.vF (Go.Eng.dF D) < Go.Eng.P255, Go.Eng.vF (Go.Eng.dF (Go.Eng.vF (Go.Eng.dF ((Go.Eng.vF (Go.Eng.dF C) + Go.Eng.vF (Go.Eng.dF D)) % Go.Eng.P255)) * Go.Eng.vF (Go.Eng.dF ((Go.Eng.vF (Go.Eng.dF C) + Go.Eng.vF (Go.Eng.dF D)) % Go.Eng.P255)) % Go.Eng.P255)) < Go.Eng.P255, Go.Eng.vF (Go.Eng.dF (Go.Eng.vF (Go.Eng.dF ((Go.Eng.vF (Go.Eng.dF C) + Go.Eng.P255 - Go.Eng.vF (Go.Eng.dF D)) % Go.Eng.P255)) * Go.Eng.vF (Go.Eng.dF ((Go.Eng.vF (Go.Eng.dF C) + Go.Eng.P255 - Go.Eng.vF (Go.Eng.dF D)) % Go.Eng.P255)) % Go.Eng.P255)) < Go.Eng.P255, Go.Eng.vF (Go.Eng.dF A) < Go.Eng.P255, Go.Eng.vF (Go.Eng.dF B) < Go.Eng.P255, Go.Eng.vF (Go.Eng.dF A) < Go.Eng.P255, Go.Eng.vF (Go.Eng.dF B) < Go.Eng.P255, Go.Eng.vF (Go.Eng.dF (Go.Eng.vF (Go.Eng.dF ((Go.Eng.vF (Go.Eng.dF A) + Go.Eng.P255 - Go.Eng.vF (Go.Eng.dF B)) % Go.Eng.P255)) * Go.Eng.vF (Go.Eng.dF ((Go.Eng.vF (Go.Eng.dF C) + Go.Eng.vF (Go.Eng.dF D)) % Go.Eng.P255)) % Go.Eng.P255)) < Go.Eng.P255, Go.Eng.vF (Go.Eng.dF (Go.Eng.vF (Go.Eng.dF ((Go.Eng.vF (Go.Eng.dF A) + Go.Eng.vF (Go.Eng.dF B)) % Go.Eng.P255)) * Go.Eng.vF (Go.Eng.dF ((Go.Eng.vF (Go.Eng.dF C) + Go.Eng.P255 - Go.Eng.vF (Go.Eng.dF D)) % Go.Eng.P255)) % Go.Eng.P255)) < Go.Eng.P255, Go.Eng.vF (Go.Eng.dF (Go.Eng.vF (Go.Eng.dF ((Go.Eng.vF (Go.Eng.dF A) + Go.Eng.P255 - Go.Eng.vF (Go.Eng.dF B)) % Go.Eng.P255)) * Go.Eng.vF (Go.Eng.dF ((Go.Eng.vF (Go.Eng.dF C) + Go.Eng.vF (Go.Eng.dF D)) % Go.Eng.P255)) % Go.Eng.P255)) < Go.Eng.P255, Go.Eng.vF (Go.Eng.dF (Go.Eng.vF (Go.Eng.dF ((Go.Eng.vF (Go.Eng.dF A) + Go.Eng.vF (Go.Eng.dF B)) % Go.Eng.P255)) * Go.Eng.vF (Go.Eng.dF ((Go.Eng.vF (Go.Eng.dF C) + Go.Eng.P255 - Go.Eng.vF (Go.Eng.dF D)) % Go.Eng.P255)) % Go.Eng.P255)) < Go.Eng.P255, Go.Eng.vF (Go.Eng.dF (Go.Eng.vF (Go.Eng.dF ((Go.Eng.vF (Go.Eng.dF C) + Go.Eng.vF (Go.Eng.dF D)) % Go.Eng.P255)) * Go.Eng.vF (Go.Eng.dF ((Go.Eng.vF (Go.Eng.dF C) + Go.Eng.vF (Go.Eng.dF D)) % Go.Eng.P255)) % Go.Eng.P255)) < Go.Eng.P255, Go.Eng.vF (Go.Eng.dF ((121665 : Nat) * Go.Eng.vF (Go.Eng.dF ((Go.Eng.vF (Go.Eng.dF (Go.Eng.vF (Go.Eng.dF ((Go.Eng.vF (Go.Eng.dF C) + Go.Eng.vF (Go.Eng.dF D)) % Go.Eng.P255)) * Go.Eng.vF (Go.Eng.dF ((Go.Eng.vF (Go.Eng.dF C) + Go.Eng.vF (Go.Eng.dF D)) % Go.Eng.P255)) % Go.Eng.P255)) + Go.Eng.P255 - Go.Eng.vF (Go.Eng.dF (Go.Eng.vF (Go.Eng.dF ((Go.Eng.vF (Go.Eng.dF C) + Go.Eng.P255 - Go.Eng.vF (Go.Eng.dF D)) % Go.Eng.P255)) * Go.Eng.vF (Go.Eng.dF ((Go.Eng.vF (Go.Eng.dF C) + Go.Eng.P255 - Go.Eng.vF (Go.Eng.dF D)) % Go.Eng.P255)) % Go.Eng.P255))) % Go.Eng.P255)) % Go.Eng.P255)) < Go.Eng.P255, (K.getD (n / (8 : Nat)) (0 : Nat) / (2 : Nat) ^ (n % (8 : Nat)) &&& (1 : Nat) == (1 : Nat)) = Bool.true]) (sc' := []) (by kernel_rfl) ?_ ?_
      · repeat' (first | exact True.intro | refine And.intro ?_ ?_)
        all_goals first | omega | (simp; done) | (rw [and_one, hbit]; simpa [vB] using hE) | (simp only [vdP, eA, eB, eC, eD, hXm]; first | assumption | exact hlt _)
      · rw [if_pos hE] at hr
        have := ih (by omega) (stX3 C D A B) (stZ3 C D A B X) (stX2 C D) (stZ2 C D) (hlt _) (hlt _) (hlt _) (hlt _) hr
        refine Hold.cast this ?_
        simp only [vdP, eA, eB, eC, eD, hXm, vF1]
        rfl
    · refine hold_cut mixed ok16b (unroll := false) (f := 300) (sc := [true, false, false]) (ks := [2,4,5,6,7,8,9,10]) (bs := [0,2,3,4,5,6,7]) (nx := 8) (st' := [Go.Eng.It.lp [(0 : Nat), (1 : Nat), (0 : Nat), (1 : Nat), (1 : Nat), (1 : Nat), (1 : Nat), (1 : Nat)], Go.Eng.It.blk (0 : Nat), Go.Eng.It.at [(1 : Nat), (1 : Nat), (1 : Nat), (1 : Nat), (1 : Nat), (1 : Nat)]]) (σ' := { nt := (112 : Nat), slots := [((2 : Nat), Go.Eng.SV.ptr (0 : Nat) (0 : Nat) (Go.Eng.Ix.c (0 : Nat))), ((4 : Nat), Go.Eng.SV.ptr (2 : Nat) (0 : Nat) (Go.Eng.Ix.c (0 : Nat))), ((5 : Nat), Go.Eng.SV.ptr (3 : Nat) (0 : Nat) (Go.Eng.Ix.c (0 : Nat))), ((6 : Nat), Go.Eng.SV.ptr (4 : Nat) (0 : Nat) (Go.Eng.Ix.c (0 : Nat))), ((7 : Nat), Go.Eng.SV.ptr (5 : Nat) (0 : Nat) (Go.Eng.Ix.c (0 : Nat))), ((8 : Nat), Go.Eng.SV.ptr (6 : Nat) (0 : Nat) (Go.Eng.Ix.c (0 : Nat))), ((9 : Nat), Go.Eng.SV.ptr (7 : Nat) (0 : Nat) (Go.Eng.Ix.c (0 : Nat))), ((10 : Nat), Go.Eng.SV.i Go.IntKind.i64 ((↑n : Int) - (1 : Int)))], blks := [((0 : Nat), { ty := (31 : Nat), segs := [Go.Eng.SV.arr Go.IntKind.u8 (32 : Nat) K] }), ((2 : Nat), { ty := (31 : Nat), segs := [Go.Eng.SV.arr Go.IntKind.u8 (32 : Nat) [(0 : Nat), (0 : Nat), (0 : Nat), (0 : Nat), (0 : Nat), (0 : Nat), (0 : Nat), (0 : Nat), (0 : Nat), (0 : Nat), (0 : Nat), (0 : Nat), (0 : Nat), (0 : Nat), (0 : Nat), (0 : Nat), (0 : Nat), (0 : Nat), (0 : Nat), (0 : Nat), (0 : Nat), (0 : Nat), (0 : Nat), (0 : Nat), (0 : Nat), (0 : Nat), (0 : Nat), (0 : Nat), (0 : Nat), (0 : Nat), (0 : Nat), (0 : Nat)]] }), ((3 : Nat), { ty := (35 : Nat), segs := [Go.Eng.SV.arr Go.IntKind.u64 (4 : Nat) (Go.Eng.dF X)] }), ((4 : Nat), { ty := (35 : Nat), segs := [Go.Eng.SV.arr Go.IntKind.u64 (4 : Nat) (Go.Eng.dF (Go.Eng.vF (Go.Eng.dF (Go.Eng.vF (Go.Eng.dF ((Go.Eng.vF (Go.Eng.dF A) + Go.Eng.vF (Go.Eng.dF B)) % Go.Eng.P255)) * Go.Eng.vF (Go.Eng.dF ((Go.Eng.vF (Go.Eng.dF A) + Go.Eng.vF (Go.Eng.dF B)) % Go.Eng.P255)) % Go.Eng.P255)) * Go.Eng.vF (Go.Eng.dF (Go.Eng.vF (Go.Eng.dF ((Go.Eng.vF (Go.Eng.dF A) + Go.Eng.P255 - Go.Eng.vF (Go.Eng.dF B)) % Go.Eng.P255)) * Go.Eng.vF (Go.Eng.dF ((Go.Eng.vF (Go.Eng.dF A) + Go.Eng.P255 - Go.Eng.vF (Go.Eng.dF B)) % Go.Eng.P255)) % Go.Eng.P255)) % Go.Eng.P255))] }), ((5 : Nat), { ty := (35 : Nat), segs := [Go.Eng.SV.arr Go.IntKind.u64 (4 : Nat) (Go.Eng.dF (Go.Eng.vF (Go.Eng.dF ((Go.Eng.vF (Go.Eng.dF (Go.Eng.vF (Go.Eng.dF ((Go.Eng.vF (Go.Eng.dF A) + Go.Eng.vF (Go.Eng.dF B)) % Go.Eng.P255)) * Go.Eng.vF (Go.Eng.dF ((Go.Eng.vF (Go.Eng.dF A) + Go.Eng.vF (Go.Eng.dF B)) % Go.Eng.P255)) % Go.Eng.P255)) + Go.Eng.P255 - Go.Eng.vF (Go.Eng.dF (Go.Eng.vF (Go.Eng.dF ((Go.Eng.vF (Go.Eng.dF A) + Go.Eng.P255 - Go.Eng.vF (Go.Eng.dF B)) % Go.Eng.P255)) * Go.Eng.vF (Go.Eng.dF ((Go.Eng.vF (Go.Eng.dF A) + Go.Eng.P255 - Go.Eng.vF (Go.Eng.dF B)) % Go.Eng.P255)) % Go.Eng.P255))) % Go.Eng.P255)) * Go.Eng.vF (Go.Eng.dF ((Go.Eng.vF (Go.Eng.dF (Go.Eng.vF (Go.Eng.dF ((Go.Eng.vF (Go.Eng.dF A) + Go.Eng.vF (Go.Eng.dF B)) % Go.Eng.P255)) * Go.Eng.vF (Go.Eng.dF ((Go.Eng.vF (Go.Eng.dF A) + Go.Eng.vF (Go.Eng.dF B)) % Go.Eng.P255)) % Go.Eng.P255)) + Go.Eng.vF (Go.Eng.dF ((121665 : Nat) * Go.Eng.vF (Go.Eng.dF ((Go.Eng.vF (Go.Eng.dF (Go.Eng.vF (Go.Eng.dF ((Go.Eng.vF (Go.Eng.dF A) + Go.Eng.vF (Go.Eng.dF B)) % Go.Eng.P255)) * Go.Eng.vF (Go.Eng.dF ((Go.Eng.vF (Go.Eng.dF A) + Go.Eng.vF (Go.Eng.dF B)) % Go.Eng.P255)) % Go.Eng.P255)) + Go.Eng.P255 - Go.Eng.vF (Go.Eng.dF (Go.Eng.vF (Go.Eng.dF ((Go.Eng.vF (Go.Eng.dF A) + Go.Eng.P255 - Go.Eng.vF (Go.Eng.dF B)) % Go.Eng.P255)) * Go.Eng.vF (Go.Eng.dF ((Go.Eng.vF (Go.Eng.dF A) + Go.Eng.P255 - Go.Eng.vF (Go.Eng.dF B)) % Go.Eng.P255)) % Go.Eng.P255))) % Go.Eng.P255)) % Go.Eng.P255))) % Go.Eng.P255)) % Go.Eng.P255))] }), ((6 : Nat), { ty := (35 : Nat), segs := [Go.Eng.SV.arr Go.IntKind.u64 (4 : Nat) (Go.Eng.dF (Go.Eng.vF (Go.Eng.dF ((Go.Eng.vF (Go.Eng.dF (Go.Eng.vF (Go.Eng.dF ((Go.Eng.vF (Go.Eng.dF C) + Go.Eng.P255 - Go.Eng.vF (Go.Eng.dF D)) % Go.Eng.P255)) * Go.Eng.vF (Go.Eng.dF ((Go.Eng.vF (Go.Eng.dF A) + Go.Eng.vF (Go.Eng.dF B)) % Go.Eng.P255)) % Go.Eng.P255)) + Go.Eng.vF (Go.Eng.dF (Go.Eng.vF (Go.Eng.dF ((Go.Eng.vF (Go.Eng.dF C) + Go.Eng.vF (Go.Eng.dF D)) % Go.Eng.P255)) * Go.Eng.vF (Go.Eng.dF ((Go.Eng.vF (Go.Eng.dF A) + Go.Eng.P255 - Go.Eng.vF (Go.Eng.dF B)) % Go.Eng.P255)) % Go.Eng.P255))) % Go.Eng.P255)) * Go.Eng.vF (Go.Eng.dF ((Go.Eng.vF (Go.Eng.dF (Go.Eng.vF (Go.Eng.dF ((Go.Eng.vF (Go.Eng.dF C) + Go.Eng.P255 - Go.Eng.vF (Go.Eng.dF D)) % Go.Eng.P255)) * Go.Eng.vF (Go.Eng.dF ((Go.Eng.vF (Go.Eng.dF A) + Go.Eng.vF (Go.Eng.dF B)) % Go.Eng.P255)) % Go.Eng.P255)) + Go.Eng.vF (Go.Eng.dF (Go.Eng.vF (Go.Eng.dF ((Go.Eng.vF (Go.Eng.dF C) + Go.Eng.vF (Go.Eng.dF D)) % Go.Eng.P255)) * Go.Eng.vF (Go.Eng.dF ((Go.Eng.vF (Go.Eng.dF A) + Go.Eng.P255 - Go.Eng.vF (Go.Eng.dF B)) % Go.Eng.P255)) % Go.Eng.P255))) % Go.Eng.P255)) % Go.Eng.P255))] }), ((7 : Nat), { ty := (35 : Nat), segs := [Go.Eng.SV.arr Go.IntKind.u64 (4 : Nat) (Go.Eng.dF (Go.Eng.vF (Go.Eng.dF X) * Go.Eng.vF (Go.Eng.dF (Go.Eng.vF (Go.Eng.dF ((Go.Eng.vF (Go.Eng.dF (Go.Eng.vF (Go.Eng.dF ((Go.Eng.vF (Go.Eng.dF C) + Go.Eng.P255 - Go.Eng.vF (Go.Eng.dF D)) % Go.Eng.P255)) * Go.Eng.vF (Go.Eng.dF ((Go.Eng.vF (Go.Eng.dF A) + Go.Eng.vF (Go.Eng.dF B)) % Go.Eng.P255)) % Go.Eng.P255)) + Go.Eng.P255 - Go.Eng.vF (Go.Eng.dF (Go.Eng.vF (Go.Eng.dF ((Go.Eng.vF (Go.Eng.dF C) + Go.Eng.vF (Go.Eng.dF D)) % Go.Eng.P255)) * Go.Eng.vF (Go.Eng.dF ((Go.Eng.vF (Go.Eng.dF A) + Go.Eng.P255 - Go.Eng.vF (Go.Eng.dF B)) % Go.Eng.P255)) % Go.Eng.P255))) % Go.Eng.P255)) * Go.Eng.vF (Go.Eng.dF ((Go.Eng.vF (Go.Eng.dF (Go.Eng.vF (Go.Eng.dF ((Go.Eng.vF (Go.Eng.dF C) + Go.Eng.P255 - Go.Eng.vF (Go.Eng.dF D)) % Go.Eng.P255)) * Go.Eng.vF (Go.Eng.dF ((Go.Eng.vF (Go.Eng.dF A) + Go.Eng.vF (Go.Eng.dF B)) % Go.Eng.P255)) % Go.Eng.P255)) + Go.Eng.P255 - Go.Eng.vF (Go.Eng.dF (Go.Eng.vF (Go.Eng.dF ((Go.Eng.vF (Go.Eng.dF C) + Go.Eng.vF (Go.Eng.dF D)) % Go.Eng.P255)) * Go.Eng.vF (Go.Eng.dF ((Go.Eng.vF (Go.Eng.dF A) + Go.Eng.P255 - Go.Eng.vF (Go.Eng.dF B)) % Go.Eng.P255)) % Go.Eng.P255))) % Go.Eng.P255)) % Go.Eng.P255)) % Go.Eng.P255))] })], next := (8 : Nat) }) (ob := [Decidable.decide ((0 : Nat) ≤ n) = Bool.true, n / (8 : Nat) < (32 : Nat), n / (8 : Nat) < (32 : Nat), n % (8 : Nat) < (8 : Nat), (K.getD (n / (8 : Nat)) (0 : Nat) / (2 : Nat) ^ (n % (8 : Nat)) &&& (1 : Nat) == (1 : Nat)) = Bool.false, Go.Eng.vF (Go.Eng.dF A) < Go.Eng.P255, Go.Eng.vF (Go.Eng.dF B) < Go.Eng.P255, Go.Eng.vF (Go.Eng.dF A) < Go.Eng.P255, Go.Eng.vF (Go.Eng.dF B) < Go.Eng.P255, Go.Eng.vF (Go.Eng.dF (Go.Eng.vF (Go.Eng.dF ((Go.Eng.vF (Go.Eng.dF A) + Go.Eng.vF (Go.Eng.dF B)) % Go.Eng.P255)) * Go.Eng.vF (Go.Eng.dF ((Go.Eng.vF (Go.Eng.dF A) + Go.Eng.vF (Go.Eng.dF B)) % Go.Eng.P255)) % Go.Eng.P255)) < Go.Eng.P255, Go.Eng.vF (Go.Eng.dF (Go.Eng.vF (Go.Eng.dF ((Go.Eng.vF (Go.Eng.dF A) + Go.Eng.P255 - Go.Eng.vF (Go.Eng.dF B)) % Go.Eng.P255)) * Go.Eng.vF (Go.Eng.dF ((Go.Eng.vF (Go.Eng.dF A) + Go.Eng.P255 - Go.Eng.vF (Go.Eng.dF B)) % Go.Eng.P255)) % Go.Eng.P255)) < Go.Eng.P255, Go.Eng.vF (Go.Eng.dF C) < Go.Eng.P255, Go.Eng.vF (Go.Eng.dF D) < Go.Eng.P255, Go.Eng.vF (Go.Eng.dF C) < Go.Eng.P255, Go.Eng.vF (Go.Eng.dF D) < Go.Eng.P255, Go.Eng.vF (Go.Eng.dF (Go.Eng.vF (Go.Eng.dF ((Go.Eng.vF (Go.Eng.dF C) + Go.Eng.P255 - Go.Eng.vF (Go.Eng.dF D)) % Go.Eng.P255)) * Go.Eng.vF (Go.Eng.dF ((Go.Eng.vF (Go.Eng.dF A) + Go.Eng.vF (Go.Eng.dF B)) % Go.Eng.P255)) % Go.Eng.P255)) < Go.Eng.P255, Go.Eng.vF (Go.Eng.dF (Go.Eng.vF (Go.Eng.dF ((Go.Eng.vF (Go.Eng.dF C) + Go.Eng.vF (Go.Eng.dF D)) % Go.Eng.P255)) * Go.Eng.vF (Go.Eng.dF ((Go.Eng.vF (Go.Eng.dF A) + Go.Eng.P255 - Go.Eng.vF (Go.Eng.dF B)) % Go.Eng.P255)) % Go.Eng.P255)) < Go.Eng.P255, Go.Eng.vF (Go.Eng.dF (Go.Eng.vF (Go.Eng.dF ((Go.Eng.vF (Go.Eng.dF C) + Go.Eng.P255 - Go.Eng.vF (Go.Eng.dF D)) % Go.Eng.P255)) * Go.Eng.vF (Go.Eng.dF ((Go.Eng.vF (Go.Eng.dF A) + Go.Eng.vF (Go.Eng.dF B)) % Go.Eng.P255)) % Go.Eng.P255)) < Go.Eng.P255, Go.Eng.vF (Go.Eng.dF (Go.Eng.vF (Go.Eng.dF ((Go.Eng.vF (Go.Eng.dF C) + Go.Eng.vF (Go.Eng.dF D)) % Go.Eng.P255)) * Go.Eng.vF (Go.Eng.dF ((Go.Eng.vF (Go.Eng.dF A) + Go.Eng.P255 - Go.Eng.vF (Go.Eng.dF B)) % Go.Eng.P255)) % Go.Eng.P255)) < Go.Eng.P255, Go.Eng.vF (Go.Eng.dF (Go.Eng.vF (Go.Eng.dF ((Go.Eng.vF (Go.Eng.dF A) + Go.Eng.vF (Go.Eng.dF B)) % Go.Eng.P255)) * Go.Eng.vF (Go.Eng.dF ((Go.Eng.vF (Go.Eng.dF A) + Go.Eng.vF (Go.Eng.dF B)) % Go.Eng.P255)) % Go.Eng.P255)) < Go.Eng.P255, Go.Eng.vF (Go.Eng.dF ((121665 : Nat) * Go.Eng.vF (Go.Eng.dF ((Go.Eng.vF (Go.Eng.dF (Go.Eng.vF (Go.Eng.dF ((Go.Eng.vF (Go.Eng.dF A) + Go.Eng.vF (Go.Eng.dF B)) % Go.Eng.P255)) * Go.Eng.vF (Go.Eng.dF ((Go.Eng.vF (Go.Eng.dF A) + Go.Eng.vF (Go.Eng.dF B)) % Go.Eng.P255)) % Go.Eng.P255)) + Go.Eng.P255 - Go.Eng.vF (Go.Eng.dF (Go.Eng.vF (Go.Eng.dF ((Go.Eng.vF (Go.Eng.dF A) + Go.Eng.P255 - Go.Eng.vF (Go.Eng.dF B)) % Go.Eng.P255)) * Go.Eng.vF (Go.Eng.dF ((Go.Eng.vF (Go.Eng.dF A) + Go.Eng.P255 - Go.Eng.vF (Go.Eng.dF B)) % Go.Eng.P255)) % Go.Eng.P255))) % Go.Eng.P255)) % Go.Eng.P255)) < Go.Eng.P255, (K.getD (n / (8 : Nat)) (0 : Nat) / (2 : Nat) ^ (n % (8 : Nat)) &&& (1 : Nat) == (1 : Nat)) = Bool.false]) (sc' := []) (by kernel_rfl) ?_ ?_
      · repeat' (first | exact True.intro | refine And.intro ?_ ?_)
        all_goals first | omega | (simp; done) | (rw [and_one, hbit]; simpa [vB] using hE) | (simp only [vdP, eA, eB, eC, eD, hXm]; first | assumption | exact hlt _)
      · rw [if_neg hE] at hr
        have := ih (by omega) (stX2 A B) (stZ2 A B) (stX3 A B C D) (stZ3 A B C D X) (hlt _) (hlt _) (hlt _) (hlt _) hr
        refine Hold.cast this ?_
        simp only [vdP, eA, eB, eC, eD, hXm, vF1]
        rfl
end
theorem c36 : ∀ args res ob, e36 args = some (res, ob) → All ob → Contract Try.prog 66 args res := by
  intro args res ob h hob
  simp only [e36, t2b] at h
  split at h
  · rename_i k u
    cases h
    refine contract Try.func66 (body := bodyOf Try.f66) rfl (by kernel_rfl) (by kernel_rfl) rfl ?_
    rintro ⟨hk, hu, _⟩ w0 S
    have hm := vB_lt (mask_ok hu)
    have hlt : ∀ E, E % P255 < P255 := fun E => Nat.mod_lt _ (by decide)
    refine hold_cut mixed ok16b (unroll := false) (f := 100) (sc := []) (ks := [2,4,5,6,7,8,9,10]) (bs := [0,2,3,4,5,6,7]) (nx := 8) (st' := [Go.Eng.It.lp [(0 : Nat), (1 : Nat), (0 : Nat), (1 : Nat), (1 : Nat), (1 : Nat), (1 : Nat), (1 : Nat)], Go.Eng.It.blk (0 : Nat), Go.Eng.It.at [(1 : Nat), (1 : Nat), (1 : Nat), (1 : Nat), (1 : Nat), (1 : Nat)]]) (σ' := { nt := (112 : Nat), slots := [((2 : Nat), Go.Eng.SV.ptr (0 : Nat) (0 : Nat) (Go.Eng.Ix.c (0 : Nat))), ((4 : Nat), Go.Eng.SV.ptr (2 : Nat) (0 : Nat) (Go.Eng.Ix.c (0 : Nat))), ((5 : Nat), Go.Eng.SV.ptr (3 : Nat) (0 : Nat) (Go.Eng.Ix.c (0 : Nat))), ((6 : Nat), Go.Eng.SV.ptr (4 : Nat) (0 : Nat) (Go.Eng.Ix.c (0 : Nat))), ((7 : Nat), Go.Eng.SV.ptr (5 : Nat) (0 : Nat) (Go.Eng.Ix.c (0 : Nat))), ((8 : Nat), Go.Eng.SV.ptr (6 : Nat) (0 : Nat) (Go.Eng.Ix.c (0 : Nat))), ((9 : Nat), Go.Eng.SV.ptr (7 : Nat) (0 : Nat) (Go.Eng.Ix.c (0 : Nat))), ((10 : Nat), Go.Eng.SV.c Go.IntKind.i64 (255 : Int))], blks := [((0 : Nat), { ty := (31 : Nat), segs := [Go.Eng.SV.arr Go.IntKind.u8 (32 : Nat) (Go.Eng.G.clampL k)] }), ((2 : Nat), { ty := (31 : Nat), segs := [Go.Eng.SV.arr Go.IntKind.u8 (32 : Nat) [(0 : Nat), (0 : Nat), (0 : Nat), (0 : Nat), (0 : Nat), (0 : Nat), (0 : Nat), (0 : Nat), (0 : Nat), (0 : Nat), (0 : Nat), (0 : Nat), (0 : Nat), (0 : Nat), (0 : Nat), (0 : Nat), (0 : Nat), (0 : Nat), (0 : Nat), (0 : Nat), (0 : Nat), (0 : Nat), (0 : Nat), (0 : Nat), (0 : Nat), (0 : Nat), (0 : Nat), (0 : Nat), (0 : Nat), (0 : Nat), (0 : Nat), (0 : Nat)]] }), ((3 : Nat), { ty := (35 : Nat), segs := [Go.Eng.SV.arr Go.IntKind.u64 (4 : Nat) (Go.Eng.dF (Go.Eng.vF (Go.Eng.dF (Go.Eng.vB (u.set (31 : Nat) (u.getD (31 : Nat) (0 : Nat) &&& (127 : Nat))))) % Go.Eng.P255))] }), ((4 : Nat), { ty := (35 : Nat), segs := [Go.Eng.SV.arr Go.IntKind.u64 (4 : Nat) [(1 : Nat), (0 : Nat), (0 : Nat), (0 : Nat)]] }), ((5 : Nat), { ty := (35 : Nat), segs := [Go.Eng.SV.arr Go.IntKind.u64 (4 : Nat) [(0 : Nat), (0 : Nat), (0 : Nat), (0 : Nat)]] }), ((6 : Nat), { ty := (35 : Nat), segs := [Go.Eng.SV.arr Go.IntKind.u64 (4 : Nat) (Go.Eng.dF (Go.Eng.vF (Go.Eng.dF (Go.Eng.vB (u.set (31 : Nat) (u.getD (31 : Nat) (0 : Nat) &&& (127 : Nat))))) % Go.Eng.P255))] }), ((7 : Nat), { ty := (35 : Nat), segs := [Go.Eng.SV.arr Go.IntKind.u64 (4 : Nat) [(1 : Nat), (0 : Nat), (0 : Nat), (0 : Nat)]] })], next := (8 : Nat) }) (ob := []) (sc' := []) (by kernel_rfl) trivial ?_
    have := c36_in (w0 := w0) (S := S) (clampL k) (bits_clamp hk) (vB (maskL u) % P255) (hlt _) (multV k u) rfl 256 (Nat.le_refl _) 1 0 (vB (maskL u) % P255) 1 (by decide) (by decide) (hlt _) (by decide) rfl
    refine Hold.weaken (sl' := (s36 (clampL k) 0 0 0 0 0 (.i .i64 255)).slots) (Hold.cast this ?_) (by simp [wks, wk, wk0, wka, s36])
    rw [show vF (dF (vB (u.set 31 (u.getD 31 0 &&& 127)))) = vB (maskL u) from vd hm]
    simp only [s36, dF1, dF0]
    rfl
  · cases h
theorem ok16c : CtrOk Try.prog T16c := addC_ok ok16b c36
end Go.Eng.G

/- From a body to the contract of a call that is handed blocks to write, or that hands out new ones. -/
namespace Go.Eng
open Go.RowKit

/-- the blocks that are handed out: those that came in, and new ones -/
def outIds (m : Nat) (news : List Nat) : List Nat := List.range m ++ news
def getBs (blks : List (Nat × Bk)) : List Nat → Option (List Bk)
  | [] => some []
  | id :: r => match getB blks id, getBs blks r with
    | some b, some l => if (idss b.segs).isEmpty then some (b :: l) else none
    | _, _ => none
def restB (out : List Nat) (blks : List (Nat × Bk)) : List (Nat × Bk) := blks.filter fun p => !out.contains p.1
def ptrOf : SV → Option Nat
  | .ptr id 0 (.c 0) => some id
  | _ => none
theorem ptrOf_ok {s : SV} {id : Nat} (h : ptrOf s = some id) : s = .ptr id 0 (.c 0) := by
  unfold ptrOf at h
  split at h
  · cases h; rfl
  · cases h
theorem deepV_tup {H : List (Nat × Bk)} {f : Nat} {l : List SV} : deepV H f (.tup l) = none := by
  cases f with
  | zero => rfl
  | succ f => simp only [deepV, SV.rd, SV.isTup, Bool.not_true, Bool.and_false, Bool.false_eq_true, if_false]
def viewM (out : List Nat) (blks : List (Nat × Bk)) (s : SV) : Option SV :=
  if s.ids.isEmpty && !s.isTup then some s else match ptrOf s with
  | some id => match idxOf id out 0 with | some k => some (.ptr k 0 (.c 0)) | none => none
  | none => match deepV (restB out blks) 80 s with | some r => if r.ids.isEmpty then some r else none | none => none

def retOneV (P : Program) (vw : SV → Option SV) (σ : St) (r : ResultVar) : Option SV :=
  match r with
  | .tmp t => match getS σ.slots t with | some s => vw s.rd | none => none
  | .cell ad t => match getS σ.slots ad, aggT P t, szT P t with
    | some (.ptr id off ix), some agg, some size => match getB σ.blks id with
      | some bk => match loadB bk agg size off ix with
        | some (s, []) => vw s.rd
        | _ => none
      | none => none
    | _, _, _ => none
def retAllV (P : Program) (vw : SV → Option SV) (σ : St) : List ResultVar → Option (List SV)
  | [] => some []
  | r :: l => match retOneV P vw σ r, retAllV P vw σ l with
    | some s, some t => some (s :: t)
    | _, _ => none
def retM (P : Program) (rs : Array ResultVar) (news : List Nat) (σ : St) : Option MRes :=
  match getBs σ.blks (outIds σ.m news), retAllV P (viewM (outIds σ.m news) σ.blks) σ rs.toList with
  | some bs, some l => if (outIds σ.m news).Nodup then some ⟨joinR l, bs.take σ.m, bs.drop σ.m⟩ else none
  | _, _ => none

def FinQ (P : Program) (fn : Func) (F : Fr) (S : Own) (r : MRes) (a : Act) (w : World) : Prop :=
  a.defers = [] ∧ ∃ (v : Value) (β' : Nat → Nat), (results fn a.tmps).run P w = .ok v w ∧ (∀ i, i < F.m → β' i = F.pin i) ∧ Bel F w ∧
    relV β' (owS S (numB 0 (r.upd ++ r.new)) β') w r.res v ∧ HSat β' (owS S (numB 0 (r.upd ++ r.new)) β') w (numB 0 (r.upd ++ r.new)) ∧
    (∀ i j bi bj, (i, bi) ∈ numB 0 (r.upd ++ r.new) → (j, bj) ∈ numB 0 (r.upd ++ r.new) → live β' i bi → live β' j bj → β' i = β' j → i = j) ∧
    (∀ i bk, (i, bk) ∈ numB 0 (r.upd ++ r.new) → live β' i bk → i < F.m ∨ F.w.heap.size ≤ β' i)
def FinM (P : Program) (fn : Func) (F : Fr) (S : Own) (r : MRes) : Exit → Act → World → Prop
  | .normal, a, w => FinQ P fn F S r a w
  | .ret, a, w => FinQ P fn F S r a w
  | _, _, _ => False

section
variable {P : Program} {fn : Func} {body : Code} {w0 : Fr} {w : World} {S : Own} {σ : St} {β : Nat → Nat} {a : Act}

instance {r : MRes} : ExitOk (FinM P fn w0 S r) := ⟨fun _ _ _ h => h, fun _ _ h => h⟩

theorem getBs_ok {blks : List (Nat × Bk)} : ∀ {ids : List Nat} {bs : List Bk}, getBs blks ids = some bs → bs.length = ids.length ∧
    ∀ (k id : Nat), ids[k]? = some id → ∃ b, bs[k]? = some b ∧ getB blks id = some b ∧ idss b.segs = [] := by
  intro ids
  induction ids with
  | nil => intro bs h; simp only [getBs] at h; cases h; exact ⟨rfl, fun k id h => by simp at h⟩
  | cons id ids ih =>
    intro bs h
    simp only [getBs] at h
    split at h
    · rename_i b l hb hl
      split at h
      · rename_i he
        cases h
        obtain ⟨h1, h2⟩ := ih hl
        refine ⟨by simp [h1], fun k i hk => ?_⟩
        cases k with
        | zero => simp at hk; subst hk; exact ⟨b, rfl, hb, by simpa using he⟩
        | succ k => simp at hk; obtain ⟨c, hc⟩ := h2 k i hk; exact ⟨c, by simpa using hc.1, hc.2⟩
      · cases h
    · cases h

theorem retOneV_ok (hS : Sat w0 S σ β a w) {vw : SV → Option SV} {β' : Nat → Nat} {ow' : Own} (hvw : ∀ s r v, vw s = some r → relV β (owS S σ.blks β) w s v → relV1 β' ow' w r v) {r : ResultVar} {s : SV} (h : retOneV P vw σ r = some s) :
    ∃ v, (resF a.tmps r).run P w = .ok v w ∧ relV1 β' ow' w s v := by
  cases r with
  | tmp t =>
    simp only [retOneV] at h
    split at h
    · rename_i s' hs
      exact ⟨_, rfl, hvw _ _ _ h (rd_ok (hS.slot t s' (getS_mem hs)))⟩
    · cases h
  | cell ad t =>
    simp only [retOneV] at h
    split at h
    · rename_i id off ix agg size hs ha hsz
      split at h
      · rename_i bk hg
        split at h
        · rename_i s' hl
          have h1 := relV_scalar rfl rfl (hS.slot ad _ (getS_mem hs))
          simp only [rel, List.cons.injEq, and_true] at h1
          obtain ⟨cs, hr, hb⟩ := (hS.blk id bk (getB_both hg).1).1 (getB_both hg).2
          obtain ⟨v, hrun, hv⟩ := loadB_ok (P := P) hl trivial ha hsz hr hb
          refine ⟨v, ?_, hvw _ _ _ h (rd_ok hv)⟩
          simp only [Instr.loadAt, Instr.sureAddr, Sem.run_bind, Sem.run_pure, Result.andThen_ok] at hrun
          simp only [resF, h1, asAddr, Sem.run_bind, Sem.run_pure, Result.andThen_ok]
          exact hrun
        · cases h
      · cases h
    · cases h

theorem retAllV_ok (hS : Sat w0 S σ β a w) {vw : SV → Option SV} {β' : Nat → Nat} {ow' : Own} (hvw : ∀ s r v, vw s = some r → relV β (owS S σ.blks β) w s v → relV1 β' ow' w r v) : ∀ {rs : List ResultVar} {l : List SV}, retAllV P vw σ rs = some l →
    ∃ vs, (rs.mapM (resF a.tmps)).run P w = .ok vs w ∧ relVs β' ow' w l vs ∧ vs.length = rs.length := by
  intro rs
  induction rs with
  | nil => intro l h; simp only [retAllV] at h; cases h; exact ⟨[], by simp, rfl, rfl⟩
  | cons r rs ih =>
    intro l h
    simp only [retAllV] at h
    split at h
    · rename_i s t h1 h2
      cases h
      obtain ⟨v, hv, hr⟩ := retOneV_ok hS hvw h1
      obtain ⟨vs, hvs, hrs, hlen⟩ := ih h2
      refine ⟨v :: vs, ?_, ⟨v, vs, rfl, hr, hrs⟩, by simp [hlen]⟩
      rw [List.mapM_cons, Sem.run_bind, hv]
      simp only [Result.andThen_ok, Sem.run_bind, hvs, Sem.run_pure]
    · cases h

theorem joined {rs : Array ResultVar} {l : List SV} {vs : List Value} {β' : Nat → Nat} {ow' : Own} (hf : fn.results = rs) (hvs : (rs.toList.mapM (resF a.tmps)).run P w = .ok vs w) (hrs : relVs β' ow' w l vs) :
    ∃ v, (results fn a.tmps).run P w = .ok v w ∧ relV β' ow' w (joinR l) v := by
  subst hf
  have hm : (fn.results.mapM (resF a.tmps)).run P w = .ok vs.toArray w := by
    rw [Array.mapM_eq_mapM_toList, Sem.run_map, hvs]; rfl
  have hll : l.length = vs.length := by
    clear hm hvs
    induction l generalizing vs with
    | nil => rw [hrs]; rfl
    | cons s l ih => obtain ⟨v, t, rfl, _, h2⟩ := hrs; simp [ih h2]
  by_cases h1 : vs.length = 1
  · obtain ⟨v, rfl⟩ := List.length_eq_one_iff.1 h1
    obtain ⟨s, rfl⟩ := List.length_eq_one_iff.1 (hll.trans h1)
    obtain ⟨v', t, e, hr, _⟩ := hrs
    cases e
    refine ⟨v, ?_, relV_up hr⟩
    rw [results_eq, Sem.run_bind, hm]
    simp
  · refine ⟨.tuple vs.toArray, ?_, ?_⟩
    · rw [results_eq, Sem.run_bind, hm]
      simp [h1]
    · have : joinR l = .tup l := by
        cases l with
        | nil => rfl
        | cons s l => cases l with
          | nil => simp at hll; exact absurd hll.symm h1
          | cons t l => rfl
      rw [this]
      exact ⟨vs, rfl, hrs⟩

theorem out_low {m i : Nat} {news : List Nat} (h : i < m) : (outIds m news)[i]? = some i := by
  unfold outIds
  rw [List.getElem?_append_left (by simpa using h)]
  simp [h]
theorem out_high {m i id : Nat} {news : List Nat} (hi : m ≤ i) (hn : (outIds m news).Nodup) (h : (outIds m news)[i]? = some id) : m ≤ id := by
  rcases Nat.lt_or_ge id m with hl | hl
  · exfalso
    have h1 := out_low (news := news) hl
    have hi' := (List.getElem?_eq_some_iff.1 h).1
    have := (List.getElem?_inj hi' hn).1 (h.trans h1.symm)
    omega
  · exact hl

theorem hold_finM {res r : MRes} {news : List Nat} (h : retM P fn.results news σ = some r) (he : r = res) : Hold P body (FinM P fn w0 S res) w0 S [] σ := by
  intro β a w hS
  subst he
  unfold retM at h
  split at h
  · rename_i bs l hbs hl
    split at h
    · rename_i hnd
      cases h
      have hm : σ.m = w0.m := hS.pins.1
      obtain ⟨hblen, hbget⟩ := getBs_ok hbs
      have htd : bs.take σ.m ++ bs.drop σ.m = bs := List.take_append_drop _ _
      have hplain : ∀ b ∈ bs, b.row = false := by
        intro b hb
        obtain ⟨k, hk, rfl⟩ := List.getElem_of_mem hb
        obtain ⟨c, h1, h2, _⟩ := hbget k ((outIds σ.m news)[k]'(by omega)) (by simp)
        rw [List.getElem?_eq_getElem hk] at h1
        cases h1
        exact (getB_both h2).2
      have hmemN : ∀ k b, (k, b) ∈ numB 0 bs → ∃ id, (outIds σ.m news)[k]? = some id ∧ getB σ.blks id = some b ∧ idss b.segs = [] := by
        intro k b hk
        obtain ⟨_, hk⟩ := (numB_plain hplain).1 hk
        simp only [Nat.sub_zero] at hk
        have hlt := (List.getElem?_eq_some_iff.1 hk).1
        refine ⟨(outIds σ.m news)[k]'(by omega), by simp, ?_⟩
        obtain ⟨c, h1, h2⟩ := hbget k ((outIds σ.m news)[k]'(by omega)) (by simp)
        rw [hk] at h1
        cases h1
        exact h2
      let β' : Nat → Nat := fun k => β ((outIds σ.m news).getD k 0)
      have hβ' : ∀ {k id}, (outIds σ.m news)[k]? = some id → β' k = β id := fun {k id} hk => by
        show β ((outIds σ.m news).getD k 0) = β id
        rw [List.getD_eq_getElem?_getD, hk]; rfl
      have hsub : ∀ b j, owS S (numB 0 bs) β' b j → owS S σ.blks β b j := by
        rintro b j (hs | ⟨k, bk, hk, e, hr⟩)
        · exact .inl hs
        · obtain ⟨id, h1, h2, h3⟩ := hmemN k bk hk
          refine .inr ⟨id, bk, getB_mem h2, by rw [← hβ' h1]; exact e, fun hr => ?_⟩
          rw [(getB_both h2).2] at hr; cases hr
      have hvw : ∀ s r v, viewM (outIds σ.m news) σ.blks s = some r → relV β (owS S σ.blks β) w s v → relV1 β' (owS S (numB 0 bs) β') w r v := by
        intro s r v h hv
        unfold viewM at h
        split at h
        · rename_i hc
          simp only [Bool.and_eq_true, List.isEmpty_iff, Bool.not_eq_true'] at hc
          cases h
          exact relV1_mono (fun b j _ h => hsub b j h) (Keep.refl _ _) (fun id hid => by rw [hc.1] at hid; cases hid) (relV_one hc.2 hv)
        · split at h
          · rename_i id hp
            obtain rfl := ptrOf_ok hp
            split at h
            · rename_i k hk
              cases h
              have h1 := relV_scalar rfl rfl hv
              simp only [rel, List.cons.injEq, and_true] at h1
              subst h1
              obtain ⟨_, _, hg⟩ := idxOf_ok hk
              simp only [Nat.sub_zero] at hg
              refine ⟨_, by simp only [rel]; rfl, ?_⟩
              rw [hβ' hg]
              rfl
            · cases h
          · split at h
            · rename_i r' hd
              split at h
              · rename_i hids
                cases h
                have ht : s.isTup = false := by
                  cases s <;> first | rfl | (rw [deepV_tup] at hd; cases hd)
                obtain ⟨cs, h1, rfl⟩ := relV_one ht hv
                have hrest : HSat β (owS S σ.blks β) w (restB (outIds σ.m news) σ.blks) := fun id bk hm => hS.blk id bk (List.mem_filter.1 hm).1
                obtain ⟨h2, h3⟩ := (deep_ok hrest (S := owS S (numB 0 bs) β') hsub (fun id bk hg j hs => by
                  obtain ⟨hgm, hout⟩ := List.mem_filter.1 (getB_mem hg)
                  have hlive := live_plain (β := β) (id := id) (getB_both hg).2
                  rcases hs with hs | ⟨k, bk', hk, e, _⟩
                  · have h1 := hS.lowS _ _ hs
                    rcases hS.low id _ hgm hlive with h2 | h2
                    · omega
                    · exact h1.2 h2
                  · obtain ⟨id', h4, h5, _⟩ := hmemN k bk' hk
                    rw [hβ' h4] at e
                    have := hS.inj id' id _ _ (getB_mem h5) hgm (live_plain (getB_both h5).2) hlive e
                    subst this
                    simp only [Bool.not_eq_true', List.contains_eq_mem, decide_eq_false_iff_not] at hout
                    exact hout (List.mem_of_getElem? h4)) 80).1 hd h1
                refine ⟨cs, rel_mono (fun _ _ _ h => h) (Keep.refl _ _) _ _ (fun id hid => by rw [List.isEmpty_iff.1 hids] at hid; cases hid) h2, by rw [h3]⟩
              · cases h
            · cases h
      obtain ⟨vs, hvs, hrs, _⟩ := retAllV_ok hS hvw hl
      obtain ⟨v, hv, hr⟩ := joined rfl hvs hrs
      have hpin : ∀ i, i < w0.m → β' i = w0.pin i := fun i hi => by
        rw [hβ' (out_low (by rw [hm]; exact hi))]
        exact (hS.pins.2 i hi).1
      refine ⟨hS.defs, v, β', hv, hpin, hS.ext, ?_, ?_, ?_, ?_⟩
      · simpa only [htd] using hr
      · simp only [htd]
        intro k bk hk
        obtain ⟨id, h1, h2, h3⟩ := hmemN k bk hk
        refine ⟨fun _ => ?_, fun hr => by rw [(getB_both h2).2] at hr; cases hr⟩
        obtain ⟨cs, h4, h5⟩ := (hS.blk id bk (getB_mem h2)).1 (getB_both h2).2
        exact ⟨cs, rels_mono (fun b j _ h => hsub b j h) (Keep.refl _ _) _ _ (fun i hi => by rw [h3] at hi; cases hi) h4, by rw [hβ' h1]; exact h5⟩
      · simp only [htd]
        intro i j bi bj hi hj _ _ e
        obtain ⟨id1, a1, a2, _⟩ := hmemN i bi hi
        obtain ⟨id2, b1, b2, _⟩ := hmemN j bj hj
        rw [hβ' a1, hβ' b1] at e
        have := hS.inj id1 id2 _ _ (getB_mem a2) (getB_mem b2) (live_plain (getB_both a2).2) (live_plain (getB_both b2).2) e
        subst this
        exact (List.getElem?_inj (List.getElem?_eq_some_iff.1 a1).1 hnd).1 (a1.trans b1.symm)
      · simp only [htd]
        intro i bk hi _
        rcases Nat.lt_or_ge i w0.m with hl | hl
        · exact .inl hl
        · right
          obtain ⟨id, a1, a2, _⟩ := hmemN i bk hi
          have hge := out_high (by rw [hm]; exact hl) hnd a1
          rw [hβ' a1]
          rcases hS.low id bk (getB_mem a2) (live_plain (getB_both a2).2) with h1 | ⟨i', hi', e⟩
          · exact h1
          · exfalso
            obtain ⟨e2, b2, hm2, hr2⟩ := hS.pins.2 i' hi'
            have := hS.inj i' id _ _ hm2 (getB_mem a2) (live_plain hr2) (live_plain (getB_both a2).2) (by rw [e2, e])
            omega
    · cases h
  · cases h

def initM (H : List Bk) (args : List SV) (nt : Nat) : St := { nt, slots := initSlots 0 args, blks := numB 0 H, next := H.length, m := H.length }

theorem contractM {f : FuncId} {H : List Bk} {args : List SV} {res : MRes} (hf : P.funcs[f]? = some fn) (hb : fn.body = some body) (hname : (fn.name == "runtime.NumGoroutine") = false) (hn : Nat.ble args.length fn.ntmps = true)
    (hids : (idss args).all (fun i => decide (i < H.length)) = true) (hH : H.all plainB = true)
    (h : pureF.pureFs args → (∀ b ∈ H, pureF.pureFs b.segs) → ∀ (F : Fr) (S : Own), F.m = H.length → Hold P body (FinM P fn F S res) F S [.at []] (initM H args fn.ntmps)) : ContractM P f H args res := by
  intro w S β vs hSlt _ hsat hinj hvs
  have hp : ∀ b ∈ H, b.row = false ∧ idss b.segs = [] := fun b hb => by
    have := List.all_eq_true.1 hH b hb
    simpa [plainB] using this
  have hpl : ∀ b ∈ H, b.row = false := fun b hb => (hp b hb).1
  have hmem : ∀ i b, (i, b) ∈ numB 0 H → i < H.length ∧ b ∈ H := fun i b hi => by
    obtain ⟨_, h2⟩ := (numB_plain hpl).1 hi
    simp only [Nat.sub_zero] at h2
    exact ⟨(List.getElem?_eq_some_iff.1 h2).1, List.mem_of_getElem? h2⟩
  obtain ⟨hlen, hget⟩ := relVs_get hvs
  have hn := Nat.le_of_ble_eq_true hn
  unfold Invokes
  have hcall : (callFunc f vs.toArray).run P w = .ok (.enter f vs.toArray) w := by
    have hne : ¬ fn.name = "runtime.NumGoroutine" := by simpa using hname
    simp [callFunc, hf, hb, hne]
  rw [hcall]
  simp only
  refine calls_of_wp hf hb ?_
  have hS : Sat ⟨w, H.length, β⟩ S (initM H args fn.ntmps) β { tmps := vs.toArray ++ Array.replicate (fn.ntmps - vs.toArray.size) undef, defers := [] } w := by
    refine ⟨rfl, ?_, ?_, hsat, ?_, ?_, numB_nodup 0, ?_, ?_, ⟨rfl, rfl, rfl, Nat.le_refl _, fun _ _ _ => rfl⟩, ?_, rfl, ?_⟩
    · simp [initM]; omega
    · intro d s hm
      obtain ⟨_, hd⟩ := initSlots_mem hm
      simp only [Nat.sub_zero] at hd
      obtain ⟨v, hv, hr⟩ := hget d s hd
      have hlt : d < vs.length := by
        rcases Nat.lt_or_ge d vs.length with h | h
        · exact h
        · rw [List.getElem?_eq_none h] at hv; cases hv
      have e : ({ tmps := vs.toArray ++ Array.replicate (fn.ntmps - vs.toArray.size) undef, defers := [] } : Act).tmps.getD d undef = v := by
        rw [Array.getD_eq_getD_getElem?, Array.getElem?_append_left (by simpa using hlt)]
        simp [hv]
      rw [e]
      exact relV_up hr
    · intro id bk hm _
      exact .inr ⟨id, (hmem id bk hm).1, rfl⟩
    · intro i j bi bj hi hj _ _ e
      exact hinj i j (hmem i bi hi).1 (hmem j bj hj).1 e
    · intro d s hm id hi
      obtain ⟨_, hd⟩ := initSlots_mem hm
      have : id ∈ idss args := idss_get hi (by simpa using hd)
      have := List.all_eq_true.1 hids id this
      simpa [initM] using this
    · intro id bk hm
      obtain ⟨h1, h2⟩ := hmem id bk hm
      refine ⟨h1, fun j hj => ?_, fun hr => ?_⟩
      · rw [(hp bk h2).2] at hj; cases hj
      · rw [(hp bk h2).1] at hr; cases hr
    · intro b j hs
      refine ⟨(hSlt b j hs).1, fun ⟨i, hi, e⟩ => ?_⟩
      exact (hSlt b j hs).2 i hi e
    · intro id hid
      refine ⟨rfl, H[id]'hid, (numB_plain hpl).2 ⟨Nat.zero_le _, by simp⟩, hpl _ (List.getElem_mem _)⟩
  have hpb : ∀ b ∈ H, pureF.pureFs b.segs := fun b hb => by
    obtain ⟨k, hk, rfl⟩ := List.getElem_of_mem hb
    obtain ⟨cs, h1, _⟩ := (hsat k H[k] ((numB_plain hpl).2 ⟨Nat.zero_le _, by simp⟩)).1 (hpl _ (List.getElem_mem _))
    exact pureFs_ok _ cs h1
  have := h (pureFs_vs args vs hvs) hpb ⟨w, H.length, β⟩ S rfl _ _ _ hS
  simp only [contQ, nav] at this
  refine wp_mono this fun e a w' hq => ?_
  cases e <;> simp only [FinM] at hq <;> try exact hq.elim
  all_goals
    obtain ⟨h1, v, β', h2, h3, h4, h5, h6, h7, h8⟩ := hq
    exact ⟨h1, v, h2, v, rfl, β', h3, h4, h5, h6, h7, h8⟩

/-- run to the end, with what is handed out -/
def runM (P : Program) (ctr : Ctr) (body : Code) (rs : Array ResultVar) (news : List Nat) (unroll : Bool) (f : Nat) (st : List It) (σ : St) (sc : List Bool) : List It × Option MRes × List Prop × List Bool :=
  match run P ctr body unroll f st σ sc with
  | (st', σ', ob, sc') => (st', retM P rs news σ', ob, sc')

theorem hold_endM (hm : P.follows .mixedOrders = true) {ctr : Ctr} (hctr : CtrOk P ctr) {res : MRes} {news : List Nat} {unroll : Bool} {f : Nat} {st : List It} {σ : St} {sc : List Bool} {r : MRes} {ob : List Prop} {sc' : List Bool}
    (h : runM P ctr body fn.results news unroll f st σ sc = ([], some r, ob, sc')) (hob : All ob) (he : r = res) : Hold P body (FinM P fn w0 S res) w0 S st σ := by
  unfold runM at h
  cases hr : run P ctr body unroll f st σ sc with
  | mk q1 q =>
    obtain ⟨q2, q3, q4⟩ := q
    rw [hr] at h
    simp only [Prod.mk.injEq] at h
    obtain ⟨rfl, h2, rfl, rfl⟩ := h
    exact hold_run hm hctr unroll f sc hr hob (hold_finM h2 he)
end
end Go.Eng

/- Results and handed blocks in another form. -/
namespace Go.Eng
open Go.RowKit

def wkB : List Bk → List Bk → Prop
  | [], l => l = []
  | a :: r, l => match l with
    | [] => False
    | b :: s => a.ty = b.ty ∧ a.row = b.row ∧ wkl a.segs b.segs ∧ wkB r s
def wkM (r s : MRes) : Prop := wkR r.res s.res ∧ wkB (r.upd ++ r.new) (s.upd ++ s.new)

section
variable {P : Program} {fn : Func} {body : Code} {w0 : Fr} {w : World} {S : Own} {σ : St} {β : Nat → Nat} {a : Act} {ow : Own}

theorem wk0_refl (s : SV) : wk0 s s := by cases s <;> simp [wk0]
theorem wka_refl : ∀ l : List SV, wka l l
  | [] => rfl
  | s :: r => ⟨wk0_refl s, wka_refl r⟩
theorem wk_refl (s : SV) : wk s s := by cases s <;> simp only [wk] <;> first | exact wka_refl _ | exact wk0_refl _
theorem wkl_refl : ∀ l : List SV, wkl l l
  | [] => rfl
  | s :: r => ⟨wk_refl s, wkl_refl r⟩
theorem wkR_refl (s : SV) : wkR s s := by cases s <;> first | (simp only [wkR]; exact wk_refl _) | (simp only [wkR]; exact wkl_refl _)
theorem wkB_refl : ∀ l : List Bk, wkB l l
  | [] => rfl
  | _ :: r => ⟨rfl, rfl, wkl_refl _, wkB_refl r⟩
theorem wkM_of {r s : MRes} (h : r = s) : wkM r s := h ▸ ⟨wkR_refl _, wkB_refl _⟩
theorem wkR_of {r s : SV} (h : r = s) : wkR r s := h ▸ wkR_refl _
theorem wkl_rels : ∀ {l m : List SV}, wkl l m → ∀ {cs : List Value}, rels β ow w l cs → rels β ow w m cs := by
  intro l
  induction l with
  | nil => intro m h cs hr; simp only [wkl] at h; subst h; exact hr
  | cons s r ih =>
    intro m h cs hr
    cases m with
    | nil => simp [wkl] at h
    | cons t q =>
      simp only [wkl] at h
      simp only [rels] at hr ⊢
      obtain ⟨c1, c2, rfl, h1, h2⟩ := hr
      exact ⟨c1, c2, rfl, wk_rel h.1 h1, ih h.2 h2⟩
theorem numB_wk : ∀ {L M : List Bk}, wkB L M → ∀ {k i : Nat}, (∀ b', (i, b') ∈ numB k M → ∃ b, (i, b) ∈ numB k L ∧ b.ty = b'.ty ∧ b.row = b'.row ∧ wkl b.segs b'.segs) ∧ (∀ b, (i, b) ∈ numB k L → ∃ b', (i, b') ∈ numB k M ∧ b.ty = b'.ty ∧ b.row = b'.row ∧ wkl b.segs b'.segs) := by
  intro L
  induction L with
  | nil => intro M h k i; simp only [wkB] at h; subst h; exact ⟨fun b' hb => by simp [numB] at hb, fun b hb => by simp [numB] at hb⟩
  | cons a r ih =>
    intro M h k i
    cases M with
    | nil => simp [wkB] at h
    | cons b s =>
      simp only [wkB] at h
      obtain ⟨h1, h2, h3, h4⟩ := h
      simp only [numB, List.mem_cons, Prod.mk.injEq]
      rw [h2]
      constructor
      · rintro b' (⟨rfl, rfl⟩ | hb)
        · exact ⟨a, .inl ⟨rfl, rfl⟩, h1, h2, h3⟩
        · obtain ⟨c, hc, e⟩ := (ih h4).1 b' hb
          exact ⟨c, .inr hc, e⟩
      · rintro b' (⟨rfl, rfl⟩ | hb)
        · exact ⟨b, .inl ⟨rfl, rfl⟩, h1, h2, h3⟩
        · obtain ⟨c, hc, e⟩ := (ih h4).2 b' hb
          exact ⟨c, .inr hc, e⟩
theorem FinQ.weaken {F : Fr} {r s : MRes} (h : FinQ P fn F S r a w) (hw : wkM r s) : FinQ P fn F S s a w := by
  obtain ⟨h1, v, β', h2, h3, h4, h5, h6, h7, h8⟩ := h
  have how : owS S (numB 0 (s.upd ++ s.new)) β' = owS S (numB 0 (r.upd ++ r.new)) β' := by
    funext b j
    apply propext
    constructor
    · rintro (hs | ⟨i, bk, hm, e, hr⟩)
      · exact .inl hs
      · obtain ⟨c, hc, _, e2, _⟩ := (numB_wk hw.2).1 bk hm
        exact .inr ⟨i, c, hc, e, by rw [e2]; exact hr⟩
    · rintro (hs | ⟨i, bk, hm, e, hr⟩)
      · exact .inl hs
      · obtain ⟨c, hc, _, e2, _⟩ := (numB_wk hw.2).2 bk hm
        exact .inr ⟨i, c, hc, e, by rw [← e2]; exact hr⟩
  have hlive : ∀ {i : Nat} {b b' : Bk}, b.row = b'.row → live β' i b' → live β' i b := fun e hl hr => hl (by rw [← e]; exact hr)
  refine ⟨h1, v, β', h2, h3, h4, ?_, ?_, ?_, ?_⟩
  · rw [how]; exact wkR_ok hw.1 h5
  · rw [how]
    intro i b' hm
    obtain ⟨c, hc, e1, e2, e3⟩ := (numB_wk hw.2).1 b' hm
    refine ⟨fun hr => ?_, fun hr hn => ?_⟩
    · obtain ⟨cs, q1, q2⟩ := (h6 i c hc).1 (by rw [e2]; exact hr)
      exact ⟨cs, wkl_rels e3 q1, by rw [← e1]; exact q2⟩
    · obtain ⟨cs, q1, q2⟩ := (h6 i c hc).2 (by rw [e2]; exact hr) hn
      exact ⟨cs, by rw [← e1]; exact q1, q2⟩
  · intro i j bi bj hi hj li lj e
    obtain ⟨c, hc, _, e2, _⟩ := (numB_wk hw.2).1 bi hi
    obtain ⟨d, hd, _, e3, _⟩ := (numB_wk hw.2).1 bj hj
    exact h7 i j c d hc hd (hlive e2 li) (hlive e3 lj) e
  · intro i bk hi hl
    obtain ⟨c, hc, _, e2, _⟩ := (numB_wk hw.2).1 bk hi
    exact h8 i c hc (hlive e2 hl)
theorem hold_endMw (hm : P.follows .mixedOrders = true) {ctr : Ctr} (hctr : CtrOk P ctr) {res : MRes} {news : List Nat} {unroll : Bool} {f : Nat} {st : List It} {σ : St} {sc : List Bool} {r : MRes} {ob : List Prop} {sc' : List Bool}
    (h : runM P ctr body fn.results news unroll f st σ sc = ([], some r, ob, sc')) (hob : All ob) (he : wkM r res) : Hold P body (FinM P fn w0 S res) w0 S st σ := by
  have h1 := hold_endM (w0 := w0) (S := S) hm hctr h hob rfl
  intro β a w hS
  have key : ∀ st e a w, contQ P body (FinM P fn w0 S r) st e a w → contQ P body (FinM P fn w0 S res) st e a w := by
    have hQ : ∀ e a w, FinM P fn w0 S r e a w → FinM P fn w0 S res e a w := by
      intro e a w hq
      cases e <;> first | exact FinQ.weaken hq he | exact hq
    intro st
    induction st with
    | nil => intro e a w h; exact hQ e a w h
    | cons x st ih =>
      intro e a w h
      cases x with
      | «at» p =>
        cases e <;> simp only [contQ] at h ⊢ <;> try exact ih _ a w h
        split at h
        · exact wp_mono h fun e a w hq => ih e a w hq
        · exact h
      | lp p =>
        cases e <;> simp only [contQ] at h ⊢ <;> try exact ih _ a w h
        split at h
        · intro I hI
          refine h I fun a w hw => hI a w (wp_mono hw fun e a w hq => ?_)
          cases e <;> simp only [Exit.then] at hq ⊢ <;> first | exact hq | exact ih _ a w hq
        · exact h
      | blk id =>
        cases e <;> simp only [contQ] at h ⊢ <;> try exact ih _ a w h
        split at h
        · rename_i e1; simp only [e1, if_true]; exact ih _ a w h
        · rename_i e1; simp only [e1, if_false]; exact ih _ a w h
  exact key st _ a w (h1 β a w hS)
theorem hold_restrict {Q : Exit → Act → World → Prop} {st : List It} {ks bs : List Nat} {nx : Nat} {σ' : St} (h : restrict ks bs nx σ = some σ') (hk : Hold P body Q w0 S st σ') : Hold P body Q w0 S st σ :=
  fun β a w hS => hk β a w (Sat.restrict h hS)
end
end Go.Eng

