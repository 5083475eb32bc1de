/- limb: Inv, Equal, quarter, Sqrt. -/
import Derived.Test.YtclpbijalffdkaaB6d
namespace Go.Eng.B
open Go Go.Eng Go.Proofs
section
variable {w0 : World} {S : Nat → Prop} {res : SV}
theorem c60 : ∀ args res ob, e60 args = some (res, ob) → All ob → Contract Try.prog 60 args res := by
  intro args res ob h hob
  simp only [e60, t1] at h
  split at h
  · rename_i a
    cases h
    refine contract Try.func60 (body := bodyOf Try.f60) rfl (by kernel_rfl) (by kernel_rfl) rfl ?_
    rintro ⟨ha, _⟩ w0 S
    exact hold_end mixed ok5 (unroll := true) (f := 100) (sc := []) (r := (Go.Eng.SV.arr Go.IntKind.u64 4 (Go.Eng.dF (Go.Eng.B.powF (Go.Eng.vF a) 57896044618658097711785492504343953926634992332820282019728792003956564819947)))) (ob := []) (sc' := []) (by kernel_rfl) trivial rfl
  · cases h
theorem dF_inj {A B : Nat} (ha : A < M256) (hb : B < M256) : (dF A == dF B) = decide (A = B) := by
  by_cases h : A = B
  · subst h; simp
  · rw [decide_eq_false h]
    rw [beq_eq_false_iff_ne]
    intro e
    apply h
    have := congrArg vF e
    rwa [vF_dF, vF_dF, Nat.mod_eq_of_lt ha, Nat.mod_eq_of_lt hb] at this
theorem P_lt (A : Nat) : A % P255 < M256 := Nat.lt_trans (Nat.mod_lt _ (by decide)) (by decide)
theorem c83 : ∀ args res ob, e83 args = some (res, ob) → All ob → Contract Try.prog 83 args res := by
  intro args res ob h hob
  simp only [e83, t2] at h
  split at h
  · rename_i a b
    cases h
    refine contract Try.func83 (body := bodyOf Try.f83) rfl (by kernel_rfl) (by kernel_rfl) rfl ?_
    rintro ⟨ha, hb, _⟩ w0 S
    refine hold_end mixed ok5 (unroll := true) (f := 100) (sc := []) (r := (Go.Eng.SV.b (Go.Eng.dF (Go.Eng.vF a % Go.Eng.P255) == Go.Eng.dF (Go.Eng.vF b % Go.Eng.P255)))) (ob := []) (sc' := []) (by kernel_rfl) trivial ?_
    rw [dF_inj (P_lt _) (P_lt _)]
  · cases h
theorem or_hi {k a b : Nat} (h : b < 2 ^ k) : b ||| a * 2 ^ k = b + a * 2 ^ k := by
  rw [Nat.or_comm, Nat.mul_comm a, ← Nat.two_pow_add_eq_or_of_lt h]
  omega
theorem q3 {x y : Nat} (hx : x < 18446744073709551616) : x / 8 ||| y * 2305843009213693952 % 18446744073709551616 = x / 8 + y % 8 * 2305843009213693952 := by
  rw [show y * 2305843009213693952 % 18446744073709551616 = (y % 8) * 2 ^ 61 by omega, or_hi (by omega)]
theorem q2 {x y : Nat} (hx : x < 18446744073709551616) : x / 4 ||| y * 4611686018427387904 % 18446744073709551616 = x / 4 + y % 4 * 4611686018427387904 := by
  rw [show y * 4611686018427387904 % 18446744073709551616 = (y % 4) * 2 ^ 62 by omega, or_hi (by omega)]
theorem c82 : ∀ args res ob, e82 args = some (res, ob) → All ob → Contract Try.prog 82 args res := by
  intro args res ob h hob
  unfold e82 at h
  split at h
  · rename_i a k
    split at h
    · rename_i hk
      subst hk
      cases h
      refine contract Try.func82 (body := bodyOf Try.f82) rfl (by kernel_rfl) (by kernel_rfl) rfl ?_
      rintro ⟨ha, _⟩ w0 S
      obtain ⟨a0, a1, a2, a3, rfl⟩ := list4 ha.1
      have ha2 := ha.2
      simp only [List.mem_cons, List.not_mem_nil, or_false, forall_eq_or_imp, forall_eq, lim] at ha2
      refine hold_end mixed ok5 (unroll := true) (f := 100) (sc := []) (r := (Go.Eng.SV.arr Go.IntKind.u64 4 [a0 / 8 ||| a1 * 2305843009213693952 % 18446744073709551616, a1 / 8 ||| a2 * 2305843009213693952 % 18446744073709551616, a2 / 8 ||| a3 * 2305843009213693952 % 18446744073709551616, a3 / 8])) (ob := []) (sc' := []) (by kernel_rfl) trivial ?_
      rw [q3 ha2.1, q3 ha2.2.1, q3 ha2.2.2.1]
      refine congrArg (SV.arr .u64 4) ?_
      have e : vF [a0, a1, a2, a3] / 8 = vF [a0 / 8 + a1 % 8 * 2305843009213693952, a1 / 8 + a2 % 8 * 2305843009213693952, a2 / 8 + a3 % 8 * 2305843009213693952, a3 / 8] := by
        rw [vF4, vF4]; omega
      rw [e, dF_vF]
      refine ⟨rfl, ?_⟩
      simp only [List.mem_cons, List.not_mem_nil, or_false, forall_eq_or_imp, forall_eq, lim]
      omega
    · split at h
      · rename_i hk
        subst hk
        cases h
        refine contract Try.func82 (body := bodyOf Try.f82) rfl (by kernel_rfl) (by kernel_rfl) rfl ?_
        rintro ⟨ha, _⟩ w0 S
        obtain ⟨a0, a1, a2, a3, rfl⟩ := list4 ha.1
        have ha2 := ha.2
        simp only [List.mem_cons, List.not_mem_nil, or_false, forall_eq_or_imp, forall_eq, lim] at ha2
        refine hold_end mixed ok5 (unroll := true) (f := 100) (sc := []) (r := (Go.Eng.SV.arr Go.IntKind.u64 4 [a0 / 4 ||| a1 * 4611686018427387904 % 18446744073709551616, a1 / 4 ||| a2 * 4611686018427387904 % 18446744073709551616, a2 / 4 ||| a3 * 4611686018427387904 % 18446744073709551616, a3 / 4])) (ob := []) (sc' := []) (by kernel_rfl) trivial ?_
        rw [q2 ha2.1, q2 ha2.2.1, q2 ha2.2.2.1]
        refine congrArg (SV.arr .u64 4) ?_
        have e : vF [a0, a1, a2, a3] / 4 = vF [a0 / 4 + a1 % 4 * 4611686018427387904, a1 / 4 + a2 % 4 * 4611686018427387904, a2 / 4 + a3 % 4 * 4611686018427387904, a3 / 4] := by
          rw [vF4, vF4]; omega
        rw [e, dF_vF]
        refine ⟨rfl, ?_⟩
        simp only [List.mem_cons, List.not_mem_nil, or_false, forall_eq_or_imp, forall_eq, lim]
        omega
      · cases h
  · cases h
theorem ok6a : CtrOk Try.prog T6a := addC_ok (addC_ok (addC_ok ok5 c60) c83) c82
theorem vd {A : Nat} (h : A < M256) : vF (dF A) = A := by rw [vF_dF, Nat.mod_eq_of_lt h]
theorem dF_head (N : Nat) : (dF N).getD 0 0 = N % 18446744073709551616 := by rw [dF_eq]; rfl
theorem subF_lt (A B : Nat) : subF A B < M256 := by unfold subF; exact Nat.mod_lt _ (by decide)
theorem sqI : powF 2 E14 = 19681161376707505956807079304988542015446066515923890162744021073123829784752 := by kernel_rfl
theorem c57 : ∀ args res ob, e57 args = some (res, ob) → All ob → Contract Try.prog 57 args res := by
  intro args res ob h hob
  simp only [e57, t1] at h
  split at h
  · rename_i a
    cases h
    refine contract Try.func57 (body := bodyOf Try.f57) rfl (by kernel_rfl) (by kernel_rfl) rfl ?_
    rintro ⟨ha, _⟩ w0 S
    have hA := vF_lt ha
    have hx : sqX (vF a) < M256 := powF_lt hA _
    have hxx := mulF_lt hx hx
    have hI : 19681161376707505956807079304988542015446066515923890162744021073123829784752 < M256 := by decide
    have hz := mulF_lt hx hI
    have hzz := mulF_lt hz hz
    have ex : powF (vF a) 7237005577332262213973186563042994240829374041602535252466099000494570602494 = sqX (vF a) := rfl
    have hodd : ∀ Y : Nat, (Y % P255 % 18446744073709551616 &&& 1 == 1) = decide (Y % P255 % 2 = 1) := by
      intro Y
      rw [and_one, show Y % P255 % 18446744073709551616 % 2 = Y % P255 % 2 by omega]
      rfl
    by_cases h1 : mulF (sqX (vF a)) (sqX (vF a)) % P255 = vF a % P255
    · have eY : sqY (vF a) = sqX (vF a) := by unfold sqY; rw [if_pos h1]
      have eO : sqOk (vF a) = true := by unfold sqOk; rw [eY]; exact decide_eq_true h1
      by_cases h3 : sqX (vF a) % P255 % 2 = 1
      · refine hold_endw mixed ok6a (unroll := true) (f := 100) (sc := [false, false, true]) (r := (Go.Eng.SV.tup [Go.Eng.SV.arr Go.IntKind.u64 4 (Go.Eng.dF (Go.Eng.vF (Go.Eng.dF (Go.Eng.subF 0 (Go.Eng.vF (Go.Eng.dF (Go.Eng.vF (Go.Eng.dF (Go.Eng.B.powF (Go.Eng.vF a) 7237005577332262213973186563042994240829374041602535252466099000494570602494)) % Go.Eng.P255))))) % Go.Eng.P255)), Go.Eng.SV.cb Bool.true])) (ob := [(!Decidable.decide (Go.Eng.vF (Go.Eng.dF (Go.Eng.B.mulF (Go.Eng.vF (Go.Eng.dF (Go.Eng.B.powF (Go.Eng.vF a) 7237005577332262213973186563042994240829374041602535252466099000494570602494))) (Go.Eng.vF (Go.Eng.dF (Go.Eng.B.powF (Go.Eng.vF a) 7237005577332262213973186563042994240829374041602535252466099000494570602494))))) % Go.Eng.P255 = Go.Eng.vF a % Go.Eng.P255)) = Bool.false, (!Decidable.decide (Go.Eng.vF (Go.Eng.dF (Go.Eng.B.mulF (Go.Eng.vF (Go.Eng.dF (Go.Eng.B.powF (Go.Eng.vF a) 7237005577332262213973186563042994240829374041602535252466099000494570602494))) (Go.Eng.vF (Go.Eng.dF (Go.Eng.B.powF (Go.Eng.vF a) 7237005577332262213973186563042994240829374041602535252466099000494570602494))))) % Go.Eng.P255 = Go.Eng.vF a % Go.Eng.P255)) = Bool.false, ((Go.Eng.dF (Go.Eng.vF (Go.Eng.dF (Go.Eng.B.powF (Go.Eng.vF a) 7237005577332262213973186563042994240829374041602535252466099000494570602494)) % Go.Eng.P255)).getD 0 0 &&& 1 == 1) = Bool.true]) (sc' := []) (by kernel_rfl) ?_ ?_
        · rw [ex, vd hx, vd hxx, dF_head, hodd]
          exact ⟨by simp [h1], by simp [h1], by simp [h3], trivial⟩
        · have eV : sqV (vF a) = subF 0 (sqX (vF a) % P255) % P255 := by unfold sqV; rw [if_pos eO, eY, if_pos h3]
          rw [ex, vd hx, vd (P_lt _), vd (subF_lt _ _)]
          rw [eO, eV]
          exact ⟨rfl, rfl, rfl⟩
      · refine hold_endw mixed ok6a (unroll := true) (f := 100) (sc := [false, false, false]) (r := (Go.Eng.SV.tup [Go.Eng.SV.arr Go.IntKind.u64 4 (Go.Eng.dF (Go.Eng.vF (Go.Eng.dF (Go.Eng.B.powF (Go.Eng.vF a) 7237005577332262213973186563042994240829374041602535252466099000494570602494)) % Go.Eng.P255)), Go.Eng.SV.cb Bool.true])) (ob := [(!Decidable.decide (Go.Eng.vF (Go.Eng.dF (Go.Eng.B.mulF (Go.Eng.vF (Go.Eng.dF (Go.Eng.B.powF (Go.Eng.vF a) 7237005577332262213973186563042994240829374041602535252466099000494570602494))) (Go.Eng.vF (Go.Eng.dF (Go.Eng.B.powF (Go.Eng.vF a) 7237005577332262213973186563042994240829374041602535252466099000494570602494))))) % Go.Eng.P255 = Go.Eng.vF a % Go.Eng.P255)) = Bool.false, (!Decidable.decide (Go.Eng.vF (Go.Eng.dF (Go.Eng.B.mulF (Go.Eng.vF (Go.Eng.dF (Go.Eng.B.powF (Go.Eng.vF a) 7237005577332262213973186563042994240829374041602535252466099000494570602494))) (Go.Eng.vF (Go.Eng.dF (Go.Eng.B.powF (Go.Eng.vF a) 7237005577332262213973186563042994240829374041602535252466099000494570602494))))) % Go.Eng.P255 = Go.Eng.vF a % Go.Eng.P255)) = Bool.false, ((Go.Eng.dF (Go.Eng.vF (Go.Eng.dF (Go.Eng.B.powF (Go.Eng.vF a) 7237005577332262213973186563042994240829374041602535252466099000494570602494)) % Go.Eng.P255)).getD 0 0 &&& 1 == 1) = Bool.false]) (sc' := []) (by kernel_rfl) ?_ ?_
        · rw [ex, vd hx, vd hxx, dF_head, hodd]
          exact ⟨by simp [h1], by simp [h1], by simp [h3], trivial⟩
        · have eV : sqV (vF a) = sqX (vF a) % P255 := by unfold sqV; rw [if_pos eO, eY, if_neg h3]
          rw [ex, vd hx]
          rw [eO, eV]
          exact ⟨rfl, rfl, rfl⟩
    · have eY : sqY (vF a) = mulF (sqX (vF a)) 19681161376707505956807079304988542015446066515923890162744021073123829784752 := by unfold sqY; rw [if_neg h1, sqI]
      by_cases h2 : mulF (sqY (vF a)) (sqY (vF a)) % P255 = vF a % P255
      · have eO : sqOk (vF a) = true := by unfold sqOk; exact decide_eq_true h2
        by_cases h3 : sqY (vF a) % P255 % 2 = 1
        · refine hold_endw mixed ok6a (unroll := true) (f := 100) (sc := [true, false, true]) (r := (Go.Eng.SV.tup [Go.Eng.SV.arr Go.IntKind.u64 4 (Go.Eng.dF (Go.Eng.vF (Go.Eng.dF (Go.Eng.subF 0 (Go.Eng.vF (Go.Eng.dF (Go.Eng.vF (Go.Eng.dF (Go.Eng.B.mulF (Go.Eng.vF (Go.Eng.dF (Go.Eng.B.powF (Go.Eng.vF a) 7237005577332262213973186563042994240829374041602535252466099000494570602494))) 19681161376707505956807079304988542015446066515923890162744021073123829784752)) % Go.Eng.P255))))) % Go.Eng.P255)), Go.Eng.SV.cb Bool.true])) (ob := [(!Decidable.decide (Go.Eng.vF (Go.Eng.dF (Go.Eng.B.mulF (Go.Eng.vF (Go.Eng.dF (Go.Eng.B.powF (Go.Eng.vF a) 7237005577332262213973186563042994240829374041602535252466099000494570602494))) (Go.Eng.vF (Go.Eng.dF (Go.Eng.B.powF (Go.Eng.vF a) 7237005577332262213973186563042994240829374041602535252466099000494570602494))))) % Go.Eng.P255 = Go.Eng.vF a % Go.Eng.P255)) = Bool.true, (!Decidable.decide (Go.Eng.vF (Go.Eng.dF (Go.Eng.B.mulF (Go.Eng.vF (Go.Eng.dF (Go.Eng.B.mulF (Go.Eng.vF (Go.Eng.dF (Go.Eng.B.powF (Go.Eng.vF a) 7237005577332262213973186563042994240829374041602535252466099000494570602494))) 19681161376707505956807079304988542015446066515923890162744021073123829784752))) (Go.Eng.vF (Go.Eng.dF (Go.Eng.B.mulF (Go.Eng.vF (Go.Eng.dF (Go.Eng.B.powF (Go.Eng.vF a) 7237005577332262213973186563042994240829374041602535252466099000494570602494))) 19681161376707505956807079304988542015446066515923890162744021073123829784752))))) % Go.Eng.P255 = Go.Eng.vF a % Go.Eng.P255)) = Bool.false, ((Go.Eng.dF (Go.Eng.vF (Go.Eng.dF (Go.Eng.B.mulF (Go.Eng.vF (Go.Eng.dF (Go.Eng.B.powF (Go.Eng.vF a) 7237005577332262213973186563042994240829374041602535252466099000494570602494))) 19681161376707505956807079304988542015446066515923890162744021073123829784752)) % Go.Eng.P255)).getD 0 0 &&& 1 == 1) = Bool.true]) (sc' := []) (by kernel_rfl) ?_ ?_
          · rw [ex, vd hx, vd hz, vd hxx, vd hzz, dF_head, hodd]
            rw [← eY]
            exact ⟨by simp [h1], by simp [h2], by simp [h3], trivial⟩
          · have eV : sqV (vF a) = subF 0 (sqY (vF a) % P255) % P255 := by unfold sqV; rw [if_pos eO, if_pos h3]
            rw [ex, vd hx, vd hz, vd (P_lt _), vd (subF_lt _ _)]
            rw [eO, eV, eY]
            exact ⟨rfl, rfl, rfl⟩
        · refine hold_endw mixed ok6a (unroll := true) (f := 100) (sc := [true, false, false]) (r := (Go.Eng.SV.tup [Go.Eng.SV.arr Go.IntKind.u64 4 (Go.Eng.dF (Go.Eng.vF (Go.Eng.dF (Go.Eng.B.mulF (Go.Eng.vF (Go.Eng.dF (Go.Eng.B.powF (Go.Eng.vF a) 7237005577332262213973186563042994240829374041602535252466099000494570602494))) 19681161376707505956807079304988542015446066515923890162744021073123829784752)) % Go.Eng.P255)), Go.Eng.SV.cb Bool.true])) (ob := [(!Decidable.decide (Go.Eng.vF (Go.Eng.dF (Go.Eng.B.mulF (Go.Eng.vF (Go.Eng.dF (Go.Eng.B.powF (Go.Eng.vF a) 7237005577332262213973186563042994240829374041602535252466099000494570602494))) (Go.Eng.vF (Go.Eng.dF (Go.Eng.B.powF (Go.Eng.vF a) 7237005577332262213973186563042994240829374041602535252466099000494570602494))))) % Go.Eng.P255 = Go.Eng.vF a % Go.Eng.P255)) = Bool.true, (!Decidable.decide (Go.Eng.vF (Go.Eng.dF (Go.Eng.B.mulF (Go.Eng.vF (Go.Eng.dF (Go.Eng.B.mulF (Go.Eng.vF (Go.Eng.dF (Go.Eng.B.powF (Go.Eng.vF a) 7237005577332262213973186563042994240829374041602535252466099000494570602494))) 19681161376707505956807079304988542015446066515923890162744021073123829784752))) (Go.Eng.vF (Go.Eng.dF (Go.Eng.B.mulF (Go.Eng.vF (Go.Eng.dF (Go.Eng.B.powF (Go.Eng.vF a) 7237005577332262213973186563042994240829374041602535252466099000494570602494))) 19681161376707505956807079304988542015446066515923890162744021073123829784752))))) % Go.Eng.P255 = Go.Eng.vF a % Go.Eng.P255)) = Bool.false, ((Go.Eng.dF (Go.Eng.vF (Go.Eng.dF (Go.Eng.B.mulF (Go.Eng.vF (Go.Eng.dF (Go.Eng.B.powF (Go.Eng.vF a) 7237005577332262213973186563042994240829374041602535252466099000494570602494))) 19681161376707505956807079304988542015446066515923890162744021073123829784752)) % Go.Eng.P255)).getD 0 0 &&& 1 == 1) = Bool.false]) (sc' := []) (by kernel_rfl) ?_ ?_
          · rw [ex, vd hx, vd hz, vd hxx, vd hzz, dF_head, hodd]
            rw [← eY]
            exact ⟨by simp [h1], by simp [h2], by simp [h3], trivial⟩
          · have eV : sqV (vF a) = sqY (vF a) % P255 := by unfold sqV; rw [if_pos eO, if_neg h3]
            rw [ex, vd hx, vd hz]
            rw [eO, eV, eY]
            exact ⟨rfl, rfl, rfl⟩
      · have eO : sqOk (vF a) = false := by unfold sqOk; exact decide_eq_false h2
        refine hold_endw mixed ok6a (unroll := true) (f := 100) (sc := [true, true]) (r := (Go.Eng.SV.tup [Go.Eng.SV.arr Go.IntKind.u64 4 [0, 0, 0, 0], Go.Eng.SV.cb Bool.false])) (ob := [(!Decidable.decide (Go.Eng.vF (Go.Eng.dF (Go.Eng.B.mulF (Go.Eng.vF (Go.Eng.dF (Go.Eng.B.powF (Go.Eng.vF a) 7237005577332262213973186563042994240829374041602535252466099000494570602494))) (Go.Eng.vF (Go.Eng.dF (Go.Eng.B.powF (Go.Eng.vF a) 7237005577332262213973186563042994240829374041602535252466099000494570602494))))) % Go.Eng.P255 = Go.Eng.vF a % Go.Eng.P255)) = Bool.true, (!Decidable.decide (Go.Eng.vF (Go.Eng.dF (Go.Eng.B.mulF (Go.Eng.vF (Go.Eng.dF (Go.Eng.B.mulF (Go.Eng.vF (Go.Eng.dF (Go.Eng.B.powF (Go.Eng.vF a) 7237005577332262213973186563042994240829374041602535252466099000494570602494))) 19681161376707505956807079304988542015446066515923890162744021073123829784752))) (Go.Eng.vF (Go.Eng.dF (Go.Eng.B.mulF (Go.Eng.vF (Go.Eng.dF (Go.Eng.B.powF (Go.Eng.vF a) 7237005577332262213973186563042994240829374041602535252466099000494570602494))) 19681161376707505956807079304988542015446066515923890162744021073123829784752))))) % Go.Eng.P255 = Go.Eng.vF a % Go.Eng.P255)) = Bool.true]) (sc' := []) (by kernel_rfl) ?_ ?_
        · rw [ex, vd hx, vd hz, vd hxx, vd hzz]
          rw [← eY]
          exact ⟨by simp [h1], by simp [h2], trivial⟩
        · have eV : sqV (vF a) = 0 := by unfold sqV; rw [eO]; rfl
          rw [eO, eV]
          exact ⟨rfl, rfl, rfl⟩
  · cases h
theorem ok6b : CtrOk Try.prog T6b := addC_ok ok6a c57
end
end Go.Eng.B
