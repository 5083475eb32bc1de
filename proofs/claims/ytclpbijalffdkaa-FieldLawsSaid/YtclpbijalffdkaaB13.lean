/- coresecref08: Root, Mul, Inv, Sqrt. -/
import Derived.Test.YtclpbijalffdkaaB12
namespace Go.Eng.B
open Go Go.Eng Go.Proofs
section
variable {w0 : World} {S : Nat → Prop} {res : SV}
theorem dF_ne {A B : Nat} (ha : A < M256) (hb : B < M256) : (dF A != dF B) = decide (A ≠ B) := by
  rw [bne, dF_inj ha hb]; simp
theorem rt_mul {A B : Nat} (X Y : Nat) (hx : X % P255 = A % P255) (hy : Y % P255 = B % P255) : X * Y % P255 = mulF A B % P255 := by
  rw [mulF_mod, Nat.mul_mod, hx, hy, ← Nat.mul_mod]
theorem c59 : ∀ args res ob, e59 args = some (res, ob) → All ob → Contract Try.prog 59 args res := by
  intro args res ob h hob
  simp only [e59, t1o] at h
  split at h
  · rename_i a
    cases h
    refine contract Try.func59 (body := bodyOf Try.f59) rfl (by kernel_rfl) (by kernel_rfl) rfl ?_
    rintro ⟨ha, _⟩ w0 S
    obtain ⟨hA, _⟩ := hob
    obtain ⟨A, hM, rfl⟩ : ∃ A, A < M256 ∧ a = dF A := ⟨vF a, vF_lt ha, (dF_vF ha).symm⟩
    rw [vd hM] at hA ⊢
    have hX : powF A 7237005577332262213973186563042994240829374041602535252466099000494570602494 = sqX A := rfl
    have hv : ∀ N, vF (dF (N % P255)) = N % P255 := fun N => vd (P_lt N)
    have hAP : A % P255 = A := Nat.mod_eq_of_lt hA
    have hXX : sqX A % P255 * (sqX A % P255) % P255 = mulF (sqX A) (sqX A) % P255 := rt_mul _ _ (Nat.mod_mod _ _) (Nat.mod_mod _ _)
    have hY : sqX A % P255 * 19681161376707505956807079304988542015446066515923890162744021073123829784752 % P255 = mulF (sqX A) (powF 2 E14) % P255 := by
      rw [sqI]
      exact rt_mul _ _ (Nat.mod_mod _ _) rfl
    have hYY : ∀ Y, Y % P255 * (Y % P255) % P255 = mulF Y Y % P255 := fun Y => rt_mul _ _ (Nat.mod_mod _ _) (Nat.mod_mod _ _)
    have hodd : ∀ N : Nat, N % 18446744073709551616 &&& 1 = N % 2 := fun N => by rw [Nat.and_one_is_mod]; omega
    have hsub : ∀ y, (57896044618658097711785492504343953926634992332820282019728792003956564819949 - y % P255) % P255 = subF 0 (y % P255) % P255 := fun y => by
      have hy : y % P255 < P255 := P_ltP y
      generalize y % P255 = z at *
      rw [subF_mod (by decide) (Nat.lt_trans hy (by decide))]
      unfold P255 at *
      omega
    by_cases h1 : mulF (sqX A) (sqX A) % P255 = A % P255
    · have eY : sqY A = sqX A := by unfold sqY; rw [if_pos h1]
      have eO : sqOk A = true := by unfold sqOk; rw [eY]; exact decide_eq_true h1
      by_cases h3 : sqX A % P255 % 2 = 1
      · refine hold_endw mixed ok11d (unroll := true) (f := 100) (sc := [false, false, true]) (r := (Go.Eng.SV.tup [Go.Eng.SV.arr Go.IntKind.u64 (4 : Nat) (Go.Eng.dF (((57896044618658097711785492504343953926634992332820282019728792003956564819949 : Nat) - Go.Eng.vF (Go.Eng.dF (Go.Eng.B.powF (Go.Eng.vF (Go.Eng.dF A)) (7237005577332262213973186563042994240829374041602535252466099000494570602494 : Nat) % Go.Eng.P255))) % Go.Eng.P255)), Go.Eng.SV.cb Bool.true])) (ob := [(Go.Eng.dF (Go.Eng.vF (Go.Eng.dF (Go.Eng.B.powF (Go.Eng.vF (Go.Eng.dF A)) (7237005577332262213973186563042994240829374041602535252466099000494570602494 : Nat) % Go.Eng.P255)) * Go.Eng.vF (Go.Eng.dF (Go.Eng.B.powF (Go.Eng.vF (Go.Eng.dF A)) (7237005577332262213973186563042994240829374041602535252466099000494570602494 : Nat) % Go.Eng.P255)) % Go.Eng.P255) != Go.Eng.dF A) = Bool.false, (Go.Eng.dF (Go.Eng.vF (Go.Eng.dF (Go.Eng.B.powF (Go.Eng.vF (Go.Eng.dF A)) (7237005577332262213973186563042994240829374041602535252466099000494570602494 : Nat) % Go.Eng.P255)) * Go.Eng.vF (Go.Eng.dF (Go.Eng.B.powF (Go.Eng.vF (Go.Eng.dF A)) (7237005577332262213973186563042994240829374041602535252466099000494570602494 : Nat) % Go.Eng.P255)) % Go.Eng.P255) != Go.Eng.dF A) = Bool.false, ((Go.Eng.dF (Go.Eng.B.powF (Go.Eng.vF (Go.Eng.dF A)) (7237005577332262213973186563042994240829374041602535252466099000494570602494 : Nat) % Go.Eng.P255)).getD (0 : Nat) (0 : Nat) &&& (1 : Nat) == (1 : Nat)) = Bool.true, (0 : Nat) < Go.Eng.P255, Go.Eng.vF (Go.Eng.dF (Go.Eng.B.powF (Go.Eng.vF (Go.Eng.dF A)) (7237005577332262213973186563042994240829374041602535252466099000494570602494 : Nat) % Go.Eng.P255)) < Go.Eng.P255]) (sc' := []) (by kernel_rfl) ?_ ?_
        · simp only [vd hM, hX, hv, hXX, h1, hAP, dF_head, hodd, h3]
          exact ⟨by simp, by simp, by simp, by decide, P_ltP _, trivial⟩
        · have eV : sqV A = subF 0 (sqX A % P255) % P255 := by unfold sqV; rw [if_pos eO, eY, if_pos h3]
          simp only [vd hM, hX, hv, hsub]
          rw [eO, eV]
          exact ⟨rfl, rfl, rfl⟩
      · refine hold_endw mixed ok11d (unroll := true) (f := 100) (sc := [false, false, false]) (r := (Go.Eng.SV.tup [Go.Eng.SV.arr Go.IntKind.u64 (4 : Nat) (Go.Eng.dF (Go.Eng.B.powF (Go.Eng.vF (Go.Eng.dF A)) (7237005577332262213973186563042994240829374041602535252466099000494570602494 : Nat) % Go.Eng.P255)), Go.Eng.SV.cb Bool.true])) (ob := [(Go.Eng.dF (Go.Eng.vF (Go.Eng.dF (Go.Eng.B.powF (Go.Eng.vF (Go.Eng.dF A)) (7237005577332262213973186563042994240829374041602535252466099000494570602494 : Nat) % Go.Eng.P255)) * Go.Eng.vF (Go.Eng.dF (Go.Eng.B.powF (Go.Eng.vF (Go.Eng.dF A)) (7237005577332262213973186563042994240829374041602535252466099000494570602494 : Nat) % Go.Eng.P255)) % Go.Eng.P255) != Go.Eng.dF A) = Bool.false, (Go.Eng.dF (Go.Eng.vF (Go.Eng.dF (Go.Eng.B.powF (Go.Eng.vF (Go.Eng.dF A)) (7237005577332262213973186563042994240829374041602535252466099000494570602494 : Nat) % Go.Eng.P255)) * Go.Eng.vF (Go.Eng.dF (Go.Eng.B.powF (Go.Eng.vF (Go.Eng.dF A)) (7237005577332262213973186563042994240829374041602535252466099000494570602494 : Nat) % Go.Eng.P255)) % Go.Eng.P255) != Go.Eng.dF A) = Bool.false, ((Go.Eng.dF (Go.Eng.B.powF (Go.Eng.vF (Go.Eng.dF A)) (7237005577332262213973186563042994240829374041602535252466099000494570602494 : Nat) % Go.Eng.P255)).getD (0 : Nat) (0 : Nat) &&& (1 : Nat) == (1 : Nat)) = Bool.false]) (sc' := []) (by kernel_rfl) ?_ ?_
        · simp only [vd hM, hX, hv, hXX, h1, hAP, dF_head, hodd]
          exact ⟨by simp, by simp, by simpa using h3, trivial⟩
        · have eV : sqV A = sqX A % P255 := by unfold sqV; rw [if_pos eO, eY, if_neg h3]
          simp only [vd hM, hX]
          rw [eO, eV]
          exact ⟨rfl, rfl, rfl⟩
    · have eY : sqY A = mulF (sqX A) (powF 2 E14) := by unfold sqY; rw [if_neg h1]
      by_cases h2 : mulF (sqY A) (sqY A) % P255 = A % P255
      · have eO : sqOk A = true := by unfold sqOk; exact decide_eq_true h2
        by_cases h3 : sqY A % P255 % 2 = 1
        · refine hold_endw mixed ok11d (unroll := true) (f := 100) (sc := [true, false, true]) (r := (Go.Eng.SV.tup [Go.Eng.SV.arr Go.IntKind.u64 (4 : Nat) (Go.Eng.dF (((57896044618658097711785492504343953926634992332820282019728792003956564819949 : Nat) - Go.Eng.vF (Go.Eng.dF (Go.Eng.vF (Go.Eng.dF (Go.Eng.B.powF (Go.Eng.vF (Go.Eng.dF A)) (7237005577332262213973186563042994240829374041602535252466099000494570602494 : Nat) % Go.Eng.P255)) * (19681161376707505956807079304988542015446066515923890162744021073123829784752 : Nat) % Go.Eng.P255))) % Go.Eng.P255)), Go.Eng.SV.cb Bool.true])) (ob := [(Go.Eng.dF (Go.Eng.vF (Go.Eng.dF (Go.Eng.B.powF (Go.Eng.vF (Go.Eng.dF A)) (7237005577332262213973186563042994240829374041602535252466099000494570602494 : Nat) % Go.Eng.P255)) * Go.Eng.vF (Go.Eng.dF (Go.Eng.B.powF (Go.Eng.vF (Go.Eng.dF A)) (7237005577332262213973186563042994240829374041602535252466099000494570602494 : Nat) % Go.Eng.P255)) % Go.Eng.P255) != Go.Eng.dF A) = Bool.true, (Go.Eng.dF (Go.Eng.vF (Go.Eng.dF (Go.Eng.vF (Go.Eng.dF (Go.Eng.B.powF (Go.Eng.vF (Go.Eng.dF A)) (7237005577332262213973186563042994240829374041602535252466099000494570602494 : Nat) % Go.Eng.P255)) * (19681161376707505956807079304988542015446066515923890162744021073123829784752 : Nat) % Go.Eng.P255)) * Go.Eng.vF (Go.Eng.dF (Go.Eng.vF (Go.Eng.dF (Go.Eng.B.powF (Go.Eng.vF (Go.Eng.dF A)) (7237005577332262213973186563042994240829374041602535252466099000494570602494 : Nat) % Go.Eng.P255)) * (19681161376707505956807079304988542015446066515923890162744021073123829784752 : Nat) % Go.Eng.P255)) % Go.Eng.P255) != Go.Eng.dF A) = Bool.false, ((Go.Eng.dF (Go.Eng.vF (Go.Eng.dF (Go.Eng.B.powF (Go.Eng.vF (Go.Eng.dF A)) (7237005577332262213973186563042994240829374041602535252466099000494570602494 : Nat) % Go.Eng.P255)) * (19681161376707505956807079304988542015446066515923890162744021073123829784752 : Nat) % Go.Eng.P255)).getD (0 : Nat) (0 : Nat) &&& (1 : Nat) == (1 : Nat)) = Bool.true, (0 : Nat) < Go.Eng.P255, Go.Eng.vF (Go.Eng.dF (Go.Eng.vF (Go.Eng.dF (Go.Eng.B.powF (Go.Eng.vF (Go.Eng.dF A)) (7237005577332262213973186563042994240829374041602535252466099000494570602494 : Nat) % Go.Eng.P255)) * (19681161376707505956807079304988542015446066515923890162744021073123829784752 : Nat) % Go.Eng.P255)) < Go.Eng.P255]) (sc' := []) (by kernel_rfl) ?_ ?_
          · simp only [vd hM, hX, hv, hXX, hY, ← eY, hYY, h2, hAP, dF_head, hodd, h3]
            refine ⟨?_, by simp, by simp, by decide, P_ltP _, trivial⟩
            rw [dF_ne (P_lt _) hM, decide_eq_true_iff]
            rw [hAP] at h1
            exact h1
          · have eV : sqV A = subF 0 (sqY A % P255) % P255 := by unfold sqV; rw [if_pos eO, if_pos h3]
            simp only [vd hM, hX, hv, hY, ← eY, hsub]
            rw [eO, eV]
            exact ⟨rfl, rfl, rfl⟩
        · refine hold_endw mixed ok11d (unroll := true) (f := 100) (sc := [true, false, false]) (r := (Go.Eng.SV.tup [Go.Eng.SV.arr Go.IntKind.u64 (4 : Nat) (Go.Eng.dF (Go.Eng.vF (Go.Eng.dF (Go.Eng.B.powF (Go.Eng.vF (Go.Eng.dF A)) (7237005577332262213973186563042994240829374041602535252466099000494570602494 : Nat) % Go.Eng.P255)) * (19681161376707505956807079304988542015446066515923890162744021073123829784752 : Nat) % Go.Eng.P255)), Go.Eng.SV.cb Bool.true])) (ob := [(Go.Eng.dF (Go.Eng.vF (Go.Eng.dF (Go.Eng.B.powF (Go.Eng.vF (Go.Eng.dF A)) (7237005577332262213973186563042994240829374041602535252466099000494570602494 : Nat) % Go.Eng.P255)) * Go.Eng.vF (Go.Eng.dF (Go.Eng.B.powF (Go.Eng.vF (Go.Eng.dF A)) (7237005577332262213973186563042994240829374041602535252466099000494570602494 : Nat) % Go.Eng.P255)) % Go.Eng.P255) != Go.Eng.dF A) = Bool.true, (Go.Eng.dF (Go.Eng.vF (Go.Eng.dF (Go.Eng.vF (Go.Eng.dF (Go.Eng.B.powF (Go.Eng.vF (Go.Eng.dF A)) (7237005577332262213973186563042994240829374041602535252466099000494570602494 : Nat) % Go.Eng.P255)) * (19681161376707505956807079304988542015446066515923890162744021073123829784752 : Nat) % Go.Eng.P255)) * Go.Eng.vF (Go.Eng.dF (Go.Eng.vF (Go.Eng.dF (Go.Eng.B.powF (Go.Eng.vF (Go.Eng.dF A)) (7237005577332262213973186563042994240829374041602535252466099000494570602494 : Nat) % Go.Eng.P255)) * (19681161376707505956807079304988542015446066515923890162744021073123829784752 : Nat) % Go.Eng.P255)) % Go.Eng.P255) != Go.Eng.dF A) = Bool.false, ((Go.Eng.dF (Go.Eng.vF (Go.Eng.dF (Go.Eng.B.powF (Go.Eng.vF (Go.Eng.dF A)) (7237005577332262213973186563042994240829374041602535252466099000494570602494 : Nat) % Go.Eng.P255)) * (19681161376707505956807079304988542015446066515923890162744021073123829784752 : Nat) % Go.Eng.P255)).getD (0 : Nat) (0 : Nat) &&& (1 : Nat) == (1 : Nat)) = Bool.false]) (sc' := []) (by kernel_rfl) ?_ ?_
          · simp only [vd hM, hX, hv, hXX, hY, ← eY, hYY, h2, hAP, dF_head, hodd]
            refine ⟨?_, by simp, by simpa using h3, trivial⟩
            rw [dF_ne (P_lt _) hM, decide_eq_true_iff]
            rw [hAP] at h1
            exact h1
          · have eV : sqV A = sqY A % P255 := by unfold sqV; rw [if_pos eO, if_neg h3]
            simp only [vd hM, hX, hv, hY, ← eY]
            rw [eO, eV]
            exact ⟨rfl, rfl, rfl⟩
      · have eO : sqOk A = false := by unfold sqOk; exact decide_eq_false h2
        refine hold_endw mixed ok11d (unroll := true) (f := 100) (sc := [true, true]) (r := (Go.Eng.SV.tup [Go.Eng.SV.arr Go.IntKind.u64 (4 : Nat) [(0 : Nat), (0 : Nat), (0 : Nat), (0 : Nat)], Go.Eng.SV.cb Bool.false])) (ob := [(Go.Eng.dF (Go.Eng.vF (Go.Eng.dF (Go.Eng.B.powF (Go.Eng.vF (Go.Eng.dF A)) (7237005577332262213973186563042994240829374041602535252466099000494570602494 : Nat) % Go.Eng.P255)) * Go.Eng.vF (Go.Eng.dF (Go.Eng.B.powF (Go.Eng.vF (Go.Eng.dF A)) (7237005577332262213973186563042994240829374041602535252466099000494570602494 : Nat) % Go.Eng.P255)) % Go.Eng.P255) != Go.Eng.dF A) = Bool.true, (Go.Eng.dF (Go.Eng.vF (Go.Eng.dF (Go.Eng.vF (Go.Eng.dF (Go.Eng.B.powF (Go.Eng.vF (Go.Eng.dF A)) (7237005577332262213973186563042994240829374041602535252466099000494570602494 : Nat) % Go.Eng.P255)) * (19681161376707505956807079304988542015446066515923890162744021073123829784752 : Nat) % Go.Eng.P255)) * Go.Eng.vF (Go.Eng.dF (Go.Eng.vF (Go.Eng.dF (Go.Eng.B.powF (Go.Eng.vF (Go.Eng.dF A)) (7237005577332262213973186563042994240829374041602535252466099000494570602494 : Nat) % Go.Eng.P255)) * (19681161376707505956807079304988542015446066515923890162744021073123829784752 : Nat) % Go.Eng.P255)) % Go.Eng.P255) != Go.Eng.dF A) = Bool.true]) (sc' := []) (by kernel_rfl) ?_ ?_
        · simp only [vd hM, hX, hv, hXX, hY, ← eY, hYY]
          rw [hAP] at h1 h2
          rw [dF_ne (P_lt _) hM, dF_ne (P_lt _) hM]
          exact ⟨decide_eq_true h1, decide_eq_true h2, trivial⟩
        · have eV : sqV A = 0 := by unfold sqV; rw [eO]; rfl
          rw [eO, eV]
          exact ⟨rfl, rfl, rfl⟩
  · cases h
theorem ok11e : CtrOk Try.prog T11e := addC_ok ok11d c59
theorem c16 : ∀ args res ob, e16 args = some (res, ob) → All ob → Contract Try.prog 16 args res := by
  intro args res ob h hob
  simp only [e16, t2b] at h
  split at h
  · rename_i a b
    cases h
    refine contract Try.func16 (body := bodyOf Try.f16) rfl (by kernel_rfl) (by kernel_rfl) rfl ?_
    rintro ⟨ha, hb, _⟩ w0 S
    have Ha := vB_lt ha
    have Hb := vB_lt hb
    refine hold_end mixed ok11e (unroll := true) (f := 100) (sc := []) (r := (Go.Eng.SV.arr Go.IntKind.u8 (32 : Nat) (Go.Eng.dB (Go.Eng.vF (Go.Eng.dF (Go.Eng.vF (Go.Eng.dF (Go.Eng.vF (Go.Eng.dF (Go.Eng.vB a)) % Go.Eng.P255)) * Go.Eng.vF (Go.Eng.dF (Go.Eng.vF (Go.Eng.dF (Go.Eng.vB b)) % Go.Eng.P255)) % Go.Eng.P255)))))) (ob := []) (sc' := []) (by kernel_rfl) trivial ?_
    rw [vd Ha, vd Hb, vd (P_lt _), vd (P_lt _), vd (P_lt _), ← Nat.mul_mod]
    rfl
  · cases h
theorem c20 : ∀ args res ob, e20 args = some (res, ob) → All ob → Contract Try.prog 20 args res := by
  intro args res ob h hob
  simp only [e20, t1b] at h
  split at h
  · rename_i a
    cases h
    refine contract Try.func20 (body := bodyOf Try.f20) rfl (by kernel_rfl) (by kernel_rfl) rfl ?_
    rintro ⟨ha, _⟩ w0 S
    have Ha := vB_lt ha
    refine hold_end mixed ok11e (unroll := true) (f := 100) (sc := []) (r := (Go.Eng.SV.arr Go.IntKind.u8 (32 : Nat) (Go.Eng.dB (Go.Eng.vF (Go.Eng.dF (Go.Eng.B.powF (Go.Eng.vF (Go.Eng.dF (Go.Eng.vF (Go.Eng.dF (Go.Eng.vB a)) % Go.Eng.P255))) Go.Eng.B.PI % Go.Eng.P255)))))) (ob := []) (sc' := []) (by kernel_rfl) trivial ?_
    rw [vd Ha, vd (P_lt _), vd (P_lt _)]
    refine congrArg fld ?_
    exact powF_congr _ (Nat.mod_mod _ _)
  · cases h
theorem c18 : ∀ args res ob, e18 args = some (res, ob) → All ob → Contract Try.prog 18 args res := by
  intro args res ob h hob
  simp only [e18, t1b] at h
  split at h
  · rename_i a
    cases h
    refine contract Try.func18 (body := bodyOf Try.f18) rfl (by kernel_rfl) (by kernel_rfl) rfl ?_
    rintro ⟨ha, _⟩ w0 S
    have Ha := vB_lt ha
    have hm : vB a % P255 % P255 = vB a % P255 := Nat.mod_mod _ _
    refine hold_endw mixed ok11e (unroll := true) (f := 100) (sc := []) (r := (Go.Eng.SV.tup [Go.Eng.SV.arr Go.IntKind.u8 (32 : Nat) (Go.Eng.dB (Go.Eng.vF (Go.Eng.dF (Go.Eng.B.sqV (Go.Eng.vF (Go.Eng.dF (Go.Eng.vF (Go.Eng.dF (Go.Eng.vB a)) % Go.Eng.P255))))))), Go.Eng.SV.b (Go.Eng.B.sqOk (Go.Eng.vF (Go.Eng.dF (Go.Eng.vF (Go.Eng.dF (Go.Eng.vB a)) % Go.Eng.P255))))])) (ob := [Go.Eng.vF (Go.Eng.dF (Go.Eng.vF (Go.Eng.dF (Go.Eng.vB a)) % Go.Eng.P255)) < Go.Eng.P255]) (sc' := []) (by kernel_rfl) ?_ ?_
    · rw [vd Ha, vd (P_lt _)]
      exact ⟨P_ltP _, trivial⟩
    · rw [vd Ha, vd (P_lt _), vd (sqV_lt _), sqV_congr hm, sqOk_congr hm]
      exact ⟨rfl, rfl, rfl⟩
  · cases h
theorem ok11 : CtrOk Try.prog T11 := addC_ok (addC_ok (addC_ok ok11e c16) c20) c18
end
end Go.Eng.B
