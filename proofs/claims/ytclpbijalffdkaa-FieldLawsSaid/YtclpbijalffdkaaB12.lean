/- coresecref08: Power, Inverse, shifted, Root, Mul, Inv, Sqrt. -/
import Derived.Test.YtclpbijalffdkaaB11
namespace Go.Eng.B
open Go Go.Eng Go.Proofs
section
variable {w0 : World} {S : Nat → Prop} {res : SV}
theorem c85_in (a b : List Nat) (hb2 : ∀ y ∈ b, y < 18446744073709551616) (X : Nat) (hX : res = fe X) :
    ∀ n, n ≤ 256 → ∀ acc, acc < M256 → (n = 0 → acc < P255) → pwF (vF a) (vF b) n acc % P255 = X →
      Hold Try.prog (bodyOf Try.f85) (Fin Try.prog Try.f85 w0 S res) w0 S st85 (s85 a b (.i .i64 ((n : Int) - 1)) acc) := by
  intro n
  induction n with
  | zero =>
    intro _ acc hacc h0 hp
    refine hold_unroll (c := _) rfl ?_
    refine hold_end mixed ok11b (unroll := false) (f := 100) (sc := [false]) (r := (Go.Eng.SV.arr Go.IntKind.u64 (4 : Nat) (Go.Eng.dF acc))) (ob := [Bool.false = Bool.false]) (sc' := []) (by kernel_rfl) ?_ ?_
    · exact ⟨by decide, trivial⟩
    · have e : pwF (vF a) (vF b) 0 acc = acc := rfl
      rw [e, Nat.mod_eq_of_lt (h0 rfl)] at hp
      rw [hX, ← hp]; rfl
  | succ n ih =>
    intro hn acc hacc _ hp
    refine Hold.weaken (sl' := (s85 a b (.u .i64 n) acc).slots) ?_ (by simp [wks, wk, s85, lim]; omega)
    refine hold_unroll (c := _) rfl ?_
    have hbit := bit_vl b hb2 n
    have hsq : vF (dF acc) = acc := by rw [vF_dF, Nat.mod_eq_of_lt hacc]
    have hsm : vF (dF (acc * acc % P255)) = acc * acc % P255 := by rw [vF_dF, Nat.mod_eq_of_lt (P_lt _)]
    simp only [pwF] at hp
    by_cases hE : vF b / 2 ^ n % 2 = 1
    · refine hold_cut mixed ok11b (unroll := false) (f := 100) (sc := [true, true]) (ks := [2,3,4,5,6]) (bs := [0,1,2,3]) (nx := 4) (st' := [Go.Eng.It.lp [(0 : Nat), (1 : Nat), (0 : Nat), (1 : Nat), (1 : Nat)], Go.Eng.It.blk (0 : Nat), Go.Eng.It.at [(1 : Nat), (1 : Nat), (1 : Nat)]]) (σ' := { nt := (29 : Nat), slots := [((2 : Nat), Go.Eng.SV.ptr (0 : Nat) (0 : Nat) (Go.Eng.Ix.c (0 : Nat))), ((3 : Nat), Go.Eng.SV.ptr (1 : Nat) (0 : Nat) (Go.Eng.Ix.c (0 : Nat))), ((4 : Nat), Go.Eng.SV.ptr (2 : Nat) (0 : Nat) (Go.Eng.Ix.c (0 : Nat))), ((5 : Nat), Go.Eng.SV.ptr (3 : Nat) (0 : Nat) (Go.Eng.Ix.c (0 : Nat))), ((6 : Nat), Go.Eng.SV.i Go.IntKind.i64 ((↑n : Int) - (1 : Int)))], blks := [((0 : Nat), { ty := (43 : Nat), segs := [Go.Eng.SV.arr Go.IntKind.u64 (4 : Nat) a] }), ((1 : Nat), { ty := (43 : Nat), segs := [Go.Eng.SV.arr Go.IntKind.u64 (4 : Nat) b] }), ((2 : Nat), { ty := (43 : Nat), segs := [Go.Eng.SV.arr Go.IntKind.u64 (4 : Nat) [(0 : Nat), (0 : Nat), (0 : Nat), (0 : Nat)]] }), ((3 : Nat), { ty := (43 : Nat), segs := [Go.Eng.SV.arr Go.IntKind.u64 (4 : Nat) (Go.Eng.dF (Go.Eng.vF (Go.Eng.dF (Go.Eng.vF (Go.Eng.dF acc) * Go.Eng.vF (Go.Eng.dF acc) % Go.Eng.P255)) * Go.Eng.vF a % Go.Eng.P255))] })], next := (4 : Nat) }) (ob := [Decidable.decide ((0 : Nat) ≤ n) = Bool.true, n / (64 : Nat) < (4 : Nat), n / (64 : Nat) < (4 : Nat), n % (64 : Nat) < (64 : Nat), (b.getD (n / (64 : Nat)) (0 : Nat) / (2 : Nat) ^ (n % (64 : Nat)) &&& (1 : Nat) == (1 : Nat)) = Bool.true]) (sc' := []) (by kernel_rfl) ?_ ?_
      · repeat' (first | exact True.intro | refine And.intro ?_ ?_)
        all_goals first | omega | (simp; done) | (rw [and_one, hbit]; simpa [vF] using hE)
      · rw [if_pos hE] at hp
        have := ih (by omega) (acc * acc % P255 * vF a % P255) (P_lt _) (fun _ => Nat.mod_lt _ (by decide)) (by
          rw [← hp]
          refine pwF_congr _ _ _ rfl _ _ _ ?_
          rw [mulF_mod, Nat.mod_mod, Nat.mul_mod (mulF acc acc), mulF_mod, ← Nat.mul_mod, Nat.mod_mul_mod])
        refine Hold.cast this ?_
        rw [hsq, hsm]
        rfl
    · refine hold_cut mixed ok11b (unroll := false) (f := 100) (sc := [true, false]) (ks := [2,3,4,5,6]) (bs := [0,1,2,3]) (nx := 4) (st' := [Go.Eng.It.lp [(0 : Nat), (1 : Nat), (0 : Nat), (1 : Nat), (1 : Nat)], Go.Eng.It.blk (0 : Nat), Go.Eng.It.at [(1 : Nat), (1 : Nat), (1 : Nat)]]) (σ' := { nt := (29 : Nat), slots := [((2 : Nat), Go.Eng.SV.ptr (0 : Nat) (0 : Nat) (Go.Eng.Ix.c (0 : Nat))), ((3 : Nat), Go.Eng.SV.ptr (1 : Nat) (0 : Nat) (Go.Eng.Ix.c (0 : Nat))), ((4 : Nat), Go.Eng.SV.ptr (2 : Nat) (0 : Nat) (Go.Eng.Ix.c (0 : Nat))), ((5 : Nat), Go.Eng.SV.ptr (3 : Nat) (0 : Nat) (Go.Eng.Ix.c (0 : Nat))), ((6 : Nat), Go.Eng.SV.i Go.IntKind.i64 ((↑n : Int) - (1 : Int)))], blks := [((0 : Nat), { ty := (43 : Nat), segs := [Go.Eng.SV.arr Go.IntKind.u64 (4 : Nat) a] }), ((1 : Nat), { ty := (43 : Nat), segs := [Go.Eng.SV.arr Go.IntKind.u64 (4 : Nat) b] }), ((2 : Nat), { ty := (43 : Nat), segs := [Go.Eng.SV.arr Go.IntKind.u64 (4 : Nat) [(0 : Nat), (0 : Nat), (0 : Nat), (0 : Nat)]] }), ((3 : Nat), { ty := (43 : Nat), segs := [Go.Eng.SV.arr Go.IntKind.u64 (4 : Nat) (Go.Eng.dF (Go.Eng.vF (Go.Eng.dF acc) * Go.Eng.vF (Go.Eng.dF acc) % Go.Eng.P255))] })], next := (4 : Nat) }) (ob := [Decidable.decide ((0 : Nat) ≤ n) = Bool.true, n / (64 : Nat) < (4 : Nat), n / (64 : Nat) < (4 : Nat), n % (64 : Nat) < (64 : Nat), (b.getD (n / (64 : Nat)) (0 : Nat) / (2 : Nat) ^ (n % (64 : Nat)) &&& (1 : Nat) == (1 : Nat)) = Bool.false]) (sc' := []) (by kernel_rfl) ?_ ?_
      · repeat' (first | exact True.intro | refine And.intro ?_ ?_)
        all_goals first | omega | (simp; done) | (rw [and_one, hbit]; simpa [vF] using hE)
      · rw [if_neg hE] at hp
        have := ih (by omega) (acc * acc % P255) (P_lt _) (fun _ => Nat.mod_lt _ (by decide)) (by
          rw [← hp]
          refine pwF_congr _ _ _ rfl _ _ _ ?_
          rw [mulF_mod, Nat.mod_mod])
        refine Hold.cast this ?_
        rw [hsq]
        rfl
theorem c85 : ∀ args res ob, e85 args = some (res, ob) → All ob → Contract Try.prog 85 args res := by
  intro args res ob h hob
  simp only [e85, t2] at h
  split at h
  · rename_i a b
    cases h
    refine contract Try.func85 (body := bodyOf Try.f85) rfl (by kernel_rfl) (by kernel_rfl) rfl ?_
    rintro ⟨ha, hb, _⟩ w0 S
    refine hold_cut mixed ok11b (unroll := false) (f := 100) (sc := []) (ks := [2,3,4,5,6]) (bs := [0,1,2,3]) (nx := 4) (st' := [Go.Eng.It.lp [(0 : Nat), (1 : Nat), (0 : Nat), (1 : Nat), (1 : Nat)], Go.Eng.It.blk (0 : Nat), Go.Eng.It.at [(1 : Nat), (1 : Nat), (1 : Nat)]]) (σ' := { nt := (29 : Nat), slots := [((2 : Nat), Go.Eng.SV.ptr (0 : Nat) (0 : Nat) (Go.Eng.Ix.c (0 : Nat))), ((3 : Nat), Go.Eng.SV.ptr (1 : Nat) (0 : Nat) (Go.Eng.Ix.c (0 : Nat))), ((4 : Nat), Go.Eng.SV.ptr (2 : Nat) (0 : Nat) (Go.Eng.Ix.c (0 : Nat))), ((5 : Nat), Go.Eng.SV.ptr (3 : Nat) (0 : Nat) (Go.Eng.Ix.c (0 : Nat))), ((6 : Nat), Go.Eng.SV.c Go.IntKind.i64 (255 : Int))], blks := [((0 : Nat), { ty := (43 : Nat), segs := [Go.Eng.SV.arr Go.IntKind.u64 (4 : Nat) a] }), ((1 : Nat), { ty := (43 : Nat), segs := [Go.Eng.SV.arr Go.IntKind.u64 (4 : Nat) b] }), ((2 : Nat), { ty := (43 : Nat), segs := [Go.Eng.SV.arr Go.IntKind.u64 (4 : Nat) [(0 : Nat), (0 : Nat), (0 : Nat), (0 : Nat)]] }), ((3 : Nat), { ty := (43 : Nat), segs := [Go.Eng.SV.arr Go.IntKind.u64 (4 : Nat) [(1 : Nat), (0 : Nat), (0 : Nat), (0 : Nat)]] })], next := (4 : Nat) }) (ob := []) (sc' := []) (by kernel_rfl) trivial ?_
    have := c85_in (w0 := w0) (S := S) a b hb.2 (powF (vF a) (vF b) % P255) rfl 256 (Nat.le_refl _) 1 (by decide) (fun h => by cases h) rfl
    exact Hold.weaken this (by simp [wks, wk])
  · cases h
theorem ok11c : CtrOk Try.prog T11c := addC_ok ok11b c85
theorem c62 : ∀ args res ob, e62 args = some (res, ob) → All ob → Contract Try.prog 62 args res := by
  intro args res ob h hob
  simp only [e62, t1] at h
  split at h
  · rename_i a
    cases h
    refine contract Try.func62 (body := bodyOf Try.f62) rfl (by kernel_rfl) (by kernel_rfl) rfl ?_
    rintro ⟨ha, _⟩ w0 S
    exact hold_end mixed ok11c (unroll := true) (f := 100) (sc := []) (r := (Go.Eng.SV.arr Go.IntKind.u64 (4 : Nat) (Go.Eng.dF (Go.Eng.B.powF (Go.Eng.vF a) (57896044618658097711785492504343953926634992332820282019728792003956564819947 : Nat) % Go.Eng.P255)))) (ob := []) (sc' := []) (by kernel_rfl) trivial rfl
  · cases h
theorem c86 : ∀ args res ob, e86 args = some (res, ob) → All ob → Contract Try.prog 86 args res := by
  intro args res ob h hob
  unfold e86 at h
  split at h
  · rename_i a k
    split at h
    · rename_i hk
      subst hk
      cases h
      refine contract Try.func86 (body := bodyOf Try.f86) rfl (by kernel_rfl) (by kernel_rfl) rfl ?_
      rintro ⟨ha, _⟩ w0 S
      obtain ⟨a0, a1, a2, a3, rfl⟩ := list4 ha.1
      have ha2 := ha.2
      simp only [List.mem_cons, List.not_mem_nil, or_false, forall_eq_or_imp, forall_eq, lim] at ha2
      refine hold_end mixed ok11c (unroll := true) (f := 100) (sc := []) (r := (Go.Eng.SV.arr Go.IntKind.u64 (4 : Nat) [a0 / (8 : Nat) ||| a1 * (2305843009213693952 : Nat) % (18446744073709551616 : Nat), a1 / (8 : Nat) ||| a2 * (2305843009213693952 : Nat) % (18446744073709551616 : Nat), a2 / (8 : Nat) ||| a3 * (2305843009213693952 : Nat) % (18446744073709551616 : Nat), a3 / (8 : Nat)])) (ob := []) (sc' := []) (by kernel_rfl) trivial ?_
      rw [q3 ha2.1, q3 ha2.2.1, q3 ha2.2.2.1]
      refine congrArg (SV.arr .u64 4) ?_
      have e : vF [a0, a1, a2, a3] / 8 = vF [a0 / 8 + a1 % 8 * 2305843009213693952, a1 / 8 + a2 % 8 * 2305843009213693952, a2 / 8 + a3 % 8 * 2305843009213693952, a3 / 8] := by
        rw [vF4, vF4]; omega
      rw [e, dF_vF]
      refine ⟨rfl, ?_⟩
      simp only [List.mem_cons, List.not_mem_nil, or_false, forall_eq_or_imp, forall_eq, lim]
      omega
    · split at h
      · rename_i hk
        subst hk
        cases h
        refine contract Try.func86 (body := bodyOf Try.f86) rfl (by kernel_rfl) (by kernel_rfl) rfl ?_
        rintro ⟨ha, _⟩ w0 S
        obtain ⟨a0, a1, a2, a3, rfl⟩ := list4 ha.1
        have ha2 := ha.2
        simp only [List.mem_cons, List.not_mem_nil, or_false, forall_eq_or_imp, forall_eq, lim] at ha2
        refine hold_end mixed ok11c (unroll := true) (f := 100) (sc := []) (r := (Go.Eng.SV.arr Go.IntKind.u64 (4 : Nat) [a0 / (4 : Nat) ||| a1 * (4611686018427387904 : Nat) % (18446744073709551616 : Nat), a1 / (4 : Nat) ||| a2 * (4611686018427387904 : Nat) % (18446744073709551616 : Nat), a2 / (4 : Nat) ||| a3 * (4611686018427387904 : Nat) % (18446744073709551616 : Nat), a3 / (4 : Nat)])) (ob := []) (sc' := []) (by kernel_rfl) trivial ?_
        rw [q2 ha2.1, q2 ha2.2.1, q2 ha2.2.2.1]
        refine congrArg (SV.arr .u64 4) ?_
        have e : vF [a0, a1, a2, a3] / 4 = vF [a0 / 4 + a1 % 4 * 4611686018427387904, a1 / 4 + a2 % 4 * 4611686018427387904, a2 / 4 + a3 % 4 * 4611686018427387904, a3 / 4] := by
          rw [vF4, vF4]; omega
        rw [e, dF_vF]
        refine ⟨rfl, ?_⟩
        simp only [List.mem_cons, List.not_mem_nil, or_false, forall_eq_or_imp, forall_eq, lim]
        omega
      · cases h
  · cases h
theorem ok11d : CtrOk Try.prog T11d := addC_ok (addC_ok ok11c c62) c86
end
end Go.Eng.B
