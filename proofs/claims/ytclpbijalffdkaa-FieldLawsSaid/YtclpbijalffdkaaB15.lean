/- coreseclaw08.FieldRoots and FieldLaws give true. -/
import Derived.Test.YtclpbijalffdkaaB15d
namespace Go.Eng.B
open Go Go.Eng Go.Proofs
theorem bd {A : Nat} (h : A < M256) : vB (dB A) = A := by rw [vB_dB, Nat.mod_eq_of_lt h]
theorem dB_inj {A B : Nat} (ha : A < M256) (hb : B < M256) : (dB A == dB B) = decide (A = B) := by
  by_cases h : A = B
  · subst h; simp
  · rw [decide_eq_false h, beq_eq_false_iff_ne]
    intro e
    apply h
    have := congrArg vB e
    rwa [bd ha, bd hb] at this
theorem dB_ne {A B : Nat} (ha : A < M256) (hb : B < M256) : (dB A != dB B) = decide (A ≠ B) := by
  rw [bne, dB_inj ha hb]; simp
theorem dB_head (N : Nat) : (dB N).getD 0 0 = N % 256 := rfl
theorem dB_zero : [0, 0, 0, 0, 0, 0, 0, 0, 0, 0, 0, 0, 0, 0, 0, 0, 0, 0, 0, 0, 0, 0, 0, 0, 0, 0, 0, 0, 0, 0, 0, 0] = dB 0 := by decide
theorem dB_one : [1, 0, 0, 0, 0, 0, 0, 0, 0, 0, 0, 0, 0, 0, 0, 0, 0, 0, 0, 0, 0, 0, 0, 0, 0, 0, 0, 0, 0, 0, 0, 0] = dB 1 := by decide
theorem law6 (a : List Nat) : Contract Try.prog 6 [.arr .u8 32 a] (.b true) := by
  refine contract Try.func6 (body := bodyOf Try.f6) rfl (by kernel_rfl) (by kernel_rfl) rfl ?_
  rintro ⟨ha, _⟩ w0 S
  have hA := vB_lt ha
  have hm := P_lt (vB a * vB a)
  have hmm : vB a * vB a % P255 % P255 = vB a * vB a % P255 := Nat.mod_mod _ _
  have h1 : sqOk (vB a * vB a % P255) = true := by rw [sqOk_congr hmm]; exact sqOk_square _
  have hV := sqV_lt (vB a * vB a % P255)
  have h2 : sqV (vB a * vB a % P255) * sqV (vB a * vB a % P255) % P255 = vB a * vB a % P255 := by rw [sqV_sq h1, hmm]
  have h3 : sqV (vB a * vB a % P255) % 256 % 2 = 0 := by have := sqV_even (A := vB a * vB a % P255); omega
  have hP := sqV_P (vB a * vB a % P255)
  have h4 : sqV (vB a * vB a % P255) = vB a % P255 ∨ (sqV (vB a * vB a % P255) + vB a) % P255 = 0 := by
    rcases square_eq prP h2 with h | h
    · left; rw [Nat.mod_eq_of_lt hP] at h; exact h
    · right; exact h
  have h5 : sqOk (vB a) ≠ sqOk ((vB a + vB a) % P255) ∨ vB a % P255 = 0 := by
    by_cases h0 : vB a % P255 = 0
    · exact .inr h0
    · left
      rw [sqOk_congr (A := (vB a + vB a) % P255) (B := vB a + vB a) (Nat.mod_mod _ _)]
      exact sqOk_twice h0
  have hm2 := P_lt (vB a + vB a)
  have k4 : (dB (sqV (vB a * vB a % P255)) != dB (vB a % P255)) = decide (sqV (vB a * vB a % P255) ≠ vB a % P255) := dB_ne hV (P_lt _)
  by_cases c1 : sqV (vB a * vB a % P255) = vB a % P255
  · by_cases c2 : sqOk (vB a) = sqOk ((vB a + vB a) % P255)
    · refine hold_end mixed ok11 (unroll := true) (f := 300) (sc := [false, false, false, false, false, true]) (r := (Go.Eng.SV.b Bool.true)) (ob := [(!Go.Eng.B.sqOk (Go.Eng.vB (Go.Eng.dB (Go.Eng.vB a * Go.Eng.vB a % Go.Eng.P255)))) = Bool.false, (Go.Eng.dB (Go.Eng.vB (Go.Eng.dB (Go.Eng.B.sqV (Go.Eng.vB (Go.Eng.dB (Go.Eng.vB a * Go.Eng.vB a % Go.Eng.P255))))) * Go.Eng.vB (Go.Eng.dB (Go.Eng.B.sqV (Go.Eng.vB (Go.Eng.dB (Go.Eng.vB a * Go.Eng.vB a % Go.Eng.P255))))) % Go.Eng.P255) != Go.Eng.dB (Go.Eng.vB a * Go.Eng.vB a % Go.Eng.P255)) = Bool.false, ((Go.Eng.dB (Go.Eng.B.sqV (Go.Eng.vB (Go.Eng.dB (Go.Eng.vB a * Go.Eng.vB a % Go.Eng.P255))))).getD (0 : Nat) (0 : Nat) % (2 : Nat) != (0 : Nat)) = Bool.false, (Go.Eng.dB (Go.Eng.B.sqV (Go.Eng.vB (Go.Eng.dB (Go.Eng.vB a * Go.Eng.vB a % Go.Eng.P255)))) != Go.Eng.dB (Go.Eng.vB a % Go.Eng.P255)) = Bool.false, (Go.Eng.B.sqOk (Go.Eng.vB a) != Go.Eng.B.sqOk (Go.Eng.vB (Go.Eng.dB ((Go.Eng.vB a + Go.Eng.vB a) % Go.Eng.P255)))) = Bool.false, (Go.Eng.dB (Go.Eng.vB a % Go.Eng.P255) == [(0 : Nat), (0 : Nat), (0 : Nat), (0 : Nat), (0 : Nat), (0 : Nat), (0 : Nat), (0 : Nat), (0 : Nat), (0 : Nat), (0 : Nat), (0 : Nat), (0 : Nat), (0 : Nat), (0 : Nat), (0 : Nat), (0 : Nat), (0 : Nat), (0 : Nat), (0 : Nat), (0 : Nat), (0 : Nat), (0 : Nat), (0 : Nat), (0 : Nat), (0 : Nat), (0 : Nat), (0 : Nat), (0 : Nat), (0 : Nat), (0 : Nat), (0 : Nat)]) = Bool.true]) (sc' := []) (by kernel_rfl) ?_ rfl
      have h0 := h5.resolve_left (fun h => h c2)
      simp only [bd hm, bd hV, bd hm2, h1, h2, dB_head, h3, dB_zero]
      exact ⟨rfl, by simp, rfl, by rw [k4]; simpa using c1, by simp [c2], by simp [h0], trivial⟩
    · refine hold_end mixed ok11 (unroll := true) (f := 300) (sc := [false, false, false, false, true]) (r := (Go.Eng.SV.b Bool.true)) (ob := [(!Go.Eng.B.sqOk (Go.Eng.vB (Go.Eng.dB (Go.Eng.vB a * Go.Eng.vB a % Go.Eng.P255)))) = Bool.false, (Go.Eng.dB (Go.Eng.vB (Go.Eng.dB (Go.Eng.B.sqV (Go.Eng.vB (Go.Eng.dB (Go.Eng.vB a * Go.Eng.vB a % Go.Eng.P255))))) * Go.Eng.vB (Go.Eng.dB (Go.Eng.B.sqV (Go.Eng.vB (Go.Eng.dB (Go.Eng.vB a * Go.Eng.vB a % Go.Eng.P255))))) % Go.Eng.P255) != Go.Eng.dB (Go.Eng.vB a * Go.Eng.vB a % Go.Eng.P255)) = Bool.false, ((Go.Eng.dB (Go.Eng.B.sqV (Go.Eng.vB (Go.Eng.dB (Go.Eng.vB a * Go.Eng.vB a % Go.Eng.P255))))).getD (0 : Nat) (0 : Nat) % (2 : Nat) != (0 : Nat)) = Bool.false, (Go.Eng.dB (Go.Eng.B.sqV (Go.Eng.vB (Go.Eng.dB (Go.Eng.vB a * Go.Eng.vB a % Go.Eng.P255)))) != Go.Eng.dB (Go.Eng.vB a % Go.Eng.P255)) = Bool.false, (Go.Eng.B.sqOk (Go.Eng.vB a) != Go.Eng.B.sqOk (Go.Eng.vB (Go.Eng.dB ((Go.Eng.vB a + Go.Eng.vB a) % Go.Eng.P255)))) = Bool.true]) (sc' := []) (by kernel_rfl) ?_ rfl
      simp only [bd hm, bd hV, bd hm2, h1, h2, dB_head, h3]
      exact ⟨rfl, by simp, rfl, by rw [k4]; simpa using c1, by simpa using c2, trivial⟩
  · have h6 := h4.resolve_left c1
    by_cases c2 : sqOk (vB a) = sqOk ((vB a + vB a) % P255)
    · refine hold_end mixed ok11 (unroll := true) (f := 300) (sc := [false, false, false, true, false, false, true]) (r := (Go.Eng.SV.b Bool.true)) (ob := [(!Go.Eng.B.sqOk (Go.Eng.vB (Go.Eng.dB (Go.Eng.vB a * Go.Eng.vB a % Go.Eng.P255)))) = Bool.false, (Go.Eng.dB (Go.Eng.vB (Go.Eng.dB (Go.Eng.B.sqV (Go.Eng.vB (Go.Eng.dB (Go.Eng.vB a * Go.Eng.vB a % Go.Eng.P255))))) * Go.Eng.vB (Go.Eng.dB (Go.Eng.B.sqV (Go.Eng.vB (Go.Eng.dB (Go.Eng.vB a * Go.Eng.vB a % Go.Eng.P255))))) % Go.Eng.P255) != Go.Eng.dB (Go.Eng.vB a * Go.Eng.vB a % Go.Eng.P255)) = Bool.false, ((Go.Eng.dB (Go.Eng.B.sqV (Go.Eng.vB (Go.Eng.dB (Go.Eng.vB a * Go.Eng.vB a % Go.Eng.P255))))).getD (0 : Nat) (0 : Nat) % (2 : Nat) != (0 : Nat)) = Bool.false, (Go.Eng.dB (Go.Eng.B.sqV (Go.Eng.vB (Go.Eng.dB (Go.Eng.vB a * Go.Eng.vB a % Go.Eng.P255)))) != Go.Eng.dB (Go.Eng.vB a % Go.Eng.P255)) = Bool.true, (Go.Eng.dB ((Go.Eng.vB (Go.Eng.dB (Go.Eng.B.sqV (Go.Eng.vB (Go.Eng.dB (Go.Eng.vB a * Go.Eng.vB a % Go.Eng.P255))))) + Go.Eng.vB a) % Go.Eng.P255) != [(0 : Nat), (0 : Nat), (0 : Nat), (0 : Nat), (0 : Nat), (0 : Nat), (0 : Nat), (0 : Nat), (0 : Nat), (0 : Nat), (0 : Nat), (0 : Nat), (0 : Nat), (0 : Nat), (0 : Nat), (0 : Nat), (0 : Nat), (0 : Nat), (0 : Nat), (0 : Nat), (0 : Nat), (0 : Nat), (0 : Nat), (0 : Nat), (0 : Nat), (0 : Nat), (0 : Nat), (0 : Nat), (0 : Nat), (0 : Nat), (0 : Nat), (0 : Nat)]) = Bool.false, (Go.Eng.B.sqOk (Go.Eng.vB a) != Go.Eng.B.sqOk (Go.Eng.vB (Go.Eng.dB ((Go.Eng.vB a + Go.Eng.vB a) % Go.Eng.P255)))) = Bool.false, (Go.Eng.dB (Go.Eng.vB a % Go.Eng.P255) == [(0 : Nat), (0 : Nat), (0 : Nat), (0 : Nat), (0 : Nat), (0 : Nat), (0 : Nat), (0 : Nat), (0 : Nat), (0 : Nat), (0 : Nat), (0 : Nat), (0 : Nat), (0 : Nat), (0 : Nat), (0 : Nat), (0 : Nat), (0 : Nat), (0 : Nat), (0 : Nat), (0 : Nat), (0 : Nat), (0 : Nat), (0 : Nat), (0 : Nat), (0 : Nat), (0 : Nat), (0 : Nat), (0 : Nat), (0 : Nat), (0 : Nat), (0 : Nat)]) = Bool.true]) (sc' := []) (by kernel_rfl) ?_ rfl
      have h0 := h5.resolve_left (fun h => h c2)
      simp only [bd hm, bd hV, bd hm2, h1, h2, dB_head, h3, h6, dB_zero]
      exact ⟨rfl, by simp, rfl, by rw [k4]; simpa using c1, by simp, by simp [c2], by simp [h0], trivial⟩
    · refine hold_end mixed ok11 (unroll := true) (f := 300) (sc := [false, false, false, true, false, true]) (r := (Go.Eng.SV.b Bool.true)) (ob := [(!Go.Eng.B.sqOk (Go.Eng.vB (Go.Eng.dB (Go.Eng.vB a * Go.Eng.vB a % Go.Eng.P255)))) = Bool.false, (Go.Eng.dB (Go.Eng.vB (Go.Eng.dB (Go.Eng.B.sqV (Go.Eng.vB (Go.Eng.dB (Go.Eng.vB a * Go.Eng.vB a % Go.Eng.P255))))) * Go.Eng.vB (Go.Eng.dB (Go.Eng.B.sqV (Go.Eng.vB (Go.Eng.dB (Go.Eng.vB a * Go.Eng.vB a % Go.Eng.P255))))) % Go.Eng.P255) != Go.Eng.dB (Go.Eng.vB a * Go.Eng.vB a % Go.Eng.P255)) = Bool.false, ((Go.Eng.dB (Go.Eng.B.sqV (Go.Eng.vB (Go.Eng.dB (Go.Eng.vB a * Go.Eng.vB a % Go.Eng.P255))))).getD (0 : Nat) (0 : Nat) % (2 : Nat) != (0 : Nat)) = Bool.false, (Go.Eng.dB (Go.Eng.B.sqV (Go.Eng.vB (Go.Eng.dB (Go.Eng.vB a * Go.Eng.vB a % Go.Eng.P255)))) != Go.Eng.dB (Go.Eng.vB a % Go.Eng.P255)) = Bool.true, (Go.Eng.dB ((Go.Eng.vB (Go.Eng.dB (Go.Eng.B.sqV (Go.Eng.vB (Go.Eng.dB (Go.Eng.vB a * Go.Eng.vB a % Go.Eng.P255))))) + Go.Eng.vB a) % Go.Eng.P255) != [(0 : Nat), (0 : Nat), (0 : Nat), (0 : Nat), (0 : Nat), (0 : Nat), (0 : Nat), (0 : Nat), (0 : Nat), (0 : Nat), (0 : Nat), (0 : Nat), (0 : Nat), (0 : Nat), (0 : Nat), (0 : Nat), (0 : Nat), (0 : Nat), (0 : Nat), (0 : Nat), (0 : Nat), (0 : Nat), (0 : Nat), (0 : Nat), (0 : Nat), (0 : Nat), (0 : Nat), (0 : Nat), (0 : Nat), (0 : Nat), (0 : Nat), (0 : Nat)]) = Bool.false, (Go.Eng.B.sqOk (Go.Eng.vB a) != Go.Eng.B.sqOk (Go.Eng.vB (Go.Eng.dB ((Go.Eng.vB a + Go.Eng.vB a) % Go.Eng.P255)))) = Bool.true]) (sc' := []) (by kernel_rfl) ?_ rfl
      simp only [bd hm, bd hV, bd hm2, h1, h2, dB_head, h3, h6, dB_zero]
      exact ⟨rfl, by simp, rfl, by rw [k4]; simpa using c1, by simp, by simpa using c2, trivial⟩
theorem sub_back {A C : Nat} (hC : C < M256) : ((A + C) % P255 + 173688133855974293135356477513031861779904976998460846059186376011869694459847 - C) % P255 = A % P255 := by
  have h3 : 173688133855974293135356477513031861779904976998460846059186376011869694459847 = P255 * 3 := by decide
  have hC3 : C ≤ P255 * 3 := by unfold M256 P255 at *; omega
  rw [h3]
  have e : (A + C) % P255 + P255 * 3 - C = (A + C) % P255 + (P255 * 3 - C) := by omega
  rw [e, Nat.add_mod, Nat.mod_mod, ← Nat.add_mod]
  have e2 : A + C + (P255 * 3 - C) = A + P255 * 3 := by omega
  rw [e2, Nat.add_mul_mod_self_left]
def s7 (a b c : List Nat) (n : Int) : St := ⟨103, [(3, SV.i IntKind.i64 n), (4, SV.ptr 0 0 (Ix.c 0)), (5, SV.ptr 1 0 (Ix.c 0)), (6, SV.ptr 2 0 (Ix.c 0)), (8, SV.cb false)],
  [(0, { ty := 23, segs := [SV.arr IntKind.u8 32 a] }), (1, { ty := 23, segs := [SV.arr IntKind.u8 32 b] }), (2, { ty := 23, segs := [SV.arr IntKind.u8 32 c] })], 3⟩
theorem law7 (a b c : List Nat) (n : Int) : Contract Try.prog 7 [.arr .u8 32 a, .arr .u8 32 b, .arr .u8 32 c, .i .i64 n] (.b true) := by
  obtain ⟨elem, he⟩ := ok13
  refine contract Try.func7 (body := bodyOf Try.f7) rfl (by kernel_rfl) (by kernel_rfl) rfl ?_
  rintro ⟨ha, hb, _⟩ w0 S
  refine hold_cut mixed he (unroll := true) (f := 4) (sc := []) (ks := [3,4,5,6,8]) (bs := [0,1,2]) (nx := 3) (st' := [Go.Eng.It.at [(1 : Nat), (1 : Nat)]]) (σ' := { nt := (103 : Nat), slots := [((3 : Nat), Go.Eng.SV.i Go.IntKind.i64 n), ((4 : Nat), Go.Eng.SV.ptr (0 : Nat) (0 : Nat) (Go.Eng.Ix.c (0 : Nat))), ((5 : Nat), Go.Eng.SV.ptr (1 : Nat) (0 : Nat) (Go.Eng.Ix.c (0 : Nat))), ((6 : Nat), Go.Eng.SV.ptr (2 : Nat) (0 : Nat) (Go.Eng.Ix.c (0 : Nat))), ((8 : Nat), Go.Eng.SV.cb Bool.false)], blks := [((0 : Nat), { ty := (23 : Nat), segs := [Go.Eng.SV.arr Go.IntKind.u8 (32 : Nat) a] }), ((1 : Nat), { ty := (23 : Nat), segs := [Go.Eng.SV.arr Go.IntKind.u8 (32 : Nat) b] }), ((2 : Nat), { ty := (23 : Nat), segs := [Go.Eng.SV.arr Go.IntKind.u8 (32 : Nat) (elem c n)] })], next := (3 : Nat) }) (ob := []) (sc' := []) (by kernel_rfl) trivial ?_
  generalize elem c n = c
  refine Hold.plain fun hbl _ => ?_
  have hc : pureF (SV.arr .u8 32 c) := (hbl 2 { ty := 23, segs := [SV.arr .u8 32 c] } (by simp)).1
  have hC := vB_lt hc
  clear hbl
  have a1 : (vB a + vB b) % P255 = (vB b + vB a) % P255 := by rw [Nat.add_comm]
  have a2 : vB a * vB b % P255 = vB b * vB a % P255 := by rw [Nat.mul_comm]
  have a3 : ((vB a + vB b) % P255 + vB c) % P255 = (vB a + (vB b + vB c) % P255) % P255 := by rw [Nat.mod_add_mod, Nat.add_mod_mod, Nat.add_assoc]
  have a4 : (vB a * vB b % P255) * vB c % P255 = vB a * (vB b * vB c % P255) % P255 := by rw [Nat.mod_mul_mod, Nat.mul_mod_mod, Nat.mul_assoc]
  have a5 : vB a * ((vB b + vB c) % P255) % P255 = (vB a * vB b % P255 + vB a * vB c % P255) % P255 := by rw [Nat.mul_mod_mod, ← Nat.add_mod, Nat.mul_add]
  have a6 := sub_back (A := vB a) hC
  by_cases h0 : vB a % P255 = 0
  · refine hold_end mixed he (unroll := true) (f := 300) (sc := [true, true, true, true, true, true, false, true, true]) (r := (Go.Eng.SV.b Bool.true)) (ob := [(Go.Eng.dB ((Go.Eng.vB a + Go.Eng.vB b) % Go.Eng.P255) == Go.Eng.dB ((Go.Eng.vB b + Go.Eng.vB a) % Go.Eng.P255)) = Bool.true, (Go.Eng.dB (Go.Eng.vB a * Go.Eng.vB b % Go.Eng.P255) == Go.Eng.dB (Go.Eng.vB b * Go.Eng.vB a % Go.Eng.P255)) = Bool.true, (Go.Eng.dB ((Go.Eng.vB (Go.Eng.dB ((Go.Eng.vB a + Go.Eng.vB b) % Go.Eng.P255)) + Go.Eng.vB c) % Go.Eng.P255) == Go.Eng.dB ((Go.Eng.vB a + Go.Eng.vB (Go.Eng.dB ((Go.Eng.vB b + Go.Eng.vB c) % Go.Eng.P255))) % Go.Eng.P255)) = Bool.true, (Go.Eng.dB (Go.Eng.vB (Go.Eng.dB (Go.Eng.vB a * Go.Eng.vB b % Go.Eng.P255)) * Go.Eng.vB c % Go.Eng.P255) == Go.Eng.dB (Go.Eng.vB a * Go.Eng.vB (Go.Eng.dB (Go.Eng.vB b * Go.Eng.vB c % Go.Eng.P255)) % Go.Eng.P255)) = Bool.true, (Go.Eng.dB (Go.Eng.vB a * Go.Eng.vB (Go.Eng.dB ((Go.Eng.vB b + Go.Eng.vB c) % Go.Eng.P255)) % Go.Eng.P255) == Go.Eng.dB ((Go.Eng.vB (Go.Eng.dB (Go.Eng.vB a * Go.Eng.vB b % Go.Eng.P255)) + Go.Eng.vB (Go.Eng.dB (Go.Eng.vB a * Go.Eng.vB c % Go.Eng.P255))) % Go.Eng.P255)) = Bool.true, (Go.Eng.dB ((Go.Eng.vB (Go.Eng.dB ((Go.Eng.vB a + Go.Eng.vB c) % Go.Eng.P255)) + (173688133855974293135356477513031861779904976998460846059186376011869694459847 : Nat) - Go.Eng.vB c) % Go.Eng.P255) == Go.Eng.dB (Go.Eng.vB a % Go.Eng.P255)) = Bool.true, (Go.Eng.dB (Go.Eng.vB a * Go.Eng.vB (Go.Eng.dB (Go.Eng.B.powF (Go.Eng.vB a) Go.Eng.B.PI % Go.Eng.P255)) % Go.Eng.P255) == [(1 : Nat), (0 : Nat), (0 : Nat), (0 : Nat), (0 : Nat), (0 : Nat), (0 : Nat), (0 : Nat), (0 : Nat), (0 : Nat), (0 : Nat), (0 : Nat), (0 : Nat), (0 : Nat), (0 : Nat), (0 : Nat), (0 : Nat), (0 : Nat), (0 : Nat), (0 : Nat), (0 : Nat), (0 : Nat), (0 : Nat), (0 : Nat), (0 : Nat), (0 : Nat), (0 : Nat), (0 : Nat), (0 : Nat), (0 : Nat), (0 : Nat), (0 : Nat)]) = Bool.false, (Go.Eng.dB (Go.Eng.vB a % Go.Eng.P255) == [(0 : Nat), (0 : Nat), (0 : Nat), (0 : Nat), (0 : Nat), (0 : Nat), (0 : Nat), (0 : Nat), (0 : Nat), (0 : Nat), (0 : Nat), (0 : Nat), (0 : Nat), (0 : Nat), (0 : Nat), (0 : Nat), (0 : Nat), (0 : Nat), (0 : Nat), (0 : Nat), (0 : Nat), (0 : Nat), (0 : Nat), (0 : Nat), (0 : Nat), (0 : Nat), (0 : Nat), (0 : Nat), (0 : Nat), (0 : Nat), (0 : Nat), (0 : Nat)]) = Bool.true, (Go.Eng.dB (Go.Eng.vB a * Go.Eng.vB (Go.Eng.dB (Go.Eng.B.powF (Go.Eng.vB a) Go.Eng.B.PI % Go.Eng.P255)) % Go.Eng.P255) == [(0 : Nat), (0 : Nat), (0 : Nat), (0 : Nat), (0 : Nat), (0 : Nat), (0 : Nat), (0 : Nat), (0 : Nat), (0 : Nat), (0 : Nat), (0 : Nat), (0 : Nat), (0 : Nat), (0 : Nat), (0 : Nat), (0 : Nat), (0 : Nat), (0 : Nat), (0 : Nat), (0 : Nat), (0 : Nat), (0 : Nat), (0 : Nat), (0 : Nat), (0 : Nat), (0 : Nat), (0 : Nat), (0 : Nat), (0 : Nat), (0 : Nat), (0 : Nat)]) = Bool.true]) (sc' := []) (by kernel_rfl) ?_ rfl
    have a7 : vB a * (powF (vB a) PI % P255) % P255 = 0 := by rw [Nat.mul_mod, h0]; simp
    simp only [bd (P_lt _), dB_zero, dB_one]
    exact ⟨by rw [a1]; exact beq_self_eq_true _, by rw [a2]; exact beq_self_eq_true _, by rw [a3]; exact beq_self_eq_true _, by rw [a4]; exact beq_self_eq_true _, by rw [a5]; exact beq_self_eq_true _, by rw [a6]; exact beq_self_eq_true _,
      by rw [a7, dB_inj (by decide) (by decide)]; rfl, by rw [h0]; exact beq_self_eq_true _, by rw [a7]; exact beq_self_eq_true _, trivial⟩
  · refine hold_end mixed he (unroll := true) (f := 300) (sc := [true, true, true, true, true, true, true]) (r := (Go.Eng.SV.b Bool.true)) (ob := [(Go.Eng.dB ((Go.Eng.vB a + Go.Eng.vB b) % Go.Eng.P255) == Go.Eng.dB ((Go.Eng.vB b + Go.Eng.vB a) % Go.Eng.P255)) = Bool.true, (Go.Eng.dB (Go.Eng.vB a * Go.Eng.vB b % Go.Eng.P255) == Go.Eng.dB (Go.Eng.vB b * Go.Eng.vB a % Go.Eng.P255)) = Bool.true, (Go.Eng.dB ((Go.Eng.vB (Go.Eng.dB ((Go.Eng.vB a + Go.Eng.vB b) % Go.Eng.P255)) + Go.Eng.vB c) % Go.Eng.P255) == Go.Eng.dB ((Go.Eng.vB a + Go.Eng.vB (Go.Eng.dB ((Go.Eng.vB b + Go.Eng.vB c) % Go.Eng.P255))) % Go.Eng.P255)) = Bool.true, (Go.Eng.dB (Go.Eng.vB (Go.Eng.dB (Go.Eng.vB a * Go.Eng.vB b % Go.Eng.P255)) * Go.Eng.vB c % Go.Eng.P255) == Go.Eng.dB (Go.Eng.vB a * Go.Eng.vB (Go.Eng.dB (Go.Eng.vB b * Go.Eng.vB c % Go.Eng.P255)) % Go.Eng.P255)) = Bool.true, (Go.Eng.dB (Go.Eng.vB a * Go.Eng.vB (Go.Eng.dB ((Go.Eng.vB b + Go.Eng.vB c) % Go.Eng.P255)) % Go.Eng.P255) == Go.Eng.dB ((Go.Eng.vB (Go.Eng.dB (Go.Eng.vB a * Go.Eng.vB b % Go.Eng.P255)) + Go.Eng.vB (Go.Eng.dB (Go.Eng.vB a * Go.Eng.vB c % Go.Eng.P255))) % Go.Eng.P255)) = Bool.true, (Go.Eng.dB ((Go.Eng.vB (Go.Eng.dB ((Go.Eng.vB a + Go.Eng.vB c) % Go.Eng.P255)) + (173688133855974293135356477513031861779904976998460846059186376011869694459847 : Nat) - Go.Eng.vB c) % Go.Eng.P255) == Go.Eng.dB (Go.Eng.vB a % Go.Eng.P255)) = Bool.true, (Go.Eng.dB (Go.Eng.vB a * Go.Eng.vB (Go.Eng.dB (Go.Eng.B.powF (Go.Eng.vB a) Go.Eng.B.PI % Go.Eng.P255)) % Go.Eng.P255) == [(1 : Nat), (0 : Nat), (0 : Nat), (0 : Nat), (0 : Nat), (0 : Nat), (0 : Nat), (0 : Nat), (0 : Nat), (0 : Nat), (0 : Nat), (0 : Nat), (0 : Nat), (0 : Nat), (0 : Nat), (0 : Nat), (0 : Nat), (0 : Nat), (0 : Nat), (0 : Nat), (0 : Nat), (0 : Nat), (0 : Nat), (0 : Nat), (0 : Nat), (0 : Nat), (0 : Nat), (0 : Nat), (0 : Nat), (0 : Nat), (0 : Nat), (0 : Nat)]) = Bool.true]) (sc' := []) (by kernel_rfl) ?_ rfl
    have a7 := inv_mul h0
    simp only [bd (P_lt _), dB_one]
    exact ⟨by rw [a1]; exact beq_self_eq_true _, by rw [a2]; exact beq_self_eq_true _, by rw [a3]; exact beq_self_eq_true _, by rw [a4]; exact beq_self_eq_true _, by rw [a5]; exact beq_self_eq_true _, by rw [a6]; exact beq_self_eq_true _,
      by rw [a7]; exact beq_self_eq_true _, trivial⟩
end Go.Eng.B
