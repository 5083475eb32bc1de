/- The contracts of package limb: constants, comparison, sums and differences modulo p. -/
import Derived.Test.YtclpbijalffdkaaB1
namespace Go.Eng.B
open Go Go.Eng Go.Proofs

theorem c64 : ∀ args res ob, tab 64 args = some (res, ob) → All ob → Contract Try.prog 64 args res := by
  intro args res ob h hob
  simp only [tab, t0] at h
  split at h
  · cases h
    refine contract Try.func64 (body := bodyOf Try.f64) rfl (by kernel_rfl) (by kernel_rfl) rfl ?_
    rintro _ w0 S
    exact hold_end mixed ok0 (unroll := true) (f := 40) (sc := []) (r := (Go.Eng.SV.arr Go.IntKind.u64 4 [18446744073709551597, 18446744073709551615, 18446744073709551615, 9223372036854775807])) (ob := []) (sc' := []) (by kernel_rfl) trivial (by kernel_rfl)
  · cases h
theorem c88 : ∀ args res ob, tab 88 args = some (res, ob) → All ob → Contract Try.prog 88 args res := by
  intro args res ob h hob
  simp only [tab, t0] at h
  split at h
  · cases h
    refine contract Try.func88 (body := bodyOf Try.f88) rfl (by kernel_rfl) (by kernel_rfl) rfl ?_
    rintro _ w0 S
    exact hold_end mixed ok0 (unroll := true) (f := 40) (sc := []) (r := (Go.Eng.SV.arr Go.IntKind.u64 4 [6346243789798364141, 1503914060200516822, 0, 1152921504606846976])) (ob := []) (sc' := []) (by kernel_rfl) trivial (by kernel_rfl)
  · cases h
theorem ok1 : CtrOk Try.prog (only [64, 88, 80, 84, 79, 89] tab) := only_cons (only_cons (only_cons (only_cons ok0 c84) c80) c88) c64
theorem c63 : ∀ args res ob, tab 63 args = some (res, ob) → All ob → Contract Try.prog 63 args res := by
  intro args res ob h hob
  simp only [tab, t2] at h
  split at h
  · rename_i a b
    cases h
    refine contract Try.func63 (body := bodyOf Try.f63) rfl (by kernel_rfl) (by kernel_rfl) rfl ?_
    rintro ⟨ha, hb, _⟩ w0 S
    refine hold_end mixed ok1 (unroll := true) (f := 40) (sc := []) (r := (Go.Eng.SV.b ((if Go.Eng.vF a < Go.Eng.vF b then 1 else 0) == 1))) (ob := []) (sc' := []) (by kernel_rfl) trivial ?_
    congr 1
    by_cases hlt : vF a < vF b <;> simp [hlt]
  · cases h
theorem c66 : ∀ args res ob, tab 66 args = some (res, ob) → All ob → Contract Try.prog 66 args res := by
  intro args res ob h hob
  simp only [tab, t2] at h
  split at h
  · rename_i a b
    cases h
    refine contract Try.func66 (body := bodyOf Try.f66) rfl (by kernel_rfl) (by kernel_rfl) rfl ?_
    rintro ⟨ha, hb, _⟩ w0 S
    have hA := vF_lt ha
    have hB := vF_lt hb
    refine hold_end mixed ok1 (unroll := true) (f := 60) (sc := []) (r := (Go.Eng.SV.arr Go.IntKind.u64 4 (Go.Eng.dF (Go.Eng.vF (Go.Eng.dF (Go.Eng.vF (Go.Eng.dF (Go.Eng.vF a + Go.Eng.vF b)) + Go.Eng.vF [38 * ((Go.Eng.vF a + Go.Eng.vF b) / Go.Eng.M256) % 18446744073709551616, 0, 0, 0])) + Go.Eng.vF [38 * ((Go.Eng.vF (Go.Eng.dF (Go.Eng.vF a + Go.Eng.vF b)) + Go.Eng.vF [38 * ((Go.Eng.vF a + Go.Eng.vF b) / Go.Eng.M256) % 18446744073709551616, 0, 0, 0]) / Go.Eng.M256) % 18446744073709551616, 0, 0, 0])))) (ob := []) (sc' := []) (by kernel_rfl) trivial ?_
    simp only [fe, vF_dF, vF1]
    congr 1
    apply dF_congr
    unfold addF
    have k1 : (vF a + vF b) / M256 ≤ 1 := by unfold M256 at *; omega
    have e1 : (vF a + vF b) % M256 < M256 := by unfold M256; omega
    generalize (vF a + vF b) / M256 = c at *
    generalize (vF a + vF b) % M256 = d at *
    rw [show 38 * c % 18446744073709551616 = 38 * c by omega]
    have k2 : (d + 38 * c) / M256 ≤ 1 := by unfold M256 at *; omega
    generalize (d + 38 * c) / M256 = c2 at *
    rw [show 38 * c2 % 18446744073709551616 = 38 * c2 by omega]
  · cases h
theorem c68 : ∀ args res ob, tab 68 args = some (res, ob) → All ob → Contract Try.prog 68 args res := by
  intro args res ob h hob
  simp only [tab, t2] at h
  split at h
  · rename_i a b
    cases h
    refine contract Try.func68 (body := bodyOf Try.f68) rfl (by kernel_rfl) (by kernel_rfl) rfl ?_
    rintro ⟨ha, hb, _⟩ w0 S
    have hA := vF_lt ha
    have hB := vF_lt hb
    refine hold_end mixed ok1 (unroll := true) (f := 60) (sc := []) (r := (Go.Eng.SV.arr Go.IntKind.u64 4 (Go.Eng.dF (Go.Eng.vF (Go.Eng.dF (Go.Eng.vF (Go.Eng.dF (Go.Eng.vF a + Go.Eng.M256 - Go.Eng.vF b)) + Go.Eng.M256 - Go.Eng.vF [(38 * if Go.Eng.vF a < Go.Eng.vF b then 1 else 0) % 18446744073709551616, 0, 0, 0])) + Go.Eng.M256 - Go.Eng.vF [(38 * if Go.Eng.vF (Go.Eng.dF (Go.Eng.vF a + Go.Eng.M256 - Go.Eng.vF b)) < Go.Eng.vF [(38 * if Go.Eng.vF a < Go.Eng.vF b then 1 else 0) % 18446744073709551616, 0, 0, 0] then 1 else 0) % 18446744073709551616, 0, 0, 0])))) (ob := []) (sc' := []) (by kernel_rfl) trivial ?_
    simp only [fe, vF_dF, vF1]
    congr 1
    apply dF_congr
    unfold subF
    have k1 : (if vF a < vF b then 1 else 0 : Nat) ≤ 1 := by split <;> omega
    simp only
    generalize (if vF a < vF b then 1 else 0 : Nat) = c at *
    rw [show 38 * c % 18446744073709551616 = 38 * c by omega]
    generalize (vF a + M256 - vF b) % M256 = d at *
    have k2 : (if d < 38 * c then 1 else 0 : Nat) ≤ 1 := by split <;> omega
    generalize (if d < 38 * c then 1 else 0 : Nat) = c2 at *
    rw [show 38 * c2 % 18446744073709551616 = 38 * c2 by omega, Nat.mod_mod]
  · cases h
theorem ok2 : CtrOk Try.prog (only [66, 68, 63, 64, 88, 80, 84, 79, 89] tab) := only_cons (only_cons (only_cons ok1 c63) c68) c66
end Go.Eng.B
