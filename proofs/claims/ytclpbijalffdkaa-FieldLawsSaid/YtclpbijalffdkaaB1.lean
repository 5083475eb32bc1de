/- The contracts of package limb: sums and differences. -/
import Derived.Test.YtclpbijalffdkaaBTab
import Derived.KernelRfl
import Derived.Test.YtclpbijalffdkaaProg
namespace Go.Eng.B
open Go Go.Eng Go.Proofs

theorem mixed : Try.prog.follows .mixedOrders = true := by kernel_rfl

theorem c79 : ∀ args res ob, tab 79 args = some (res, ob) → All ob → Contract Try.prog 79 args res :=
  add64_c Try.func79 (by kernel_rfl) (by kernel_rfl) (by kernel_rfl) (by kernel_rfl)
theorem c89 : ∀ args res ob, tab 89 args = some (res, ob) → All ob → Contract Try.prog 89 args res :=
  sub64_c Try.func89 (by kernel_rfl) (by kernel_rfl) (by kernel_rfl) (by kernel_rfl)
theorem ok0 : CtrOk Try.prog (only [79, 89] tab) := only_cons (only_cons only_nil c89) c79

theorem c80 : ∀ args res ob, tab 80 args = some (res, ob) → All ob → Contract Try.prog 80 args res := by
  intro args res ob h hob
  simp only [tab, t2] at h
  split at h
  · rename_i a b
    cases h
    refine contract Try.func80 (body := bodyOf Try.f80) rfl (by kernel_rfl) (by kernel_rfl) rfl ?_
    rintro ⟨ha, hb, _⟩ w0 S
    obtain ⟨a0, a1, a2, a3, rfl⟩ := list4 ha.1
    obtain ⟨b0, b1, b2, b3, rfl⟩ := list4 hb.1
    have ha2 := ha.2
    have hb2 := hb.2
    simp only [List.mem_cons, List.not_mem_nil, or_false, forall_eq_or_imp, forall_eq, lim] at ha2 hb2
    refine hold_end mixed ok0 (unroll := true) (f := 400) (sc := []) (r := (Go.Eng.SV.tup [Go.Eng.SV.arr Go.IntKind.u64 4 [(a0 + b0 + 0) % 18446744073709551616, (a1 + b1 + (a0 + b0 + 0) / 18446744073709551616) % 18446744073709551616, (a2 + b2 + (a1 + b1 + (a0 + b0 + 0) / 18446744073709551616) / 18446744073709551616) % 18446744073709551616, (a3 + b3 + (a2 + b2 + (a1 + b1 + (a0 + b0 + 0) / 18446744073709551616) / 18446744073709551616) / 18446744073709551616) % 18446744073709551616], Go.Eng.SV.u Go.IntKind.u64 ((a3 + b3 + (a2 + b2 + (a1 + b1 + (a0 + b0 + 0) / 18446744073709551616) / 18446744073709551616) / 18446744073709551616) / 18446744073709551616)])) (ob := [0 ≤ 1, (a0 + b0 + 0) / 18446744073709551616 ≤ 1, (a1 + b1 + (a0 + b0 + 0) / 18446744073709551616) / 18446744073709551616 ≤ 1, (a2 + b2 + (a1 + b1 + (a0 + b0 + 0) / 18446744073709551616) / 18446744073709551616) / 18446744073709551616 ≤ 1]) (sc' := []) (by kernel_rfl) ?_ ?_
    · exact ⟨by omega, by omega, by omega, by omega, trivial⟩
    · simp only [fe, dF_eq, vF4, M256]
      congr 2
      · congr 1
        simp only [List.cons.injEq, and_true]
        refine ⟨?_, ?_, ?_, ?_⟩ <;> omega
      · simp only [List.cons.injEq, and_true]
        congr 1
        omega
  · cases h
theorem c84 : ∀ args res ob, tab 84 args = some (res, ob) → All ob → Contract Try.prog 84 args res := by
  intro args res ob h hob
  simp only [tab, t2] at h
  split at h
  · rename_i a b
    cases h
    refine contract Try.func84 (body := bodyOf Try.f84) rfl (by kernel_rfl) (by kernel_rfl) rfl ?_
    rintro ⟨ha, hb, _⟩ w0 S
    obtain ⟨a0, a1, a2, a3, rfl⟩ := list4 ha.1
    obtain ⟨b0, b1, b2, b3, rfl⟩ := list4 hb.1
    have ha2 := ha.2
    have hb2 := hb.2
    simp only [List.mem_cons, List.not_mem_nil, or_false, forall_eq_or_imp, forall_eq, lim] at ha2 hb2
    refine hold_end mixed ok0 (unroll := true) (f := 400) (sc := []) (r := (Go.Eng.SV.tup [Go.Eng.SV.arr Go.IntKind.u64 4 [(a0 + 18446744073709551616 - b0 - 0) % 18446744073709551616, (a1 + 18446744073709551616 - b1 - if a0 < b0 + 0 then 1 else 0) % 18446744073709551616, (a2 + 18446744073709551616 - b2 - if a1 < b1 + if a0 < b0 + 0 then 1 else 0 then 1 else 0) % 18446744073709551616, (a3 + 18446744073709551616 - b3 - if a2 < b2 + if a1 < b1 + if a0 < b0 + 0 then 1 else 0 then 1 else 0 then 1 else 0) % 18446744073709551616], Go.Eng.SV.u Go.IntKind.u64 (if a3 < b3 + if a2 < b2 + if a1 < b1 + if a0 < b0 + 0 then 1 else 0 then 1 else 0 then 1 else 0 then 1 else 0)])) (ob := [0 ≤ 1, (if a0 < b0 + 0 then 1 else 0) ≤ 1, (if a1 < b1 + if a0 < b0 + 0 then 1 else 0 then 1 else 0) ≤ 1, (if a2 < b2 + if a1 < b1 + if a0 < b0 + 0 then 1 else 0 then 1 else 0 then 1 else 0) ≤ 1]) (sc' := []) (by kernel_rfl) ?_ ?_
    · have k : ∀ p : Prop, [Decidable p] → (if p then 1 else 0 : Nat) ≤ 1 := fun p _ => by split <;> omega
      exact ⟨by omega, k _, k _, k _, trivial⟩
    · simp only [fe, dF_eq, vF4, M256]
      generalize h0 : (if a0 < b0 + 0 then 1 else 0 : Nat) = k0
      generalize h1 : (if a1 < b1 + k0 then 1 else 0 : Nat) = k1
      generalize h2 : (if a2 < b2 + k1 then 1 else 0 : Nat) = k2
      generalize h3 : (if a3 < b3 + k2 then 1 else 0 : Nat) = k3
      have e0 : k0 = 0 ∧ b0 ≤ a0 ∨ k0 = 1 ∧ a0 < b0 := by rw [← h0]; split <;> omega
      have e1 : k1 = 0 ∧ b1 + k0 ≤ a1 ∨ k1 = 1 ∧ a1 < b1 + k0 := by rw [← h1]; split <;> omega
      have e2 : k2 = 0 ∧ b2 + k1 ≤ a2 ∨ k2 = 1 ∧ a2 < b2 + k1 := by rw [← h2]; split <;> omega
      have e3 : k3 = 0 ∧ b3 + k2 ≤ a3 ∨ k3 = 1 ∧ a3 < b3 + k2 := by rw [← h3]; split <;> omega
      clear h0 h1 h2 h3
      congr 2
      · congr 1
        simp only [List.cons.injEq, and_true]
        refine ⟨?_, ?_, ?_, ?_⟩ <;> omega
      · simp only [List.cons.injEq, and_true]
        congr 1
        split <;> omega
  · cases h
end Go.Eng.B
