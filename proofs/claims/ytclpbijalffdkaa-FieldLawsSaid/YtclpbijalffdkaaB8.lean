/- coresecmake.Mod, coreseclaw08.element, coreseclaw08.awake. -/
import Derived.Test.YtclpbijalffdkaaB8d
namespace Go.Eng.B
open Go Go.Eng Go.Proofs
theorem int?_wk {x : SV} {k : IntKind} {n : Int} (h : x.int? = some (k, n)) : wk x (.i k n) := by
  cases x <;> simp [SV.int?] at h <;> (obtain ⟨rfl, rfl⟩ := h; simp [wk])
theorem Contract.args {P : Program} {f : FuncId} {args args' : List SV} {res : SV} (hw : wkl args args') (h : Contract P f args' res) : Contract P f args res :=
  fun w S vs hlt hvs => h w S vs hlt (wkl_ok hw hvs)
theorem mod_c (n m : Int) (hm : 0 < m) (hm2 : m < 1000000) (res : SV) (hres : wk (.i .i64 (n % m)) res) : Contract Try.prog 41 [.i .i64 n, .i .i64 m] res := by
  refine contract Try.func41 (body := bodyOf Try.f41) rfl (by kernel_rfl) (by kernel_rfl) rfl ?_
  rintro ⟨hn, _, _⟩ w0 S
  have h1 := @Int.tmod_eq_emod n m
  have h2 := Int.emod_nonneg n (show m ≠ 0 by omega)
  have h3 := Int.emod_lt_of_pos n hm
  have h4 : (m.natAbs : Int) = m := by omega
  have hR : inR .i64 (n.tmod m) := by
    simp only [inR, lo, lim]
    rw [h1]
    split <;> omega
  by_cases hlt : n.tmod m < 0
  · have e : n.tmod m + m = n % m := by
      rw [h1] at hlt ⊢
      split at hlt
      · omega
      · rename_i hc; rw [if_neg hc]; omega
    refine hold_endw mixed ok7e (unroll := true) (f := 100) (sc := [true]) (r := (Go.Eng.SV.i Go.IntKind.i64 (n.tmod m + m))) (ob := [m ≠ 0 ∧ Go.Eng.inR Go.IntKind.i64 (n.tmod m), Decidable.decide (n.tmod m < 0) = Bool.true, Go.Eng.inR Go.IntKind.i64 (n.tmod m + m)]) (sc' := []) (by kernel_rfl) ?_ ?_
    · refine ⟨⟨by omega, hR⟩, by simpa using hlt, ?_, trivial⟩
      rw [e]; simp only [inR, lo, lim]; omega
    · rw [e]
      cases res <;> first | exact hres | (simp [wk] at hres)
  · have e : n.tmod m = n % m := by
      rw [h1] at hlt ⊢
      split
      · omega
      · rename_i hc; rw [if_neg hc] at hlt; omega
    refine hold_endw mixed ok7e (unroll := true) (f := 100) (sc := [false]) (r := (Go.Eng.SV.i Go.IntKind.i64 (n.tmod m))) (ob := [m ≠ 0 ∧ Go.Eng.inR Go.IntKind.i64 (n.tmod m), Decidable.decide (n.tmod m < 0) = Bool.false]) (sc' := []) (by kernel_rfl) ?_ ?_
    · exact ⟨⟨by omega, hR⟩, by simpa using hlt, trivial⟩
    · rw [e]
      cases res <;> first | exact hres | (simp [wk] at hres)
theorem c41 : ∀ args res ob, e41 args = some (res, ob) → All ob → Contract Try.prog 41 args res := by
  intro args res ob h hob
  unfold e41 at h
  split at h
  · rename_i x m
    split at h
    · rename_i n hx
      split at h
      · rename_i hm
        cases h
        refine Contract.args (args' := [.i .i64 n, .i .i64 m]) ⟨int?_wk hx, by simp [wk], rfl⟩ (mod_c n m hm.1 hm.2 _ ?_)
        have h2 := Int.emod_nonneg n (show m ≠ 0 by omega)
        have h3 := Int.emod_lt_of_pos n hm.1
        simp only [wk, lim, true_and]
        omega
      · cases h
    · cases h
  · cases h
theorem c41k (q k : Int) : ∀ args res ob, e41k q k args = some (res, ob) → All ob → Contract Try.prog 41 args res := by
  intro args res ob h hob
  unfold e41k at h
  split at h
  · rename_i x m
    split at h
    · rename_i n hx
      split at h
      · rename_i hm
        cases h
        refine Contract.args (args' := [.i .i64 n, .i .i64 m]) ⟨int?_wk hx, by simp [wk], rfl⟩ (mod_c n m hm.2.1 hm.2.2 _ ?_)
        simp only [wk, true_and]
        exact hob.1
      · exact c41 _ _ _ h hob
    · cases h
  · cases h
theorem ok8a : CtrOk Try.prog T8a := addC_ok ok7e c41
theorem ok8k (k : Int) : CtrOk Try.prog (T8k k) := addC_ok ok7e (c41k 5 k)
theorem c21 : ∀ args res ob, e21 args = some (res, ob) → All ob → Contract Try.prog 21 args res := by
  intro args res ob h hob
  simp only [e21, t0] at h
  split at h
  · cases h
    refine contract Try.func21 (body := bodyOf Try.f21) rfl (by kernel_rfl) (by kernel_rfl) rfl ?_
    rintro _ w0 S
    exact hold_end mixed ok8a (unroll := true) (f := 100) (sc := [true, true, true]) (r := (Go.Eng.SV.b Bool.true)) (ob := [Bool.true = Bool.true, Bool.true = Bool.true, Bool.true = Bool.true]) (sc' := []) (by kernel_rfl) ⟨rfl, rfl, rfl, trivial⟩ rfl
  · cases h
theorem ok8b : CtrOk Try.prog T8b := addC_ok ok8a c21
end Go.Eng.B
