/- limb: Mul, Power, Inv, Equal. -/
import Derived.Test.YtclpbijalffdkaaB5d
namespace Go.Eng.B
open Go Go.Eng Go.Proofs
section
variable {w0 : World} {S : Nat → Prop} {res : SV}
theorem mul_step {U R x q c d c2 : Nat} {r1 : Nat} (h1 : d + 18446744073709551616 * c2 = x * 38 + q + c) (h2 : R + U * c = r1) :
    R + U * d + U * 18446744073709551616 * c2 = r1 + U * q + 38 * (U * x) := by
  have : U * (d + 18446744073709551616 * c2) = U * (x * 38 + q + c) := by rw [h1]
  grind
theorem take_set {l : List Nat} {i v : Nat} : (l.set i v).take i = l.take i := by
  rw [List.take_set_of_le (Nat.le_refl i)]
theorem c70_in (n : List Nat) (hn : n.length = 8) (hn2 : ∀ y ∈ n, y < 18446744073709551616)
    (hk : ∀ (a : List Nat) (c : Nat), a.length = 4 → (∀ y ∈ a, y < 18446744073709551616) → c < 18446744073709551616 →
        vl 18446744073709551616 (a.take 4) + 18446744073709551616 ^ 4 * c = vl 18446744073709551616 (n.take 4) + 38 * vl 18446744073709551616 ((n.drop 4).take 4) →
        Hold Try.prog (bodyOf Try.f70) (Fin Try.prog Try.f70 w0 S res) w0 S st70 (s70 a n 4 c)) :
    ∀ m i, i + m = 4 → ∀ (a : List Nat) (c : Nat), a.length = 4 → (∀ y ∈ a, y < 18446744073709551616) → c < 18446744073709551616 →
      vl 18446744073709551616 (a.take i) + 18446744073709551616 ^ i * c = vl 18446744073709551616 (n.take i) + 38 * vl 18446744073709551616 ((n.drop 4).take i) →
      Hold Try.prog (bodyOf Try.f70) (Fin Try.prog Try.f70 w0 S res) w0 S st70 (s70 a n i c) := by
  intro m
  induction m with
  | zero =>
    intro i hi a c ha ha2 hc hv
    have hi : i = 4 := by omega
    subst hi
    exact hk a c ha ha2 hc hv
  | succ m ih =>
    intro i hi a c ha ha2 hc hv
    have hx := getD_lt (by decide) hn2 (i + 4)
    have hq := getD_lt (by decide) hn2 i
    have hst := long_step hx (show 38 < 18446744073709551616 by decide) hq hc
    refine hold_unroll (c := _) rfl ?_
    refine hold_cut mixed ok4 (unroll := false) (f := 100) (sc := [true]) (ks := [2,4,5,6,14]) (bs := [0,2,3]) (nx := 4) (st' := [Go.Eng.It.lp [0, 1, 0, 1, 1, 1], Go.Eng.It.blk 0, Go.Eng.It.at [1, 1, 1, 1]]) (σ' := { nt := 66, slots := [(2, Go.Eng.SV.ptr 0 0 (Go.Eng.Ix.c 0)), (4, Go.Eng.SV.ptr 2 0 (Go.Eng.Ix.c 0)), (5, Go.Eng.SV.ptr 3 0 (Go.Eng.Ix.c 0)), (6, Go.Eng.SV.u Go.IntKind.u64 (((n.getD (i + 4) 0 * 38 / 18446744073709551616 + (n.getD (i + 4) 0 * 38 % 18446744073709551616 + n.getD i 0 + 0) / 18446744073709551616) % 18446744073709551616 + ((n.getD (i + 4) 0 * 38 % 18446744073709551616 + n.getD i 0 + 0) % 18446744073709551616 + c + 0) / 18446744073709551616) % 18446744073709551616)), (14, Go.Eng.SV.u Go.IntKind.i64 (i + 1))], blks := [(0, { ty := 64, segs := [Go.Eng.SV.arr Go.IntKind.u64 4 (a.set i (((n.getD (i + 4) 0 * 38 % 18446744073709551616 + n.getD i 0 + 0) % 18446744073709551616 + c + 0) % 18446744073709551616))] }), (2, { ty := 64, segs := [Go.Eng.SV.arr Go.IntKind.u64 4 [0, 0, 0, 0]] }), (3, { ty := 79, segs := [Go.Eng.SV.arr Go.IntKind.u64 8 n] })], next := 4 }) (ob := [Decidable.decide (i < 4) = Bool.true, i + 4 < 9223372036854775808, i + 4 < 8, i + 4 < 8, i < 8, i < 8, 0 ≤ 1, 0 ≤ 1, i < 4, i < 4, i + 1 < 9223372036854775808]) (sc' := []) (by kernel_rfl) ?_ ?_
    · exact ⟨by simp; omega, by omega, by omega, by omega, by omega, by omega, by omega, by omega, by omega, by omega, by omega, trivial⟩
    · refine ih (i + 1) (by omega) _ _ (by simpa using ha) (mem_set ha2 (Nat.mod_lt _ (by decide))) (Nat.mod_lt _ (by decide)) ?_
      rw [vl_take _ _ i (by simp; omega), vl_take _ n i (by omega), vl_take _ (n.drop 4) i (by simp; omega), take_set, getD_set_eq (by omega)]
      rw [show (n.drop 4).getD i 0 = n.getD (i + 4) 0 by simp [List.getD_eq_getElem?_getD, Nat.add_comm]]
      rw [Nat.pow_succ, mul_step hst hv]
      generalize 18446744073709551616 ^ i = U
      grind
theorem c70 : ∀ args res ob, e70 args = some (res, ob) → All ob → Contract Try.prog 70 args res := by
  intro args res ob h hob
  simp only [e70, t2] at h
  split at h
  · rename_i a b
    cases h
    refine contract Try.func70 (body := bodyOf Try.f70) rfl (by kernel_rfl) (by kernel_rfl) rfl ?_
    rintro ⟨ha, hb, _⟩ w0 S
    refine hold_cut mixed ok4 (unroll := false) (f := 100) (sc := []) (ks := [2,4,5,6,14]) (bs := [0,2,3]) (nx := 4) (st' := [Go.Eng.It.lp [0, 1, 0, 1, 1, 1], Go.Eng.It.blk 0, Go.Eng.It.at [1, 1, 1, 1]]) (σ' := { nt := 66, slots := [(2, Go.Eng.SV.ptr 0 0 (Go.Eng.Ix.c 0)), (4, Go.Eng.SV.ptr 2 0 (Go.Eng.Ix.c 0)), (5, Go.Eng.SV.ptr 3 0 (Go.Eng.Ix.c 0)), (6, Go.Eng.SV.c Go.IntKind.u64 0), (14, Go.Eng.SV.c Go.IntKind.i64 0)], blks := [(0, { ty := 64, segs := [Go.Eng.SV.arr Go.IntKind.u64 4 a] }), (2, { ty := 64, segs := [Go.Eng.SV.arr Go.IntKind.u64 4 [0, 0, 0, 0]] }), (3, { ty := 79, segs := [Go.Eng.SV.arr Go.IntKind.u64 8 (Go.Eng.dg 18446744073709551616 8 (Go.Eng.vF a * Go.Eng.vF b))] })], next := 4 }) (ob := []) (sc' := []) (by kernel_rfl) trivial ?_
    refine Hold.weaken (sl' := (s70 a (dg 18446744073709551616 8 (vF a * vF b)) 0 0).slots) ?_ (by simp [wks, wk, s70, lim])
    have hl := dg_length 18446744073709551616 8 (vF a * vF b)
    have hl2 := dg_lt (b := 18446744073709551616) (by decide) 8 (vF a * vF b)
    have hlt : vF a * vF b < M256 * M256 := Nat.mul_lt_mul'' (vF_lt ha) (vF_lt hb)
    have hval := vl_dg 18446744073709551616 8 (vF a * vF b)
    generalize hN : vF a * vF b = N at *
    rw [show 18446744073709551616 ^ 8 = M256 * M256 by decide, Nat.mod_eq_of_lt hlt] at hval
    generalize dg 18446744073709551616 8 N = n at *
    refine c70_in n hl hl2 ?_ 4 0 rfl a 0 ha.1 ha.2 (by decide) (by simp [vl])
    intro r c hr hr2 hc hv
    obtain ⟨r0, r1, r2, r3, rfl⟩ := list4 hr
    obtain ⟨n0, n1, n2, n3, n4, n5, n6, n7, rfl⟩ := list8 hl
    simp only [List.mem_cons, List.not_mem_nil, or_false, forall_eq_or_imp, forall_eq] at hr2 hl2
    rw [show 18446744073709551616 ^ 4 = M256 by decide] at hv
    simp only [List.take, List.drop, vl, Nat.mul_zero, Nat.add_zero] at hv hval
    have hR : vF [r0, r1, r2, r3] < M256 := by rw [vF4]; unfold M256; omega
    have hlo : n0 + 18446744073709551616 * (n1 + 18446744073709551616 * (n2 + 18446744073709551616 * n3)) < M256 := by unfold M256; omega
    have hval2 : N = n0 + 18446744073709551616 * (n1 + 18446744073709551616 * (n2 + 18446744073709551616 * n3)) + M256 * (n4 + 18446744073709551616 * (n5 + 18446744073709551616 * (n6 + 18446744073709551616 * n7))) := by unfold M256; omega
    have hhi : n4 + 18446744073709551616 * (n5 + 18446744073709551616 * (n6 + 18446744073709551616 * n7)) < M256 := by unfold M256; omega
    have hv2 : vF [r0, r1, r2, r3] + M256 * c = fold38 N := by
      rw [vF4, hv]
      unfold fold38
      have e1 : N % M256 = n0 + 18446744073709551616 * (n1 + 18446744073709551616 * (n2 + 18446744073709551616 * n3)) := by
        rw [hval2, Nat.add_mul_mod_self_left, Nat.mod_eq_of_lt hlo]
      have e2 : N / M256 = n4 + 18446744073709551616 * (n5 + 18446744073709551616 * (n6 + 18446744073709551616 * n7)) := by
        rw [hval2, Nat.add_mul_div_left _ _ (by decide), Nat.div_eq_of_lt hlo, Nat.zero_add]
      rw [e1, e2]
    have hf0 := fold38_lt0 hlt
    have hfa : fold38 N % M256 = vF [r0, r1, r2, r3] := by rw [← hv2, Nat.add_mul_mod_self_left, Nat.mod_eq_of_lt hR]
    have hfb : fold38 N / M256 = c := by rw [← hv2, Nat.add_mul_div_left _ _ (by decide), Nat.div_eq_of_lt hR, Nat.zero_add]
    have hc40 : c < 40 := by rw [← hfb]; exact Nat.div_lt_of_lt_mul hf0
    have hf1 : fold38 (fold38 N) = vF [r0, r1, r2, r3] + 38 * c := by unfold fold38; unfold fold38 at hfa hfb; rw [hfa, hfb]
    clear hval hval2 hlo hhi hv hv2
    have e3 : 38 * c % 18446744073709551616 = 38 * c := by omega
    refine hold_unroll (c := _) rfl ?_
    refine hold_end mixed ok4 (unroll := false) (f := 100) (sc := [false]) (r := (Go.Eng.SV.arr Go.IntKind.u64 4 (Go.Eng.dF (Go.Eng.vF (Go.Eng.dF (Go.Eng.vF [r0, r1, r2, r3] + Go.Eng.vF [38 * c % 18446744073709551616, 0, 0, 0])) + Go.Eng.vF [38 * ((Go.Eng.vF [r0, r1, r2, r3] + Go.Eng.vF [38 * c % 18446744073709551616, 0, 0, 0]) / Go.Eng.M256) % 18446744073709551616, 0, 0, 0])))) (ob := [Bool.false = Bool.false]) (sc' := []) (by kernel_rfl) ?_ ?_
    · exact ⟨by simp, trivial⟩
    · simp only [vF1, vF_dF]
      rw [e3, ← hf1]
      have hf2 := fold38_lt hf0
      have e4 : fold38 (fold38 N) / M256 ≤ 1 := by
        generalize fold38 (fold38 N) = Z at *
        unfold M256 at *
        omega
      have e5 : 38 * (fold38 (fold38 N) / M256) % 18446744073709551616 = 38 * (fold38 (fold38 N) / M256) := by omega
      rw [e5]
      unfold mulF
      rw [hN]
      rfl
  · cases h
theorem ok5a : CtrOk Try.prog T5a := addC_ok ok4 c70
theorem and_one (n : Nat) : n &&& 1 = n % 2 := Nat.and_one_is_mod n
theorem c81_in (a b : List Nat) (ha : a.length = 4) (ha2 : ∀ y ∈ a, y < 18446744073709551616) (hb : b.length = 4) (hb2 : ∀ y ∈ b, y < 18446744073709551616) (X : Nat) (hX : res = fe X) :
    ∀ n, n ≤ 256 → ∀ acc, acc < M256 → pwF (vF a) (vF b) n acc = X →
      Hold Try.prog (bodyOf Try.f81) (Fin Try.prog Try.f81 w0 S res) w0 S st81 (s81 a b (.i .i64 ((n : Int) - 1)) acc) := by
  intro n
  induction n with
  | zero =>
    intro _ acc hacc hp
    refine hold_unroll (c := _) rfl ?_
    refine hold_end mixed ok5a (unroll := false) (f := 100) (sc := [false]) (r := (Go.Eng.SV.arr Go.IntKind.u64 4 (Go.Eng.dF acc))) (ob := [Bool.false = Bool.false]) (sc' := []) (by kernel_rfl) ?_ ?_
    · exact ⟨by decide, trivial⟩
    · rw [hX, ← hp]; rfl
  | succ n ih =>
    intro hn acc hacc hp
    refine Hold.weaken (sl' := (s81 a b (.u .i64 n) acc).slots) ?_ (by simp [wks, wk, s81, lim]; omega)
    refine hold_unroll (c := _) rfl ?_
    have hbit := bit_vl b hb2 n
    have hsq : vF (dF acc) = acc := by rw [vF_dF, Nat.mod_eq_of_lt hacc]
    have hsm : vF (dF (mulF acc acc)) = mulF acc acc := by rw [vF_dF, Nat.mod_eq_of_lt (mulF_lt hacc hacc)]
    simp only [pwF] at hp
    by_cases hE : vF b / 2 ^ n % 2 = 1
    · refine hold_cut mixed ok5a (unroll := false) (f := 100) (sc := [true, true]) (ks := [2,3,4,5,6]) (bs := [0,1,2,3]) (nx := 4) (st' := [Go.Eng.It.lp [0, 1, 0, 1, 1], Go.Eng.It.blk 0, Go.Eng.It.at [1, 1, 1]]) (σ' := { nt := 28, slots := [(2, Go.Eng.SV.ptr 0 0 (Go.Eng.Ix.c 0)), (3, Go.Eng.SV.ptr 1 0 (Go.Eng.Ix.c 0)), (4, Go.Eng.SV.ptr 2 0 (Go.Eng.Ix.c 0)), (5, Go.Eng.SV.ptr 3 0 (Go.Eng.Ix.c 0)), (6, Go.Eng.SV.i Go.IntKind.i64 ((↑n : Int) - 1))], blks := [(0, { ty := 64, segs := [Go.Eng.SV.arr Go.IntKind.u64 4 a] }), (1, { ty := 64, segs := [Go.Eng.SV.arr Go.IntKind.u64 4 b] }), (2, { ty := 64, segs := [Go.Eng.SV.arr Go.IntKind.u64 4 [0, 0, 0, 0]] }), (3, { ty := 64, segs := [Go.Eng.SV.arr Go.IntKind.u64 4 (Go.Eng.dF (Go.Eng.B.mulF (Go.Eng.vF (Go.Eng.dF (Go.Eng.B.mulF (Go.Eng.vF (Go.Eng.dF acc)) (Go.Eng.vF (Go.Eng.dF acc))))) (Go.Eng.vF a)))] })], next := 4 }) (ob := [Decidable.decide (0 ≤ n) = Bool.true, n / 64 < 4, n / 64 < 4, n % 64 < 64, (b.getD (n / 64) 0 / 2 ^ (n % 64) &&& 1 == 1) = Bool.true]) (sc' := []) (by kernel_rfl) ?_ ?_
      · refine ⟨by simp, by omega, by omega, by omega, ?_, trivial⟩
        rw [and_one, hbit]
        simpa [vF] using hE
      · rw [if_pos hE] at hp
        have := ih (by omega) _ (mulF_lt (mulF_lt hacc hacc) (vF_lt ⟨ha, ha2⟩)) hp
        refine Hold.cast this ?_
        rw [hsq, hsm]
        rfl
    · refine hold_cut mixed ok5a (unroll := false) (f := 100) (sc := [true, false]) (ks := [2,3,4,5,6]) (bs := [0,1,2,3]) (nx := 4) (st' := [Go.Eng.It.lp [0, 1, 0, 1, 1], Go.Eng.It.blk 0, Go.Eng.It.at [1, 1, 1]]) (σ' := { nt := 28, slots := [(2, Go.Eng.SV.ptr 0 0 (Go.Eng.Ix.c 0)), (3, Go.Eng.SV.ptr 1 0 (Go.Eng.Ix.c 0)), (4, Go.Eng.SV.ptr 2 0 (Go.Eng.Ix.c 0)), (5, Go.Eng.SV.ptr 3 0 (Go.Eng.Ix.c 0)), (6, Go.Eng.SV.i Go.IntKind.i64 ((↑n : Int) - 1))], blks := [(0, { ty := 64, segs := [Go.Eng.SV.arr Go.IntKind.u64 4 a] }), (1, { ty := 64, segs := [Go.Eng.SV.arr Go.IntKind.u64 4 b] }), (2, { ty := 64, segs := [Go.Eng.SV.arr Go.IntKind.u64 4 [0, 0, 0, 0]] }), (3, { ty := 64, segs := [Go.Eng.SV.arr Go.IntKind.u64 4 (Go.Eng.dF (Go.Eng.B.mulF (Go.Eng.vF (Go.Eng.dF acc)) (Go.Eng.vF (Go.Eng.dF acc))))] })], next := 4 }) (ob := [Decidable.decide (0 ≤ n) = Bool.true, n / 64 < 4, n / 64 < 4, n % 64 < 64, (b.getD (n / 64) 0 / 2 ^ (n % 64) &&& 1 == 1) = Bool.false]) (sc' := []) (by kernel_rfl) ?_ ?_
      · refine ⟨by simp, by omega, by omega, by omega, ?_, trivial⟩
        rw [and_one, hbit]
        simpa [vF] using hE
      · rw [if_neg hE] at hp
        have := ih (by omega) _ (mulF_lt hacc hacc) hp
        refine Hold.cast this ?_
        rw [hsq]
        rfl
theorem c81 : ∀ args res ob, e81 args = some (res, ob) → All ob → Contract Try.prog 81 args res := by
  intro args res ob h hob
  simp only [e81, t2] at h
  split at h
  · rename_i a b
    cases h
    refine contract Try.func81 (body := bodyOf Try.f81) rfl (by kernel_rfl) (by kernel_rfl) rfl ?_
    rintro ⟨ha, hb, _⟩ w0 S
    refine hold_cut mixed ok5a (unroll := false) (f := 100) (sc := []) (ks := [2,3,4,5,6]) (bs := [0,1,2,3]) (nx := 4) (st' := [Go.Eng.It.lp [0, 1, 0, 1, 1], Go.Eng.It.blk 0, Go.Eng.It.at [1, 1, 1]]) (σ' := { nt := 28, slots := [(2, Go.Eng.SV.ptr 0 0 (Go.Eng.Ix.c 0)), (3, Go.Eng.SV.ptr 1 0 (Go.Eng.Ix.c 0)), (4, Go.Eng.SV.ptr 2 0 (Go.Eng.Ix.c 0)), (5, Go.Eng.SV.ptr 3 0 (Go.Eng.Ix.c 0)), (6, Go.Eng.SV.c Go.IntKind.i64 255)], blks := [(0, { ty := 64, segs := [Go.Eng.SV.arr Go.IntKind.u64 4 a] }), (1, { ty := 64, segs := [Go.Eng.SV.arr Go.IntKind.u64 4 b] }), (2, { ty := 64, segs := [Go.Eng.SV.arr Go.IntKind.u64 4 [0, 0, 0, 0]] }), (3, { ty := 64, segs := [Go.Eng.SV.arr Go.IntKind.u64 4 [1, 0, 0, 0]] })], next := 4 }) (ob := []) (sc' := []) (by kernel_rfl) trivial ?_
    have := c81_in (w0 := w0) (S := S) a b ha.1 ha.2 hb.1 hb.2 (powF (vF a) (vF b)) rfl 256 (Nat.le_refl _) 1 (by decide) rfl
    exact Hold.weaken this (by simp [wks, wk, s81])
  · cases h
theorem ok5 : CtrOk Try.prog T5 := addC_ok ok5a c81
end
end Go.Eng.B
