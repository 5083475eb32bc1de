import Derived.Test.YtjefhfgkeeggoaaE6
import Derived.KernelRfl
import Derived.Test.YtjefhfgkeeggoaaProg
set_option linter.unusedVariables false
set_option linter.unusedSimpArgs false
set_option linter.unusedSectionVars false
namespace Go.Eng.G
open Go Go.Eng Go.Proofs
set_option maxRecDepth 100000
theorem c33 : ∀ args res ob, e33 args = some (res, ob) → All ob → Contract Try.prog 46 args res := by
  intro args res ob h hob
  simp only [e33, t1b] at h
  split at h
  · rename_i l
    cases h
    refine contract Try.func46 (body := bodyOf Try.f46) rfl (by kernel_rfl) (by kernel_rfl) rfl ?_
    rintro ⟨ha, _⟩ w0 S
    exact hold_end mixed ok11 (unroll := true) (f := 100) (sc := []) (r := (SV.arr IntKind.u8 32 ((l.set 0 (l.getD 0 0 &&& 248)).set 31 ((l.set 0 (l.getD 0 0 &&& 248)).getD 31 0 &&& 127 ||| 64)))) (ob := []) (sc' := []) (by kernel_rfl) trivial rfl
  · cases h
theorem c34 : ∀ args res ob, e34 args = some (res, ob) → All ob → Contract Try.prog 76 args res := by
  intro args res ob h hob
  simp only [e34, t1b] at h
  split at h
  · rename_i l
    cases h
    refine contract Try.func76 (body := bodyOf Try.f76) rfl (by kernel_rfl) (by kernel_rfl) rfl ?_
    rintro ⟨ha, _⟩ w0 S
    exact hold_end mixed ok11 (unroll := true) (f := 100) (sc := []) (r := (SV.arr IntKind.u8 32 ((l.set 0 (l.getD 0 0 &&& 248)).set 31 ((l.set 0 (l.getD 0 0 &&& 248)).getD 31 0 &&& 127 ||| 64)))) (ob := []) (sc' := []) (by kernel_rfl) trivial rfl
  · cases h
theorem c71 : ∀ args res ob, e71 args = some (res, ob) → All ob → Contract Try.prog 65 args res := by
  intro args res ob h hob
  unfold e71 at h
  split at h
  · rename_i a b c d u
    cases h
    refine contract Try.func65 (body := bodyOf Try.f65) rfl (by kernel_rfl) (by kernel_rfl) rfl ?_
    rintro ⟨⟨ha, hb, _⟩, ⟨hc, hd, _⟩, hu, _⟩ w0 S
    have hA := vF_lt ha
    have hB := vF_lt hb
    have hC := vF_lt hc
    have hD := vF_lt hd
    have hU := vF_lt hu
    refine hold_end mixed ok11 (unroll := true) (f := 100) (sc := []) (r := (SV.tup [SV.ag [SV.arr IntKind.u64 4 (Go.Eng.dF (Go.Eng.G.mulF (Go.Eng.vF (Go.Eng.dF (Go.Eng.G.mulF (Go.Eng.vF (Go.Eng.dF (Go.Eng.addF (Go.Eng.vF a) (Go.Eng.vF b)))) (Go.Eng.vF (Go.Eng.dF (Go.Eng.addF (Go.Eng.vF a) (Go.Eng.vF b))))))) (Go.Eng.vF (Go.Eng.dF (Go.Eng.G.mulF (Go.Eng.vF (Go.Eng.dF (Go.Eng.subF (Go.Eng.vF a) (Go.Eng.vF b)))) (Go.Eng.vF (Go.Eng.dF (Go.Eng.subF (Go.Eng.vF a) (Go.Eng.vF b))))))))), SV.arr IntKind.u64 4 (Go.Eng.dF (Go.Eng.G.mulF (Go.Eng.vF (Go.Eng.dF (Go.Eng.subF (Go.Eng.vF (Go.Eng.dF (Go.Eng.G.mulF (Go.Eng.vF (Go.Eng.dF (Go.Eng.addF (Go.Eng.vF a) (Go.Eng.vF b)))) (Go.Eng.vF (Go.Eng.dF (Go.Eng.addF (Go.Eng.vF a) (Go.Eng.vF b))))))) (Go.Eng.vF (Go.Eng.dF (Go.Eng.G.mulF (Go.Eng.vF (Go.Eng.dF (Go.Eng.subF (Go.Eng.vF a) (Go.Eng.vF b)))) (Go.Eng.vF (Go.Eng.dF (Go.Eng.subF (Go.Eng.vF a) (Go.Eng.vF b)))))))))) (Go.Eng.vF (Go.Eng.dF (Go.Eng.addF (Go.Eng.vF (Go.Eng.dF (Go.Eng.G.mulF (Go.Eng.vF (Go.Eng.dF (Go.Eng.addF (Go.Eng.vF a) (Go.Eng.vF b)))) (Go.Eng.vF (Go.Eng.dF (Go.Eng.addF (Go.Eng.vF a) (Go.Eng.vF b))))))) (Go.Eng.vF (Go.Eng.dF (Go.Eng.G.mulF (Go.Eng.vF (Go.Eng.dF (Go.Eng.subF (Go.Eng.vF (Go.Eng.dF (Go.Eng.G.mulF (Go.Eng.vF (Go.Eng.dF (Go.Eng.addF (Go.Eng.vF a) (Go.Eng.vF b)))) (Go.Eng.vF (Go.Eng.dF (Go.Eng.addF (Go.Eng.vF a) (Go.Eng.vF b))))))) (Go.Eng.vF (Go.Eng.dF (Go.Eng.G.mulF (Go.Eng.vF (Go.Eng.dF (Go.Eng.subF (Go.Eng.vF a) (Go.Eng.vF b)))) (Go.Eng.vF (Go.Eng.dF (Go.Eng.subF (Go.Eng.vF a) (Go.Eng.vF b)))))))))) 121665))))))))], SV.ag [SV.arr IntKind.u64 4 (Go.Eng.dF (Go.Eng.G.mulF (Go.Eng.vF (Go.Eng.dF (Go.Eng.addF (Go.Eng.vF (Go.Eng.dF (Go.Eng.G.mulF (Go.Eng.vF (Go.Eng.dF (Go.Eng.subF (Go.Eng.vF c) (Go.Eng.vF d)))) (Go.Eng.vF (Go.Eng.dF (Go.Eng.addF (Go.Eng.vF a) (Go.Eng.vF b))))))) (Go.Eng.vF (Go.Eng.dF (Go.Eng.G.mulF (Go.Eng.vF (Go.Eng.dF (Go.Eng.addF (Go.Eng.vF c) (Go.Eng.vF d)))) (Go.Eng.vF (Go.Eng.dF (Go.Eng.subF (Go.Eng.vF a) (Go.Eng.vF b)))))))))) (Go.Eng.vF (Go.Eng.dF (Go.Eng.addF (Go.Eng.vF (Go.Eng.dF (Go.Eng.G.mulF (Go.Eng.vF (Go.Eng.dF (Go.Eng.subF (Go.Eng.vF c) (Go.Eng.vF d)))) (Go.Eng.vF (Go.Eng.dF (Go.Eng.addF (Go.Eng.vF a) (Go.Eng.vF b))))))) (Go.Eng.vF (Go.Eng.dF (Go.Eng.G.mulF (Go.Eng.vF (Go.Eng.dF (Go.Eng.addF (Go.Eng.vF c) (Go.Eng.vF d)))) (Go.Eng.vF (Go.Eng.dF (Go.Eng.subF (Go.Eng.vF a) (Go.Eng.vF b)))))))))))), SV.arr IntKind.u64 4 (Go.Eng.dF (Go.Eng.G.mulF (Go.Eng.vF u) (Go.Eng.vF (Go.Eng.dF (Go.Eng.G.mulF (Go.Eng.vF (Go.Eng.dF (Go.Eng.subF (Go.Eng.vF (Go.Eng.dF (Go.Eng.G.mulF (Go.Eng.vF (Go.Eng.dF (Go.Eng.subF (Go.Eng.vF c) (Go.Eng.vF d)))) (Go.Eng.vF (Go.Eng.dF (Go.Eng.addF (Go.Eng.vF a) (Go.Eng.vF b))))))) (Go.Eng.vF (Go.Eng.dF (Go.Eng.G.mulF (Go.Eng.vF (Go.Eng.dF (Go.Eng.addF (Go.Eng.vF c) (Go.Eng.vF d)))) (Go.Eng.vF (Go.Eng.dF (Go.Eng.subF (Go.Eng.vF a) (Go.Eng.vF b)))))))))) (Go.Eng.vF (Go.Eng.dF (Go.Eng.subF (Go.Eng.vF (Go.Eng.dF (Go.Eng.G.mulF (Go.Eng.vF (Go.Eng.dF (Go.Eng.subF (Go.Eng.vF c) (Go.Eng.vF d)))) (Go.Eng.vF (Go.Eng.dF (Go.Eng.addF (Go.Eng.vF a) (Go.Eng.vF b))))))) (Go.Eng.vF (Go.Eng.dF (Go.Eng.G.mulF (Go.Eng.vF (Go.Eng.dF (Go.Eng.addF (Go.Eng.vF c) (Go.Eng.vF d)))) (Go.Eng.vF (Go.Eng.dF (Go.Eng.subF (Go.Eng.vF a) (Go.Eng.vF b)))))))))))))))]])) (ob := []) (sc' := []) (by kernel_rfl) trivial ?_
    have e1 := vd (addF_lt hA hB)
    have e2 := vd (subF_lt (vF a) (vF b))
    have e3 := vd (addF_lt hC hD)
    have e4 := vd (subF_lt (vF c) (vF d))
    have e5 := vd (mulF_lt (addF_lt hA hB) (addF_lt hA hB))
    have e6 := vd (mulF_lt (subF_lt (vF a) (vF b)) (subF_lt (vF a) (vF b)))
    have e7 := vd (subF_lt (mulF (addF (vF a) (vF b)) (addF (vF a) (vF b))) (mulF (subF (vF a) (vF b)) (subF (vF a) (vF b))))
    have e8 := vd (mulF_lt (subF_lt (vF c) (vF d)) (addF_lt hA hB))
    have e9 := vd (mulF_lt (addF_lt hC hD) (subF_lt (vF a) (vF b)))
    have f1 := mulF_lt (subF_lt (vF c) (vF d)) (addF_lt hA hB)
    have f2 := mulF_lt (addF_lt hC hD) (subF_lt (vF a) (vF b))
    have g1 := vd (addF_lt f1 f2)
    have g2 := vd (subF_lt (mulF (subF (vF c) (vF d)) (addF (vF a) (vF b))) (mulF (addF (vF c) (vF d)) (subF (vF a) (vF b))))
    have f3 := mulF_lt (addF_lt hA hB) (addF_lt hA hB)
    have f4 := mulF_lt (subF_lt (mulF (addF (vF a) (vF b)) (addF (vF a) (vF b))) (mulF (subF (vF a) (vF b)) (subF (vF a) (vF b)))) (show 121665 < M256 by decide)
    have g3 := vd f4
    have g4 := vd (addF_lt f3 f4)
    have g5 := vd (mulF_lt (subF_lt (mulF (subF (vF c) (vF d)) (addF (vF a) (vF b))) (mulF (addF (vF c) (vF d)) (subF (vF a) (vF b)))) (subF_lt (mulF (subF (vF c) (vF d)) (addF (vF a) (vF b))) (mulF (addF (vF c) (vF d)) (subF (vF a) (vF b)))))
    simp only [e1, e2, e3, e4, e5, e6, e7, e8, e9, g1, g2, vF1, g3, g4, g5]
    rfl
  · cases h
theorem ok16a : CtrOk Try.prog T16a := addC_ok (addC_ok (addC_ok ok11 c33) c34) c71
section
variable {w0 : World} {S : Own} {res : SV}
theorem c35_in (K : List Nat) (hK : ∀ x ∈ K, x < 256) (X : Nat) (hX : X < P255) (R : Nat) (hR : res = fld R) :
    ∀ n, n ≤ 256 → ∀ A B C D, A < M256 → B < M256 → C < M256 → D < M256 → finV (lad (vB K) X n (A % P255) (B % P255) (C % P255) (D % P255)) = R →
      Hold Try.prog (bodyOf Try.f44) (Fin Try.prog Try.f44 w0 S res) w0 S st35 (s35 K X A B C D (.i .i64 ((n : Int) - 1))) := by
  have hXm : X < M256 := Nat.lt_trans hX (by decide)
  intro n
  induction n with
  | zero =>
    intro _ A B C D hA hB hC hD hr
    refine hold_unroll (c := _) rfl ?_
    refine hold_end mixed ok16a (unroll := false) (f := 100) (sc := [false]) (r := (SV.arr IntKind.u8 32 (Go.Eng.dB (Go.Eng.vF (Go.Eng.dF (Go.Eng.vF (Go.Eng.dF (Go.Eng.G.mulF (Go.Eng.vF (Go.Eng.dF A)) (Go.Eng.vF (Go.Eng.dF (Go.Eng.G.powF (Go.Eng.vF (Go.Eng.dF B)) 57896044618658097711785492504343953926634992332820282019728792003956564819947))))) % Go.Eng.P255)))))) (ob := [Bool.false = Bool.false]) (sc' := []) (by kernel_rfl) ?_ ?_
    · exact ⟨by decide, trivial⟩
    · rw [vd hA, vd hB, vd (powF_lt hB _), vd (mulF_lt hA (powF_lt hB _)), vdP, hR, ← hr]
      simp only [lad, finV]
      rw [cg_mul rfl rfl, show powF B 57896044618658097711785492504343953926634992332820282019728792003956564819947 % P255 = powF (B % P255) PI % P255 from powF_congr _ (Nat.mod_mod _ _).symm]
      rfl
  | succ n ih =>
    intro hn A B C D hA hB hC hD hr
    refine Hold.weaken (sl' := (s35 K X A B C D (.u .i64 n)).slots) ?_ (by simp [wks, wk, wk0, wka, s35, lim]; omega)
    refine hold_unroll (c := _) rfl ?_
    have hbit := bit_vB K hK n
    simp only [lad] at hr
    by_cases hE : vB K / 2 ^ n % 2 = 1
    · refine hold_cut mixed ok16a (unroll := false) (f := 100) (sc := [true, true]) (ks := [2,4,5,6,7,8]) (bs := [0,2,3,4,5]) (nx := 6) (st' := [It.lp [0, 1, 0, 1, 1, 1, 1, 1], It.blk 0, It.at [1, 1, 1, 1, 1, 1]]) (σ' := { nt := 58, slots := [(2, SV.ptr 0 0 (Ix.c 0)), (4, SV.ptr 2 0 (Ix.c 0)), (5, SV.ptr 3 0 (Ix.c 0)), (6, SV.ptr 4 0 (Ix.c 0)), (7, SV.ptr 5 0 (Ix.c 0)), (8, SV.i IntKind.i64 ((↑n : Int) - (1 : Int)))], blks := [(0, { ty := 31, segs := [SV.arr IntKind.u8 32 K] }), (2, { ty := 31, segs := [SV.arr IntKind.u8 32 [0, 0, 0, 0, 0, 0, 0, 0, 0, 0, 0, 0, 0, 0, 0, 0, 0, 0, 0, 0, 0, 0, 0, 0, 0, 0, 0, 0, 0, 0, 0, 0]] }), (3, { ty := 47, segs := [SV.arr IntKind.u64 4 (Go.Eng.dF X)] }), (4, { ty := 91, segs := [SV.arr IntKind.u64 4 (Go.Eng.dF (Go.Eng.G.sfX3 (Go.Eng.vF (Go.Eng.dF C)) (Go.Eng.vF (Go.Eng.dF D)) (Go.Eng.vF (Go.Eng.dF A)) (Go.Eng.vF (Go.Eng.dF B)))), SV.arr IntKind.u64 4 (Go.Eng.dF (Go.Eng.G.sfZ3 (Go.Eng.vF (Go.Eng.dF C)) (Go.Eng.vF (Go.Eng.dF D)) (Go.Eng.vF (Go.Eng.dF A)) (Go.Eng.vF (Go.Eng.dF B)) (Go.Eng.vF (Go.Eng.dF X))))] }), (5, { ty := 91, segs := [SV.arr IntKind.u64 4 (Go.Eng.dF (Go.Eng.G.sfX2 (Go.Eng.vF (Go.Eng.dF C)) (Go.Eng.vF (Go.Eng.dF D)))), SV.arr IntKind.u64 4 (Go.Eng.dF (Go.Eng.G.sfZ2 (Go.Eng.vF (Go.Eng.dF C)) (Go.Eng.vF (Go.Eng.dF D))))] })], next := 6 }) (ob := [Decidable.decide (0 ≤ n) = Bool.true, n / 8 < 32, n / 8 < 32, n % 8 < 8, (K.getD (n / 8) 0 / 2 ^ (n % 8) &&& 1 == 1) = Bool.true]) (sc' := []) (by kernel_rfl) ?_ ?_
      · repeat' (first | exact True.intro | refine And.intro ?_ ?_)
        all_goals first | omega | (simp; done) | (rw [and_one, hbit]; simpa [vB] using hE)
      · rw [if_pos hE] at hr
        have := ih (by omega) (sfX3 C D A B) (sfZ3 C D A B X) (sfX2 C D) (sfZ2 C D) (sfX3_lt hC hD hA hB) (sfZ3_lt hXm) (sfX2_lt hC hD) (sfZ2_lt hC hD) (by
          rw [cgX3 hC hD hA hB rfl rfl rfl rfl, cgZ3 hC hD hA hB rfl rfl rfl rfl (Nat.mod_eq_of_lt hX), cgX2 hC hD rfl rfl, cgZ2 hC hD rfl rfl]
          exact hr)
        refine Hold.cast this ?_
        rw [vd hA, vd hB, vd hC, vd hD, vd hXm]
        rfl
    · refine hold_cut mixed ok16a (unroll := false) (f := 100) (sc := [true, false]) (ks := [2,4,5,6,7,8]) (bs := [0,2,3,4,5]) (nx := 6) (st' := [It.lp [0, 1, 0, 1, 1, 1, 1, 1], It.blk 0, It.at [1, 1, 1, 1, 1, 1]]) (σ' := { nt := 58, slots := [(2, SV.ptr 0 0 (Ix.c 0)), (4, SV.ptr 2 0 (Ix.c 0)), (5, SV.ptr 3 0 (Ix.c 0)), (6, SV.ptr 4 0 (Ix.c 0)), (7, SV.ptr 5 0 (Ix.c 0)), (8, SV.i IntKind.i64 ((↑n : Int) - (1 : Int)))], blks := [(0, { ty := 31, segs := [SV.arr IntKind.u8 32 K] }), (2, { ty := 31, segs := [SV.arr IntKind.u8 32 [0, 0, 0, 0, 0, 0, 0, 0, 0, 0, 0, 0, 0, 0, 0, 0, 0, 0, 0, 0, 0, 0, 0, 0, 0, 0, 0, 0, 0, 0, 0, 0]] }), (3, { ty := 47, segs := [SV.arr IntKind.u64 4 (Go.Eng.dF X)] }), (4, { ty := 91, segs := [SV.arr IntKind.u64 4 (Go.Eng.dF (Go.Eng.G.sfX2 (Go.Eng.vF (Go.Eng.dF A)) (Go.Eng.vF (Go.Eng.dF B)))), SV.arr IntKind.u64 4 (Go.Eng.dF (Go.Eng.G.sfZ2 (Go.Eng.vF (Go.Eng.dF A)) (Go.Eng.vF (Go.Eng.dF B))))] }), (5, { ty := 91, segs := [SV.arr IntKind.u64 4 (Go.Eng.dF (Go.Eng.G.sfX3 (Go.Eng.vF (Go.Eng.dF A)) (Go.Eng.vF (Go.Eng.dF B)) (Go.Eng.vF (Go.Eng.dF C)) (Go.Eng.vF (Go.Eng.dF D)))), SV.arr IntKind.u64 4 (Go.Eng.dF (Go.Eng.G.sfZ3 (Go.Eng.vF (Go.Eng.dF A)) (Go.Eng.vF (Go.Eng.dF B)) (Go.Eng.vF (Go.Eng.dF C)) (Go.Eng.vF (Go.Eng.dF D)) (Go.Eng.vF (Go.Eng.dF X))))] })], next := 6 }) (ob := [Decidable.decide (0 ≤ n) = Bool.true, n / 8 < 32, n / 8 < 32, n % 8 < 8, (K.getD (n / 8) 0 / 2 ^ (n % 8) &&& 1 == 1) = Bool.false]) (sc' := []) (by kernel_rfl) ?_ ?_
      · repeat' (first | exact True.intro | refine And.intro ?_ ?_)
        all_goals first | omega | (simp; done) | (rw [and_one, hbit]; simpa [vB] using hE)
      · rw [if_neg hE] at hr
        have := ih (by omega) (sfX2 A B) (sfZ2 A B) (sfX3 A B C D) (sfZ3 A B C D X) (sfX2_lt hA hB) (sfZ2_lt hA hB) (sfX3_lt hA hB hC hD) (sfZ3_lt hXm) (by
          rw [cgX3 hA hB hC hD rfl rfl rfl rfl, cgZ3 hA hB hC hD rfl rfl rfl rfl (Nat.mod_eq_of_lt hX), cgX2 hA hB rfl rfl, cgZ2 hA hB rfl rfl]
          exact hr)
        refine Hold.cast this ?_
        rw [vd hA, vd hB, vd hC, vd hD, vd hXm]
        rfl
end
theorem mask_ok {u : List Nat} (h : u.length = 32 ∧ ∀ x ∈ u, x < lim .u8) : (maskL u).length = 32 ∧ ∀ x ∈ maskL u, x < lim .u8 := by
  refine ⟨by simp [maskL, h.1], fun x hx => ?_⟩
  rcases List.mem_or_eq_of_mem_set hx with hx | rfl
  · exact h.2 x hx
  · exact Nat.lt_of_le_of_lt Nat.and_le_right (by decide)
theorem c35 : ∀ args res ob, e35 args = some (res, ob) → All ob → Contract Try.prog 44 args res := by
  intro args res ob h hob
  simp only [e35, t2b] at h
  split at h
  · rename_i k u
    cases h
    refine contract Try.func44 (body := bodyOf Try.f44) rfl (by kernel_rfl) (by kernel_rfl) rfl ?_
    rintro ⟨hk, hu, _⟩ w0 S
    have hm := vB_lt (mask_ok hu)
    refine hold_cut mixed ok16a (unroll := false) (f := 100) (sc := []) (ks := [2,4,5,6,7,8]) (bs := [0,2,3,4,5]) (nx := 6) (st' := [It.lp [0, 1, 0, 1, 1, 1, 1, 1], It.blk 0, It.at [1, 1, 1, 1, 1, 1]]) (σ' := { nt := 58, slots := [(2, SV.ptr 0 0 (Ix.c 0)), (4, SV.ptr 2 0 (Ix.c 0)), (5, SV.ptr 3 0 (Ix.c 0)), (6, SV.ptr 4 0 (Ix.c 0)), (7, SV.ptr 5 0 (Ix.c 0)), (8, SV.c IntKind.i64 (255 : Int))], blks := [(0, { ty := 31, segs := [SV.arr IntKind.u8 32 (Go.Eng.G.clampL k)] }), (2, { ty := 31, segs := [SV.arr IntKind.u8 32 [0, 0, 0, 0, 0, 0, 0, 0, 0, 0, 0, 0, 0, 0, 0, 0, 0, 0, 0, 0, 0, 0, 0, 0, 0, 0, 0, 0, 0, 0, 0, 0]] }), (3, { ty := 47, segs := [SV.arr IntKind.u64 4 (Go.Eng.dF (Go.Eng.vF (Go.Eng.dF (Go.Eng.vB (u.set 31 (u.getD 31 0 &&& 127)))) % Go.Eng.P255))] }), (4, { ty := 91, segs := [SV.arr IntKind.u64 4 [1, 0, 0, 0], SV.arr IntKind.u64 4 [0, 0, 0, 0]] }), (5, { ty := 91, segs := [SV.arr IntKind.u64 4 (Go.Eng.dF (Go.Eng.vF (Go.Eng.dF (Go.Eng.vB (u.set 31 (u.getD 31 0 &&& 127)))) % Go.Eng.P255)), SV.arr IntKind.u64 4 [1, 0, 0, 0]] })], next := 6 }) (ob := []) (sc' := []) (by kernel_rfl) trivial ?_
    have := c35_in (w0 := w0) (S := S) (clampL k) (bits_clamp hk) (vB (maskL u) % P255) (Nat.mod_lt _ (by decide)) (multV k u) rfl 256 (Nat.le_refl _) 1 0 (vB (maskL u) % P255) 1 (by decide) (by decide) (P_lt _) (by decide) (by
      rw [Nat.mod_mod, Nat.mod_eq_of_lt (show 1 < P255 by decide), Nat.zero_mod]; rfl)
    refine Hold.weaken (sl' := (s35 (clampL k) 0 0 0 0 0 (.i .i64 255)).slots) (Hold.cast this ?_) (by simp [wks, wk, wk0, wka, s35])
    rw [show vF (dF (vB (u.set 31 (u.getD 31 0 &&& 127)))) = vB (maskL u) from vd hm]
    simp only [s35, dF1, dF0]
    rfl
  · cases h
theorem ok16b : CtrOk Try.prog T16b := addC_ok ok16a c35
section
variable {w0 : World} {S : Own} {res : SV}
theorem c36_in (K : List Nat) (hK : ∀ x ∈ K, x < 256) (X : Nat) (hX : X < P255) (R : Nat) (hR : res = fld R) :
    ∀ n, n ≤ 256 → ∀ A B C D, A < P255 → B < P255 → C < P255 → D < P255 → finV (lad (vB K) X n A B C D) = R →
      Hold Try.prog (bodyOf Try.f66) (Fin Try.prog Try.f66 w0 S res) w0 S st35 (s36 K X A B C D (.i .i64 ((n : Int) - 1))) := by
  have hXm : vF (dF X) = X := vd (Nat.lt_trans hX (by decide))
  intro n
  induction n with
  | zero =>
    intro _ A B C D hA hB hC hD hr
    have eA : vF (dF A) = A := vd (Nat.lt_trans hA (by decide))
    have eB : vF (dF B) = B := vd (Nat.lt_trans hB (by decide))
    refine hold_unroll (c := _) rfl ?_
    refine hold_end mixed ok16b (unroll := false) (f := 100) (sc := [false]) (r := (SV.arr IntKind.u8 32 (Go.Eng.dB (Go.Eng.vF (Go.Eng.dF (Go.Eng.vF (Go.Eng.dF A) * Go.Eng.vF (Go.Eng.dF (Go.Eng.G.powF (Go.Eng.vF (Go.Eng.dF B)) Go.Eng.G.PI % Go.Eng.P255)) % Go.Eng.P255)))))) (ob := [Bool.false = Bool.false]) (sc' := []) (by kernel_rfl) ?_ ?_
    · exact ⟨by decide, trivial⟩
    · simp only [eA, eB, vdP]
      rw [hR, ← hr]
      rfl
  | succ n ih =>
    intro hn A B C D hA hB hC hD hr
    have eA : vF (dF A) = A := vd (Nat.lt_trans hA (by decide))
    have eB : vF (dF B) = B := vd (Nat.lt_trans hB (by decide))
    have eC : vF (dF C) = C := vd (Nat.lt_trans hC (by decide))
    have eD : vF (dF D) = D := vd (Nat.lt_trans hD (by decide))
    refine Hold.weaken (sl' := (s36 K X A B C D (.u .i64 n)).slots) ?_ (by simp [wks, wk, wk0, wka, s36, lim]; omega)
    refine hold_unroll (c := _) rfl ?_
    have hbit := bit_vB K hK n
    simp only [lad] at hr
    have hlt : ∀ E, E % P255 < P255 := fun E => Nat.mod_lt _ (by decide)
    by_cases hE : vB K / 2 ^ n % 2 = 1
    · refine hold_cut mixed ok16b (unroll := false) (f := 300) (sc := [true, true, true]) (ks := [2,4,5,6,7,8,9,10]) (bs := [0,2,3,4,5,6,7]) (nx := 8) (st' := [It.lp [0, 1, 0, 1, 1, 1, 1, 1], It.blk 0, It.at [1, 1, 1, 1, 1, 1]]) (σ' := { nt := 112, slots := [(2, SV.ptr 0 0 (Ix.c 0)), (4, SV.ptr 2 0 (Ix.c 0)), (5, SV.ptr 3 0 (Ix.c 0)), (6, SV.ptr 4 0 (Ix.c 0)), (7, SV.ptr 5 0 (Ix.c 0)), (8, SV.ptr 6 0 (Ix.c 0)), (9, SV.ptr 7 0 (Ix.c 0)), (10, SV.i IntKind.i64 ((↑n : Int) - (1 : Int)))], blks := [(0, { ty := 31, segs := [SV.arr IntKind.u8 32 K] }), (2, { ty := 31, segs := [SV.arr IntKind.u8 32 [0, 0, 0, 0, 0, 0, 0, 0, 0, 0, 0, 0, 0, 0, 0, 0, 0, 0, 0, 0, 0, 0, 0, 0, 0, 0, 0, 0, 0, 0, 0, 0]] }), (3, { ty := 35, segs := [SV.arr IntKind.u64 4 (Go.Eng.dF X)] }), (4, { ty := 35, segs := [SV.arr IntKind.u64 4 (Go.Eng.dF (Go.Eng.vF (Go.Eng.dF ((Go.Eng.vF (Go.Eng.dF (Go.Eng.vF (Go.Eng.dF ((Go.Eng.vF (Go.Eng.dF A) + Go.Eng.P255 - Go.Eng.vF (Go.Eng.dF B)) % Go.Eng.P255)) * Go.Eng.vF (Go.Eng.dF ((Go.Eng.vF (Go.Eng.dF C) + Go.Eng.vF (Go.Eng.dF D)) % Go.Eng.P255)) % Go.Eng.P255)) + Go.Eng.vF (Go.Eng.dF (Go.Eng.vF (Go.Eng.dF ((Go.Eng.vF (Go.Eng.dF A) + Go.Eng.vF (Go.Eng.dF B)) % Go.Eng.P255)) * Go.Eng.vF (Go.Eng.dF ((Go.Eng.vF (Go.Eng.dF C) + Go.Eng.P255 - Go.Eng.vF (Go.Eng.dF D)) % Go.Eng.P255)) % Go.Eng.P255))) % Go.Eng.P255)) * Go.Eng.vF (Go.Eng.dF ((Go.Eng.vF (Go.Eng.dF (Go.Eng.vF (Go.Eng.dF ((Go.Eng.vF (Go.Eng.dF A) + Go.Eng.P255 - Go.Eng.vF (Go.Eng.dF B)) % Go.Eng.P255)) * Go.Eng.vF (Go.Eng.dF ((Go.Eng.vF (Go.Eng.dF C) + Go.Eng.vF (Go.Eng.dF D)) % Go.Eng.P255)) % Go.Eng.P255)) + Go.Eng.vF (Go.Eng.dF (Go.Eng.vF (Go.Eng.dF ((Go.Eng.vF (Go.Eng.dF A) + Go.Eng.vF (Go.Eng.dF B)) % Go.Eng.P255)) * Go.Eng.vF (Go.Eng.dF ((Go.Eng.vF (Go.Eng.dF C) + Go.Eng.P255 - Go.Eng.vF (Go.Eng.dF D)) % Go.Eng.P255)) % Go.Eng.P255))) % Go.Eng.P255)) % Go.Eng.P255))] }), (5, { ty := 35, segs := [SV.arr IntKind.u64 4 (Go.Eng.dF (Go.Eng.vF (Go.Eng.dF X) * Go.Eng.vF (Go.Eng.dF (Go.Eng.vF (Go.Eng.dF ((Go.Eng.vF (Go.Eng.dF (Go.Eng.vF (Go.Eng.dF ((Go.Eng.vF (Go.Eng.dF A) + Go.Eng.P255 - Go.Eng.vF (Go.Eng.dF B)) % Go.Eng.P255)) * Go.Eng.vF (Go.Eng.dF ((Go.Eng.vF (Go.Eng.dF C) + Go.Eng.vF (Go.Eng.dF D)) % Go.Eng.P255)) % Go.Eng.P255)) + Go.Eng.P255 - Go.Eng.vF (Go.Eng.dF (Go.Eng.vF (Go.Eng.dF ((Go.Eng.vF (Go.Eng.dF A) + Go.Eng.vF (Go.Eng.dF B)) % Go.Eng.P255)) * Go.Eng.vF (Go.Eng.dF ((Go.Eng.vF (Go.Eng.dF C) + Go.Eng.P255 - Go.Eng.vF (Go.Eng.dF D)) % Go.Eng.P255)) % Go.Eng.P255))) % Go.Eng.P255)) * Go.Eng.vF (Go.Eng.dF ((Go.Eng.vF (Go.Eng.dF (Go.Eng.vF (Go.Eng.dF ((Go.Eng.vF (Go.Eng.dF A) + Go.Eng.P255 - Go.Eng.vF (Go.Eng.dF B)) % Go.Eng.P255)) * Go.Eng.vF (Go.Eng.dF ((Go.Eng.vF (Go.Eng.dF C) + Go.Eng.vF (Go.Eng.dF D)) % Go.Eng.P255)) % Go.Eng.P255)) + Go.Eng.P255 - Go.Eng.vF (Go.Eng.dF (Go.Eng.vF (Go.Eng.dF ((Go.Eng.vF (Go.Eng.dF A) + Go.Eng.vF (Go.Eng.dF B)) % Go.Eng.P255)) * Go.Eng.vF (Go.Eng.dF ((Go.Eng.vF (Go.Eng.dF C) + Go.Eng.P255 - Go.Eng.vF (Go.Eng.dF D)) % Go.Eng.P255)) % Go.Eng.P255))) % Go.Eng.P255)) % Go.Eng.P255)) % Go.Eng.P255))] }), (6, { ty := 35, segs := [SV.arr IntKind.u64 4 (Go.Eng.dF (Go.Eng.vF (Go.Eng.dF (Go.Eng.vF (Go.Eng.dF ((Go.Eng.vF (Go.Eng.dF C) + Go.Eng.vF (Go.Eng.dF D)) % Go.Eng.P255)) * Go.Eng.vF (Go.Eng.dF ((Go.Eng.vF (Go.Eng.dF C) + Go.Eng.vF (Go.Eng.dF D)) % Go.Eng.P255)) % Go.Eng.P255)) * Go.Eng.vF (Go.Eng.dF (Go.Eng.vF (Go.Eng.dF ((Go.Eng.vF (Go.Eng.dF C) + Go.Eng.P255 - Go.Eng.vF (Go.Eng.dF D)) % Go.Eng.P255)) * Go.Eng.vF (Go.Eng.dF ((Go.Eng.vF (Go.Eng.dF C) + Go.Eng.P255 - Go.Eng.vF (Go.Eng.dF D)) % Go.Eng.P255)) % Go.Eng.P255)) % Go.Eng.P255))] }), (7, { ty := 35, segs := [SV.arr IntKind.u64 4 (Go.Eng.dF (Go.Eng.vF (Go.Eng.dF ((Go.Eng.vF (Go.Eng.dF (Go.Eng.vF (Go.Eng.dF ((Go.Eng.vF (Go.Eng.dF C) + Go.Eng.vF (Go.Eng.dF D)) % Go.Eng.P255)) * Go.Eng.vF (Go.Eng.dF ((Go.Eng.vF (Go.Eng.dF C) + Go.Eng.vF (Go.Eng.dF D)) % Go.Eng.P255)) % Go.Eng.P255)) + Go.Eng.P255 - Go.Eng.vF (Go.Eng.dF (Go.Eng.vF (Go.Eng.dF ((Go.Eng.vF (Go.Eng.dF C) + Go.Eng.P255 - Go.Eng.vF (Go.Eng.dF D)) % Go.Eng.P255)) * Go.Eng.vF (Go.Eng.dF ((Go.Eng.vF (Go.Eng.dF C) + Go.Eng.P255 - Go.Eng.vF (Go.Eng.dF D)) % Go.Eng.P255)) % Go.Eng.P255))) % Go.Eng.P255)) * Go.Eng.vF (Go.Eng.dF ((Go.Eng.vF (Go.Eng.dF (Go.Eng.vF (Go.Eng.dF ((Go.Eng.vF (Go.Eng.dF C) + Go.Eng.vF (Go.Eng.dF D)) % Go.Eng.P255)) * Go.Eng.vF (Go.Eng.dF ((Go.Eng.vF (Go.Eng.dF C) + Go.Eng.vF (Go.Eng.dF D)) % Go.Eng.P255)) % Go.Eng.P255)) + Go.Eng.vF (Go.Eng.dF (121665 * Go.Eng.vF (Go.Eng.dF ((Go.Eng.vF (Go.Eng.dF (Go.Eng.vF (Go.Eng.dF ((Go.Eng.vF (Go.Eng.dF C) + Go.Eng.vF (Go.Eng.dF D)) % Go.Eng.P255)) * Go.Eng.vF (Go.Eng.dF ((Go.Eng.vF (Go.Eng.dF C) + Go.Eng.vF (Go.Eng.dF D)) % Go.Eng.P255)) % Go.Eng.P255)) + Go.Eng.P255 - Go.Eng.vF (Go.Eng.dF (Go.Eng.vF (Go.Eng.dF ((Go.Eng.vF (Go.Eng.dF C) + Go.Eng.P255 - Go.Eng.vF (Go.Eng.dF D)) % Go.Eng.P255)) * Go.Eng.vF (Go.Eng.dF ((Go.Eng.vF (Go.Eng.dF C) + Go.Eng.P255 - Go.Eng.vF (Go.Eng.dF D)) % Go.Eng.P255)) % Go.Eng.P255))) % Go.Eng.P255)) % Go.Eng.P255))) % Go.Eng.P255)) % Go.Eng.P255))] })], next := 8 }) (ob := [Decidable.decide (0 ≤ n) = Bool.true, n / 8 < 32, n / 8 < 32, n % 8 < 8, (K.getD (n / 8) 0 / 2 ^ (n % 8) &&& 1 == 1) = Bool.true, Go.Eng.vF (Go.Eng.dF C) < Go.Eng.P255, Go.Eng.vF (Go.Eng.dF D) < Go.Eng.P255, Go.Eng.vF (Go.Eng.dF C) < Go.Eng.P255, Go.Eng.vF (Go.Eng.dF D) < Go.Eng.P255, Go.Eng.vF (Go.Eng.dF (Go.Eng.vF (Go.Eng.dF ((Go.Eng.vF (Go.Eng.dF C) + Go.Eng.vF (Go.Eng.dF D)) % Go.Eng.P255)) * Go.Eng.vF (Go.Eng.dF ((Go.Eng.vF (Go.Eng.dF C) + Go.Eng.vF (Go.Eng.dF D)) % Go.Eng.P255)) % Go.Eng.P255)) < Go.Eng.P255, Go.Eng.vF (Go.Eng.dF (Go.Eng.vF (Go.Eng.dF ((Go.Eng.vF (Go.Eng.dF C) + Go.Eng.P255 - Go.Eng.vF (Go.Eng.dF D)) % Go.Eng.P255)) * Go.Eng.vF (Go.Eng.dF ((Go.Eng.vF (Go.Eng.dF C) + Go.Eng.P255 - Go.Eng.vF (Go.Eng.dF D)) % Go.Eng.P255)) % Go.Eng.P255)) < Go.Eng.P255, Go.Eng.vF (Go.Eng.dF A) < Go.Eng.P255, Go.Eng.vF (Go.Eng.dF B) < Go.Eng.P255, Go.Eng.vF (Go.Eng.dF A) < Go.Eng.P255, Go.Eng.vF (Go.Eng.dF B) < Go.Eng.P255, Go.Eng.vF (Go.Eng.dF (Go.Eng.vF (Go.Eng.dF ((Go.Eng.vF (Go.Eng.dF A) + Go.Eng.P255 - Go.Eng.vF (Go.Eng.dF B)) % Go.Eng.P255)) * Go.Eng.vF (Go.Eng.dF ((Go.Eng.vF (Go.Eng.dF C) + Go.Eng.vF (Go.Eng.dF D)) % Go.Eng.P255)) % Go.Eng.P255)) < Go.Eng.P255, Go.Eng.vF (Go.Eng.dF (Go.Eng.vF (Go.Eng.dF ((Go.Eng.vF (Go.Eng.dF A) + Go.Eng.vF (Go.Eng.dF B)) % Go.Eng.P255)) * Go.Eng.vF (Go.Eng.dF ((Go.Eng.vF (Go.Eng.dF C) + Go.Eng.P255 - Go.Eng.vF (Go.Eng.dF D)) % Go.Eng.P255)) % Go.Eng.P255)) < Go.Eng.P255, Go.Eng.vF (Go.Eng.dF (Go.Eng.vF (Go.Eng.dF ((Go.Eng.vF (Go.Eng.dF A) + Go.Eng.P255 - Go.Eng.vF (Go.Eng.dF B)) % Go.Eng.P255)) * Go.Eng.vF (Go.Eng.dF ((Go.Eng.vF (Go.Eng.dF C) + Go.Eng.vF (Go.Eng.dF D)) % Go.Eng.P255)) % Go.Eng.P255)) < Go.Eng.P255, Go.Eng.vF (Go.Eng.dF (Go.Eng.vF (Go.Eng.dF ((Go.Eng.vF (Go.Eng.dF A) + Go.Eng.vF (Go.Eng.dF B)) % Go.Eng.P255)) * Go.Eng.vF (Go.Eng.dF ((Go.Eng.vF (Go.Eng.dF C) + Go.Eng.P255 - Go.Eng.vF (Go.Eng.dF D)) % Go.Eng.P255)) % Go.Eng.P255)) < Go.Eng.P255, Go.Eng.vF (Go.Eng.dF (Go.Eng.vF (Go.Eng.dF ((Go.Eng.vF (Go.Eng.dF C) + Go.Eng.vF (Go.Eng.dF D)) % Go.Eng.P255)) * Go.Eng.vF (Go.Eng.dF ((Go.Eng.vF (Go.Eng.dF C) + Go.Eng.vF (Go.Eng.dF D)) % Go.Eng.P255)) % Go.Eng.P255)) < Go.Eng.P255, Go.Eng.vF (Go.Eng.dF (121665 * Go.Eng.vF (Go.Eng.dF ((Go.Eng.vF (Go.Eng.dF (Go.Eng.vF (Go.Eng.dF ((Go.Eng.vF (Go.Eng.dF C) + Go.Eng.vF (Go.Eng.dF D)) % Go.Eng.P255)) * Go.Eng.vF (Go.Eng.dF ((Go.Eng.vF (Go.Eng.dF C) + Go.Eng.vF (Go.Eng.dF D)) % Go.Eng.P255)) % Go.Eng.P255)) + Go.Eng.P255 - Go.Eng.vF (Go.Eng.dF (Go.Eng.vF (Go.Eng.dF ((Go.Eng.vF (Go.Eng.dF C) + Go.Eng.P255 - Go.Eng.vF (Go.Eng.dF D)) % Go.Eng.P255)) * Go.Eng.vF (Go.Eng.dF ((Go.Eng.vF (Go.Eng.dF C) + Go.Eng.P255 - Go.Eng.vF (Go.Eng.dF D)) % Go.Eng.P255)) % Go.Eng.P255))) % Go.Eng.P255)) % Go.Eng.P255)) < Go.Eng.P255, (K.getD (n / 8) 0 / 2 ^ (n % 8) &&& 1 == 1) = Bool.true]) (sc' := []) (by kernel_rfl) ?_ ?_
      · repeat' (first | exact True.intro | refine And.intro ?_ ?_)
        all_goals first | omega | (simp; done) | (rw [and_one, hbit]; simpa [vB] using hE) | (simp only [vdP, eA, eB, eC, eD, hXm]; first | assumption | exact hlt _)
      · rw [if_pos hE] at hr
        have := ih (by omega) (stX3 C D A B) (stZ3 C D A B X) (stX2 C D) (stZ2 C D) (hlt _) (hlt _) (hlt _) (hlt _) hr
        refine Hold.cast this ?_
        simp only [vdP, eA, eB, eC, eD, hXm, vF1]
        rfl
    · refine hold_cut mixed ok16b (unroll := false) (f := 300) (sc := [true, false, false]) (ks := [2,4,5,6,7,8,9,10]) (bs := [0,2,3,4,5,6,7]) (nx := 8) (st' := [It.lp [0, 1, 0, 1, 1, 1, 1, 1], It.blk 0, It.at [1, 1, 1, 1, 1, 1]]) (σ' := { nt := 112, slots := [(2, SV.ptr 0 0 (Ix.c 0)), (4, SV.ptr 2 0 (Ix.c 0)), (5, SV.ptr 3 0 (Ix.c 0)), (6, SV.ptr 4 0 (Ix.c 0)), (7, SV.ptr 5 0 (Ix.c 0)), (8, SV.ptr 6 0 (Ix.c 0)), (9, SV.ptr 7 0 (Ix.c 0)), (10, SV.i IntKind.i64 ((↑n : Int) - (1 : Int)))], blks := [(0, { ty := 31, segs := [SV.arr IntKind.u8 32 K] }), (2, { ty := 31, segs := [SV.arr IntKind.u8 32 [0, 0, 0, 0, 0, 0, 0, 0, 0, 0, 0, 0, 0, 0, 0, 0, 0, 0, 0, 0, 0, 0, 0, 0, 0, 0, 0, 0, 0, 0, 0, 0]] }), (3, { ty := 35, segs := [SV.arr IntKind.u64 4 (Go.Eng.dF X)] }), (4, { ty := 35, segs := [SV.arr IntKind.u64 4 (Go.Eng.dF (Go.Eng.vF (Go.Eng.dF (Go.Eng.vF (Go.Eng.dF ((Go.Eng.vF (Go.Eng.dF A) + Go.Eng.vF (Go.Eng.dF B)) % Go.Eng.P255)) * Go.Eng.vF (Go.Eng.dF ((Go.Eng.vF (Go.Eng.dF A) + Go.Eng.vF (Go.Eng.dF B)) % Go.Eng.P255)) % Go.Eng.P255)) * Go.Eng.vF (Go.Eng.dF (Go.Eng.vF (Go.Eng.dF ((Go.Eng.vF (Go.Eng.dF A) + Go.Eng.P255 - Go.Eng.vF (Go.Eng.dF B)) % Go.Eng.P255)) * Go.Eng.vF (Go.Eng.dF ((Go.Eng.vF (Go.Eng.dF A) + Go.Eng.P255 - Go.Eng.vF (Go.Eng.dF B)) % Go.Eng.P255)) % Go.Eng.P255)) % Go.Eng.P255))] }), (5, { ty := 35, segs := [SV.arr IntKind.u64 4 (Go.Eng.dF (Go.Eng.vF (Go.Eng.dF ((Go.Eng.vF (Go.Eng.dF (Go.Eng.vF (Go.Eng.dF ((Go.Eng.vF (Go.Eng.dF A) + Go.Eng.vF (Go.Eng.dF B)) % Go.Eng.P255)) * Go.Eng.vF (Go.Eng.dF ((Go.Eng.vF (Go.Eng.dF A) + Go.Eng.vF (Go.Eng.dF B)) % Go.Eng.P255)) % Go.Eng.P255)) + Go.Eng.P255 - Go.Eng.vF (Go.Eng.dF (Go.Eng.vF (Go.Eng.dF ((Go.Eng.vF (Go.Eng.dF A) + Go.Eng.P255 - Go.Eng.vF (Go.Eng.dF B)) % Go.Eng.P255)) * Go.Eng.vF (Go.Eng.dF ((Go.Eng.vF (Go.Eng.dF A) + Go.Eng.P255 - Go.Eng.vF (Go.Eng.dF B)) % Go.Eng.P255)) % Go.Eng.P255))) % Go.Eng.P255)) * Go.Eng.vF (Go.Eng.dF ((Go.Eng.vF (Go.Eng.dF (Go.Eng.vF (Go.Eng.dF ((Go.Eng.vF (Go.Eng.dF A) + Go.Eng.vF (Go.Eng.dF B)) % Go.Eng.P255)) * Go.Eng.vF (Go.Eng.dF ((Go.Eng.vF (Go.Eng.dF A) + Go.Eng.vF (Go.Eng.dF B)) % Go.Eng.P255)) % Go.Eng.P255)) + Go.Eng.vF (Go.Eng.dF (121665 * Go.Eng.vF (Go.Eng.dF ((Go.Eng.vF (Go.Eng.dF (Go.Eng.vF (Go.Eng.dF ((Go.Eng.vF (Go.Eng.dF A) + Go.Eng.vF (Go.Eng.dF B)) % Go.Eng.P255)) * Go.Eng.vF (Go.Eng.dF ((Go.Eng.vF (Go.Eng.dF A) + Go.Eng.vF (Go.Eng.dF B)) % Go.Eng.P255)) % Go.Eng.P255)) + Go.Eng.P255 - Go.Eng.vF (Go.Eng.dF (Go.Eng.vF (Go.Eng.dF ((Go.Eng.vF (Go.Eng.dF A) + Go.Eng.P255 - Go.Eng.vF (Go.Eng.dF B)) % Go.Eng.P255)) * Go.Eng.vF (Go.Eng.dF ((Go.Eng.vF (Go.Eng.dF A) + Go.Eng.P255 - Go.Eng.vF (Go.Eng.dF B)) % Go.Eng.P255)) % Go.Eng.P255))) % Go.Eng.P255)) % Go.Eng.P255))) % Go.Eng.P255)) % Go.Eng.P255))] }), (6, { ty := 35, segs := [SV.arr IntKind.u64 4 (Go.Eng.dF (Go.Eng.vF (Go.Eng.dF ((Go.Eng.vF (Go.Eng.dF (Go.Eng.vF (Go.Eng.dF ((Go.Eng.vF (Go.Eng.dF C) + Go.Eng.P255 - Go.Eng.vF (Go.Eng.dF D)) % Go.Eng.P255)) * Go.Eng.vF (Go.Eng.dF ((Go.Eng.vF (Go.Eng.dF A) + Go.Eng.vF (Go.Eng.dF B)) % Go.Eng.P255)) % Go.Eng.P255)) + Go.Eng.vF (Go.Eng.dF (Go.Eng.vF (Go.Eng.dF ((Go.Eng.vF (Go.Eng.dF C) + Go.Eng.vF (Go.Eng.dF D)) % Go.Eng.P255)) * Go.Eng.vF (Go.Eng.dF ((Go.Eng.vF (Go.Eng.dF A) + Go.Eng.P255 - Go.Eng.vF (Go.Eng.dF B)) % Go.Eng.P255)) % Go.Eng.P255))) % Go.Eng.P255)) * Go.Eng.vF (Go.Eng.dF ((Go.Eng.vF (Go.Eng.dF (Go.Eng.vF (Go.Eng.dF ((Go.Eng.vF (Go.Eng.dF C) + Go.Eng.P255 - Go.Eng.vF (Go.Eng.dF D)) % Go.Eng.P255)) * Go.Eng.vF (Go.Eng.dF ((Go.Eng.vF (Go.Eng.dF A) + Go.Eng.vF (Go.Eng.dF B)) % Go.Eng.P255)) % Go.Eng.P255)) + Go.Eng.vF (Go.Eng.dF (Go.Eng.vF (Go.Eng.dF ((Go.Eng.vF (Go.Eng.dF C) + Go.Eng.vF (Go.Eng.dF D)) % Go.Eng.P255)) * Go.Eng.vF (Go.Eng.dF ((Go.Eng.vF (Go.Eng.dF A) + Go.Eng.P255 - Go.Eng.vF (Go.Eng.dF B)) % Go.Eng.P255)) % Go.Eng.P255))) % Go.Eng.P255)) % Go.Eng.P255))] }), (7, { ty := 35, segs := [SV.arr IntKind.u64 4 (Go.Eng.dF (Go.Eng.vF (Go.Eng.dF X) * Go.Eng.vF (Go.Eng.dF (Go.Eng.vF (Go.Eng.dF ((Go.Eng.vF (Go.Eng.dF (Go.Eng.vF (Go.Eng.dF ((Go.Eng.vF (Go.Eng.dF C) + Go.Eng.P255 - Go.Eng.vF (Go.Eng.dF D)) % Go.Eng.P255)) * Go.Eng.vF (Go.Eng.dF ((Go.Eng.vF (Go.Eng.dF A) + Go.Eng.vF (Go.Eng.dF B)) % Go.Eng.P255)) % Go.Eng.P255)) + Go.Eng.P255 - Go.Eng.vF (Go.Eng.dF (Go.Eng.vF (Go.Eng.dF ((Go.Eng.vF (Go.Eng.dF C) + Go.Eng.vF (Go.Eng.dF D)) % Go.Eng.P255)) * Go.Eng.vF (Go.Eng.dF ((Go.Eng.vF (Go.Eng.dF A) + Go.Eng.P255 - Go.Eng.vF (Go.Eng.dF B)) % Go.Eng.P255)) % Go.Eng.P255))) % Go.Eng.P255)) * Go.Eng.vF (Go.Eng.dF ((Go.Eng.vF (Go.Eng.dF (Go.Eng.vF (Go.Eng.dF ((Go.Eng.vF (Go.Eng.dF C) + Go.Eng.P255 - Go.Eng.vF (Go.Eng.dF D)) % Go.Eng.P255)) * Go.Eng.vF (Go.Eng.dF ((Go.Eng.vF (Go.Eng.dF A) + Go.Eng.vF (Go.Eng.dF B)) % Go.Eng.P255)) % Go.Eng.P255)) + Go.Eng.P255 - Go.Eng.vF (Go.Eng.dF (Go.Eng.vF (Go.Eng.dF ((Go.Eng.vF (Go.Eng.dF C) + Go.Eng.vF (Go.Eng.dF D)) % Go.Eng.P255)) * Go.Eng.vF (Go.Eng.dF ((Go.Eng.vF (Go.Eng.dF A) + Go.Eng.P255 - Go.Eng.vF (Go.Eng.dF B)) % Go.Eng.P255)) % Go.Eng.P255))) % Go.Eng.P255)) % Go.Eng.P255)) % Go.Eng.P255))] })], next := 8 }) (ob := [Decidable.decide (0 ≤ n) = Bool.true, n / 8 < 32, n / 8 < 32, n % 8 < 8, (K.getD (n / 8) 0 / 2 ^ (n % 8) &&& 1 == 1) = Bool.false, Go.Eng.vF (Go.Eng.dF A) < Go.Eng.P255, Go.Eng.vF (Go.Eng.dF B) < Go.Eng.P255, Go.Eng.vF (Go.Eng.dF A) < Go.Eng.P255, Go.Eng.vF (Go.Eng.dF B) < Go.Eng.P255, Go.Eng.vF (Go.Eng.dF (Go.Eng.vF (Go.Eng.dF ((Go.Eng.vF (Go.Eng.dF A) + Go.Eng.vF (Go.Eng.dF B)) % Go.Eng.P255)) * Go.Eng.vF (Go.Eng.dF ((Go.Eng.vF (Go.Eng.dF A) + Go.Eng.vF (Go.Eng.dF B)) % Go.Eng.P255)) % Go.Eng.P255)) < Go.Eng.P255, Go.Eng.vF (Go.Eng.dF (Go.Eng.vF (Go.Eng.dF ((Go.Eng.vF (Go.Eng.dF A) + Go.Eng.P255 - Go.Eng.vF (Go.Eng.dF B)) % Go.Eng.P255)) * Go.Eng.vF (Go.Eng.dF ((Go.Eng.vF (Go.Eng.dF A) + Go.Eng.P255 - Go.Eng.vF (Go.Eng.dF B)) % Go.Eng.P255)) % Go.Eng.P255)) < Go.Eng.P255, Go.Eng.vF (Go.Eng.dF C) < Go.Eng.P255, Go.Eng.vF (Go.Eng.dF D) < Go.Eng.P255, Go.Eng.vF (Go.Eng.dF C) < Go.Eng.P255, Go.Eng.vF (Go.Eng.dF D) < Go.Eng.P255, Go.Eng.vF (Go.Eng.dF (Go.Eng.vF (Go.Eng.dF ((Go.Eng.vF (Go.Eng.dF C) + Go.Eng.P255 - Go.Eng.vF (Go.Eng.dF D)) % Go.Eng.P255)) * Go.Eng.vF (Go.Eng.dF ((Go.Eng.vF (Go.Eng.dF A) + Go.Eng.vF (Go.Eng.dF B)) % Go.Eng.P255)) % Go.Eng.P255)) < Go.Eng.P255, Go.Eng.vF (Go.Eng.dF (Go.Eng.vF (Go.Eng.dF ((Go.Eng.vF (Go.Eng.dF C) + Go.Eng.vF (Go.Eng.dF D)) % Go.Eng.P255)) * Go.Eng.vF (Go.Eng.dF ((Go.Eng.vF (Go.Eng.dF A) + Go.Eng.P255 - Go.Eng.vF (Go.Eng.dF B)) % Go.Eng.P255)) % Go.Eng.P255)) < Go.Eng.P255, Go.Eng.vF (Go.Eng.dF (Go.Eng.vF (Go.Eng.dF ((Go.Eng.vF (Go.Eng.dF C) + Go.Eng.P255 - Go.Eng.vF (Go.Eng.dF D)) % Go.Eng.P255)) * Go.Eng.vF (Go.Eng.dF ((Go.Eng.vF (Go.Eng.dF A) + Go.Eng.vF (Go.Eng.dF B)) % Go.Eng.P255)) % Go.Eng.P255)) < Go.Eng.P255, Go.Eng.vF (Go.Eng.dF (Go.Eng.vF (Go.Eng.dF ((Go.Eng.vF (Go.Eng.dF C) + Go.Eng.vF (Go.Eng.dF D)) % Go.Eng.P255)) * Go.Eng.vF (Go.Eng.dF ((Go.Eng.vF (Go.Eng.dF A) + Go.Eng.P255 - Go.Eng.vF (Go.Eng.dF B)) % Go.Eng.P255)) % Go.Eng.P255)) < Go.Eng.P255, Go.Eng.vF (Go.Eng.dF (Go.Eng.vF (Go.Eng.dF ((Go.Eng.vF (Go.Eng.dF A) + Go.Eng.vF (Go.Eng.dF B)) % Go.Eng.P255)) * Go.Eng.vF (Go.Eng.dF ((Go.Eng.vF (Go.Eng.dF A) + Go.Eng.vF (Go.Eng.dF B)) % Go.Eng.P255)) % Go.Eng.P255)) < Go.Eng.P255, Go.Eng.vF (Go.Eng.dF (121665 * Go.Eng.vF (Go.Eng.dF ((Go.Eng.vF (Go.Eng.dF (Go.Eng.vF (Go.Eng.dF ((Go.Eng.vF (Go.Eng.dF A) + Go.Eng.vF (Go.Eng.dF B)) % Go.Eng.P255)) * Go.Eng.vF (Go.Eng.dF ((Go.Eng.vF (Go.Eng.dF A) + Go.Eng.vF (Go.Eng.dF B)) % Go.Eng.P255)) % Go.Eng.P255)) + Go.Eng.P255 - Go.Eng.vF (Go.Eng.dF (Go.Eng.vF (Go.Eng.dF ((Go.Eng.vF (Go.Eng.dF A) + Go.Eng.P255 - Go.Eng.vF (Go.Eng.dF B)) % Go.Eng.P255)) * Go.Eng.vF (Go.Eng.dF ((Go.Eng.vF (Go.Eng.dF A) + Go.Eng.P255 - Go.Eng.vF (Go.Eng.dF B)) % Go.Eng.P255)) % Go.Eng.P255))) % Go.Eng.P255)) % Go.Eng.P255)) < Go.Eng.P255, (K.getD (n / 8) 0 / 2 ^ (n % 8) &&& 1 == 1) = Bool.false]) (sc' := []) (by kernel_rfl) ?_ ?_
      · repeat' (first | exact True.intro | refine And.intro ?_ ?_)
        all_goals first | omega | (simp; done) | (rw [and_one, hbit]; simpa [vB] using hE) | (simp only [vdP, eA, eB, eC, eD, hXm]; first | assumption | exact hlt _)
      · rw [if_neg hE] at hr
        have := ih (by omega) (stX2 A B) (stZ2 A B) (stX3 A B C D) (stZ3 A B C D X) (hlt _) (hlt _) (hlt _) (hlt _) hr
        refine Hold.cast this ?_
        simp only [vdP, eA, eB, eC, eD, hXm, vF1]
        rfl
end
theorem c36 : ∀ args res ob, e36 args = some (res, ob) → All ob → Contract Try.prog 66 args res := by
  intro args res ob h hob
  simp only [e36, t2b] at h
  split at h
  · rename_i k u
    cases h
    refine contract Try.func66 (body := bodyOf Try.f66) rfl (by kernel_rfl) (by kernel_rfl) rfl ?_
    rintro ⟨hk, hu, _⟩ w0 S
    have hm := vB_lt (mask_ok hu)
    have hlt : ∀ E, E % P255 < P255 := fun E => Nat.mod_lt _ (by decide)
    refine hold_cut mixed ok16b (unroll := false) (f := 100) (sc := []) (ks := [2,4,5,6,7,8,9,10]) (bs := [0,2,3,4,5,6,7]) (nx := 8) (st' := [It.lp [0, 1, 0, 1, 1, 1, 1, 1], It.blk 0, It.at [1, 1, 1, 1, 1, 1]]) (σ' := { nt := 112, slots := [(2, SV.ptr 0 0 (Ix.c 0)), (4, SV.ptr 2 0 (Ix.c 0)), (5, SV.ptr 3 0 (Ix.c 0)), (6, SV.ptr 4 0 (Ix.c 0)), (7, SV.ptr 5 0 (Ix.c 0)), (8, SV.ptr 6 0 (Ix.c 0)), (9, SV.ptr 7 0 (Ix.c 0)), (10, SV.c IntKind.i64 (255 : Int))], blks := [(0, { ty := 31, segs := [SV.arr IntKind.u8 32 (Go.Eng.G.clampL k)] }), (2, { ty := 31, segs := [SV.arr IntKind.u8 32 [0, 0, 0, 0, 0, 0, 0, 0, 0, 0, 0, 0, 0, 0, 0, 0, 0, 0, 0, 0, 0, 0, 0, 0, 0, 0, 0, 0, 0, 0, 0, 0]] }), (3, { ty := 35, segs := [SV.arr IntKind.u64 4 (Go.Eng.dF (Go.Eng.vF (Go.Eng.dF (Go.Eng.vB (u.set 31 (u.getD 31 0 &&& 127)))) % Go.Eng.P255))] }), (4, { ty := 35, segs := [SV.arr IntKind.u64 4 [1, 0, 0, 0]] }), (5, { ty := 35, segs := [SV.arr IntKind.u64 4 [0, 0, 0, 0]] }), (6, { ty := 35, segs := [SV.arr IntKind.u64 4 (Go.Eng.dF (Go.Eng.vF (Go.Eng.dF (Go.Eng.vB (u.set 31 (u.getD 31 0 &&& 127)))) % Go.Eng.P255))] }), (7, { ty := 35, segs := [SV.arr IntKind.u64 4 [1, 0, 0, 0]] })], next := 8 }) (ob := []) (sc' := []) (by kernel_rfl) trivial ?_
    have := c36_in (w0 := w0) (S := S) (clampL k) (bits_clamp hk) (vB (maskL u) % P255) (hlt _) (multV k u) rfl 256 (Nat.le_refl _) 1 0 (vB (maskL u) % P255) 1 (by decide) (by decide) (hlt _) (by decide) rfl
    refine Hold.weaken (sl' := (s36 (clampL k) 0 0 0 0 0 (.i .i64 255)).slots) (Hold.cast this ?_) (by simp [wks, wk, wk0, wka, s36])
    rw [show vF (dF (vB (u.set 31 (u.getD 31 0 &&& 127)))) = vB (maskL u) from vd hm]
    simp only [s36, dF1, dF0]
    rfl
  · cases h
theorem ok16c : CtrOk Try.prog T16c := addC_ok ok16b c36
end Go.Eng.G

namespace Go.Eng
open Go.RowKit
def outIds (m : Nat) (news : List Nat) : List Nat := List.range m ++ news
def getBs (blks : List (Nat × Bk)) : List Nat → Option (List Bk)
  | [] => some []
  | id :: r => match getB blks id, getBs blks r with
    | some b, some l => if (idss b.segs).isEmpty then some (b :: l) else none
    | _, _ => none
def restB (out : List Nat) (blks : List (Nat × Bk)) : List (Nat × Bk) := blks.filter fun p => !out.contains p.1
def ptrOf : SV → Option Nat
  | .ptr id 0 (.c 0) => some id
  | _ => none
theorem ptrOf_ok {s : SV} {id : Nat} (h : ptrOf s = some id) : s = .ptr id 0 (.c 0) := by
  unfold ptrOf at h
  split at h
  · cases h; rfl
  · cases h
theorem deepV_tup {H : List (Nat × Bk)} {f : Nat} {l : List SV} : deepV H f (.tup l) = none := by
  cases f with
  | zero => rfl
  | succ f => simp only [deepV, SV.rd, SV.isTup, Bool.not_true, Bool.and_false, Bool.false_eq_true, if_false]
def viewM (out : List Nat) (blks : List (Nat × Bk)) (s : SV) : Option SV :=
  if s.ids.isEmpty && !s.isTup then some s else match ptrOf s with
  | some id => match idxOf id out 0 with | some k => some (.ptr k 0 (.c 0)) | none => none
  | none => match deepV (restB out blks) 80 s with | some r => if r.ids.isEmpty then some r else none | none => none
def retOneV (P : Program) (vw : SV → Option SV) (σ : St) (r : ResultVar) : Option SV :=
  match r with
  | .tmp t => match getS σ.slots t with | some s => vw s.rd | none => none
  | .cell ad t => match getS σ.slots ad, aggT P t, szT P t with
    | some (.ptr id off ix), some agg, some size => match getB σ.blks id with
      | some bk => match loadB bk agg size off ix with
        | some (s, []) => vw s.rd
        | _ => none
      | none => none
    | _, _, _ => none
def retAllV (P : Program) (vw : SV → Option SV) (σ : St) : List ResultVar → Option (List SV)
  | [] => some []
  | r :: l => match retOneV P vw σ r, retAllV P vw σ l with
    | some s, some t => some (s :: t)
    | _, _ => none
def retM (P : Program) (rs : Array ResultVar) (news : List Nat) (σ : St) : Option MRes :=
  match getBs σ.blks (outIds σ.m news), retAllV P (viewM (outIds σ.m news) σ.blks) σ rs.toList with
  | some bs, some l => if (outIds σ.m news).Nodup then some ⟨joinR l, bs.take σ.m, bs.drop σ.m⟩ else none
  | _, _ => none
def FinQ (P : Program) (fn : Func) (F : Fr) (S : Own) (r : MRes) (a : Act) (w : World) : Prop :=
  a.defers = [] ∧ ∃ (v : Value) (β' : Nat → Nat), (results fn a.tmps).run P w = .ok v w ∧ (∀ i, i < F.m → β' i = F.pin i) ∧ Bel F w ∧
    relV β' (owS S (numB 0 (r.upd ++ r.new)) β') w r.res v ∧ HSat β' (owS S (numB 0 (r.upd ++ r.new)) β') w (numB 0 (r.upd ++ r.new)) ∧
    (∀ i j bi bj, (i, bi) ∈ numB 0 (r.upd ++ r.new) → (j, bj) ∈ numB 0 (r.upd ++ r.new) → live β' i bi → live β' j bj → β' i = β' j → i = j) ∧
    (∀ i bk, (i, bk) ∈ numB 0 (r.upd ++ r.new) → live β' i bk → i < F.m ∨ F.w.heap.size ≤ β' i)
def FinM (P : Program) (fn : Func) (F : Fr) (S : Own) (r : MRes) : Exit → Act → World → Prop
  | .normal, a, w => FinQ P fn F S r a w
  | .ret, a, w => FinQ P fn F S r a w
  | _, _, _ => False
section
variable {P : Program} {fn : Func} {body : Code} {w0 : Fr} {w : World} {S : Own} {σ : St} {β : Nat → Nat} {a : Act}
instance {r : MRes} : ExitOk (FinM P fn w0 S r) := ⟨fun _ _ _ h => h, fun _ _ h => h⟩
theorem getBs_ok {blks : List (Nat × Bk)} : ∀ {ids : List Nat} {bs : List Bk}, getBs blks ids = some bs → bs.length = ids.length ∧
    ∀ (k id : Nat), ids[k]? = some id → ∃ b, bs[k]? = some b ∧ getB blks id = some b ∧ idss b.segs = [] := by
  intro ids
  induction ids with
  | nil => intro bs h; simp only [getBs] at h; cases h; exact ⟨rfl, fun k id h => by simp at h⟩
  | cons id ids ih =>
    intro bs h
    simp only [getBs] at h
    split at h
    · rename_i b l hb hl
      split at h
      · rename_i he
        cases h
        obtain ⟨h1, h2⟩ := ih hl
        refine ⟨by simp [h1], fun k i hk => ?_⟩
        cases k with
        | zero => simp at hk; subst hk; exact ⟨b, rfl, hb, by simpa using he⟩
        | succ k => simp at hk; obtain ⟨c, hc⟩ := h2 k i hk; exact ⟨c, by simpa using hc.1, hc.2⟩
      · cases h
    · cases h
theorem retOneV_ok (hS : Sat w0 S σ β a w) {vw : SV → Option SV} {β' : Nat → Nat} {ow' : Own} (hvw : ∀ s r v, vw s = some r → relV β (owS S σ.blks β) w s v → relV1 β' ow' w r v) {r : ResultVar} {s : SV} (h : retOneV P vw σ r = some s) :
    ∃ v, (resF a.tmps r).run P w = .ok v w ∧ relV1 β' ow' w s v := by
  cases r with
  | tmp t =>
    simp only [retOneV] at h
    split at h
    · rename_i s' hs
      exact ⟨_, rfl, hvw _ _ _ h (rd_ok (hS.slot t s' (getS_mem hs)))⟩
    · cases h
  | cell ad t =>
    simp only [retOneV] at h
    split at h
    · rename_i id off ix agg size hs ha hsz
      split at h
      · rename_i bk hg
        split at h
        · rename_i s' hl
          have h1 := relV_scalar rfl rfl (hS.slot ad _ (getS_mem hs))
          simp only [rel, List.cons.injEq, and_true] at h1
          obtain ⟨cs, hr, hb⟩ := (hS.blk id bk (getB_both hg).1).1 (getB_both hg).2
          obtain ⟨v, hrun, hv⟩ := loadB_ok (P := P) hl trivial ha hsz hr hb
          refine ⟨v, ?_, hvw _ _ _ h (rd_ok hv)⟩
          simp only [Instr.loadAt, Instr.sureAddr, Sem.run_bind, Sem.run_pure, Result.andThen_ok] at hrun
          simp only [resF, h1, asAddr, Sem.run_bind, Sem.run_pure, Result.andThen_ok]
          exact hrun
        · cases h
      · cases h
    · cases h
theorem retAllV_ok (hS : Sat w0 S σ β a w) {vw : SV → Option SV} {β' : Nat → Nat} {ow' : Own} (hvw : ∀ s r v, vw s = some r → relV β (owS S σ.blks β) w s v → relV1 β' ow' w r v) : ∀ {rs : List ResultVar} {l : List SV}, retAllV P vw σ rs = some l →
    ∃ vs, (rs.mapM (resF a.tmps)).run P w = .ok vs w ∧ relVs β' ow' w l vs ∧ vs.length = rs.length := by
  intro rs
  induction rs with
  | nil => intro l h; simp only [retAllV] at h; cases h; exact ⟨[], by simp, rfl, rfl⟩
  | cons r rs ih =>
    intro l h
    simp only [retAllV] at h
    split at h
    · rename_i s t h1 h2
      cases h
      obtain ⟨v, hv, hr⟩ := retOneV_ok hS hvw h1
      obtain ⟨vs, hvs, hrs, hlen⟩ := ih h2
      refine ⟨v :: vs, ?_, ⟨v, vs, rfl, hr, hrs⟩, by simp [hlen]⟩
      rw [List.mapM_cons, Sem.run_bind, hv]
      simp only [Result.andThen_ok, Sem.run_bind, hvs, Sem.run_pure]
    · cases h
theorem joined {rs : Array ResultVar} {l : List SV} {vs : List Value} {β' : Nat → Nat} {ow' : Own} (hf : fn.results = rs) (hvs : (rs.toList.mapM (resF a.tmps)).run P w = .ok vs w) (hrs : relVs β' ow' w l vs) :
    ∃ v, (results fn a.tmps).run P w = .ok v w ∧ relV β' ow' w (joinR l) v := by
  subst hf
  have hm : (fn.results.mapM (resF a.tmps)).run P w = .ok vs.toArray w := by
    rw [Array.mapM_eq_mapM_toList, Sem.run_map, hvs]; rfl
  have hll : l.length = vs.length := by
    clear hm hvs
    induction l generalizing vs with
    | nil => rw [hrs]; rfl
    | cons s l ih => obtain ⟨v, t, rfl, _, h2⟩ := hrs; simp [ih h2]
  by_cases h1 : vs.length = 1
  · obtain ⟨v, rfl⟩ := List.length_eq_one_iff.1 h1
    obtain ⟨s, rfl⟩ := List.length_eq_one_iff.1 (hll.trans h1)
    obtain ⟨v', t, e, hr, _⟩ := hrs
    cases e
    refine ⟨v, ?_, relV_up hr⟩
    rw [results_eq, Sem.run_bind, hm]
    simp
  · refine ⟨.tuple vs.toArray, ?_, ?_⟩
    · rw [results_eq, Sem.run_bind, hm]
      simp [h1]
    · have : joinR l = .tup l := by
        cases l with
        | nil => rfl
        | cons s l => cases l with
          | nil => simp at hll; exact absurd hll.symm h1
          | cons t l => rfl
      rw [this]
      exact ⟨vs, rfl, hrs⟩
theorem out_low {m i : Nat} {news : List Nat} (h : i < m) : (outIds m news)[i]? = some i := by
  unfold outIds
  rw [List.getElem?_append_left (by simpa using h)]
  simp [h]
theorem out_high {m i id : Nat} {news : List Nat} (hi : m ≤ i) (hn : (outIds m news).Nodup) (h : (outIds m news)[i]? = some id) : m ≤ id := by
  rcases Nat.lt_or_ge id m with hl | hl
  · exfalso
    have h1 := out_low (news := news) hl
    have hi' := (List.getElem?_eq_some_iff.1 h).1
    have := (List.getElem?_inj hi' hn).1 (h.trans h1.symm)
    omega
  · exact hl
theorem hold_finM {res r : MRes} {news : List Nat} (h : retM P fn.results news σ = some r) (he : r = res) : Hold P body (FinM P fn w0 S res) w0 S [] σ := by
  intro β a w hS
  subst he
  unfold retM at h
  split at h
  · rename_i bs l hbs hl
    split at h
    · rename_i hnd
      cases h
      have hm : σ.m = w0.m := hS.pins.1
      obtain ⟨hblen, hbget⟩ := getBs_ok hbs
      have htd : bs.take σ.m ++ bs.drop σ.m = bs := List.take_append_drop _ _
      have hplain : ∀ b ∈ bs, b.row = false := by
        intro b hb
        obtain ⟨k, hk, rfl⟩ := List.getElem_of_mem hb
        obtain ⟨c, h1, h2, _⟩ := hbget k ((outIds σ.m news)[k]'(by omega)) (by simp)
        rw [List.getElem?_eq_getElem hk] at h1
        cases h1
        exact (getB_both h2).2
      have hmemN : ∀ k b, (k, b) ∈ numB 0 bs → ∃ id, (outIds σ.m news)[k]? = some id ∧ getB σ.blks id = some b ∧ idss b.segs = [] := by
        intro k b hk
        obtain ⟨_, hk⟩ := (numB_plain hplain).1 hk
        simp only [Nat.sub_zero] at hk
        have hlt := (List.getElem?_eq_some_iff.1 hk).1
        refine ⟨(outIds σ.m news)[k]'(by omega), by simp, ?_⟩
        obtain ⟨c, h1, h2⟩ := hbget k ((outIds σ.m news)[k]'(by omega)) (by simp)
        rw [hk] at h1
        cases h1
        exact h2
      let β' : Nat → Nat := fun k => β ((outIds σ.m news).getD k 0)
      have hβ' : ∀ {k id}, (outIds σ.m news)[k]? = some id → β' k = β id := fun {k id} hk => by
        show β ((outIds σ.m news).getD k 0) = β id
        rw [List.getD_eq_getElem?_getD, hk]; rfl
      have hsub : ∀ b j, owS S (numB 0 bs) β' b j → owS S σ.blks β b j := by
        rintro b j (hs | ⟨k, bk, hk, e, hr⟩)
        · exact .inl hs
        · obtain ⟨id, h1, h2, h3⟩ := hmemN k bk hk
          refine .inr ⟨id, bk, getB_mem h2, by rw [← hβ' h1]; exact e, fun hr => ?_⟩
          rw [(getB_both h2).2] at hr; cases hr
      have hvw : ∀ s r v, viewM (outIds σ.m news) σ.blks s = some r → relV β (owS S σ.blks β) w s v → relV1 β' (owS S (numB 0 bs) β') w r v := by
        intro s r v h hv
        unfold viewM at h
        split at h
        · rename_i hc
          simp only [Bool.and_eq_true, List.isEmpty_iff, Bool.not_eq_true'] at hc
          cases h
          exact relV1_mono (fun b j _ h => hsub b j h) (Keep.refl _ _) (fun id hid => by rw [hc.1] at hid; cases hid) (relV_one hc.2 hv)
        · split at h
          · rename_i id hp
            obtain rfl := ptrOf_ok hp
            split at h
            · rename_i k hk
              cases h
              have h1 := relV_scalar rfl rfl hv
              simp only [rel, List.cons.injEq, and_true] at h1
              subst h1
              obtain ⟨_, _, hg⟩ := idxOf_ok hk
              simp only [Nat.sub_zero] at hg
              refine ⟨_, by simp only [rel]; rfl, ?_⟩
              rw [hβ' hg]
              rfl
            · cases h
          · split at h
            · rename_i r' hd
              split at h
              · rename_i hids
                cases h
                have ht : s.isTup = false := by
                  cases s <;> first | rfl | (rw [deepV_tup] at hd; cases hd)
                obtain ⟨cs, h1, rfl⟩ := relV_one ht hv
                have hrest : HSat β (owS S σ.blks β) w (restB (outIds σ.m news) σ.blks) := fun id bk hm => hS.blk id bk (List.mem_filter.1 hm).1
                obtain ⟨h2, h3⟩ := (deep_ok hrest (S := owS S (numB 0 bs) β') hsub (fun id bk hg j hs => by
                  obtain ⟨hgm, hout⟩ := List.mem_filter.1 (getB_mem hg)
                  have hlive := live_plain (β := β) (id := id) (getB_both hg).2
                  rcases hs with hs | ⟨k, bk', hk, e, _⟩
                  · have h1 := hS.lowS _ _ hs
                    rcases hS.low id _ hgm hlive with h2 | h2
                    · omega
                    · exact h1.2 h2
                  · obtain ⟨id', h4, h5, _⟩ := hmemN k bk' hk
                    rw [hβ' h4] at e
                    have := hS.inj id' id _ _ (getB_mem h5) hgm (live_plain (getB_both h5).2) hlive e
                    subst this
                    simp only [Bool.not_eq_true', List.contains_eq_mem, decide_eq_false_iff_not] at hout
                    exact hout (List.mem_of_getElem? h4)) 80).1 hd h1
                refine ⟨cs, rel_mono (fun _ _ _ h => h) (Keep.refl _ _) _ _ (fun id hid => by rw [List.isEmpty_iff.1 hids] at hid; cases hid) h2, by rw [h3]⟩
              · cases h
            · cases h
      obtain ⟨vs, hvs, hrs, _⟩ := retAllV_ok hS hvw hl
      obtain ⟨v, hv, hr⟩ := joined rfl hvs hrs
      have hpin : ∀ i, i < w0.m → β' i = w0.pin i := fun i hi => by
        rw [hβ' (out_low (by rw [hm]; exact hi))]
        exact (hS.pins.2 i hi).1
      refine ⟨hS.defs, v, β', hv, hpin, hS.ext, ?_, ?_, ?_, ?_⟩
      · simpa only [htd] using hr
      · simp only [htd]
        intro k bk hk
        obtain ⟨id, h1, h2, h3⟩ := hmemN k bk hk
        refine ⟨fun _ => ?_, fun hr => by rw [(getB_both h2).2] at hr; cases hr⟩
        obtain ⟨cs, h4, h5⟩ := (hS.blk id bk (getB_mem h2)).1 (getB_both h2).2
        exact ⟨cs, rels_mono (fun b j _ h => hsub b j h) (Keep.refl _ _) _ _ (fun i hi => by rw [h3] at hi; cases hi) h4, by rw [hβ' h1]; exact h5⟩
      · simp only [htd]
        intro i j bi bj hi hj _ _ e
        obtain ⟨id1, a1, a2, _⟩ := hmemN i bi hi
        obtain ⟨id2, b1, b2, _⟩ := hmemN j bj hj
        rw [hβ' a1, hβ' b1] at e
        have := hS.inj id1 id2 _ _ (getB_mem a2) (getB_mem b2) (live_plain (getB_both a2).2) (live_plain (getB_both b2).2) e
        subst this
        exact (List.getElem?_inj (List.getElem?_eq_some_iff.1 a1).1 hnd).1 (a1.trans b1.symm)
      · simp only [htd]
        intro i bk hi _
        rcases Nat.lt_or_ge i w0.m with hl | hl
        · exact .inl hl
        · right
          obtain ⟨id, a1, a2, _⟩ := hmemN i bk hi
          have hge := out_high (by rw [hm]; exact hl) hnd a1
          rw [hβ' a1]
          rcases hS.low id bk (getB_mem a2) (live_plain (getB_both a2).2) with h1 | ⟨i', hi', e⟩
          · exact h1
          · exfalso
            obtain ⟨e2, b2, hm2, hr2⟩ := hS.pins.2 i' hi'
            have := hS.inj i' id _ _ hm2 (getB_mem a2) (live_plain hr2) (live_plain (getB_both a2).2) (by rw [e2, e])
            omega
    · cases h
  · cases h
def initM (H : List Bk) (args : List SV) (nt : Nat) : St := { nt, slots := initSlots 0 args, blks := numB 0 H, next := H.length, m := H.length }
theorem contractM {f : FuncId} {H : List Bk} {args : List SV} {res : MRes} (hf : P.funcs[f]? = some fn) (hb : fn.body = some body) (hname : (fn.name == "runtime.NumGoroutine") = false) (hn : Nat.ble args.length fn.ntmps = true)
    (hids : (idss args).all (fun i => decide (i < H.length)) = true) (hH : H.all plainB = true)
    (h : pureF.pureFs args → (∀ b ∈ H, pureF.pureFs b.segs) → ∀ (F : Fr) (S : Own), F.m = H.length → Hold P body (FinM P fn F S res) F S [.at []] (initM H args fn.ntmps)) : ContractM P f H args res := by
  intro w S β vs hSlt _ hsat hinj hvs
  have hp : ∀ b ∈ H, b.row = false ∧ idss b.segs = [] := fun b hb => by
    have := List.all_eq_true.1 hH b hb
    simpa [plainB] using this
  have hpl : ∀ b ∈ H, b.row = false := fun b hb => (hp b hb).1
  have hmem : ∀ i b, (i, b) ∈ numB 0 H → i < H.length ∧ b ∈ H := fun i b hi => by
    obtain ⟨_, h2⟩ := (numB_plain hpl).1 hi
    simp only [Nat.sub_zero] at h2
    exact ⟨(List.getElem?_eq_some_iff.1 h2).1, List.mem_of_getElem? h2⟩
  obtain ⟨hlen, hget⟩ := relVs_get hvs
  have hn := Nat.le_of_ble_eq_true hn
  unfold Invokes
  have hcall : (callFunc f vs.toArray).run P w = .ok (.enter f vs.toArray) w := by
    have hne : ¬ fn.name = "runtime.NumGoroutine" := by simpa using hname
    simp [callFunc, hf, hb, hne]
  rw [hcall]
  simp only
  refine calls_of_wp hf hb ?_
  have hS : Sat ⟨w, H.length, β⟩ S (initM H args fn.ntmps) β { tmps := vs.toArray ++ Array.replicate (fn.ntmps - vs.toArray.size) undef, defers := [] } w := by
    refine ⟨rfl, ?_, ?_, hsat, ?_, ?_, numB_nodup 0, ?_, ?_, ⟨rfl, rfl, rfl, Nat.le_refl _, fun _ _ _ => rfl⟩, ?_, rfl, ?_⟩
    · simp [initM]; omega
    · intro d s hm
      obtain ⟨_, hd⟩ := initSlots_mem hm
      simp only [Nat.sub_zero] at hd
      obtain ⟨v, hv, hr⟩ := hget d s hd
      have hlt : d < vs.length := by
        rcases Nat.lt_or_ge d vs.length with h | h
        · exact h
        · rw [List.getElem?_eq_none h] at hv; cases hv
      have e : ({ tmps := vs.toArray ++ Array.replicate (fn.ntmps - vs.toArray.size) undef, defers := [] } : Act).tmps.getD d undef = v := by
        rw [Array.getD_eq_getD_getElem?, Array.getElem?_append_left (by simpa using hlt)]
        simp [hv]
      rw [e]
      exact relV_up hr
    · intro id bk hm _
      exact .inr ⟨id, (hmem id bk hm).1, rfl⟩
    · intro i j bi bj hi hj _ _ e
      exact hinj i j (hmem i bi hi).1 (hmem j bj hj).1 e
    · intro d s hm id hi
      obtain ⟨_, hd⟩ := initSlots_mem hm
      have : id ∈ idss args := idss_get hi (by simpa using hd)
      have := List.all_eq_true.1 hids id this
      simpa [initM] using this
    · intro id bk hm
      obtain ⟨h1, h2⟩ := hmem id bk hm
      refine ⟨h1, fun j hj => ?_, fun hr => ?_⟩
      · rw [(hp bk h2).2] at hj; cases hj
      · rw [(hp bk h2).1] at hr; cases hr
    · intro b j hs
      refine ⟨(hSlt b j hs).1, fun ⟨i, hi, e⟩ => ?_⟩
      exact (hSlt b j hs).2 i hi e
    · intro id hid
      refine ⟨rfl, H[id]'hid, (numB_plain hpl).2 ⟨Nat.zero_le _, by simp⟩, hpl _ (List.getElem_mem _)⟩
  have hpb : ∀ b ∈ H, pureF.pureFs b.segs := fun b hb => by
    obtain ⟨k, hk, rfl⟩ := List.getElem_of_mem hb
    obtain ⟨cs, h1, _⟩ := (hsat k H[k] ((numB_plain hpl).2 ⟨Nat.zero_le _, by simp⟩)).1 (hpl _ (List.getElem_mem _))
    exact pureFs_ok _ cs h1
  have := h (pureFs_vs args vs hvs) hpb ⟨w, H.length, β⟩ S rfl _ _ _ hS
  simp only [contQ, nav] at this
  refine wp_mono this fun e a w' hq => ?_
  cases e <;> simp only [FinM] at hq <;> try exact hq.elim
  all_goals
    obtain ⟨h1, v, β', h2, h3, h4, h5, h6, h7, h8⟩ := hq
    exact ⟨h1, v, h2, v, rfl, β', h3, h4, h5, h6, h7, h8⟩
def runM (P : Program) (ctr : Ctr) (body : Code) (rs : Array ResultVar) (news : List Nat) (unroll : Bool) (f : Nat) (st : List It) (σ : St) (sc : List Bool) : List It × Option MRes × List Prop × List Bool :=
  match run P ctr body unroll f st σ sc with
  | (st', σ', ob, sc') => (st', retM P rs news σ', ob, sc')
theorem hold_endM (hm : P.follows .mixedOrders = true) {ctr : Ctr} (hctr : CtrOk P ctr) {res : MRes} {news : List Nat} {unroll : Bool} {f : Nat} {st : List It} {σ : St} {sc : List Bool} {r : MRes} {ob : List Prop} {sc' : List Bool}
    (h : runM P ctr body fn.results news unroll f st σ sc = ([], some r, ob, sc')) (hob : All ob) (he : r = res) : Hold P body (FinM P fn w0 S res) w0 S st σ := by
  unfold runM at h
  cases hr : run P ctr body unroll f st σ sc with
  | mk q1 q =>
    obtain ⟨q2, q3, q4⟩ := q
    rw [hr] at h
    simp only [Prod.mk.injEq] at h
    obtain ⟨rfl, h2, rfl, rfl⟩ := h
    exact hold_run hm hctr unroll f sc hr hob (hold_finM h2 he)
end
end Go.Eng

namespace Go.Eng
open Go.RowKit
def wkB : List Bk → List Bk → Prop
  | [], l => l = []
  | a :: r, l => match l with
    | [] => False
    | b :: s => a.ty = b.ty ∧ a.row = b.row ∧ wkl a.segs b.segs ∧ wkB r s
def wkM (r s : MRes) : Prop := wkR r.res s.res ∧ wkB (r.upd ++ r.new) (s.upd ++ s.new)
section
variable {P : Program} {fn : Func} {body : Code} {w0 : Fr} {w : World} {S : Own} {σ : St} {β : Nat → Nat} {a : Act} {ow : Own}
theorem wk0_refl (s : SV) : wk0 s s := by cases s <;> simp [wk0]
theorem wka_refl : ∀ l : List SV, wka l l
  | [] => rfl
  | s :: r => ⟨wk0_refl s, wka_refl r⟩
theorem wk_refl (s : SV) : wk s s := by cases s <;> simp only [wk] <;> first | exact wka_refl _ | exact wk0_refl _
theorem wkl_refl : ∀ l : List SV, wkl l l
  | [] => rfl
  | s :: r => ⟨wk_refl s, wkl_refl r⟩
theorem wkR_refl (s : SV) : wkR s s := by cases s <;> first | (simp only [wkR]; exact wk_refl _) | (simp only [wkR]; exact wkl_refl _)
theorem wkB_refl : ∀ l : List Bk, wkB l l
  | [] => rfl
  | _ :: r => ⟨rfl, rfl, wkl_refl _, wkB_refl r⟩
theorem wkM_of {r s : MRes} (h : r = s) : wkM r s := h ▸ ⟨wkR_refl _, wkB_refl _⟩
theorem wkR_of {r s : SV} (h : r = s) : wkR r s := h ▸ wkR_refl _
theorem wkl_rels : ∀ {l m : List SV}, wkl l m → ∀ {cs : List Value}, rels β ow w l cs → rels β ow w m cs := by
  intro l
  induction l with
  | nil => intro m h cs hr; simp only [wkl] at h; subst h; exact hr
  | cons s r ih =>
    intro m h cs hr
    cases m with
    | nil => simp [wkl] at h
    | cons t q =>
      simp only [wkl] at h
      simp only [rels] at hr ⊢
      obtain ⟨c1, c2, rfl, h1, h2⟩ := hr
      exact ⟨c1, c2, rfl, wk_rel h.1 h1, ih h.2 h2⟩
theorem numB_wk : ∀ {L M : List Bk}, wkB L M → ∀ {k i : Nat}, (∀ b', (i, b') ∈ numB k M → ∃ b, (i, b) ∈ numB k L ∧ b.ty = b'.ty ∧ b.row = b'.row ∧ wkl b.segs b'.segs) ∧ (∀ b, (i, b) ∈ numB k L → ∃ b', (i, b') ∈ numB k M ∧ b.ty = b'.ty ∧ b.row = b'.row ∧ wkl b.segs b'.segs) := by
  intro L
  induction L with
  | nil => intro M h k i; simp only [wkB] at h; subst h; exact ⟨fun b' hb => by simp [numB] at hb, fun b hb => by simp [numB] at hb⟩
  | cons a r ih =>
    intro M h k i
    cases M with
    | nil => simp [wkB] at h
    | cons b s =>
      simp only [wkB] at h
      obtain ⟨h1, h2, h3, h4⟩ := h
      simp only [numB, List.mem_cons, Prod.mk.injEq]
      rw [h2]
      constructor
      · rintro b' (⟨rfl, rfl⟩ | hb)
        · exact ⟨a, .inl ⟨rfl, rfl⟩, h1, h2, h3⟩
        · obtain ⟨c, hc, e⟩ := (ih h4).1 b' hb
          exact ⟨c, .inr hc, e⟩
      · rintro b' (⟨rfl, rfl⟩ | hb)
        · exact ⟨b, .inl ⟨rfl, rfl⟩, h1, h2, h3⟩
        · obtain ⟨c, hc, e⟩ := (ih h4).2 b' hb
          exact ⟨c, .inr hc, e⟩
theorem FinQ.weaken {F : Fr} {r s : MRes} (h : FinQ P fn F S r a w) (hw : wkM r s) : FinQ P fn F S s a w := by
  obtain ⟨h1, v, β', h2, h3, h4, h5, h6, h7, h8⟩ := h
  have how : owS S (numB 0 (s.upd ++ s.new)) β' = owS S (numB 0 (r.upd ++ r.new)) β' := by
    funext b j
    apply propext
    constructor
    · rintro (hs | ⟨i, bk, hm, e, hr⟩)
      · exact .inl hs
      · obtain ⟨c, hc, _, e2, _⟩ := (numB_wk hw.2).1 bk hm
        exact .inr ⟨i, c, hc, e, by rw [e2]; exact hr⟩
    · rintro (hs | ⟨i, bk, hm, e, hr⟩)
      · exact .inl hs
      · obtain ⟨c, hc, _, e2, _⟩ := (numB_wk hw.2).2 bk hm
        exact .inr ⟨i, c, hc, e, by rw [← e2]; exact hr⟩
  have hlive : ∀ {i : Nat} {b b' : Bk}, b.row = b'.row → live β' i b' → live β' i b := fun e hl hr => hl (by rw [← e]; exact hr)
  refine ⟨h1, v, β', h2, h3, h4, ?_, ?_, ?_, ?_⟩
  · rw [how]; exact wkR_ok hw.1 h5
  · rw [how]
    intro i b' hm
    obtain ⟨c, hc, e1, e2, e3⟩ := (numB_wk hw.2).1 b' hm
    refine ⟨fun hr => ?_, fun hr hn => ?_⟩
    · obtain ⟨cs, q1, q2⟩ := (h6 i c hc).1 (by rw [e2]; exact hr)
      exact ⟨cs, wkl_rels e3 q1, by rw [← e1]; exact q2⟩
    · obtain ⟨cs, q1, q2⟩ := (h6 i c hc).2 (by rw [e2]; exact hr) hn
      exact ⟨cs, by rw [← e1]; exact q1, q2⟩
  · intro i j bi bj hi hj li lj e
    obtain ⟨c, hc, _, e2, _⟩ := (numB_wk hw.2).1 bi hi
    obtain ⟨d, hd, _, e3, _⟩ := (numB_wk hw.2).1 bj hj
    exact h7 i j c d hc hd (hlive e2 li) (hlive e3 lj) e
  · intro i bk hi hl
    obtain ⟨c, hc, _, e2, _⟩ := (numB_wk hw.2).1 bk hi
    exact h8 i c hc (hlive e2 hl)
theorem hold_endMw (hm : P.follows .mixedOrders = true) {ctr : Ctr} (hctr : CtrOk P ctr) {res : MRes} {news : List Nat} {unroll : Bool} {f : Nat} {st : List It} {σ : St} {sc : List Bool} {r : MRes} {ob : List Prop} {sc' : List Bool}
    (h : runM P ctr body fn.results news unroll f st σ sc = ([], some r, ob, sc')) (hob : All ob) (he : wkM r res) : Hold P body (FinM P fn w0 S res) w0 S st σ := by
  have h1 := hold_endM (w0 := w0) (S := S) hm hctr h hob rfl
  intro β a w hS
  have key : ∀ st e a w, contQ P body (FinM P fn w0 S r) st e a w → contQ P body (FinM P fn w0 S res) st e a w := by
    have hQ : ∀ e a w, FinM P fn w0 S r e a w → FinM P fn w0 S res e a w := by
      intro e a w hq
      cases e <;> first | exact FinQ.weaken hq he | exact hq
    intro st
    induction st with
    | nil => intro e a w h; exact hQ e a w h
    | cons x st ih =>
      intro e a w h
      cases x with
      | «at» p =>
        cases e <;> simp only [contQ] at h ⊢ <;> try exact ih _ a w h
        split at h
        · exact wp_mono h fun e a w hq => ih e a w hq
        · exact h
      | lp p =>
        cases e <;> simp only [contQ] at h ⊢ <;> try exact ih _ a w h
        split at h
        · intro I hI
          refine h I fun a w hw => hI a w (wp_mono hw fun e a w hq => ?_)
          cases e <;> simp only [Exit.then] at hq ⊢ <;> first | exact hq | exact ih _ a w hq
        · exact h
      | blk id =>
        cases e <;> simp only [contQ] at h ⊢ <;> try exact ih _ a w h
        split at h
        · rename_i e1; simp only [e1, if_true]; exact ih _ a w h
        · rename_i e1; simp only [e1, if_false]; exact ih _ a w h
  exact key st _ a w (h1 β a w hS)
theorem hold_restrict {Q : Exit → Act → World → Prop} {st : List It} {ks bs : List Nat} {nx : Nat} {σ' : St} (h : restrict ks bs nx σ = some σ') (hk : Hold P body Q w0 S st σ') : Hold P body Q w0 S st σ :=
  fun β a w hS => hk β a w (Sat.restrict h hS)
end
end Go.Eng

namespace Go.Eng
open Go.RowKit
def outB (blks : List (Nat × Bk)) : List Nat → Option (List (Nat × Bk))
  | [] => some []
  | id :: r => match getR blks id, outB blks r with
    | some b, some l => if (idss b.segs).isEmpty then some ((id, b) :: l) else none
    | _, _ => none
def wid (b : Bk) : Nat := if b.row then 3 else 1
def mapN : Nat → List (Nat × Bk) → Nat → Nat
  | _, [], i => i
  | k, (id, b) :: r, i => if i < k + wid b then id + (i - k) else mapN (k + wid b) r i
def numOf (id : Nat) : Nat → List (Nat × Bk) → Option Nat
  | _, [] => none
  | k, (j, b) :: r => if j = id then some k else numOf id (k + wid b) r
def isRow (L : List (Nat × Bk)) (id : Nat) : Bool := match getR L id with | some b => b.row | none => false
def viewN (L : List (Nat × Bk)) (blks : List (Nat × Bk)) (s : SV) : Option SV :=
  if s.ids.isEmpty && !s.isTup then some s else match s with
  | .row id s0 => (match numOf id 0 L with
    | some k => if s0.ids.isEmpty && isRow L id then some (.row k s0) else none
    | none => if s0.ids.isEmpty && !s0.isTup && !s0.isAgg then some s0 else none)
  | .osl id n es => (match numOf id 0 L with
    | some k => some (.osl k n es)
    | none => match deepV (restB (L.map (·.1)) blks) 80 (.osl id n es) with | some r => if r.ids.isEmpty then some r else none | none => none)
  | .ptr id 0 (.c 0) => (match numOf id 0 L with | some k => some (.ptr k 0 (.c 0)) | none => none)
  | s => match deepV (restB (L.map (·.1)) blks) 80 s with | some r => if r.ids.isEmpty then some r else none | none => none
def retOneN (P : Program) (vw : SV → Option SV) (σ : St) (r : ResultVar) : Option SV :=
  match r with
  | .tmp t => match getS σ.slots t with | some s => vw s | none => none
  | .cell ad t => match getS σ.slots ad, aggT P t, szT P t with
    | some (.ptr id off ix), some agg, some size => match getB σ.blks id with
      | some bk => match loadB bk agg size off ix with
        | some (s, []) => vw s
        | _ => none
      | none => none
    | _, _, _ => none
def retAllN (P : Program) (vw : SV → Option SV) (σ : St) : List ResultVar → Option (List SV)
  | [] => some []
  | r :: l => match retOneN P vw σ r, retAllN P vw σ l with
    | some s, some t => some (s :: t)
    | _, _ => none
def retN (P : Program) (rs : Array ResultVar) (news : List Nat) (σ : St) : Option MRes :=
  match outB σ.blks (outIds σ.m news) with
  | some L => match retAllN P (viewN L σ.blks) σ rs.toList with
    | some l => if (outIds σ.m news).Nodup then some ⟨joinR l, (L.map (·.2)).take σ.m, (L.map (·.2)).drop σ.m⟩ else none
    | none => none
  | none => none
section
variable {P : Program} {fn : Func} {body : Code} {w0 : Fr} {w : World} {S : Own} {σ : St} {β : Nat → Nat} {a : Act}
theorem outB_ok {blks : List (Nat × Bk)} : ∀ {ids : List Nat} {L : List (Nat × Bk)}, outB blks ids = some L → L.map (·.1) = ids ∧ ∀ id b, (id, b) ∈ L → (id, b) ∈ blks ∧ idss b.segs = [] := by
  intro ids
  induction ids with
  | nil => intro L h; simp only [outB] at h; cases h; exact ⟨rfl, fun _ _ h => by cases h⟩
  | cons id ids ih =>
    intro L h
    simp only [outB] at h
    split at h
    · rename_i b l hb hl
      split at h
      · rename_i he
        cases h
        obtain ⟨h1, h2⟩ := ih hl
        refine ⟨by simp [h1], fun i c hm => ?_⟩
        rcases List.mem_cons.1 hm with e | hm
        · cases e; exact ⟨getR_mem hb, by simpa using he⟩
        · exact h2 i c hm
      · cases h
    · cases h
theorem numB_cons {k : Nat} {b : Bk} {r : List Bk} : numB k (b :: r) = (k, b) :: numB (k + wid b) r := rfl
theorem wid_pos (b : Bk) : 0 < wid b := by unfold wid; split <;> omega
theorem wid_row {b : Bk} (h : b.row = true) : wid b = 3 := by unfold wid; rw [if_pos h]
theorem mapN_ok : ∀ {L : List (Nat × Bk)} {k i : Nat} {b : Bk}, (i, b) ∈ numB k (L.map (·.2)) →
    ∃ id, (id, b) ∈ L ∧ mapN k L i = id ∧ (b.row = true → mapN k L (i + 1) = id + 1 ∧ mapN k L (i + 2) = id + 2) := by
  intro L
  induction L with
  | nil => intro k i b h; simp [numB] at h
  | cons p r ih =>
    obtain ⟨id, c⟩ := p
    intro k i b h
    simp only [List.map_cons, numB_cons] at h
    rcases List.mem_cons.1 h with e | h
    · cases e
      have := wid_pos c
      refine ⟨id, by simp, ?_, fun hr => ?_⟩
      · simp only [mapN]; rw [if_pos (by omega)]; omega
      · have := wid_row hr
        simp only [mapN]
        rw [if_pos (by omega), if_pos (by omega)]
        omega
    · obtain ⟨id', h1, h2, h3⟩ := ih h
      have hge := (numB_bound h).1
      refine ⟨id', List.mem_cons_of_mem _ h1, ?_, fun hr => ?_⟩
      · simp only [mapN]; rw [if_neg (by omega)]; exact h2
      · simp only [mapN]; rw [if_neg (by omega), if_neg (by omega)]; exact h3 hr
theorem mapN_inj : ∀ {L : List (Nat × Bk)} {k i j : Nat} {bi bj : Bk}, (L.map (·.1)).Nodup → (i, bi) ∈ numB k (L.map (·.2)) → (j, bj) ∈ numB k (L.map (·.2)) → mapN k L i = mapN k L j → i = j := by
  intro L
  induction L with
  | nil => intro k i j bi bj _ h; simp [numB] at h
  | cons p r ih =>
    obtain ⟨id, c⟩ := p
    intro k i j bi bj hn hi hj e
    simp only [List.map_cons, List.nodup_cons] at hn
    simp only [List.map_cons, numB_cons] at hi hj
    have hp := wid_pos c
    have head : mapN k ((id, c) :: r) k = id := by simp only [mapN]; rw [if_pos (by omega)]; omega
    have tail : ∀ {x : Nat} {b : Bk}, (x, b) ∈ numB (k + wid c) (r.map (·.2)) → mapN k ((id, c) :: r) x = mapN (k + wid c) r x ∧ mapN (k + wid c) r x ∈ r.map (·.1) := by
      intro x b hx
      have hge := (numB_bound hx).1
      obtain ⟨id', h1, h2, _⟩ := mapN_ok hx
      refine ⟨by simp only [mapN]; rw [if_neg (by omega)], ?_⟩
      rw [h2]
      exact List.mem_map.2 ⟨_, h1, rfl⟩
    rcases List.mem_cons.1 hi with e1 | hi
    · cases e1
      rcases List.mem_cons.1 hj with e2 | hj
      · cases e2; rfl
      · obtain ⟨t1, t2⟩ := tail hj
        rw [head, t1] at e
        rw [← e] at t2
        exact absurd t2 hn.1
    · obtain ⟨s1, s2⟩ := tail hi
      rcases List.mem_cons.1 hj with e2 | hj
      · cases e2
        rw [head, s1] at e
        rw [e] at s2
        exact absurd s2 hn.1
      · obtain ⟨t1, t2⟩ := tail hj
        rw [s1, t1] at e
        exact ih hn.2 hi hj e
theorem numOf_ok {id : Nat} : ∀ {L : List (Nat × Bk)} {k n : Nat}, numOf id k L = some n → ∃ b, (n, b) ∈ numB k (L.map (·.2)) ∧ (id, b) ∈ L ∧ mapN k L n = id ∧ (b.row = true → mapN k L (n + 1) = id + 1 ∧ mapN k L (n + 2) = id + 2) := by
  intro L
  induction L with
  | nil => intro k n h; simp [numOf] at h
  | cons p r ih =>
    obtain ⟨j, c⟩ := p
    intro k n h
    simp only [numOf] at h
    have hp := wid_pos c
    split at h
    · rename_i e
      cases h
      subst e
      refine ⟨c, by simp [numB_cons], by simp, ?_, fun hr => ?_⟩
      · simp only [mapN]; rw [if_pos (by omega)]; omega
      · have := wid_row hr
        simp only [mapN]
        rw [if_pos (by omega), if_pos (by omega)]
        omega
    · obtain ⟨b, h1, h2, h3, h4⟩ := ih h
      have hge := (numB_bound h1).1
      refine ⟨b, by simp only [List.map_cons, numB_cons]; exact List.mem_cons_of_mem _ h1, List.mem_cons_of_mem _ h2, ?_, fun hr => ?_⟩
      · simp only [mapN]; rw [if_neg (by omega)]; exact h3
      · simp only [mapN]; rw [if_neg (by omega), if_neg (by omega)]; exact h4 hr
theorem mapN_low : ∀ {i n k : Nat} {L : List (Nat × Bk)}, (∀ i, i < n → ∃ b, L[i]? = some (k + i, b) ∧ b.row = false) → i < n → mapN k L (k + i) = k + i ∧ ∃ b, (k + i, b) ∈ numB k (L.map (·.2)) := by
  intro i
  induction i with
  | zero =>
    intro n k L h hi
    obtain ⟨b, hb, hr⟩ := h 0 hi
    cases L with
    | nil => simp at hb
    | cons p r =>
      simp at hb
      subst hb
      have := wid_pos b
      refine ⟨?_, b, by simp [numB_cons]⟩
      simp only [mapN, Nat.add_zero]
      rw [if_pos (by omega)]
      omega
  | succ i ih =>
    intro n k L h hi
    obtain ⟨b, hb, hr⟩ := h 0 (by omega)
    cases L with
    | nil => simp at hb
    | cons p r =>
      simp at hb
      subst hb
      have hw : wid b = 1 := by unfold wid; rw [hr]; rfl
      obtain ⟨h1, c, h2⟩ := ih (n := n - 1) (k := k + 1) (L := r) (fun j hj => by
        obtain ⟨c, hc, hcr⟩ := h (j + 1) (by omega)
        exact ⟨c, by simpa [Nat.add_assoc, Nat.add_comm 1 j] using hc, hcr⟩) (by omega)
      rw [show k + 1 + i = k + (i + 1) by omega] at h1 h2
      refine ⟨?_, c, ?_⟩
      · simp only [mapN]
        rw [if_neg (by omega), hw]
        exact h1
      · simp only [List.map_cons, numB_cons, hw]
        exact List.mem_cons_of_mem _ h2
theorem retOneN_ok (hS : Sat w0 S σ β a w) {vw : SV → Option SV} {β' : Nat → Nat} {ow' : Own} (hvw : ∀ s r v, vw s = some r → relV β (owS S σ.blks β) w s v → relV1 β' ow' w r v) {r : ResultVar} {s : SV} (h : retOneN P vw σ r = some s) :
    ∃ v, (resF a.tmps r).run P w = .ok v w ∧ relV1 β' ow' w s v := by
  cases r with
  | tmp t =>
    simp only [retOneN] at h
    split at h
    · rename_i s' hs
      exact ⟨_, rfl, hvw _ _ _ h (hS.slot t s' (getS_mem hs))⟩
    · cases h
  | cell ad t =>
    simp only [retOneN] at h
    split at h
    · rename_i id off ix agg size hs ha hsz
      split at h
      · rename_i bk hg
        split at h
        · rename_i s' hl
          have h1 := relV_scalar rfl rfl (hS.slot ad _ (getS_mem hs))
          simp only [rel, List.cons.injEq, and_true] at h1
          obtain ⟨cs, hr, hb⟩ := (hS.blk id bk (getB_both hg).1).1 (getB_both hg).2
          obtain ⟨v, hrun, hv⟩ := loadB_ok (P := P) hl trivial ha hsz hr hb
          refine ⟨v, ?_, hvw _ _ _ h hv⟩
          simp only [Instr.loadAt, Instr.sureAddr, Sem.run_bind, Sem.run_pure, Result.andThen_ok] at hrun
          simp only [resF, h1, asAddr, Sem.run_bind, Sem.run_pure, Result.andThen_ok]
          exact hrun
        · cases h
      · cases h
    · cases h
theorem retAllN_ok (hS : Sat w0 S σ β a w) {vw : SV → Option SV} {β' : Nat → Nat} {ow' : Own} (hvw : ∀ s r v, vw s = some r → relV β (owS S σ.blks β) w s v → relV1 β' ow' w r v) : ∀ {rs : List ResultVar} {l : List SV}, retAllN P vw σ rs = some l →
    ∃ vs, (rs.mapM (resF a.tmps)).run P w = .ok vs w ∧ relVs β' ow' w l vs ∧ vs.length = rs.length := by
  intro rs
  induction rs with
  | nil => intro l h; simp only [retAllN] at h; cases h; exact ⟨[], by simp, rfl, rfl⟩
  | cons r rs ih =>
    intro l h
    simp only [retAllN] at h
    split at h
    · rename_i s t h1 h2
      cases h
      obtain ⟨v, hv, hr⟩ := retOneN_ok hS hvw h1
      obtain ⟨vs, hvs, hrs, hlen⟩ := ih h2
      refine ⟨v :: vs, ?_, ⟨v, vs, rfl, hr, hrs⟩, by simp [hlen]⟩
      rw [List.mapM_cons, Sem.run_bind, hv]
      simp only [Result.andThen_ok, Sem.run_bind, hvs, Sem.run_pure]
    · cases h
theorem hold_finN {res r : MRes} {news : List Nat} (h : retN P fn.results news σ = some r) (he : r = res) : Hold P body (FinM P fn w0 S res) w0 S [] σ := by
  intro β a w hS
  subst he
  unfold retN at h
  split at h
  · rename_i L hL
    split at h
    · rename_i l hl
      split at h
      · rename_i hnd
        cases h
        have hm : σ.m = w0.m := hS.pins.1
        obtain ⟨hLids, hLmem⟩ := outB_ok hL
        have hnd' : (L.map (·.1)).Nodup := by rw [hLids]; exact hnd
        generalize hbs : L.map (·.2) = bs at *
        have htd : bs.take σ.m ++ bs.drop σ.m = bs := List.take_append_drop _ _
        let β' : Nat → Nat := fun k => β (mapN 0 L k)
        have hof : ∀ k b, (k, b) ∈ numB 0 bs → ∃ id, (id, b) ∈ L ∧ β' k = β id ∧ (b.row = true → β' (k + 1) = β (id + 1) ∧ β' (k + 2) = β (id + 2)) ∧ mapN 0 L k = id := by
          intro k b hk
          rw [← hbs] at hk
          obtain ⟨id, h1, h2, h3⟩ := mapN_ok hk
          exact ⟨id, h1, by show β (mapN 0 L k) = _; rw [h2], fun hr => ⟨by show β (mapN 0 L (k + 1)) = _; rw [(h3 hr).1], by show β (mapN 0 L (k + 2)) = _; rw [(h3 hr).2]⟩, h2⟩
        have hlow : ∀ i, i < w0.m → ∃ b, L[i]? = some (0 + i, b) ∧ b.row = false := by
          intro i hi
          have h1 := out_low (news := news) (by rw [hm]; exact hi : i < σ.m)
          rw [← hLids, List.getElem?_map] at h1
          obtain ⟨⟨j, b⟩, h2, h3⟩ := Option.map_eq_some_iff.1 h1
          simp only at h3
          subst h3
          obtain ⟨_, bk, hm2, hr2⟩ := hS.pins.2 j hi
          have := nodup_fst hS.uniq hm2 (hLmem j b (List.mem_of_getElem? h2)).1
          exact ⟨b, by simpa using h2, by rw [← this]; exact hr2⟩
        have hlive : ∀ {k id : Nat} {b : Bk}, (b.row = true → β' (k + 1) = β (id + 1) ∧ β' (k + 2) = β (id + 2)) → live β' k b → live β id b := fun h1 h2 hr => by rw [← (h1 hr).1]; exact h2 hr
        have hsub : ∀ b j, owS S (numB 0 bs) β' b j → owS S σ.blks β b j := by
          rintro b j (hs | ⟨k, bk, hk, e, hr⟩)
          · exact .inl hs
          · obtain ⟨id, h1, h2, h3, _⟩ := hof k bk hk
            refine .inr ⟨id, bk, (hLmem id bk h1).1, by rw [← h2]; exact e, fun h => ?_⟩
            obtain ⟨e1, e2⟩ := h3 h
            rw [← e1, ← e2]
            exact hr h
        have hdeep : ∀ (s r : SV) (v : Value), deepV (restB (L.map (·.1)) σ.blks) 80 s = some r → r.ids.isEmpty = true → relV β (owS S σ.blks β) w s v → relV1 β' (owS S (numB 0 bs) β') w r v := by
          intro s r' v hd hids hv
          have ht : s.isTup = false := by
            cases s <;> first | rfl | (rw [deepV_tup] at hd; cases hd)
          obtain ⟨cs, h1, rfl⟩ := relV_one ht hv
          have hrest : HSat β (owS S σ.blks β) w (restB (L.map (·.1)) σ.blks) := fun id bk hm => hS.blk id bk (List.mem_filter.1 hm).1
          obtain ⟨h2, h3⟩ := (deep_ok hrest (S := owS S (numB 0 bs) β') hsub (fun id bk hg j hs => by
            obtain ⟨hgm, hout⟩ := List.mem_filter.1 (getB_mem hg)
            have hlv := live_plain (β := β) (id := id) (getB_both hg).2
            rcases hs with hs | ⟨k, bk', hk, e, hrr⟩
            · have h1 := hS.lowS _ _ hs
              rcases hS.low id _ hgm hlv with h2 | h2
              · omega
              · exact h1.2 h2
            · obtain ⟨id', h4, h5, h6, _⟩ := hof k bk' hk
              rw [h5] at e
              have := hS.inj id' id _ _ (hLmem id' bk' h4).1 hgm (hlive h6 fun hr => (hrr hr).1) hlv e
              subst this
              simp only [Bool.not_eq_true', List.contains_eq_mem, decide_eq_false_iff_not] at hout
              exact hout (List.mem_map.2 ⟨_, h4, rfl⟩)) 80).1 hd h1
          exact ⟨cs, rel_mono (fun _ _ _ h => h) (Keep.refl _ _) _ _ (fun id hid => by rw [List.isEmpty_iff.1 hids] at hid; cases hid) h2, by rw [h3]⟩
        have hvw : ∀ s r v, viewN L σ.blks s = some r → relV β (owS S σ.blks β) w s v → relV1 β' (owS S (numB 0 bs) β') w r v := by
          intro s r v h hv
          unfold viewN at h
          split at h
          · rename_i hc
            simp only [Bool.and_eq_true, List.isEmpty_iff, Bool.not_eq_true'] at hc
            cases h
            exact relV1_mono (fun b j _ h => hsub b j h) (Keep.refl _ _) (fun id hid => by rw [hc.1] at hid; cases hid) (relV_one hc.2 hv)
          · split at h
            · rename_i id s0 _
              have h1 := relV_scalar rfl rfl hv
              split at h
              · rename_i k hk
                split at h
                · rename_i hcc
                  cases h
                  obtain ⟨hids, hrw⟩ := Bool.and_eq_true_iff.1 hcc
                  obtain ⟨b, hb1, hb2, hb3, hb4⟩ := numOf_ok hk
                  simp only [rel] at h1
                  obtain ⟨hr, n, hsl, hvv, hn, hz⟩ := h1
                  have hrow : b.row = true := by
                    unfold isRow at hrw
                    split at hrw
                    · rename_i b2 hg2
                      have := nodup_fst hnd' hb2 (getR_mem hg2)
                      rw [this]; exact hrw
                    · cases hrw
                  obtain ⟨e1, e2⟩ := hb4 hrow
                  have f0 : β' k = β id := by show β (mapN 0 L k) = _; rw [hb3]
                  have f1 : β' (k + 1) = β (id + 1) := by show β (mapN 0 L (k + 1)) = _; rw [e1]
                  have f2 : β' (k + 2) = β (id + 2) := by show β (mapN 0 L (k + 2)) = _; rw [e2]
                  refine ⟨[v], ?_, rfl⟩
                  simp only [rel]
                  exact ⟨rel_mono (fun b j _ h => hsub b j h) (Keep.refl _ _) _ _ (fun i hi => by rw [List.isEmpty_iff.1 hids] at hi; cases hi) hr, n, hsl, by rw [f0, f1]; exact hvv, by rw [f2]; exact hn, by rw [f1]; exact hz⟩
                · cases h
              · split at h
                · rename_i hc
                  simp only [Bool.and_eq_true, List.isEmpty_iff, Bool.not_eq_true'] at hc
                  cases h
                  simp only [rel] at h1
                  exact ⟨[v], rel_mono (fun b j _ h => hsub b j h) (Keep.refl _ _) _ _ (fun i hi => by rw [hc.1.1] at hi; cases hi) h1.1, by rw [hc.2]; rfl⟩
                · cases h
            · rename_i id n es _
              split at h
              · rename_i k hk
                cases h
                obtain ⟨b, hb1, hb2, hb3, hb4⟩ := numOf_ok hk
                have h1 := relV_scalar rfl rfl hv
                simp only [rel, List.cons.injEq, and_true] at h1
                subst h1
                have f0 : β' k = β id := by show β (mapN 0 L k) = _; rw [hb3]
                exact ⟨_, by simp only [rel]; rfl, by rw [f0]; rfl⟩
              · split at h
                · rename_i r' hd
                  split at h
                  · rename_i hids; cases h; exact hdeep _ _ _ hd hids hv
                  · cases h
                · cases h
            · rename_i id _
              split at h
              · rename_i k hk
                cases h
                obtain ⟨b, hb1, hb2, hb3, hb4⟩ := numOf_ok hk
                have h1 := relV_scalar rfl rfl hv
                simp only [rel, List.cons.injEq, and_true] at h1
                subst h1
                have f0 : β' k = β id := by show β (mapN 0 L k) = _; rw [hb3]
                exact ⟨_, by simp only [rel]; rfl, by rw [f0]; rfl⟩
              · cases h
            · split at h
              · rename_i r' hd
                split at h
                · rename_i hids; cases h; exact hdeep _ _ _ hd hids hv
                · cases h
              · cases h
        obtain ⟨vs, hvs, hrs, _⟩ := retAllN_ok hS hvw hl
        obtain ⟨v, hv, hr⟩ := joined rfl hvs hrs
        refine ⟨hS.defs, v, β', hv, fun i hi => ?_, hS.ext, ?_, ?_, ?_, ?_⟩
        · have h1 := (mapN_low (L := L) (k := 0) hlow hi).1
          simp only [Nat.zero_add] at h1
          show β (mapN 0 L i) = _
          rw [h1]
          exact (hS.pins.2 i hi).1
        · simpa only [htd] using hr
        · simp only [htd]
          intro k bk hk
          obtain ⟨id, h1, h2, h3, _⟩ := hof k bk hk
          obtain ⟨hmem, hids⟩ := hLmem id bk h1
          refine ⟨fun hrw => ?_, fun hrw hn => ?_⟩
          · obtain ⟨cs, h4, h5⟩ := (hS.blk id bk hmem).1 hrw
            exact ⟨cs, rels_mono (fun b j _ h => hsub b j h) (Keep.refl _ _) _ _ (fun i hi => by rw [hids] at hi; cases hi) h4, by rw [h2]; exact h5⟩
          · obtain ⟨e1, e2⟩ := h3 hrw
            rw [e1] at hn
            obtain ⟨cs, h4, h5⟩ := (hS.blk id bk hmem).2 hrw hn
            exact ⟨cs, by rw [h2]; exact h4, by rw [e1, e2]; exact h5⟩
        · simp only [htd]
          intro i j bi bj hi hj li lj e
          obtain ⟨id1, a1, a2, a3, a4⟩ := hof i bi hi
          obtain ⟨id2, b1, b2, b3, b4⟩ := hof j bj hj
          rw [a2, b2] at e
          have := hS.inj id1 id2 _ _ (hLmem _ _ a1).1 (hLmem _ _ b1).1 (hlive a3 li) (hlive b3 lj) e
          rw [← hbs] at hi hj
          exact mapN_inj hnd' hi hj (by rw [a4, b4, this])
        · simp only [htd]
          intro i bk hi hlv
          rcases Nat.lt_or_ge i w0.m with hl | hge
          · exact .inl hl
          · right
            obtain ⟨id, a1, a2, a3, a4⟩ := hof i bk hi
            rw [a2]
            rcases hS.low id bk (hLmem _ _ a1).1 (hlive a3 hlv) with h1 | ⟨i', hi', e⟩
            · exact h1
            · exfalso
              obtain ⟨e2, b2, hm2, hr2⟩ := hS.pins.2 i' hi'
              have hid := hS.inj i' id _ _ hm2 (hLmem _ _ a1).1 (live_plain hr2) (hlive a3 hlv) (by rw [e2, e])
              obtain ⟨q1, c, q2⟩ := mapN_low (L := L) (k := 0) hlow hi'
              simp only [Nat.zero_add] at q1 q2
              rw [← hbs] at hi
              have := mapN_inj hnd' hi q2 (by rw [a4, q1, hid])
              omega
      · cases h
    · cases h
  · cases h
def runN (P : Program) (ctr : Ctr) (body : Code) (rs : Array ResultVar) (news : List Nat) (unroll : Bool) (f : Nat) (st : List It) (σ : St) (sc : List Bool) : List It × Option MRes × List Prop × List Bool :=
  match run P ctr body unroll f st σ sc with
  | (st', σ', ob, sc') => (st', retN P rs news σ', ob, sc')
theorem hold_endN (hm : P.follows .mixedOrders = true) {ctr : Ctr} (hctr : CtrOk P ctr) {res : MRes} {news : List Nat} {unroll : Bool} {f : Nat} {st : List It} {σ : St} {sc : List Bool} {r : MRes} {ob : List Prop} {sc' : List Bool}
    (h : runN P ctr body fn.results news unroll f st σ sc = ([], some r, ob, sc')) (hob : All ob) (he : r = res) : Hold P body (FinM P fn w0 S res) w0 S st σ := by
  unfold runN at h
  cases hr : run P ctr body unroll f st σ sc with
  | mk q1 q =>
    obtain ⟨q2, q3, q4⟩ := q
    rw [hr] at h
    simp only [Prod.mk.injEq] at h
    obtain ⟨rfl, h2, rfl, rfl⟩ := h
    exact hold_run hm hctr unroll f sc hr hob (hold_finN h2 he)
theorem FinM.wk {r s : MRes} (he : wkM r s) {st : List It} (h1 : Hold P body (FinM P fn w0 S r) w0 S st σ) : Hold P body (FinM P fn w0 S s) w0 S st σ := by
  intro β a w hS
  have key : ∀ st e a w, contQ P body (FinM P fn w0 S r) st e a w → contQ P body (FinM P fn w0 S s) st e a w := by
    have hQ : ∀ e a w, FinM P fn w0 S r e a w → FinM P fn w0 S s e a w := by
      intro e a w hq
      cases e <;> first | exact FinQ.weaken hq he | exact hq
    intro st
    induction st with
    | nil => intro e a w h; exact hQ e a w h
    | cons x st ih =>
      intro e a w h
      cases x with
      | «at» p =>
        cases e <;> simp only [contQ] at h ⊢ <;> try exact ih _ a w h
        split at h
        · exact wp_mono h fun e a w hq => ih e a w hq
        · exact h
      | lp p =>
        cases e <;> simp only [contQ] at h ⊢ <;> try exact ih _ a w h
        split at h
        · intro I hI
          refine h I fun a w hw => hI a w (wp_mono hw fun e a w hq => ?_)
          cases e <;> simp only [Exit.then] at hq ⊢ <;> first | exact hq | exact ih _ a w hq
        · exact h
      | blk id =>
        cases e <;> simp only [contQ] at h ⊢ <;> try exact ih _ a w h
        split at h
        · rename_i e1; simp only [e1, if_true]; exact ih _ a w h
        · rename_i e1; simp only [e1, if_false]; exact ih _ a w h
  exact key st _ a w (h1 β a w hS)
theorem hold_endNw (hm : P.follows .mixedOrders = true) {ctr : Ctr} (hctr : CtrOk P ctr) {res : MRes} {news : List Nat} {unroll : Bool} {f : Nat} {st : List It} {σ : St} {sc : List Bool} {r : MRes} {ob : List Prop} {sc' : List Bool}
    (h : runN P ctr body fn.results news unroll f st σ sc = ([], some r, ob, sc')) (hob : All ob) (he : wkM r res) : Hold P body (FinM P fn w0 S res) w0 S st σ :=
  FinM.wk he (hold_endN hm hctr h hob rfl)
theorem Invokes.mono {f : FuncId} {vs : List Value} {Φ Ψ : Value → World → Prop} (h : Invokes P f vs w Φ) (hm : ∀ v w', Φ v w' → Ψ v w') : Invokes P f vs w Ψ := by
  revert h
  unfold Invokes
  split <;> intro h
  · exact hm _ _ h
  · exact h.mono fun e w'' ⟨v, e1, hp⟩ => ⟨v, e1, hm _ _ hp⟩
  · exact h.elim
def runO (P : Program) (ctr : Ctr) (body : Code) (rs : Array ResultVar) (news : List Nat) (t : Nat) (unroll : Bool) (f : Nat) (st : List It) (σ : St) (sc : List Bool) : List It × Option MRes × List Prop × List Bool :=
  match run P ctr body unroll f st σ sc with
  | (st', σ', ob, sc') => match Eng.oslRow σ' (.tmp t) with
    | some σ2 => (st', retN P rs news σ2, ob, sc')
    | none => (st', none, ob, sc')
theorem hold_osl {Q : Exit → Act → World → Prop} {st : List It} {t : Nat} {σ' : St} (h : Eng.oslRow σ (.tmp t) = some σ') (hk : Hold P body Q w0 S st σ') : Hold P body Q w0 S st σ := by
  intro β a w hS
  obtain ⟨β', hS'⟩ := hS.oslRow h
  exact hk _ _ _ hS'
theorem hold_endOw (hm : P.follows .mixedOrders = true) {ctr : Ctr} (hctr : CtrOk P ctr) {res : MRes} {news : List Nat} {t : Nat} {unroll : Bool} {f : Nat} {st : List It} {σ : St} {sc : List Bool} {r : MRes} {ob : List Prop} {sc' : List Bool}
    (h : runO P ctr body fn.results news t unroll f st σ sc = ([], some r, ob, sc')) (hob : All ob) (he : wkM r res) : Hold P body (FinM P fn w0 S res) w0 S st σ := by
  unfold runO at h
  cases hr : run P ctr body unroll f st σ sc with
  | mk q1 q =>
    obtain ⟨q2, q3, q4⟩ := q
    rw [hr] at h
    simp only at h
    split at h
    · rename_i σ2 ho
      simp only [Prod.mk.injEq] at h
      obtain ⟨rfl, h2, rfl, rfl⟩ := h
      exact FinM.wk he (hold_run hm hctr unroll f sc hr hob (hold_osl ho (hold_finN h2 rfl)))
    · simp at h
theorem ContractM.plain {f : FuncId} {args : List SV} {s : SV} {ty : TypeId} (h : ContractM P f [] args ⟨.row 0 s, [], [⟨ty, [], true⟩]⟩) (hids : s.ids = []) (ha : s.isAgg = false) (_ : s.isTup = false) (_ : idss args = []) : Contract P f args s := by
  intro w S vs hSlt hvs
  have h1 := h w S (fun _ => 0) vs (fun b j hs => ⟨hSlt b j hs, fun i hi => absurd hi (Nat.not_lt_zero _)⟩) (fun _ h => by cases h) (fun _ _ h => by simp [numB] at h) (fun _ _ h => absurd h (Nat.not_lt_zero _))
    (relVs_mono (fun b j _ h => h.elim id fun ⟨_, _, hm, _⟩ => by simp [numB] at hm) (Keep.refl _ _) _ _ (fun _ _ => rfl) hvs)
  refine Invokes.mono h1 ?_
  rintro v w' ⟨β', _, hb, hv, _⟩
  refine ⟨?_, ?_⟩
  · exact Bel.below (w := w) ⟨hb.os, hb.tape, hb.output, hb.size, fun k hk _ => hb.block k hk fun ⟨i, hi, _⟩ => absurd hi (Nat.not_lt_zero _)⟩
  · have h2 := relV_scalar rfl rfl hv
    simp only [rel] at h2
    have h3 := rel_mono (β' := fun _ => 0) (ow' := S) (fun b j _ h => .inl h) (Keep.refl _ _) s _ (fun id hid => by rw [hids] at hid; cases hid) h2.1
    exact relV_of1 ha h3
end
end Go.Eng

namespace Go.Eng
open Go.RowKit
def delB : List (Nat × Bk) → Nat → List (Nat × Bk)
  | [], _ => []
  | p :: r, t => if p.1 = t then delB r t else p :: delB r t
def frzSl (id : Nat) (s : SV) : List (Nat × SV) → List (Nat × SV)
  | [] => []
  | p :: r => match p.2 with
    | .ptr i 0 (.c 0) => if i = id then (p.1, .rp s) :: frzSl id s r else p :: frzSl id s r
    | .ptr i _ _ => if i = id then frzSl id s r else p :: frzSl id s r
    | _ => if p.2.ids.all (fun i => decide (i ≠ id)) then p :: frzSl id s r else frzSl id s r
def frz (σ : St) (id : Nat) : Option St :=
  match getB σ.blks id with
  | some bk => if 0 < SV.size.sizes bk.segs ∧ (idss bk.segs).isEmpty = true ∧ σ.m ≤ id then some { σ with slots := frzSl id (joinS bk.segs) σ.slots, blks := delB σ.blks id } else none
  | none => none
theorem mem_delB {l : List (Nat × Bk)} {t d : Nat} {s : Bk} (h : (d, s) ∈ delB l t) : (d, s) ∈ l ∧ d ≠ t := by
  induction l with
  | nil => simp [delB] at h
  | cons p r ih =>
    simp only [delB] at h
    split at h
    · have := ih h; exact ⟨List.mem_cons_of_mem _ this.1, this.2⟩
    · rename_i hne
      rcases List.mem_cons.1 h with e | h
      · subst e; exact ⟨by simp, hne⟩
      · have := ih h; exact ⟨List.mem_cons_of_mem _ this.1, this.2⟩
theorem mem_delB_of {l : List (Nat × Bk)} {t d : Nat} {s : Bk} (h : (d, s) ∈ l) (hne : d ≠ t) : (d, s) ∈ delB l t := by
  induction l with
  | nil => cases h
  | cons p r ih =>
    simp only [delB]
    rcases List.mem_cons.1 h with e | h
    · subst e; simp [hne]
    · split
      · exact ih h
      · exact List.mem_cons_of_mem _ (ih h)
theorem delB_sub {l : List (Nat × Bk)} {t : Nat} : ((delB l t).map (·.1)).Sublist (l.map (·.1)) := by
  induction l with
  | nil => exact List.Sublist.refl _
  | cons p r ih =>
    simp only [delB]
    split
    · exact ih.trans (List.sublist_cons_self _ _)
    · exact ih.cons_cons _
theorem frzSl_mem {id : Nat} {s : SV} : ∀ {l : List (Nat × SV)} {d : Nat} {t : SV}, (d, t) ∈ frzSl id s l → ((d, t) ∈ l ∧ (∀ i ∈ t.ids, i ≠ id)) ∨ (t = .rp s ∧ (d, .ptr id 0 (.c 0)) ∈ l) := by
  intro l
  induction l with
  | nil => intro d t h; simp [frzSl] at h
  | cons p r ih =>
    intro d t h
    have up : (((d, t) ∈ r ∧ (∀ i ∈ t.ids, i ≠ id)) ∨ (t = .rp s ∧ (d, SV.ptr id 0 (.c 0)) ∈ r)) → (((d, t) ∈ p :: r ∧ (∀ i ∈ t.ids, i ≠ id)) ∨ (t = .rp s ∧ (d, SV.ptr id 0 (.c 0)) ∈ p :: r)) := by
      rintro (⟨h1, h2⟩ | ⟨h1, h2⟩)
      · exact .inl ⟨List.mem_cons_of_mem _ h1, h2⟩
      · exact .inr ⟨h1, List.mem_cons_of_mem _ h2⟩
    obtain ⟨e, q⟩ := p
    simp only [frzSl] at h
    split at h
    · split at h
      · rename_i hi
        subst hi
        rcases List.mem_cons.1 h with e1 | h
        · cases e1; exact .inr ⟨rfl, by simp⟩
        · exact up (ih h)
      · rename_i hi
        rcases List.mem_cons.1 h with e1 | h
        · cases e1; exact .inl ⟨by simp, by intro j hj; simp [SV.ids] at hj; subst hj; exact hi⟩
        · exact up (ih h)
    · split at h
      · exact up (ih h)
      · rename_i hi
        rcases List.mem_cons.1 h with e1 | h
        · cases e1; exact .inl ⟨by simp, by intro j hj; simp [SV.ids] at hj; subst hj; exact hi⟩
        · exact up (ih h)
    · split at h
      · rename_i hall
        rcases List.mem_cons.1 h with e1 | h
        · cases e1; exact .inl ⟨by simp, fun i hi => by have := List.all_eq_true.1 hall i hi; simpa using this⟩
        · exact up (ih h)
      · exact up (ih h)
section
variable {P : Program} {body : Code} {w0 : Fr} {w : World} {S : Own} {σ : St} {β : Nat → Nat} {a : Act}
theorem Sat.freeze {id : Nat} {σ' : St} (h : frz σ id = some σ') (hS : Sat w0 S σ β a w) : Sat w0 S σ' β a w := by
  unfold frz at h
  split at h
  · rename_i bk hg
    split at h
    · rename_i hc
      cases h
      obtain ⟨hpos, hno, hmid⟩ := hc
      have hno : idss bk.segs = [] := by simpa using hno
      have ho : ∀ b j, b < w.heap.size → owS S (delB σ.blks id) β b j → owS S σ.blks β b j := fun b _ _ hb => hb.imp (fun x => x) fun ⟨i, bi, hm, e⟩ => ⟨i, bi, (mem_delB hm).1, e⟩
      have hmem := (getB_both hg).1
      have hrow := (getB_both hg).2
      obtain ⟨cs, hr, hb⟩ := (hS.blk id bk hmem).1 hrow
      have hfree : ∀ j, ¬ owS S (delB σ.blks id) β (β id) j := by
        rintro j (hs | ⟨i, bi, hm, e, hrr⟩)
        · have h1 := hS.lowS _ _ hs
          rcases hS.low id bk hmem (live_plain hrow) with h2 | h2
          · omega
          · exact h1.2 h2
        · obtain ⟨hm, hne⟩ := mem_delB hm
          exact hne (hS.inj i id bi bk hm hmem (fun hr => (hrr hr).1) (live_plain hrow) e)
      refine ⟨hS.defs, hS.size, fun d t hm => ?_, ?_, fun i bi hm => hS.low i bi (mem_delB hm).1, fun i j bi bj hi hj => hS.inj i j bi bj (mem_delB hi).1 (mem_delB hj).1, hS.uniq.sublist delB_sub, ?_, fun i bi hm => hS.bndB i bi (mem_delB hm).1, hS.ext, hS.lowS, hS.pins.1, fun i hi => ?_⟩
      · rcases frzSl_mem hm with ⟨hm, _⟩ | ⟨rfl, hm3⟩
        · exact relV_mono ho (Keep.refl _ _) (fun _ _ => rfl) (hS.slot d t hm)
        · have h1 := relV_scalar rfl rfl (hS.slot d _ hm3)
          simp only [rel, List.cons.injEq, and_true] at h1
          rw [h1]
          refine relV_of1 rfl ?_
          simp only [rel]
          refine ⟨⟨β id, 0 + Ix.n (.c 0), none⟩, cs, rfl, rfl, fun j _ => hfree _, ?_, ?_, fun j u hu => ?_⟩
          · exact joinS_rel (rels_mono ho (Keep.refl _ _) _ _ (fun _ _ => rfl) hr)
          · intro e
            have := rels_len _ _ hr
            rw [e] at this
            simp at this
            omega
          · simp only [Ix.n, Nat.zero_add]
            rw [cell_row hb]; simpa using hu
      · have hsub : HSat β (owS S σ.blks β) w (delB σ.blks id) := fun i bi hm => hS.blk i bi (mem_delB hm).1
        exact hsub.move ho (Keep.refl _ _) (fun _ _ _ => sameB_refl) (fun _ _ _ _ => rfl)
      · intro d t hm i hi
        rcases frzSl_mem hm with ⟨hm, _⟩ | ⟨rfl, hm⟩
        · exact hS.bnd d t hm i hi
        · simp only [SV.ids] at hi
          rw [joinS_ids, hno] at hi
          cases hi
      · obtain ⟨e, bi, hm, hr⟩ := hS.pins.2 i hi
        exact ⟨e, bi, mem_delB_of hm (by have := hS.pins.1; omega), hr⟩
    · cases h
  · cases h
theorem hold_freeze {Q : Exit → Act → World → Prop} {st : List It} {id : Nat} {σ' : St} (h : frz σ id = some σ') (hk : Hold P body Q w0 S st σ') : Hold P body Q w0 S st σ :=
  fun β a w hS => hk β a w (Sat.freeze h hS)
end
end Go.Eng

namespace Go.Eng.B
open Go Go.Eng Go.Proofs
theorem mixed : Try.prog.follows .mixedOrders = true := by kernel_rfl
theorem int?_wk {x : SV} {k : IntKind} {n : Int} (h : x.int? = some (k, n)) : wk x (.i k n) := by
  cases x <;> simp [SV.int?] at h <;> (obtain ⟨rfl, rfl⟩ := h; simp [wk, wk0, wka])
theorem nat?_wk {x : SV} {k : IntKind} {n : Nat} (h : x.nat? = some (k, n)) {β : Nat → Nat} {ow : Own} {w : World} {v : Value} (hv : relV1 β ow w x v) : relV1 β ow w (.u k n) v := by
  obtain ⟨cs, hr, rfl⟩ := hv
  obtain ⟨rfl, hl⟩ := nat?_ok h hr
  exact ⟨_, rel_u hl, by rw [(nat?_sc h).2]; rfl⟩
theorem nat?_int {x : SV} {k : IntKind} {n : Nat} (h : x.nat? = some (k, n)) : x.int? = some (k, (n : Int)) := by
  cases x <;> simp [SV.nat?] at h
  · obtain ⟨h1, h2, h3⟩ := h
    simp only [SV.int?]
    rw [h2, ← h3, Int.toNat_of_nonneg h1]
  · obtain ⟨rfl, rfl⟩ := h; rfl
theorem Contract.args {P : Program} {f : FuncId} {args args' : List SV} {res : SV} (hw : wkl args args') (h : Contract P f args' res) : Contract P f args res :=
  fun w S vs hlt hvs => h w S vs hlt (wkl_ok hw hvs)
def ctr0 : Ctr := ⟨fun _ _ => none, fun _ _ _ => none⟩
theorem ctr0_ok : CtrOk Try.prog ctr0 := ⟨fun _ _ _ _ h => (by cases h), fun _ _ _ _ _ h => (by cases h)⟩
def eMod (args : List SV) : Option (SV × List Prop) :=
  match args with
  | [x, y] => match x.int?, y.int? with
    | some (.i64, n), some (.i64, m) => some (.u .i64 (n % m).toNat, [0 < m])
    | _, _ => none
  | _ => none
theorem fi_hit {l : List Int} {p : Int → Bool} {i : Nat} (h : i ≤ l.findIdx p) (hl : i < l.length) (hp : p (l.getD i 0) = true) : l.findIdx p = i := by
  rcases Nat.lt_or_eq_of_le h with h | h
  · exfalso
    have := List.not_of_lt_findIdx h
    rw [List.getD_eq_getElem?_getD, List.getElem?_eq_getElem hl] at hp
    simp only [Option.getD_some] at hp
    rw [hp] at this
    exact Bool.noConfusion this
  · exact h.symm
theorem fi_miss {l : List Int} {p : Int → Bool} {i : Nat} (h : i ≤ l.findIdx p) (hl : i < l.length) (hp : p (l.getD i 0) = false) : i + 1 ≤ l.findIdx p := by
  rcases Nat.lt_or_eq_of_le h with h | h
  · exact h
  · exfalso
    have hlt : l.findIdx p < l.length := by omega
    have := List.findIdx_getElem (w := hlt)
    rw [List.getD_eq_getElem?_getD, List.getElem?_eq_getElem hl] at hp
    simp only [Option.getD_some] at hp
    simp only [← h] at this
    rw [hp] at this
    exact Bool.noConfusion this
theorem fi_end {l : List Int} {p : Int → Bool} {i : Nat} (h : i ≤ l.findIdx p) (hl : ¬ i < l.length) : l.findIdx p = l.length := by
  have := List.findIdx_le_length (xs := l) (p := p)
  omega
theorem any_fi {l : List Int} {p : Int → Bool} : l.any p = decide (l.findIdx p < l.length) := by
  rw [Bool.eq_iff_iff, decide_eq_true_eq, List.findIdx_lt_length]
  simp
end Go.Eng.B

namespace Go.Eng.G
open Go Go.Eng Go.Proofs Go.Eng.B
set_option maxRecDepth 100000
def u64 (n : Int) : Nat := (n % 18446744073709551616).toNat
def seedL (m : Nat) : List Nat := (List.range 32).map fun i => m / 256 ^ (i % 8) % 256 ^^^ (37 * (i / 8))
def someX (m i : Nat) : Nat := (m / 2 ^ (8 * (i % 8) % 18446744073709551616) % 256 + i / 8 % 256) % 256
def someL (m n : Nat) : List Nat := (List.range n).map (someX m)
theorem someL_succ (m n : Nat) : someL m (n + 1) = someL m n ++ [someX m n] := by simp [someL, List.range_succ]
theorem someL_len (m n : Nat) : (someL m n).length = n := by simp [someL]
def e38 (args : List SV) : Option (SV × List Prop) :=
  match args with
  | [.i .i64 n] => some (.sl .u8 (seedL (u64 n)), [])
  | [.c .i64 n] => some (.sl .u8 (seedL (u64 n)), [])
  | _ => none
def e44 (args : List SV) : Option (SV × List Prop) :=
  match args with
  | [x, y] => match x.int?, y.int? with
    | some (.i64, k), some (.i64, n) => some (.sl .u8 (someL (u64 k) n.toNat), [0 ≤ n, n ≤ 1000000])
    | _, _ => none
  | _ => none
def nine : List Nat := [9, 0, 0, 0, 0, 0, 0, 0, 0, 0, 0, 0, 0, 0, 0, 0, 0, 0, 0, 0, 0, 0, 0, 0, 0, 0, 0, 0, 0, 0, 0, 0]
def zer : List Nat := [0, 0, 0, 0, 0, 0, 0, 0, 0, 0, 0, 0, 0, 0, 0, 0, 0, 0, 0, 0, 0, 0, 0, 0, 0, 0, 0, 0, 0, 0, 0, 0]
def pubL (k : List Nat) : List Nat := if k.length = 32 then dB (multV k nine) else []
def pubE (k : List Nat) : Int := if k.length = 32 then 0 else 1
def shL (k u : List Nat) : List Nat := if k.length = 32 ∧ u.length = 32 then (if dB (multV k u) = zer then [] else dB (multV k u)) else []
def shE (k u : List Nat) : Int := if k.length = 32 ∧ u.length = 32 then (if dB (multV k u) = zer then 13 else 0) else 1
def tPub (args : List SV) : Option (SV × List Prop) :=
  match args with
  | [.sl .u8 k] => some (.tup [.sl .u8 (pubL k), .i .i64 (pubE k)], [])
  | _ => none
def tSh (args : List SV) : Option (SV × List Prop) :=
  match args with
  | [.sl .u8 k, .sl .u8 u] => some (.tup [.sl .u8 (shL k u), .i .i64 (shE k u)], [])
  | _ => none
def T17a : Ctr := addC 9 e38 T16c
def T17b : Ctr := addC 45 tPub (addC 19 tPub ((addC 20 tSh T17a)))
def e37 := t0 (.b true)
def T17 : Ctr := addC 21 e37 T17b
def s44 (K : Int) (N i : Nat) (l : List Nat) : St := ⟨28, [(5, .row 0 (.sl .u8 l)), (0, .i .i64 K), (7, .i .i64 (N : Int)), (8, .u .i64 i)], [(0, ⟨5, [], true⟩)], 3, 0⟩
theorem dB_len (n : Nat) : (dB n).length = 32 := by simp [dB, dg]
theorem take32 {l : List Nat} (h : l.length = 32) : l.take 32 = l := List.take_of_length_le (by omega)
theorem weak1 : dB (multV (seedL (u64 1)) zer) = zer := by decide +kernel
end Go.Eng.G

namespace Go.Eng
open Go.RowKit
def unG (o : Oper) : Oper := { o with guard := none }
def pureStepG (P : Program) (ctr : Ctr) (ops : Array Oper) (σ : St) (i : Nat) (o : Oper) (sc : List Bool) : Option (St × List Prop × List Bool) :=
  match guardOf ops σ.slots o with
  | none => none
  | some false => match putS σ o.dst (.tup []) with | some σ' => some (σ', [], sc) | none => none
  | some true => match evalR P ctr σ.blks (lookρ σ.slots) (unG o) with
      | some (.val s, ob) => if pureOp (unG o) || slicePtr σ.slots (unG o) || sliceSl σ.slots (unG o) || (numOp σ.slots (unG o) && s.rigid) then
          match resolveB (isGuard ops i) s sc with
          | some (s', ob2, sc') => match putS σ o.dst s' with | some σ' => some (σ', ob ++ ob2, sc') | none => none
          | none => none
        else none
      | _ => none
def firstPureG (P : Program) (ctr : Ctr) (ops : Array Oper) (L : Array Bool) (σ : St) (sc : List Bool) : List Nat → Option (Nat × St × List Prop × List Bool)
  | [] => none
  | i :: r => if Region.free .any ops L i then (match ops[i]? with
      | some o => match pureStepG P ctr ops σ i o sc with
        | some (σ', ob, sc') => some (i, σ', ob, sc')
        | none => firstPureG P ctr ops L σ sc r
      | none => none) else firstPureG P ctr ops L σ sc r
abbrev RA := Nat × Nat × Bool × Nat
def stRA (R : RA) : St := ⟨R.1, [(R.2.1, .cb R.2.2.1)], [], 0, R.2.2.2⟩
def endRA (d : Nat) (σ : St) : Option RA :=
  match restrict [d] [] 0 σ with
  | some ⟨nt, [(e, .cb x)], [], 0, m⟩ => some (nt, e, x, m)
  | _ => none
def tryAll (step : Nat → Option (RA × List Prop × List Bool)) : List Nat → Option (RA × List Prop × List Bool)
  | [] => none
  | [i] => step i
  | i :: r => match step i, tryAll step r with
    | some (R, ob, sc), some (R', ob', sc') => if R = R' ∧ sc = sc' then some (R, ob ++ ob', sc) else none
    | _, _ => none
def execAll (P : Program) (ctr : Ctr) (ops : Array Oper) (d : Nat) : Nat → Array Bool → St → List Bool → Option (RA × List Prop × List Bool)
  | 0, _, _, _ => none
  | f + 1, L, σ, sc => match Region.ready .any ops L with
    | [] => match endRA d σ with
      | some R => some (R, [], sc)
      | none => none
    | r => match firstPureG P ctr ops L σ sc r with
      | some (i, σ1, ob1, sc1) => match execAll P ctr ops d f (L.setIfInBounds i true) σ1 sc1 with
        | some (R, ob2, sc2) => some (R, ob1 ++ ob2, sc2)
        | none => none
      | none => tryAll (fun i => match ops[i]? with
        | some o => match stepOp P ctr ops σ i o sc with
          | some (σ1, ob1, sc1) => match execAll P ctr ops d f (L.setIfInBounds i true) σ1 sc1 with
            | some (R, ob2, sc2) => some (R, ob1 ++ ob2, sc2)
            | none => none
          | none => none
        | none => none) r
def lastDst (ops : Array Oper) : Option Nat := match ops.back? with | some o => o.dst | none => none
def drawAll (P : Program) (ctr : Ctr) (ops : Array Oper) (σ : St) (sc : List Bool) : Option (St × List Prop × List Bool) :=
  match lastDst ops with
  | some d => if Region.noSelect ops then (match execAll P ctr ops d (ops.size + 1) (Array.replicate ops.size false) σ sc with
    | some (R, ob, sc') => some (stRA R, ob, sc')
    | none => none) else none
  | none => none
section
variable {P : Program} {ctr : Ctr} {w0 : Fr} {w : World} {S : Own} {σ σ' : St} {β : Nat → Nat} {a : Act} {ops : Array Oper}
theorem firstPureG_ok : ∀ {r : List Nat} {L : Array Bool} {sc sc' : List Bool} {i : Nat} {ob : List Prop}, firstPureG P ctr ops L σ sc r = some (i, σ', ob, sc') → i ∈ r ∧ Region.free .any ops L i = true ∧ ∃ o, ops[i]? = some o ∧ pureStepG P ctr ops σ i o sc = some (σ', ob, sc') := by
  intro r
  induction r with
  | nil => intro L sc sc' i ob h; simp [firstPureG] at h
  | cons j r ih =>
    intro L sc sc' i ob h
    simp only [firstPureG] at h
    split at h
    · rename_i hf
      split at h
      · rename_i o ho
        split at h
        · rename_i hp; cases h; exact ⟨by simp, hf, o, ho, hp⟩
        · obtain ⟨h1, h2⟩ := ih h; exact ⟨List.mem_cons_of_mem _ h1, h2⟩
      · cases h
    · obtain ⟨h1, h2⟩ := ih h; exact ⟨List.mem_cons_of_mem _ h1, h2⟩
theorem pureStepG_ok {i : Nat} {o : Oper} {sc sc' : List Bool} {ob : List Prop} (h : pureStepG P ctr ops σ i o sc = some (σ', ob, sc')) (hob : All ob) (hS : Sat w0 S σ β a w) :
    ∃ v, Yields P ops o v a ∧ Sat w0 S σ' β (a.put o.dst v) w := by
  unfold pureStepG at h
  split at h
  · cases h
  · rename_i hg
    split at h
    · rename_i σ1 hput
      cases h
      exact ⟨undef, .inr ⟨guard_ok hS.slot hg, rfl⟩, hS.put hput ⟨[], rfl, rfl⟩⟩
    · cases h
  · rename_i hg
    split at h
    · rename_i s ob1 hev
      split at h
      · rename_i hp
        split at h
        · rename_i s' ob2 sc1 hres
          split at h
          · rename_i σ1 hput
            cases h
            obtain ⟨ho1, ho2⟩ := All.append.1 hob
            have key : ∃ v, (∀ w', (execOp a.eval o).run P w' = .ok (.value v) w') ∧ relV β (owS S σ.blks β) w s v := by
              simp only [Bool.or_eq_true, Bool.and_eq_true] at hp
              rcases hp with ((hp | hp) | hp) | hp
              · exact pureR_yields (fun y s hy => hS.look hy) hp hev
              · exact slice_yields (fun y s hy => hS.look hy) hp hev
              · exact sliceSl_yields (fun y s hy => hS.look hy) hp hev ho1
              · exact num_yields (fun y s hy => hS.look hy) hp.1 hp.2 hev ho1
            obtain ⟨v, h1, h2⟩ := key
            exact ⟨v, .inl ⟨guard_ok hS.slot hg, h1⟩, hS.put hput (resolveB_ok hres ho2 h2)⟩
          · cases h
        · cases h
      · cases h
    · cases h
theorem tryAll_ok {step : Nat → Option (RA × List Prop × List Bool)} : ∀ {r : List Nat} {R : RA} {ob : List Prop} {sc : List Bool}, tryAll step r = some (R, ob, sc) → All ob → ∀ i ∈ r, ∃ ob' sc', step i = some (R, ob', sc') ∧ All ob' := by
  intro r
  induction r with
  | nil => intro R ob sc h; simp [tryAll] at h
  | cons i r ih =>
    intro R ob sc h hob j hj
    cases r with
    | nil =>
      simp only [tryAll] at h
      simp only [List.mem_singleton] at hj
      subst hj
      exact ⟨ob, sc, h, hob⟩
    | cons k r =>
      simp only [tryAll] at h
      split at h
      · rename_i R1 ob1 sc1 R2 ob2 sc2 h1 h2
        split at h
        · rename_i he
          obtain ⟨rfl, rfl⟩ := he
          cases h
          obtain ⟨ho1, ho2⟩ := All.append.1 hob
          rcases List.mem_cons.1 hj with rfl | hj
          · exact ⟨_, _, h1, ho1⟩
          · exact ih h2 ho2 j hj
        · cases h
      · cases h
theorem endRA_ok {d : Nat} {R : RA} (h : endRA d σ = some R) (hS : Sat w0 S σ β a w) : Sat w0 S (stRA R) β a w := by
  unfold endRA at h
  split at h
  · rename_i nt e x m hr
    cases h
    exact hS.restrict hr
  · cases h
theorem execAll_ok (hctr : CtrOk P ctr) (hs : Region.noSelect ops = true) {d : Nat} {Q : Exit → Act → World → Prop} (hQ : ∀ c a w, ¬ Q (.panic c) a w) : ∀ {f : Nat} {L : Array Bool} {σ : St} {R : RA} {sc sc' : List Bool} {ob : List Prop} {β : Nat → Nat} {a : Act} {w : World},
    execAll P ctr ops d f L σ sc = some (R, ob, sc') → All ob → Sat w0 S σ β a w → (∀ β' a' w', Sat w0 S (stRA R) β' a' w' → Q .normal a' w') → ∀ {g : Nat}, left L ≤ g → L.size = ops.size → wpAny P .any ops Q g L a w := by
  intro f
  induction f with
  | zero => intro L σ R sc sc' ob β a w h; simp [execAll] at h
  | succ f ih =>
    intro L σ R sc sc' ob β a w h hob hS hk g hl hsz
    simp only [execAll] at h
    split at h
    · rename_i hr
      split at h
      · rename_i R1 he
        cases h
        exact wpAny_done hr (hk β a w (endRA_ok he hS)) g
      · cases h
    · rename_i hr0
      have hstep : ∀ i, i ∈ Region.ready .any ops L → left L = left (L.setIfInBounds i true) + 1 := fun i hi => by
        obtain ⟨h1, o, ho, _⟩ := mem_ready.1 hi
        exact left_set (by rw [hsz]; exact (Array.getElem?_eq_some_iff.1 ho).1) h1
      have hpos : 0 < g := by
        cases hr : Region.ready .any ops L with
        | nil => exact absurd hr hr0
        | cons j t => have := hstep j (by rw [hr]; simp); omega
      obtain ⟨g, rfl⟩ : ∃ g', g = g' + 1 := ⟨g - 1, by omega⟩
      split at h
      · rename_i i σ1 ob1 sc1 hp
        split at h
        · rename_i R2 ob2 sc2 hx
          cases h
          obtain ⟨ho1, ho2⟩ := All.append.1 hob
          obtain ⟨hm, hf, o, ho, hst⟩ := firstPureG_ok hp
          obtain ⟨v, hy, hS1⟩ := pureStepG_ok hst ho1 hS
          refine wpAny_take ho hs hf (by simpa using hm) (fun c a w h => absurd h (hQ c _ w)) hy ?_
          exact ih hx ho2 hS1 hk (by have := hstep i hm; omega) (by simpa using hsz)
        · cases h
      · refine wpAny_all rfl hr0 ?_
        intro j hj
        obtain ⟨ob', sc2, h1, h2⟩ := tryAll_ok h hob j hj
        split at h1
        · rename_i o ho
          split at h1
          · rename_i σ1 ob1 sc1 hst
            split at h1
            · rename_i R2 ob2 sc3 hx
              cases h1
              obtain ⟨ho1, ho2⟩ := All.append.1 h2
              refine stepOp_ok hctr hst ho1 ho hS fun β' a' w' hS' => ?_
              exact ih hx ho2 hS' hk (by have := hstep j hj; omega) (by simpa using hsz)
            · cases h1
          · cases h1
        · cases h1
theorem drawAll_ok (hm : P.follows .mixedOrders = true) (hctr : CtrOk P ctr) {id : Nat} {sc sc' : List Bool} {ob : List Prop} (h : drawAll P ctr ops σ sc = some (σ', ob, sc')) (hob : All ob) (hS : Sat w0 S σ β a w)
    {Q : Exit → Act → World → Prop} (hQ : ∀ c a w, ¬ Q (.panic c) a w) (hk : ∀ β' a' w', Sat w0 S σ' β' a' w' → Q .normal a' w') : (Code.region id ops true).wp P Q a w := by
  unfold drawAll at h
  split at h
  · split at h
    · rename_i hs
      split at h
      · rename_i R ob1 sc1 hx
        cases h
        refine wp_region_any hm ?_
        have hxt : Ext w { w with drawn := w.drawn + 1 } := ⟨rfl, rfl, rfl, Nat.le_refl _, fun _ _ => rfl⟩
        refine execAll_ok hctr hs hQ hx hob (hS.extend hxt) hk ?_ (by simp)
        simp [left, List.countP_replicate]
      · cases h
    · cases h
  · cases h
end
end Go.Eng

namespace Go.Eng
open Go.RowKit
structure Ke where
  (ks bs : List Nat) (nx : Nat)
def tryS (step : Nat → Option (St × List Prop × List Bool)) : List Nat → Option (St × List Prop × List Bool)
  | [] => none
  | [i] => step i
  | i :: r => match step i, tryS step r with
    | some (R, ob, sc), some (R', ob', sc') => if sc = sc' then some (R, (R' = R) :: (ob ++ ob'), sc) else none
    | _, _ => none
def execS (P : Program) (ctr : Ctr) (ops : Array Oper) (d : Ke) : Nat → Array Bool → St → List Bool → Option (St × List Prop × List Bool)
  | 0, _, _, _ => none
  | f + 1, L, σ, sc => match Region.ready .any ops L with
    | [] => match restrict d.ks d.bs d.nx σ with
      | some R => some (R, [], sc)
      | none => none
    | r => match firstPureG P ctr ops L σ sc r with
      | some (i, σ1, ob1, sc1) => match execS P ctr ops d f (L.setIfInBounds i true) σ1 sc1 with
        | some (R, ob2, sc2) => some (R, ob1 ++ ob2, sc2)
        | none => none
      | none => tryS (fun i => match ops[i]? with
        | some o => match stepOp P ctr ops σ i o sc with
          | some (σ1, ob1, sc1) => match execS P ctr ops d f (L.setIfInBounds i true) σ1 sc1 with
            | some (R, ob2, sc2) => some (R, ob1 ++ ob2, sc2)
            | none => none
          | none => none
        | none => none) r
def drawS (P : Program) (ctr : Ctr) (ops : Array Oper) (d : Ke) (σ : St) (sc : List Bool) : Option (St × List Prop × List Bool) :=
  if Region.noSelect ops then execS P ctr ops d (ops.size + 1) (Array.replicate ops.size false) σ sc else none
section
variable {P : Program} {ctr : Ctr} {w0 : Fr} {w : World} {S : Own} {σ σ' : St} {β : Nat → Nat} {a : Act} {ops : Array Oper}
theorem tryS_ok {step : Nat → Option (St × List Prop × List Bool)} : ∀ {r : List Nat} {R : St} {ob : List Prop} {sc : List Bool}, tryS step r = some (R, ob, sc) → All ob → ∀ i ∈ r, ∃ ob' sc', step i = some (R, ob', sc') ∧ All ob' := by
  intro r
  induction r with
  | nil => intro R ob sc h; simp [tryS] at h
  | cons i r ih =>
    intro R ob sc h hob j hj
    cases r with
    | nil =>
      simp only [tryS] at h
      simp only [List.mem_singleton] at hj
      subst hj
      exact ⟨ob, sc, h, hob⟩
    | cons k r =>
      simp only [tryS] at h
      split at h
      · rename_i R1 ob1 sc1 R2 ob2 sc2 h1 h2
        split at h
        · cases h
          obtain ⟨he, hob⟩ := hob
          obtain ⟨ho1, ho2⟩ := All.append.1 hob
          rcases List.mem_cons.1 hj with rfl | hj
          · exact ⟨_, _, h1, ho1⟩
          · subst he
            exact ih h2 ho2 j hj
        · cases h
      · cases h
theorem execS_ok (hctr : CtrOk P ctr) (hs : Region.noSelect ops = true) {d : Ke} {Q : Exit → Act → World → Prop} (hQ : ∀ c a w, ¬ Q (.panic c) a w) : ∀ {f : Nat} {L : Array Bool} {σ : St} {R : St} {sc sc' : List Bool} {ob : List Prop} {β : Nat → Nat} {a : Act} {w : World},
    execS P ctr ops d f L σ sc = some (R, ob, sc') → All ob → Sat w0 S σ β a w → (∀ β' a' w', Sat w0 S R β' a' w' → Q .normal a' w') → ∀ {g : Nat}, left L ≤ g → L.size = ops.size → wpAny P .any ops Q g L a w := by
  intro f
  induction f with
  | zero => intro L σ R sc sc' ob β a w h; simp [execS] at h
  | succ f ih =>
    intro L σ R sc sc' ob β a w h hob hS hk g hl hsz
    simp only [execS] at h
    split at h
    · rename_i hr
      split at h
      · rename_i R1 he
        cases h
        exact wpAny_done hr (hk β a w (hS.restrict he)) g
      · cases h
    · rename_i hr0
      have hstep : ∀ i, i ∈ Region.ready .any ops L → left L = left (L.setIfInBounds i true) + 1 := fun i hi => by
        obtain ⟨h1, o, ho, _⟩ := mem_ready.1 hi
        exact left_set (by rw [hsz]; exact (Array.getElem?_eq_some_iff.1 ho).1) h1
      have hpos : 0 < g := by
        cases hr : Region.ready .any ops L with
        | nil => exact absurd hr hr0
        | cons j t => have := hstep j (by rw [hr]; simp); omega
      obtain ⟨g, rfl⟩ : ∃ g', g = g' + 1 := ⟨g - 1, by omega⟩
      split at h
      · rename_i i σ1 ob1 sc1 hp
        split at h
        · rename_i R2 ob2 sc2 hx
          cases h
          obtain ⟨ho1, ho2⟩ := All.append.1 hob
          obtain ⟨hm, hf, o, ho, hst⟩ := firstPureG_ok hp
          obtain ⟨v, hy, hS1⟩ := pureStepG_ok hst ho1 hS
          refine wpAny_take ho hs hf (by simpa using hm) (fun c a w h => absurd h (hQ c _ w)) hy ?_
          exact ih hx ho2 hS1 hk (by have := hstep i hm; omega) (by simpa using hsz)
        · cases h
      · refine wpAny_all rfl hr0 ?_
        intro j hj
        obtain ⟨ob', sc2, h1, h2⟩ := tryS_ok h hob j hj
        split at h1
        · rename_i o ho
          split at h1
          · rename_i σ1 ob1 sc1 hst
            split at h1
            · rename_i R2 ob2 sc3 hx
              cases h1
              obtain ⟨ho1, ho2⟩ := All.append.1 h2
              refine stepOp_ok hctr hst ho1 ho hS fun β' a' w' hS' => ?_
              exact ih hx ho2 hS' hk (by have := hstep j hj; omega) (by simpa using hsz)
            · cases h1
          · cases h1
        · cases h1
theorem drawS_ok (hm : P.follows .mixedOrders = true) (hctr : CtrOk P ctr) {id : Nat} {d : Ke} {sc sc' : List Bool} {ob : List Prop} (h : drawS P ctr ops d σ sc = some (σ', ob, sc')) (hob : All ob) (hS : Sat w0 S σ β a w)
    {Q : Exit → Act → World → Prop} (hQ : ∀ c a w, ¬ Q (.panic c) a w) (hk : ∀ β' a' w', Sat w0 S σ' β' a' w' → Q .normal a' w') : (Code.region id ops true).wp P Q a w := by
  unfold drawS at h
  split at h
  · rename_i hs
    refine wp_region_any hm ?_
    have hxt : Ext w { w with drawn := w.drawn + 1 } := ⟨rfl, rfl, rfl, Nat.le_refl _, fun _ _ => rfl⟩
    refine execS_ok hctr hs hQ h hob (hS.extend hxt) hk ?_ (by simp)
    simp [left, List.countP_replicate]
  · cases h
end
def regS (P : Program) (ctr : Ctr) (body : Code) (p : List Nat) (r : List It) (d : Ke) (σ : St) (sc : List Bool) : List It × Option St × List Prop × List Bool :=
  match nav body p with
  | some (.region _ ops true) => match drawS P ctr ops d σ sc with
    | some (σ', ob, sc') => (r, some σ', ob, sc')
    | none => ([], none, [], sc)
  | _ => ([], none, [], sc)
theorem hold_allS {P : Program} {body : Code} {w0 : Fr} {S : Own} (hm : P.follows .mixedOrders = true) {ctr : Ctr} (hctr : CtrOk P ctr) {Q : Exit → Act → World → Prop} [ExitOk Q] {p : List Nat} {r : List It} {d : Ke} {σ : St} {sc : List Bool} {st' : List It} {σ' : St} {ob : List Prop} {sc' : List Bool}
    (h : regS P ctr body p r d σ sc = (st', some σ', ob, sc')) (hob : All ob) (hk : Hold P body Q w0 S st' σ') : Hold P body Q w0 S (.at p :: r) σ := by
  unfold regS at h
  split at h
  · rename_i id ops hn
    split at h
    · rename_i σ1 ob1 sc1 hx
      cases h
      intro β a w hS
      simp only [contQ, hn]
      exact drawS_ok hm hctr hx hob hS (contQ_panic (ExitOk.panic (Q := Q)) _) hk
    · cases h
  · cases h
end Go.Eng

