import Derived.Test.YtjefhfgkeeggoaaGreatE9
import Derived.Shelf.Bytes.SlJoin
import Derived.Laws.Externs
set_option linter.unusedVariables false
set_option linter.unusedSimpArgs false
set_option linter.unusedSectionVars false
namespace Go.Eng.G
open Go Go.Eng Go.Proofs Go.Eng.B
set_option maxRecDepth 100000
set_option maxHeartbeats 1000000
theorem rD_c : Contract Tryz.prog 64 [] (fe dN) := by
  refine contract Tryz.func64 (body := bodyOf Tryz.f64) rfl (by kernel_rfl) (by kernel_rfl) rfl ?_
  intro _ w0 S
  refine hold_end mixed okH1 (unroll := true) (f := 100) (sc := []) (r := (SV.arr .u64 4 (dF 37095705934669439343138083508754565189542113879843219016388785533085940283555))) (ob := [0 < P255, 20800338683988658368647408995589388737092878452977063003340006470870624536394 < P255]) (sc' := []) (by kernel_rfl) ?_ (by kernel_rfl)
  repeat' first | exact trivial | (refine of_decide_eq_true ?_; kernel_rfl) | refine ⟨?_, ?_⟩
theorem rBase_c : Contract Tryz.prog 23 [] (.arr .u8 32 baseL) := by
  refine contract Tryz.func23 (body := bodyOf Tryz.f23) rfl (by kernel_rfl) (by kernel_rfl) rfl ?_
  intro _ w0 S
  exact hold_end mixed okH1 (unroll := true) (f := 700) (sc := []) (r := (SV.arr .u8 32 [88, 102, 102, 102, 102, 102, 102, 102, 102, 102, 102, 102, 102, 102, 102, 102, 102, 102, 102, 102, 102, 102, 102, 102, 102, 102, 102, 102, 102, 102, 102, 102])) (ob := []) (sc' := []) (by kernel_rfl) trivial (by kernel_rfl)
theorem rNeu_c : Contract Tryz.prog 98 [] (pt gO) := by
  refine contract Tryz.func98 (body := bodyOf Tryz.f98) rfl (by kernel_rfl) (by kernel_rfl) rfl ?_
  intro _ w0 S
  exact hold_end mixed okH1 (unroll := true) (f := 100) (sc := []) (r := (SV.ag [SV.arr .u64 4 [0, 0, 0, 0], SV.arr .u64 4 [1, 0, 0, 0], SV.arr .u64 4 [1, 0, 0, 0], SV.arr .u64 4 [0, 0, 0, 0]])) (ob := []) (sc' := []) (by kernel_rfl) trivial (by kernel_rfl)
theorem okH3a : CtrOk Tryz.prog H3a := addC_ok (addC_ok (addC_ok okH1 (t0_ok rD_c)) (t0_ok rBase_c)) (t0_ok rNeu_c)
theorem cSum : ∀ args res ob, eSum args = some (res, ob) → All ob → Contract Tryz.prog 63 args res := by
  intro args res ob h hob
  unfold eSum at h
  split at h
  · rename_i x1 y1 z1 s1 x2 y2 z2 s2 d
    cases h
    obtain ⟨⟨l1, l2, l3, l4⟩, ⟨l5, l6, l7, l8⟩, ld, _⟩ := hob
    simp only [p4] at l1 l2 l3 l4 l5 l6 l7 l8
    refine contract Tryz.func63 (body := bodyOf Tryz.f63) rfl (by kernel_rfl) (by kernel_rfl) rfl ?_
    intro _ w0 S
    refine hold_end mixed okH3a (unroll := true) (f := 400) (sc := []) (r := (SV.ag [SV.arr .u64 4 (dF (vF (dF ((vF (dF (vF (dF ((vF y1 + vF x1) % P255)) * vF (dF ((vF y2 + vF x2) % P255)) % P255)) + P255 - vF (dF (vF (dF ((vF y1 + P255 - vF x1) % P255)) * vF (dF ((vF y2 + P255 - vF x2) % P255)) % P255))) % P255)) * vF (dF ((vF (dF ((vF (dF (vF z1 * vF z2 % P255)) + vF (dF (vF z1 * vF z2 % P255))) % P255)) + P255 - vF (dF (vF (dF (vF s1 * vF s2 % P255)) * vF (dF ((vF d + vF d) % P255)) % P255))) % P255)) % P255)), SV.arr .u64 4 (dF (vF (dF ((vF (dF ((vF (dF (vF z1 * vF z2 % P255)) + vF (dF (vF z1 * vF z2 % P255))) % P255)) + vF (dF (vF (dF (vF s1 * vF s2 % P255)) * vF (dF ((vF d + vF d) % P255)) % P255))) % P255)) * vF (dF ((vF (dF (vF (dF ((vF y1 + vF x1) % P255)) * vF (dF ((vF y2 + vF x2) % P255)) % P255)) + vF (dF (vF (dF ((vF y1 + P255 - vF x1) % P255)) * vF (dF ((vF y2 + P255 - vF x2) % P255)) % P255))) % P255)) % P255)), SV.arr .u64 4 (dF (vF (dF ((vF (dF ((vF (dF (vF z1 * vF z2 % P255)) + vF (dF (vF z1 * vF z2 % P255))) % P255)) + P255 - vF (dF (vF (dF (vF s1 * vF s2 % P255)) * vF (dF ((vF d + vF d) % P255)) % P255))) % P255)) * vF (dF ((vF (dF ((vF (dF (vF z1 * vF z2 % P255)) + vF (dF (vF z1 * vF z2 % P255))) % P255)) + vF (dF (vF (dF (vF s1 * vF s2 % P255)) * vF (dF ((vF d + vF d) % P255)) % P255))) % P255)) % P255)), SV.arr .u64 4 (dF (vF (dF ((vF (dF (vF (dF ((vF y1 + vF x1) % P255)) * vF (dF ((vF y2 + vF x2) % P255)) % P255)) + P255 - vF (dF (vF (dF ((vF y1 + P255 - vF x1) % P255)) * vF (dF ((vF y2 + P255 - vF x2) % P255)) % P255))) % P255)) * vF (dF ((vF (dF (vF (dF ((vF y1 + vF x1) % P255)) * vF (dF ((vF y2 + vF x2) % P255)) % P255)) + vF (dF (vF (dF ((vF y1 + P255 - vF x1) % P255)) * vF (dF ((vF y2 + P255 - vF x2) % P255)) % P255))) % P255)) % P255))])) (ob := [vF y1 < P255, vF x1 < P255, vF y2 < P255, vF x2 < P255, vF y1 < P255, vF x1 < P255, vF y2 < P255, vF x2 < P255, vF d < P255, vF d < P255, vF (dF (vF z1 * vF z2 % P255)) < P255, vF (dF (vF z1 * vF z2 % P255)) < P255, vF (dF (vF (dF ((vF y1 + vF x1) % P255)) * vF (dF ((vF y2 + vF x2) % P255)) % P255)) < P255, vF (dF (vF (dF ((vF y1 + P255 - vF x1) % P255)) * vF (dF ((vF y2 + P255 - vF x2) % P255)) % P255)) < P255, vF (dF ((vF (dF (vF z1 * vF z2 % P255)) + vF (dF (vF z1 * vF z2 % P255))) % P255)) < P255, vF (dF (vF (dF (vF s1 * vF s2 % P255)) * vF (dF ((vF d + vF d) % P255)) % P255)) < P255, vF (dF ((vF (dF (vF z1 * vF z2 % P255)) + vF (dF (vF z1 * vF z2 % P255))) % P255)) < P255, vF (dF (vF (dF (vF s1 * vF s2 % P255)) * vF (dF ((vF d + vF d) % P255)) % P255)) < P255, vF (dF (vF (dF ((vF y1 + vF x1) % P255)) * vF (dF ((vF y2 + vF x2) % P255)) % P255)) < P255, vF (dF (vF (dF ((vF y1 + P255 - vF x1) % P255)) * vF (dF ((vF y2 + P255 - vF x2) % P255)) % P255)) < P255]) (sc' := []) (by kernel_rfl) ?_ ?_
    · repeat' first | exact trivial | assumption | exact vd_lt _ | refine ⟨?_, ?_⟩
    · simp only [vdP]
      rfl
  · cases h
theorem cOpp : ∀ args res ob, eOpp args = some (res, ob) → All ob → Contract Tryz.prog 74 args res := by
  intro args res ob h hob
  unfold eOpp at h
  split at h
  · rename_i x1 y1 z1 s1
    cases h
    obtain ⟨⟨l1, l2, l3, l4⟩, _⟩ := hob
    simp only [p4] at l1 l2 l3 l4
    refine contract Tryz.func74 (body := bodyOf Tryz.f74) rfl (by kernel_rfl) (by kernel_rfl) rfl ?_
    rintro ⟨⟨hx, hy, hz, ht, _⟩, _⟩ w0 S
    refine hold_end mixed okH3a (unroll := true) (f := 100) (sc := []) (r := (SV.ag [SV.arr .u64 4 (dF ((57896044618658097711785492504343953926634992332820282019728792003956564819949 - vF x1) % P255)), SV.arr .u64 4 y1, SV.arr .u64 4 z1, SV.arr .u64 4 (dF ((57896044618658097711785492504343953926634992332820282019728792003956564819949 - vF s1) % P255))])) (ob := [0 < P255, vF x1 < P255, 0 < P255, vF s1 < P255]) (sc' := []) (by kernel_rfl) ?_ ?_
    · repeat' first | exact trivial | assumption | exact vd_lt _ | (unfold P255; decide) | refine ⟨?_, ?_⟩
    · simp only [pt, rneg, p4, fe, dF_vF hy, dF_vF hz]
      rfl
  · cases h
theorem dB_set7 {A : Nat} (hA : A < 57896044618658097711785492504343953926634992332820282019728792003956564819968) (b : Nat) (hb : b < 2) :
    (dB A).set 31 ((dB A).getD 31 0 ||| (b % 256 * 128 % 256)) = dB (A + b * 57896044618658097711785492504343953926634992332820282019728792003956564819968) := by
  unfold dB
  apply ext_getD (by simp [dg_length])
  intro j hj
  simp only [List.length_set, dg_length] at hj
  rw [dg_getD _ _ _ j hj]
  by_cases h31 : j = 31
  · subst h31
    rw [getD_set_eq (by rw [dg_length]; exact hj), dg_getD _ _ _ _ hj]
    simp only [Nat.reducePow]
    have h1 : A / 452312848583266388373324160190187140051835877600158453279131187530910662656 < 2 ^ 7 := by omega
    rw [Nat.mod_eq_of_lt (a := A / 452312848583266388373324160190187140051835877600158453279131187530910662656) (by omega), Nat.mod_eq_of_lt (a := b) (by omega), Nat.mod_eq_of_lt (a := b * 128) (by omega), or_hi (k := 7) h1]
    omega
  · rw [getD_set_ne (fun h => h31 h.symm), dg_getD _ _ _ j hj]
    have e : b * 57896044618658097711785492504343953926634992332820282019728792003956564819968 = 256 ^ j * (256 * (2 ^ (247 - 8 * j) * b)) := by
      have e2 : (57896044618658097711785492504343953926634992332820282019728792003956564819968 : Nat) = 256 ^ j * 256 * 2 ^ (247 - 8 * j) := by
        rw [← Nat.pow_succ, pow_8, ← Nat.pow_add, show 8 * (j + 1) + (247 - 8 * j) = 255 by omega]
      conv => lhs; rw [e2]
      rw [Nat.mul_comm b]
      simp only [Nat.mul_assoc]
    rw [e, Nat.add_mul_div_left _ _ (Nat.pow_pos (by decide)), Nat.add_mul_mod_self_left]
theorem cWrite : ∀ args res ob, eWrite args = some (res, ob) → All ob → Contract Tryz.prog 50 args res := by
  intro args res ob h hob
  unfold eWrite at h
  split at h
  · rename_i x1 y1 z1 s1
    cases h
    obtain ⟨⟨l1, l2, l3, l4⟩, _⟩ := hob
    simp only [p4] at l1 l2 l3 l4
    refine contract Tryz.func50 (body := bodyOf Tryz.f50) rfl (by kernel_rfl) (by kernel_rfl) rfl ?_
    intro _ w0 S
    refine hold_end mixed okH3a (unroll := true) (f := 100) (sc := []) (r := (SV.arr .u8 32 ((dB (vF (dF (vF y1 * vF (dF (powF (vF z1) PI % P255)) % P255)))).set 31 ((dB (vF (dF (vF y1 * vF (dF (powF (vF z1) PI % P255)) % P255)))).getD 31 0 ||| ((dF (vF x1 * vF (dF (powF (vF z1) PI % P255)) % P255)).getD 0 0 &&& 1) % 256 * 128 % 256)))) (ob := []) (sc' := []) (by kernel_rfl) ?_ ?_
    · repeat' first | exact trivial | assumption | exact vd_lt _ | (unfold P255; decide) | omega | refine ⟨?_, ?_⟩
    · simp only [vdP]
      rw [and_one, dF_head, Nat.mod_mod_of_dvd _ (show 2 ∣ 18446744073709551616 by decide), dB_set7 (Nat.lt_trans (P_ltP _) (by decide)) _ (Nat.mod_lt _ (by decide))]
      rfl
  · cases h
theorem okH3b : CtrOk Tryz.prog H3b := addC_ok (addC_ok (addC_ok okH3a cSum) cOpp) cWrite
def stRt : List It := [.lp [0, 1, 0, 1, 1, 1], .blk 0, .at [1, 1, 1, 1]]
def sRt (k x y z t : List Nat) (r : P4) (i : SV) : St := ⟨33, [(2, .ptr 0 0 (.c 0)), (3, .ptr 1 0 (.c 0)), (4, .ptr 2 0 (.c 0)), (5, .ptr 3 0 (.c 0)), (6, .ptr 4 0 (.c 0)), (7, i)],
  [(0, ⟨23, [.arr .u8 32 k], false⟩), (1, ⟨70, [.arr .u64 4 x, .arr .u64 4 y, .arr .u64 4 z, .arr .u64 4 t], false⟩), (2, ⟨70, [.arr .u64 4 [0, 0, 0, 0], .arr .u64 4 [0, 0, 0, 0], .arr .u64 4 [0, 0, 0, 0], .arr .u64 4 [0, 0, 0, 0]], false⟩), (3, ⟨55, [.arr .u64 4 (dF dN)], false⟩), (4, bPt 70 r)], 5, 0⟩
section
variable {w0 : World} {S : Own} {res : SV}
theorem rtimes_in (k x y z t : List Nat) (hk2 : ∀ y ∈ k, y < 256) (hp : pokP (p4 x y z t)) (R : P4) (hR : res = pt R) :
    ∀ n, n ≤ 256 → ∀ r, pokP r → rtm dN (vB k) (p4 x y z t) n r = R →
      Hold Tryz.prog (bodyOf Tryz.f51) (Fin Tryz.prog Tryz.f51 w0 S res) w0 S stRt (sRt k x y z t r (.i .i64 ((n : Int) - 1))) := by
  intro n
  induction n with
  | zero =>
    intro _ r hr he
    refine hold_unroll (c := _) rfl ?_
    refine hold_end mixed okH3b (unroll := false) (f := 100) (sc := [false]) (r := (SV.ag [SV.arr .u64 4 (dF r.x), SV.arr .u64 4 (dF r.y), SV.arr .u64 4 (dF r.z), SV.arr .u64 4 (dF r.t)])) (ob := [false = false]) (sc' := []) (by kernel_rfl) ?_ ?_
    · exact ⟨by decide, trivial⟩
    · rw [hR, ← he]; rfl
  | succ n ih =>
    intro hn r hr he
    refine Hold.weaken (sl' := (sRt k x y z t r (.u .i64 n)).slots) ?_ (by simp [wks, wk, wk0, wka, sRt, lim]; omega)
    refine hold_unroll (c := _) rfl ?_
    have hbit := bit_vB k hk2 n
    have hd := radd_ok dN r r
    have e1 := p4_pt (pokP_pok hr)
    have e2 := p4_pt (pokP_pok hd)
    have ed : vF (dF dN) = dN := vd (P_M dN_lt)
    simp only [rtm] at he
    by_cases hE : vB k / 2 ^ n % 2 = 1
    · refine hold_cut mixed okH3b (unroll := false) (f := 100) (sc := [true, true]) (ks := [2,3,4,5,6,7]) (bs := [0,1,2,3,4]) (nx := 5) (st' := [It.lp [0, 1, 0, 1, 1, 1], It.blk 0, It.at [1, 1, 1, 1]]) (σ' := { nt := 33, slots := [(2, SV.ptr 0 0 (Ix.c 0)), (3, SV.ptr 1 0 (Ix.c 0)), (4, SV.ptr 2 0 (Ix.c 0)), (5, SV.ptr 3 0 (Ix.c 0)), (6, SV.ptr 4 0 (Ix.c 0)), (7, SV.i .i64 ((↑n : Int) - (1 : Int)))], blks := [(0, { ty := 23, segs := [SV.arr .u8 32 k] }), (1, { ty := 70, segs := [SV.arr .u64 4 x, SV.arr .u64 4 y, SV.arr .u64 4 z, SV.arr .u64 4 t] }), (2, { ty := 70, segs := [SV.arr .u64 4 [0, 0, 0, 0], SV.arr .u64 4 [0, 0, 0, 0], SV.arr .u64 4 [0, 0, 0, 0], SV.arr .u64 4 [0, 0, 0, 0]] }), (3, { ty := 55, segs := [SV.arr .u64 4 (dF dN)] }), (4, { ty := 70, segs := [SV.arr .u64 4 (dF (radd (vF (dF dN)) (p4 (dF (radd (vF (dF dN)) (p4 (dF r.x) (dF r.y) (dF r.z) (dF r.t)) (p4 (dF r.x) (dF r.y) (dF r.z) (dF r.t))).x) (dF (radd (vF (dF dN)) (p4 (dF r.x) (dF r.y) (dF r.z) (dF r.t)) (p4 (dF r.x) (dF r.y) (dF r.z) (dF r.t))).y) (dF (radd (vF (dF dN)) (p4 (dF r.x) (dF r.y) (dF r.z) (dF r.t)) (p4 (dF r.x) (dF r.y) (dF r.z) (dF r.t))).z) (dF (radd (vF (dF dN)) (p4 (dF r.x) (dF r.y) (dF r.z) (dF r.t)) (p4 (dF r.x) (dF r.y) (dF r.z) (dF r.t))).t)) (p4 x y z t)).x), SV.arr .u64 4 (dF (radd (vF (dF dN)) (p4 (dF (radd (vF (dF dN)) (p4 (dF r.x) (dF r.y) (dF r.z) (dF r.t)) (p4 (dF r.x) (dF r.y) (dF r.z) (dF r.t))).x) (dF (radd (vF (dF dN)) (p4 (dF r.x) (dF r.y) (dF r.z) (dF r.t)) (p4 (dF r.x) (dF r.y) (dF r.z) (dF r.t))).y) (dF (radd (vF (dF dN)) (p4 (dF r.x) (dF r.y) (dF r.z) (dF r.t)) (p4 (dF r.x) (dF r.y) (dF r.z) (dF r.t))).z) (dF (radd (vF (dF dN)) (p4 (dF r.x) (dF r.y) (dF r.z) (dF r.t)) (p4 (dF r.x) (dF r.y) (dF r.z) (dF r.t))).t)) (p4 x y z t)).y), SV.arr .u64 4 (dF (radd (vF (dF dN)) (p4 (dF (radd (vF (dF dN)) (p4 (dF r.x) (dF r.y) (dF r.z) (dF r.t)) (p4 (dF r.x) (dF r.y) (dF r.z) (dF r.t))).x) (dF (radd (vF (dF dN)) (p4 (dF r.x) (dF r.y) (dF r.z) (dF r.t)) (p4 (dF r.x) (dF r.y) (dF r.z) (dF r.t))).y) (dF (radd (vF (dF dN)) (p4 (dF r.x) (dF r.y) (dF r.z) (dF r.t)) (p4 (dF r.x) (dF r.y) (dF r.z) (dF r.t))).z) (dF (radd (vF (dF dN)) (p4 (dF r.x) (dF r.y) (dF r.z) (dF r.t)) (p4 (dF r.x) (dF r.y) (dF r.z) (dF r.t))).t)) (p4 x y z t)).z), SV.arr .u64 4 (dF (radd (vF (dF dN)) (p4 (dF (radd (vF (dF dN)) (p4 (dF r.x) (dF r.y) (dF r.z) (dF r.t)) (p4 (dF r.x) (dF r.y) (dF r.z) (dF r.t))).x) (dF (radd (vF (dF dN)) (p4 (dF r.x) (dF r.y) (dF r.z) (dF r.t)) (p4 (dF r.x) (dF r.y) (dF r.z) (dF r.t))).y) (dF (radd (vF (dF dN)) (p4 (dF r.x) (dF r.y) (dF r.z) (dF r.t)) (p4 (dF r.x) (dF r.y) (dF r.z) (dF r.t))).z) (dF (radd (vF (dF dN)) (p4 (dF r.x) (dF r.y) (dF r.z) (dF r.t)) (p4 (dF r.x) (dF r.y) (dF r.z) (dF r.t))).t)) (p4 x y z t)).t)] })], next := 5 }) (ob := [Decidable.decide (0 ≤ n) = true, pokP (p4 (dF r.x) (dF r.y) (dF r.z) (dF r.t)), pokP (p4 (dF r.x) (dF r.y) (dF r.z) (dF r.t)), 37095705934669439343138083508754565189542113879843219016388785533085940283555 < P255, n / 8 < 32, n / 8 < 32, n % 8 < 8, (k.getD (n / 8) 0 / 2 ^ (n % 8) &&& 1 == 1) = true, pokP (p4 (dF (radd (vF (dF dN)) (p4 (dF r.x) (dF r.y) (dF r.z) (dF r.t)) (p4 (dF r.x) (dF r.y) (dF r.z) (dF r.t))).x) (dF (radd (vF (dF dN)) (p4 (dF r.x) (dF r.y) (dF r.z) (dF r.t)) (p4 (dF r.x) (dF r.y) (dF r.z) (dF r.t))).y) (dF (radd (vF (dF dN)) (p4 (dF r.x) (dF r.y) (dF r.z) (dF r.t)) (p4 (dF r.x) (dF r.y) (dF r.z) (dF r.t))).z) (dF (radd (vF (dF dN)) (p4 (dF r.x) (dF r.y) (dF r.z) (dF r.t)) (p4 (dF r.x) (dF r.y) (dF r.z) (dF r.t))).t)), pokP (p4 x y z t), 37095705934669439343138083508754565189542113879843219016388785533085940283555 < P255]) (sc' := []) (by kernel_rfl) ?_ ?_
      · have hB : (k.getD (n / 8) 0 / 2 ^ (n % 8) &&& 1 == 1) = true := by
          rw [and_one, hbit]
          simpa [vB] using hE
        rw [e1, ed, e2]
        exact ⟨by simp, hr, hr, dN_lt, by omega, by omega, by omega, hB, hd, hp, dN_lt, trivial⟩
      · rw [if_pos hE] at he
        have := ih (by omega) _ (radd_ok _ _ _) he
        refine Hold.cast this ?_
        rw [e1, ed, e2]
        rfl
    · refine hold_cut mixed okH3b (unroll := false) (f := 100) (sc := [true, false]) (ks := [2,3,4,5,6,7]) (bs := [0,1,2,3,4]) (nx := 5) (st' := [It.lp [0, 1, 0, 1, 1, 1], It.blk 0, It.at [1, 1, 1, 1]]) (σ' := { nt := 33, slots := [(2, SV.ptr 0 0 (Ix.c 0)), (3, SV.ptr 1 0 (Ix.c 0)), (4, SV.ptr 2 0 (Ix.c 0)), (5, SV.ptr 3 0 (Ix.c 0)), (6, SV.ptr 4 0 (Ix.c 0)), (7, SV.i .i64 ((↑n : Int) - (1 : Int)))], blks := [(0, { ty := 23, segs := [SV.arr .u8 32 k] }), (1, { ty := 70, segs := [SV.arr .u64 4 x, SV.arr .u64 4 y, SV.arr .u64 4 z, SV.arr .u64 4 t] }), (2, { ty := 70, segs := [SV.arr .u64 4 [0, 0, 0, 0], SV.arr .u64 4 [0, 0, 0, 0], SV.arr .u64 4 [0, 0, 0, 0], SV.arr .u64 4 [0, 0, 0, 0]] }), (3, { ty := 55, segs := [SV.arr .u64 4 (dF dN)] }), (4, { ty := 70, segs := [SV.arr .u64 4 (dF (radd (vF (dF dN)) (p4 (dF r.x) (dF r.y) (dF r.z) (dF r.t)) (p4 (dF r.x) (dF r.y) (dF r.z) (dF r.t))).x), SV.arr .u64 4 (dF (radd (vF (dF dN)) (p4 (dF r.x) (dF r.y) (dF r.z) (dF r.t)) (p4 (dF r.x) (dF r.y) (dF r.z) (dF r.t))).y), SV.arr .u64 4 (dF (radd (vF (dF dN)) (p4 (dF r.x) (dF r.y) (dF r.z) (dF r.t)) (p4 (dF r.x) (dF r.y) (dF r.z) (dF r.t))).z), SV.arr .u64 4 (dF (radd (vF (dF dN)) (p4 (dF r.x) (dF r.y) (dF r.z) (dF r.t)) (p4 (dF r.x) (dF r.y) (dF r.z) (dF r.t))).t)] })], next := 5 }) (ob := [Decidable.decide (0 ≤ n) = true, pokP (p4 (dF r.x) (dF r.y) (dF r.z) (dF r.t)), pokP (p4 (dF r.x) (dF r.y) (dF r.z) (dF r.t)), 37095705934669439343138083508754565189542113879843219016388785533085940283555 < P255, n / 8 < 32, n / 8 < 32, n % 8 < 8, (k.getD (n / 8) 0 / 2 ^ (n % 8) &&& 1 == 1) = false]) (sc' := []) (by kernel_rfl) ?_ ?_
      · have hB : (k.getD (n / 8) 0 / 2 ^ (n % 8) &&& 1 == 1) = false := by
          rw [and_one, hbit]
          simpa [vB] using hE
        rw [e1]
        exact ⟨by simp, hr, hr, dN_lt, by omega, by omega, by omega, hB, trivial⟩
      · rw [if_neg hE] at he
        have := ih (by omega) _ hd he
        refine Hold.cast this ?_
        rw [e1, ed]
        rfl
theorem cRtimes : ∀ args res ob, eRtimes args = some (res, ob) → All ob → Contract Tryz.prog 51 args res := by
  intro args res ob h hob
  unfold eRtimes at h
  split at h
  · rename_i k x y z t
    cases h
    refine contract Tryz.func51 (body := bodyOf Tryz.f51) rfl (by kernel_rfl) (by kernel_rfl) rfl ?_
    rintro ⟨hk, _⟩ w0 S
    refine hold_cut mixed okH3b (unroll := false) (f := 100) (sc := []) (ks := [2,3,4,5,6,7]) (bs := [0,1,2,3,4]) (nx := 5) (st' := [It.lp [0, 1, 0, 1, 1, 1], It.blk 0, It.at [1, 1, 1, 1]]) (σ' := { nt := 33, slots := [(2, SV.ptr 0 0 (Ix.c 0)), (3, SV.ptr 1 0 (Ix.c 0)), (4, SV.ptr 2 0 (Ix.c 0)), (5, SV.ptr 3 0 (Ix.c 0)), (6, SV.ptr 4 0 (Ix.c 0)), (7, SV.c .i64 (255 : Int))], blks := [(0, { ty := 23, segs := [SV.arr .u8 32 k] }), (1, { ty := 70, segs := [SV.arr .u64 4 x, SV.arr .u64 4 y, SV.arr .u64 4 z, SV.arr .u64 4 t] }), (2, { ty := 70, segs := [SV.arr .u64 4 [0, 0, 0, 0], SV.arr .u64 4 [0, 0, 0, 0], SV.arr .u64 4 [0, 0, 0, 0], SV.arr .u64 4 [0, 0, 0, 0]] }), (3, { ty := 55, segs := [SV.arr .u64 4 (dF dN)] }), (4, { ty := 70, segs := [SV.arr .u64 4 (dF 0), SV.arr .u64 4 (dF 1), SV.arr .u64 4 (dF 1), SV.arr .u64 4 (dF 0)] })], next := 5 }) (ob := []) (sc' := []) (by kernel_rfl) trivial ?_
    have := rtimes_in (w0 := w0) (S := S) k x y z t hk.2 hob.1 _ rfl 256 (Nat.le_refl _) gO gO_okP rfl
    exact Hold.weaken this (by simp [wks, wk, wk0, wka, sRt])
  · cases h
end
theorem cRead : ∀ args res ob, eRead args = some (res, ob) → All ob → Contract Tryz.prog 49 args res := by
  intro args res ob h hob
  unfold eRead at h
  split at h
  · rename_i a
    cases h
    refine contract Tryz.func49 (body := bodyOf Tryz.f49) rfl (by kernel_rfl) (by kernel_rfl) rfl ?_
    rintro ⟨ha, _⟩ w0 S
    have lY := maskL_lt ha
    have e1 := vd lY
    have e8 := vd (sqV_lt (rA a))
    have e9 := sqV_P (rA a)
    have e10 := dF0_eq (sqV_lt (rA a))
    have u1 : vB (a.set 31 (a.getD 31 0 &&& 127)) = dY a := rfl
    have u2 : (dY a * dY a % P255 + P255 - 1) % P255 * (powF ((37095705934669439343138083508754565189542113879843219016388785533085940283555 * (dY a * dY a % P255) % P255 + 1) % P255) PI % P255) % P255 = rA a := rfl
    have eL : rA a < P255 := ml_lt _ _
    have eA := vd (P_M eL)
    have k1 : 1 < P255 := by decide
    have k0 : 0 < P255 := by decide
    by_cases h1 : dY a < P255
    · have c1 : (!decide (dY a < 57896044618658097711785492504343953926634992332820282019728792003956564819949)) = false := by
        rw [show decide (dY a < 57896044618658097711785492504343953926634992332820282019728792003956564819949) = true from decide_eq_true h1]; rfl
      by_cases h2 : sqOk (rA a) = true
      · have c2 : (!sqOk (rA a)) = false := by rw [h2]; rfl
        by_cases h4 : sqV (rA a) = 0
        · cases h3 : dOdd a with
          | true =>
            · have c3 := decide_eq_true h4
              have c4 : (a.getD 31 0 / 128 == 1) = true := h3
              refine hold_endw mixed okH3b (unroll := true) (f := 300) (sc := [false, false, true, true]) (r := (SV.tup [SV.ag [SV.arr .u64 4 [0, 0, 0, 0], SV.arr .u64 4 [0, 0, 0, 0], SV.arr .u64 4 [0, 0, 0, 0], SV.arr .u64 4 [0, 0, 0, 0]], SV.cb false])) (ob := [(!Decidable.decide (vF (dF (vB (a.set 31 (a.getD 31 0 &&& 127)))) < 57896044618658097711785492504343953926634992332820282019728792003956564819949)) = false, vF (dF (vF (dF (vB (a.set 31 (a.getD 31 0 &&& 127)))) * vF (dF (vB (a.set 31 (a.getD 31 0 &&& 127)))) % P255)) < P255, 1 < P255, vF (dF (37095705934669439343138083508754565189542113879843219016388785533085940283555 * vF (dF (vF (dF (vB (a.set 31 (a.getD 31 0 &&& 127)))) * vF (dF (vB (a.set 31 (a.getD 31 0 &&& 127)))) % P255)) % P255)) < P255, 1 < P255, vF (dF (vF (dF ((vF (dF (vF (dF (vB (a.set 31 (a.getD 31 0 &&& 127)))) * vF (dF (vB (a.set 31 (a.getD 31 0 &&& 127)))) % P255)) + P255 - 1) % P255)) * vF (dF (powF (vF (dF ((vF (dF (37095705934669439343138083508754565189542113879843219016388785533085940283555 * vF (dF (vF (dF (vB (a.set 31 (a.getD 31 0 &&& 127)))) * vF (dF (vB (a.set 31 (a.getD 31 0 &&& 127)))) % P255)) % P255)) + 1) % P255))) PI % P255)) % P255)) < P255, (!sqOk (vF (dF (vF (dF ((vF (dF (vF (dF (vB (a.set 31 (a.getD 31 0 &&& 127)))) * vF (dF (vB (a.set 31 (a.getD 31 0 &&& 127)))) % P255)) + P255 - 1) % P255)) * vF (dF (powF (vF (dF ((vF (dF (37095705934669439343138083508754565189542113879843219016388785533085940283555 * vF (dF (vF (dF (vB (a.set 31 (a.getD 31 0 &&& 127)))) * vF (dF (vB (a.set 31 (a.getD 31 0 &&& 127)))) % P255)) % P255)) + 1) % P255))) PI % P255)) % P255)))) = false, (dF (sqV (vF (dF (vF (dF ((vF (dF (vF (dF (vB (a.set 31 (a.getD 31 0 &&& 127)))) * vF (dF (vB (a.set 31 (a.getD 31 0 &&& 127)))) % P255)) + P255 - 1) % P255)) * vF (dF (powF (vF (dF ((vF (dF (37095705934669439343138083508754565189542113879843219016388785533085940283555 * vF (dF (vF (dF (vB (a.set 31 (a.getD 31 0 &&& 127)))) * vF (dF (vB (a.set 31 (a.getD 31 0 &&& 127)))) % P255)) % P255)) + 1) % P255))) PI % P255)) % P255)))) == [0, 0, 0, 0]) = true, (a.getD 31 0 / 128 == 1) = true]) (sc' := []) (by kernel_rfl) ?_ ?_
              · simp only [u1, e1, vdP, u2, eA, e8, e10]
                repeat' first | exact True.intro | with_reducible exact P_ltP _ | with_reducible exact e9 | with_reducible exact eL | with_reducible exact c1 | with_reducible exact c2 | with_reducible exact c3 | with_reducible exact c4 | with_reducible exact k1 | with_reducible exact k0 | refine ⟨?_, ?_⟩
              · have hb : rdB a = false := by unfold rdB; rw [h2, h3, decide_eq_true h4, decide_eq_true h1]; rfl
                unfold rdP; rw [hb]; exact wk_tupB (by kernel_rfl) rfl
          | false =>
            · have c3 := decide_eq_true h4
              have c4 : (a.getD 31 0 / 128 == 1) = false := h3
              refine hold_endw mixed okH3b (unroll := true) (f := 300) (sc := [false, false, true, false, false]) (r := (SV.tup [SV.ag [SV.arr .u64 4 (dF (sqV (vF (dF (vF (dF ((vF (dF (vF (dF (vB (a.set 31 (a.getD 31 0 &&& 127)))) * vF (dF (vB (a.set 31 (a.getD 31 0 &&& 127)))) % P255)) + P255 - 1) % P255)) * vF (dF (powF (vF (dF ((vF (dF (37095705934669439343138083508754565189542113879843219016388785533085940283555 * vF (dF (vF (dF (vB (a.set 31 (a.getD 31 0 &&& 127)))) * vF (dF (vB (a.set 31 (a.getD 31 0 &&& 127)))) % P255)) % P255)) + 1) % P255))) PI % P255)) % P255))))), SV.arr .u64 4 (dF (vB (a.set 31 (a.getD 31 0 &&& 127)))), SV.arr .u64 4 [1, 0, 0, 0], SV.arr .u64 4 (dF (vF (dF (sqV (vF (dF (vF (dF ((vF (dF (vF (dF (vB (a.set 31 (a.getD 31 0 &&& 127)))) * vF (dF (vB (a.set 31 (a.getD 31 0 &&& 127)))) % P255)) + P255 - 1) % P255)) * vF (dF (powF (vF (dF ((vF (dF (37095705934669439343138083508754565189542113879843219016388785533085940283555 * vF (dF (vF (dF (vB (a.set 31 (a.getD 31 0 &&& 127)))) * vF (dF (vB (a.set 31 (a.getD 31 0 &&& 127)))) % P255)) % P255)) + 1) % P255))) PI % P255)) % P255))))) * vF (dF (vB (a.set 31 (a.getD 31 0 &&& 127)))) % P255))], SV.cb true])) (ob := [(!Decidable.decide (vF (dF (vB (a.set 31 (a.getD 31 0 &&& 127)))) < 57896044618658097711785492504343953926634992332820282019728792003956564819949)) = false, vF (dF (vF (dF (vB (a.set 31 (a.getD 31 0 &&& 127)))) * vF (dF (vB (a.set 31 (a.getD 31 0 &&& 127)))) % P255)) < P255, 1 < P255, vF (dF (37095705934669439343138083508754565189542113879843219016388785533085940283555 * vF (dF (vF (dF (vB (a.set 31 (a.getD 31 0 &&& 127)))) * vF (dF (vB (a.set 31 (a.getD 31 0 &&& 127)))) % P255)) % P255)) < P255, 1 < P255, vF (dF (vF (dF ((vF (dF (vF (dF (vB (a.set 31 (a.getD 31 0 &&& 127)))) * vF (dF (vB (a.set 31 (a.getD 31 0 &&& 127)))) % P255)) + P255 - 1) % P255)) * vF (dF (powF (vF (dF ((vF (dF (37095705934669439343138083508754565189542113879843219016388785533085940283555 * vF (dF (vF (dF (vB (a.set 31 (a.getD 31 0 &&& 127)))) * vF (dF (vB (a.set 31 (a.getD 31 0 &&& 127)))) % P255)) % P255)) + 1) % P255))) PI % P255)) % P255)) < P255, (!sqOk (vF (dF (vF (dF ((vF (dF (vF (dF (vB (a.set 31 (a.getD 31 0 &&& 127)))) * vF (dF (vB (a.set 31 (a.getD 31 0 &&& 127)))) % P255)) + P255 - 1) % P255)) * vF (dF (powF (vF (dF ((vF (dF (37095705934669439343138083508754565189542113879843219016388785533085940283555 * vF (dF (vF (dF (vB (a.set 31 (a.getD 31 0 &&& 127)))) * vF (dF (vB (a.set 31 (a.getD 31 0 &&& 127)))) % P255)) % P255)) + 1) % P255))) PI % P255)) % P255)))) = false, (dF (sqV (vF (dF (vF (dF ((vF (dF (vF (dF (vB (a.set 31 (a.getD 31 0 &&& 127)))) * vF (dF (vB (a.set 31 (a.getD 31 0 &&& 127)))) % P255)) + P255 - 1) % P255)) * vF (dF (powF (vF (dF ((vF (dF (37095705934669439343138083508754565189542113879843219016388785533085940283555 * vF (dF (vF (dF (vB (a.set 31 (a.getD 31 0 &&& 127)))) * vF (dF (vB (a.set 31 (a.getD 31 0 &&& 127)))) % P255)) % P255)) + 1) % P255))) PI % P255)) % P255)))) == [0, 0, 0, 0]) = true, (a.getD 31 0 / 128 == 1) = false, (a.getD 31 0 / 128 == 1) = false]) (sc' := []) (by kernel_rfl) ?_ ?_
              · simp only [u1, e1, vdP, u2, eA, e8, e10]
                repeat' first | exact True.intro | with_reducible exact P_ltP _ | with_reducible exact e9 | with_reducible exact eL | with_reducible exact c1 | with_reducible exact c2 | with_reducible exact c3 | with_reducible exact c4 | with_reducible exact k1 | with_reducible exact k0 | refine ⟨?_, ?_⟩
              · have hb : rdB a = true := by unfold rdB; rw [h2, h3, decide_eq_true h1]; rfl
                simp only [u1, e1, vdP, u2, eA, e8, e10]
                simp only [rdP, rdX, hb, h3, if_true, Bool.false_eq_true, if_false, pt, fe, dF1]; exact wk_tupB rfl rfl
        · cases h3 : dOdd a with
          | true =>
            · have c3 := decide_eq_false h4
              have c4 : (a.getD 31 0 / 128 == 1) = true := h3
              refine hold_endw mixed okH3b (unroll := true) (f := 300) (sc := [false, false, false, true]) (r := (SV.tup [SV.ag [SV.arr .u64 4 (dF ((57896044618658097711785492504343953926634992332820282019728792003956564819949 - vF (dF (sqV (vF (dF (vF (dF ((vF (dF (vF (dF (vB (a.set 31 (a.getD 31 0 &&& 127)))) * vF (dF (vB (a.set 31 (a.getD 31 0 &&& 127)))) % P255)) + P255 - 1) % P255)) * vF (dF (powF (vF (dF ((vF (dF (37095705934669439343138083508754565189542113879843219016388785533085940283555 * vF (dF (vF (dF (vB (a.set 31 (a.getD 31 0 &&& 127)))) * vF (dF (vB (a.set 31 (a.getD 31 0 &&& 127)))) % P255)) % P255)) + 1) % P255))) PI % P255)) % P255)))))) % P255)), SV.arr .u64 4 (dF (vB (a.set 31 (a.getD 31 0 &&& 127)))), SV.arr .u64 4 [1, 0, 0, 0], SV.arr .u64 4 (dF (vF (dF ((57896044618658097711785492504343953926634992332820282019728792003956564819949 - vF (dF (sqV (vF (dF (vF (dF ((vF (dF (vF (dF (vB (a.set 31 (a.getD 31 0 &&& 127)))) * vF (dF (vB (a.set 31 (a.getD 31 0 &&& 127)))) % P255)) + P255 - 1) % P255)) * vF (dF (powF (vF (dF ((vF (dF (37095705934669439343138083508754565189542113879843219016388785533085940283555 * vF (dF (vF (dF (vB (a.set 31 (a.getD 31 0 &&& 127)))) * vF (dF (vB (a.set 31 (a.getD 31 0 &&& 127)))) % P255)) % P255)) + 1) % P255))) PI % P255)) % P255)))))) % P255)) * vF (dF (vB (a.set 31 (a.getD 31 0 &&& 127)))) % P255))], SV.cb true])) (ob := [(!Decidable.decide (vF (dF (vB (a.set 31 (a.getD 31 0 &&& 127)))) < 57896044618658097711785492504343953926634992332820282019728792003956564819949)) = false, vF (dF (vF (dF (vB (a.set 31 (a.getD 31 0 &&& 127)))) * vF (dF (vB (a.set 31 (a.getD 31 0 &&& 127)))) % P255)) < P255, 1 < P255, vF (dF (37095705934669439343138083508754565189542113879843219016388785533085940283555 * vF (dF (vF (dF (vB (a.set 31 (a.getD 31 0 &&& 127)))) * vF (dF (vB (a.set 31 (a.getD 31 0 &&& 127)))) % P255)) % P255)) < P255, 1 < P255, vF (dF (vF (dF ((vF (dF (vF (dF (vB (a.set 31 (a.getD 31 0 &&& 127)))) * vF (dF (vB (a.set 31 (a.getD 31 0 &&& 127)))) % P255)) + P255 - 1) % P255)) * vF (dF (powF (vF (dF ((vF (dF (37095705934669439343138083508754565189542113879843219016388785533085940283555 * vF (dF (vF (dF (vB (a.set 31 (a.getD 31 0 &&& 127)))) * vF (dF (vB (a.set 31 (a.getD 31 0 &&& 127)))) % P255)) % P255)) + 1) % P255))) PI % P255)) % P255)) < P255, (!sqOk (vF (dF (vF (dF ((vF (dF (vF (dF (vB (a.set 31 (a.getD 31 0 &&& 127)))) * vF (dF (vB (a.set 31 (a.getD 31 0 &&& 127)))) % P255)) + P255 - 1) % P255)) * vF (dF (powF (vF (dF ((vF (dF (37095705934669439343138083508754565189542113879843219016388785533085940283555 * vF (dF (vF (dF (vB (a.set 31 (a.getD 31 0 &&& 127)))) * vF (dF (vB (a.set 31 (a.getD 31 0 &&& 127)))) % P255)) % P255)) + 1) % P255))) PI % P255)) % P255)))) = false, (dF (sqV (vF (dF (vF (dF ((vF (dF (vF (dF (vB (a.set 31 (a.getD 31 0 &&& 127)))) * vF (dF (vB (a.set 31 (a.getD 31 0 &&& 127)))) % P255)) + P255 - 1) % P255)) * vF (dF (powF (vF (dF ((vF (dF (37095705934669439343138083508754565189542113879843219016388785533085940283555 * vF (dF (vF (dF (vB (a.set 31 (a.getD 31 0 &&& 127)))) * vF (dF (vB (a.set 31 (a.getD 31 0 &&& 127)))) % P255)) % P255)) + 1) % P255))) PI % P255)) % P255)))) == [0, 0, 0, 0]) = false, (a.getD 31 0 / 128 == 1) = true, 0 < P255, vF (dF (sqV (vF (dF (vF (dF ((vF (dF (vF (dF (vB (a.set 31 (a.getD 31 0 &&& 127)))) * vF (dF (vB (a.set 31 (a.getD 31 0 &&& 127)))) % P255)) + P255 - 1) % P255)) * vF (dF (powF (vF (dF ((vF (dF (37095705934669439343138083508754565189542113879843219016388785533085940283555 * vF (dF (vF (dF (vB (a.set 31 (a.getD 31 0 &&& 127)))) * vF (dF (vB (a.set 31 (a.getD 31 0 &&& 127)))) % P255)) % P255)) + 1) % P255))) PI % P255)) % P255))))) < P255]) (sc' := []) (by kernel_rfl) ?_ ?_
              · simp only [u1, e1, vdP, u2, eA, e8, e10]
                repeat' first | exact True.intro | with_reducible exact P_ltP _ | with_reducible exact e9 | with_reducible exact eL | with_reducible exact c1 | with_reducible exact c2 | with_reducible exact c3 | with_reducible exact c4 | with_reducible exact k1 | with_reducible exact k0 | refine ⟨?_, ?_⟩
              · have hb : rdB a = true := by unfold rdB; rw [h2, h3, decide_eq_false h4, decide_eq_true h1]; rfl
                simp only [u1, e1, vdP, u2, eA, e8, e10]
                simp only [rdP, rdX, hb, h3, if_true, Bool.false_eq_true, if_false, pt, fe, dF1]; exact wk_tupB rfl rfl
          | false =>
            · have c3 := decide_eq_false h4
              have c4 : (a.getD 31 0 / 128 == 1) = false := h3
              refine hold_endw mixed okH3b (unroll := true) (f := 300) (sc := [false, false, false, false]) (r := (SV.tup [SV.ag [SV.arr .u64 4 (dF (sqV (vF (dF (vF (dF ((vF (dF (vF (dF (vB (a.set 31 (a.getD 31 0 &&& 127)))) * vF (dF (vB (a.set 31 (a.getD 31 0 &&& 127)))) % P255)) + P255 - 1) % P255)) * vF (dF (powF (vF (dF ((vF (dF (37095705934669439343138083508754565189542113879843219016388785533085940283555 * vF (dF (vF (dF (vB (a.set 31 (a.getD 31 0 &&& 127)))) * vF (dF (vB (a.set 31 (a.getD 31 0 &&& 127)))) % P255)) % P255)) + 1) % P255))) PI % P255)) % P255))))), SV.arr .u64 4 (dF (vB (a.set 31 (a.getD 31 0 &&& 127)))), SV.arr .u64 4 [1, 0, 0, 0], SV.arr .u64 4 (dF (vF (dF (sqV (vF (dF (vF (dF ((vF (dF (vF (dF (vB (a.set 31 (a.getD 31 0 &&& 127)))) * vF (dF (vB (a.set 31 (a.getD 31 0 &&& 127)))) % P255)) + P255 - 1) % P255)) * vF (dF (powF (vF (dF ((vF (dF (37095705934669439343138083508754565189542113879843219016388785533085940283555 * vF (dF (vF (dF (vB (a.set 31 (a.getD 31 0 &&& 127)))) * vF (dF (vB (a.set 31 (a.getD 31 0 &&& 127)))) % P255)) % P255)) + 1) % P255))) PI % P255)) % P255))))) * vF (dF (vB (a.set 31 (a.getD 31 0 &&& 127)))) % P255))], SV.cb true])) (ob := [(!Decidable.decide (vF (dF (vB (a.set 31 (a.getD 31 0 &&& 127)))) < 57896044618658097711785492504343953926634992332820282019728792003956564819949)) = false, vF (dF (vF (dF (vB (a.set 31 (a.getD 31 0 &&& 127)))) * vF (dF (vB (a.set 31 (a.getD 31 0 &&& 127)))) % P255)) < P255, 1 < P255, vF (dF (37095705934669439343138083508754565189542113879843219016388785533085940283555 * vF (dF (vF (dF (vB (a.set 31 (a.getD 31 0 &&& 127)))) * vF (dF (vB (a.set 31 (a.getD 31 0 &&& 127)))) % P255)) % P255)) < P255, 1 < P255, vF (dF (vF (dF ((vF (dF (vF (dF (vB (a.set 31 (a.getD 31 0 &&& 127)))) * vF (dF (vB (a.set 31 (a.getD 31 0 &&& 127)))) % P255)) + P255 - 1) % P255)) * vF (dF (powF (vF (dF ((vF (dF (37095705934669439343138083508754565189542113879843219016388785533085940283555 * vF (dF (vF (dF (vB (a.set 31 (a.getD 31 0 &&& 127)))) * vF (dF (vB (a.set 31 (a.getD 31 0 &&& 127)))) % P255)) % P255)) + 1) % P255))) PI % P255)) % P255)) < P255, (!sqOk (vF (dF (vF (dF ((vF (dF (vF (dF (vB (a.set 31 (a.getD 31 0 &&& 127)))) * vF (dF (vB (a.set 31 (a.getD 31 0 &&& 127)))) % P255)) + P255 - 1) % P255)) * vF (dF (powF (vF (dF ((vF (dF (37095705934669439343138083508754565189542113879843219016388785533085940283555 * vF (dF (vF (dF (vB (a.set 31 (a.getD 31 0 &&& 127)))) * vF (dF (vB (a.set 31 (a.getD 31 0 &&& 127)))) % P255)) % P255)) + 1) % P255))) PI % P255)) % P255)))) = false, (dF (sqV (vF (dF (vF (dF ((vF (dF (vF (dF (vB (a.set 31 (a.getD 31 0 &&& 127)))) * vF (dF (vB (a.set 31 (a.getD 31 0 &&& 127)))) % P255)) + P255 - 1) % P255)) * vF (dF (powF (vF (dF ((vF (dF (37095705934669439343138083508754565189542113879843219016388785533085940283555 * vF (dF (vF (dF (vB (a.set 31 (a.getD 31 0 &&& 127)))) * vF (dF (vB (a.set 31 (a.getD 31 0 &&& 127)))) % P255)) % P255)) + 1) % P255))) PI % P255)) % P255)))) == [0, 0, 0, 0]) = false, (a.getD 31 0 / 128 == 1) = false]) (sc' := []) (by kernel_rfl) ?_ ?_
              · simp only [u1, e1, vdP, u2, eA, e8, e10]
                repeat' first | exact True.intro | with_reducible exact P_ltP _ | with_reducible exact e9 | with_reducible exact eL | with_reducible exact c1 | with_reducible exact c2 | with_reducible exact c3 | with_reducible exact c4 | with_reducible exact k1 | with_reducible exact k0 | refine ⟨?_, ?_⟩
              · have hb : rdB a = true := by unfold rdB; rw [h2, h3, decide_eq_true h1]; rfl
                simp only [u1, e1, vdP, u2, eA, e8, e10]
                simp only [rdP, rdX, hb, h3, if_true, Bool.false_eq_true, if_false, pt, fe, dF1]; exact wk_tupB rfl rfl
      · have h2 : sqOk (rA a) = false := by simpa using h2
        have c2 : (!sqOk (rA a)) = true := by rw [h2]; rfl
        · have c3 := True.intro
          refine hold_endw mixed okH3b (unroll := true) (f := 300) (sc := [false, true]) (r := (SV.tup [SV.ag [SV.arr .u64 4 [0, 0, 0, 0], SV.arr .u64 4 [0, 0, 0, 0], SV.arr .u64 4 [0, 0, 0, 0], SV.arr .u64 4 [0, 0, 0, 0]], SV.cb false])) (ob := [(!Decidable.decide (vF (dF (vB (a.set 31 (a.getD 31 0 &&& 127)))) < 57896044618658097711785492504343953926634992332820282019728792003956564819949)) = false, vF (dF (vF (dF (vB (a.set 31 (a.getD 31 0 &&& 127)))) * vF (dF (vB (a.set 31 (a.getD 31 0 &&& 127)))) % P255)) < P255, 1 < P255, vF (dF (37095705934669439343138083508754565189542113879843219016388785533085940283555 * vF (dF (vF (dF (vB (a.set 31 (a.getD 31 0 &&& 127)))) * vF (dF (vB (a.set 31 (a.getD 31 0 &&& 127)))) % P255)) % P255)) < P255, 1 < P255, vF (dF (vF (dF ((vF (dF (vF (dF (vB (a.set 31 (a.getD 31 0 &&& 127)))) * vF (dF (vB (a.set 31 (a.getD 31 0 &&& 127)))) % P255)) + P255 - 1) % P255)) * vF (dF (powF (vF (dF ((vF (dF (37095705934669439343138083508754565189542113879843219016388785533085940283555 * vF (dF (vF (dF (vB (a.set 31 (a.getD 31 0 &&& 127)))) * vF (dF (vB (a.set 31 (a.getD 31 0 &&& 127)))) % P255)) % P255)) + 1) % P255))) PI % P255)) % P255)) < P255, (!sqOk (vF (dF (vF (dF ((vF (dF (vF (dF (vB (a.set 31 (a.getD 31 0 &&& 127)))) * vF (dF (vB (a.set 31 (a.getD 31 0 &&& 127)))) % P255)) + P255 - 1) % P255)) * vF (dF (powF (vF (dF ((vF (dF (37095705934669439343138083508754565189542113879843219016388785533085940283555 * vF (dF (vF (dF (vB (a.set 31 (a.getD 31 0 &&& 127)))) * vF (dF (vB (a.set 31 (a.getD 31 0 &&& 127)))) % P255)) % P255)) + 1) % P255))) PI % P255)) % P255)))) = true]) (sc' := []) (by kernel_rfl) ?_ ?_
          · simp only [u1, e1, vdP, u2, eA, e8, e10]
            repeat' first | exact True.intro | with_reducible exact P_ltP _ | with_reducible exact e9 | with_reducible exact eL | with_reducible exact c1 | with_reducible exact c2 | with_reducible exact c3 | with_reducible exact c4 | with_reducible exact k1 | with_reducible exact k0 | refine ⟨?_, ?_⟩
          · have hb : rdB a = false := by unfold rdB; rw [h2, decide_eq_true h1]; rfl
            unfold rdP; rw [hb]; exact wk_tupB (by kernel_rfl) rfl
    · have c1 : (!decide (dY a < 57896044618658097711785492504343953926634992332820282019728792003956564819949)) = true := by
        rw [show decide (dY a < 57896044618658097711785492504343953926634992332820282019728792003956564819949) = false from decide_eq_false h1]; rfl
      have c2 := True.intro
      · have c3 := True.intro
        refine hold_endw mixed okH3b (unroll := true) (f := 300) (sc := [true]) (r := (SV.tup [SV.ag [SV.arr .u64 4 [0, 0, 0, 0], SV.arr .u64 4 [0, 0, 0, 0], SV.arr .u64 4 [0, 0, 0, 0], SV.arr .u64 4 [0, 0, 0, 0]], SV.cb false])) (ob := [(!Decidable.decide (vF (dF (vB (a.set 31 (a.getD 31 0 &&& 127)))) < 57896044618658097711785492504343953926634992332820282019728792003956564819949)) = true]) (sc' := []) (by kernel_rfl) ?_ ?_
        · simp only [u1, e1, vdP, u2, eA, e8, e10]
          repeat' first | exact True.intro | with_reducible exact P_ltP _ | with_reducible exact e9 | with_reducible exact eL | with_reducible exact c1 | with_reducible exact c2 | with_reducible exact c3 | with_reducible exact c4 | with_reducible exact k1 | with_reducible exact k0 | refine ⟨?_, ?_⟩
        · have hb : rdB a = false := by unfold rdB; rw [decide_eq_false h1]; rfl
          unfold rdP; rw [hb]; exact wk_tupB (by kernel_rfl) rfl
  · cases h
theorem okH3c : CtrOk Tryz.prog H3c := addC_ok (addC_ok okH3b cRtimes) cRead
end Go.Eng.G

namespace Go.Eng.G
open Go Go.Eng Go.Proofs Go.Eng.B
set_option maxRecDepth 100000
def pm (p : P4) : P4 := ⟨p.x % P255, p.y % P255, p.z % P255, p.t % P255⟩
theorem pm_ok (p : P4) : pokP (pm p) := pokP_mk (P_ltP _) (P_ltP _) (P_ltP _) (P_ltP _)
theorem pm_id {p : P4} (h : pokP p) : pm p = p := by
  unfold pm; rw [Nat.mod_eq_of_lt h.1, Nat.mod_eq_of_lt h.2.1, Nat.mod_eq_of_lt h.2.2.1, Nat.mod_eq_of_lt h.2.2.2]
theorem ml_mod (a b : Nat) : ml (a % P255) (b % P255) = ml a b := by unfold ml; rw [← Nat.mul_mod]
theorem ml_right (a b c : Nat) : ml (ml a b) c = ml (ml a c) b := by
  unfold ml
  rw [Nat.mul_mod, Nat.mod_mod, ← Nat.mul_mod, Nat.mul_mod (a * c % P255), Nat.mod_mod, ← Nat.mul_mod, Nat.mul_right_comm]
section
variable {x1 y1 x2 y2 : Nat} (h1 : x1 < M256) (h2 : y1 < M256) (h3 : x2 < M256) (h4 : y2 < M256)
include h1 h2 h3 h4
theorem cgE' : gE x1 y1 x2 y2 % P255 = rE (x1 % P255) (y1 % P255) (x2 % P255) (y2 % P255) :=
  cg_sub (mulF_lt (addF_lt h2 h1) (addF_lt h4 h3)) (mulF_lt (subF_lt _ _) (subF_lt _ _)) (cg_mul (cg_add h2 h1 rfl rfl) (cg_add h4 h3 rfl rfl)) (cg_mul (cg_sub h2 h1 rfl rfl) (cg_sub h4 h3 rfl rfl))
theorem cgI' : gI x1 y1 x2 y2 % P255 = rI (x1 % P255) (y1 % P255) (x2 % P255) (y2 % P255) :=
  cg_add (mulF_lt (addF_lt h2 h1) (addF_lt h4 h3)) (mulF_lt (subF_lt _ _) (subF_lt _ _)) (cg_mul (cg_add h2 h1 rfl rfl) (cg_add h4 h3 rfl rfl)) (cg_mul (cg_sub h2 h1 rfl rfl) (cg_sub h4 h3 rfl rfl))
end
theorem cgC' {w : Nat} (hwd : w % P255 = pl dN dN) (t1 t2 : Nat) : gC w t1 t2 % P255 = rC dN (t1 % P255) (t2 % P255) := by
  unfold gC rC
  rw [ml_right, ← hwd]
  exact cg_mul (cg_mul rfl rfl) rfl
theorem cgZ' {z1 z2 : Nat} (h1 : z1 < M256) (h2 : z2 < M256) : gZ z1 z2 % P255 = rZ (z1 % P255) (z2 % P255) :=
  cg_add (mulF_lt h1 h2) (mulF_lt h1 h2) (cg_mul rfl rfl) (cg_mul rfl rfl)
theorem gC_lt {w t1 t2 : Nat} (hw : w < M256) (h1 : t1 < M256) (h2 : t2 < M256) : gC w t1 t2 < M256 := mulF_lt (mulF_lt h1 hw) h2
section
variable {w z1 t1 z2 t2 : Nat} (hw : w < M256) (hwd : w % P255 = pl dN dN) (h1 : z1 < M256) (h2 : t1 < M256) (h3 : z2 < M256) (h4 : t2 < M256)
include hw hwd h1 h2 h3 h4
theorem cgF' : gF w z1 t1 z2 t2 % P255 = rF dN (z1 % P255) (t1 % P255) (z2 % P255) (t2 % P255) :=
  cg_sub (gZ_lt h1 h3) (gC_lt hw h2 h4) (cgZ' h1 h3) (cgC' hwd t1 t2)
theorem cgH' : gH w z1 t1 z2 t2 % P255 = rH dN (z1 % P255) (t1 % P255) (z2 % P255) (t2 % P255) :=
  cg_add (gZ_lt h1 h3) (gC_lt hw h2 h4) (cgZ' h1 h3) (cgC' hwd t1 t2)
end
theorem P4_mk {x y z t x' y' z' t' : Nat} (h1 : x = x') (h2 : y = y') (h3 : z = z') (h4 : t = t') : (⟨x, y, z, t⟩ : P4) = ⟨x', y', z', t'⟩ := by rw [h1, h2, h3, h4]
theorem P4_ext {p q : P4} (h1 : p.x = q.x) (h2 : p.y = q.y) (h3 : p.z = q.z) (h4 : p.t = q.t) : p = q := by
  cases p; cases q; simp only at h1 h2 h3 h4; rw [h1, h2, h3, h4]
theorem gadd_mod {w : Nat} (hw : w < M256) (hwd : w % P255 = pl dN dN) {p q : P4} (hp : pok p) (hq : pok q) : pm (gadd w p q) = radd dN (pm p) (pm q) := by
  have e := cgE' hp.1 hp.2.1 hq.1 hq.2.1
  have i := cgI' hp.1 hp.2.1 hq.1 hq.2.1
  have f := cgF' hw hwd hp.2.2.1 hp.2.2.2 hq.2.2.1 hq.2.2.2
  have h := cgH' hw hwd hp.2.2.1 hp.2.2.2 hq.2.2.1 hq.2.2.2
  simp only [pm, gadd, radd, P4.mk.injEq]
  exact ⟨cg_mul e f, cg_mul h i, cg_mul f h, cg_mul e i⟩
theorem mk_x (a b c d : Nat) : (⟨a, b, c, d⟩ : P4).x = a := rfl
theorem mk_y (a b c d : Nat) : (⟨a, b, c, d⟩ : P4).y = b := rfl
theorem mk_z (a b c d : Nat) : (⟨a, b, c, d⟩ : P4).z = c := rfl
theorem mk_t (a b c d : Nat) : (⟨a, b, c, d⟩ : P4).t = d := rfl
theorem pm_mk (a b c d : Nat) : pm ⟨a, b, c, d⟩ = ⟨a % P255, b % P255, c % P255, d % P255⟩ := rfl
theorem pm_eq (p : P4) : pm p = ⟨p.x % P255, p.y % P255, p.z % P255, p.t % P255⟩ := rfl
theorem gneg_eq (p : P4) : gneg p = ⟨subF 0 p.x, p.y, p.z, subF 0 p.t⟩ := rfl
theorem rneg_eq (p : P4) : rneg p = ⟨mi 0 p.x, p.y, p.z, mi 0 p.t⟩ := rfl
theorem gneg_mod {p : P4} (hp : pok p) : pm (gneg p) = rneg (pm p) := by
  have e0 : 0 % P255 = 0 := by decide
  have m0 : 0 < M256 := by decide
  have h1 := cg_sub m0 hp.1 e0 (rfl : p.x % P255 = p.x % P255)
  have h2 := cg_sub m0 hp.2.2.2 e0 (rfl : p.t % P255 = p.t % P255)
  rw [gneg_eq, pm_mk, rneg_eq, pm_eq p, mk_x, mk_y, mk_z, mk_t, h1, h2]
theorem gtm_mod {w : Nat} (hw : w < M256) (hwd : w % P255 = pl dN dN) (k : Nat) {p : P4} (hp : pok p) : ∀ n r, pok r → pm (gtm w k p n r) = rtm dN k (pm p) n (pm r) := by
  intro n
  induction n with
  | zero => intro r _; rfl
  | succ n ih =>
    intro r hr
    have hd := gadd_ok hw hr hr
    simp only [gtm, rtm]
    split
    · rw [ih _ (gadd_ok hw hd hp), gadd_mod hw hwd hd hp, gadd_mod hw hwd hr hr]
    · rw [ih _ hd, gadd_mod hw hwd hr hr]
theorem encV_mod (p : P4) : encV p = encR (pm p) := by
  have hi : powF p.z PI % P255 = powF (p.z % P255) PI % P255 := powF_congr _ (Nat.mod_mod _ _).symm
  have hy : mulF p.y (powF p.z PI) % P255 = ml (p.y % P255) (powF (p.z % P255) PI % P255) := cg_mul rfl hi
  have hx : mulF p.x (powF p.z PI) % P255 = ml (p.x % P255) (powF (p.z % P255) PI % P255) := cg_mul rfl hi
  unfold encV encR
  rw [hy, hx]
  rfl
theorem dA_mod {a : List Nat} (lY : dY a < M256) : dA DP a % P255 = rA a := by
  have hyy : mulF (dY a) (dY a) % P255 = ml (dY a) (dY a) := by rw [← ml_mod]; exact cg_mul rfl rfl
  have h1 : subF (mulF (dY a) (dY a)) 1 % P255 = mi (ml (dY a) (dY a)) 1 := cg_sub (mulF_lt lY lY) (by decide) hyy (by decide)
  have h2 : addF (mulF DP (mulF (dY a) (dY a))) 1 % P255 = pl (ml dN (ml (dY a) (dY a))) 1 :=
    cg_add (mulF_lt DP_lt (mulF_lt lY lY)) (by decide) (cg_mul DP_mod hyy) (by decide)
  exact cg_mul h1 ((powF_congr PI (B := pl (ml dN (ml (dY a) (dY a))) 1) (by rw [h2, Nat.mod_eq_of_lt (pl_lt _ _)])).trans rfl)
theorem decB_eq {a : List Nat} (lY : dY a < M256) : decB DP a = rdB a := by
  have h := dA_mod lY
  have h2 : dA DP a % P255 = rA a % P255 := by rw [h, Nat.mod_eq_of_lt (show rA a < P255 from ml_lt _ _)]
  unfold decB rdB
  rw [sqOk_congr h2, sqV_congr h2]
theorem decP_mod {a : List Nat} (lY : dY a < M256) : pm (decP DP a) = rdP a := by
  have h := dA_mod lY
  have h2 : dA DP a % P255 = rA a % P255 := by rw [h, Nat.mod_eq_of_lt (show rA a < P255 from ml_lt _ _)]
  have hX : decX DP a % P255 = rdX a := by
    unfold decX rdX
    rw [sqV_congr h2]
    split
    · exact cg_sub (show 0 < M256 by decide) (sqV_lt (rA a)) (show 0 % P255 = 0 by decide) (Nat.mod_eq_of_lt (sqV_P (rA a)))
    · exact Nat.mod_eq_of_lt (sqV_P (rA a))
  unfold decP rdP
  rw [decB_eq lY]
  split
  · rename_i hb
    have hY := Nat.mod_eq_of_lt (rdB_Y hb)
    have h1 : 1 % P255 = 1 := by decide
    have h4 := cg_mul hX hY
    rw [pm_mk, hX, hY, h1, h4]
  · rfl
theorem decP_ok {a : List Nat} (lY : dY a < M256) (d : Nat) : pok (decP d a) := by
  have hX : decX d a < M256 := by
    unfold decX
    split
    · exact subF_lt _ _
    · exact sqV_lt _
  unfold decP
  split
  · exact pok_mk hX lY (by decide) (mulF_lt hX lY)
  · exact pok_mk (by decide) (by decide) (by decide) (by decide)
def W2 : Nat := addF DP DP
theorem W2_lt : W2 < M256 := addF_lt DP_lt DP_lt
theorem W2_mod : W2 % P255 = pl dN dN := cg_add DP_lt DP_lt DP_mod DP_mod
end Go.Eng.G

namespace Go.Eng.G
open Go Go.Eng Go.Proofs Go.Eng.B
set_option maxRecDepth 100000
set_option maxHeartbeats 1000000
theorem Q_ml (a b : Nat) : Q (ml a b : Int) ((a : Int) * b) := by
  rw [← Int.natCast_mul]
  exact Q_nat.2 (by unfold ml; rw [Nat.mod_mod])
theorem Q_pl (a b : Nat) : Q (pl a b : Int) ((a : Int) + b) := by
  rw [← Int.natCast_add]
  exact Q_nat.2 (by unfold pl; rw [Nat.mod_mod])
theorem D_P : D (P255 : Int) := Int.dvd_refl _
theorem Q_mi (a : Nat) {b : Nat} (hb : b < P255) : Q (mi a b : Int) ((a : Int) - b) := by
  have h1 : Q (mi a b : Int) ((a + P255 - b : Nat) : Int) := Q_nat.2 (by unfold mi; rw [Nat.mod_mod])
  refine Q.trans h1 (D.of D_P ?_)
  have : ((a + P255 - b : Nat) : Int) = (a : Int) + (P255 : Int) - b := by omega
  rw [this]
  omega
def repP (p : P4) (A : Pt) : Prop := rep p.x p.y p.z p.t A
theorem rep_radd {p q : P4} {A B : Pt} (hp : pokP p) (hq : pokP q) (hA : onC A) (hB : onC B) (h1 : repP p A) (h2 : repP q B) : repP (radd dN p q) (padd A B) := by
  have ha : Q (ml (mi p.y p.x) (mi q.y q.x) : Int) (((p.y : Int) - p.x) * ((q.y : Int) - q.x)) := Q.trans (Q_ml _ _) (Q.mul (Q_mi _ hp.1) (Q_mi _ hq.1))
  have hb : Q (ml (pl p.y p.x) (pl q.y q.x) : Int) (((p.y : Int) + p.x) * ((q.y : Int) + q.x)) := Q.trans (Q_ml _ _) (Q.mul (Q_pl _ _) (Q_pl _ _))
  have hc : Q (rC dN p.t q.t : Int) ((p.t : Int) * ((dN : Int) + dN) * q.t) :=
    Q.trans (Q_ml _ _) (Q.trans (Q.mul (Q_ml _ _) (Q_pl _ _)) (Q.of (by grind)))
  have hz : Q (rZ p.z q.z : Int) ((p.z : Int) * q.z + (p.z : Int) * q.z) := Q.trans (Q_pl _ _) (Q.add (Q_ml _ _) (Q_ml _ _))
  have he : Q (rE p.x p.y q.x q.y : Int) ((ml (pl p.y p.x) (pl q.y q.x) : Int) - (ml (mi p.y p.x) (mi q.y q.x) : Int)) := Q_mi _ (ml_lt _ _)
  have hi : Q (rI p.x p.y q.x q.y : Int) ((ml (pl p.y p.x) (pl q.y q.x) : Int) + (ml (mi p.y p.x) (mi q.y q.x) : Int)) := Q_pl _ _
  have hf : Q (rF dN p.z p.t q.z q.t : Int) ((rZ p.z q.z : Int) - (rC dN p.t q.t : Int)) := Q_mi _ (ml_lt _ _)
  have hh : Q (rH dN p.z p.t q.z q.t : Int) ((rZ p.z q.z : Int) + (rC dN p.t q.t : Int)) := Q_pl _ _
  have R := rep_add hA hB h1 h2 ha hb hc hz he hf hh hi
  obtain ⟨r1, r2, r3, r4⟩ := R
  have z3 := Q_ml (rF dN p.z p.t q.z q.t) (rH dN p.z p.t q.z q.t)
  have x3 := Q_ml (rE p.x p.y q.x q.y) (rF dN p.z p.t q.z q.t)
  have y3 := Q_ml (rH dN p.z p.t q.z q.t) (rI p.x p.y q.x q.y)
  have t3 := Q_ml (rE p.x p.y q.x q.y) (rI p.x p.y q.x q.y)
  have g1 : ¬ D (ml (rF dN p.z p.t q.z q.t) (rH dN p.z p.t q.z q.t) : Int) := z3.nD r1
  have g2 := Q.trans x3 (Q.trans r2 (Q.mul (Q.rfl' ((padd A B).1 : Int)) z3.symm))
  have g3 := Q.trans y3 (Q.trans r3 (Q.mul (Q.rfl' ((padd A B).2 : Int)) z3.symm))
  have g4 := Q.trans t3 (Q.trans r4 (Q.mul (Q.rfl' (((padd A B).1 : Int) * ((padd A B).2 : Int))) z3.symm))
  exact ⟨g1, g2, g3, g4⟩
theorem rep_O : repP gO pO := by
  refine ⟨nD1, Q.of ?_, Q.of ?_, Q.of ?_⟩ <;> decide
theorem rep_rtm {p : P4} {A : Pt} (hp : pokP p) (hA : onC A) (h : repP p A) (k : Nat) : ∀ n r m, pokP r → repP r (nsm m A) → repP (rtm dN k p n r) (nsm (m * 2 ^ n + k % 2 ^ n) A) := by
  intro n
  induction n with
  | zero =>
    intro r m _ hr
    rw [Nat.pow_zero, Nat.mod_one, Nat.mul_one, Nat.add_zero]
    exact hr
  | succ n ih =>
    intro r m hr hrep
    have hm := nsm_on hA m
    have h2 := rep_radd hr hr hm hm hrep hrep
    rw [← nsm_add hA m m] at h2
    have hE : k % 2 ^ (n + 1) = 2 ^ n * (k / 2 ^ n % 2) + k % 2 ^ n := by
      rw [Nat.pow_succ, Nat.mod_mul]
      omega
    simp only [rtm]
    split
    · rename_i hb
      have h3 := rep_radd (radd_ok dN r r) hp (nsm_on hA (m + m)) hA h2 h
      have e : padd (nsm (m + m) A) A = nsm (m + m + 1) A := rfl
      rw [e] at h3
      have h4 := ih _ _ (radd_ok dN (radd dN r r) p) h3
      rw [hE, hb]
      have e2 : (m + m + 1) * 2 ^ n + k % 2 ^ n = m * 2 ^ (n + 1) + (2 ^ n * 1 + k % 2 ^ n) := by rw [Nat.pow_succ]; grind
      rw [e2] at h4
      exact h4
    · rename_i hb
      have hb0 : k / 2 ^ n % 2 = 0 := by omega
      have h4 := ih _ _ (radd_ok dN r r) h2
      rw [hE, hb0]
      have e2 : (m + m) * 2 ^ n + k % 2 ^ n = m * 2 ^ (n + 1) + (2 ^ n * 0 + k % 2 ^ n) := by rw [Nat.pow_succ]; grind
      rw [e2] at h4
      exact h4
theorem rep_times {p : P4} {A : Pt} (hp : pokP p) (hA : onC A) (h : repP p A) {k : Nat} (hk : k < M256) : repP (rtm dN k p 256 gO) (nsm k A) := by
  have := rep_rtm hp hA h k 256 gO 0 gO_okP rep_O
  rw [Nat.zero_mul, Nat.zero_add, Nat.mod_eq_of_lt (show k < 2 ^ 256 from hk)] at this
  exact this
def encP (A : Pt) : Nat := A.2 + (A.1 % 2) * 57896044618658097711785492504343953926634992332820282019728792003956564819968
theorem inv_Q {z : Nat} (h : ¬ D (z : Int)) : Q ((z : Int) * ((powF z PI % P255 : Nat) : Int)) 1 := by
  have h0 : z % P255 ≠ 0 := fun h0 => h (D_nat.2 (Nat.dvd_of_mod_eq_zero h0))
  rw [← Int.natCast_mul]
  exact Q_nat.2 (by rw [inv_mul h0]; decide)
theorem encR_rep {p : P4} {A : Pt} (hA : onC A) (h : repP p A) : encR p = encP A := by
  obtain ⟨hz, hx, hy, _⟩ := h
  have hi := inv_Q hz
  have key : ∀ {u : Nat} {a : Nat}, Q (u : Int) ((a : Int) * p.z) → a < P255 → ml u (powF p.z PI % P255) = a := fun {u a} hu ha => by
    refine Q_uniq (ml_lt _ _) ha (Q.trans (Q_ml _ _) (Q.trans (Q.mul hu (Q.rfl' _)) ?_))
    refine Q.trans (Q.of (Int.mul_assoc _ _ _)) (Q.trans (Q.mul (Q.rfl' _) hi) (Q.of (Int.mul_one _)))
  unfold encR encP
  rw [key hx hA.1, key hy hA.2.1]
theorem nz_den (y : Int) : ¬ D ((dN : Int) * (y * y) + 1) := by
  intro h
  have h1 : Q ((iN : Int) * iN) ((dN : Int) * (y * y)) := Q.trans iN_sq (Q.symm (D.of h (by omega)))
  have h2 := d_ns h1
  exact nD1 (D.of (D.sub h (D.mul h2 ((dN : Int) * y))) (by grind))
theorem rA_Q {a : List Nat} : Q ((rA a : Int) * ((dN : Int) * ((dY a : Int) * dY a) + 1)) ((dY a : Int) * dY a - 1) := by
  have hyy := Q_ml (dY a) (dY a)
  have hden : Q (pl (ml dN (ml (dY a) (dY a))) 1 : Int) ((dN : Int) * ((dY a : Int) * dY a) + 1) :=
    Q.trans (Q_pl _ _) (Q.add (Q.trans (Q_ml _ _) (Q.mul (Q.rfl' _) hyy)) (Q.rfl' _))
  have hn := hden.nD (nz_den _)
  have hi := inv_Q hn
  have hnum : Q (mi (ml (dY a) (dY a)) 1 : Int) ((dY a : Int) * dY a - 1) := Q.trans (Q_mi _ (by decide)) (Q.sub hyy (Q.rfl' _))
  have h1 : Q (rA a : Int) (((dY a : Int) * dY a - 1) * ((powF (pl (ml dN (ml (dY a) (dY a))) 1) PI % P255 : Nat) : Int)) := Q.trans (Q_ml _ _) (Q.mul hnum (Q.rfl' _))
  refine Q.trans (Q.mul h1 hden.symm) ?_
  refine Q.trans (Q.of ?_) (Q.trans (Q.mul (Q.rfl' ((dY a : Int) * dY a - 1)) hi) (Q.of (Int.mul_one _)))
  rw [Int.mul_assoc, Int.mul_comm ((powF (pl (ml dN (ml (dY a) (dY a))) 1) PI % P255 : Nat) : Int)]
theorem rdX_sq {a : List Nat} (h : sqOk (rA a) = true) : Q ((rdX a : Int) * rdX a) (rA a) := by
  have h1 : Q ((sqV (rA a) : Int) * sqV (rA a)) (rA a) := by
    rw [← Int.natCast_mul]
    exact Q_nat.2 (sqV_sq h)
  unfold rdX
  split
  · have h2 := Q_mi 0 (sqV_P (rA a))
    refine Q.trans (Q.mul h2 h2) (Q.trans (Q.of ?_) h1)
    rw [show ((0 : Nat) : Int) = 0 from rfl]; grind
  · exact h1
def rdPt (a : List Nat) : Pt := (rdX a, dY a)
theorem rd_sq {a : List Nat} (h : rdB a = true) : sqOk (rA a) = true := by
  unfold rdB at h
  rw [Bool.and_eq_true, Bool.and_eq_true] at h
  exact h.2.1
theorem rd_on {a : List Nat} (h : rdB a = true) : onC (rdPt a) := by
  refine ⟨rdX_lt a, rdB_Y h, ?_⟩
  have h1 := rdX_sq (rd_sq h)
  have h2 := rA_Q (a := a)
  have h3 : Q (((rdX a : Int) * rdX a) * ((dN : Int) * ((dY a : Int) * dY a) + 1)) ((dY a : Int) * dY a - 1) := Q.trans (Q.mul h1 (Q.rfl' _)) h2
  show D (eE dN (rdX a) (dY a))
  refine D.of (D.neg h3) ?_
  unfold eE; grind
theorem rd_rep {a : List Nat} (h : rdB a = true) : repP (rdP a) (rdPt a) := by
  have e : rdP a = ⟨rdX a, dY a, 1, ml (rdX a) (dY a)⟩ := by unfold rdP; rw [if_pos h]
  rw [e]
  refine ⟨nD1, Q.of ?_, Q.of ?_, ?_⟩
  · exact (Int.mul_one _).symm
  · exact (Int.mul_one _).symm
  · refine Q.trans (Q_ml _ _) (Q.of ?_)
    exact (Int.mul_one _).symm
end Go.Eng.G

namespace Go.Eng.G
open Go Go.Eng Go.Proofs Go.Eng.B
set_option maxRecDepth 100000
set_option maxHeartbeats 1000000
theorem and127 (x : Nat) : x &&& 127 = x % 128 := Nat.and_two_pow_sub_one_eq_mod x 7
theorem mk_top {y b : Nat} (hy : y < 57896044618658097711785492504343953926634992332820282019728792003956564819968) (hb : b < 2) :
    (y + b * 57896044618658097711785492504343953926634992332820282019728792003956564819968) / 452312848583266388373324160190187140051835877600158453279131187530910662656 % 256 % 128 = y / 452312848583266388373324160190187140051835877600158453279131187530910662656 % 256 := by omega
theorem maskL_dB {y : Nat} (hy : y < 57896044618658097711785492504343953926634992332820282019728792003956564819968) (b : Nat) (hb : b < 2) :
    maskL (dB (y + b * 57896044618658097711785492504343953926634992332820282019728792003956564819968)) = dB y := by
  unfold maskL dB
  apply ext_getD (by rw [List.length_set, dg_length, dg_length])
  intro j hj
  rw [List.length_set, dg_length] at hj
  rw [dg_getD _ _ y j hj]
  by_cases h31 : j = 31
  · subst h31
    rw [getD_set_eq (by rw [dg_length]; exact hj), dg_getD _ _ _ _ hj]
    rw [and127]
    have e : (256 : Nat) ^ 31 = 452312848583266388373324160190187140051835877600158453279131187530910662656 := by decide
    rw [e]
    exact mk_top hy hb
  · rw [getD_set_ne (fun h => h31 h.symm), dg_getD _ _ _ j hj]
    have e : b * 57896044618658097711785492504343953926634992332820282019728792003956564819968 = 256 ^ j * (256 * (2 ^ (247 - 8 * j) * b)) := by
      have e2 : (57896044618658097711785492504343953926634992332820282019728792003956564819968 : Nat) = 256 ^ j * 256 * 2 ^ (247 - 8 * j) := by
        rw [← Nat.pow_succ, pow_8, ← Nat.pow_add, show 8 * (j + 1) + (247 - 8 * j) = 255 by omega]
      conv => lhs; rw [e2]
      rw [Nat.mul_comm b]
      simp only [Nat.mul_assoc]
    rw [e, Nat.add_mul_div_left _ _ (Nat.pow_pos (by decide)), Nat.add_mul_mod_self_left]
theorem P_2255 : P255 < 57896044618658097711785492504343953926634992332820282019728792003956564819968 := by decide
section
variable {A : Pt} (hA : onC A)
include hA
theorem enc_Y : dY (dB (encP A)) = A.2 := by
  unfold dY encP
  rw [maskL_dB (Nat.lt_trans hA.2.1 P_2255) _ (Nat.mod_lt _ (by decide)), vB_dB, Nat.mod_eq_of_lt (P_M hA.2.1)]
theorem enc_odd : dOdd (dB (encP A)) = (A.1 % 2 == 1) := by
  have h1 := Nat.lt_trans hA.2.1 P_2255
  have h2 : A.1 % 2 < 2 := Nat.mod_lt _ (by decide)
  unfold dOdd dB
  rw [dg_getD _ _ _ _ (by decide)]
  unfold encP
  generalize A.1 % 2 = b at *
  generalize A.2 = y at *
  simp only [Nat.reducePow]
  have : (y + b * 57896044618658097711785492504343953926634992332820282019728792003956564819968) / 452312848583266388373324160190187140051835877600158453279131187530910662656 % 256 / 128 = b := by omega
  rw [this]
theorem enc_A : Q (rA (dB (encP A)) : Int) ((A.1 : Int) * A.1) := by
  have h1 := rA_Q (a := dB (encP A))
  rw [enc_Y hA] at h1
  have hc := hA.2.2
  refine Q.cancel (nz_den (A.2 : Int)) ?_
  refine Q.trans (Q.of (Int.mul_comm _ _)) (Q.trans h1 (D.of hc ?_))
  unfold eE; grind
theorem enc_sq : sqOk (rA (dB (encP A))) = true := by
  have h := enc_A hA
  rw [← Int.natCast_mul] at h
  rw [sqOk_congr (Q_nat.1 h)]
  exact sqOk_square _
theorem enc_root : sqV (rA (dB (encP A))) = A.1 ∨ sqV (rA (dB (encP A))) + A.1 = P255 := by
  have h := enc_A hA
  have h1 : Q ((sqV (rA (dB (encP A))) : Int) * sqV (rA (dB (encP A)))) (rA (dB (encP A))) := by
    rw [← Int.natCast_mul]
    exact Q_nat.2 (sqV_sq (enc_sq hA))
  have hs := sqV_P (rA (dB (encP A)))
  have hx := hA.1
  generalize sqV (rA (dB (encP A))) = s at *
  have h2 := Q.trans h1 h
  have h3 : D (((s : Int) - A.1) * ((s : Int) + A.1)) := D.of h2 (by grind)
  rcases D_prime h3 with h4 | h4
  · exact .inl (Q_uniq hs hx h4)
  · rw [← Int.natCast_add] at h4
    obtain ⟨k, hk⟩ := D_nat.1 h4
    rcases Nat.lt_or_ge k 1 with hk1 | hk1
    · have : k = 0 := by omega
      subst this
      left; omega
    · rcases Nat.lt_or_ge k 2 with hk2 | hk2
      · have : k = 1 := by omega
        subst this
        right; omega
      · exfalso
        have : P255 * 2 ≤ P255 * k := Nat.mul_le_mul_left _ hk2
        omega
theorem enc_dec : rdB (dB (encP A)) = true ∧ rdPt (dB (encP A)) = A := by
  have hs := enc_sq hA
  have ho := enc_odd hA
  have hY := enc_Y hA
  have hr := enc_root hA
  have hev := sqV_even (A := rA (dB (encP A)))
  have hP := P_odd
  have hx := hA.1
  have hy := hA.2.1
  have hX : rdX (dB (encP A)) = A.1 ∧ ¬ (A.1 % 2 = 1 ∧ sqV (rA (dB (encP A))) = 0) := by
    unfold rdX
    rw [ho]
    generalize sqV (rA (dB (encP A))) = s at *
    by_cases h2 : A.1 % 2 = 1
    · rw [if_pos (by rw [h2]; rfl)]
      rcases hr with hr | hr
      · omega
      · refine ⟨?_, by omega⟩
        unfold mi
        rw [show 0 + P255 - s = A.1 by omega, Nat.mod_eq_of_lt hx]
    · rw [if_neg (by simpa using h2)]
      refine ⟨?_, by omega⟩
      rcases hr with hr | hr
      · exact hr
      · omega
  refine ⟨?_, ?_⟩
  · unfold rdB
    rw [hY, hs, ho, decide_eq_true hy, Bool.true_and, Bool.true_and]
    by_cases h2 : A.1 % 2 = 1
    · have : ¬ sqV (rA (dB (encP A))) = 0 := fun h => hX.2 ⟨h2, h⟩
      rw [decide_eq_false this, Bool.and_false]; rfl
    · rw [show (A.1 % 2 == 1) = false by simpa using h2]; rfl
  · unfold rdPt
    rw [hX.1, hY]
theorem enc_one : encP A = 1 ↔ A = pO := by
  have h1 := Nat.lt_trans hA.2.1 P_2255
  constructor
  · intro h
    unfold encP at h
    have h2 : A.1 % 2 = 0 := by omega
    have h3 : A.2 = 1 := by rw [h2] at h; omega
    have hc := hA.2.2
    rw [h3] at hc
    have hd : ¬ D (1 + (dN : Int)) := by unfold D; decide
    have h4 : D ((A.1 : Int) * ((A.1 : Int) * (1 + dN))) := D.of (D.neg hc) (by unfold eE; grind)
    have h5 : D (A.1 : Int) := by
      rcases D_prime h4 with h4 | h4
      · exact h4
      · rcases D_prime h4 with h4 | h4
        · exact h4
        · exact absurd h4 hd
    have h6 : A.1 = 0 := Q_uniq hA.1 (by decide) (Q_zero.2 h5)
    exact Prod.ext h6 h3
  · intro h
    rw [h]; rfl
end
theorem nsm_dbl {A : Pt} (hA : onC A) (m : Nat) : padd (nsm m A) (nsm m A) = nsm (m + m) A := (nsm_add hA m m).symm
theorem small_pt {a : List Nat} (lY : dY a < M256) (h : rdB a = true) : smallV W2 (decP DP a) = decide (nsm 8 (rdPt a) = pO) := by
  have hA := rd_on h
  have p0 := decP_ok lY DP
  have p1 := gadd_ok W2_lt p0 p0
  have p2 := gadd_ok W2_lt p1 p1
  have e1 := gadd_mod W2_lt W2_mod p0 p0
  have e2 := gadd_mod W2_lt W2_mod p1 p1
  have e3 := gadd_mod W2_lt W2_mod p2 p2
  rw [decP_mod lY] at e1
  rw [e1] at e2
  rw [e2] at e3
  have r0 := rd_rep h
  rw [← nsm_one hA] at r0
  have k0 := rdP_ok a
  have r1 := rep_radd k0 k0 (nsm_on hA 1) (nsm_on hA 1) r0 r0
  rw [nsm_dbl hA] at r1
  have k1 := radd_ok dN (rdP a) (rdP a)
  have r2 := rep_radd k1 k1 (nsm_on hA _) (nsm_on hA _) r1 r1
  rw [nsm_dbl hA] at r2
  have k2 := radd_ok dN (radd dN (rdP a) (rdP a)) (radd dN (rdP a) (rdP a))
  have r3 := rep_radd k2 k2 (nsm_on hA _) (nsm_on hA _) r2 r2
  rw [nsm_dbl hA] at r3
  have o8 := nsm_on hA 8
  have k3 := radd_ok dN (radd dN (radd dN (rdP a) (rdP a)) (radd dN (rdP a) (rdP a))) (radd dN (radd dN (rdP a) (rdP a)) (radd dN (rdP a) (rdP a)))
  rw [← e3] at r3 k3
  have hu : dbl3 W2 (decP DP a) = gadd W2 (gadd W2 (gadd W2 (decP DP a) (decP DP a)) (gadd W2 (decP DP a) (decP DP a))) (gadd W2 (gadd W2 (decP DP a) (decP DP a)) (gadd W2 (decP DP a) (decP DP a))) := rfl
  unfold smallV
  rw [hu]
  generalize gadd W2 (gadd W2 (gadd W2 (decP DP a) (decP DP a)) (gadd W2 (decP DP a) (decP DP a))) (gadd W2 (gadd W2 (decP DP a) (decP DP a)) (gadd W2 (decP DP a) (decP DP a))) = g at *
  have rr : repP (pm g) (nsm 8 (rdPt a)) := r3
  clear r3 r2 r1 r0
  generalize nsm 8 (rdPt a) = B at *
  obtain ⟨hz, hx, hy, _⟩ := rr
  rw [pm_eq] at hz hx hy
  simp only [mk_x, mk_y, mk_z] at hz hx hy
  have c1 : g.x % P255 = 0 ↔ B.1 = 0 := by
    constructor
    · intro h0
      rw [h0] at hx
      have : D ((B.1 : Int) * (g.z % P255 : Nat)) := hx.symm.toD D_zero
      rcases D_prime this with h1 | h1
      · exact Q_uniq o8.1 (by decide) (Q_zero.2 h1)
      · exact absurd h1 hz
    · intro h0
      rw [h0] at hx
      have h1 : Q ((g.x % P255 : Nat) : Int) ((0 : Nat) : Int) := Q.trans hx (Q.of (Int.zero_mul _))
      exact Q_uniq (P_ltP _) (by decide) h1
  have c2 : g.y % P255 = g.z % P255 ↔ B.2 = 1 := by
    constructor
    · intro h0
      rw [h0] at hy
      have h1 : Q (((g.z % P255 : Nat) : Int) * ((1 : Nat) : Int)) (((g.z % P255 : Nat) : Int) * (B.2 : Int)) :=
        Q.trans (Q.of (Int.mul_one _)) (Q.trans hy (Q.of (Int.mul_comm _ _)))
      exact (Q_uniq (by decide) o8.2.1 (Q.cancel hz h1)).symm
    · intro h0
      rw [h0] at hy
      exact Q_uniq (P_ltP _) (P_ltP _) (Q.trans hy (Q.of (Int.one_mul _)))
  rw [← Bool.decide_and]
  apply decide_eq_decide.2
  rw [c1, c2]
  constructor
  · rintro ⟨h1, h2⟩; exact Prod.ext h1 h2
  · intro h; rw [h]; exact ⟨rfl, rfl⟩
def smR (a : List Nat) : Bool := rdB a && decide (nsm 8 (rdPt a) = pO)
theorem smR_ref (a : List Nat) (h : rdB a = true) : decide (encR (rtm dN 8 (rdP a) 256 gO) = 1) = decide (nsm 8 (rdPt a) = pO) := by
  have hA := rd_on h
  have r := rep_times (rdP_ok a) hA (rd_rep h) (k := 8) (by decide)
  rw [encR_rep (nsm_on hA 8) r]
  exact decide_eq_decide.2 (enc_one (nsm_on hA 8))
end Go.Eng.G

namespace Go.Eng.G
open Go Go.Eng Go.Proofs Go.Eng.B
set_option maxRecDepth 100000
set_option maxHeartbeats 1000000
def mV (k a : List Nat) : Nat := if rdB a then encR (rtm dN (vB k) (rdP a) 256 gO) else 0
def mE (a : List Nat) : Int := if rdB a then 0 else 12
def adV (a b : List Nat) : Nat := if rdB a && rdB b then encR (radd dN (rdP a) (rdP b)) else 0
def adE (a b : List Nat) : Int := if rdB a && rdB b then 0 else 12
def eMultX (args : List SV) : Option (SV × List Prop) := match args with
  | [.arr .u8 32 k, .arr .u8 32 a] => some (.tup [fld (mV k a), .i .i64 (mE a)], [])
  | _ => none
def eAddX (args : List SV) : Option (SV × List Prop) := match args with
  | [.arr .u8 32 a, .arr .u8 32 b] => some (.tup [fld (adV a b), .i .i64 (adE a b)], [])
  | _ => none
def eDecX := t1b (fun a => .b (rdB a))
def H4 : Ctr := addC 22 eBaseL (addC 24 eDecX (addC 25 eDecX (addC 20 eAddX (addC 21 eAddX (addC 10 eMultX (addC 11 eMultX H3c))))))
theorem wk_tupE {s t : SV} {x y : Int} (hs : s = t) (h : x = y) : wkR (.tup [s, .c .i64 x]) (.tup [t, .i .i64 y]) := by subst hs; exact ⟨wk_refl _, ⟨rfl, h⟩, rfl⟩
theorem dB0 : dB 0 = [0, 0, 0, 0, 0, 0, 0, 0, 0, 0, 0, 0, 0, 0, 0, 0, 0, 0, 0, 0, 0, 0, 0, 0, 0, 0, 0, 0, 0, 0, 0, 0] := dB_zero.symm
theorem W2_lit : (74191411869338878686276167017509130379084227759686438032777571066171880567110 : Nat) = W2 := by decide +kernel
theorem decB_lit {a : List Nat} (lY : dY a < M256) : decB 94991750553327537054923576013098519116177106212663501036117577537042505103504 a = rdB a := decB_eq lY
theorem eW2 : vF (dF (addF DP DP)) = W2 := vd W2_lt
theorem eDP : vF (dF DP) = DP := vd DP_lt
theorem Base_c : Contract Tryz.prog 22 [] (.arr .u8 32 baseL) := by
  refine contract Tryz.func22 (body := bodyOf Tryz.f22) rfl (by kernel_rfl) (by kernel_rfl) rfl ?_
  intro _ w0 S
  exact hold_end mixed okH3c (unroll := true) (f := 100) (sc := []) (r := (SV.arr .u8 32 baseL)) (ob := []) (sc' := []) (by kernel_rfl) trivial rfl
theorem cDecX : ∀ args res ob, eDecX args = some (res, ob) → All ob → Contract Tryz.prog 24 args res := by
  intro args res ob h hob
  unfold eDecX t1b at h
  split at h
  · rename_i a
    cases h
    refine contract Tryz.func24 (body := bodyOf Tryz.f24) rfl (by kernel_rfl) (by kernel_rfl) rfl ?_
    rintro ⟨ha, _⟩ w0 S
    have lY := maskL_lt ha
    refine hold_end mixed okH3c (unroll := true) (f := 100) (sc := []) (r := (SV.b (decB 94991750553327537054923576013098519116177106212663501036117577537042505103504 a))) (ob := []) (sc' := []) (by kernel_rfl) trivial ?_
    rw [decB_lit lY]
  · cases h
theorem cRDecX : ∀ args res ob, eDecX args = some (res, ob) → All ob → Contract Tryz.prog 25 args res := by
  intro args res ob h hob
  unfold eDecX t1b at h
  split at h
  · rename_i a
    cases h
    refine contract Tryz.func25 (body := bodyOf Tryz.f25) rfl (by kernel_rfl) (by kernel_rfl) rfl ?_
    rintro ⟨ha, _⟩ w0 S
    exact hold_end mixed okH3c (unroll := true) (f := 100) (sc := []) (r := (SV.b (rdB a))) (ob := []) (sc' := []) (by kernel_rfl) trivial rfl
  · cases h
theorem cMultX : ∀ args res ob, eMultX args = some (res, ob) → All ob → Contract Tryz.prog 10 args res := by
  intro args res ob h hob
  unfold eMultX at h
  split at h
  · rename_i k a
    cases h
    refine contract Tryz.func10 (body := bodyOf Tryz.f10) rfl (by kernel_rfl) (by kernel_rfl) rfl ?_
    rintro ⟨hk, ha, _⟩ w0 S
    have lY := maskL_lt ha
    have p0 := decP_ok lY DP
    have p1 := p4_pt p0
    have eK := vd (vB_lt hk)
    have p2 := p4_pt (gtm_ok W2_lt (vB k) p0 256 gO gO_ok)
    cases hb : rdB a with
    | true =>
      refine hold_endw mixed okH3c (unroll := true) (f := 100) (sc := [false]) (r := (SV.tup [SV.arr .u8 32 (dB (encV (p4 (dF (gtm (vF (dF (addF DP DP))) (vF (dF (vB k))) (p4 (dF (decP (vF (dF DP)) a).x) (dF (decP (vF (dF DP)) a).y) (dF (decP (vF (dF DP)) a).z) (dF (decP (vF (dF DP)) a).t)) 256 gO).x) (dF (gtm (vF (dF (addF DP DP))) (vF (dF (vB k))) (p4 (dF (decP (vF (dF DP)) a).x) (dF (decP (vF (dF DP)) a).y) (dF (decP (vF (dF DP)) a).z) (dF (decP (vF (dF DP)) a).t)) 256 gO).y) (dF (gtm (vF (dF (addF DP DP))) (vF (dF (vB k))) (p4 (dF (decP (vF (dF DP)) a).x) (dF (decP (vF (dF DP)) a).y) (dF (decP (vF (dF DP)) a).z) (dF (decP (vF (dF DP)) a).t)) 256 gO).z) (dF (gtm (vF (dF (addF DP DP))) (vF (dF (vB k))) (p4 (dF (decP (vF (dF DP)) a).x) (dF (decP (vF (dF DP)) a).y) (dF (decP (vF (dF DP)) a).z) (dF (decP (vF (dF DP)) a).t)) 256 gO).t)))), SV.c .i64 (0 : Int)])) (ob := [(!decB 94991750553327537054923576013098519116177106212663501036117577537042505103504 a) = false]) (sc' := []) (by kernel_rfl) ?_ ?_
      · exact ⟨by rw [decB_lit lY, hb]; rfl, trivial⟩
      · rw [eDP, p1, eK, eW2, p2, encV_mod, gtm_mod W2_lt W2_mod _ p0 _ _ gO_ok, decP_mod lY, pm_id gO_okP]
        simp only [mV, mE, hb, if_true]
        exact wk_tupE rfl rfl
    | false =>
      refine hold_endw mixed okH3c (unroll := true) (f := 100) (sc := [true]) (r := (SV.tup [SV.arr .u8 32 [0, 0, 0, 0, 0, 0, 0, 0, 0, 0, 0, 0, 0, 0, 0, 0, 0, 0, 0, 0, 0, 0, 0, 0, 0, 0, 0, 0, 0, 0, 0, 0], SV.c .i64 (12 : Int)])) (ob := [(!decB 94991750553327537054923576013098519116177106212663501036117577537042505103504 a) = true]) (sc' := []) (by kernel_rfl) ?_ ?_
      · exact ⟨by rw [decB_lit lY, hb]; rfl, trivial⟩
      · simp only [mV, mE, hb, Bool.false_eq_true, if_false, fld, dB0]
        exact wk_tupE rfl rfl
  · cases h
theorem cRMultX : ∀ args res ob, eMultX args = some (res, ob) → All ob → Contract Tryz.prog 11 args res := by
  intro args res ob h hob
  unfold eMultX at h
  split at h
  · rename_i k a
    cases h
    refine contract Tryz.func11 (body := bodyOf Tryz.f11) rfl (by kernel_rfl) (by kernel_rfl) rfl ?_
    rintro ⟨hk, ha, _⟩ w0 S
    have p0 := rdP_ok a
    have p1 := p4_pt (pokP_pok p0)
    have q2 := rtm_ok dN (vB k) (rdP a) 256 gO gO_okP
    have p2 := p4_pt (pokP_pok q2)
    cases hb : rdB a with
    | true =>
      refine hold_endw mixed okH3c (unroll := true) (f := 100) (sc := [false]) (r := (SV.tup [SV.arr .u8 32 (dB (encR (p4 (dF (rtm dN (vB k) (p4 (dF (rdP a).x) (dF (rdP a).y) (dF (rdP a).z) (dF (rdP a).t)) 256 gO).x) (dF (rtm dN (vB k) (p4 (dF (rdP a).x) (dF (rdP a).y) (dF (rdP a).z) (dF (rdP a).t)) 256 gO).y) (dF (rtm dN (vB k) (p4 (dF (rdP a).x) (dF (rdP a).y) (dF (rdP a).z) (dF (rdP a).t)) 256 gO).z) (dF (rtm dN (vB k) (p4 (dF (rdP a).x) (dF (rdP a).y) (dF (rdP a).z) (dF (rdP a).t)) 256 gO).t)))), SV.c .i64 (0 : Int)])) (ob := [(!rdB a) = false, pokP (p4 (dF (rdP a).x) (dF (rdP a).y) (dF (rdP a).z) (dF (rdP a).t)), pokP (p4 (dF (rtm dN (vB k) (p4 (dF (rdP a).x) (dF (rdP a).y) (dF (rdP a).z) (dF (rdP a).t)) 256 gO).x) (dF (rtm dN (vB k) (p4 (dF (rdP a).x) (dF (rdP a).y) (dF (rdP a).z) (dF (rdP a).t)) 256 gO).y) (dF (rtm dN (vB k) (p4 (dF (rdP a).x) (dF (rdP a).y) (dF (rdP a).z) (dF (rdP a).t)) 256 gO).z) (dF (rtm dN (vB k) (p4 (dF (rdP a).x) (dF (rdP a).y) (dF (rdP a).z) (dF (rdP a).t)) 256 gO).t))]) (sc' := []) (by kernel_rfl) ?_ ?_
      · rw [p1, p2]
        exact ⟨by rw [hb]; rfl, p0, q2, trivial⟩
      · rw [p1, p2]
        simp only [mV, mE, hb, if_true]
        exact wk_tupE rfl rfl
    | false =>
      refine hold_endw mixed okH3c (unroll := true) (f := 100) (sc := [true]) (r := (SV.tup [SV.arr .u8 32 [0, 0, 0, 0, 0, 0, 0, 0, 0, 0, 0, 0, 0, 0, 0, 0, 0, 0, 0, 0, 0, 0, 0, 0, 0, 0, 0, 0, 0, 0, 0, 0], SV.c .i64 (12 : Int)])) (ob := [(!rdB a) = true]) (sc' := []) (by kernel_rfl) ?_ ?_
      · exact ⟨by rw [hb]; rfl, trivial⟩
      · simp only [mV, mE, hb, Bool.false_eq_true, if_false, fld, dB0]
        exact wk_tupE rfl rfl
  · cases h
theorem cAddX : ∀ args res ob, eAddX args = some (res, ob) → All ob → Contract Tryz.prog 20 args res := by
  intro args res ob h hob
  unfold eAddX at h
  split at h
  · rename_i a b
    cases h
    refine contract Tryz.func20 (body := bodyOf Tryz.f20) rfl (by kernel_rfl) (by kernel_rfl) rfl ?_
    rintro ⟨ha, hb, _⟩ w0 S
    have lA := maskL_lt ha
    have lB := maskL_lt hb
    have p0 := decP_ok lA DP
    have p1 := p4_pt p0
    have q0 := decP_ok lB DP
    have q1 := p4_pt q0
    have p2 := p4_pt (gadd_ok W2_lt p0 q0)
    cases h1 : rdB a with
    | true =>
      cases h2 : rdB b with
      | true =>
        refine hold_endw mixed okH3c (unroll := true) (f := 100) (sc := [false, false]) (r := (SV.tup [SV.arr .u8 32 (dB (encV (p4 (dF (gadd (vF (dF (addF DP DP))) (p4 (dF (decP (vF (dF DP)) a).x) (dF (decP (vF (dF DP)) a).y) (dF (decP (vF (dF DP)) a).z) (dF (decP (vF (dF DP)) a).t)) (p4 (dF (decP (vF (dF DP)) b).x) (dF (decP (vF (dF DP)) b).y) (dF (decP (vF (dF DP)) b).z) (dF (decP (vF (dF DP)) b).t))).x) (dF (gadd (vF (dF (addF DP DP))) (p4 (dF (decP (vF (dF DP)) a).x) (dF (decP (vF (dF DP)) a).y) (dF (decP (vF (dF DP)) a).z) (dF (decP (vF (dF DP)) a).t)) (p4 (dF (decP (vF (dF DP)) b).x) (dF (decP (vF (dF DP)) b).y) (dF (decP (vF (dF DP)) b).z) (dF (decP (vF (dF DP)) b).t))).y) (dF (gadd (vF (dF (addF DP DP))) (p4 (dF (decP (vF (dF DP)) a).x) (dF (decP (vF (dF DP)) a).y) (dF (decP (vF (dF DP)) a).z) (dF (decP (vF (dF DP)) a).t)) (p4 (dF (decP (vF (dF DP)) b).x) (dF (decP (vF (dF DP)) b).y) (dF (decP (vF (dF DP)) b).z) (dF (decP (vF (dF DP)) b).t))).z) (dF (gadd (vF (dF (addF DP DP))) (p4 (dF (decP (vF (dF DP)) a).x) (dF (decP (vF (dF DP)) a).y) (dF (decP (vF (dF DP)) a).z) (dF (decP (vF (dF DP)) a).t)) (p4 (dF (decP (vF (dF DP)) b).x) (dF (decP (vF (dF DP)) b).y) (dF (decP (vF (dF DP)) b).z) (dF (decP (vF (dF DP)) b).t))).t)))), SV.c .i64 (0 : Int)])) (ob := [(!decB 94991750553327537054923576013098519116177106212663501036117577537042505103504 a) = false, (!decB 94991750553327537054923576013098519116177106212663501036117577537042505103504 b) = false]) (sc' := []) (by kernel_rfl) ?_ ?_
        · exact ⟨by rw [decB_lit lA, h1]; rfl, by rw [decB_lit lB, h2]; rfl, trivial⟩
        · rw [eDP, p1, q1, eW2, p2, encV_mod, gadd_mod W2_lt W2_mod p0 q0, decP_mod lA, decP_mod lB]
          simp only [adV, adE, h1, h2, Bool.and_self, if_true]
          exact wk_tupE rfl rfl
      | false =>
        refine hold_endw mixed okH3c (unroll := true) (f := 100) (sc := [false, true]) (r := (SV.tup [SV.arr .u8 32 [0, 0, 0, 0, 0, 0, 0, 0, 0, 0, 0, 0, 0, 0, 0, 0, 0, 0, 0, 0, 0, 0, 0, 0, 0, 0, 0, 0, 0, 0, 0, 0], SV.c .i64 (12 : Int)])) (ob := [(!decB 94991750553327537054923576013098519116177106212663501036117577537042505103504 a) = false, (!decB 94991750553327537054923576013098519116177106212663501036117577537042505103504 b) = true]) (sc' := []) (by kernel_rfl) ?_ ?_
        · exact ⟨by rw [decB_lit lA, h1]; rfl, by rw [decB_lit lB, h2]; rfl, trivial⟩
        · simp only [adV, adE, h1, h2, Bool.and_false, Bool.false_eq_true, if_false, fld, dB0]
          exact wk_tupE rfl rfl
    | false =>
      refine hold_endw mixed okH3c (unroll := true) (f := 100) (sc := [true]) (r := (SV.tup [SV.arr .u8 32 [0, 0, 0, 0, 0, 0, 0, 0, 0, 0, 0, 0, 0, 0, 0, 0, 0, 0, 0, 0, 0, 0, 0, 0, 0, 0, 0, 0, 0, 0, 0, 0], SV.c .i64 (12 : Int)])) (ob := [(!decB 94991750553327537054923576013098519116177106212663501036117577537042505103504 a) = true]) (sc' := []) (by kernel_rfl) ?_ ?_
      · exact ⟨by rw [decB_lit lA, h1]; rfl, trivial⟩
      · simp only [adV, adE, h1, Bool.false_and, Bool.false_eq_true, if_false, fld, dB0]
        exact wk_tupE rfl rfl
  · cases h
theorem cRAddX : ∀ args res ob, eAddX args = some (res, ob) → All ob → Contract Tryz.prog 21 args res := by
  intro args res ob h hob
  unfold eAddX at h
  split at h
  · rename_i a b
    cases h
    refine contract Tryz.func21 (body := bodyOf Tryz.f21) rfl (by kernel_rfl) (by kernel_rfl) rfl ?_
    rintro ⟨ha, hb, _⟩ w0 S
    have p0 := rdP_ok a
    have p1 := p4_pt (pokP_pok p0)
    have q0 := rdP_ok b
    have q1 := p4_pt (pokP_pok q0)
    have r0 := radd_ok dN (rdP a) (rdP b)
    have p2 := p4_pt (pokP_pok r0)
    have ed : vF (dF dN) = dN := vd (P_M dN_lt)
    cases h1 : rdB a with
    | true =>
      cases h2 : rdB b with
      | true =>
        refine hold_endw mixed okH3c (unroll := true) (f := 100) (sc := [false, false]) (r := (SV.tup [SV.arr .u8 32 (dB (encR (p4 (dF (radd (vF (dF dN)) (p4 (dF (rdP a).x) (dF (rdP a).y) (dF (rdP a).z) (dF (rdP a).t)) (p4 (dF (rdP b).x) (dF (rdP b).y) (dF (rdP b).z) (dF (rdP b).t))).x) (dF (radd (vF (dF dN)) (p4 (dF (rdP a).x) (dF (rdP a).y) (dF (rdP a).z) (dF (rdP a).t)) (p4 (dF (rdP b).x) (dF (rdP b).y) (dF (rdP b).z) (dF (rdP b).t))).y) (dF (radd (vF (dF dN)) (p4 (dF (rdP a).x) (dF (rdP a).y) (dF (rdP a).z) (dF (rdP a).t)) (p4 (dF (rdP b).x) (dF (rdP b).y) (dF (rdP b).z) (dF (rdP b).t))).z) (dF (radd (vF (dF dN)) (p4 (dF (rdP a).x) (dF (rdP a).y) (dF (rdP a).z) (dF (rdP a).t)) (p4 (dF (rdP b).x) (dF (rdP b).y) (dF (rdP b).z) (dF (rdP b).t))).t)))), SV.c .i64 (0 : Int)])) (ob := [(!rdB a) = false, (!rdB b) = false, pokP (p4 (dF (rdP a).x) (dF (rdP a).y) (dF (rdP a).z) (dF (rdP a).t)), pokP (p4 (dF (rdP b).x) (dF (rdP b).y) (dF (rdP b).z) (dF (rdP b).t)), 37095705934669439343138083508754565189542113879843219016388785533085940283555 < P255, pokP (p4 (dF (radd (vF (dF dN)) (p4 (dF (rdP a).x) (dF (rdP a).y) (dF (rdP a).z) (dF (rdP a).t)) (p4 (dF (rdP b).x) (dF (rdP b).y) (dF (rdP b).z) (dF (rdP b).t))).x) (dF (radd (vF (dF dN)) (p4 (dF (rdP a).x) (dF (rdP a).y) (dF (rdP a).z) (dF (rdP a).t)) (p4 (dF (rdP b).x) (dF (rdP b).y) (dF (rdP b).z) (dF (rdP b).t))).y) (dF (radd (vF (dF dN)) (p4 (dF (rdP a).x) (dF (rdP a).y) (dF (rdP a).z) (dF (rdP a).t)) (p4 (dF (rdP b).x) (dF (rdP b).y) (dF (rdP b).z) (dF (rdP b).t))).z) (dF (radd (vF (dF dN)) (p4 (dF (rdP a).x) (dF (rdP a).y) (dF (rdP a).z) (dF (rdP a).t)) (p4 (dF (rdP b).x) (dF (rdP b).y) (dF (rdP b).z) (dF (rdP b).t))).t))]) (sc' := []) (by kernel_rfl) ?_ ?_
        · rw [ed, p1, q1, p2]
          exact ⟨by rw [h1]; rfl, by rw [h2]; rfl, p0, q0, dN_lt, r0, trivial⟩
        · rw [ed, p1, q1, p2]
          simp only [adV, adE, h1, h2, Bool.and_self, if_true]
          exact wk_tupE rfl rfl
      | false =>
        refine hold_endw mixed okH3c (unroll := true) (f := 100) (sc := [false, true]) (r := (SV.tup [SV.arr .u8 32 [0, 0, 0, 0, 0, 0, 0, 0, 0, 0, 0, 0, 0, 0, 0, 0, 0, 0, 0, 0, 0, 0, 0, 0, 0, 0, 0, 0, 0, 0, 0, 0], SV.c .i64 (12 : Int)])) (ob := [(!rdB a) = false, (!rdB b) = true]) (sc' := []) (by kernel_rfl) ?_ ?_
        · exact ⟨by rw [h1]; rfl, by rw [h2]; rfl, trivial⟩
        · simp only [adV, adE, h1, h2, Bool.and_false, Bool.false_eq_true, if_false, fld, dB0]
          exact wk_tupE rfl rfl
    | false =>
      refine hold_endw mixed okH3c (unroll := true) (f := 100) (sc := [true]) (r := (SV.tup [SV.arr .u8 32 [0, 0, 0, 0, 0, 0, 0, 0, 0, 0, 0, 0, 0, 0, 0, 0, 0, 0, 0, 0, 0, 0, 0, 0, 0, 0, 0, 0, 0, 0, 0, 0], SV.c .i64 (12 : Int)])) (ob := [(!rdB a) = true]) (sc' := []) (by kernel_rfl) ?_ ?_
      · exact ⟨by rw [h1]; rfl, trivial⟩
      · simp only [adV, adE, h1, Bool.false_and, Bool.false_eq_true, if_false, fld, dB0]
        exact wk_tupE rfl rfl
  · cases h
theorem okH4 : CtrOk Tryz.prog H4 := addC_ok (addC_ok (addC_ok (addC_ok (addC_ok (addC_ok (addC_ok okH3c cRMultX) cMultX) cRAddX) cAddX) cRDecX) cDecX) (t0_ok Base_c)
end Go.Eng.G

namespace Go.Eng.B
open Go Go.Eng Go.Proofs
set_option maxRecDepth 100000
theorem mod_c (n m : Int) (hm : 0 < m) (res : SV) (hres : wk (.i .i64 (n % m)) res) : Contract Tryz.prog 15 [.i .i64 n, .i .i64 m] res := by
  refine contract Tryz.func15 (body := bodyOf Tryz.f15) rfl (by kernel_rfl) (by kernel_rfl) rfl ?_
  rintro ⟨hn, hm2, _⟩ w0 S
  have h1 := @Int.tmod_eq_emod n m
  have h2 := Int.emod_nonneg n (show m ≠ 0 by omega)
  have h3 := Int.emod_lt_of_pos n hm
  have h4 : (m.natAbs : Int) = m := by omega
  have hR : inR .i64 (n.tmod m) := by
    simp only [pureF, inR, lo, lim] at hm2 hn ⊢
    rw [h1]
    split <;> omega
  by_cases hlt : n.tmod m < 0
  · have e : n.tmod m + m = n % m := by
      rw [h1] at hlt ⊢
      split at hlt
      · omega
      · rename_i hc; rw [if_neg hc]; omega
    refine hold_endw mixed ctr0_ok (unroll := true) (f := 100) (sc := [true]) (r := (SV.i .i64 (n.tmod m + m))) (ob := [m ≠ (0 : Int) ∧ inR .i64 (n.tmod m), Decidable.decide (n.tmod m < (0 : Int)) = true, inR .i64 (n.tmod m + m)]) (sc' := []) (by kernel_rfl) ?_ ?_
    · refine ⟨⟨by omega, hR⟩, by simpa using hlt, ?_, trivial⟩
      rw [e]; simp only [pureF, inR, lo, lim] at hm2 ⊢; omega
    · rw [e]
      cases res <;> first | exact hres | (simp [wk, wk0, wka] at hres)
  · have e : n.tmod m = n % m := by
      rw [h1] at hlt ⊢
      split
      · omega
      · rename_i hc; rw [if_neg hc] at hlt; omega
    refine hold_endw mixed ctr0_ok (unroll := true) (f := 100) (sc := [false]) (r := (SV.i .i64 (n.tmod m))) (ob := [m ≠ (0 : Int) ∧ inR .i64 (n.tmod m), Decidable.decide (n.tmod m < (0 : Int)) = false]) (sc' := []) (by kernel_rfl) ?_ ?_
    · exact ⟨⟨by omega, hR⟩, by simpa using hlt, trivial⟩
    · rw [e]
      cases res <;> first | exact hres | (simp [wk, wk0, wka] at hres)
theorem cMod : ∀ args res ob, eMod args = some (res, ob) → All ob → Contract Tryz.prog 15 args res := by
  intro args res ob h hob
  unfold eMod at h
  split at h
  · rename_i x y
    split at h
    · rename_i n m hx hy
      cases h
      have hm : 0 < m := hob.1
      refine Contract.args (args' := [.i .i64 n, .i .i64 m]) ⟨int?_wk hx, int?_wk hy, rfl⟩ (Contract.pure fun hp => mod_c n m hm _ ?_)
      obtain ⟨_, hm2, _⟩ := hp
      have h2 := Int.emod_nonneg n (show m ≠ 0 by omega)
      have h3 := Int.emod_lt_of_pos n hm
      simp only [wk, wk0, lim, true_and]
      simp only [pureF, inR, lo, lim] at hm2
      omega
    · cases h
  · cases h
def C1a : Ctr := addC 15 eMod ctr0
theorem okC1a : CtrOk Tryz.prog C1a := addC_ok ctr0_ok cMod
end Go.Eng.B

namespace Go.Eng.G
open Go Go.Eng Go.Proofs Go.Eng.B
set_option maxRecDepth 100000
set_option maxHeartbeats 1000000
def eSmallX := t1b (fun a => .b (smR a))
def eSignN (args : List SV) : Option (SV × List Prop) := match args with
  | [.nil, .nil] => some (.tup [.sl .u8 [], .i .i64 1], [])
  | [.sl .u8 [], .sl .u8 []] => some (.tup [.sl .u8 [], .i .i64 1], [])
  | _ => none
def H7a : Ctr := addC 15 eMod (addC 18 eSignN (addC 26 eSmallX H4))
def ePoint (pv : List Nat → Int → List Nat) (args : List SV) : Option (SV × List Prop) :=
  match args with
  | [.arr .u8 32 a, x] => match x.int? with
    | some (.i64, n) => some (.arr .u8 32 (pv a n), [])
    | _ => none
  | _ => none
def H7 (pv : List Nat → Int → List Nat) : Ctr := addC 9 (ePoint pv) (addC 12 (t0 (.b true)) H7a)
theorem cSmallX : ∀ args res ob, eSmallX args = some (res, ob) → All ob → Contract Tryz.prog 26 args res := by
  intro args res ob h hob
  unfold eSmallX t1b at h
  split at h
  · rename_i a
    cases h
    refine contract Tryz.func26 (body := bodyOf Tryz.f26) rfl (by kernel_rfl) (by kernel_rfl) rfl ?_
    rintro ⟨ha, _⟩ w0 S
    have lY := maskL_lt ha
    have p0 := decP_ok lY DP
    have p1 := p4_pt p0
    cases hb : rdB a with
    | true =>
      refine hold_endw mixed okH4 (unroll := true) (f := 100) (sc := [true]) (r := (SV.b (smallV 74191411869338878686276167017509130379084227759686438032777571066171880567110 (p4 (dF (decP (vF (dF DP)) a).x) (dF (decP (vF (dF DP)) a).y) (dF (decP (vF (dF DP)) a).z) (dF (decP (vF (dF DP)) a).t))))) (ob := [decB 94991750553327537054923576013098519116177106212663501036117577537042505103504 a = true]) (sc' := []) (by kernel_rfl) ?_ ?_
      · exact ⟨by rw [decB_lit lY, hb], trivial⟩
      · rw [eDP, p1, W2_lit, small_pt lY hb]
        have e : smR a = decide (nsm 8 (rdPt a) = pO) := by unfold smR; rw [hb, Bool.true_and]
        show wkR (.b (decide (nsm 8 (rdPt a) = pO))) (.b (smR a))
        rw [e]
        exact wkR_refl _
    | false =>
      refine hold_endw mixed okH4 (unroll := true) (f := 100) (sc := [false]) (r := (SV.cb false)) (ob := [decB 94991750553327537054923576013098519116177106212663501036117577537042505103504 a = false]) (sc' := []) (by kernel_rfl) ?_ ?_
      · exact ⟨by rw [decB_lit lY, hb], trivial⟩
      · exact (by unfold smR; rw [hb]; rfl : false = smR a)
  · cases h
theorem signN_c : Contract Tryz.prog 18 [.sl .u8 [], .sl .u8 []] (.tup [.sl .u8 [], .i .i64 1]) := by
  refine contract Tryz.func18 (body := bodyOf Tryz.f18) rfl (by kernel_rfl) (by kernel_rfl) rfl ?_
  intro _ w0 S
  refine hold_endw mixed okH4 (unroll := true) (f := 100) (sc := [true]) (r := (SV.tup [SV.sl .u8 [], SV.c .i64 (1 : Int)])) (ob := [true = true]) (sc' := []) (by kernel_rfl) ⟨by kernel_rfl, trivial⟩ ?_
  exact ⟨rfl, ⟨rfl, rfl⟩, rfl⟩
theorem cSignN : ∀ args res ob, eSignN args = some (res, ob) → All ob → Contract Tryz.prog 18 args res := by
  intro args res ob h hob
  unfold eSignN at h
  split at h
  · cases h
    exact Contract.args (args' := [.sl .u8 [], .sl .u8 []]) ⟨rfl, rfl, rfl⟩ signN_c
  · cases h
    exact signN_c
  · cases h
theorem okH7a : CtrOk Tryz.prog H7a := addC_ok (addC_ok (addC_ok okH4 cSmallX) cSignN) cMod
theorem awake_c : Contract Tryz.prog 12 [] (.b true) := by
  refine contract Tryz.func12 (body := bodyOf Tryz.f12) rfl (by kernel_rfl) (by kernel_rfl) rfl ?_
  intro _ w0 S
  refine hold_endw mixed okH7a (unroll := true) (f := 200) (sc := [true, true, true, true]) (r := (SV.b true)) (ob := [true = true, true = true, true = true, true = true]) (sc' := []) (by kernel_rfl) ?_ ?_
  · exact ⟨rfl, rfl, rfl, rfl, trivial⟩
  · exact wkR_refl _
end Go.Eng.G

namespace Go.Eng.B
open Go Go.Eng Go.Proofs
set_option maxRecDepth 100000
def part? : SV → Option (List Nat)
  | .sl .u8 l => some l
  | .nil => some []
  | _ => none
theorem part_wk {x : SV} {a : List Nat} (h : part? x = some a) : wk0 x (.sl .u8 a) := by
  unfold part? at h
  split at h
  · cases h; exact wk0_refl _
  · cases h; rfl
  · cases h
theorem wk_of0 {s t : SV} (h : wk0 s t) : wk s t := by
  cases s <;> first | exact h | (cases t <;> first | exact h | (simp only [wk0, SV.ag.injEq] at h; subst h; exact wka_refl _) | (simp [wk0] at h))
theorem part_R {x : SV} {a : List Nat} (h : part? x = some a) {β : Nat → Nat} {ow : Own} {w : World} {v : Value} (hv : relV1 β ow w x v) : relV1 β ow w (.sl .u8 a) v := wk_ok1 (wk_of0 (part_wk h)) hv
theorem Contract.argsR {P : Program} {f : FuncId} {args args' : List SV} {r : SV} (hw : ∀ {β : Nat → Nat} {ow : Own} {w : World} {vs : List Value}, relVs β ow w args vs → relVs β ow w args' vs) (h : Contract P f args' r) : Contract P f args r :=
  fun w S vs h1 h2 => h w S vs h1 (hw h2)
theorem slv_args {P : Program} {f : FuncId} {l m : List SV} {r : SV} (hw : wka l m) (hs : ∀ s ∈ m, s.size = 1) (hl : m.length = l.length) (h : Contract P f [.slv 1 m] r) : Contract P f [.slv 1 l] r := by
  intro w S vs hlt hvs
  refine h w S vs hlt ?_
  obtain ⟨v, t, rfl, ⟨cs, hr, rfl⟩, rfl⟩ := hvs
  refine ⟨_, _, rfl, ⟨cs, ?_, rfl⟩, rfl⟩
  simp only [rel] at hr ⊢
  obtain ⟨h1, h2, v, vs, h3, h4, h5⟩ := hr
  exact ⟨hs, by rw [hl]; exact h2, v, vs, h3, by rw [hl]; exact h4, wka_rels hw h5⟩
theorem slv_argsF {P : Program} {f : FuncId} {l m : List SV} {r : SV} (h : Contract P f [.slv 1 m] r) (hw : wka l m) (hs : ∀ s ∈ m, s.size = 1) (hl : m.length = l.length) : Contract P f [.slv 1 l] r := slv_args hw hs hl h
def eJoinB (args : List SV) : Option (SV × List Prop) := match args with
  | [.slv 1 [x, y], s] => match part? x, part? y, part? s with
    | some a, some b, some [] => some (.sl .u8 (a ++ b), [a.length + b.length ≤ 1000000])
    | _, _, _ => none
  | [.slv 1 [x, y, z], s] => match part? x, part? y, part? z, part? s with
    | some a, some b, some c, some [] => some (.sl .u8 (a ++ b ++ c), [a.length + b.length + c.length ≤ 1000000])
    | _, _, _, _ => none
  | _ => none
def rJn : Go.Shelf.Ren := ⟨fun f => if f = 14 then 101 else 128, fun t => if t = 0 then 0 else if t = 3 then 3 else if t = 4 then 4 else if t = 9 then 9 else if t = 20 then 20 else if t = 22 then 30 else if t = 26 then 115 else 5, fun _ => 0⟩
theorem lJn : SlLaysJ.n14 Tryz.prog rJn := by
  refine { mixed := mixed, f14 := ?_, f15 := ?_, t0 := ?_, a0 := ?_, z0 := ?_, v0 := ?_, t3 := ?_, a3 := ?_, z3 := ?_, v3 := ?_, t4 := ?_, a4 := ?_, z4 := ?_, v4 := ?_, t9 := ?_, a9 := ?_, z9 := ?_, v9 := ?_, t20 := ?_, a20 := ?_, z20 := ?_, v20 := ?_, t22 := ?_, a22 := ?_, z22 := ?_, v22 := ?_, t26 := ?_, a26 := ?_, z26 := ?_, v26 := ?_, t5 := ?_, z5 := ?_, i5 := ?_ }
  · exact Tryz.func101.trans (congrArg some (by kernel_rfl))
  · exact Tryz.func128.trans (congrArg some (by kernel_rfl))
  all_goals first | kernel_rfl | (intro w; kernel_rfl)
def l8 (l : List Nat) : List UInt8 := l.map UInt8.ofNat
theorem u8_round {n : Nat} (h : n < 256) : (UInt8.ofNat n).toNat = n := by rw [UInt8.toNat_ofNat']; omega
theorem holds_of {S : Own} {w : World} {v : Value} {l : List Nat} (h : ReadsAs S w v (ints .u8 l)) (hb : ∀ x ∈ l, x < 256) : Lib.HoldsBytes w v (l8 l) := by
  obtain ⟨A, n, c, rfl, hn, hc, hm, hcell⟩ := h
  have hln : l.length = n := by simpa [ints] using hn.symm
  have hlen : (l8 l).length = n := by simp [l8, hln]
  refine ⟨A, c, by rw [hlen], ?_, ?_⟩
  · intro hA
    rcases Nat.eq_zero_or_pos n with h0 | h0
    · have : l = [] := List.length_eq_zero_iff.1 (by omega)
      rw [this]; rfl
    · obtain ⟨ad, hA2, _⟩ := hcell h0
      rw [hA] at hA2; cases hA2
  · intro a ha i x hx
    have hi : i < (l8 l).length := by
      rcases Nat.lt_or_ge i (l8 l).length with h | h
      · exact h
      · rw [List.getElem?_eq_none h] at hx; cases hx
    obtain ⟨ad, hA2, hs, _, hce⟩ := hcell (by omega)
    rw [ha] at hA2
    cases hA2
    rw [add_spot hs]
    refine hce i _ ?_
    simp only [l8, List.getElem?_map, Option.map_eq_some_iff] at hx
    obtain ⟨y, hy, rfl⟩ := hx
    simp only [ints, List.getElem?_map, hy, Option.map_some]
    rw [u8_round (hb y (List.mem_of_getElem? hy))]
theorem parts_of {S : Own} {w : World} : ∀ (ls : List (List Nat)) (vs : List Value), rels (fun _ => 0) S w (ls.map fun a => .sl .u8 a) vs →
    vs.length = ls.length ∧ ∀ (i : Nat) v l, vs[i]? = some v → ls[i]? = some l → ReadsAs S w v (ints .u8 l) ∧ ∀ x ∈ l, x < 256
  | [], vs, h => by
      simp only [List.map_nil, rels] at h
      subst h
      exact ⟨rfl, fun i v l hv => by simp at hv⟩
  | a :: ls, vs, h => by
      simp only [List.map_cons, rels] at h
      obtain ⟨c1, c2, rfl, h1, h2⟩ := h
      simp only [rel] at h1
      obtain ⟨⟨v1, rfl, h3⟩, h4⟩ := h1
      obtain ⟨h5, h6⟩ := parts_of ls c2 h2
      refine ⟨by simp [h5], fun i v l hv hl => ?_⟩
      cases i with
      | zero => simp at hv hl; subst hv; subst hl; exact ⟨h3, h4⟩
      | succ i => simp at hv hl; exact h6 i v l hv hl
theorem lens_l8 : ∀ ls : List (List Nat), Lib.lens (ls.map l8) = ls.flatten.length
  | [] => rfl
  | a :: ls => by
    have := lens_l8 ls
    simp only [Lib.lens, List.map_cons, List.sum_cons, List.flatten_cons, List.length_append] at this ⊢
    rw [this]; simp [l8]
theorem join_l8 : ∀ ls : List (List Nat), Lib.join (ls.map l8) [] = l8 ls.flatten
  | [] => rfl
  | a :: ls => by
    rw [List.map_cons, Lib.join_cons]
    have : ∀ ls : List (List Nat), Lib.joinTail [] (ls.map l8) = l8 ls.flatten := by
      intro ls
      induction ls with
      | nil => rfl
      | cons b ls ih =>
        simp only [Lib.joinTail, List.map_cons, List.flatten_cons, List.nil_append] at ih ⊢
        rw [ih]; simp [l8]
    rw [this]; simp [l8]
theorem nil_holds {S : Own} {w : World} {v : Value} (h : relV1 (fun _ => 0) S w (.sl .u8 []) v) : Lib.HoldsBytes w v [] := by
  obtain ⟨cs, hr, rfl⟩ := h
  simp only [rel] at hr
  obtain ⟨⟨v, rfl, h3⟩, h4⟩ := hr
  exact holds_of h3 h4
theorem joinB_many (ls : List (List Nat)) (h2 : 2 ≤ ls.length) (hn : ls.length ≤ 1000) (hlen : ls.flatten.length ≤ 1000000) : Contract Tryz.prog 101 [.slv 1 (ls.map fun a => .sl .u8 a), .sl .u8 []] (.sl .u8 ls.flatten) := by
  intro w S vs hS hvs
  obtain ⟨v1, t1, rfl, ⟨cs1, hr1, rfl⟩, v2, t2, rfl, hv2, rfl⟩ := hvs
  simp only [rel] at hr1
  obtain ⟨_, _, v, ps, rfl, hE, hps⟩ := hr1
  obtain ⟨hpl, hp⟩ := parts_of ls ps hps
  obtain ⟨A, c, rfl, hc, hcm, hcell⟩ := hE
  rw [List.length_map] at hc
  obtain ⟨ad, rfl, hs, _, hce⟩ := hcell (by omega)
  obtain ⟨b, o, s⟩ := ad
  simp only at hs
  subst hs
  have hP : Lib.PartsAt w ⟨b, o, none⟩ ps (ls.map l8) := by
    refine ⟨by rw [List.length_map, hpl], fun i v hv => ?_, fun i v l hv hl => ?_⟩
    · rw [add_spot rfl]; exact hce i v hv
    · rw [List.getElem?_map, Option.map_eq_some_iff] at hl
      obtain ⟨y, hy, rfl⟩ := hl
      obtain ⟨g1, g2⟩ := hp i v y hv hy
      exact holds_of g1 g2
  have hcalls := Any.bytes_Join_many lJn b o ls.length c ps (ls.map l8) v2 [] w (by rw [List.length_map]) h2 hP hc (nil_holds hv2) (by omega) (by rw [lens_l8, List.length_nil, Nat.zero_mul]; omega)
  unfold Invokes
  have hcall : (callFunc 101 [Value.slice (some ⟨b, o, none⟩) ls.length c, v2].toArray).run Tryz.prog w = .ok (.enter 101 [Value.slice (some ⟨b, o, none⟩) ls.length c, v2].toArray) w := by
    have hf := Tryz.func101
    have hb : Tryz.f101.body = some (bodyOf Tryz.f101) := rfl
    have hnm : (Tryz.f101.name == "runtime.NumGoroutine") = false := by kernel_rfl
    have hne : ¬ Tryz.f101.name = "runtime.NumGoroutine" := by simpa using hnm
    simp [callFunc, hf, hb, hne]
  have e : [toV (SV.isAgg (.slv 1 (ls.map fun a => .sl .u8 a))) [Value.slice (some ⟨b, o, none⟩) (ls.map fun a => SV.sl .u8 a).length c], v2] = [Value.slice (some ⟨b, o, none⟩) ls.length c, v2] := by
    rw [List.length_map]; rfl
  rw [e, hcall]
  simp only
  refine (show Calls Tryz.prog 101 #[Value.slice (some ⟨b, o, none⟩) ls.length c, v2] w _ from hcalls).mono fun e w' ⟨v', he, hF, hB⟩ => ?_
  refine ⟨v', he, hB, ?_⟩
  obtain ⟨g, cap, zs, rfl, hg, hl, hcap, hzl, hz, hzb, hzc, _⟩ := hF
  rw [join_l8] at hl hzb ⊢
  have hfl : ∀ x ∈ ls.flatten, x < 256 := by
    intro x hx
    obtain ⟨l, hl1, hl2⟩ := List.mem_flatten.1 hx
    obtain ⟨i, hi⟩ := List.getElem?_of_mem hl1
    have hi2 : i < ps.length := by
      rcases Nat.lt_or_ge i ls.length with h | h
      · omega
      · rw [List.getElem?_eq_none h] at hi; cases hi
    exact (hp i ps[i] l (List.getElem?_eq_getElem hi2) hi).2 x hl2
  have hl8 : (l8 ls.flatten).length = ls.flatten.length := by unfold l8; rw [List.length_map]
  rw [hl8] at hl hzb ⊢
  refine ⟨[Value.slice (some ⟨g, 0, none⟩) ls.flatten.length cap], ?_, rfl⟩
  simp only [rel]
  refine ⟨⟨_, rfl, some ⟨g, 0, none⟩, ls.flatten.length, cap, rfl, by unfold ints; rw [List.length_map], hl, ?_, fun _ => ⟨⟨g, 0, none⟩, rfl, rfl, fun j _ hSj => ?_, fun j u hu => ?_⟩⟩, hfl⟩
  · have : (maxLen : Nat) < 9223372036854775808 := by decide
    omega
  · have := hS _ _ hSj
    simp only at this
    omega
  · simp only [ints, List.getElem?_map, Option.map_eq_some_iff] at hu
    obtain ⟨y, hy, rfl⟩ := hu
    have hj : j < ls.flatten.length := by
      rcases Nat.lt_or_ge j ls.flatten.length with h | h
      · exact h
      · rw [List.getElem?_eq_none h] at hy; cases hy
    have h1 := hzc j (by omega)
    have h3 : (Lib.bytesOf (zs.take ls.flatten.length))[j]? = (l8 ls.flatten)[j]? := by rw [hzb]
    have hjz : j < zs.length := by omega
    simp only [Lib.bytesOf, l8, List.getElem?_map, List.getElem?_take_of_lt hj, hy, List.getElem?_eq_getElem hjz, Option.map_some, Option.some.injEq] at h3
    have h4 := hz zs[j] (List.getElem_mem hjz)
    have h5 : zs[j].toNat = y := by
      have := congrArg UInt8.toNat h3
      rwa [u8_round (by omega), u8_round (hfl y (List.mem_of_getElem? hy))] at this
    have h6 : zs.getD j 0 = (y : Int) := by
      rw [List.getD_eq_getElem?_getD, List.getElem?_eq_getElem hjz, Option.getD_some]
      omega
    rw [Nat.zero_add, h1, h6]
theorem cJoinB : ∀ args res ob, eJoinB args = some (res, ob) → All ob → Contract Tryz.prog 101 args res := by
  intro args res ob h hob
  unfold eJoinB at h
  split at h
  · rename_i x y s
    split at h
    · rename_i a b hx hy hs
      cases h
      have := joinB_many [a, b] (by simp) (by simp) (by have := hob.1; simpa using this)
      simp only [List.flatten_cons, List.flatten_nil, List.append_nil, List.map_cons, List.map_nil] at this
      intro w S vs hS hvs
      obtain ⟨v1, t1, rfl, ⟨cs1, hr1, rfl⟩, v2, t2, rfl, hv2, rfl⟩ := hvs
      refine this w S _ hS ⟨_, _, rfl, ⟨cs1, ?_, rfl⟩, _, _, rfl, part_R hs hv2, rfl⟩
      simp only [rel] at hr1 ⊢
      obtain ⟨g1, g2, v, ps, g3, g4, g5⟩ := hr1
      exact ⟨by simp [SV.size], g2, v, ps, g3, g4, wka_rels (show wka [x, y] [.sl .u8 a, .sl .u8 b] from ⟨part_wk hx, part_wk hy, rfl⟩) g5⟩
    · cases h
  · rename_i x y z s
    split at h
    · rename_i a b c hx hy hz hs
      cases h
      have := joinB_many [a, b, c] (by simp) (by simp) (by have := hob.1; simp only [List.flatten_cons, List.flatten_nil, List.append_nil, List.length_append]; omega)
      simp only [List.flatten_cons, List.flatten_nil, List.append_nil, List.map_cons, List.map_nil] at this
      rw [← List.append_assoc] at this
      intro w S vs hS hvs
      obtain ⟨v1, t1, rfl, ⟨cs1, hr1, rfl⟩, v2, t2, rfl, hv2, rfl⟩ := hvs
      refine this w S _ hS ⟨_, _, rfl, ⟨cs1, ?_, rfl⟩, _, _, rfl, part_R hs hv2, rfl⟩
      simp only [rel] at hr1 ⊢
      obtain ⟨g1, g2, v, ps, g3, g4, g5⟩ := hr1
      exact ⟨by simp [SV.size], g2, v, ps, g3, g4, wka_rels (show wka [x, y, z] [.sl .u8 a, .sl .u8 b, .sl .u8 c] from ⟨part_wk hx, part_wk hy, part_wk hz, rfl⟩) g5⟩
    · cases h
  · cases h
end Go.Eng.B

namespace Go.Eng.B
open Go Go.Eng Go.Proofs
set_option maxRecDepth 100000
theorem mul64_math (x y : Nat) (hx : x < 18446744073709551616) (hy : y < 18446744073709551616) :
    ((x / 2 ^ 32) * (y / 2 ^ 32) % 18446744073709551616 + (((x / 2 ^ 32) * (y &&& 4294967295) % 18446744073709551616 + (x &&& 4294967295) * (y &&& 4294967295) % 18446744073709551616 / 2 ^ 32) % 18446744073709551616) / 2 ^ 32) % 18446744073709551616 +
      (((((x / 2 ^ 32) * (y &&& 4294967295) % 18446744073709551616 + (x &&& 4294967295) * (y &&& 4294967295) % 18446744073709551616 / 2 ^ 32) % 18446744073709551616) &&& 4294967295) + (x &&& 4294967295) * (y / 2 ^ 32) % 18446744073709551616) % 18446744073709551616 / 2 ^ 32 = x * y / 18446744073709551616 ∧ x * y / 18446744073709551616 < 18446744073709551616 := by
  have ex : ∀ z : Nat, z &&& 4294967295 = z % 4294967296 := fun z => Nat.and_two_pow_sub_one_eq_mod z 32
  simp only [ex]
  have hp : x * y = (x % 4294967296) * (y % 4294967296) + 4294967296 * ((x % 4294967296) * (y / 4294967296)) + 4294967296 * ((x / 4294967296) * (y % 4294967296)) + 18446744073709551616 * ((x / 4294967296) * (y / 4294967296)) := by
    have h1 : x = x % 4294967296 + 4294967296 * (x / 4294967296) := by omega
    have h2 : y = y % 4294967296 + 4294967296 * (y / 4294967296) := by omega
    generalize x % 4294967296 = a at *
    generalize x / 4294967296 = b at *
    generalize y % 4294967296 = c at *
    generalize y / 4294967296 = d at *
    subst h1 h2
    grind
  rw [hp]
  have b1 : x % 4294967296 ≤ 4294967295 := by omega
  have b2 : x / 4294967296 ≤ 4294967295 := by omega
  have b3 : y % 4294967296 ≤ 4294967295 := by omega
  have b4 : y / 4294967296 ≤ 4294967295 := by omega
  have m1 := Nat.mul_le_mul b1 b3
  have m2 := Nat.mul_le_mul b1 b4
  have m3 := Nat.mul_le_mul b2 b3
  have m4 := Nat.mul_le_mul b2 b4
  simp only [Nat.reducePow, Nat.reduceMul] at *
  generalize (x % 4294967296) * (y % 4294967296) = p at *
  generalize (x % 4294967296) * (y / 4294967296) = q at *
  generalize (x / 4294967296) * (y % 4294967296) = r at *
  generalize (x / 4294967296) * (y / 4294967296) = s at *
  omega
theorem mul64_c (x' y' : Nat) : Contract Tryz.prog 122 [.u .u64 x', .u .u64 y'] (.tup [.u .u64 (x' * y' / 18446744073709551616), .u .u64 (x' * y' % 18446744073709551616)]) := by
  refine contract Tryz.func122 (body := bodyOf Tryz.f122) rfl (by kernel_rfl) (by kernel_rfl) rfl ?_
  rintro ⟨hx', hy', _⟩ w0 S
  have hm := mul64_math x' y' hx' hy'
  refine hold_end mixed ctr0_ok (unroll := true) (f := 60) (sc := []) (r := (SV.tup [SV.u .u64 (((x' / 4294967296 * (y' / 4294967296) % 18446744073709551616 + (x' / 4294967296 * (y' &&& 4294967295) % 18446744073709551616 + (x' &&& 4294967295) * (y' &&& 4294967295) % 18446744073709551616 / 4294967296) % 18446744073709551616 / 4294967296) % 18446744073709551616 + (((x' / 4294967296 * (y' &&& 4294967295) % 18446744073709551616 + (x' &&& 4294967295) * (y' &&& 4294967295) % 18446744073709551616 / 4294967296) % 18446744073709551616 &&& 4294967295) + (x' &&& 4294967295) * (y' / 4294967296) % 18446744073709551616) % 18446744073709551616 / 4294967296) % 18446744073709551616), SV.u .u64 (x' * y' % 18446744073709551616)])) (ob := []) (sc' := []) (by kernel_rfl) trivial ?_
  simp only [SV.tup.injEq, List.cons.injEq, SV.u.injEq, and_true, true_and]
  simp only [Nat.reducePow] at *
  omega
theorem nat2_args {P : Program} {f : FuncId} {x y res : SV} {k1 k2 : IntKind} {a b : Nat} (hx : x.nat? = some (k1, a)) (hy : y.nat? = some (k2, b)) (h : Contract P f [.u k1 a, .u k2 b] res) : Contract P f [x, y] res := by
  intro w S vs hlt hvs
  obtain ⟨v1, t1, rfl, r1, v2, t2, rfl, r2, rfl⟩ := hvs
  exact h w S _ hlt ⟨_, _, rfl, nat?_wk hx r1, _, _, rfl, nat?_wk hy r2, rfl⟩
theorem cMul64 : ∀ args res ob, tMul64 args = some (res, ob) → All ob → Contract Tryz.prog 122 args res := by
  intro args res ob h _
  unfold tMul64 at h
  split at h
  · split at h
    · rename_i hx hy; cases h; exact nat2_args hx hy (mul64_c _ _)
    · cases h
  · cases h
theorem cAdd64 : ∀ args res ob, tAdd64 args = some (res, ob) → All ob → Contract Tryz.prog 104 args res :=
  add64_c Tryz.func104 (by kernel_rfl) (by kernel_rfl) (by kernel_rfl) (by kernel_rfl)
theorem cSub64 : ∀ args res ob, tSub64 args = some (res, ob) → All ob → Contract Tryz.prog 131 args res :=
  sub64_c Tryz.func131 (by kernel_rfl) (by kernel_rfl) (by kernel_rfl) (by kernel_rfl)
def eFl (g : Nat → Option Nat) (args : List SV) : Option (SV × List Prop) :=
  match args with
  | [.fl b] => match g b with
    | some r => some (.fl r, [])
    | none => none
  | _ => none
def eBits (args : List SV) : Option (SV × List Prop) :=
  match args with
  | [.fl b] => if b < 18446744073709551616 then some (.c .u64 b, []) else none
  | _ => none
def eFrom (args : List SV) : Option (SV × List Prop) :=
  match args with
  | [x] => match x.nat? with
    | some (.u64, b) => some (.fl b, [])
    | _ => none
  | _ => none
def flr (b : Nat) : Option Nat := match FloatKind.decode .f64 b with
  | .nan _ _ => none
  | d => some (FloatKind.encode .f64 (d.integral .down))
def sqr (b : Nat) : Option Nat := Ieee.Format.sqrt (FloatKind.format .f64) b
theorem ext_c {P : Program} {f : FuncId} {fn : Func} {g : Array Value → Sem Value} (hf : P.funcs[f]? = some fn) (hname : (fn.name == "runtime.NumGoroutine") = false) (hb : fn.body.isNone = true) (hn : Extern.findNext fn = none) (he : Extern.find fn = some g)
    {args : List SV} {res : SV} (hg : ∀ (w : World) (S : Own) (vs : List Value), relVs (fun _ => 0) S w args vs → ∃ v, (g vs.toArray).run P w = .ok v w ∧ relV (fun _ => 0) S w res v) : Contract P f args res := by
  intro w S vs _ hvs
  unfold Invokes
  rw [run_callFunc_extern hf hname hb hn he]
  obtain ⟨v, h1, h2⟩ := hg w S vs hvs
  rw [h1]
  simp only [Result.andThen_ok]
  exact ⟨Ext.refl w, h2⟩
theorem fl_arg {ow : Own} {w : World} {b : Nat} {vs : List Value} (h : relVs (fun _ => 0) ow w [.fl b] vs) : vs = [.float .f64 b] := by
  obtain ⟨v, t, rfl, ⟨cs, h1, rfl⟩, rfl⟩ := h
  simp only [rel] at h1
  subst h1
  rfl
theorem cSqrt : ∀ args res ob, eFl sqr args = some (res, ob) → All ob → Contract Tryz.prog 148 args res := by
  intro args res ob h _
  unfold eFl at h
  split at h
  · rename_i b
    split at h
    · rename_i r hr
      cases h
      refine ext_c Tryz.func148 (g := Extern.MathSqrt.sqrt) (by kernel_rfl) (by kernel_rfl) (by kernel_rfl) (by kernel_rfl) fun w S vs hvs => ?_
      rw [fl_arg hvs]
      unfold sqr at hr
      refine ⟨.float .f64 r, ?_, relV_of1 rfl rel_fl⟩
      have e : Extern.MathSqrt.sqrt #[.float .f64 b] = (match Ieee.Format.sqrt (FloatKind.format .f64) b with
        | some r => pure (.float .f64 r)
        | none => do pure (.float .f64 (← choose (.nanBits .f64 b b)))) := rfl
      show (Extern.MathSqrt.sqrt #[.float .f64 b]).run Tryz.prog w = _
      rw [e, hr]
      rfl
    · cases h
  · cases h
theorem cFloorA : ∀ args res ob, eFl flr args = some (res, ob) → All ob → Contract Tryz.prog 151 args res := by
  intro args res ob h _
  unfold eFl at h
  split at h
  · rename_i b
    split at h
    · rename_i r hr
      cases h
      refine ext_c Tryz.func151 (g := Extern.MathFloor.toIntegral "math.archFloor" .down) (by kernel_rfl) (by kernel_rfl) (by kernel_rfl) (by kernel_rfl) fun w S vs hvs => ?_
      rw [fl_arg hvs]
      unfold flr at hr
      refine ⟨.float .f64 r, ?_, relV_of1 rfl rel_fl⟩
      show (Extern.MathFloor.toIntegral "math.archFloor" .down #[.float .f64 b]).run Tryz.prog w = _
      have e : Extern.MathFloor.toIntegral "math.archFloor" .down #[.float .f64 b] = (match FloatKind.f64.decode b with
        | .nan s t => if FloatKind.f64.format.quiet t = t then pure (.float .f64 b) else do
          let kept ← choose (.extern "math.Floor,Ceil,Trunc,RoundToEven.signallingNaN kept" 2)
          pure (.float .f64 (if kept == 1 then b else FloatKind.f64.encode (.nan s (FloatKind.f64.format.quiet t))))
        | d => pure (.float .f64 (FloatKind.f64.encode (d.integral .down)))) := rfl
      rw [e]
      cases hd : FloatKind.decode .f64 b <;> rw [hd] at hr <;> first | (cases hr; done) | (cases hr; rfl)
    · cases h
  · cases h
theorem cBits : ∀ args res ob, eBits args = some (res, ob) → All ob → Contract Tryz.prog 157 args res := by
  intro args res ob h _
  unfold eBits at h
  split at h
  · rename_i b
    split at h
    · rename_i hb
      cases h
      refine ext_c Tryz.func157 (g := Extern.MathFloatBits.float64bits) (by kernel_rfl) (by kernel_rfl) (by kernel_rfl) (by kernel_rfl) fun w S vs hvs => ?_
      rw [fl_arg hvs]
      exact ⟨.int .u64 b, rfl, relV_of1 rfl (rel_c (by simp only [inR, lo, lim]; omega))⟩
    · cases h
  · cases h
theorem cFrom : ∀ args res ob, eFrom args = some (res, ob) → All ob → Contract Tryz.prog 156 args res := by
  intro args res ob h _
  unfold eFrom at h
  split at h
  · rename_i x
    split at h
    · rename_i b hx
      cases h
      refine ext_c Tryz.func156 (g := Extern.MathFloatBits.float64frombits) (by kernel_rfl) (by kernel_rfl) (by kernel_rfl) (by kernel_rfl) fun w S vs hvs => ?_
      obtain ⟨v, t, rfl, ⟨cs, h1, rfl⟩, rfl⟩ := hvs
      obtain ⟨rfl, _⟩ := nat?_ok hx h1
      rw [(nat?_sc hx).2]
      exact ⟨.float .f64 b, rfl, relV_of1 rfl rel_fl⟩
    · cases h
  · cases h
def M1a : Ctr := addC 156 eFrom (addC 157 eBits (addC 151 (eFl flr) (addC 148 (eFl sqr) (addC 131 tSub64 (addC 104 tAdd64 (addC 122 tMul64 ctr0))))))
theorem okM1a : CtrOk Tryz.prog M1a := addC_ok (addC_ok (addC_ok (addC_ok (addC_ok (addC_ok (addC_ok ctr0_ok cMul64) cAdd64) cSub64) cSqrt) cFloorA) cBits) cFrom
end Go.Eng.B

