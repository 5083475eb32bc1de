import Derived.Test.YtjefhfgkeeggoaaE14
import Derived.WideShapes
import Derived.OpenShut
import Derived.ChangeSlices
import Derived.RowKit
import Derived.Test.YtjefhfgkeeggoaaRows
import Derived.ProofKit
import Derived.JoinedOf
import Derived.KernelRfl
set_option linter.unusedVariables false
set_option linter.unusedSimpArgs false
set_option linter.unusedSectionVars false
namespace Go.Eng.G
open Go Go.Eng Go.Proofs Go.Eng.B
set_option maxRecDepth 100000
set_option maxHeartbeats 1000000
def H15 (g : List Nat → List Nat) : Ctr := addC 13 (eVer g) (addC 6 eSh (addC 7 (t0 (.b true)) (H9 g)))
def stMl : List It := [.lp [0, 1, 0, 1, 1, 1, 1, 1, 1, 1, 1], .blk 0, .at [1, 1, 1, 1, 1, 1, 1, 1, 1]]
def mlD (A B i : Nat) : List Nat := (List.range 32).map fun j => if j < i then (A + B) / 256 ^ j % 256 else A / 256 ^ j % 256
def mlC (A B i : Nat) : Nat := (A % 256 ^ i + B % 256 ^ i) / 256 ^ i
def sMl0 (P F : List Nat) (A : Nat) (m : List Nat) (v1 v5 v7 : Value) : St := ⟨84, [(1, .pin v1 (.sl .u8 m)), (5, .pin v5 (.sl .u8 P)), (7, .pin v7 (.sl .u8 (F ++ dB A)))], [], 0, 0⟩
def sMl (P F : List Nat) (A : Nat) (m : List Nat) (v1 v5 v7 : Value) (i c : Nat) (L : List Nat) : St := ⟨84, [(1, .pin v1 (.sl .u8 m)), (5, .pin v5 (.sl .u8 P)), (7, .pin v7 (.sl .u8 (F ++ dB A))), (9, .row 0 (.sl .u8 L)), (10, .u .i64 c), (11, .ptr 3 0 (.c 0)), (45, .u .i64 i)], [(0, ⟨5, [], true⟩), (3, ⟨31, [.arr .u8 32 (dB QQ)], false⟩)], 4, 0⟩
theorem okH15 {g : List Nat → List Nat} (hg : g = sum64) (hk : HashOk g) : CtrOk Try.prog (H15 g) :=
  addC_ok (addC_ok (addC_ok (okH9 hg hk) (t0_ok awake_c)) cSh) (cVer hg hk)
theorem mlD_len (A B i : Nat) : (mlD A B i).length = 32 := by unfold mlD; rw [List.length_map, List.length_range]
theorem mlD_get {A B i j : Nat} (h : j < 32) : (mlD A B i).getD j 0 = if j < i then (A + B) / 256 ^ j % 256 else A / 256 ^ j % 256 := by
  unfold mlD
  rw [List.getD_eq_getElem?_getD, List.getElem?_map, List.getElem?_range h]; rfl
theorem dB_get {N j : Nat} (h : j < 32) : (dB N).getD j 0 = N / 256 ^ j % 256 := dg_getD _ _ _ _ h
theorem mlD_0 (A B : Nat) : mlD A B 0 = dB A := by
  apply ext_getD (by rw [mlD_len, dB_len])
  intro j hj
  rw [mlD_len] at hj
  rw [mlD_get hj, dB_get hj, if_neg (Nat.not_lt_zero _)]
theorem mlD_32 (A B : Nat) : mlD A B 32 = dB (A + B) := by
  apply ext_getD (by rw [mlD_len, dB_len])
  intro j hj
  rw [mlD_len] at hj
  rw [mlD_get hj, dB_get hj, if_pos hj]
theorem mlC_le (A B i : Nat) : mlC A B i ≤ 1 := by
  unfold mlC
  have hp : 0 < 256 ^ i := Nat.pow_pos (by decide)
  have h1 := Nat.mod_lt A hp
  have h2 := Nat.mod_lt B hp
  have : (A % 256 ^ i + B % 256 ^ i) / 256 ^ i < 2 := Nat.div_lt_of_lt_mul (by omega)
  omega
theorem mlC_0 (A B : Nat) : mlC A B 0 = 0 := by unfold mlC; rw [Nat.pow_zero]; omega
theorem mlC_succ (A B i : Nat) : (mlC A B i + (A / 256 ^ i % 256 + B / 256 ^ i % 256)) / 256 = mlC A B (i + 1) := by
  unfold mlC
  have hp : 0 < 256 ^ i := Nat.pow_pos (by decide)
  have h1 : ∀ x, x % 256 ^ (i + 1) = x % 256 ^ i + 256 ^ i * (x / 256 ^ i % 256) := fun x => by rw [Nat.pow_succ, Nat.mod_mul]
  rw [h1 A, h1 B, Nat.pow_succ, ← Nat.div_div_eq_div_mul]
  congr 1
  rw [show A % 256 ^ i + 256 ^ i * (A / 256 ^ i % 256) + (B % 256 ^ i + 256 ^ i * (B / 256 ^ i % 256)) = A % 256 ^ i + B % 256 ^ i + 256 ^ i * (A / 256 ^ i % 256 + B / 256 ^ i % 256) by rw [Nat.mul_add]; omega]
  rw [Nat.add_mul_div_left _ _ hp]
theorem mlC_byte (A B i : Nat) : (mlC A B i + (A / 256 ^ i % 256 + B / 256 ^ i % 256)) % 256 = (A + B) / 256 ^ i % 256 := by
  unfold mlC
  have hp : 0 < 256 ^ i := Nat.pow_pos (by decide)
  have h1 := Nat.div_add_mod A (256 ^ i)
  have h2 := Nat.div_add_mod B (256 ^ i)
  have e : (A + B) / 256 ^ i = (A % 256 ^ i + B % 256 ^ i) / 256 ^ i + (A / 256 ^ i + B / 256 ^ i) := by
    conv => lhs; rw [← h1, ← h2]
    rw [show 256 ^ i * (A / 256 ^ i) + A % 256 ^ i + (256 ^ i * (B / 256 ^ i) + B % 256 ^ i) = A % 256 ^ i + B % 256 ^ i + 256 ^ i * (A / 256 ^ i + B / 256 ^ i) by rw [Nat.mul_add]; omega]
    rw [Nat.add_mul_div_left _ _ hp]
  rw [e]
  omega
theorem mlD_set {F : List Nat} (hF : F.length = 32) (A B : Nat) {i : Nat} (hi : i < 32) :
    (F ++ mlD A B i).set (32 + i) ((mlC A B i + ((F ++ mlD A B i).getD (32 + i) 0 + (dB B).getD i 0)) % 256) = F ++ mlD A B (i + 1)
    ∧ (mlC A B i + ((F ++ mlD A B i).getD (32 + i) 0 + (dB B).getD i 0)) / 256 = mlC A B (i + 1) := by
  have e1 : (F ++ mlD A B i).getD (32 + i) 0 = A / 256 ^ i % 256 := by
    rw [List.getD_eq_getElem?_getD, List.getElem?_append_right (by omega), hF, show 32 + i - 32 = i by omega, ← List.getD_eq_getElem?_getD, mlD_get hi, if_neg (Nat.lt_irrefl _)]
  rw [e1, dB_get hi, mlC_byte, mlC_succ]
  refine ⟨?_, rfl⟩
  rw [List.set_append_right _ _ (by omega), hF, show 32 + i - 32 = i by omega]
  congr 1
  apply ext_getD (by rw [List.length_set, mlD_len, mlD_len])
  intro j hj
  rw [List.length_set, mlD_len] at hj
  by_cases h : j = i
  · subst h
    rw [getD_set_eq (by rw [mlD_len]; exact hj), mlD_get hj, if_pos (by omega)]
  · rw [getD_set_ne (fun e => h e.symm), mlD_get hj, mlD_get hj]
    by_cases h2 : j < i
    · rw [if_pos h2, if_pos (by omega)]
    · rw [if_neg h2, if_neg (by omega)]
theorem ver_sig {g : List Nat → List Nat} (hk : HashOk g) (s m : List Nat) : verW g (pubW g s) m (sgF g s m ++ dB (sgS g s m)) = true := by
  have hk1 := pubW_pt hk s
  have hl := sig_len g s m
  have ht := sig_take g s m
  have hd := sig_drop g s m
  unfold sigW at hl ht hd
  have oA := rd_on hk1.1
  have h1 : vB (dB (sgS g s m)) = sgS g s m := vB_d q_M
  have q : verQ g (pubW g s) m (sgF g s m ++ dB (sgS g s m)) = true := by
    have ek : wideV (g (sgF g s m ++ pubW g s ++ m)) = sgK g s m := rfl
    have rA := rep_neg (rdP_ok (pubW g s)) oA (rd_rep hk1.1)
    have kM : sgK g s m < M256 := q_M
    have sM : sgS g s m < M256 := q_M
    have rM : sgR g s m < M256 := q_M
    have eF : sgF g s m = dB (bmV (sgR g s m)) := rfl
    have eq := sg_eqn hk s m
    unfold verQ
    rw [hd, ht, h1, ek, beq_iff_eq]
    conv => rhs; rw [eF]
    generalize sgS g s m = S at *
    generalize sgR g s m = R at *
    generalize sgK g s m = K at *
    have r1 := rep_times (rdP_ok baseL) Bp_on Bp_rep sM
    have r2 := rep_times (rneg_ok (rdP_ok (pubW g s))) (pneg_on oA) rA kM
    have r3 := rep_radd (rtm_ok dN S (rdP baseL) 256 gO gO_okP) (rtm_ok dN K (rneg (rdP (pubW g s))) 256 gO gO_okP) (nsm_on Bp_on _) (nsm_on (pneg_on oA) _) r1 r2
    have e4 : encR (radd dN (rtm dN S (rdP baseL) 256 gO) (rtm dN K (rneg (rdP (pubW g s))) 256 gO)) = bmV R := by
      rw [encR_rep (padd_on (nsm_on Bp_on _) (nsm_on (pneg_on oA) _)) r3, bm_pt rM, eq, padd_assoc (nsm_on Bp_on _) (nsm_on oA _) (nsm_on (pneg_on oA) _), nsm_neg oA, padd_O (nsm_on Bp_on _)]
    rw [e4]
  unfold verW
  rw [pub_len, hl, hd, h1, hk1.1, pub_small hk s, q, decide_eq_true (show sgS g s m < QQ from Nat.mod_lt _ (by decide))]
  rfl
theorem ver_mal {g : List Nat → List Nat} (s m : List Nat) : verW g (pubW g s) m (sgF g s m ++ dB (sgS g s m + QQ)) = false := by
  have hd : (sgF g s m ++ dB (sgS g s m + QQ)).drop 32 = dB (sgS g s m + QQ) := List.drop_left' (dB_len _)
  have hq : sgS g s m < QQ := Nat.mod_lt _ (by decide)
  have hM : sgS g s m + QQ < M256 := by
    have : QQ + QQ < M256 := by decide
    omega
  unfold verW
  rw [hd, vB_d hM, decide_eq_false (show ¬ sgS g s m + QQ < QQ by omega)]
  simp
section
variable {g : List Nat → List Nat} (hg : g = sum64) (hk : HashOk g) {w0 : World} {S : Own} {res : SV}
include hg hk
theorem ml_2 (s m : List Nat) (v1 v5 v7 : Value) (hm : m.length ≤ 600) (hr : res = .b true) : Hold Try.prog (bodyOf Try.f3) (Fin Try.prog Try.f3 w0 S res) w0 S (.at [0, 0, 1, 0, 1, 1, 1, 1, 1, 1, 1, 1] :: stMl) (sMl (pubW g s) (sgF g s m) (sgS g s m) m v1 v5 v7 32 (mlC (sgS g s m) QQ 32) (sgF g s m ++ dB (sgS g s m + QQ))) := by
  rw [hr]
  generalize mlC (sgS g s m) QQ 32 = c
  refine hold_endw mixed (okH15 hg hk) (unroll := true) (f := 300) (sc := [false, true, true]) (r := (SV.b true)) (ob := [false = false, m.length ≤ 900000, verW g (pubW g s) m (sgF g s m ++ dB (sgS g s m)) = true, m.length ≤ 900000, (!verW g (pubW g s) m (sgF g s m ++ dB (sgS g s m + QQ))) = true]) (sc' := []) (by kernel_rfl) ?_ ?_
  · rw [ver_sig hk, ver_mal]
    repeat' first | exact True.intro | exact rfl | omega | exact decide_eq_false (by omega) | refine ⟨?_, ?_⟩
  · exact wkR_refl _
theorem ml_1 (s m : List Nat) (v1 v5 v7 : Value) (hm : m.length ≤ 600) (hr : res = .b true)
    (r1 : relV1 (fun _ => 0) S w0 (.sl .u8 m) v1) (r5 : relV1 (fun _ => 0) S w0 (.sl .u8 (pubW g s)) v5) (r7 : relV1 (fun _ => 0) S w0 (.sl .u8 (sgF g s m ++ dB (sgS g s m))) v7) :
    ∀ d i, i + d = 32 → ∀ L c, L = sgF g s m ++ mlD (sgS g s m) QQ i → c = mlC (sgS g s m) QQ i → Hold Try.prog (bodyOf Try.f3) (Fin Try.prog Try.f3 w0 S res) w0 S stMl (sMl (pubW g s) (sgF g s m) (sgS g s m) m v1 v5 v7 i c L) := by
  intro d
  induction d with
  | zero =>
    intro i hi L c hL hc
    obtain rfl : i = 32 := by omega
    refine hold_unroll (c := _) rfl ?_
    rw [hL, hc, mlD_32]
    exact ml_2 hg hk s m v1 v5 v7 hm hr
  | succ d ih =>
    intro i hi L c hL hc
    have hi32 : i < 32 := by omega
    have hF := sgF_len g s m
    obtain ⟨e1, e2⟩ := mlD_set hF (sgS g s m) QQ hi32
    have hll : L.length = 64 := by rw [hL, List.length_append, mlD_len, hF]
    have hb : L.getD (32 + i) 0 < 256 := by
      rw [hL, List.getD_eq_getElem?_getD, List.getElem?_append_right (by omega), hF, show 32 + i - 32 = i by omega, ← List.getD_eq_getElem?_getD, mlD_get hi32, if_neg (Nat.lt_irrefl _)]
      exact Nat.mod_lt _ (by decide)
    have hb2 : (dB QQ).getD i 0 < 256 := by rw [dB_get hi32]; exact Nat.mod_lt _ (by decide)
    have hc1 : c ≤ 1 := by rw [hc]; exact mlC_le _ _ _
    refine hold_unroll (c := _) rfl ?_
    refine hold_cut mixed (okH15 hg hk) (unroll := false) (f := 300) (sc := [true]) (ks := [1,5,7,9,10,11,45]) (bs := [0,3]) (nx := 4) (st' := [It.lp [0, 1, 0, 1, 1, 1, 1, 1, 1, 1, 1], It.blk 0, It.at [1, 1, 1, 1, 1, 1, 1, 1, 1]]) (σ' := { nt := 84, slots := [(1, SV.raw v1), (5, SV.raw v5), (7, SV.raw v7), (9, SV.row 0 (SV.sl .u8 (L.set (32 + i) ((c + (L.getD (32 + i) 0 + (dB QQ).getD i 0)) % 256)))), (10, SV.u .i64 ((c + (L.getD (32 + i) 0 + (dB QQ).getD i 0)) / 256)), (11, SV.ptr 3 0 (Ix.c 0)), (45, SV.u .i64 (i + 1))], blks := [(0, { ty := 5, segs := [], row := true }), (3, { ty := 31, segs := [SV.arr .u8 32 (dB QQ)] })], next := 4 }) (ob := [Decidable.decide (i < 32) = true, 32 + i < 9223372036854775808, 32 + i < L.length, i < 32, i < 32, L.getD (32 + i) 0 + (dB QQ).getD i 0 < 9223372036854775808, c + (L.getD (32 + i) 0 + (dB QQ).getD i 0) < 9223372036854775808, 32 + i < 9223372036854775808, 32 + i < L.length, i + 1 < 9223372036854775808]) (sc' := []) (by kernel_rfl) ?_ ?_
    · exact ⟨decide_eq_true hi32, by omega, by omega, by omega, by omega, by omega, by omega, by omega, by omega, by omega, trivial⟩
    · refine hold_repin (t := 1) r1 rfl rfl ?_
      refine hold_repin (t := 5) r5 rfl rfl ?_
      refine hold_repin (t := 7) r7 rfl rfl ?_
      refine hold_restrict (ks := [1,5,7,9,10,11,45]) (bs := [0,3]) (nx := 4) rfl ?_
      have := ih (i + 1) (by omega) _ _ rfl rfl
      rw [← e1, ← e2, ← hL, ← hc] at this
      exact this
theorem ml_0 (s m : List Nat) (v1 v5 v7 : Value) (hm : m.length ≤ 600) (hr : res = .b true)
    (r1 : relV1 (fun _ => 0) S w0 (.sl .u8 m) v1) (r5 : relV1 (fun _ => 0) S w0 (.sl .u8 (pubW g s)) v5) (r7 : relV1 (fun _ => 0) S w0 (.sl .u8 (sgF g s m ++ dB (sgS g s m))) v7) : Hold Try.prog (bodyOf Try.f3) (Fin Try.prog Try.f3 w0 S res) w0 S [.at [1, 1, 1, 1, 1]] (sMl0 (pubW g s) (sgF g s m) (sgS g s m) m v1 v5 v7) := by
  refine hold_cut mixed (okH15 hg hk) (unroll := false) (f := 300) (sc := []) (ks := [1,5,7,9,10,11,45]) (bs := [0,3]) (nx := 4) (st' := [It.lp [0, 1, 0, 1, 1, 1, 1, 1, 1, 1, 1], It.blk 0, It.at [1, 1, 1, 1, 1, 1, 1, 1, 1]]) (σ' := { nt := 84, slots := [(1, SV.pin v1 (SV.sl .u8 m)), (5, SV.pin v5 (SV.sl .u8 (pubW g s))), (7, SV.pin v7 (SV.sl .u8 (sgF g s m ++ dB (sgS g s m)))), (9, SV.row 0 (SV.sl .u8 (sgF g s m ++ dB (sgS g s m)))), (10, SV.c .i64 (0 : Int)), (11, SV.ptr 3 0 (Ix.c 0)), (45, SV.c .i64 (0 : Int))], blks := [(0, { ty := 5, segs := [], row := true }), (3, { ty := 31, segs := [SV.arr .u8 32 (dB 7237005577332262213973186563042994240857116359379907606001950938285454250989)] })], next := 4 }) (ob := [slenD (SV.sl .u8 (sgF g s m ++ dB (sgS g s m))) * 1 ≤ 140737488355328]) (sc' := []) (by kernel_rfl) ?_ ?_
  · have := sig_len g s m
    unfold sigW at this
    exact ⟨by show (sgF g s m ++ dB (sgS g s m)).length * 1 ≤ _; omega, trivial⟩
  · have := ml_1 hg hk (w0 := w0) (S := S) s m v1 v5 v7 hm hr r1 r5 r7 32 0 rfl _ _ rfl rfl
    rw [mlD_0, mlC_0] at this
    exact Hold.weaken this (by simp [wks, wk, wk0, lim, sMl])
end
theorem EdwardsMalleable_g {g : List Nat → List Nat} (hg : g = sum64) (hk : HashOk g) (n : Int) (m : List Nat) : Contract Try.prog 3 [.i .i64 n, .sl .u8 m] (.b true) := by
  refine contract Try.func3 (body := bodyOf Try.f3) rfl (by kernel_rfl) (by kernel_rfl) rfl ?_
  intro _ w0 S
  by_cases hm : m.length ≤ 600
  · refine hold_cut mixed (okH15 hg hk) (unroll := false) (f := 16) (sc := [false, false, false, false]) (ks := [1,5,7]) (bs := []) (nx := 0) (st' := [It.at [1, 1, 1, 1, 1]]) (σ' := { nt := 84, slots := [(1, SV.sl .u8 m), (5, SV.sl .u8 (pbI g (seedL (u64 n)))), (7, SV.sl .u8 (sgI g (seedL (u64 n)) m))], blks := [], next := 0 }) (ob := [(!Decidable.decide (m.length ≤ 600)) = false, m.length ≤ 900000, (erI (seedL (u64 n)) != (0 : Int)) = false, (erI (seedL (u64 n)) != (0 : Int)) = false, ((sgI g (seedL (u64 n)) m).length != 64) = false]) (sc' := []) (by kernel_rfl) ?_ ?_
    · have l3 := sig_len g (seedL (u64 n)) m
      have hs := (seedL_ok (u64 n)).1
      rw [sgI_p hs, erI_p hs, l3]
      exact ⟨by rw [decide_eq_true hm]; rfl, by omega, rfl, rfl, rfl, trivial⟩
    · have hs := (seedL_ok (u64 n)).1
      rw [sgI_p hs, pbI_p hs]
      refine hold_rebase rfl fun w1 vs hvs => ?_
      obtain ⟨v1, _, rfl, q1, v5, _, rfl, q5, v7, _, rfl, q7, rfl⟩ := hvs
      exact ml_0 hg hk (seedL (u64 n)) m v1 v5 v7 hm rfl q1 q5 q7
  · refine hold_endw mixed (okH15 hg hk) (unroll := true) (f := 100) (sc := [true]) (r := (SV.b true)) (ob := [(!Decidable.decide (m.length ≤ 600)) = true]) (sc' := []) (by kernel_rfl) ?_ ?_
    · repeat' first | exact True.intro | exact decide_eq_true rfl | (simp [hm]; done) | refine ⟨?_, ?_⟩
    · exact wkR_refl _
theorem EdwardsMalleable_c (n : Int) (m : List Nat) : Contract Try.prog 3 [.i .i64 n, .sl .u8 m] (.b true) := EdwardsMalleable_g rfl sum64_ok n m
end Go.Eng.G

namespace Go.Eng
open Go.RowKit
theorem has_inR {k : IntKind} {n : Int} (h : k.has n) : inR k n := by
  cases k <;> simp only [IntKind.has, IntKind.min, IntKind.max, IntKind.signed, IntKind.bits, inR, lo, lim] at * <;> simp at h ⊢ <;> omega
theorem int_of {P : Program} {w : World} {r : Reach} {base : Nat} {t : TypeId} {v : Value} {k : IntKind} (ht : P.underlying t = some (.int k)) (h : Value.okWide P w r base t v) : ∃ n, v = .int k n ∧ k.has n := by
  obtain ⟨n, rfl⟩ := WideShapes.okWide_int ht h
  refine ⟨n, rfl, ?_⟩
  simpa [Value.okWide, Cell.okWide, Cell.ok, ht] using h
theorem open_i {P : Program} {w : World} {r : Reach} {base : Nat} {t : TypeId} {v : Value} {k : IntKind} (ht : P.underlying t = some (.int k)) (h : Value.okWide P w r base t v) {β : Nat → Nat} {ow : Own} {w' : World} :
    ∃ n, relV1 β ow w' (.i k n) v := by
  obtain ⟨n, rfl, hn⟩ := int_of ht h
  exact ⟨n, _, rel_i (has_inR hn), rfl⟩
theorem ints_of {k : IntKind} (hk : k.signed = false) : ∀ (cs : List Value), (∀ v ∈ cs, ∃ n, v = .int k n ∧ k.has n) → ∃ l : List Nat, cs = ints k l ∧ l.length = cs.length ∧ ∀ x ∈ l, x < lim k := by
  intro cs
  induction cs with
  | nil => intro _; exact ⟨[], rfl, rfl, by simp⟩
  | cons v cs ih =>
    intro h
    obtain ⟨l, h1, h2, h3⟩ := ih fun u hu => h u (by simp [hu])
    obtain ⟨n, rfl, hn⟩ := h v (by simp)
    have hr := has_inR hn
    have h0 : 0 ≤ n := by cases k <;> simp [IntKind.signed] at hk <;> simp only [inR, lo] at hr <;> omega
    refine ⟨n.toNat :: l, ?_, by simp [h2], ?_⟩
    · simp only [ints, List.map_cons, Int.toNat_of_nonneg h0]
      rw [h1]; rfl
    · intro x hx
      rcases List.mem_cons.1 hx with rfl | hx
      · have := hr.2; omega
      · exact h3 x hx
theorem open_arr {P : Program} {w : World} {r : Reach} {base : Nat} {t e u : TypeId} {v : Value} {k : IntKind} {n : Nat} (ht : P.underlying t = some (.array n e)) (hct : P.cellTypes P.depth t = some (List.replicate n u)) (hsz : P.cellsOf t = n)
    (hu : P.underlying u = some (.int k)) (hk : k.signed = false) (h : Value.okWide P w r base t v) {β : Nat → Nat} {ow : Own} {w' : World} : ∃ l, relV1 β ow w' (.arr k n l) v := by
  simp only [Value.okWide, ht] at h
  obtain ⟨cs, rfl, hs, ts, hts, _, hc⟩ := h
  rw [hct] at hts
  cases hts
  obtain ⟨l, h1, h2, h3⟩ := ints_of hk cs.toList fun v hv => by
    obtain ⟨i, hi⟩ := List.getElem?_of_mem hv
    obtain ⟨u', hu', hok⟩ := hc i v (by simpa using hi)
    have : u' = u := by
      have := List.mem_of_getElem? hu'
      exact List.eq_of_mem_replicate this
    subst this
    exact int_of (w := w) (r := r) (base := base) hu (by simp only [Value.okWide, hu]; exact hok)
  refine ⟨l, ints k l, rel_arr ?_ h3, ?_⟩
  · rw [h2]; simp [hs, hsz]
  · simp only [SV.isAgg, toV, if_true]
    rw [← h1]
theorem Contract.calls {P : Program} {f : FuncId} {fn : Func} {body : Code} {args : List SV} {res : SV} (h : Contract P f args res) (hf : P.funcs[f]? = some fn) (hb : fn.body = some body) (hname : (fn.name == "runtime.NumGoroutine") = false)
    {w : World} {vs : List Value} (hv : relVs (fun _ => 0) (fun _ _ => False) w args vs) :
    Calls P f vs.toArray w fun e w' => ∃ v, e = .returned v ∧ Below w.heap.size w w' ∧ relV (fun _ => 0) (fun _ _ => False) w' res v := by
  have h1 := h w (fun _ _ => False) vs (fun _ _ h => h.elim) hv
  unfold Invokes at h1
  have hcall : (callFunc f vs.toArray).run P w = .ok (.enter f vs.toArray) w := by
    have hne : ¬ fn.name = "runtime.NumGoroutine" := by simpa using hname
    simp [callFunc, hf, hb, hne]
  rw [hcall] at h1
  exact h1
end Go.Eng

namespace Go.Eng
open Go.RowKit Go.ChangeShapes Go.WideShapes
section
variable {H : Type} {enc : TypeId × Value → H} {P : Program} {w : World} {sp : Nat → Bool} {held : Bool} {r : Reach} {b0 : Nat} {t e : TypeId} {v : Value} {d : DataW H} {ps : List MemPlace} {k : IntKind}
theorem wf_inR {n : Int} (h : (Lit.int k n).wf = true) : inR k n := by
  apply has_inR
  have h : k.min ≤ n ∧ n ≤ k.max := by simpa [Lit.wf] using h
  exact h
theorem open_zs (ht : P.underlying t = some (.slice e)) (he : P.underlying e = some (.int k)) (hc : P.cellsOf e = 1) (hval : Value.okWide P w r b0 t v) (hd : DataW.Trod enc P w 0 sp held t v d ps) :
    ∃ zs : List Int, ReadsAs (fun _ _ => False) w v (zs.map fun n : Int => Value.int k n) ∧ ∀ n ∈ zs, inR k n := by
  obtain ⟨a0, len, cap, rfl⟩ := okWide_slice ht hval
  obtain ⟨fuel, hf⟩ := hd
  rcases ChangeShapes.open_ints ht he hc hf with ⟨h1, _⟩ | ⟨a, len', cap', zs, h1, _, hl, hm, hz, _, hcell, hwf⟩
  · simp only [Value.cells, List.cons.injEq, and_true] at h1
    cases h1
    exact ⟨[], ⟨none, 0, 0, rfl, rfl, Nat.le_refl _, by omega, fun h => absurd h (by omega)⟩, by simp⟩
  · simp only [Value.cells, List.cons.injEq, and_true] at h1
    cases h1
    have hle : len ≤ zs.length := by rw [hz]; split <;> omega
    have hmax : cap < 9223372036854775808 := by simp only [maxLen] at hm; omega
    refine ⟨zs.take len, ⟨some a, len, cap, rfl, by simp; omega, hl, hmax, fun hp => ⟨a, rfl, ?_, fun _ _ h => h, fun j u hu => ?_⟩⟩, fun n hn => wf_inR (hwf n (List.mem_of_mem_take hn))⟩
    · have := hcell 0 (by omega)
      simp only [Addr.add, if_true] at this
      cases hs : a.spot with
      | none => rfl
      | some q => simp [World.cell?, hs] at this; split at this <;> cases this
    · have hj : j < len := by
        have := (List.getElem?_eq_some_iff.1 hu).1
        simp at this; omega
      have h0 := hcell 0 (by omega)
      have hs : a.spot = none := by
        simp only [Addr.add, if_true] at h0
        cases hs : a.spot with
        | none => rfl
        | some q => simp [World.cell?, hs] at h0; split at h0 <;> cases h0
      have := hcell j (by omega)
      rw [add_spot hs] at this
      rw [this]
      simp only [List.getElem?_map, List.getElem?_take_of_lt hj, Option.map_eq_some_iff] at hu
      obtain ⟨z, hz1, rfl⟩ := hu
      simp [List.getD_eq_getElem?_getD, hz1]
theorem nats_of (hk : k.signed = false) : ∀ (zs : List Int), (∀ n ∈ zs, inR k n) → ∃ l : List Nat, (zs.map fun n : Int => Value.int k n) = ints k l ∧ ∀ x ∈ l, x < lim k := by
  intro zs
  induction zs with
  | nil => intro _; exact ⟨[], rfl, by simp⟩
  | cons n zs ih =>
    intro h
    obtain ⟨l, h1, h2⟩ := ih fun m hm => h m (by simp [hm])
    have hr := h n (by simp)
    have h0 : 0 ≤ n := by cases k <;> simp [IntKind.signed] at hk <;> simp only [inR, lo] at hr <;> omega
    refine ⟨n.toNat :: l, by simp only [ints, List.map_cons, Int.toNat_of_nonneg h0, h1], ?_⟩
    intro x hx
    rcases List.mem_cons.1 hx with rfl | hx
    · have := hr.2; omega
    · exact h2 x hx
theorem open_bytes {β : Nat → Nat} (ht : P.underlying t = some (.slice e)) (he : P.underlying e = some (.int k)) (hk : k.signed = false) (hc : P.cellsOf e = 1) (hval : Value.okWide P w r b0 t v) (hd : DataW.Trod enc P w 0 sp held t v d ps) :
    ∃ l, relV1 β (fun _ _ => False) w (.sl k l) v := by
  obtain ⟨zs, h1, h2⟩ := open_zs ht he hc hval hd
  obtain ⟨l, h3, h4⟩ := nats_of hk zs h2
  rw [h3] at h1
  exact ⟨l, [v], by simp only [rel]; exact ⟨⟨v, rfl, h1⟩, h4⟩, rfl⟩
theorem open_intl {β : Nat → Nat} (ht : P.underlying t = some (.slice e)) (he : P.underlying e = some (.int .i64)) (hc : P.cellsOf e = 1) (hval : Value.okWide P w r b0 t v) (hd : DataW.Trod enc P w 0 sp held t v d ps) :
    ∃ l, relV1 β (fun _ _ => False) w (.sli l) v := by
  obtain ⟨zs, h1, h2⟩ := open_zs ht he hc hval hd
  exact ⟨zs, [v], by simp only [rel]; exact ⟨⟨v, rfl, h1⟩, h2⟩, rfl⟩
theorem open_b {β : Nat → Nat} {ow : Own} {w' : World} (ht : P.underlying t = some .bool) (hval : Value.okWide P w r b0 t v) : ∃ x, relV1 β ow w' (.b x) v := by
  obtain ⟨b, rfl⟩ := okWide_bool ht hval
  exact ⟨b, _, rel_b, rfl⟩
theorem open_str {β : Nat → Nat} {ow : Own} {w' : World} (ht : P.underlying t = some .string) (hval : Value.okWide P w r b0 t v) : ∃ l, relV1 β ow w' (.str l) v := by
  obtain ⟨s, rfl⟩ := okWide_string ht hval
  have := constSV_ok (β := β) (ow := ow) (w := w') (v := .string s) (s := .str (s.data.toList.map (·.toNat))) rfl
  exact ⟨_, _, this.1, rfl⟩
end
end Go.Eng

namespace Go.Proofs.Ytjefhfgkeeggoaa.Facts
open Go Go.Proofs
set_option maxRecDepth 100000
theorem words_word {r : List Char} : ∀ {l : List Char}, (∀ c ∈ l, c ≠ ' ') → wordsSigns (l ++ ' ' :: r) = l :: wordsSigns r := by
  intro l
  induction l with
  | nil => intro _; rfl
  | cons c l ih =>
    intro h
    have hc : c ≠ ' ' := h c (by simp)
    have e := ih fun x hx => h x (by simp [hx])
    show wordsSigns (c :: (l ++ ' ' :: r)) = _
    rw [wordsSigns, e]
    · intro hh; exact hc hh
theorem order_is : Try.pinned.checked.prog.initOrder = "harness c319bd4258ca91191c4399b3aa3731c6deadc07c449b9da0a464ce6c85c40ed8 cut at coresec/coreseclaw10.EdwardsMalleable coresec/coreseclaw10.EdwardsEquation coresec/coreseclaw09.MontgomeryAgrees" := by kernel_rfl
theorem order_lit : ("harness c319bd4258ca91191c4399b3aa3731c6deadc07c449b9da0a464ce6c85c40ed8 cut at coresec/coreseclaw10.EdwardsMalleable coresec/coreseclaw10.EdwardsEquation coresec/coreseclaw09.MontgomeryAgrees" : String) = String.ofList (['h', 'a', 'r', 'n', 'e', 's', 's'] ++ ' ' :: (['c', '3', '1', '9', 'b', 'd', '4', '2', '5', '8', 'c', 'a', '9', '1', '1', '9', '1', 'c', '4', '3', '9', '9', 'b', '3', 'a', 'a', '3', '7', '3', '1', 'c', '6', 'd', 'e', 'a', 'd', 'c', '0', '7', 'c', '4', '4', '9', 'b', '9', 'd', 'a', '0', 'a', '4', '6', '4', 'c', 'e', '6', 'c', '8', '5', 'c', '4', '0', 'e', 'd', '8'] ++ ' ' :: (['c', 'u', 't'] ++ ' ' :: ['a', 't', ' ', 'c', 'o', 'r', 'e', 's', 'e', 'c', '/', 'c', 'o', 'r', 'e', 's', 'e', 'c', 'l', 'a', 'w', '1', '0', '.', 'E', 'd', 'w', 'a', 'r', 'd', 's', 'M', 'a', 'l', 'l', 'e', 'a', 'b', 'l', 'e', ' ', 'c', 'o', 'r', 'e', 's', 'e', 'c', '/', 'c', 'o', 'r', 'e', 's', 'e', 'c', 'l', 'a', 'w', '1', '0', '.', 'E', 'd', 'w', 'a', 'r', 'd', 's', 'E', 'q', 'u', 'a', 't', 'i', 'o', 'n', ' ', 'c', 'o', 'r', 'e', 's', 'e', 'c', '/', 'c', 'o', 'r', 'e', 's', 'e', 'c', 'l', 'a', 'w', '0', '9', '.', 'M', 'o', 'n', 't', 'g', 'o', 'm', 'e', 'r', 'y', 'A', 'g', 'r', 'e', 'e', 's']))) := by kernel_rfl
theorem order_words : ∃ R, behindMainWord (wordsSigns Try.pinned.checked.prog.initOrder.toList) = ['c', 'u', 't'] :: R := by
  rw [order_is, order_lit, String.toList_ofList, words_word (by decide), words_word (by decide), words_word (by decide)]
  generalize wordsSigns ['a', 't', ' ', 'c', 'o', 'r', 'e', 's', 'e', 'c', '/', 'c', 'o', 'r', 'e', 's', 'e', 'c', 'l', 'a', 'w', '1', '0', '.', 'E', 'd', 'w', 'a', 'r', 'd', 's', 'M', 'a', 'l', 'l', 'e', 'a', 'b', 'l', 'e', ' ', 'c', 'o', 'r', 'e', 's', 'e', 'c', '/', 'c', 'o', 'r', 'e', 's', 'e', 'c', 'l', 'a', 'w', '1', '0', '.', 'E', 'd', 'w', 'a', 'r', 'd', 's', 'E', 'q', 'u', 'a', 't', 'i', 'o', 'n', ' ', 'c', 'o', 'r', 'e', 's', 'e', 'c', '/', 'c', 'o', 'r', 'e', 's', 'e', 'c', 'l', 'a', 'w', '0', '9', '.', 'M', 'o', 'n', 't', 'g', 'o', 'm', 'e', 'r', 'y', 'A', 'g', 'r', 'e', 'e', 's'] = R
  exact ⟨R, by kernel_rfl⟩
theorem c_gc : (['c', 'u', 't'] == "gc".toList) = false := by kernel_rfl
theorem c_spec : (['c', 'u', 't'] == "spec".toList) = false := by kernel_rfl
theorem c_cut : (['c', 'u', 't'] == "cut".toList) = true := by kernel_rfl
theorem c_carried : (['c', 'u', 't'] == "carried".toList) = false := by kernel_rfl
theorem c_strip (R : List (List Char)) : stripLifts liftWords (['c', 'u', 't'] :: R) = ([], ['c', 'u', 't'] :: R) := by kernel_rfl
theorem lifts_of {P : Program} {R : List (List Char)} (h : behindMainWord (wordsSigns P.initOrder.toList) = ['c', 'u', 't'] :: R) : P.liftsFinal = false := by
  unfold Program.liftsFinal Program.headLifts
  rw [h]
  kernel_rfl
theorem make_of {P : Program} {R : List (List Char)} (h : behindMainWord (wordsSigns P.initOrder.toList) = ['c', 'u', 't'] :: R) : P.make = some .cut := by
  unfold Program.make
  rw [h]
  simp only [c_gc, c_spec, c_cut, Bool.or_false, Bool.false_or, Bool.true_or, if_true, if_false, Bool.false_eq_true]
theorem enter_of {P : Program} {R : List (List Char)} (h : behindMainWord (wordsSigns P.initOrder.toList) = ['c', 'u', 't'] :: R) (h2 : P.laysLater = false) (h3 : P.bearsReflect = false) (h4 : P.doorFits [] = true) : P.mayEnter = true := by
  unfold Program.mayEnter
  rw [h]
  simp only [c_gc, c_spec, c_carried, c_strip, h2, h3, h4]
  kernel_rfl
theorem lays_is : Try.pinned.checked.prog.laysLater = false := by kernel_rfl
theorem reflect_is : Try.pinned.checked.prog.bearsReflect = false := by kernel_rfl
theorem door_is : Try.pinned.checked.prog.doorFits [] = true := by kernel_rfl
theorem lifts_is : Try.pinned.checked.prog.liftsFinal = false := by
  obtain ⟨R, h⟩ := order_words
  exact lifts_of h
theorem make_is : Try.pinned.checked.prog.make = some .cut := by
  obtain ⟨R, h⟩ := order_words
  exact make_of h
theorem enter_is : Try.pinned.checked.prog.mayEnter = true := by
  obtain ⟨R, h⟩ := order_words
  exact enter_of h lays_is reflect_is door_is
end Go.Proofs.Ytjefhfgkeeggoaa.Facts

