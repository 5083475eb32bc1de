import Derived.Test.YtjefhfgkeeggoaaGreatE14
set_option linter.unusedVariables false
set_option linter.unusedSimpArgs false
set_option linter.unusedSectionVars false
namespace Go.Eng.G
open Go Go.Eng Go.Proofs Go.Eng.B
set_option maxRecDepth 100000
set_option maxHeartbeats 1000000
def secL (h : List Nat) : List Nat := clampL (h.take 32)
def bmV (k : Nat) : Nat := encR (rtm dN k (rdP baseL) 256 gO)
def pubW (g : List Nat → List Nat) (s : List Nat) : List Nat := dB (bmV (vB (secL (g s))))
def sgR (g : List Nat → List Nat) (s m : List Nat) : Nat := wideV (g ((g s).drop 32 ++ m))
def sgF (g : List Nat → List Nat) (s m : List Nat) : List Nat := dB (bmV (sgR g s m))
def sgK (g : List Nat → List Nat) (s m : List Nat) : Nat := wideV (g (sgF g s m ++ pubW g s ++ m))
def sgS (g : List Nat → List Nat) (s m : List Nat) : Nat := maV (sgK g s m) (vB (secL (g s))) (sgR g s m)
def sigW (g : List Nat → List Nat) (s m : List Nat) : List Nat := sgF g s m ++ dB (sgS g s m)
def pbI (g : List Nat → List Nat) (s : List Nat) : List Nat := if s.length = 32 then pubW g s else []
def erI (s : List Nat) : Int := if s.length = 32 then 0 else 1
def sgI (g : List Nat → List Nat) (s m : List Nat) : List Nat := if s.length = 32 then sigW g s m else []
def eS512 (g : List Nat → List Nat) (args : List SV) : Option (SV × List Prop) := match args with
  | [.sl .u8 b] => some (.sl .u8 (g b), [b.length ≤ 1000000])
  | _ => none
def eSec (g : List Nat → List Nat) (args : List SV) : Option (SV × List Prop) := match args with
  | [.sl .u8 s] => some (.tup [fe (vB (secL (g s))), .sl .u8 ((g s).drop 32)], [s.length ≤ 1000000])
  | _ => none
def eMulti (args : List SV) : Option (SV × List Prop) := match args with
  | [.ag [.arr .u64 4 d, .arr .u64 4 w], .arr .u64 4 k] => some (fld (bmV (vF k)), [vF d = DP, vF w = W2])
  | _ => none
def eNum (g : List Nat → List Nat) (args : List SV) : Option (SV × List Prop) := match args with
  | [.slv 1 [x, y]] => match part? x, part? y with
    | some a, some b => some (fe (wideV (g (a ++ b))), [a.length + b.length ≤ 1000000])
    | _, _ => none
  | [.slv 1 [x, y, z]] => match part? x, part? y, part? z with
    | some a, some b, some c => some (fe (wideV (g (a ++ b ++ c))), [a.length + b.length + c.length ≤ 1000000])
    | _, _, _ => none
  | _ => none
def ePubX (g : List Nat → List Nat) (args : List SV) : Option (SV × List Prop) := match args with
  | [.sl .u8 s] => some (.tup [.sl .u8 (pbI g s), .i .i64 (erI s)], [])
  | _ => none
def eSgnX (g : List Nat → List Nat) (args : List SV) : Option (SV × List Prop) := match args with
  | [.sl .u8 s, .sl .u8 m] => some (.tup [.sl .u8 (sgI g s m), .i .i64 (erI s)], [m.length ≤ 900000])
  | _ => none
def H9a (g : List Nat → List Nat) : Ctr := addC 101 eJoinB (addC 99 (eS512 g) G.H4)
def H9b (g : List Nat → List Nat) : Ctr := addC 53 eMulti (addC 52 (eSec g) (H9a g))
def H9c (g : List Nat → List Nat) : Ctr := addC 56 (eNum g) (H9b g)
def H9 (g : List Nat → List Nat) : Ctr := addC 18 (eSgnX g) (addC 16 (ePubX g) (H9c g))
theorem pbI_p {g : List Nat → List Nat} {s : List Nat} (hl : s.length = 32) : pbI g s = pubW g s := if_pos hl
theorem pbI_n {g : List Nat → List Nat} {s : List Nat} (hl : ¬ s.length = 32) : pbI g s = [] := if_neg hl
theorem erI_p {s : List Nat} (hl : s.length = 32) : erI s = 0 := if_pos hl
theorem erI_n {s : List Nat} (hl : ¬ s.length = 32) : erI s = 1 := if_neg hl
theorem sgI_p {g : List Nat → List Nat} {s m : List Nat} (hl : s.length = 32) : sgI g s m = sigW g s m := if_pos hl
theorem sgI_n {g : List Nat → List Nat} {s m : List Nat} (hl : ¬ s.length = 32) : sgI g s m = [] := if_neg hl
theorem beL_lt {x : Nat} {m : List Nat} (h : ∀ y ∈ m, y < 256) : ∀ y ∈ beL x m, y < 256 := by
  intro y hy
  simp only [beL, List.mem_append, List.mem_singleton] at hy
  rcases hy with (((((((hy | hy) | hy) | hy) | hy) | hy) | hy) | hy) | hy
  · exact h y hy
  all_goals (rw [hy]; exact Nat.mod_lt _ (by decide))
theorem out64_lt (h : List Nat) : ∀ i, ∀ y ∈ out64 h i, y < 256 := by
  intro i
  induction i with
  | zero => intro y hy; cases hy
  | succ i ih => exact beL_lt ih
theorem sum64_len (b : List Nat) : (sum64 b).length = 64 := out64_len _ 8
theorem sum64_lt (b : List Nat) : ∀ y ∈ sum64 b, y < 256 := out64_lt _ 8
structure HashOk (g : List Nat → List Nat) : Prop where
  len : ∀ b, (g b).length = 64
  lt : ∀ b, ∀ y ∈ g b, y < 256
theorem sum64_ok : HashOk sum64 := ⟨sum64_len, sum64_lt⟩
theorem cS512 {g : List Nat → List Nat} (hg : g = sum64) : ∀ args res ob, eS512 g args = some (res, ob) → All ob → Contract Tryz.prog 99 args res := by
  intro args res ob h hob
  unfold eS512 at h
  split at h
  · cases h; rw [hg]; exact sum512_c _ hob.1
  · cases h
theorem okH9a {g : List Nat → List Nat} (hg : g = sum64) : CtrOk Tryz.prog (H9a g) := addC_ok (addC_ok okH4 (cS512 hg)) cJoinB
theorem secL_ok {g : List Nat → List Nat} (hk : HashOk g) (s : List Nat) : (secL (g s)).length = 32 ∧ ∀ x ∈ secL (g s), x < lim .u8 := by
  have h1 : ((g s).take 32).length = 32 := by rw [List.length_take, hk.len]; rfl
  refine ⟨by unfold secL clampL; rw [List.length_set, List.length_set, h1], bits_clamp ⟨h1, fun x hx => hk.lt s x (List.mem_of_mem_take hx)⟩⟩
theorem cSec {g : List Nat → List Nat} (hg : g = sum64) (hk : HashOk g) : ∀ args res ob, eSec g args = some (res, ob) → All ob → Contract Tryz.prog 52 args res := by
  intro args res ob h hob
  unfold eSec at h
  split at h
  · rename_i s
    cases h
    refine contract Tryz.func52 (body := bodyOf Tryz.f52) rfl (by kernel_rfl) (by kernel_rfl) rfl ?_
    rintro _ w0 S
    have h1 := hk.len s
    have h2 : (List.take 32 (g s)).length = 32 := by rw [List.length_take, h1]; rfl
    refine hold_end mixed (okH9a hg) (unroll := true) (f := 100) (sc := []) (r := (SV.tup [SV.arr .u64 4 (dF (vB (((List.take 32 (List.drop 0 (List.take 32 (g s)))).set 0 ((List.take 32 (List.drop 0 (List.take 32 (g s)))).getD 0 0 &&& 248)).set 31 (((List.take 32 (List.drop 0 (List.take 32 (g s)))).set 0 ((List.take 32 (List.drop 0 (List.take 32 (g s)))).getD 0 0 &&& 248)).getD 31 0 &&& 127 ||| 64)))), SV.sl .u8 (List.drop 32 (List.take (g s).length (g s)))])) (ob := [s.length ≤ 1000000, 0 ≤ 32, 32 ≤ (g s).length, 32 ≤ (List.drop 0 (List.take 32 (g s))).length, 32 ≤ (g s).length, (g s).length ≤ (g s).length]) (sc' := []) (by kernel_rfl) ?_ ?_
    · rw [List.drop_zero]
      exact ⟨hob.1, by repeat' first | exact True.intro | omega | (rw [h2]; omega) | refine ⟨?_, ?_⟩⟩
    · rw [List.drop_zero, List.take_of_length_le (show (List.take 32 (g s)).length ≤ 32 by omega), List.take_of_length_le (Nat.le_refl (g s).length)]
      rfl
  · cases h
theorem cMulti {g : List Nat → List Nat} (hg : g = sum64) : ∀ args res ob, eMulti args = some (res, ob) → All ob → Contract Tryz.prog 53 args res := by
  intro args res ob h hob
  unfold eMulti at h
  split at h
  · rename_i d w k
    cases h
    obtain ⟨hd, hw, _⟩ := hob
    refine contract Tryz.func53 (body := bodyOf Tryz.f53) rfl (by kernel_rfl) (by kernel_rfl) rfl ?_
    rintro _ w0 S
    have lY : dY baseL < M256 := maskL_lt ⟨rfl, by decide⟩
    have p0 := decP_ok lY DP
    have p1 := p4_pt p0
    have p2 := p4_pt (gtm_ok W2_lt (vF k) p0 256 gO gO_ok)
    refine hold_end mixed (okH9a hg) (unroll := true) (f := 100) (sc := []) (r := (SV.arr .u8 32 (dB (encV (p4 (dF (gtm (vF w) (vF k) (p4 (dF (decP (vF d) baseL).x) (dF (decP (vF d) baseL).y) (dF (decP (vF d) baseL).z) (dF (decP (vF d) baseL).t)) 256 gO).x) (dF (gtm (vF w) (vF k) (p4 (dF (decP (vF d) baseL).x) (dF (decP (vF d) baseL).y) (dF (decP (vF d) baseL).z) (dF (decP (vF d) baseL).t)) 256 gO).y) (dF (gtm (vF w) (vF k) (p4 (dF (decP (vF d) baseL).x) (dF (decP (vF d) baseL).y) (dF (decP (vF d) baseL).z) (dF (decP (vF d) baseL).t)) 256 gO).z) (dF (gtm (vF w) (vF k) (p4 (dF (decP (vF d) baseL).x) (dF (decP (vF d) baseL).y) (dF (decP (vF d) baseL).z) (dF (decP (vF d) baseL).t)) 256 gO).t)))))) (ob := []) (sc' := []) (by kernel_rfl) trivial ?_
    rw [hd, hw, p1, p2, encV_mod, gtm_mod W2_lt W2_mod _ p0 _ _ gO_ok, decP_mod lY, pm_id gO_okP]
    rfl
  · cases h
theorem okH9b {g : List Nat → List Nat} (hg : g = sum64) (hk : HashOk g) : CtrOk Tryz.prog (H9b g) := addC_ok (addC_ok (okH9a hg) (cSec hg hk)) (cMulti hg)
def stNm : List It := [.lp [0, 1, 0, 1, 1, 1], .blk 0, .at [1, 1, 1, 1]]
def sNm (b L : List Nat) (i : SV) : St := ⟨32, [(2, .ptr 0 0 (.c 0)), (4, .ptr 1 0 (.c 0)), (10, .sl .u8 b), (11, .u .i64 b.length), (12, i)],
  [(0, ⟨59, [.arr .u64 4 [0, 0, 0, 0]], false⟩), (1, ⟨117, [.arr .u64 8 L], false⟩)], 2, 0⟩
section
variable {w0 : World} {S : Own} {res : SV}
theorem num_in {g : List Nat → List Nat} (hg : g = sum64) (hk : HashOk g) (b : List Nat) (hb : ∀ x ∈ b, x < 256) (hlen : b.length = 64) (hR : res = fe (wideV b)) :
    ∀ d i, i + d = b.length → ∀ L, L = dg W64 8 (vl 256 (b.take i)) → Hold Tryz.prog (bodyOf Tryz.f56) (Fin Tryz.prog Tryz.f56 w0 S res) w0 S stNm (sNm b L (.u .i64 i)) := by
  intro d
  induction d with
  | zero =>
    intro i hi L hL
    refine hold_unroll (c := _) rfl ?_
    refine hold_end mixed (okH9b hg hk) (unroll := false) (f := 100) (sc := [false]) (r := (SV.arr .u64 4 (dF (restV L)))) (ob := [Decidable.decide (i < b.length) = false, L.length ≤ 1000]) (sc' := []) (by kernel_rfl) ?_ ?_
    · exact ⟨by simp; omega, by rw [hL, dg_length]; decide, trivial⟩
    · rw [hR]
      have e : restV L = wideV b := by
        unfold restV wideV
        have h8 : vl 256 b < W64 ^ 8 := Nat.lt_of_lt_of_le (vl_lt (b := 256) b hb) (Nat.le_trans (Nat.pow_le_pow_right (by decide) (show b.length ≤ 64 by omega)) (show 256 ^ 64 ≤ W64 ^ 8 by decide))
        rw [hL, vl_dg, List.take_of_length_le (by omega), Nat.mod_eq_of_lt h8]
      rw [e]
      rfl
  | succ d ih =>
    intro i hi L hL
    refine hold_unroll (c := _) rfl ?_
    have hv := vl_take_lt hb i
    have hx : b.getD i 0 < 256 := getD_lt (by decide) hb i
    refine hold_cut mixed (okH9b hg hk) (unroll := false) (f := 100) (sc := [true]) (ks := [2,4,10,11,12]) (bs := [0,1]) (nx := 2) (st' := [It.lp [0, 1, 0, 1, 1, 1], It.blk 0, It.at [1, 1, 1, 1]]) (σ' := { nt := 32, slots := [(2, SV.ptr 0 0 (Ix.c 0)), (4, SV.ptr 1 0 (Ix.c 0)), (10, SV.sl .u8 b), (11, SV.u .i64 b.length), (12, SV.u .i64 (i + 1))], blks := [(0, { ty := 59, segs := [SV.arr .u64 4 [0, 0, 0, 0]] }), (1, { ty := 117, segs := [SV.arr .u64 8 (L.set (i / 8) (L.getD (i / 8) 0 ||| b.getD i 0 * 2 ^ (8 * (i % 8)) % 18446744073709551616))] })], next := 2 }) (ob := [Decidable.decide (i < b.length) = true, i < b.length, i / 8 < 8, i / 8 < 8, 8 * (i % 8) < 9223372036854775808, 8 * (i % 8) < 64, i / 8 < 8, i / 8 < 8, i + 1 < 9223372036854775808]) (sc' := []) (by kernel_rfl) ?_ ?_
    · repeat' (first | exact True.intro | refine And.intro ?_ ?_)
      all_goals first | omega | (simp; omega) | (simp only [lim]; omega)
    · refine ih (i + 1) (by omega) _ ?_
      rw [hL, vl_take _ _ _ (by omega)]
      exact or_dig hv hx (by omega)
theorem num2_c {g : List Nat → List Nat} (hg : g = sum64) (hk : HashOk g) (a b : List Nat) (hl : a.length + b.length ≤ 1000000) : Contract Tryz.prog 56 [.slv 1 [.sl .u8 a, .sl .u8 b]] (fe (wideV (g (a ++ b)))) := by
  refine contract Tryz.func56 (body := bodyOf Tryz.f56) rfl (by kernel_rfl) (by kernel_rfl) rfl ?_
  rintro _ w0 S
  have hl2 : (a ++ b).length ≤ 1000000 := by rw [List.length_append]; exact hl
  refine hold_cut mixed (okH9b hg hk) (unroll := false) (f := 100) (sc := []) (ks := [2,4,10,11,12]) (bs := [0,1]) (nx := 2) (st' := [It.lp [0, 1, 0, 1, 1, 1], It.blk 0, It.at [1, 1, 1, 1]]) (σ' := { nt := 32, slots := [(2, SV.ptr 0 0 (Ix.c 0)), (4, SV.ptr 1 0 (Ix.c 0)), (10, SV.sl .u8 (g (a ++ b))), (11, SV.u .i64 (g (a ++ b)).length), (12, SV.c .i64 (0 : Int))], blks := [(0, { ty := 59, segs := [SV.arr .u64 4 [0, 0, 0, 0]] }), (1, { ty := 117, segs := [SV.arr .u64 8 [0, 0, 0, 0, 0, 0, 0, 0]] })], next := 2 }) (ob := [a.length + b.length ≤ 1000000, (a ++ b).length ≤ 1000000]) (sc' := []) (by kernel_rfl) ⟨hl, hl2, trivial⟩ ?_
  have := num_in (w0 := w0) (S := S) hg hk (g (a ++ b)) (hk.lt _) (hk.len _) rfl (g (a ++ b)).length 0 (by omega) [0, 0, 0, 0, 0, 0, 0, 0] (by rw [List.take_zero]; decide)
  exact Hold.weaken this (by simp [wks, wk, wk0, wka, lim, sNm])
theorem num3_c {g : List Nat → List Nat} (hg : g = sum64) (hk : HashOk g) (a b c : List Nat) (hl : a.length + b.length + c.length ≤ 1000000) : Contract Tryz.prog 56 [.slv 1 [.sl .u8 a, .sl .u8 b, .sl .u8 c]] (fe (wideV (g (a ++ b ++ c)))) := by
  refine contract Tryz.func56 (body := bodyOf Tryz.f56) rfl (by kernel_rfl) (by kernel_rfl) rfl ?_
  rintro _ w0 S
  have hl2 : (a ++ b ++ c).length ≤ 1000000 := by rw [List.length_append, List.length_append]; exact hl
  refine hold_cut mixed (okH9b hg hk) (unroll := false) (f := 100) (sc := []) (ks := [2,4,10,11,12]) (bs := [0,1]) (nx := 2) (st' := [It.lp [0, 1, 0, 1, 1, 1], It.blk 0, It.at [1, 1, 1, 1]]) (σ' := { nt := 32, slots := [(2, SV.ptr 0 0 (Ix.c 0)), (4, SV.ptr 1 0 (Ix.c 0)), (10, SV.sl .u8 (g (a ++ b ++ c))), (11, SV.u .i64 (g (a ++ b ++ c)).length), (12, SV.c .i64 (0 : Int))], blks := [(0, { ty := 59, segs := [SV.arr .u64 4 [0, 0, 0, 0]] }), (1, { ty := 117, segs := [SV.arr .u64 8 [0, 0, 0, 0, 0, 0, 0, 0]] })], next := 2 }) (ob := [a.length + b.length + c.length ≤ 1000000, (a ++ b ++ c).length ≤ 1000000]) (sc' := []) (by kernel_rfl) ⟨hl, hl2, trivial⟩ ?_
  have := num_in (w0 := w0) (S := S) hg hk (g (a ++ b ++ c)) (hk.lt _) (hk.len _) rfl (g (a ++ b ++ c)).length 0 (by omega) [0, 0, 0, 0, 0, 0, 0, 0] (by rw [List.take_zero]; decide)
  exact Hold.weaken this (by simp [wks, wk, wk0, wka, lim, sNm])
end
theorem cNum {g : List Nat → List Nat} (hg : g = sum64) (hk : HashOk g) : ∀ args res ob, eNum g args = some (res, ob) → All ob → Contract Tryz.prog 56 args res := by
  intro args res ob h hob
  unfold eNum at h
  split at h
  · split at h
    · rename_i hx hy
      cases h
      exact slv_argsF (num2_c hg hk _ _ hob.1) ⟨part_wk hx, part_wk hy, rfl⟩ (by simp [SV.size]) rfl
    · cases h
  · split at h
    · rename_i hx hy hz
      cases h
      exact slv_argsF (num3_c hg hk _ _ _ hob.1) ⟨part_wk hx, part_wk hy, part_wk hz, rfl⟩ (by simp [SV.size]) rfl
    · cases h
  · cases h
theorem okH9c {g : List Nat → List Nat} (hg : g = sum64) (hk : HashOk g) : CtrOk Tryz.prog (H9c g) := addC_ok (okH9b hg hk) (cNum hg hk)
theorem cPubX {g : List Nat → List Nat} (hg : g = sum64) (hk : HashOk g) : ∀ args res ob, ePubX g args = some (res, ob) → All ob → Contract Tryz.prog 16 args res := by
  intro args res ob h hob
  unfold ePubX at h
  split at h
  · rename_i s
    cases h
    refine contract Tryz.func16 (body := bodyOf Tryz.f16) rfl (by kernel_rfl) (by kernel_rfl) rfl ?_
    rintro _ w0 S
    have eK := vd (vB_lt (secL_ok hk s))
    by_cases hl : s.length = 32
    · rw [pbI_p hl, erI_p hl]
      refine hold_endw mixed (okH9c hg hk) (unroll := true) (f := 100) (sc := [false]) (r := (SV.tup [SV.sl .u8 (dB (bmV (vF (dF (vB (secL (g s))))))), SV.c .i64 (0 : Int)])) (ob := [(s.length != 32) = false, s.length ≤ 1000000, 94991750553327537054923576013098519116177106212663501036117577537042505103504 = DP, 74191411869338878686276167017509130379084227759686438032777571066171880567110 = W2]) (sc' := []) (by kernel_rfl) ⟨by rw [hl]; rfl, by omega, rfl, W2_lit, trivial⟩ ?_
      rw [eK]
      exact ⟨rfl, ⟨rfl, rfl⟩, rfl⟩
    · rw [pbI_n hl, erI_n hl]
      refine hold_endw mixed (okH9c hg hk) (unroll := true) (f := 100) (sc := [true]) (r := (SV.tup [SV.sl .u8 [], SV.c .i64 (1 : Int)])) (ob := [(s.length != 32) = true]) (sc' := []) (by kernel_rfl) ⟨bne_iff_ne.mpr hl, trivial⟩ ?_
      exact ⟨rfl, ⟨rfl, rfl⟩, rfl⟩
  · cases h
end Go.Eng.G

namespace Go.Eng
open Go.RowKit
def unG (o : Oper) : Oper := { o with guard := none }
def pureStepG (P : Program) (ctr : Ctr) (ops : Array Oper) (σ : St) (i : Nat) (o : Oper) (sc : List Bool) : Option (St × List Prop × List Bool) :=
  match guardOf ops σ.slots o with
  | none => none
  | some false => match putS σ o.dst (.tup []) with | some σ' => some (σ', [], sc) | none => none
  | some true => match evalR P ctr σ.blks (lookρ σ.slots) (unG o) with
      | some (.val s, ob) => if pureOp (unG o) || slicePtr σ.slots (unG o) || sliceSl σ.slots (unG o) || (numOp σ.slots (unG o) && s.rigid) then
          match resolveB (isGuard ops i) s sc with
          | some (s', ob2, sc') => match putS σ o.dst s' with | some σ' => some (σ', ob ++ ob2, sc') | none => none
          | none => none
        else none
      | _ => none
def firstPureG (P : Program) (ctr : Ctr) (ops : Array Oper) (L : Array Bool) (σ : St) (sc : List Bool) : List Nat → Option (Nat × St × List Prop × List Bool)
  | [] => none
  | i :: r => if Region.free .any ops L i then (match ops[i]? with
      | some o => match pureStepG P ctr ops σ i o sc with
        | some (σ', ob, sc') => some (i, σ', ob, sc')
        | none => firstPureG P ctr ops L σ sc r
      | none => none) else firstPureG P ctr ops L σ sc r
abbrev RA := Nat × Nat × Bool × Nat
def stRA (R : RA) : St := ⟨R.1, [(R.2.1, .cb R.2.2.1)], [], 0, R.2.2.2⟩
def endRA (d : Nat) (σ : St) : Option RA :=
  match restrict [d] [] 0 σ with
  | some ⟨nt, [(e, .cb x)], [], 0, m⟩ => some (nt, e, x, m)
  | _ => none
def tryAll (step : Nat → Option (RA × List Prop × List Bool)) : List Nat → Option (RA × List Prop × List Bool)
  | [] => none
  | [i] => step i
  | i :: r => match step i, tryAll step r with
    | some (R, ob, sc), some (R', ob', sc') => if R = R' ∧ sc = sc' then some (R, ob ++ ob', sc) else none
    | _, _ => none
def execAll (P : Program) (ctr : Ctr) (ops : Array Oper) (d : Nat) : Nat → Array Bool → St → List Bool → Option (RA × List Prop × List Bool)
  | 0, _, _, _ => none
  | f + 1, L, σ, sc => match Region.ready .any ops L with
    | [] => match endRA d σ with
      | some R => some (R, [], sc)
      | none => none
    | r => match firstPureG P ctr ops L σ sc r with
      | some (i, σ1, ob1, sc1) => match execAll P ctr ops d f (L.setIfInBounds i true) σ1 sc1 with
        | some (R, ob2, sc2) => some (R, ob1 ++ ob2, sc2)
        | none => none
      | none => tryAll (fun i => match ops[i]? with
        | some o => match stepOp P ctr ops σ i o sc with
          | some (σ1, ob1, sc1) => match execAll P ctr ops d f (L.setIfInBounds i true) σ1 sc1 with
            | some (R, ob2, sc2) => some (R, ob1 ++ ob2, sc2)
            | none => none
          | none => none
        | none => none) r
def lastDst (ops : Array Oper) : Option Nat := match ops.back? with | some o => o.dst | none => none
def drawAll (P : Program) (ctr : Ctr) (ops : Array Oper) (σ : St) (sc : List Bool) : Option (St × List Prop × List Bool) :=
  match lastDst ops with
  | some d => if Region.noSelect ops then (match execAll P ctr ops d (ops.size + 1) (Array.replicate ops.size false) σ sc with
    | some (R, ob, sc') => some (stRA R, ob, sc')
    | none => none) else none
  | none => none
section
variable {P : Program} {ctr : Ctr} {w0 : Fr} {w : World} {S : Own} {σ σ' : St} {β : Nat → Nat} {a : Act} {ops : Array Oper}
theorem firstPureG_ok : ∀ {r : List Nat} {L : Array Bool} {sc sc' : List Bool} {i : Nat} {ob : List Prop}, firstPureG P ctr ops L σ sc r = some (i, σ', ob, sc') → i ∈ r ∧ Region.free .any ops L i = true ∧ ∃ o, ops[i]? = some o ∧ pureStepG P ctr ops σ i o sc = some (σ', ob, sc') := by
  intro r
  induction r with
  | nil => intro L sc sc' i ob h; simp [firstPureG] at h
  | cons j r ih =>
    intro L sc sc' i ob h
    simp only [firstPureG] at h
    split at h
    · rename_i hf
      split at h
      · rename_i o ho
        split at h
        · rename_i hp; cases h; exact ⟨by simp, hf, o, ho, hp⟩
        · obtain ⟨h1, h2⟩ := ih h; exact ⟨List.mem_cons_of_mem _ h1, h2⟩
      · cases h
    · obtain ⟨h1, h2⟩ := ih h; exact ⟨List.mem_cons_of_mem _ h1, h2⟩
theorem pureStepG_ok {i : Nat} {o : Oper} {sc sc' : List Bool} {ob : List Prop} (h : pureStepG P ctr ops σ i o sc = some (σ', ob, sc')) (hob : All ob) (hS : Sat w0 S σ β a w) :
    ∃ v, Yields P ops o v a ∧ Sat w0 S σ' β (a.put o.dst v) w := by
  unfold pureStepG at h
  split at h
  · cases h
  · rename_i hg
    split at h
    · rename_i σ1 hput
      cases h
      exact ⟨undef, .inr ⟨guard_ok hS.slot hg, rfl⟩, hS.put hput ⟨[], rfl, rfl⟩⟩
    · cases h
  · rename_i hg
    split at h
    · rename_i s ob1 hev
      split at h
      · rename_i hp
        split at h
        · rename_i s' ob2 sc1 hres
          split at h
          · rename_i σ1 hput
            cases h
            obtain ⟨ho1, ho2⟩ := All.append.1 hob
            have key : ∃ v, (∀ w', (execOp a.eval o).run P w' = .ok (.value v) w') ∧ relV β (owS S σ.blks β) w s v := by
              simp only [Bool.or_eq_true, Bool.and_eq_true] at hp
              rcases hp with ((hp | hp) | hp) | hp
              · exact pureR_yields (fun y s hy => hS.look hy) hp hev
              · exact slice_yields (fun y s hy => hS.look hy) hp hev
              · exact sliceSl_yields (fun y s hy => hS.look hy) hp hev ho1
              · exact num_yields (fun y s hy => hS.look hy) hp.1 hp.2 hev ho1
            obtain ⟨v, h1, h2⟩ := key
            exact ⟨v, .inl ⟨guard_ok hS.slot hg, h1⟩, hS.put hput (resolveB_ok hres ho2 h2)⟩
          · cases h
        · cases h
      · cases h
    · cases h
theorem tryAll_ok {step : Nat → Option (RA × List Prop × List Bool)} : ∀ {r : List Nat} {R : RA} {ob : List Prop} {sc : List Bool}, tryAll step r = some (R, ob, sc) → All ob → ∀ i ∈ r, ∃ ob' sc', step i = some (R, ob', sc') ∧ All ob' := by
  intro r
  induction r with
  | nil => intro R ob sc h; simp [tryAll] at h
  | cons i r ih =>
    intro R ob sc h hob j hj
    cases r with
    | nil =>
      simp only [tryAll] at h
      simp only [List.mem_singleton] at hj
      subst hj
      exact ⟨ob, sc, h, hob⟩
    | cons k r =>
      simp only [tryAll] at h
      split at h
      · rename_i R1 ob1 sc1 R2 ob2 sc2 h1 h2
        split at h
        · rename_i he
          obtain ⟨rfl, rfl⟩ := he
          cases h
          obtain ⟨ho1, ho2⟩ := All.append.1 hob
          rcases List.mem_cons.1 hj with rfl | hj
          · exact ⟨_, _, h1, ho1⟩
          · exact ih h2 ho2 j hj
        · cases h
      · cases h
theorem endRA_ok {d : Nat} {R : RA} (h : endRA d σ = some R) (hS : Sat w0 S σ β a w) : Sat w0 S (stRA R) β a w := by
  unfold endRA at h
  split at h
  · rename_i nt e x m hr
    cases h
    exact hS.restrict hr
  · cases h
theorem execAll_ok (hctr : CtrOk P ctr) (hs : Region.noSelect ops = true) {d : Nat} {Q : Exit → Act → World → Prop} (hQ : ∀ c a w, ¬ Q (.panic c) a w) : ∀ {f : Nat} {L : Array Bool} {σ : St} {R : RA} {sc sc' : List Bool} {ob : List Prop} {β : Nat → Nat} {a : Act} {w : World},
    execAll P ctr ops d f L σ sc = some (R, ob, sc') → All ob → Sat w0 S σ β a w → (∀ β' a' w', Sat w0 S (stRA R) β' a' w' → Q .normal a' w') → ∀ {g : Nat}, left L ≤ g → L.size = ops.size → wpAny P .any ops Q g L a w := by
  intro f
  induction f with
  | zero => intro L σ R sc sc' ob β a w h; simp [execAll] at h
  | succ f ih =>
    intro L σ R sc sc' ob β a w h hob hS hk g hl hsz
    simp only [execAll] at h
    split at h
    · rename_i hr
      split at h
      · rename_i R1 he
        cases h
        exact wpAny_done hr (hk β a w (endRA_ok he hS)) g
      · cases h
    · rename_i hr0
      have hstep : ∀ i, i ∈ Region.ready .any ops L → left L = left (L.setIfInBounds i true) + 1 := fun i hi => by
        obtain ⟨h1, o, ho, _⟩ := mem_ready.1 hi
        exact left_set (by rw [hsz]; exact (Array.getElem?_eq_some_iff.1 ho).1) h1
      have hpos : 0 < g := by
        cases hr : Region.ready .any ops L with
        | nil => exact absurd hr hr0
        | cons j t => have := hstep j (by rw [hr]; simp); omega
      obtain ⟨g, rfl⟩ : ∃ g', g = g' + 1 := ⟨g - 1, by omega⟩
      split at h
      · rename_i i σ1 ob1 sc1 hp
        split at h
        · rename_i R2 ob2 sc2 hx
          cases h
          obtain ⟨ho1, ho2⟩ := All.append.1 hob
          obtain ⟨hm, hf, o, ho, hst⟩ := firstPureG_ok hp
          obtain ⟨v, hy, hS1⟩ := pureStepG_ok hst ho1 hS
          refine wpAny_take ho hs hf (by simpa using hm) (fun c a w h => absurd h (hQ c _ w)) hy ?_
          exact ih hx ho2 hS1 hk (by have := hstep i hm; omega) (by simpa using hsz)
        · cases h
      · refine wpAny_all rfl hr0 ?_
        intro j hj
        obtain ⟨ob', sc2, h1, h2⟩ := tryAll_ok h hob j hj
        split at h1
        · rename_i o ho
          split at h1
          · rename_i σ1 ob1 sc1 hst
            split at h1
            · rename_i R2 ob2 sc3 hx
              cases h1
              obtain ⟨ho1, ho2⟩ := All.append.1 h2
              refine stepOp_ok hctr hst ho1 ho hS fun β' a' w' hS' => ?_
              exact ih hx ho2 hS' hk (by have := hstep j hj; omega) (by simpa using hsz)
            · cases h1
          · cases h1
        · cases h1
theorem drawAll_ok (hm : P.follows .mixedOrders = true) (hctr : CtrOk P ctr) {id : Nat} {sc sc' : List Bool} {ob : List Prop} (h : drawAll P ctr ops σ sc = some (σ', ob, sc')) (hob : All ob) (hS : Sat w0 S σ β a w)
    {Q : Exit → Act → World → Prop} (hQ : ∀ c a w, ¬ Q (.panic c) a w) (hk : ∀ β' a' w', Sat w0 S σ' β' a' w' → Q .normal a' w') : (Code.region id ops true).wp P Q a w := by
  unfold drawAll at h
  split at h
  · split at h
    · rename_i hs
      split at h
      · rename_i R ob1 sc1 hx
        cases h
        refine wp_region_any hm ?_
        have hxt : Ext w { w with drawn := w.drawn + 1 } := ⟨rfl, rfl, rfl, Nat.le_refl _, fun _ _ => rfl⟩
        refine execAll_ok hctr hs hQ hx hob (hS.extend hxt) hk ?_ (by simp)
        simp [left, List.countP_replicate]
      · cases h
    · cases h
  · cases h
end
end Go.Eng

namespace Go.Eng
open Go.RowKit
structure Ke where
  (ks bs : List Nat) (nx : Nat)
def tryS (step : Nat → Option (St × List Prop × List Bool)) : List Nat → Option (St × List Prop × List Bool)
  | [] => none
  | [i] => step i
  | i :: r => match step i, tryS step r with
    | some (R, ob, sc), some (R', ob', sc') => if sc = sc' then some (R, (R' = R) :: (ob ++ ob'), sc) else none
    | _, _ => none
def execS (P : Program) (ctr : Ctr) (ops : Array Oper) (d : Ke) : Nat → Array Bool → St → List Bool → Option (St × List Prop × List Bool)
  | 0, _, _, _ => none
  | f + 1, L, σ, sc => match Region.ready .any ops L with
    | [] => match restrict d.ks d.bs d.nx σ with
      | some R => some (R, [], sc)
      | none => none
    | r => match firstPureG P ctr ops L σ sc r with
      | some (i, σ1, ob1, sc1) => match execS P ctr ops d f (L.setIfInBounds i true) σ1 sc1 with
        | some (R, ob2, sc2) => some (R, ob1 ++ ob2, sc2)
        | none => none
      | none => tryS (fun i => match ops[i]? with
        | some o => match stepOp P ctr ops σ i o sc with
          | some (σ1, ob1, sc1) => match execS P ctr ops d f (L.setIfInBounds i true) σ1 sc1 with
            | some (R, ob2, sc2) => some (R, ob1 ++ ob2, sc2)
            | none => none
          | none => none
        | none => none) r
def drawS (P : Program) (ctr : Ctr) (ops : Array Oper) (d : Ke) (σ : St) (sc : List Bool) : Option (St × List Prop × List Bool) :=
  if Region.noSelect ops then execS P ctr ops d (ops.size + 1) (Array.replicate ops.size false) σ sc else none
section
variable {P : Program} {ctr : Ctr} {w0 : Fr} {w : World} {S : Own} {σ σ' : St} {β : Nat → Nat} {a : Act} {ops : Array Oper}
theorem tryS_ok {step : Nat → Option (St × List Prop × List Bool)} : ∀ {r : List Nat} {R : St} {ob : List Prop} {sc : List Bool}, tryS step r = some (R, ob, sc) → All ob → ∀ i ∈ r, ∃ ob' sc', step i = some (R, ob', sc') ∧ All ob' := by
  intro r
  induction r with
  | nil => intro R ob sc h; simp [tryS] at h
  | cons i r ih =>
    intro R ob sc h hob j hj
    cases r with
    | nil =>
      simp only [tryS] at h
      simp only [List.mem_singleton] at hj
      subst hj
      exact ⟨ob, sc, h, hob⟩
    | cons k r =>
      simp only [tryS] at h
      split at h
      · rename_i R1 ob1 sc1 R2 ob2 sc2 h1 h2
        split at h
        · cases h
          obtain ⟨he, hob⟩ := hob
          obtain ⟨ho1, ho2⟩ := All.append.1 hob
          rcases List.mem_cons.1 hj with rfl | hj
          · exact ⟨_, _, h1, ho1⟩
          · subst he
            exact ih h2 ho2 j hj
        · cases h
      · cases h
theorem execS_ok (hctr : CtrOk P ctr) (hs : Region.noSelect ops = true) {d : Ke} {Q : Exit → Act → World → Prop} (hQ : ∀ c a w, ¬ Q (.panic c) a w) : ∀ {f : Nat} {L : Array Bool} {σ : St} {R : St} {sc sc' : List Bool} {ob : List Prop} {β : Nat → Nat} {a : Act} {w : World},
    execS P ctr ops d f L σ sc = some (R, ob, sc') → All ob → Sat w0 S σ β a w → (∀ β' a' w', Sat w0 S R β' a' w' → Q .normal a' w') → ∀ {g : Nat}, left L ≤ g → L.size = ops.size → wpAny P .any ops Q g L a w := by
  intro f
  induction f with
  | zero => intro L σ R sc sc' ob β a w h; simp [execS] at h
  | succ f ih =>
    intro L σ R sc sc' ob β a w h hob hS hk g hl hsz
    simp only [execS] at h
    split at h
    · rename_i hr
      split at h
      · rename_i R1 he
        cases h
        exact wpAny_done hr (hk β a w (hS.restrict he)) g
      · cases h
    · rename_i hr0
      have hstep : ∀ i, i ∈ Region.ready .any ops L → left L = left (L.setIfInBounds i true) + 1 := fun i hi => by
        obtain ⟨h1, o, ho, _⟩ := mem_ready.1 hi
        exact left_set (by rw [hsz]; exact (Array.getElem?_eq_some_iff.1 ho).1) h1
      have hpos : 0 < g := by
        cases hr : Region.ready .any ops L with
        | nil => exact absurd hr hr0
        | cons j t => have := hstep j (by rw [hr]; simp); omega
      obtain ⟨g, rfl⟩ : ∃ g', g = g' + 1 := ⟨g - 1, by omega⟩
      split at h
      · rename_i i σ1 ob1 sc1 hp
        split at h
        · rename_i R2 ob2 sc2 hx
          cases h
          obtain ⟨ho1, ho2⟩ := All.append.1 hob
          obtain ⟨hm, hf, o, ho, hst⟩ := firstPureG_ok hp
          obtain ⟨v, hy, hS1⟩ := pureStepG_ok hst ho1 hS
          refine wpAny_take ho hs hf (by simpa using hm) (fun c a w h => absurd h (hQ c _ w)) hy ?_
          exact ih hx ho2 hS1 hk (by have := hstep i hm; omega) (by simpa using hsz)
        · cases h
      · refine wpAny_all rfl hr0 ?_
        intro j hj
        obtain ⟨ob', sc2, h1, h2⟩ := tryS_ok h hob j hj
        split at h1
        · rename_i o ho
          split at h1
          · rename_i σ1 ob1 sc1 hst
            split at h1
            · rename_i R2 ob2 sc3 hx
              cases h1
              obtain ⟨ho1, ho2⟩ := All.append.1 h2
              refine stepOp_ok hctr hst ho1 ho hS fun β' a' w' hS' => ?_
              exact ih hx ho2 hS' hk (by have := hstep j hj; omega) (by simpa using hsz)
            · cases h1
          · cases h1
        · cases h1
theorem drawS_ok (hm : P.follows .mixedOrders = true) (hctr : CtrOk P ctr) {id : Nat} {d : Ke} {sc sc' : List Bool} {ob : List Prop} (h : drawS P ctr ops d σ sc = some (σ', ob, sc')) (hob : All ob) (hS : Sat w0 S σ β a w)
    {Q : Exit → Act → World → Prop} (hQ : ∀ c a w, ¬ Q (.panic c) a w) (hk : ∀ β' a' w', Sat w0 S σ' β' a' w' → Q .normal a' w') : (Code.region id ops true).wp P Q a w := by
  unfold drawS at h
  split at h
  · rename_i hs
    refine wp_region_any hm ?_
    have hxt : Ext w { w with drawn := w.drawn + 1 } := ⟨rfl, rfl, rfl, Nat.le_refl _, fun _ _ => rfl⟩
    refine execS_ok hctr hs hQ h hob (hS.extend hxt) hk ?_ (by simp)
    simp [left, List.countP_replicate]
  · cases h
end
def regS (P : Program) (ctr : Ctr) (body : Code) (p : List Nat) (r : List It) (d : Ke) (σ : St) (sc : List Bool) : List It × Option St × List Prop × List Bool :=
  match nav body p with
  | some (.region _ ops true) => match drawS P ctr ops d σ sc with
    | some (σ', ob, sc') => (r, some σ', ob, sc')
    | none => ([], none, [], sc)
  | _ => ([], none, [], sc)
theorem hold_allS {P : Program} {body : Code} {w0 : Fr} {S : Own} (hm : P.follows .mixedOrders = true) {ctr : Ctr} (hctr : CtrOk P ctr) {Q : Exit → Act → World → Prop} [ExitOk Q] {p : List Nat} {r : List It} {d : Ke} {σ : St} {sc : List Bool} {st' : List It} {σ' : St} {ob : List Prop} {sc' : List Bool}
    (h : regS P ctr body p r d σ sc = (st', some σ', ob, sc')) (hob : All ob) (hk : Hold P body Q w0 S st' σ') : Hold P body Q w0 S (.at p :: r) σ := by
  unfold regS at h
  split at h
  · rename_i id ops hn
    split at h
    · rename_i σ1 ob1 sc1 hx
      cases h
      intro β a w hS
      simp only [contQ, hn]
      exact drawS_ok hm hctr hx hob hS (contQ_panic (ExitOk.panic (Q := Q)) _) hk
    · cases h
  · cases h
end Go.Eng

namespace Go.Eng
open Go.RowKit
def appendX (P : Program) (σ : St) (t t2 : TypeId) (x y : SV) : Option (St × SV × List Prop) :=
  match elemOf P t, appSrc P t t2 σ.blks y, x with
  | some (e, by'), some (sy, ob0), .osl id n es => match readSl σ.blks (.osl id n es) with
    | some sx => match joinSl sx sy with
      | some r => some (Eng.nilRow σ e, .row σ.next r, ob0 ++ [slenD r * by' ≤ 140737488355328, 0 < slenD sy])
      | none => none
    | none => none
  | _, _, _ => none
def stepX (P : Program) (ops : Array Oper) (σ : St) (o : Oper) (sc : List Bool) : Option (St × List Prop × List Bool) :=
  match guardOf ops σ.slots o with
  | some true => match o.op with
    | .call { callee := .builtin .append, args := ⟨[x, y]⟩, argTypes := ⟨[t, t']⟩ } => match lookρ σ.slots x, lookρ σ.slots y with
      | some sx, some sy => match appendX P σ t t' sx sy.rd with
        | some (σ1, r, ob) => match putS σ1 o.dst r with | some σ' => some (σ', ob, sc) | none => none
        | none => none
      | _, _ => none
    | _ => none
  | _ => none
def stepOpX (P : Program) (ctr : Ctr) (ops : Array Oper) (σ : St) (i : Nat) (o : Oper) (sc : List Bool) : Option (St × List Prop × List Bool) :=
  match stepX P ops σ o sc with
  | some r => some r
  | none => stepOp P ctr ops σ i o sc
section
variable {P : Program} {ctr : Ctr} {w0 : Fr} {w : World} {S : Own} {σ σ' : St} {β : Nat → Nat} {a : Act} {ops : Array Oper}
theorem core_grow {id : Nat} {t t2 e ty : TypeId} {by' : Nat} (he : elemOf P t = some (e, by')) (hS : Sat w0 S σ β a w) (hR : RowStep σ σ' β S a w id e) {r : SV} {co news : List Value} (hc : slCells r = some (co ++ news)) (hg : slGood r)
    {x2 : Value} (hA : ∀ i z, P.info? e = some i → i.zero = some z → App P w t t2 ty e i z x2 news) (hb : (co.length + news.length) * by' ≤ 140737488355328) (h0 : 0 < news.length) (b : Addr)
    (holds : ∀ j u, co[j]? = some u → w.cell? (b.add j) = some u) :
    ∃ v w' β', (Builtin.append_ #[t, t2] ty #[.slice (some b) co.length co.length, x2]).run P w = .ok v w' ∧ Sat w0 S σ' β' a w' ∧ relV β' (owS S σ'.blks β') w' (.row id r) v := by
  obtain ⟨ht, i, z, hi, hz, hs1, hzs, hb0, hby⟩ := elemOf_ok he
  have hA := hA i z hi hz
  have hle : co.length + news.length ≤ 140737488355328 := Nat.le_trans (Nat.le_mul_of_pos_right _ hb0) hb
  have hr := hA.grow (b := b) (n := co.length) (cap := co.length) (olds := co) (by omega) rfl holds (by omega) (by omega) (by rw [hby]; exact hb) (growslice_fits (by omega) (by rw [hby]; exact hb))
  have hge := grownCap_ge w (co.length + news.length) co.length e
  have hcm2 := grownCap_le_maxLen w (co.length + news.length) co.length e (by simp only [maxLen]; omega)
  have hcore := core_new hS hR (rest := (Builtin.zeroCells z.cells (grownCap w (co.length + news.length) co.length e - (co.length + news.length))).toList) (cap := grownCap w (co.length + news.length) co.length e) hc hg (by
    have := size_zeroCells z.cells (grownCap w (co.length + news.length) co.length e - (co.length + news.length))
    rw [hzs] at this
    simp only [Array.length_toList, List.length_append]
    omega) (by omega) hcm2
  have e1 : (co ++ news ++ (Builtin.zeroCells z.cells (grownCap w (co.length + news.length) co.length e - (co.length + news.length))).toList).toArray = co.toArray ++ news.toArray ++ Builtin.zeroCells z.cells (grownCap w (co.length + news.length) co.length e - (co.length + news.length)) := by
    apply Array.ext'; simp
  rw [e1] at hcore
  simp only [List.length_append] at hcore
  exact ⟨_, _, _, hr, hcore.1, hcore.2⟩
theorem appendX_ok (hS : Sat w0 S σ β a w) {t t2 ty : TypeId} {x y r : SV} {ob : List Prop} (h : appendX P σ t t2 x y = some (σ', r, ob)) (hob : All ob) {v1 v2 : Value}
    (hx : relV β (owS S σ.blks β) w x v1) (hy : relV β (owS S σ.blks β) w y v2) :
    ∃ v w' β', (Builtin.append_ #[t, t2] ty #[v1, v2]).run P w = .ok v w' ∧ Sat w0 S σ' β' a w' ∧ relV β' (owS S σ'.blks β') w' r v := by
  unfold appendX at h
  split at h
  · rename_i e by' sy ob0 id n es he hry
    split at h
    · rename_i sx hrd
      split at h
      · rename_i r' hj
        cases h
        obtain ⟨ho0, hob⟩ := All.append.1 hob
        obtain ⟨gy, cy, hcy, hA⟩ := appSrc_ok (ty := ty) hS.blk he hry ho0 hy
        obtain ⟨gx, cx, A, c, hcx, hv, hcell⟩ := readSl_ok hS.blk hrd hx
        have h1 := relV_scalar rfl rfl hx
        simp only [rel, List.cons.injEq, and_true] at h1
        obtain ⟨hcr, hgr⟩ := joinSl_ok hj hcx hcy
        have hb : (cx.length + cy.length) * by' ≤ 140737488355328 := by have := hob.1; simpa [slenD, cells_slen hcr] using this
        have h0 : 0 < cy.length := by have := hob.2.1; simpa [slenD, cells_slen hcy] using this
        rw [h1] at hv
        cases hv
        rw [h1]
        refine core_grow (σ' := Eng.nilRow σ e) he hS (id := σ.next) ⟨rfl, ?_, ?_, hS.uniq_cons, by simp [Eng.nilRow], ⟨rfl, fun i bk hm _ => ⟨List.mem_cons_of_mem _ hm, .inl (hS.bndB i bk hm).1⟩⟩, by simp [Eng.nilRow]⟩ hcr (hgr gx gy) hA hb h0 ⟨β id, 0, none⟩ ?_
        · intro d s hm
          exact ⟨fun i hi => by have := hS.bnd d s hm i hi; simp only [Eng.nilRow]; omega, hS.slot d s hm⟩
        · intro i bk hm
          rcases List.mem_cons.1 hm with h | h
          · cases h; exact .inl ⟨rfl, rfl⟩
          · exact .inr ⟨h, hS.fresh i bk h⟩
        · intro j u hu
          obtain ⟨ad, e2, _, h3⟩ := hcell (by have := (List.getElem?_eq_some_iff.1 hu).1; omega)
          cases e2
          rw [add_plain]
          simpa using h3 j u hu
      · cases h
    · cases h
  · cases h
theorem wp_appendX {o : Oper} {x y : Operand} {t t2 : TypeId} (ho : o.op = .call { callee := .builtin .append, args := #[x, y], argTypes := #[t, t2] }) (hS : Sat w0 S σ β a w) {sx sy r : SV} {ob : List Prop}
    (h : appendX P σ t t2 sx sy = some (σ', r, ob)) (hob : All ob) (hx : relV β (owS S σ.blks β) w sx (a.eval x)) (hy : relV β (owS S σ.blks β) w sy (a.eval y))
    {K : Act → World → Prop} {Q : Exit → Act → World → Prop} (hk : ∀ v w' β', Sat w0 S σ' β' a w' → relV β' (owS S σ'.blks β') w' r v → K (a.put o.dst v) w') : o.wp P a w K Q := by
  obtain ⟨v, w', β', hr, h1, h2⟩ := appendX_ok (P := P) (ty := o.type) hS h hob hx hy
  unfold Oper.wp execOp
  simp only [ho, resolve, invoke, builtin, Sem.run_bind, Sem.run_pure, Result.andThen_ok, List.map_toArray, List.map_cons, List.map_nil, hr]
  exact hk v w' β' h1 h2
theorem stepOpX_ok (hctr : CtrOk P ctr) {σ' : St} {i : Nat} {o : Oper} {sc sc' : List Bool} {ob : List Prop} (h : stepOpX P ctr ops σ i o sc = some (σ', ob, sc')) (hob : All ob) (hi : ops[i]? = some o)
    (hS : Sat w0 S σ β a w) {K : Act → World → Prop} {Q : Exit → Act → World → Prop} (hk : ∀ β' a' w', Sat w0 S σ' β' a' w' → K a' w') : wpOp P ops Q i K a w := by
  unfold stepOpX at h
  split at h
  · rename_i hx
    cases h
    unfold stepX at hx
    split at hx
    · rename_i hg
      split at hx
      · rename_i x y t t' hop
        split at hx
        · rename_i sx sy hx1 hy1
          split at hx
          · rename_i σ1 r ob' happ
            split at hx
            · rename_i σ2 hput
              cases hx
              unfold wpOp
              simp only [hi]
              rw [guard_ok hS.slot hg]
              simp only [if_true]
              refine .inl ?_
              exact wp_appendX hop hS happ hob (hS.look hx1) (rd_ok (hS.look hy1)) fun v w' β' h1 h2 => hk β' _ _ (h1.put hput h2)
            · cases hx
          · cases hx
        · cases hx
      · cases hx
    · cases hx
  · exact stepOp_ok hctr h hob hi hS hk
end
def execX (P : Program) (ctr : Ctr) (ops : Array Oper) (d : Ke) : Nat → Array Bool → St → List Bool → Option (St × List Prop × List Bool)
  | 0, _, _, _ => none
  | f + 1, L, σ, sc => match Region.ready .any ops L with
    | [] => match restrict d.ks d.bs d.nx σ with
      | some R => some (R, [], sc)
      | none => none
    | r => match firstPureG P ctr ops L σ sc r with
      | some (i, σ1, ob1, sc1) => match execX P ctr ops d f (L.setIfInBounds i true) σ1 sc1 with
        | some (R, ob2, sc2) => some (R, ob1 ++ ob2, sc2)
        | none => none
      | none => tryS (fun i => match ops[i]? with
        | some o => match stepOpX P ctr ops σ i o sc with
          | some (σ1, ob1, sc1) => match execX P ctr ops d f (L.setIfInBounds i true) σ1 sc1 with
            | some (R, ob2, sc2) => some (R, ob1 ++ ob2, sc2)
            | none => none
          | none => none
        | none => none) r
def drawX (P : Program) (ctr : Ctr) (ops : Array Oper) (d : Ke) (σ : St) (sc : List Bool) : Option (St × List Prop × List Bool) :=
  if Region.noSelect ops then execX P ctr ops d (ops.size + 1) (Array.replicate ops.size false) σ sc else none
section
variable {P : Program} {ctr : Ctr} {w0 : Fr} {w : World} {S : Own} {σ σ' : St} {β : Nat → Nat} {a : Act} {ops : Array Oper}
theorem execX_ok (hctr : CtrOk P ctr) (hs : Region.noSelect ops = true) {d : Ke} {Q : Exit → Act → World → Prop} (hQ : ∀ c a w, ¬ Q (.panic c) a w) : ∀ {f : Nat} {L : Array Bool} {σ : St} {R : St} {sc sc' : List Bool} {ob : List Prop} {β : Nat → Nat} {a : Act} {w : World},
    execX P ctr ops d f L σ sc = some (R, ob, sc') → All ob → Sat w0 S σ β a w → (∀ β' a' w', Sat w0 S R β' a' w' → Q .normal a' w') → ∀ {g : Nat}, left L ≤ g → L.size = ops.size → wpAny P .any ops Q g L a w := by
  intro f
  induction f with
  | zero => intro L σ R sc sc' ob β a w h; simp [execX] at h
  | succ f ih =>
    intro L σ R sc sc' ob β a w h hob hS hk g hl hsz
    simp only [execX] at h
    split at h
    · rename_i hr
      split at h
      · rename_i R1 he
        cases h
        exact wpAny_done hr (hk β a w (hS.restrict he)) g
      · cases h
    · rename_i hr0
      have hstep : ∀ i, i ∈ Region.ready .any ops L → left L = left (L.setIfInBounds i true) + 1 := fun i hi => by
        obtain ⟨h1, o, ho, _⟩ := mem_ready.1 hi
        exact left_set (by rw [hsz]; exact (Array.getElem?_eq_some_iff.1 ho).1) h1
      have hpos : 0 < g := by
        cases hr : Region.ready .any ops L with
        | nil => exact absurd hr hr0
        | cons j t => have := hstep j (by rw [hr]; simp); omega
      obtain ⟨g, rfl⟩ : ∃ g', g = g' + 1 := ⟨g - 1, by omega⟩
      split at h
      · rename_i i σ1 ob1 sc1 hp
        split at h
        · rename_i R2 ob2 sc2 hx
          cases h
          obtain ⟨ho1, ho2⟩ := All.append.1 hob
          obtain ⟨hm, hf, o, ho, hst⟩ := firstPureG_ok hp
          obtain ⟨v, hy, hS1⟩ := pureStepG_ok hst ho1 hS
          refine wpAny_take ho hs hf (by simpa using hm) (fun c a w h => absurd h (hQ c _ w)) hy ?_
          exact ih hx ho2 hS1 hk (by have := hstep i hm; omega) (by simpa using hsz)
        · cases h
      · refine wpAny_all rfl hr0 ?_
        intro j hj
        obtain ⟨ob', sc2, h1, h2⟩ := tryS_ok h hob j hj
        split at h1
        · rename_i o ho
          split at h1
          · rename_i σ1 ob1 sc1 hst
            split at h1
            · rename_i R2 ob2 sc3 hx
              cases h1
              obtain ⟨ho1, ho2⟩ := All.append.1 h2
              refine stepOpX_ok hctr hst ho1 ho hS fun β' a' w' hS' => ?_
              exact ih hx ho2 hS' hk (by have := hstep j hj; omega) (by simpa using hsz)
            · cases h1
          · cases h1
        · cases h1
theorem drawX_ok (hm : P.follows .mixedOrders = true) (hctr : CtrOk P ctr) {id : Nat} {d : Ke} {sc sc' : List Bool} {ob : List Prop} (h : drawX P ctr ops d σ sc = some (σ', ob, sc')) (hob : All ob) (hS : Sat w0 S σ β a w)
    {Q : Exit → Act → World → Prop} (hQ : ∀ c a w, ¬ Q (.panic c) a w) (hk : ∀ β' a' w', Sat w0 S σ' β' a' w' → Q .normal a' w') : (Code.region id ops true).wp P Q a w := by
  unfold drawX at h
  split at h
  · rename_i hs
    refine wp_region_any hm ?_
    have hxt : Ext w { w with drawn := w.drawn + 1 } := ⟨rfl, rfl, rfl, Nat.le_refl _, fun _ _ => rfl⟩
    refine execX_ok hctr hs hQ h hob (hS.extend hxt) hk ?_ (by simp)
    simp [left, List.countP_replicate]
  · cases h
end
def regX (P : Program) (ctr : Ctr) (body : Code) (p : List Nat) (r : List It) (d : Ke) (σ : St) (sc : List Bool) : List It × Option St × List Prop × List Bool :=
  match nav body p with
  | some (.region _ ops true) => match drawX P ctr ops d σ sc with
    | some (σ', ob, sc') => (r, some σ', ob, sc')
    | none => ([], none, [], sc)
  | _ => ([], none, [], sc)
theorem hold_allX {P : Program} {body : Code} {w0 : Fr} {S : Own} (hm : P.follows .mixedOrders = true) {ctr : Ctr} (hctr : CtrOk P ctr) {Q : Exit → Act → World → Prop} [ExitOk Q] {p : List Nat} {r : List It} {d : Ke} {σ : St} {sc : List Bool} {st' : List It} {σ' : St} {ob : List Prop} {sc' : List Bool}
    (h : regX P ctr body p r d σ sc = (st', some σ', ob, sc')) (hob : All ob) (hk : Hold P body Q w0 S st' σ') : Hold P body Q w0 S (.at p :: r) σ := by
  unfold regX at h
  split at h
  · rename_i id ops hn
    split at h
    · rename_i σ1 ob1 sc1 hx
      cases h
      intro β a w hS
      simp only [contQ, hn]
      exact drawX_ok hm hctr hx hob hS (contQ_panic (ExitOk.panic (Q := Q)) _) hk
    · cases h
  · cases h
end Go.Eng

namespace Go.Eng.G
open Go Go.Eng Go.Proofs Go.Eng.B
set_option maxRecDepth 100000
set_option maxHeartbeats 1000000
theorem okH9d {g : List Nat → List Nat} (hg : g = sum64) (hk : HashOk g) : CtrOk Tryz.prog (addC 16 (ePubX g) (H9c g)) := addC_ok (okH9c hg hk) (cPubX hg hk)
theorem wide_M (b : List Nat) : wideV b < M256 := Nat.lt_trans (Nat.mod_lt _ (by decide)) QQ_lt
theorem ma_M (a b c : Nat) : maV a b c < M256 := Nat.lt_trans (Nat.mod_lt _ (by decide)) QQ_lt
theorem slen_dB2 (a b : Nat) : slenD (.sl .u8 (dB a ++ dB b)) = 64 := by show (dB a ++ dB b).length = 64; rw [List.length_append, dB_len, dB_len]
theorem slen_dB1 (a : Nat) : slenD (.sl .u8 (dB a)) = 32 := dB_len a
def sSgn (A B : Nat) : St := ⟨44, [(11, .ptr 5 0 (.c 0)), (12, .ptr 7 0 (.c 0))], [(5, ⟨23, [.arr .u8 32 (dB A)], false⟩), (7, ⟨23, [.arr .u8 32 (dB B)], false⟩)], 8, 0⟩
def sSgn2 (A B : Nat) : St := ⟨44, [(4, .row 8 (.sl .u8 (dB A ++ dB B))), (5, .c .i64 0)], [(8, ⟨5, [], true⟩)], 11, 0⟩
section
variable {w0 : World} {S : Own} {res : SV}
theorem sgn_end {g : List Nat → List Nat} (hg : g = sum64) (hk : HashOk g) (A B : Nat) (hR : res = .tup [.sl .u8 (dB A ++ dB B), .i .i64 0]) :
    Hold Tryz.prog (bodyOf Tryz.f18) (Fin Tryz.prog Tryz.f18 w0 S res) w0 S [.at [0, 1, 1, 1, 1, 1, 1, 1, 1], .at [1, 1, 1, 1, 1, 1, 1, 1, 1]] (sSgn A B) := by
  refine hold_allX mixed (okH9d hg hk) (p := [0, 1, 1, 1, 1, 1, 1, 1, 1]) (r := [.at [1, 1, 1, 1, 1, 1, 1, 1, 1]]) (d := Ke.mk [4, 5] [8] 11) (σ := sSgn A B) (sc := []) (st' := [It.at [1, 1, 1, 1, 1, 1, 1, 1, 1]]) (σ' := (St.mk 44 [(4, SV.row 8 (SV.sl .u8 (dB A ++ dB B))), (5, SV.c .i64 (0 : Int))] [(8, Bk.mk 5 [] true)] 11 0)) (ob := [slenD (SV.sl .u8 (dB A ++ dB B)) * 1 ≤ 140737488355328, 0 < slenD (SV.sl .u8 (dB B))]) (sc' := []) (by kernel_rfl) ?_ ?_
  · repeat' first | exact True.intro | exact rfl | (rw [slen_dB2]; decide) | (rw [slen_dB1]; decide) | refine ⟨?_, ?_⟩
  · rw [hR]
    refine hold_endw mixed (okH9d hg hk) (unroll := true) (f := 100) (sc := []) (r := (SV.tup [SV.sl .u8 (dB A ++ dB B), SV.c .i64 (0 : Int)])) (ob := []) (sc' := []) (by kernel_rfl) trivial ?_
    exact ⟨rfl, ⟨rfl, rfl⟩, rfl⟩
end
theorem cSgnX {g : List Nat → List Nat} (hg : g = sum64) (hk : HashOk g) : ∀ args res ob, eSgnX g args = some (res, ob) → All ob → Contract Tryz.prog 18 args res := by
  intro args res ob h hob
  unfold eSgnX at h
  split at h
  · rename_i s m
    cases h
    refine contract Tryz.func18 (body := bodyOf Tryz.f18) rfl (by kernel_rfl) (by kernel_rfl) rfl ?_
    rintro _ w0 S
    have eK := vd (vB_lt (secL_ok hk s))
    by_cases hl : s.length = 32
    · rw [sgI_p hl, erI_p hl]
      have hd : (List.drop 32 (g s)).length = 32 := by rw [List.length_drop, hk.len]
      have hm := hob.1
      refine hold_cut mixed (okH9d hg hk) (unroll := true) (f := 200) (sc := [false]) (ks := [11,12]) (bs := [5,7]) (nx := 8) (st' := [It.at [0, 1, 1, 1, 1, 1, 1, 1, 1], It.at [1, 1, 1, 1, 1, 1, 1, 1, 1]]) (σ' := { nt := 44, slots := [(11, SV.ptr 5 0 (Ix.c 0)), (12, SV.ptr 7 0 (Ix.c 0))], blks := [(5, { ty := 23, segs := [SV.arr .u8 32 (dB (bmV (vF (dF (wideV (g (List.drop 32 (g s) ++ m)))))))] }), (7, { ty := 23, segs := [SV.arr .u8 32 (dB (vF (dF (maV (vF (dF (wideV (g (dB (bmV (vF (dF (wideV (g (List.drop 32 (g s) ++ m)))))) ++ dB (bmV (vF (dF (vB (secL (g s)))))) ++ m))))) (vF (dF (vB (secL (g s))))) (vF (dF (wideV (g (List.drop 32 (g s) ++ m)))))))))] })], next := 8 }) (ob := [(s.length != 32) = false, s.length ≤ 1000000, 94991750553327537054923576013098519116177106212663501036117577537042505103504 = DP, 74191411869338878686276167017509130379084227759686438032777571066171880567110 = W2, (List.drop 32 (g s)).length + m.length ≤ 1000000, 94991750553327537054923576013098519116177106212663501036117577537042505103504 = DP, 74191411869338878686276167017509130379084227759686438032777571066171880567110 = W2, (dB (bmV (vF (dF (wideV (g (List.drop 32 (g s) ++ m))))))).length + (dB (bmV (vF (dF (vB (secL (g s))))))).length + m.length ≤ 1000000]) (sc' := []) (by kernel_rfl) ?_ ?_
      · exact ⟨by rw [hl]; rfl, by omega, rfl, W2_lit, by rw [hd]; omega, rfl, W2_lit, by rw [dB_len, dB_len]; omega, trivial⟩
      · rw [eK, vd (wide_M _), vd (wide_M _), vd (ma_M _ _ _)]
        exact sgn_end hg hk (bmV (sgR g s m)) (sgS g s m) rfl
    · rw [sgI_n hl, erI_n hl]
      refine hold_endw mixed (okH9d hg hk) (unroll := true) (f := 100) (sc := [true]) (r := (SV.tup [SV.sl .u8 [], SV.c .i64 (1 : Int)])) (ob := [(s.length != 32) = true]) (sc' := []) (by kernel_rfl) ⟨bne_iff_ne.mpr hl, trivial⟩ ?_
      exact ⟨rfl, ⟨rfl, rfl⟩, rfl⟩
  · cases h
theorem okH9 {g : List Nat → List Nat} (hg : g = sum64) (hk : HashOk g) : CtrOk Tryz.prog (H9 g) := addC_ok (okH9d hg hk) (cSgnX hg hk)
end Go.Eng.G

namespace Go.Eng.G
open Go Go.Eng Go.Proofs Go.Eng.B
set_option maxRecDepth 100000
set_option maxHeartbeats 1000000
def eRSec (g : List Nat → List Nat) (args : List SV) : Option (SV × List Prop) := match args with
  | [.sl .u8 s] => some (.tup [.arr .u8 32 (secL (g s)), .sl .u8 ((g s).drop 32)], [s.length ≤ 1000000])
  | _ => none
def eBP := t0 (pt (rdP baseL))
def H10a (g : List Nat → List Nat) : Ctr := addC 55 eBP (addC 60 (eS512 g) (addC 16 (ePubX g) (H9c g)))
def H10b (g : List Nat → List Nat) : Ctr := addC 54 (eRSec g) (H10a g)
def H10c (g : List Nat → List Nat) : Ctr := addC 17 (ePubX g) (H10b g)
def H10 (g : List Nat → List Nat) : Ctr := addC 19 (eSgnX g) (H10c g)
theorem cQ512 {g : List Nat → List Nat} (hg : g = sum64) : ∀ args res ob, eS512 g args = some (res, ob) → All ob → Contract Tryz.prog 60 args res := by
  intro args res ob h hob
  unfold eS512 at h
  split at h
  · cases h; rw [hg]; exact qsum512_c _ hob.1
  · cases h
theorem okH9d' {g : List Nat → List Nat} (hg : g = sum64) (hk : HashOk g) : CtrOk Tryz.prog (addC 60 (eS512 g) (addC 16 (ePubX g) (H9c g))) := addC_ok (addC_ok (okH9c hg hk) (cPubX hg hk)) (cQ512 hg)
theorem bP_c : Contract Tryz.prog 55 [] (pt (rdP baseL)) := by
  refine contract Tryz.func55 (body := bodyOf Tryz.f55) rfl (by kernel_rfl) (by kernel_rfl) rfl ?_
  intro _ w0 S
  exact hold_end mixed okH4 (unroll := true) (f := 100) (sc := []) (r := (SV.ag [SV.arr .u64 4 (dF 15112221349535400772501151409588531511454012693041857206046113283949847762202), SV.arr .u64 4 (dF 46316835694926478169428394003475163141307993866256225615783033603165251855960), SV.arr .u64 4 (dF 1), SV.arr .u64 4 (dF 46827403850823179245072216630277197565144205554125654976674165829533817101731)])) (ob := []) (sc' := []) (by kernel_rfl) trivial rfl
theorem okH10a {g : List Nat → List Nat} (hg : g = sum64) (hk : HashOk g) : CtrOk Tryz.prog (H10a g) := addC_ok (okH9d' hg hk) (t0_ok bP_c)
theorem cRSec {g : List Nat → List Nat} (hg : g = sum64) (hk : HashOk g) : ∀ args res ob, eRSec g args = some (res, ob) → All ob → Contract Tryz.prog 54 args res := by
  intro args res ob h hob
  unfold eRSec at h
  split at h
  · rename_i s
    cases h
    refine contract Tryz.func54 (body := bodyOf Tryz.f54) rfl (by kernel_rfl) (by kernel_rfl) rfl ?_
    rintro _ w0 S
    have h1 := hk.len s
    have h2 : (List.take 32 (g s)).length = 32 := by rw [List.length_take, h1]; rfl
    refine hold_end mixed (okH10a hg hk) (unroll := true) (f := 100) (sc := []) (r := (SV.tup [SV.arr .u8 32 (clampL (List.take 32 (List.drop 0 (List.take 32 (g s))))), SV.sl .u8 (List.drop 32 (List.take (g s).length (g s)))])) (ob := [s.length ≤ 1000000, 0 ≤ 32, 32 ≤ (g s).length, 32 ≤ (g s).length, (g s).length ≤ (g s).length, 32 ≤ (List.drop 0 (List.take 32 (g s))).length]) (sc' := []) (by kernel_rfl) ?_ ?_
    · rw [List.drop_zero]
      exact ⟨hob.1, by repeat' first | exact True.intro | omega | (rw [h2]; omega) | refine ⟨?_, ?_⟩⟩
    · rw [List.drop_zero, List.take_of_length_le (show (List.take 32 (g s)).length ≤ 32 by omega), List.take_of_length_le (Nat.le_refl (g s).length)]
      rfl
  · cases h
theorem slen_dB (n : Nat) : slenD (.sl .u8 (dB n)) = 32 := dB_len n
theorem okH10b {g : List Nat → List Nat} (hg : g = sum64) (hk : HashOk g) : CtrOk Tryz.prog (H10b g) := addC_ok (okH10a hg hk) (cRSec hg hk)
theorem cRPub {g : List Nat → List Nat} (hg : g = sum64) (hk : HashOk g) : ∀ args res ob, ePubX g args = some (res, ob) → All ob → Contract Tryz.prog 17 args res := by
  intro args res ob h hob
  unfold ePubX at h
  split at h
  · rename_i s
    cases h
    refine contract Tryz.func17 (body := bodyOf Tryz.f17) rfl (by kernel_rfl) (by kernel_rfl) rfl ?_
    rintro _ w0 S
    have p0 := rdP_ok baseL
    have p1 := p4_pt (pokP_pok p0)
    have q2 := rtm_ok dN (vB (secL (g s))) (rdP baseL) 256 gO gO_okP
    have p2 := p4_pt (pokP_pok q2)
    by_cases hl : s.length = 32
    · rw [pbI_p hl, erI_p hl]
      refine hold_endw mixed (okH10b hg hk) (unroll := true) (f := 100) (sc := [false]) (r := (SV.tup [SV.sl .u8 (dB (encR (p4 (dF (rtm dN (vB (secL (g s))) (p4 (dF (rdP baseL).x) (dF (rdP baseL).y) (dF (rdP baseL).z) (dF (rdP baseL).t)) 256 gO).x) (dF (rtm dN (vB (secL (g s))) (p4 (dF (rdP baseL).x) (dF (rdP baseL).y) (dF (rdP baseL).z) (dF (rdP baseL).t)) 256 gO).y) (dF (rtm dN (vB (secL (g s))) (p4 (dF (rdP baseL).x) (dF (rdP baseL).y) (dF (rdP baseL).z) (dF (rdP baseL).t)) 256 gO).z) (dF (rtm dN (vB (secL (g s))) (p4 (dF (rdP baseL).x) (dF (rdP baseL).y) (dF (rdP baseL).z) (dF (rdP baseL).t)) 256 gO).t)))), SV.c .i64 (0 : Int)])) (ob := [(s.length != 32) = false, s.length ≤ 1000000, pokP (p4 (dF (rdP baseL).x) (dF (rdP baseL).y) (dF (rdP baseL).z) (dF (rdP baseL).t)), pokP (p4 (dF (rtm dN (vB (secL (g s))) (p4 (dF (rdP baseL).x) (dF (rdP baseL).y) (dF (rdP baseL).z) (dF (rdP baseL).t)) 256 gO).x) (dF (rtm dN (vB (secL (g s))) (p4 (dF (rdP baseL).x) (dF (rdP baseL).y) (dF (rdP baseL).z) (dF (rdP baseL).t)) 256 gO).y) (dF (rtm dN (vB (secL (g s))) (p4 (dF (rdP baseL).x) (dF (rdP baseL).y) (dF (rdP baseL).z) (dF (rdP baseL).t)) 256 gO).z) (dF (rtm dN (vB (secL (g s))) (p4 (dF (rdP baseL).x) (dF (rdP baseL).y) (dF (rdP baseL).z) (dF (rdP baseL).t)) 256 gO).t)), slenD (SV.sl .u8 (dB (encR (p4 (dF (rtm dN (vB (secL (g s))) (p4 (dF (rdP baseL).x) (dF (rdP baseL).y) (dF (rdP baseL).z) (dF (rdP baseL).t)) 256 gO).x) (dF (rtm dN (vB (secL (g s))) (p4 (dF (rdP baseL).x) (dF (rdP baseL).y) (dF (rdP baseL).z) (dF (rdP baseL).t)) 256 gO).y) (dF (rtm dN (vB (secL (g s))) (p4 (dF (rdP baseL).x) (dF (rdP baseL).y) (dF (rdP baseL).z) (dF (rdP baseL).t)) 256 gO).z) (dF (rtm dN (vB (secL (g s))) (p4 (dF (rdP baseL).x) (dF (rdP baseL).y) (dF (rdP baseL).z) (dF (rdP baseL).t)) 256 gO).t))))) * 1 ≤ 140737488355328]) (sc' := []) (by kernel_rfl) ?_ ?_
      · rw [p1, p2]
        exact ⟨by rw [hl]; rfl, by omega, p0, q2, by rw [slen_dB]; decide, trivial⟩
      · rw [p1, p2]
        exact ⟨rfl, ⟨rfl, rfl⟩, rfl⟩
    · rw [pbI_n hl, erI_n hl]
      refine hold_endw mixed (okH10b hg hk) (unroll := true) (f := 100) (sc := [true]) (r := (SV.tup [SV.sl .u8 [], SV.c .i64 (1 : Int)])) (ob := [(s.length != 32) = true]) (sc' := []) (by kernel_rfl) ⟨bne_iff_ne.mpr hl, trivial⟩ ?_
      exact ⟨rfl, ⟨rfl, rfl⟩, rfl⟩
  · cases h
theorem okH10c {g : List Nat → List Nat} (hg : g = sum64) (hk : HashOk g) : CtrOk Tryz.prog (H10c g) := addC_ok (okH10b hg hk) (cRPub hg hk)
end Go.Eng.G

namespace Go.Eng.G
open Go Go.Eng Go.Proofs Go.Eng.B
set_option maxRecDepth 100000
set_option maxHeartbeats 1000000
theorem wV_w {g : List Nat → List Nat} (hk : HashOk g) (x : List Nat) : wV (g x) = wideV (g x) := by unfold wV; rw [if_pos (by rw [hk.len]; decide)]
theorem vB_wide (b : List Nat) : vB (dB (wideV b)) = wideV b := bd (Nat.lt_trans (Nat.mod_lt _ (by decide)) QQ_lt)
theorem pub_len (g : List Nat → List Nat) (s : List Nat) : (pubW g s).length = 32 := dB_len _
theorem slen_d1 (a : Nat) : slenD (.sl .u8 (dB a)) = 32 := dB_len a
theorem slen_d2 (a : Nat) (g : List Nat → List Nat) (s : List Nat) : slenD (.sl .u8 (dB a ++ pubW g s)) = 64 := by show (dB a ++ pubW g s).length = 64; rw [List.length_append, dB_len, pub_len]
theorem slen_d3 (a b : Nat) : slenD (.sl .u8 (dB a ++ dB b)) = 64 := by show (dB a ++ dB b).length = 64; rw [List.length_append, dB_len, dB_len]
theorem cRSgn {g : List Nat → List Nat} (hg : g = sum64) (hk : HashOk g) : ∀ args res ob, eSgnX g args = some (res, ob) → All ob → Contract Tryz.prog 19 args res := by
  intro args res ob h hob
  unfold eSgnX at h
  split at h
  · rename_i s m
    cases h
    refine contract Tryz.func19 (body := bodyOf Tryz.f19) rfl (by kernel_rfl) (by kernel_rfl) rfl ?_
    rintro _ w0 S
    have p0 := rdP_ok baseL
    have p1 := p4_pt (pokP_pok p0)
    have q2 := rtm_ok dN (sgR g s m) (rdP baseL) 256 gO gO_okP
    have p2 := p4_pt (pokP_pok q2)
    unfold sgR at q2 p2
    have hd : (List.drop 32 (g s)).length = 32 := by rw [List.length_drop, hk.len]
    have hm : m.length ≤ 900000 := hob.1
    by_cases hl : s.length = 32
    · rw [sgI_p hl, erI_p hl]
      refine hold_endw mixed (okH10c hg hk) (unroll := true) (f := 300) (sc := [false]) (r := (SV.tup [SV.sl .u8 (dB (encR (p4 (dF (rtm dN (vB (dB (wV (g (List.drop 32 (g s) ++ m))))) (p4 (dF (rdP baseL).x) (dF (rdP baseL).y) (dF (rdP baseL).z) (dF (rdP baseL).t)) 256 gO).x) (dF (rtm dN (vB (dB (wV (g (List.drop 32 (g s) ++ m))))) (p4 (dF (rdP baseL).x) (dF (rdP baseL).y) (dF (rdP baseL).z) (dF (rdP baseL).t)) 256 gO).y) (dF (rtm dN (vB (dB (wV (g (List.drop 32 (g s) ++ m))))) (p4 (dF (rdP baseL).x) (dF (rdP baseL).y) (dF (rdP baseL).z) (dF (rdP baseL).t)) 256 gO).z) (dF (rtm dN (vB (dB (wV (g (List.drop 32 (g s) ++ m))))) (p4 (dF (rdP baseL).x) (dF (rdP baseL).y) (dF (rdP baseL).z) (dF (rdP baseL).t)) 256 gO).t))) ++ dB (maV (vB (dB (wV (g (dB (encR (p4 (dF (rtm dN (vB (dB (wV (g (List.drop 32 (g s) ++ m))))) (p4 (dF (rdP baseL).x) (dF (rdP baseL).y) (dF (rdP baseL).z) (dF (rdP baseL).t)) 256 gO).x) (dF (rtm dN (vB (dB (wV (g (List.drop 32 (g s) ++ m))))) (p4 (dF (rdP baseL).x) (dF (rdP baseL).y) (dF (rdP baseL).z) (dF (rdP baseL).t)) 256 gO).y) (dF (rtm dN (vB (dB (wV (g (List.drop 32 (g s) ++ m))))) (p4 (dF (rdP baseL).x) (dF (rdP baseL).y) (dF (rdP baseL).z) (dF (rdP baseL).t)) 256 gO).z) (dF (rtm dN (vB (dB (wV (g (List.drop 32 (g s) ++ m))))) (p4 (dF (rdP baseL).x) (dF (rdP baseL).y) (dF (rdP baseL).z) (dF (rdP baseL).t)) 256 gO).t))) ++ pbI g s ++ m))))) (vB (secL (g s))) (vB (dB (wV (g (List.drop 32 (g s) ++ m))))))), SV.c .i64 (0 : Int)])) (ob := [(erI s != (0 : Int)) = false, s.length ≤ 1000000, slenD (SV.sl .u8 (List.drop 32 (g s))) * 1 ≤ 140737488355328, slenD (SV.sl .u8 (List.drop 32 (g s) ++ m)) * 1 ≤ 140737488355328, (List.drop 32 (g s) ++ m).length ≤ 1000000, pokP (p4 (dF (rdP baseL).x) (dF (rdP baseL).y) (dF (rdP baseL).z) (dF (rdP baseL).t)), pokP (p4 (dF (rtm dN (vB (dB (wV (g (List.drop 32 (g s) ++ m))))) (p4 (dF (rdP baseL).x) (dF (rdP baseL).y) (dF (rdP baseL).z) (dF (rdP baseL).t)) 256 gO).x) (dF (rtm dN (vB (dB (wV (g (List.drop 32 (g s) ++ m))))) (p4 (dF (rdP baseL).x) (dF (rdP baseL).y) (dF (rdP baseL).z) (dF (rdP baseL).t)) 256 gO).y) (dF (rtm dN (vB (dB (wV (g (List.drop 32 (g s) ++ m))))) (p4 (dF (rdP baseL).x) (dF (rdP baseL).y) (dF (rdP baseL).z) (dF (rdP baseL).t)) 256 gO).z) (dF (rtm dN (vB (dB (wV (g (List.drop 32 (g s) ++ m))))) (p4 (dF (rdP baseL).x) (dF (rdP baseL).y) (dF (rdP baseL).z) (dF (rdP baseL).t)) 256 gO).t)), slenD (SV.sl .u8 (dB (encR (p4 (dF (rtm dN (vB (dB (wV (g (List.drop 32 (g s) ++ m))))) (p4 (dF (rdP baseL).x) (dF (rdP baseL).y) (dF (rdP baseL).z) (dF (rdP baseL).t)) 256 gO).x) (dF (rtm dN (vB (dB (wV (g (List.drop 32 (g s) ++ m))))) (p4 (dF (rdP baseL).x) (dF (rdP baseL).y) (dF (rdP baseL).z) (dF (rdP baseL).t)) 256 gO).y) (dF (rtm dN (vB (dB (wV (g (List.drop 32 (g s) ++ m))))) (p4 (dF (rdP baseL).x) (dF (rdP baseL).y) (dF (rdP baseL).z) (dF (rdP baseL).t)) 256 gO).z) (dF (rtm dN (vB (dB (wV (g (List.drop 32 (g s) ++ m))))) (p4 (dF (rdP baseL).x) (dF (rdP baseL).y) (dF (rdP baseL).z) (dF (rdP baseL).t)) 256 gO).t))))) * 1 ≤ 140737488355328, slenD (SV.sl .u8 (dB (encR (p4 (dF (rtm dN (vB (dB (wV (g (List.drop 32 (g s) ++ m))))) (p4 (dF (rdP baseL).x) (dF (rdP baseL).y) (dF (rdP baseL).z) (dF (rdP baseL).t)) 256 gO).x) (dF (rtm dN (vB (dB (wV (g (List.drop 32 (g s) ++ m))))) (p4 (dF (rdP baseL).x) (dF (rdP baseL).y) (dF (rdP baseL).z) (dF (rdP baseL).t)) 256 gO).y) (dF (rtm dN (vB (dB (wV (g (List.drop 32 (g s) ++ m))))) (p4 (dF (rdP baseL).x) (dF (rdP baseL).y) (dF (rdP baseL).z) (dF (rdP baseL).t)) 256 gO).z) (dF (rtm dN (vB (dB (wV (g (List.drop 32 (g s) ++ m))))) (p4 (dF (rdP baseL).x) (dF (rdP baseL).y) (dF (rdP baseL).z) (dF (rdP baseL).t)) 256 gO).t))) ++ pbI g s)) * 1 ≤ 140737488355328, slenD (SV.sl .u8 (dB (encR (p4 (dF (rtm dN (vB (dB (wV (g (List.drop 32 (g s) ++ m))))) (p4 (dF (rdP baseL).x) (dF (rdP baseL).y) (dF (rdP baseL).z) (dF (rdP baseL).t)) 256 gO).x) (dF (rtm dN (vB (dB (wV (g (List.drop 32 (g s) ++ m))))) (p4 (dF (rdP baseL).x) (dF (rdP baseL).y) (dF (rdP baseL).z) (dF (rdP baseL).t)) 256 gO).y) (dF (rtm dN (vB (dB (wV (g (List.drop 32 (g s) ++ m))))) (p4 (dF (rdP baseL).x) (dF (rdP baseL).y) (dF (rdP baseL).z) (dF (rdP baseL).t)) 256 gO).z) (dF (rtm dN (vB (dB (wV (g (List.drop 32 (g s) ++ m))))) (p4 (dF (rdP baseL).x) (dF (rdP baseL).y) (dF (rdP baseL).z) (dF (rdP baseL).t)) 256 gO).t))) ++ pbI g s ++ m)) * 1 ≤ 140737488355328, (dB (encR (p4 (dF (rtm dN (vB (dB (wV (g (List.drop 32 (g s) ++ m))))) (p4 (dF (rdP baseL).x) (dF (rdP baseL).y) (dF (rdP baseL).z) (dF (rdP baseL).t)) 256 gO).x) (dF (rtm dN (vB (dB (wV (g (List.drop 32 (g s) ++ m))))) (p4 (dF (rdP baseL).x) (dF (rdP baseL).y) (dF (rdP baseL).z) (dF (rdP baseL).t)) 256 gO).y) (dF (rtm dN (vB (dB (wV (g (List.drop 32 (g s) ++ m))))) (p4 (dF (rdP baseL).x) (dF (rdP baseL).y) (dF (rdP baseL).z) (dF (rdP baseL).t)) 256 gO).z) (dF (rtm dN (vB (dB (wV (g (List.drop 32 (g s) ++ m))))) (p4 (dF (rdP baseL).x) (dF (rdP baseL).y) (dF (rdP baseL).z) (dF (rdP baseL).t)) 256 gO).t))) ++ pbI g s ++ m).length ≤ 1000000, slenD (SV.sl .u8 (dB (encR (p4 (dF (rtm dN (vB (dB (wV (g (List.drop 32 (g s) ++ m))))) (p4 (dF (rdP baseL).x) (dF (rdP baseL).y) (dF (rdP baseL).z) (dF (rdP baseL).t)) 256 gO).x) (dF (rtm dN (vB (dB (wV (g (List.drop 32 (g s) ++ m))))) (p4 (dF (rdP baseL).x) (dF (rdP baseL).y) (dF (rdP baseL).z) (dF (rdP baseL).t)) 256 gO).y) (dF (rtm dN (vB (dB (wV (g (List.drop 32 (g s) ++ m))))) (p4 (dF (rdP baseL).x) (dF (rdP baseL).y) (dF (rdP baseL).z) (dF (rdP baseL).t)) 256 gO).z) (dF (rtm dN (vB (dB (wV (g (List.drop 32 (g s) ++ m))))) (p4 (dF (rdP baseL).x) (dF (rdP baseL).y) (dF (rdP baseL).z) (dF (rdP baseL).t)) 256 gO).t))))) * 1 ≤ 140737488355328, slenD (SV.sl .u8 (dB (encR (p4 (dF (rtm dN (vB (dB (wV (g (List.drop 32 (g s) ++ m))))) (p4 (dF (rdP baseL).x) (dF (rdP baseL).y) (dF (rdP baseL).z) (dF (rdP baseL).t)) 256 gO).x) (dF (rtm dN (vB (dB (wV (g (List.drop 32 (g s) ++ m))))) (p4 (dF (rdP baseL).x) (dF (rdP baseL).y) (dF (rdP baseL).z) (dF (rdP baseL).t)) 256 gO).y) (dF (rtm dN (vB (dB (wV (g (List.drop 32 (g s) ++ m))))) (p4 (dF (rdP baseL).x) (dF (rdP baseL).y) (dF (rdP baseL).z) (dF (rdP baseL).t)) 256 gO).z) (dF (rtm dN (vB (dB (wV (g (List.drop 32 (g s) ++ m))))) (p4 (dF (rdP baseL).x) (dF (rdP baseL).y) (dF (rdP baseL).z) (dF (rdP baseL).t)) 256 gO).t))) ++ dB (maV (vB (dB (wV (g (dB (encR (p4 (dF (rtm dN (vB (dB (wV (g (List.drop 32 (g s) ++ m))))) (p4 (dF (rdP baseL).x) (dF (rdP baseL).y) (dF (rdP baseL).z) (dF (rdP baseL).t)) 256 gO).x) (dF (rtm dN (vB (dB (wV (g (List.drop 32 (g s) ++ m))))) (p4 (dF (rdP baseL).x) (dF (rdP baseL).y) (dF (rdP baseL).z) (dF (rdP baseL).t)) 256 gO).y) (dF (rtm dN (vB (dB (wV (g (List.drop 32 (g s) ++ m))))) (p4 (dF (rdP baseL).x) (dF (rdP baseL).y) (dF (rdP baseL).z) (dF (rdP baseL).t)) 256 gO).z) (dF (rtm dN (vB (dB (wV (g (List.drop 32 (g s) ++ m))))) (p4 (dF (rdP baseL).x) (dF (rdP baseL).y) (dF (rdP baseL).z) (dF (rdP baseL).t)) 256 gO).t))) ++ pbI g s ++ m))))) (vB (secL (g s))) (vB (dB (wV (g (List.drop 32 (g s) ++ m)))))))) * 1 ≤ 140737488355328]) (sc' := []) (by kernel_rfl) ?_ ?_
      · rw [p1, wV_w hk, wV_w hk, vB_wide, vB_wide, p2, pbI_p hl, erI_p hl]
        exact ⟨rfl, by omega, by show (List.drop 32 (g s)).length * 1 ≤ _; omega, by show (List.drop 32 (g s) ++ m).length * 1 ≤ _; rw [List.length_append]; omega, by rw [List.length_append]; omega, p0, q2,
          by rw [slen_d1]; decide, by rw [slen_d2]; decide, by show (_ ++ _ ++ _ : List Nat).length * 1 ≤ _; rw [List.length_append, List.length_append, dB_len, pub_len]; omega,
          by rw [List.length_append, List.length_append, dB_len, pub_len]; omega, by rw [slen_d1]; decide, by rw [slen_d3]; decide, trivial⟩
      · rw [p1, wV_w hk, wV_w hk, vB_wide, vB_wide, p2, pbI_p hl]
        exact ⟨rfl, ⟨rfl, rfl⟩, rfl⟩
    · rw [sgI_n hl, erI_n hl]
      refine hold_endw mixed (okH10c hg hk) (unroll := true) (f := 100) (sc := [true]) (r := (SV.tup [SV.sl .u8 [], SV.i .i64 (erI s)])) (ob := [(erI s != (0 : Int)) = true]) (sc' := []) (by kernel_rfl) ?_ ?_
      · rw [erI_n hl]; exact ⟨rfl, trivial⟩
      · rw [erI_n hl]; exact wkR_refl _
  · cases h
theorem okH10 {g : List Nat → List Nat} (hg : g = sum64) (hk : HashOk g) : CtrOk Tryz.prog (H10 g) := addC_ok (okH10c hg hk) (cRSgn hg hk)
end Go.Eng.G

namespace Go.Eng.G
open Go Go.Eng Go.Proofs Go.Eng.B
set_option maxRecDepth 100000
set_option maxHeartbeats 1000000
def eBe (args : List SV) : Option (SV × List Prop) := match args with
  | [.sl .u8 a, .sl .u8 b] => some (.b (a == b), [])
  | _ => none
def verQ (g : List Nat → List Nat) (p m s : List Nat) : Bool :=
  dB (encR (radd dN (rtm dN (vB (s.drop 32)) (rdP baseL) 256 gO) (rtm dN (wideV (g (s.take 32 ++ p ++ m))) (rneg (rdP p)) 256 gO))) == s.take 32
def verW (g : List Nat → List Nat) (p m s : List Nat) : Bool := decide (p.length = 32) && (decide (s.length = 64) && (rdB p && (!smR p && (decide (vB (s.drop 32) < QQ) && verQ g p m s))))
def eVer (g : List Nat → List Nat) (args : List SV) : Option (SV × List Prop) := match args with
  | [.sl .u8 p, .sl .u8 m, .sl .u8 s] => some (.b (verW g p m s), [m.length ≤ 900000])
  | _ => none
def H11a (g : List Nat → List Nat) : Ctr := addC 70 eBe (H9c g)
theorem be_c (a b : List Nat) : Contract Tryz.prog 70 [.sl .u8 a, .sl .u8 b] (.b (a == b)) := by
  refine contract Tryz.func70 (body := bodyOf Tryz.f70) rfl (by kernel_rfl) (by kernel_rfl) rfl ?_
  intro _ w0 S
  exact hold_end mixed ctr0_ok (unroll := true) (f := 100) (sc := []) (r := (SV.b (a == b))) (ob := []) (sc' := []) (by kernel_rfl) trivial rfl
theorem cBe : ∀ args res ob, eBe args = some (res, ob) → All ob → Contract Tryz.prog 70 args res := by
  intro args res ob he hob
  unfold eBe at he
  split at he
  · cases he; exact be_c _ _
  · cases he
theorem okH11a {g : List Nat → List Nat} (hg : g = sum64) (hk : HashOk g) : CtrOk Tryz.prog (H11a g) := addC_ok (okH9c hg hk) cBe
def rp (p : P4) : P4 := p4 (dF p.x) (dF p.y) (dF p.z) (dF p.t)
theorem QQ_lit' : (7237005577332262213973186563042994240857116359379907606001950938285454250989 : Nat) = QQ := by decide +kernel
theorem cVer {g : List Nat → List Nat} (hg : g = sum64) (hk : HashOk g) : ∀ args res ob, eVer g args = some (res, ob) → All ob → Contract Tryz.prog 29 args res := by
  intro args res ob h hob
  unfold eVer at h
  split at h
  · rename_i p m s
    cases h
    refine contract Tryz.func29 (body := bodyOf Tryz.f29) rfl (by kernel_rfl) (by kernel_rfl) rfl ?_
    rintro ⟨hp2, hm2, hs2, _⟩ w0 S
    have hm := hob.1
    by_cases hp : p.length = 32
    · by_cases hs : s.length = 64
      · have hS : List.take 32 (List.drop 32 (List.take s.length s)) = List.drop 32 s := by
          rw [List.take_length, List.take_of_length_le (by rw [List.length_drop]; omega)]
        have hx : (List.drop 32 s).length = 32 := by rw [List.length_drop]; omega
        have lS : vB (List.drop 32 s) < M256 := vB_lt ⟨hx, fun x h => hs2.2 x (List.mem_of_mem_drop h)⟩
        have lP := maskL_lt (u := p) ⟨hp, hp2.2⟩
        have lB : dY baseL < M256 := maskL_lt ⟨rfl, by decide⟩
        have b0 := decP_ok lB DP
        have a0 := decP_ok lP DP
        have o1 : (p.length != 32) = false := by rw [hp]; rfl
        have o2 : (s.length != 64) = false := by rw [hs]; rfl
        have o3 : 32 ≤ (List.drop 32 (List.take s.length s)).length := by rw [List.take_length]; omega
        have tp : List.take 32 p = p := take32 hp
        cases hb : rdB p with
        | true =>
          have e8 : smallV W2 (decP DP p) = smR p := by rw [small_pt lP hb]; unfold smR; rw [hb, Bool.true_and]
          cases hsm : smR p with
          | false =>
            by_cases hq : vB (List.drop 32 s) < QQ
            · refine hold_endw mixed (okH11a hg hk) (unroll := true) (f := 400) (sc := [false, false, false, false, false]) (r := (SV.b (dB (encV (rp (gadd (vF (dF (addF DP DP))) (rp (gtm (vF (dF (addF DP DP))) (vF (dF (vB (List.take 32 (List.drop (Ix.c (Int.toNat (32 : Int))).n (List.take s.length s)))))) (rp (decP (vF (dF DP)) baseL)) 256 gO)) (rp (gtm (vF (dF (addF DP DP))) (vF (dF (wideV (g (List.drop 0 (List.take (Ix.c (Int.toNat (32 : Int))).n s) ++ p ++ m))))) (rp (gneg (rp (decP (vF (dF DP)) (List.take 32 p))))) 256 gO))))) == List.drop 0 (List.take 32 s)))) (ob := [(p.length != 32) = false, (s.length != 64) = false, 32 ≤ p.length, 32 ≤ s.length, s.length ≤ s.length, 32 ≤ (List.drop 32 (List.take s.length s)).length, (!decB 94991750553327537054923576013098519116177106212663501036117577537042505103504 (List.take 32 p)) = false, smallV 74191411869338878686276167017509130379084227759686438032777571066171880567110 (rp (decP (vF (dF DP)) (List.take 32 p))) = false, (!Decidable.decide (vF (dF (vB (List.take 32 (List.drop 32 (List.take s.length s))))) < 7237005577332262213973186563042994240857116359379907606001950938285454250989)) = false, 0 ≤ 32, 32 ≤ s.length, (List.drop 0 (List.take 32 s)).length + p.length + m.length ≤ 1000000, 0 ≤ 32, 32 ≤ s.length]) (sc' := []) (by kernel_rfl) ?_ ?_
              · try simp only [rp]
                rw [hS, tp, decB_lit lP, hb, eDP, p4_pt a0, W2_lit, e8, hsm, vd lS, QQ_lit', List.drop_zero]
                exact ⟨o1, o2, by omega, by omega, Nat.le_refl _, o3, rfl, rfl, by rw [decide_eq_true hq]; rfl, by omega, by omega, by rw [List.length_take]; omega, by omega, by omega, trivial⟩
              · try simp only [rp]
                have t0 := gtm_ok W2_lt (vB (List.drop 32 s)) b0 256 gO gO_ok
                have n0 := gneg_ok a0
                have u0 := gtm_ok W2_lt (wideV (g (List.take 32 s ++ p ++ m))) n0 256 gO gO_ok
                have ix : (Ix.c (Int.toNat 32)).n = 32 := rfl
                rw [ix, hS, tp, List.drop_zero, eDP, eW2, p4_pt a0, p4_pt b0, vd lS, vd (Nat.lt_trans (Nat.mod_lt _ (by decide)) QQ_lt : wideV (g (List.take 32 s ++ p ++ m)) < M256), p4_pt n0, p4_pt t0, p4_pt u0, p4_pt (gadd_ok W2_lt t0 u0), encV_mod,
                  gadd_mod W2_lt W2_mod t0 u0, gtm_mod W2_lt W2_mod _ b0 _ _ gO_ok, gtm_mod W2_lt W2_mod _ n0 _ _ gO_ok, gneg_mod a0, decP_mod lB, decP_mod lP, pm_id gO_okP]
                have ew : verW g p m s = verQ g p m s := by unfold verW; simp [hp, hs, hb, hsm, hq]
                rw [ew]
                exact wkR_refl _
            · refine hold_endw mixed (okH11a hg hk) (unroll := true) (f := 400) (sc := [false, false, false, false, true]) (r := (SV.cb false)) (ob := [(p.length != 32) = false, (s.length != 64) = false, 32 ≤ p.length, 32 ≤ s.length, s.length ≤ s.length, 32 ≤ (List.drop 32 (List.take s.length s)).length, (!decB 94991750553327537054923576013098519116177106212663501036117577537042505103504 (List.take 32 p)) = false, smallV 74191411869338878686276167017509130379084227759686438032777571066171880567110 (rp (decP (vF (dF DP)) (List.take 32 p))) = false, (!Decidable.decide (vF (dF (vB (List.take 32 (List.drop 32 (List.take s.length s))))) < 7237005577332262213973186563042994240857116359379907606001950938285454250989)) = true]) (sc' := []) (by kernel_rfl) ?_ ?_
              · try simp only [rp]
                rw [hS, tp, decB_lit lP, hb, eDP, p4_pt a0, W2_lit, e8, hsm, vd lS, QQ_lit']; exact ⟨o1, o2, by omega, by omega, Nat.le_refl _, o3, rfl, rfl, by rw [decide_eq_false hq]; rfl, trivial⟩
              · exact (by unfold verW; simp [hp, hs, hb, hsm, hq] : false = verW g p m s)
          | true =>
            refine hold_endw mixed (okH11a hg hk) (unroll := true) (f := 400) (sc := [false, false, false, true]) (r := (SV.cb false)) (ob := [(p.length != 32) = false, (s.length != 64) = false, 32 ≤ p.length, 32 ≤ s.length, s.length ≤ s.length, 32 ≤ (List.drop 32 (List.take s.length s)).length, (!decB 94991750553327537054923576013098519116177106212663501036117577537042505103504 (List.take 32 p)) = false, smallV 74191411869338878686276167017509130379084227759686438032777571066171880567110 (rp (decP (vF (dF DP)) (List.take 32 p))) = true]) (sc' := []) (by kernel_rfl) ?_ ?_
            · try simp only [rp]
              rw [tp, decB_lit lP, hb, eDP, p4_pt a0, W2_lit, e8, hsm]; exact ⟨o1, o2, by omega, by omega, Nat.le_refl _, o3, rfl, rfl, trivial⟩
            · exact (by unfold verW; simp [hp, hs, hb, hsm] : false = verW g p m s)
        | false =>
          refine hold_endw mixed (okH11a hg hk) (unroll := true) (f := 400) (sc := [false, false, true]) (r := (SV.cb false)) (ob := [(p.length != 32) = false, (s.length != 64) = false, 32 ≤ p.length, 32 ≤ s.length, s.length ≤ s.length, 32 ≤ (List.drop 32 (List.take s.length s)).length, (!decB 94991750553327537054923576013098519116177106212663501036117577537042505103504 (List.take 32 p)) = true]) (sc' := []) (by kernel_rfl) ?_ ?_
          · try simp only [rp]
            rw [tp, decB_lit lP, hb]; exact ⟨o1, o2, by omega, by omega, Nat.le_refl _, o3, rfl, trivial⟩
          · exact (by unfold verW; simp [hp, hs, hb] : false = verW g p m s)
      · refine hold_endw mixed (okH11a hg hk) (unroll := true) (f := 400) (sc := [false, true]) (r := (SV.cb false)) (ob := [(p.length != 32) = false, (s.length != 64) = true]) (sc' := []) (by kernel_rfl) ?_ ?_
        · try simp only [rp]
          exact ⟨by rw [hp]; rfl, bne_iff_ne.mpr hs, trivial⟩
        · exact (by unfold verW; simp [hp, hs] : false = verW g p m s)
    · refine hold_endw mixed (okH11a hg hk) (unroll := true) (f := 400) (sc := [true]) (r := (SV.cb false)) (ob := [(p.length != 32) = true]) (sc' := []) (by kernel_rfl) ?_ ?_
      · try simp only [rp]
        exact ⟨bne_iff_ne.mpr hp, trivial⟩
      · exact (by unfold verW; simp [hp] : false = verW g p m s)
  · cases h
end Go.Eng.G

namespace Go.Eng.G
open Go Go.Eng Go.Proofs Go.Eng.B
set_option maxRecDepth 100000
set_option maxHeartbeats 1000000
def H12a (g : List Nat → List Nat) : Ctr := addC 27 eSmallX (H10b g)
theorem encR_lt (p : P4) : encR p < M256 := enc_lt (ml_lt _ _) (Nat.mod_lt _ (by decide))
theorem cRSmallX : ∀ args res ob, eSmallX args = some (res, ob) → All ob → Contract Tryz.prog 27 args res := by
  intro args res ob h hob
  unfold eSmallX t1b at h
  split at h
  · rename_i a
    cases h
    refine contract Tryz.func27 (body := bodyOf Tryz.f27) rfl (by kernel_rfl) (by kernel_rfl) rfl ?_
    rintro ⟨ha, _⟩ w0 S
    have p0 := rdP_ok a
    have p1 := p4_pt (pokP_pok p0)
    have q2 := rtm_ok dN 8 (rdP a) 256 gO gO_okP
    have p2 := p4_pt (pokP_pok q2)
    cases hb : rdB a with
    | true =>
      refine hold_endw mixed okH7a (unroll := true) (f := 100) (sc := [true]) (r := .b (dB (encR (p4 (dF (rtm dN 8 (p4 (dF (rdP a).x) (dF (rdP a).y) (dF (rdP a).z) (dF (rdP a).t)) 256 gO).x) (dF (rtm dN 8 (p4 (dF (rdP a).x) (dF (rdP a).y) (dF (rdP a).z) (dF (rdP a).t)) 256 gO).y) (dF (rtm dN 8 (p4 (dF (rdP a).x) (dF (rdP a).y) (dF (rdP a).z) (dF (rdP a).t)) 256 gO).z) (dF (rtm dN 8 (p4 (dF (rdP a).x) (dF (rdP a).y) (dF (rdP a).z) (dF (rdP a).t)) 256 gO).t))) == [1, 0, 0, 0, 0, 0, 0, 0, 0, 0, 0, 0, 0, 0, 0, 0, 0, 0, 0, 0, 0, 0, 0, 0, 0, 0, 0, 0, 0, 0, 0, 0])) (ob := [rdB a = true, pokP (p4 (dF (rdP a).x) (dF (rdP a).y) (dF (rdP a).z) (dF (rdP a).t)), pokP (p4 (dF (rtm dN 8 (p4 (dF (rdP a).x) (dF (rdP a).y) (dF (rdP a).z) (dF (rdP a).t)) 256 gO).x) (dF (rtm dN 8 (p4 (dF (rdP a).x) (dF (rdP a).y) (dF (rdP a).z) (dF (rdP a).t)) 256 gO).y) (dF (rtm dN 8 (p4 (dF (rdP a).x) (dF (rdP a).y) (dF (rdP a).z) (dF (rdP a).t)) 256 gO).z) (dF (rtm dN 8 (p4 (dF (rdP a).x) (dF (rdP a).y) (dF (rdP a).z) (dF (rdP a).t)) 256 gO).t))]) (sc' := []) (by kernel_rfl) ?_ ?_
      · rw [p1, p2]
        exact ⟨hb, p0, q2, trivial⟩
      · rw [p1, p2]
        have e : smR a = decide (nsm 8 (rdPt a) = pO) := by unfold smR; rw [hb, Bool.true_and]
        show wkR (.b (dB (encR (rtm dN 8 (rdP a) 256 gO)) == [1, 0, 0, 0, 0, 0, 0, 0, 0, 0, 0, 0, 0, 0, 0, 0, 0, 0, 0, 0, 0, 0, 0, 0, 0, 0, 0, 0, 0, 0, 0, 0])) (.b (smR a))
        rw [e, dB_one, dB_inj (encR_lt _) (by decide), smR_ref a hb]
        exact wkR_refl _
    | false =>
      refine hold_endw mixed okH4 (unroll := true) (f := 100) (sc := [false]) (r := (SV.cb false)) (ob := [rdB a = false]) (sc' := []) (by kernel_rfl) ?_ ?_
      · exact ⟨hb, trivial⟩
      · exact (by unfold smR; rw [hb]; rfl : false = smR a)
  · cases h
theorem okH12a {g : List Nat → List Nat} (hg : g = sum64) (hk : HashOk g) : CtrOk Tryz.prog (H12a g) := addC_ok (okH10b hg hk) cRSmallX
theorem dN_ltP : dN < P255 := by decide +kernel
theorem eDN : vF (dF dN) = dN := vd (P_M dN_ltP)
theorem wV_w2 {g : List Nat → List Nat} (hk : HashOk g) (x : List Nat) : wV (g x) = wideV (g x) := by unfold wV; rw [if_pos (by rw [hk.len]; decide)]
theorem vB_wide2 (b : List Nat) : vB (dB (wideV b)) = wideV b := bd (Nat.lt_trans (Nat.mod_lt _ (by decide)) QQ_lt)
theorem cRVer {g : List Nat → List Nat} (hg : g = sum64) (hk : HashOk g) : ∀ args res ob, eVer g args = some (res, ob) → All ob → Contract Tryz.prog 30 args res := by
  intro args res ob h hob
  unfold eVer at h
  split at h
  · rename_i p m s
    cases h
    refine contract Tryz.func30 (body := bodyOf Tryz.f30) rfl (by kernel_rfl) (by kernel_rfl) rfl ?_
    rintro ⟨hp2, hm2, hs2, _⟩ w0 S
    have hm := hob.1
    by_cases hp : p.length = 32
    · by_cases hs : s.length = 64
      · have hS : List.take 32 (List.drop 32 (List.take s.length s)) = List.drop 32 s := by
          rw [List.take_length, List.take_of_length_le (by rw [List.length_drop]; omega)]
        have hx : (List.drop 32 s).length = 32 := by rw [List.length_drop]; omega
        have lS : vB (List.drop 32 s) < M256 := vB_lt ⟨hx, fun x h => hs2.2 x (List.mem_of_mem_drop h)⟩
        have lP := maskL_lt (u := p) ⟨hp, hp2.2⟩
        have lB : dY baseL < M256 := maskL_lt ⟨rfl, by decide⟩
        have o1 : (p.length != 32) = false := by rw [hp]; rfl
        have o2 : (s.length != 64) = false := by rw [hs]; rfl
        have o3 : 32 ≤ (List.drop 32 (List.take s.length s)).length := by rw [List.take_length]; omega
        have tp : List.take 32 p = p := take32 hp
        cases hb : rdB p with
        | true =>
          cases hsm : smR p with
          | false =>
            by_cases hq : vB (List.drop 32 s) < QQ
            · refine hold_endw mixed (okH12a hg hk) (unroll := true) (f := 400) (sc := [false, false, false, false, false]) (r := (SV.b (dB (encR (rp (radd (vF (dF dN)) (rp (rtm dN (vB (List.take 32 (List.drop (Ix.c (Int.toNat (32 : Int))).n (List.take s.length s)))) (rp (rdP baseL)) 256 gO)) (rp (rtm dN (vB (dB (wV (g (List.drop 0 (List.take (Ix.c (Int.toNat (32 : Int))).n s) ++ p ++ m))))) (rp (rneg (rp (rdP (List.take 32 p))))) 256 gO))))) == List.drop 0 (List.take 32 s)))) (ob := [(p.length != 32) = false, (s.length != 64) = false, 32 ≤ p.length, smR (List.take 32 p) = false, 32 ≤ p.length, 32 ≤ s.length, s.length ≤ s.length, 32 ≤ (List.drop 32 (List.take s.length s)).length, (!rdB (List.take 32 p)) = false, (!Decidable.decide (vF (dF (vB (List.take 32 (List.drop 32 (List.take s.length s))))) < 7237005577332262213973186563042994240857116359379907606001950938285454250989)) = false, 0 ≤ 32, 32 ≤ s.length, slenD (SV.sl .u8 (List.drop 0 (List.take 32 s))) * 1 ≤ 140737488355328, slenD (SV.sl .u8 (List.drop 0 (List.take 32 s) ++ p)) * 1 ≤ 140737488355328, slenD (SV.sl .u8 (List.drop 0 (List.take 32 s) ++ p ++ m)) * 1 ≤ 140737488355328, (List.drop 0 (List.take 32 s) ++ p ++ m).length ≤ 1000000, pokP (rp (rdP baseL)), pokP (rp (rdP (List.take 32 p))), pokP (rp (rneg (rp (rdP (List.take 32 p))))), pokP (rp (rtm dN (vB (List.take 32 (List.drop (Ix.c (Int.toNat (32 : Int))).n (List.take s.length s)))) (rp (rdP baseL)) 256 gO)), pokP (rp (rtm dN (vB (dB (wV (g (List.drop 0 (List.take (Ix.c (Int.toNat (32 : Int))).n s) ++ p ++ m))))) (rp (rneg (rp (rdP (List.take 32 p))))) 256 gO)), 37095705934669439343138083508754565189542113879843219016388785533085940283555 < P255, pokP (rp (radd (vF (dF dN)) (rp (rtm dN (vB (List.take 32 (List.drop (Ix.c (Int.toNat (32 : Int))).n (List.take s.length s)))) (rp (rdP baseL)) 256 gO)) (rp (rtm dN (vB (dB (wV (g (List.drop 0 (List.take (Ix.c (Int.toNat (32 : Int))).n s) ++ p ++ m))))) (rp (rneg (rp (rdP (List.take 32 p))))) 256 gO)))), 0 ≤ 32, 32 ≤ s.length]) (sc' := []) (by kernel_rfl) ?_ ?_
              · try simp only [rp]
                have a0 := rdP_ok p
                have b0 := rdP_ok baseL
                have t0 := rtm_ok dN (vB (List.drop 32 s)) (rdP baseL) 256 gO gO_okP
                have n0 := rneg_ok a0
                have u0 := rtm_ok dN (wideV (g (List.take 32 s ++ p ++ m))) (rneg (rdP p)) 256 gO gO_okP
                have l3 : (List.take 32 s).length = 32 := by rw [List.length_take]; omega
                have ix : (Ix.c (Int.toNat 32)).n = 32 := rfl
                rw [ix, hS, tp, List.drop_zero, wV_w2 hk, vB_wide2, eDN, p4_pt (pokP_pok a0), p4_pt (pokP_pok b0), p4_pt (pokP_pok n0), p4_pt (pokP_pok t0), p4_pt (pokP_pok u0), p4_pt (pokP_pok (radd_ok dN _ _)), vd lS, hb, hsm, QQ_lit']
                exact ⟨o1, o2, by omega, rfl, by omega, by omega, Nat.le_refl _, o3, rfl, by rw [decide_eq_true hq]; rfl, by omega, by omega, by show (List.take 32 s).length * 1 ≤ _; omega,
                  by show (List.take 32 s ++ p).length * 1 ≤ _; rw [List.length_append]; omega, by show (List.take 32 s ++ p ++ m).length * 1 ≤ _; rw [List.length_append, List.length_append]; omega,
                  by rw [List.length_append, List.length_append]; omega, by first | exact b0 | exact a0, by first | exact a0 | exact b0, by repeat' first | exact True.intro | exact a0 | exact b0 | exact n0 | exact t0 | exact u0 | exact radd_ok _ _ _ | exact dN_ltP | omega | refine ⟨?_, ?_⟩⟩
              · try simp only [rp]
                have a0 := rdP_ok p
                have b0 := rdP_ok baseL
                have t0 := rtm_ok dN (vB (List.drop 32 s)) (rdP baseL) 256 gO gO_okP
                have n0 := rneg_ok a0
                have u0 := rtm_ok dN (wideV (g (List.take 32 s ++ p ++ m))) (rneg (rdP p)) 256 gO gO_okP
                have ix : (Ix.c (Int.toNat 32)).n = 32 := rfl
                rw [ix, hS, tp, List.drop_zero, wV_w2 hk, vB_wide2, eDN, p4_pt (pokP_pok a0), p4_pt (pokP_pok b0), p4_pt (pokP_pok n0), p4_pt (pokP_pok t0), p4_pt (pokP_pok u0), p4_pt (pokP_pok (radd_ok dN _ _))]
                have ew : verW g p m s = verQ g p m s := by unfold verW; simp [hp, hs, hb, hsm, hq]
                rw [ew]
                exact wkR_refl _
            · refine hold_endw mixed (okH12a hg hk) (unroll := true) (f := 400) (sc := [false, false, false, false, true]) (r := (SV.cb false)) (ob := [(p.length != 32) = false, (s.length != 64) = false, 32 ≤ p.length, smR (List.take 32 p) = false, 32 ≤ p.length, 32 ≤ s.length, s.length ≤ s.length, 32 ≤ (List.drop 32 (List.take s.length s)).length, (!rdB (List.take 32 p)) = false, (!Decidable.decide (vF (dF (vB (List.take 32 (List.drop 32 (List.take s.length s))))) < 7237005577332262213973186563042994240857116359379907606001950938285454250989)) = true]) (sc' := []) (by kernel_rfl) ?_ ?_
              · rw [hS, tp, hb, hsm, vd lS, QQ_lit']; exact ⟨o1, o2, by omega, rfl, by omega, by omega, Nat.le_refl _, o3, rfl, by rw [decide_eq_false hq]; rfl, trivial⟩
              · exact (by unfold verW; simp [hp, hs, hb, hsm, hq] : false = verW g p m s)
          | true =>
            refine hold_endw mixed (okH12a hg hk) (unroll := true) (f := 400) (sc := [false, false, true]) (r := (SV.cb false)) (ob := [(p.length != 32) = false, (s.length != 64) = false, 32 ≤ p.length, smR (List.take 32 p) = true]) (sc' := []) (by kernel_rfl) ?_ ?_
            · rw [tp, hsm]; exact ⟨o1, o2, by omega, rfl, trivial⟩
            · exact (by unfold verW; simp [hp, hs, hb, hsm] : false = verW g p m s)
        | false =>
          have hsm : smR p = false := by unfold smR; rw [hb]; rfl
          refine hold_endw mixed (okH12a hg hk) (unroll := true) (f := 400) (sc := [false, false, false, true]) (r := (SV.cb false)) (ob := [(p.length != 32) = false, (s.length != 64) = false, 32 ≤ p.length, smR (List.take 32 p) = false, 32 ≤ p.length, 32 ≤ s.length, s.length ≤ s.length, 32 ≤ (List.drop 32 (List.take s.length s)).length, (!rdB (List.take 32 p)) = true]) (sc' := []) (by kernel_rfl) ?_ ?_
          · rw [tp, hb, hsm]; exact ⟨o1, o2, by omega, rfl, by omega, by omega, Nat.le_refl _, o3, rfl, trivial⟩
          · exact (by unfold verW; simp [hp, hs, hb] : false = verW g p m s)
      · refine hold_endw mixed (okH12a hg hk) (unroll := true) (f := 400) (sc := [false, true]) (r := (SV.cb false)) (ob := [(p.length != 32) = false, (s.length != 64) = true]) (sc' := []) (by kernel_rfl) ?_ ?_
        · exact ⟨by rw [hp]; rfl, bne_iff_ne.mpr hs, trivial⟩
        · exact (by unfold verW; simp [hp, hs] : false = verW g p m s)
    · refine hold_endw mixed (okH12a hg hk) (unroll := true) (f := 400) (sc := [true]) (r := (SV.cb false)) (ob := [(p.length != 32) = true]) (sc' := []) (by kernel_rfl) ?_ ?_
      · exact ⟨bne_iff_ne.mpr hp, trivial⟩
      · exact (by unfold verW; simp [hp] : false = verW g p m s)
  · cases h
end Go.Eng.G

namespace Go.Eng.B
open Go Go.Eng Go.Proofs
def fiV (l : List Int) (n : Int) : Nat := l.findIdx fun x => n == x
def ixV (l : List Int) (n : Int) : Int := if fiV l n < l.length then (fiV l n : Int) else -1
def hasV (l : List Int) (n : Int) : Bool := decide (fiV l n < l.length)
def badAt (l : List Int) (i : Nat) : Bool := decide (l.getD i 0 < 0) || hasV (l.take i) (l.getD i 0)
def soundV (l : List Int) : Bool := decide (1 ≤ l.length) && decide (l.length ≤ 8) && (List.range l.length).all fun i => !badAt l i
theorem has_eq {l : List Int} {n : Int} : hasV l n = l.any fun x => n == x := by unfold hasV fiV; rw [any_fi]
theorem sound_bad {l : List Int} {i : Nat} (hi : i < l.length) (h : badAt l i = true) : soundV l = false := by
  unfold soundV
  rw [Bool.and_eq_false_iff]
  right
  rw [Bool.eq_false_iff]
  intro hall
  have := List.all_eq_true.1 hall i (by simpa using hi)
  rw [h] at this
  cases this
theorem sound_all {l : List Int} {i : Nat} (hi : ¬ i < l.length) (h : ∀ j, j < i → badAt l j = false) : soundV l = (decide (1 ≤ l.length) && decide (l.length ≤ 8)) := by
  unfold soundV
  rw [show ((List.range l.length).all fun i => !badAt l i) = true from List.all_eq_true.2 fun j hj => by rw [h j (by simp at hj; omega)]; rfl, Bool.and_true]
def nat2? (x : SV) : Option (List Int) :=
  match x with
  | .sli l => some l
  | .sl _ [] => some []
  | _ => none
theorem nat2_wk {x : SV} {l : List Int} (h : nat2? x = some l) : wk x (.sli l) := by
  unfold nat2? at h
  split at h
  · cases h; exact wk_refl _
  · cases h; simp [wk, wk0]
  · cases h
def eLN (g : List Int → Int → SV) (args : List SV) : Option (SV × List Prop) :=
  match args with
  | [x, y] => match nat2? x, y.int? with
    | some l, some (.i64, n) => some (g l n, [])
    | _, _ => none
  | _ => none
def eL (g : List Int → SV) (args : List SV) : Option (SV × List Prop) :=
  match args with
  | [x] => match nat2? x with
    | some l => some (g l, [])
    | none => none
  | _ => none
def eLL (g : List Int → List Int → SV) (args : List SV) : Option (SV × List Prop) :=
  match args with
  | [x, y] => match nat2? x, nat2? y with
    | some l, some m => some (g l m, [])
    | _, _ => none
  | _ => none
def eN (g : Int → SV) (args : List SV) : Option (SV × List Prop) :=
  match args with
  | [x] => match x.int? with
    | some (.i64, n) => some (g n, [])
    | _ => none
  | _ => none
theorem eLN_ok {P : Program} {f : FuncId} {g : List Int → Int → SV} (h : ∀ l n, Contract P f [.sli l, .i .i64 n] (g l n)) : ∀ args res ob, eLN g args = some (res, ob) → All ob → Contract P f args res := by
  intro args res ob h0 _
  unfold eLN at h0
  split at h0
  · split at h0
    · rename_i hx hy; cases h0; exact Contract.args (args' := [.sli _, .i .i64 _]) ⟨nat2_wk hx, int?_wk hy, rfl⟩ (h _ _)
    · cases h0
  · cases h0
theorem eL_ok {P : Program} {f : FuncId} {g : List Int → SV} (h : ∀ l, Contract P f [.sli l] (g l)) : ∀ args res ob, eL g args = some (res, ob) → All ob → Contract P f args res := by
  intro args res ob h0 _
  unfold eL at h0
  split at h0
  · split at h0
    · rename_i hx; cases h0; exact Contract.args (args' := [.sli _]) ⟨nat2_wk hx, rfl⟩ (h _)
    · cases h0
  · cases h0
theorem eLL_ok {P : Program} {f : FuncId} {g : List Int → List Int → SV} (h : ∀ l m, Contract P f [.sli l, .sli m] (g l m)) : ∀ args res ob, eLL g args = some (res, ob) → All ob → Contract P f args res := by
  intro args res ob h0 _
  unfold eLL at h0
  split at h0
  · split at h0
    · rename_i hx hy; cases h0; exact Contract.args (args' := [.sli _, .sli _]) ⟨nat2_wk hx, nat2_wk hy, rfl⟩ (h _ _)
    · cases h0
  · cases h0
theorem eN_ok {P : Program} {f : FuncId} {g : Int → SV} (h : ∀ n, Contract P f [.i .i64 n] (g n)) : ∀ args res ob, eN g args = some (res, ob) → All ob → Contract P f args res := by
  intro args res ob h0 _
  unfold eN at h0
  split at h0
  · split at h0
    · rename_i hx; cases h0; exact Contract.args (args' := [.i .i64 _]) ⟨int?_wk hx, rfl⟩ (h _)
    · cases h0
  · cases h0
def pO (th : List Int) (x : Int) : Bool := th.length == 0 || hasV th x
def badO (own th : List Int) : Bool := !soundV own || (decide (0 < th.length) && !soundV th)
def offL (own th : List Int) : List Int := if badO own th = true then [] else if own.findIdx (pO th) < own.length then own.take (own.findIdx (pO th) + 1) else []
def offE (own th : List Int) : Int := if badO own th = true then 1 else if own.findIdx (pO th) < own.length then 0 else 18
def okS (list own : List Int) : Bool := decide ((list.take (list.length - 1)).findIdx (hasV own) = list.length - 1) && hasV own (list.getD (list.length - 1) 0)
def selV (list own : List Int) : Int := if soundV list = true ∧ soundV own = true ∧ okS list own = true then list.getD (list.length - 1) 0 else 0
def selE (list own : List Int) : Int := if soundV list = false then 4 else if soundV own = false then 1 else if okS list own = true then 0 else 18
theorem sound_len {l : List Int} (h : soundV l = true) : 1 ≤ l.length ∧ l.length ≤ 8 := by
  unfold soundV at h
  simp only [Bool.and_eq_true, decide_eq_true_eq] at h
  exact h.1
end Go.Eng.B

namespace Go.Eng.B
open Go Go.Eng Go.Proofs
set_option maxRecDepth 100000
section
variable {w0 : World} {S : Own} {res : SV}
def sIx (l : List Int) (n : Int) (i : Nat) : St := ⟨19, [(0, .sli l), (1, .i .i64 n), (7, .u .i64 l.length), (8, .u .i64 i)], [], 0, 0⟩
theorem ix_in (l : List Int) (n : Int) (hl : l.length < 9223372036854775808) (hr : res = .i .i64 (ixV l n)) : ∀ d i, l.length - i = d → i ≤ l.length → i ≤ fiV l n →
    Hold Tryz.prog (bodyOf Tryz.f132) (Fin Tryz.prog Tryz.f132 w0 S res) w0 S [.lp [0, 1, 0, 1], .blk 0, .at [1, 1]] (sIx l n i) := by
  intro d
  induction d using Nat.strongRecOn with
  | _ d ih =>
  intro i hd hi hf
  refine hold_unroll (c := _) rfl ?_
  rcases Bool.eq_false_or_eq_true (Decidable.decide (i < l.length)) with hc0 | hc0
  · have hd0 := of_decide_eq_true hc0
    rcases Bool.eq_false_or_eq_true (n == l.getD i (0 : Int)) with hc1 | hc1
    · have hd1 := eq_of_beq hc1
      refine hold_endw mixed okC1a (unroll := false) (f := 100) (sc := [true, true]) (r := (SV.u .i64 i)) (ob := [Decidable.decide (i < l.length) = true, i < l.length, (n == l.getD i (0 : Int)) = true]) (sc' := []) (by kernel_rfl) ?_ ?_
      · exact ⟨hc0, (by first | omega | assumption), hc1, trivial⟩
      · subst hr
        first | (have e := fi_end (l := l) hf (by omega); have e1 : fiV l n = l.length := e; simp [wkR, wk, wk0, wka, ixV, e1]; done) | (have e : fiV l n = i := fi_hit hf (by omega) (by assumption); simp [wkR, wk, wk0, wka, ixV, e]; omega)
    · have hd1 := ne_of_beq_false hc1
      refine hold_cut mixed okC1a (unroll := false) (f := 100) (sc := [true, false]) (ks := [0,1,7,8]) (bs := []) (nx := 0) (st' := [It.lp [0, 1, 0, 1], It.blk 0, It.at [1, 1]]) (σ' := { nt := 19, slots := [(0, SV.sli l), (1, SV.i .i64 n), (7, SV.u .i64 l.length), (8, SV.u .i64 (i + 1))], blks := [], next := 0 }) (ob := [Decidable.decide (i < l.length) = true, i < l.length, (n == l.getD i (0 : Int)) = false, i + 1 < 9223372036854775808]) (sc' := []) (by kernel_rfl) ?_ ?_
      · exact ⟨hc0, (by first | omega | assumption), hc1, (by first | omega | assumption), trivial⟩
      · exact ih (l.length - (i + 1)) (by omega) (i + 1) rfl (by omega) (fi_miss hf (by omega) (by assumption))
  · have hd0 := of_decide_eq_false hc0
    refine hold_endw mixed okC1a (unroll := false) (f := 100) (sc := [false]) (r := (SV.c .i64 (-1 : Int))) (ob := [Decidable.decide (i < l.length) = false]) (sc' := []) (by kernel_rfl) ?_ ?_
    · exact ⟨hc0, trivial⟩
    · subst hr
      first | (have e := fi_end (l := l) hf (by omega); have e1 : fiV l n = l.length := e; simp [wkR, wk, wk0, wka, ixV, e1]; done) | (have e : fiV l n = i := fi_hit hf (by omega) (by assumption); simp [wkR, wk, wk0, wka, ixV, e]; omega)
theorem cIx (l : List Int) (n : Int) : Contract Tryz.prog 132 [.sli l, .i .i64 n] (.i .i64 (ixV l n)) := by
  refine contract Tryz.func132 (body := bodyOf Tryz.f132) rfl (by kernel_rfl) (by kernel_rfl) rfl ?_
  rintro ⟨hl, _⟩ w0 S
  refine hold_cut mixed okC1a (unroll := false) (f := 100) (sc := []) (ks := [0,1,7,8]) (bs := []) (nx := 0) (st' := [It.lp [0, 1, 0, 1], It.blk 0, It.at [1, 1]]) (σ' := { nt := 19, slots := [(0, SV.sli l), (1, SV.i .i64 n), (7, SV.u .i64 l.length), (8, SV.c .i64 (0 : Int))], blks := [], next := 0 }) (ob := []) (sc' := []) (by kernel_rfl) trivial ?_
  exact Hold.weaken (ix_in l n hl.1 rfl _ 0 rfl (Nat.zero_le _) (Nat.zero_le _)) (by simp [wks, wk, wk0, wka, lim])
end
end Go.Eng.B

namespace Go.Eng.B
open Go Go.Eng Go.Proofs
set_option maxRecDepth 100000
def L2a : Ctr := addC 132 (eLN fun l n => .i .i64 (ixV l n)) C1a
theorem okL2a : CtrOk Tryz.prog L2a := addC_ok okC1a (eLN_ok cIx)
section
variable {w0 : World} {S : Own} {res : SV}
theorem cContains (l : List Int) (n : Int) : Contract Tryz.prog 115 [.sli l, .i .i64 n] (.b (hasV l n)) := by
  refine contract Tryz.func115 (body := bodyOf Tryz.f115) rfl (by kernel_rfl) (by kernel_rfl) rfl ?_
  rintro ⟨hl, _⟩ w0 S
  refine hold_endw mixed okL2a (unroll := true) (f := 100) (sc := []) (r := (SV.b (Decidable.decide ((0 : Int) ≤ ixV l n)))) (ob := []) (sc' := []) (by kernel_rfl) trivial (wkR_of ?_)
  congr 1
  unfold ixV hasV
  split <;> simp_all
theorem cClone (l : List Int) (h0 : 0 < l.length) (h1 : l.length ≤ 1000) : Contract Tryz.prog 116 [.sli l] (.sli l) := by
  refine contract Tryz.func116 (body := bodyOf Tryz.f116) rfl (by kernel_rfl) (by kernel_rfl) rfl ?_
  rintro ⟨hl, _⟩ w0 S
  refine hold_endw mixed okL2a (unroll := true) (f := 100) (sc := []) (r := (SV.sli l)) (ob := [0 < l.length, slenD (SV.sli l) * 8 ≤ 140737488355328, 0 < slenD (SV.sli l)]) (sc' := []) (by kernel_rfl) ?_ (wkR_of ?_)
  · simp [All, slenD, SV.slen]; omega
  · rfl
def eClone (args : List SV) : Option (SV × List Prop) :=
  match args with
  | [.sli l] => some (.sli l, [0 < l.length, l.length ≤ 1000])
  | _ => none
def L2b : Ctr := addC 116 eClone (addC 115 (eLN fun l n => .b (hasV l n)) L2a)
theorem cClone' : ∀ args res ob, eClone args = some (res, ob) → All ob → Contract Tryz.prog 116 args res := by
  intro args res ob h hob
  unfold eClone at h
  split at h
  · cases h; exact cClone _ hob.1 hob.2.1
  · cases h
theorem okL2b : CtrOk Tryz.prog L2b := addC_ok (addC_ok okL2a (eLN_ok cContains)) cClone'
def sSo (l : List Int) (i : Nat) : St := ⟨30, [(0, .sli l), (5, .sli l), (6, .u .i64 l.length), (7, .u .i64 i)], [], 0, 0⟩
theorem so_in (l : List Int) (hl : l.length < 9223372036854775808) (hr : res = .b (soundV l)) : ∀ d i, l.length - i = d → i ≤ l.length → (∀ j, j < i → badAt l j = false) →
    Hold Tryz.prog (bodyOf Tryz.f114) (Fin Tryz.prog Tryz.f114 w0 S res) w0 S [.lp [0, 1, 0, 1], .blk 0, .at [1, 1]] (sSo l i) := by
  intro d
  induction d using Nat.strongRecOn with
  | _ d ih =>
  intro i hd hi hf
  have bad : badAt l i = true → i < l.length → soundV l = false := fun h h2 => sound_bad h2 h
  have hstep : badAt l i = false → ∀ j, j < i + 1 → badAt l j = false := fun h j hj => by
    rcases Nat.lt_or_ge j i with h1 | h1
    · exact hf j h1
    · rw [show j = i by omega]; exact h
  refine hold_unroll (c := _) rfl ?_
  rcases Bool.eq_false_or_eq_true (Decidable.decide (i < l.length)) with hc0 | hc0
  · have hd0 := of_decide_eq_true hc0
    rcases Bool.eq_false_or_eq_true (Decidable.decide (l.getD i (0 : Int) < (0 : Int))) with hc1 | hc1
    · have hd1 := of_decide_eq_true hc1
      refine hold_endw mixed okL2b (unroll := false) (f := 100) (sc := [true, true]) (r := (SV.cb false)) (ob := [Decidable.decide (i < l.length) = true, i < l.length, Decidable.decide (l.getD i (0 : Int) < (0 : Int)) = true]) (sc' := []) (by kernel_rfl) ?_ ?_
      · exact ⟨hc0, (by first | omega | assumption), hc1, trivial⟩
      · subst hr
        first | (rw [bad (by simp_all [badAt]) (by omega)]; simp [wkR, wk, wk0, wka]; done) | (rw [sound_all (by omega) hf]; simp_all [wkR, wk, wk0, wka]; done)
    · have hd1 := of_decide_eq_false hc1
      rcases Bool.eq_false_or_eq_true (Go.Eng.B.hasV (List.drop (0 : Nat) (List.take i l)) (l.getD i (0 : Int))) with hc2 | hc2
      · refine hold_endw mixed okL2b (unroll := false) (f := 100) (sc := [true, false, true]) (r := (SV.cb false)) (ob := [Decidable.decide (i < l.length) = true, i < l.length, Decidable.decide (l.getD i (0 : Int) < (0 : Int)) = false, 0 ≤ i, i ≤ l.length, hasV (List.drop 0 (List.take i l)) (l.getD i (0 : Int)) = true]) (sc' := []) (by kernel_rfl) ?_ ?_
        · exact ⟨hc0, (by first | omega | assumption), hc1, (by first | omega | assumption), (by first | omega | assumption), hc2, trivial⟩
        · subst hr
          first | (rw [bad (by simp_all [badAt]) (by omega)]; simp [wkR, wk, wk0, wka]; done) | (rw [sound_all (by omega) hf]; simp_all [wkR, wk, wk0, wka]; done)
      · refine hold_cut mixed okL2b (unroll := false) (f := 100) (sc := [true, false, false]) (ks := [0,5,6,7]) (bs := []) (nx := 0) (st' := [It.lp [0, 1, 0, 1], It.blk 0, It.at [1, 1]]) (σ' := { nt := 30, slots := [(0, SV.sli l), (5, SV.sli l), (6, SV.u .i64 l.length), (7, SV.u .i64 (i + 1))], blks := [], next := 0 }) (ob := [Decidable.decide (i < l.length) = true, i < l.length, Decidable.decide (l.getD i (0 : Int) < (0 : Int)) = false, 0 ≤ i, i ≤ l.length, hasV (List.drop 0 (List.take i l)) (l.getD i (0 : Int)) = false, i + 1 < 9223372036854775808]) (sc' := []) (by kernel_rfl) ?_ ?_
        · exact ⟨hc0, (by first | omega | assumption), hc1, (by first | omega | assumption), (by first | omega | assumption), hc2, (by first | omega | assumption), trivial⟩
        · exact ih (l.length - (i + 1)) (by omega) (i + 1) rfl (by omega) (hstep (by simp_all [badAt]))
  · have hd0 := of_decide_eq_false hc0
    rcases Bool.eq_false_or_eq_true (Decidable.decide ((1 : Nat) ≤ l.length)) with hc1 | hc1
    · have hd1 := of_decide_eq_true hc1
      refine hold_endw mixed okL2b (unroll := false) (f := 100) (sc := [false, true]) (r := (SV.b (Decidable.decide (l.length ≤ 8)))) (ob := [Decidable.decide (i < l.length) = false, Decidable.decide (1 ≤ l.length) = true]) (sc' := []) (by kernel_rfl) ?_ ?_
      · exact ⟨hc0, hc1, trivial⟩
      · subst hr
        first | (rw [bad (by simp_all [badAt]) (by omega)]; simp [wkR, wk, wk0, wka]; done) | (rw [sound_all (by omega) hf]; simp_all [wkR, wk, wk0, wka]; done)
    · have hd1 := of_decide_eq_false hc1
      refine hold_endw mixed okL2b (unroll := false) (f := 100) (sc := [false, false]) (r := (SV.cb false)) (ob := [Decidable.decide (i < l.length) = false, Decidable.decide (1 ≤ l.length) = false]) (sc' := []) (by kernel_rfl) ?_ ?_
      · exact ⟨hc0, hc1, trivial⟩
      · subst hr
        first | (rw [bad (by simp_all [badAt]) (by omega)]; simp [wkR, wk, wk0, wka]; done) | (rw [sound_all (by omega) hf]; simp_all [wkR, wk, wk0, wka]; done)
theorem cSound (l : List Int) : Contract Tryz.prog 114 [.sli l] (.b (soundV l)) := by
  refine contract Tryz.func114 (body := bodyOf Tryz.f114) rfl (by kernel_rfl) (by kernel_rfl) rfl ?_
  rintro ⟨hl, _⟩ w0 S
  refine hold_cut mixed okL2b (unroll := false) (f := 100) (sc := []) (ks := [0,5,6,7]) (bs := []) (nx := 0) (st' := [It.lp [0, 1, 0, 1], It.blk 0, It.at [1, 1]]) (σ' := { nt := 30, slots := [(0, SV.sli l), (5, SV.sli l), (6, SV.u .i64 l.length), (7, SV.c .i64 (0 : Int))], blks := [], next := 0 }) (ob := []) (sc' := []) (by kernel_rfl) trivial ?_
  exact Hold.weaken (so_in l hl.1 rfl _ 0 rfl (Nat.zero_le _) (fun j hj => absurd hj (Nat.not_lt_zero j))) (by simp [wks, wk, wk0, wka, lim])
def L2 : Ctr := addC 114 (eL fun l => .b (soundV l)) L2b
theorem okL2 : CtrOk Tryz.prog L2 := addC_ok okL2b (eL_ok cSound)
end
end Go.Eng.B

