import Derived.Test.YtjefhfgkeeggoaaGreatE14
set_option linter.unusedVariables false
set_option linter.unusedSimpArgs false
set_option linter.unusedSectionVars false
namespace Go.Eng.G
open Go Go.Eng Go.Proofs Go.Eng.B
set_option maxRecDepth 100000
set_option maxHeartbeats 1000000
def secL (h : List Nat) : List Nat := clampL (h.take 32)
def bmV (k : Nat) : Nat := encR (rtm dN k (rdP baseL) 256 gO)
def pubW (g : List Nat → List Nat) (s : List Nat) : List Nat := dB (bmV (vB (secL (g s))))
def sgR (g : List Nat → List Nat) (s m : List Nat) : Nat := wideV (g ((g s).drop 32 ++ m))
def sgF (g : List Nat → List Nat) (s m : List Nat) : List Nat := dB (bmV (sgR g s m))
def sgK (g : List Nat → List Nat) (s m : List Nat) : Nat := wideV (g (sgF g s m ++ pubW g s ++ m))
def sgS (g : List Nat → List Nat) (s m : List Nat) : Nat := maV (sgK g s m) (vB (secL (g s))) (sgR g s m)
def sigW (g : List Nat → List Nat) (s m : List Nat) : List Nat := sgF g s m ++ dB (sgS g s m)
def pbI (g : List Nat → List Nat) (s : List Nat) : List Nat := if s.length = 32 then pubW g s else []
def erI (s : List Nat) : Int := if s.length = 32 then 0 else 1
def sgI (g : List Nat → List Nat) (s m : List Nat) : List Nat := if s.length = 32 then sigW g s m else []
def eS512 (g : List Nat → List Nat) (args : List SV) : Option (SV × List Prop) := match args with
  | [.sl .u8 b] => some (.sl .u8 (g b), [b.length ≤ 1000000])
  | _ => none
def eSec (g : List Nat → List Nat) (args : List SV) : Option (SV × List Prop) := match args with
  | [.sl .u8 s] => some (.tup [fe (vB (secL (g s))), .sl .u8 ((g s).drop 32)], [s.length ≤ 1000000])
  | _ => none
def eMulti (args : List SV) : Option (SV × List Prop) := match args with
  | [.ag [.arr .u64 4 d, .arr .u64 4 w], .arr .u64 4 k] => some (fld (bmV (vF k)), [vF d = DP, vF w = W2])
  | _ => none
def eNum (g : List Nat → List Nat) (args : List SV) : Option (SV × List Prop) := match args with
  | [.slv 1 [x, y]] => match part? x, part? y with
    | some a, some b => some (fe (wideV (g (a ++ b))), [a.length + b.length ≤ 1000000])
    | _, _ => none
  | [.slv 1 [x, y, z]] => match part? x, part? y, part? z with
    | some a, some b, some c => some (fe (wideV (g (a ++ b ++ c))), [a.length + b.length + c.length ≤ 1000000])
    | _, _, _ => none
  | _ => none
def ePubX (g : List Nat → List Nat) (args : List SV) : Option (SV × List Prop) := match args with
  | [.sl .u8 s] => some (.tup [.sl .u8 (pbI g s), .i .i64 (erI s)], [])
  | _ => none
def eSgnX (g : List Nat → List Nat) (args : List SV) : Option (SV × List Prop) := match args with
  | [.sl .u8 s, .sl .u8 m] => some (.tup [.sl .u8 (sgI g s m), .i .i64 (erI s)], [m.length ≤ 900000])
  | _ => none
def H9a (g : List Nat → List Nat) : Ctr := addC 101 eJoinB (addC 99 (eS512 g) G.H4)
def H9b (g : List Nat → List Nat) : Ctr := addC 53 eMulti (addC 52 (eSec g) (H9a g))
def H9c (g : List Nat → List Nat) : Ctr := addC 56 (eNum g) (H9b g)
def H9 (g : List Nat → List Nat) : Ctr := addC 18 (eSgnX g) (addC 16 (ePubX g) (H9c g))
theorem pbI_p {g : List Nat → List Nat} {s : List Nat} (hl : s.length = 32) : pbI g s = pubW g s := if_pos hl
theorem pbI_n {g : List Nat → List Nat} {s : List Nat} (hl : ¬ s.length = 32) : pbI g s = [] := if_neg hl
theorem erI_p {s : List Nat} (hl : s.length = 32) : erI s = 0 := if_pos hl
theorem erI_n {s : List Nat} (hl : ¬ s.length = 32) : erI s = 1 := if_neg hl
theorem sgI_p {g : List Nat → List Nat} {s m : List Nat} (hl : s.length = 32) : sgI g s m = sigW g s m := if_pos hl
theorem sgI_n {g : List Nat → List Nat} {s m : List Nat} (hl : ¬ s.length = 32) : sgI g s m = [] := if_neg hl
theorem beL_lt {x : Nat} {m : List Nat} (h : ∀ y ∈ m, y < 256) : ∀ y ∈ beL x m, y < 256 := by
  intro y hy
  simp only [beL, List.mem_append, List.mem_singleton] at hy
  rcases hy with (((((((hy | hy) | hy) | hy) | hy) | hy) | hy) | hy) | hy
  · exact h y hy
  all_goals (rw [hy]; exact Nat.mod_lt _ (by decide))
theorem out64_lt (h : List Nat) : ∀ i, ∀ y ∈ out64 h i, y < 256 := by
  intro i
  induction i with
  | zero => intro y hy; cases hy
  | succ i ih => exact beL_lt ih
theorem sum64_len (b : List Nat) : (sum64 b).length = 64 := out64_len _ 8
theorem sum64_lt (b : List Nat) : ∀ y ∈ sum64 b, y < 256 := out64_lt _ 8
structure HashOk (g : List Nat → List Nat) : Prop where
  len : ∀ b, (g b).length = 64
  lt : ∀ b, ∀ y ∈ g b, y < 256
theorem sum64_ok : HashOk sum64 := ⟨sum64_len, sum64_lt⟩
theorem cS512 {g : List Nat → List Nat} (hg : g = sum64) : ∀ args res ob, eS512 g args = some (res, ob) → All ob → Contract Tryz.prog 99 args res := by
  intro args res ob h hob
  unfold eS512 at h
  split at h
  · cases h; rw [hg]; exact sum512_c _ hob.1
  · cases h
theorem okH9a {g : List Nat → List Nat} (hg : g = sum64) : CtrOk Tryz.prog (H9a g) := addC_ok (addC_ok okH4 (cS512 hg)) cJoinB
theorem secL_ok {g : List Nat → List Nat} (hk : HashOk g) (s : List Nat) : (secL (g s)).length = 32 ∧ ∀ x ∈ secL (g s), x < lim .u8 := by
  have h1 : ((g s).take 32).length = 32 := by rw [List.length_take, hk.len]; rfl
  refine ⟨by unfold secL clampL; rw [List.length_set, List.length_set, h1], bits_clamp ⟨h1, fun x hx => hk.lt s x (List.mem_of_mem_take hx)⟩⟩
theorem cSec {g : List Nat → List Nat} (hg : g = sum64) (hk : HashOk g) : ∀ args res ob, eSec g args = some (res, ob) → All ob → Contract Tryz.prog 52 args res := by
  intro args res ob h hob
  unfold eSec at h
  split at h
  · rename_i s
    cases h
    refine contract Tryz.func52 (body := bodyOf Tryz.f52) rfl (by kernel_rfl) (by kernel_rfl) rfl ?_
    rintro _ w0 S
    have h1 := hk.len s
    have h2 : (List.take 32 (g s)).length = 32 := by rw [List.length_take, h1]; rfl
    refine hold_end mixed (okH9a hg) (unroll := true) (f := 100) (sc := []) (r := (SV.tup [SV.arr .u64 4 (dF (vB (((List.take 32 (List.drop 0 (List.take 32 (g s)))).set 0 ((List.take 32 (List.drop 0 (List.take 32 (g s)))).getD 0 0 &&& 248)).set 31 (((List.take 32 (List.drop 0 (List.take 32 (g s)))).set 0 ((List.take 32 (List.drop 0 (List.take 32 (g s)))).getD 0 0 &&& 248)).getD 31 0 &&& 127 ||| 64)))), SV.sl .u8 (List.drop 32 (List.take (g s).length (g s)))])) (ob := [s.length ≤ 1000000, 0 ≤ 32, 32 ≤ (g s).length, 32 ≤ (List.drop 0 (List.take 32 (g s))).length, 32 ≤ (g s).length, (g s).length ≤ (g s).length]) (sc' := []) (by kernel_rfl) ?_ ?_
    · rw [List.drop_zero]
      exact ⟨hob.1, by repeat' first | exact True.intro | omega | (rw [h2]; omega) | refine ⟨?_, ?_⟩⟩
    · rw [List.drop_zero, List.take_of_length_le (show (List.take 32 (g s)).length ≤ 32 by omega), List.take_of_length_le (Nat.le_refl (g s).length)]
      rfl
  · cases h
theorem cMulti {g : List Nat → List Nat} (hg : g = sum64) : ∀ args res ob, eMulti args = some (res, ob) → All ob → Contract Tryz.prog 53 args res := by
  intro args res ob h hob
  unfold eMulti at h
  split at h
  · rename_i d w k
    cases h
    obtain ⟨hd, hw, _⟩ := hob
    refine contract Tryz.func53 (body := bodyOf Tryz.f53) rfl (by kernel_rfl) (by kernel_rfl) rfl ?_
    rintro _ w0 S
    have lY : dY baseL < M256 := maskL_lt ⟨rfl, by decide⟩
    have p0 := decP_ok lY DP
    have p1 := p4_pt p0
    have p2 := p4_pt (gtm_ok W2_lt (vF k) p0 256 gO gO_ok)
    refine hold_end mixed (okH9a hg) (unroll := true) (f := 100) (sc := []) (r := (SV.arr .u8 32 (dB (encV (p4 (dF (gtm (vF w) (vF k) (p4 (dF (decP (vF d) baseL).x) (dF (decP (vF d) baseL).y) (dF (decP (vF d) baseL).z) (dF (decP (vF d) baseL).t)) 256 gO).x) (dF (gtm (vF w) (vF k) (p4 (dF (decP (vF d) baseL).x) (dF (decP (vF d) baseL).y) (dF (decP (vF d) baseL).z) (dF (decP (vF d) baseL).t)) 256 gO).y) (dF (gtm (vF w) (vF k) (p4 (dF (decP (vF d) baseL).x) (dF (decP (vF d) baseL).y) (dF (decP (vF d) baseL).z) (dF (decP (vF d) baseL).t)) 256 gO).z) (dF (gtm (vF w) (vF k) (p4 (dF (decP (vF d) baseL).x) (dF (decP (vF d) baseL).y) (dF (decP (vF d) baseL).z) (dF (decP (vF d) baseL).t)) 256 gO).t)))))) (ob := []) (sc' := []) (by kernel_rfl) trivial ?_
    rw [hd, hw, p1, p2, encV_mod, gtm_mod W2_lt W2_mod _ p0 _ _ gO_ok, decP_mod lY, pm_id gO_okP]
    rfl
  · cases h
theorem okH9b {g : List Nat → List Nat} (hg : g = sum64) (hk : HashOk g) : CtrOk Tryz.prog (H9b g) := addC_ok (addC_ok (okH9a hg) (cSec hg hk)) (cMulti hg)
def stNm : List It := [.lp [0, 1, 0, 1, 1, 1], .blk 0, .at [1, 1, 1, 1]]
def sNm (b L : List Nat) (i : SV) : St := ⟨32, [(2, .ptr 0 0 (.c 0)), (4, .ptr 1 0 (.c 0)), (10, .sl .u8 b), (11, .u .i64 b.length), (12, i)],
  [(0, ⟨59, [.arr .u64 4 [0, 0, 0, 0]], false⟩), (1, ⟨117, [.arr .u64 8 L], false⟩)], 2, 0⟩
section
variable {w0 : World} {S : Own} {res : SV}
theorem num_in {g : List Nat → List Nat} (hg : g = sum64) (hk : HashOk g) (b : List Nat) (hb : ∀ x ∈ b, x < 256) (hlen : b.length = 64) (hR : res = fe (wideV b)) :
    ∀ d i, i + d = b.length → ∀ L, L = dg W64 8 (vl 256 (b.take i)) → Hold Tryz.prog (bodyOf Tryz.f56) (Fin Tryz.prog Tryz.f56 w0 S res) w0 S stNm (sNm b L (.u .i64 i)) := by
  intro d
  induction d with
  | zero =>
    intro i hi L hL
    refine hold_unroll (c := _) rfl ?_
    refine hold_end mixed (okH9b hg hk) (unroll := false) (f := 100) (sc := [false]) (r := (SV.arr .u64 4 (dF (restV L)))) (ob := [Decidable.decide (i < b.length) = false, L.length ≤ 1000]) (sc' := []) (by kernel_rfl) ?_ ?_
    · exact ⟨by simp; omega, by rw [hL, dg_length]; decide, trivial⟩
    · rw [hR]
      have e : restV L = wideV b := by
        unfold restV wideV
        have h8 : vl 256 b < W64 ^ 8 := Nat.lt_of_lt_of_le (vl_lt (b := 256) b hb) (Nat.le_trans (Nat.pow_le_pow_right (by decide) (show b.length ≤ 64 by omega)) (show 256 ^ 64 ≤ W64 ^ 8 by decide))
        rw [hL, vl_dg, List.take_of_length_le (by omega), Nat.mod_eq_of_lt h8]
      rw [e]
      rfl
  | succ d ih =>
    intro i hi L hL
    refine hold_unroll (c := _) rfl ?_
    have hv := vl_take_lt hb i
    have hx : b.getD i 0 < 256 := getD_lt (by decide) hb i
    refine hold_cut mixed (okH9b hg hk) (unroll := false) (f := 100) (sc := [true]) (ks := [2,4,10,11,12]) (bs := [0,1]) (nx := 2) (st' := [It.lp [0, 1, 0, 1, 1, 1], It.blk 0, It.at [1, 1, 1, 1]]) (σ' := { nt := 32, slots := [(2, SV.ptr 0 0 (Ix.c 0)), (4, SV.ptr 1 0 (Ix.c 0)), (10, SV.sl .u8 b), (11, SV.u .i64 b.length), (12, SV.u .i64 (i + 1))], blks := [(0, { ty := 59, segs := [SV.arr .u64 4 [0, 0, 0, 0]] }), (1, { ty := 117, segs := [SV.arr .u64 8 (L.set (i / 8) (L.getD (i / 8) 0 ||| b.getD i 0 * 2 ^ (8 * (i % 8)) % 18446744073709551616))] })], next := 2 }) (ob := [Decidable.decide (i < b.length) = true, i < b.length, i / 8 < 8, i / 8 < 8, 8 * (i % 8) < 9223372036854775808, 8 * (i % 8) < 64, i / 8 < 8, i / 8 < 8, i + 1 < 9223372036854775808]) (sc' := []) (by kernel_rfl) ?_ ?_
    · repeat' (first | exact True.intro | refine And.intro ?_ ?_)
      all_goals first | omega | (simp; omega) | (simp only [lim]; omega)
    · refine ih (i + 1) (by omega) _ ?_
      rw [hL, vl_take _ _ _ (by omega)]
      exact or_dig hv hx (by omega)
theorem num2_c {g : List Nat → List Nat} (hg : g = sum64) (hk : HashOk g) (a b : List Nat) (hl : a.length + b.length ≤ 1000000) : Contract Tryz.prog 56 [.slv 1 [.sl .u8 a, .sl .u8 b]] (fe (wideV (g (a ++ b)))) := by
  refine contract Tryz.func56 (body := bodyOf Tryz.f56) rfl (by kernel_rfl) (by kernel_rfl) rfl ?_
  rintro _ w0 S
  have hl2 : (a ++ b).length ≤ 1000000 := by rw [List.length_append]; exact hl
  refine hold_cut mixed (okH9b hg hk) (unroll := false) (f := 100) (sc := []) (ks := [2,4,10,11,12]) (bs := [0,1]) (nx := 2) (st' := [It.lp [0, 1, 0, 1, 1, 1], It.blk 0, It.at [1, 1, 1, 1]]) (σ' := { nt := 32, slots := [(2, SV.ptr 0 0 (Ix.c 0)), (4, SV.ptr 1 0 (Ix.c 0)), (10, SV.sl .u8 (g (a ++ b))), (11, SV.u .i64 (g (a ++ b)).length), (12, SV.c .i64 (0 : Int))], blks := [(0, { ty := 59, segs := [SV.arr .u64 4 [0, 0, 0, 0]] }), (1, { ty := 117, segs := [SV.arr .u64 8 [0, 0, 0, 0, 0, 0, 0, 0]] })], next := 2 }) (ob := [a.length + b.length ≤ 1000000, (a ++ b).length ≤ 1000000]) (sc' := []) (by kernel_rfl) ⟨hl, hl2, trivial⟩ ?_
  have := num_in (w0 := w0) (S := S) hg hk (g (a ++ b)) (hk.lt _) (hk.len _) rfl (g (a ++ b)).length 0 (by omega) [0, 0, 0, 0, 0, 0, 0, 0] (by rw [List.take_zero]; decide)
  exact Hold.weaken this (by simp [wks, wk, wk0, wka, lim, sNm])
theorem num3_c {g : List Nat → List Nat} (hg : g = sum64) (hk : HashOk g) (a b c : List Nat) (hl : a.length + b.length + c.length ≤ 1000000) : Contract Tryz.prog 56 [.slv 1 [.sl .u8 a, .sl .u8 b, .sl .u8 c]] (fe (wideV (g (a ++ b ++ c)))) := by
  refine contract Tryz.func56 (body := bodyOf Tryz.f56) rfl (by kernel_rfl) (by kernel_rfl) rfl ?_
  rintro _ w0 S
  have hl2 : (a ++ b ++ c).length ≤ 1000000 := by rw [List.length_append, List.length_append]; exact hl
  refine hold_cut mixed (okH9b hg hk) (unroll := false) (f := 100) (sc := []) (ks := [2,4,10,11,12]) (bs := [0,1]) (nx := 2) (st' := [It.lp [0, 1, 0, 1, 1, 1], It.blk 0, It.at [1, 1, 1, 1]]) (σ' := { nt := 32, slots := [(2, SV.ptr 0 0 (Ix.c 0)), (4, SV.ptr 1 0 (Ix.c 0)), (10, SV.sl .u8 (g (a ++ b ++ c))), (11, SV.u .i64 (g (a ++ b ++ c)).length), (12, SV.c .i64 (0 : Int))], blks := [(0, { ty := 59, segs := [SV.arr .u64 4 [0, 0, 0, 0]] }), (1, { ty := 117, segs := [SV.arr .u64 8 [0, 0, 0, 0, 0, 0, 0, 0]] })], next := 2 }) (ob := [a.length + b.length + c.length ≤ 1000000, (a ++ b ++ c).length ≤ 1000000]) (sc' := []) (by kernel_rfl) ⟨hl, hl2, trivial⟩ ?_
  have := num_in (w0 := w0) (S := S) hg hk (g (a ++ b ++ c)) (hk.lt _) (hk.len _) rfl (g (a ++ b ++ c)).length 0 (by omega) [0, 0, 0, 0, 0, 0, 0, 0] (by rw [List.take_zero]; decide)
  exact Hold.weaken this (by simp [wks, wk, wk0, wka, lim, sNm])
end
theorem cNum {g : List Nat → List Nat} (hg : g = sum64) (hk : HashOk g) : ∀ args res ob, eNum g args = some (res, ob) → All ob → Contract Tryz.prog 56 args res := by
  intro args res ob h hob
  unfold eNum at h
  split at h
  · split at h
    · rename_i hx hy
      cases h
      exact slv_argsF (num2_c hg hk _ _ hob.1) ⟨part_wk hx, part_wk hy, rfl⟩ (by simp [SV.size]) rfl
    · cases h
  · split at h
    · rename_i hx hy hz
      cases h
      exact slv_argsF (num3_c hg hk _ _ _ hob.1) ⟨part_wk hx, part_wk hy, part_wk hz, rfl⟩ (by simp [SV.size]) rfl
    · cases h
  · cases h
theorem okH9c {g : List Nat → List Nat} (hg : g = sum64) (hk : HashOk g) : CtrOk Tryz.prog (H9c g) := addC_ok (okH9b hg hk) (cNum hg hk)
theorem cPubX {g : List Nat → List Nat} (hg : g = sum64) (hk : HashOk g) : ∀ args res ob, ePubX g args = some (res, ob) → All ob → Contract Tryz.prog 16 args res := by
  intro args res ob h hob
  unfold ePubX at h
  split at h
  · rename_i s
    cases h
    refine contract Tryz.func16 (body := bodyOf Tryz.f16) rfl (by kernel_rfl) (by kernel_rfl) rfl ?_
    rintro _ w0 S
    have eK := vd (vB_lt (secL_ok hk s))
    by_cases hl : s.length = 32
    · rw [pbI_p hl, erI_p hl]
      refine hold_endw mixed (okH9c hg hk) (unroll := true) (f := 100) (sc := [false]) (r := (SV.tup [SV.sl .u8 (dB (bmV (vF (dF (vB (secL (g s))))))), SV.c .i64 (0 : Int)])) (ob := [(s.length != 32) = false, s.length ≤ 1000000, 94991750553327537054923576013098519116177106212663501036117577537042505103504 = DP, 74191411869338878686276167017509130379084227759686438032777571066171880567110 = W2]) (sc' := []) (by kernel_rfl) ⟨by rw [hl]; rfl, by omega, rfl, W2_lit, trivial⟩ ?_
      rw [eK]
      exact ⟨rfl, ⟨rfl, rfl⟩, rfl⟩
    · rw [pbI_n hl, erI_n hl]
      refine hold_endw mixed (okH9c hg hk) (unroll := true) (f := 100) (sc := [true]) (r := (SV.tup [SV.sl .u8 [], SV.c .i64 (1 : Int)])) (ob := [(s.length != 32) = true]) (sc' := []) (by kernel_rfl) ⟨bne_iff_ne.mpr hl, trivial⟩ ?_
      exact ⟨rfl, ⟨rfl, rfl⟩, rfl⟩
  · cases h
end Go.Eng.G

namespace Go.Eng.G
open Go Go.Eng Go.Proofs Go.Eng.B
set_option maxRecDepth 100000
set_option maxHeartbeats 1000000
def eRSec (g : List Nat → List Nat) (args : List SV) : Option (SV × List Prop) := match args with
  | [.sl .u8 s] => some (.tup [.arr .u8 32 (secL (g s)), .sl .u8 ((g s).drop 32)], [s.length ≤ 1000000])
  | _ => none
def eBP := t0 (pt (rdP baseL))
def H10a (g : List Nat → List Nat) : Ctr := addC 55 eBP (addC 60 (eS512 g) (addC 16 (ePubX g) (H9c g)))
def H10b (g : List Nat → List Nat) : Ctr := addC 54 (eRSec g) (H10a g)
def H10c (g : List Nat → List Nat) : Ctr := addC 17 (ePubX g) (H10b g)
def H10 (g : List Nat → List Nat) : Ctr := addC 19 (eSgnX g) (H10c g)
theorem cQ512 {g : List Nat → List Nat} (hg : g = sum64) : ∀ args res ob, eS512 g args = some (res, ob) → All ob → Contract Tryz.prog 60 args res := by
  intro args res ob h hob
  unfold eS512 at h
  split at h
  · cases h; rw [hg]; exact qsum512_c _ hob.1
  · cases h
theorem okH9d' {g : List Nat → List Nat} (hg : g = sum64) (hk : HashOk g) : CtrOk Tryz.prog (addC 60 (eS512 g) (addC 16 (ePubX g) (H9c g))) := addC_ok (addC_ok (okH9c hg hk) (cPubX hg hk)) (cQ512 hg)
theorem bP_c : Contract Tryz.prog 55 [] (pt (rdP baseL)) := by
  refine contract Tryz.func55 (body := bodyOf Tryz.f55) rfl (by kernel_rfl) (by kernel_rfl) rfl ?_
  intro _ w0 S
  exact hold_end mixed okH4 (unroll := true) (f := 100) (sc := []) (r := (SV.ag [SV.arr .u64 4 (dF 15112221349535400772501151409588531511454012693041857206046113283949847762202), SV.arr .u64 4 (dF 46316835694926478169428394003475163141307993866256225615783033603165251855960), SV.arr .u64 4 (dF 1), SV.arr .u64 4 (dF 46827403850823179245072216630277197565144205554125654976674165829533817101731)])) (ob := []) (sc' := []) (by kernel_rfl) trivial rfl
theorem okH10a {g : List Nat → List Nat} (hg : g = sum64) (hk : HashOk g) : CtrOk Tryz.prog (H10a g) := addC_ok (okH9d' hg hk) (t0_ok bP_c)
theorem cRSec {g : List Nat → List Nat} (hg : g = sum64) (hk : HashOk g) : ∀ args res ob, eRSec g args = some (res, ob) → All ob → Contract Tryz.prog 54 args res := by
  intro args res ob h hob
  unfold eRSec at h
  split at h
  · rename_i s
    cases h
    refine contract Tryz.func54 (body := bodyOf Tryz.f54) rfl (by kernel_rfl) (by kernel_rfl) rfl ?_
    rintro _ w0 S
    have h1 := hk.len s
    have h2 : (List.take 32 (g s)).length = 32 := by rw [List.length_take, h1]; rfl
    refine hold_end mixed (okH10a hg hk) (unroll := true) (f := 100) (sc := []) (r := (SV.tup [SV.arr .u8 32 (clampL (List.take 32 (List.drop 0 (List.take 32 (g s))))), SV.sl .u8 (List.drop 32 (List.take (g s).length (g s)))])) (ob := [s.length ≤ 1000000, 0 ≤ 32, 32 ≤ (g s).length, 32 ≤ (g s).length, (g s).length ≤ (g s).length, 32 ≤ (List.drop 0 (List.take 32 (g s))).length]) (sc' := []) (by kernel_rfl) ?_ ?_
    · rw [List.drop_zero]
      exact ⟨hob.1, by repeat' first | exact True.intro | omega | (rw [h2]; omega) | refine ⟨?_, ?_⟩⟩
    · rw [List.drop_zero, List.take_of_length_le (show (List.take 32 (g s)).length ≤ 32 by omega), List.take_of_length_le (Nat.le_refl (g s).length)]
      rfl
  · cases h
theorem slen_dB (n : Nat) : slenD (.sl .u8 (dB n)) = 32 := dB_len n
theorem okH10b {g : List Nat → List Nat} (hg : g = sum64) (hk : HashOk g) : CtrOk Tryz.prog (H10b g) := addC_ok (okH10a hg hk) (cRSec hg hk)
theorem cRPub {g : List Nat → List Nat} (hg : g = sum64) (hk : HashOk g) : ∀ args res ob, ePubX g args = some (res, ob) → All ob → Contract Tryz.prog 17 args res := by
  intro args res ob h hob
  unfold ePubX at h
  split at h
  · rename_i s
    cases h
    refine contract Tryz.func17 (body := bodyOf Tryz.f17) rfl (by kernel_rfl) (by kernel_rfl) rfl ?_
    rintro _ w0 S
    have p0 := rdP_ok baseL
    have p1 := p4_pt (pokP_pok p0)
    have q2 := rtm_ok dN (vB (secL (g s))) (rdP baseL) 256 gO gO_okP
    have p2 := p4_pt (pokP_pok q2)
    by_cases hl : s.length = 32
    · rw [pbI_p hl, erI_p hl]
      refine hold_endw mixed (okH10b hg hk) (unroll := true) (f := 100) (sc := [false]) (r := (SV.tup [SV.sl .u8 (dB (encR (p4 (dF (rtm dN (vB (secL (g s))) (p4 (dF (rdP baseL).x) (dF (rdP baseL).y) (dF (rdP baseL).z) (dF (rdP baseL).t)) 256 gO).x) (dF (rtm dN (vB (secL (g s))) (p4 (dF (rdP baseL).x) (dF (rdP baseL).y) (dF (rdP baseL).z) (dF (rdP baseL).t)) 256 gO).y) (dF (rtm dN (vB (secL (g s))) (p4 (dF (rdP baseL).x) (dF (rdP baseL).y) (dF (rdP baseL).z) (dF (rdP baseL).t)) 256 gO).z) (dF (rtm dN (vB (secL (g s))) (p4 (dF (rdP baseL).x) (dF (rdP baseL).y) (dF (rdP baseL).z) (dF (rdP baseL).t)) 256 gO).t)))), SV.c .i64 (0 : Int)])) (ob := [(s.length != 32) = false, s.length ≤ 1000000, pokP (p4 (dF (rdP baseL).x) (dF (rdP baseL).y) (dF (rdP baseL).z) (dF (rdP baseL).t)), pokP (p4 (dF (rtm dN (vB (secL (g s))) (p4 (dF (rdP baseL).x) (dF (rdP baseL).y) (dF (rdP baseL).z) (dF (rdP baseL).t)) 256 gO).x) (dF (rtm dN (vB (secL (g s))) (p4 (dF (rdP baseL).x) (dF (rdP baseL).y) (dF (rdP baseL).z) (dF (rdP baseL).t)) 256 gO).y) (dF (rtm dN (vB (secL (g s))) (p4 (dF (rdP baseL).x) (dF (rdP baseL).y) (dF (rdP baseL).z) (dF (rdP baseL).t)) 256 gO).z) (dF (rtm dN (vB (secL (g s))) (p4 (dF (rdP baseL).x) (dF (rdP baseL).y) (dF (rdP baseL).z) (dF (rdP baseL).t)) 256 gO).t)), slenD (SV.sl .u8 (dB (encR (p4 (dF (rtm dN (vB (secL (g s))) (p4 (dF (rdP baseL).x) (dF (rdP baseL).y) (dF (rdP baseL).z) (dF (rdP baseL).t)) 256 gO).x) (dF (rtm dN (vB (secL (g s))) (p4 (dF (rdP baseL).x) (dF (rdP baseL).y) (dF (rdP baseL).z) (dF (rdP baseL).t)) 256 gO).y) (dF (rtm dN (vB (secL (g s))) (p4 (dF (rdP baseL).x) (dF (rdP baseL).y) (dF (rdP baseL).z) (dF (rdP baseL).t)) 256 gO).z) (dF (rtm dN (vB (secL (g s))) (p4 (dF (rdP baseL).x) (dF (rdP baseL).y) (dF (rdP baseL).z) (dF (rdP baseL).t)) 256 gO).t))))) * 1 ≤ 140737488355328]) (sc' := []) (by kernel_rfl) ?_ ?_
      · rw [p1, p2]
        exact ⟨by rw [hl]; rfl, by omega, p0, q2, by rw [slen_dB]; decide, trivial⟩
      · rw [p1, p2]
        exact ⟨rfl, ⟨rfl, rfl⟩, rfl⟩
    · rw [pbI_n hl, erI_n hl]
      refine hold_endw mixed (okH10b hg hk) (unroll := true) (f := 100) (sc := [true]) (r := (SV.tup [SV.sl .u8 [], SV.c .i64 (1 : Int)])) (ob := [(s.length != 32) = true]) (sc' := []) (by kernel_rfl) ⟨bne_iff_ne.mpr hl, trivial⟩ ?_
      exact ⟨rfl, ⟨rfl, rfl⟩, rfl⟩
  · cases h
theorem okH10c {g : List Nat → List Nat} (hg : g = sum64) (hk : HashOk g) : CtrOk Tryz.prog (H10c g) := addC_ok (okH10b hg hk) (cRPub hg hk)
end Go.Eng.G

namespace Go.Eng.G
open Go Go.Eng Go.Proofs Go.Eng.B
set_option maxRecDepth 100000
set_option maxHeartbeats 1000000
theorem wV_w {g : List Nat → List Nat} (hk : HashOk g) (x : List Nat) : wV (g x) = wideV (g x) := by unfold wV; rw [if_pos (by rw [hk.len]; decide)]
theorem vB_wide (b : List Nat) : vB (dB (wideV b)) = wideV b := bd (Nat.lt_trans (Nat.mod_lt _ (by decide)) QQ_lt)
theorem pub_len (g : List Nat → List Nat) (s : List Nat) : (pubW g s).length = 32 := dB_len _
theorem slen_d1 (a : Nat) : slenD (.sl .u8 (dB a)) = 32 := dB_len a
theorem slen_d2 (a : Nat) (g : List Nat → List Nat) (s : List Nat) : slenD (.sl .u8 (dB a ++ pubW g s)) = 64 := by show (dB a ++ pubW g s).length = 64; rw [List.length_append, dB_len, pub_len]
theorem slen_d3 (a b : Nat) : slenD (.sl .u8 (dB a ++ dB b)) = 64 := by show (dB a ++ dB b).length = 64; rw [List.length_append, dB_len, dB_len]
theorem cRSgn {g : List Nat → List Nat} (hg : g = sum64) (hk : HashOk g) : ∀ args res ob, eSgnX g args = some (res, ob) → All ob → Contract Tryz.prog 19 args res := by
  intro args res ob h hob
  unfold eSgnX at h
  split at h
  · rename_i s m
    cases h
    refine contract Tryz.func19 (body := bodyOf Tryz.f19) rfl (by kernel_rfl) (by kernel_rfl) rfl ?_
    rintro _ w0 S
    have p0 := rdP_ok baseL
    have p1 := p4_pt (pokP_pok p0)
    have q2 := rtm_ok dN (sgR g s m) (rdP baseL) 256 gO gO_okP
    have p2 := p4_pt (pokP_pok q2)
    unfold sgR at q2 p2
    have hd : (List.drop 32 (g s)).length = 32 := by rw [List.length_drop, hk.len]
    have hm : m.length ≤ 900000 := hob.1
    by_cases hl : s.length = 32
    · rw [sgI_p hl, erI_p hl]
      refine hold_endw mixed (okH10c hg hk) (unroll := true) (f := 300) (sc := [false]) (r := (SV.tup [SV.sl .u8 (dB (encR (p4 (dF (rtm dN (vB (dB (wV (g (List.drop 32 (g s) ++ m))))) (p4 (dF (rdP baseL).x) (dF (rdP baseL).y) (dF (rdP baseL).z) (dF (rdP baseL).t)) 256 gO).x) (dF (rtm dN (vB (dB (wV (g (List.drop 32 (g s) ++ m))))) (p4 (dF (rdP baseL).x) (dF (rdP baseL).y) (dF (rdP baseL).z) (dF (rdP baseL).t)) 256 gO).y) (dF (rtm dN (vB (dB (wV (g (List.drop 32 (g s) ++ m))))) (p4 (dF (rdP baseL).x) (dF (rdP baseL).y) (dF (rdP baseL).z) (dF (rdP baseL).t)) 256 gO).z) (dF (rtm dN (vB (dB (wV (g (List.drop 32 (g s) ++ m))))) (p4 (dF (rdP baseL).x) (dF (rdP baseL).y) (dF (rdP baseL).z) (dF (rdP baseL).t)) 256 gO).t))) ++ dB (maV (vB (dB (wV (g (dB (encR (p4 (dF (rtm dN (vB (dB (wV (g (List.drop 32 (g s) ++ m))))) (p4 (dF (rdP baseL).x) (dF (rdP baseL).y) (dF (rdP baseL).z) (dF (rdP baseL).t)) 256 gO).x) (dF (rtm dN (vB (dB (wV (g (List.drop 32 (g s) ++ m))))) (p4 (dF (rdP baseL).x) (dF (rdP baseL).y) (dF (rdP baseL).z) (dF (rdP baseL).t)) 256 gO).y) (dF (rtm dN (vB (dB (wV (g (List.drop 32 (g s) ++ m))))) (p4 (dF (rdP baseL).x) (dF (rdP baseL).y) (dF (rdP baseL).z) (dF (rdP baseL).t)) 256 gO).z) (dF (rtm dN (vB (dB (wV (g (List.drop 32 (g s) ++ m))))) (p4 (dF (rdP baseL).x) (dF (rdP baseL).y) (dF (rdP baseL).z) (dF (rdP baseL).t)) 256 gO).t))) ++ pbI g s ++ m))))) (vB (secL (g s))) (vB (dB (wV (g (List.drop 32 (g s) ++ m))))))), SV.c .i64 (0 : Int)])) (ob := [(erI s != (0 : Int)) = false, s.length ≤ 1000000, slenD (SV.sl .u8 (List.drop 32 (g s))) * 1 ≤ 140737488355328, slenD (SV.sl .u8 (List.drop 32 (g s) ++ m)) * 1 ≤ 140737488355328, (List.drop 32 (g s) ++ m).length ≤ 1000000, pokP (p4 (dF (rdP baseL).x) (dF (rdP baseL).y) (dF (rdP baseL).z) (dF (rdP baseL).t)), pokP (p4 (dF (rtm dN (vB (dB (wV (g (List.drop 32 (g s) ++ m))))) (p4 (dF (rdP baseL).x) (dF (rdP baseL).y) (dF (rdP baseL).z) (dF (rdP baseL).t)) 256 gO).x) (dF (rtm dN (vB (dB (wV (g (List.drop 32 (g s) ++ m))))) (p4 (dF (rdP baseL).x) (dF (rdP baseL).y) (dF (rdP baseL).z) (dF (rdP baseL).t)) 256 gO).y) (dF (rtm dN (vB (dB (wV (g (List.drop 32 (g s) ++ m))))) (p4 (dF (rdP baseL).x) (dF (rdP baseL).y) (dF (rdP baseL).z) (dF (rdP baseL).t)) 256 gO).z) (dF (rtm dN (vB (dB (wV (g (List.drop 32 (g s) ++ m))))) (p4 (dF (rdP baseL).x) (dF (rdP baseL).y) (dF (rdP baseL).z) (dF (rdP baseL).t)) 256 gO).t)), slenD (SV.sl .u8 (dB (encR (p4 (dF (rtm dN (vB (dB (wV (g (List.drop 32 (g s) ++ m))))) (p4 (dF (rdP baseL).x) (dF (rdP baseL).y) (dF (rdP baseL).z) (dF (rdP baseL).t)) 256 gO).x) (dF (rtm dN (vB (dB (wV (g (List.drop 32 (g s) ++ m))))) (p4 (dF (rdP baseL).x) (dF (rdP baseL).y) (dF (rdP baseL).z) (dF (rdP baseL).t)) 256 gO).y) (dF (rtm dN (vB (dB (wV (g (List.drop 32 (g s) ++ m))))) (p4 (dF (rdP baseL).x) (dF (rdP baseL).y) (dF (rdP baseL).z) (dF (rdP baseL).t)) 256 gO).z) (dF (rtm dN (vB (dB (wV (g (List.drop 32 (g s) ++ m))))) (p4 (dF (rdP baseL).x) (dF (rdP baseL).y) (dF (rdP baseL).z) (dF (rdP baseL).t)) 256 gO).t))))) * 1 ≤ 140737488355328, slenD (SV.sl .u8 (dB (encR (p4 (dF (rtm dN (vB (dB (wV (g (List.drop 32 (g s) ++ m))))) (p4 (dF (rdP baseL).x) (dF (rdP baseL).y) (dF (rdP baseL).z) (dF (rdP baseL).t)) 256 gO).x) (dF (rtm dN (vB (dB (wV (g (List.drop 32 (g s) ++ m))))) (p4 (dF (rdP baseL).x) (dF (rdP baseL).y) (dF (rdP baseL).z) (dF (rdP baseL).t)) 256 gO).y) (dF (rtm dN (vB (dB (wV (g (List.drop 32 (g s) ++ m))))) (p4 (dF (rdP baseL).x) (dF (rdP baseL).y) (dF (rdP baseL).z) (dF (rdP baseL).t)) 256 gO).z) (dF (rtm dN (vB (dB (wV (g (List.drop 32 (g s) ++ m))))) (p4 (dF (rdP baseL).x) (dF (rdP baseL).y) (dF (rdP baseL).z) (dF (rdP baseL).t)) 256 gO).t))) ++ pbI g s)) * 1 ≤ 140737488355328, slenD (SV.sl .u8 (dB (encR (p4 (dF (rtm dN (vB (dB (wV (g (List.drop 32 (g s) ++ m))))) (p4 (dF (rdP baseL).x) (dF (rdP baseL).y) (dF (rdP baseL).z) (dF (rdP baseL).t)) 256 gO).x) (dF (rtm dN (vB (dB (wV (g (List.drop 32 (g s) ++ m))))) (p4 (dF (rdP baseL).x) (dF (rdP baseL).y) (dF (rdP baseL).z) (dF (rdP baseL).t)) 256 gO).y) (dF (rtm dN (vB (dB (wV (g (List.drop 32 (g s) ++ m))))) (p4 (dF (rdP baseL).x) (dF (rdP baseL).y) (dF (rdP baseL).z) (dF (rdP baseL).t)) 256 gO).z) (dF (rtm dN (vB (dB (wV (g (List.drop 32 (g s) ++ m))))) (p4 (dF (rdP baseL).x) (dF (rdP baseL).y) (dF (rdP baseL).z) (dF (rdP baseL).t)) 256 gO).t))) ++ pbI g s ++ m)) * 1 ≤ 140737488355328, (dB (encR (p4 (dF (rtm dN (vB (dB (wV (g (List.drop 32 (g s) ++ m))))) (p4 (dF (rdP baseL).x) (dF (rdP baseL).y) (dF (rdP baseL).z) (dF (rdP baseL).t)) 256 gO).x) (dF (rtm dN (vB (dB (wV (g (List.drop 32 (g s) ++ m))))) (p4 (dF (rdP baseL).x) (dF (rdP baseL).y) (dF (rdP baseL).z) (dF (rdP baseL).t)) 256 gO).y) (dF (rtm dN (vB (dB (wV (g (List.drop 32 (g s) ++ m))))) (p4 (dF (rdP baseL).x) (dF (rdP baseL).y) (dF (rdP baseL).z) (dF (rdP baseL).t)) 256 gO).z) (dF (rtm dN (vB (dB (wV (g (List.drop 32 (g s) ++ m))))) (p4 (dF (rdP baseL).x) (dF (rdP baseL).y) (dF (rdP baseL).z) (dF (rdP baseL).t)) 256 gO).t))) ++ pbI g s ++ m).length ≤ 1000000, slenD (SV.sl .u8 (dB (encR (p4 (dF (rtm dN (vB (dB (wV (g (List.drop 32 (g s) ++ m))))) (p4 (dF (rdP baseL).x) (dF (rdP baseL).y) (dF (rdP baseL).z) (dF (rdP baseL).t)) 256 gO).x) (dF (rtm dN (vB (dB (wV (g (List.drop 32 (g s) ++ m))))) (p4 (dF (rdP baseL).x) (dF (rdP baseL).y) (dF (rdP baseL).z) (dF (rdP baseL).t)) 256 gO).y) (dF (rtm dN (vB (dB (wV (g (List.drop 32 (g s) ++ m))))) (p4 (dF (rdP baseL).x) (dF (rdP baseL).y) (dF (rdP baseL).z) (dF (rdP baseL).t)) 256 gO).z) (dF (rtm dN (vB (dB (wV (g (List.drop 32 (g s) ++ m))))) (p4 (dF (rdP baseL).x) (dF (rdP baseL).y) (dF (rdP baseL).z) (dF (rdP baseL).t)) 256 gO).t))))) * 1 ≤ 140737488355328, slenD (SV.sl .u8 (dB (encR (p4 (dF (rtm dN (vB (dB (wV (g (List.drop 32 (g s) ++ m))))) (p4 (dF (rdP baseL).x) (dF (rdP baseL).y) (dF (rdP baseL).z) (dF (rdP baseL).t)) 256 gO).x) (dF (rtm dN (vB (dB (wV (g (List.drop 32 (g s) ++ m))))) (p4 (dF (rdP baseL).x) (dF (rdP baseL).y) (dF (rdP baseL).z) (dF (rdP baseL).t)) 256 gO).y) (dF (rtm dN (vB (dB (wV (g (List.drop 32 (g s) ++ m))))) (p4 (dF (rdP baseL).x) (dF (rdP baseL).y) (dF (rdP baseL).z) (dF (rdP baseL).t)) 256 gO).z) (dF (rtm dN (vB (dB (wV (g (List.drop 32 (g s) ++ m))))) (p4 (dF (rdP baseL).x) (dF (rdP baseL).y) (dF (rdP baseL).z) (dF (rdP baseL).t)) 256 gO).t))) ++ dB (maV (vB (dB (wV (g (dB (encR (p4 (dF (rtm dN (vB (dB (wV (g (List.drop 32 (g s) ++ m))))) (p4 (dF (rdP baseL).x) (dF (rdP baseL).y) (dF (rdP baseL).z) (dF (rdP baseL).t)) 256 gO).x) (dF (rtm dN (vB (dB (wV (g (List.drop 32 (g s) ++ m))))) (p4 (dF (rdP baseL).x) (dF (rdP baseL).y) (dF (rdP baseL).z) (dF (rdP baseL).t)) 256 gO).y) (dF (rtm dN (vB (dB (wV (g (List.drop 32 (g s) ++ m))))) (p4 (dF (rdP baseL).x) (dF (rdP baseL).y) (dF (rdP baseL).z) (dF (rdP baseL).t)) 256 gO).z) (dF (rtm dN (vB (dB (wV (g (List.drop 32 (g s) ++ m))))) (p4 (dF (rdP baseL).x) (dF (rdP baseL).y) (dF (rdP baseL).z) (dF (rdP baseL).t)) 256 gO).t))) ++ pbI g s ++ m))))) (vB (secL (g s))) (vB (dB (wV (g (List.drop 32 (g s) ++ m)))))))) * 1 ≤ 140737488355328]) (sc' := []) (by kernel_rfl) ?_ ?_
      · rw [p1, wV_w hk, wV_w hk, vB_wide, vB_wide, p2, pbI_p hl, erI_p hl]
        exact ⟨rfl, by omega, by show (List.drop 32 (g s)).length * 1 ≤ _; omega, by show (List.drop 32 (g s) ++ m).length * 1 ≤ _; rw [List.length_append]; omega, by rw [List.length_append]; omega, p0, q2,
          by rw [slen_d1]; decide, by rw [slen_d2]; decide, by show (_ ++ _ ++ _ : List Nat).length * 1 ≤ _; rw [List.length_append, List.length_append, dB_len, pub_len]; omega,
          by rw [List.length_append, List.length_append, dB_len, pub_len]; omega, by rw [slen_d1]; decide, by rw [slen_d3]; decide, trivial⟩
      · rw [p1, wV_w hk, wV_w hk, vB_wide, vB_wide, p2, pbI_p hl]
        exact ⟨rfl, ⟨rfl, rfl⟩, rfl⟩
    · rw [sgI_n hl, erI_n hl]
      refine hold_endw mixed (okH10c hg hk) (unroll := true) (f := 100) (sc := [true]) (r := (SV.tup [SV.sl .u8 [], SV.i .i64 (erI s)])) (ob := [(erI s != (0 : Int)) = true]) (sc' := []) (by kernel_rfl) ?_ ?_
      · rw [erI_n hl]; exact ⟨rfl, trivial⟩
      · rw [erI_n hl]; exact wkR_refl _
  · cases h
theorem okH10 {g : List Nat → List Nat} (hg : g = sum64) (hk : HashOk g) : CtrOk Tryz.prog (H10 g) := addC_ok (okH10c hg hk) (cRSgn hg hk)
end Go.Eng.G

namespace Go.Eng.G
open Go Go.Eng Go.Proofs Go.Eng.B
set_option maxRecDepth 100000
set_option maxHeartbeats 1000000
def eBe (args : List SV) : Option (SV × List Prop) := match args with
  | [.sl .u8 a, .sl .u8 b] => some (.b (a == b), [])
  | _ => none
def verQ (g : List Nat → List Nat) (p m s : List Nat) : Bool :=
  dB (encR (radd dN (rtm dN (vB (s.drop 32)) (rdP baseL) 256 gO) (rtm dN (wideV (g (s.take 32 ++ p ++ m))) (rneg (rdP p)) 256 gO))) == s.take 32
def verW (g : List Nat → List Nat) (p m s : List Nat) : Bool := decide (p.length = 32) && (decide (s.length = 64) && (rdB p && (!smR p && (decide (vB (s.drop 32) < QQ) && verQ g p m s))))
def eVer (g : List Nat → List Nat) (args : List SV) : Option (SV × List Prop) := match args with
  | [.sl .u8 p, .sl .u8 m, .sl .u8 s] => some (.b (verW g p m s), [m.length ≤ 900000])
  | _ => none
def H11a (g : List Nat → List Nat) : Ctr := addC 70 eBe (H9c g)
theorem be_c (a b : List Nat) : Contract Tryz.prog 70 [.sl .u8 a, .sl .u8 b] (.b (a == b)) := by
  refine contract Tryz.func70 (body := bodyOf Tryz.f70) rfl (by kernel_rfl) (by kernel_rfl) rfl ?_
  intro _ w0 S
  exact hold_end mixed ctr0_ok (unroll := true) (f := 100) (sc := []) (r := (SV.b (a == b))) (ob := []) (sc' := []) (by kernel_rfl) trivial rfl
theorem cBe : ∀ args res ob, eBe args = some (res, ob) → All ob → Contract Tryz.prog 70 args res := by
  intro args res ob he hob
  unfold eBe at he
  split at he
  · cases he; exact be_c _ _
  · cases he
theorem okH11a {g : List Nat → List Nat} (hg : g = sum64) (hk : HashOk g) : CtrOk Tryz.prog (H11a g) := addC_ok (okH9c hg hk) cBe
theorem QQ_lit' : 7237005577332262213973186563042994240857116359379907606001950938285454250989 = QQ := by decide +kernel
theorem cVer {g : List Nat → List Nat} (hg : g = sum64) (hk : HashOk g) : ∀ args res ob, eVer g args = some (res, ob) → All ob → Contract Tryz.prog 29 args res := by
  intro args res ob h hob
  unfold eVer at h
  split at h
  · rename_i p m s
    cases h
    refine contract Tryz.func29 (body := bodyOf Tryz.f29) rfl (by kernel_rfl) (by kernel_rfl) rfl ?_
    rintro ⟨hp2, hm2, hs2, _⟩ w0 S
    have hm := hob.1
    by_cases hp : p.length = 32
    · by_cases hs : s.length = 64
      · have hS : List.take 32 (List.drop 32 (List.take s.length s)) = List.drop 32 s := by
          rw [List.take_length, List.take_of_length_le (by rw [List.length_drop]; omega)]
        have hx : (List.drop 32 s).length = 32 := by rw [List.length_drop]; omega
        have lS : vB (List.drop 32 s) < M256 := vB_lt ⟨hx, fun x h => hs2.2 x (List.mem_of_mem_drop h)⟩
        have lP := maskL_lt (u := p) ⟨hp, hp2.2⟩
        have lB : dY baseL < M256 := maskL_lt ⟨rfl, by decide⟩
        have b0 := decP_ok lB DP
        have a0 := decP_ok lP DP
        have o1 : (p.length != 32) = false := by rw [hp]; rfl
        have o2 : (s.length != 64) = false := by rw [hs]; rfl
        have o3 : 32 ≤ (List.drop 32 (List.take s.length s)).length := by rw [List.take_length]; omega
        have tp : List.take 32 p = p := take32 hp
        cases hb : rdB p with
        | true =>
          have e8 : smallV W2 (decP DP p) = smR p := by rw [small_pt lP hb]; unfold smR; rw [hb, Bool.true_and]
          cases hsm : smR p with
          | false =>
            by_cases hq : vB (List.drop 32 s) < QQ
            · refine hold_endw mixed (okH11a hg hk) (unroll := true) (f := 400) (sc := [false, false, false, false, false]) (r := (SV.b (dB (encV (p4 (dF (gadd (vF (dF (addF DP DP))) (p4 (dF (gtm (vF (dF (addF DP DP))) (vF (dF (vB (List.take 32 (List.drop (Ix.c (Int.toNat (32 : Int))).n (List.take s.length s)))))) (p4 (dF (decP (vF (dF DP)) baseL).x) (dF (decP (vF (dF DP)) baseL).y) (dF (decP (vF (dF DP)) baseL).z) (dF (decP (vF (dF DP)) baseL).t)) 256 gO).x) (dF (gtm (vF (dF (addF DP DP))) (vF (dF (vB (List.take 32 (List.drop (Ix.c (Int.toNat (32 : Int))).n (List.take s.length s)))))) (p4 (dF (decP (vF (dF DP)) baseL).x) (dF (decP (vF (dF DP)) baseL).y) (dF (decP (vF (dF DP)) baseL).z) (dF (decP (vF (dF DP)) baseL).t)) 256 gO).y) (dF (gtm (vF (dF (addF DP DP))) (vF (dF (vB (List.take 32 (List.drop (Ix.c (Int.toNat (32 : Int))).n (List.take s.length s)))))) (p4 (dF (decP (vF (dF DP)) baseL).x) (dF (decP (vF (dF DP)) baseL).y) (dF (decP (vF (dF DP)) baseL).z) (dF (decP (vF (dF DP)) baseL).t)) 256 gO).z) (dF (gtm (vF (dF (addF DP DP))) (vF (dF (vB (List.take 32 (List.drop (Ix.c (Int.toNat (32 : Int))).n (List.take s.length s)))))) (p4 (dF (decP (vF (dF DP)) baseL).x) (dF (decP (vF (dF DP)) baseL).y) (dF (decP (vF (dF DP)) baseL).z) (dF (decP (vF (dF DP)) baseL).t)) 256 gO).t)) (p4 (dF (gtm (vF (dF (addF DP DP))) (vF (dF (wideV (g (List.drop 0 (List.take (Ix.c (Int.toNat (32 : Int))).n s) ++ p ++ m))))) (p4 (dF (gneg (p4 (dF (decP (vF (dF DP)) (List.take 32 p)).x) (dF (decP (vF (dF DP)) (List.take 32 p)).y) (dF (decP (vF (dF DP)) (List.take 32 p)).z) (dF (decP (vF (dF DP)) (List.take 32 p)).t))).x) (dF (gneg (p4 (dF (decP (vF (dF DP)) (List.take 32 p)).x) (dF (decP (vF (dF DP)) (List.take 32 p)).y) (dF (decP (vF (dF DP)) (List.take 32 p)).z) (dF (decP (vF (dF DP)) (List.take 32 p)).t))).y) (dF (gneg (p4 (dF (decP (vF (dF DP)) (List.take 32 p)).x) (dF (decP (vF (dF DP)) (List.take 32 p)).y) (dF (decP (vF (dF DP)) (List.take 32 p)).z) (dF (decP (vF (dF DP)) (List.take 32 p)).t))).z) (dF (gneg (p4 (dF (decP (vF (dF DP)) (List.take 32 p)).x) (dF (decP (vF (dF DP)) (List.take 32 p)).y) (dF (decP (vF (dF DP)) (List.take 32 p)).z) (dF (decP (vF (dF DP)) (List.take 32 p)).t))).t)) 256 gO).x) (dF (gtm (vF (dF (addF DP DP))) (vF (dF (wideV (g (List.drop 0 (List.take (Ix.c (Int.toNat (32 : Int))).n s) ++ p ++ m))))) (p4 (dF (gneg (p4 (dF (decP (vF (dF DP)) (List.take 32 p)).x) (dF (decP (vF (dF DP)) (List.take 32 p)).y) (dF (decP (vF (dF DP)) (List.take 32 p)).z) (dF (decP (vF (dF DP)) (List.take 32 p)).t))).x) (dF (gneg (p4 (dF (decP (vF (dF DP)) (List.take 32 p)).x) (dF (decP (vF (dF DP)) (List.take 32 p)).y) (dF (decP (vF (dF DP)) (List.take 32 p)).z) (dF (decP (vF (dF DP)) (List.take 32 p)).t))).y) (dF (gneg (p4 (dF (decP (vF (dF DP)) (List.take 32 p)).x) (dF (decP (vF (dF DP)) (List.take 32 p)).y) (dF (decP (vF (dF DP)) (List.take 32 p)).z) (dF (decP (vF (dF DP)) (List.take 32 p)).t))).z) (dF (gneg (p4 (dF (decP (vF (dF DP)) (List.take 32 p)).x) (dF (decP (vF (dF DP)) (List.take 32 p)).y) (dF (decP (vF (dF DP)) (List.take 32 p)).z) (dF (decP (vF (dF DP)) (List.take 32 p)).t))).t)) 256 gO).y) (dF (gtm (vF (dF (addF DP DP))) (vF (dF (wideV (g (List.drop 0 (List.take (Ix.c (Int.toNat (32 : Int))).n s) ++ p ++ m))))) (p4 (dF (gneg (p4 (dF (decP (vF (dF DP)) (List.take 32 p)).x) (dF (decP (vF (dF DP)) (List.take 32 p)).y) (dF (decP (vF (dF DP)) (List.take 32 p)).z) (dF (decP (vF (dF DP)) (List.take 32 p)).t))).x) (dF (gneg (p4 (dF (decP (vF (dF DP)) (List.take 32 p)).x) (dF (decP (vF (dF DP)) (List.take 32 p)).y) (dF (decP (vF (dF DP)) (List.take 32 p)).z) (dF (decP (vF (dF DP)) (List.take 32 p)).t))).y) (dF (gneg (p4 (dF (decP (vF (dF DP)) (List.take 32 p)).x) (dF (decP (vF (dF DP)) (List.take 32 p)).y) (dF (decP (vF (dF DP)) (List.take 32 p)).z) (dF (decP (vF (dF DP)) (List.take 32 p)).t))).z) (dF (gneg (p4 (dF (decP (vF (dF DP)) (List.take 32 p)).x) (dF (decP (vF (dF DP)) (List.take 32 p)).y) (dF (decP (vF (dF DP)) (List.take 32 p)).z) (dF (decP (vF (dF DP)) (List.take 32 p)).t))).t)) 256 gO).z) (dF (gtm (vF (dF (addF DP DP))) (vF (dF (wideV (g (List.drop 0 (List.take (Ix.c (Int.toNat (32 : Int))).n s) ++ p ++ m))))) (p4 (dF (gneg (p4 (dF (decP (vF (dF DP)) (List.take 32 p)).x) (dF (decP (vF (dF DP)) (List.take 32 p)).y) (dF (decP (vF (dF DP)) (List.take 32 p)).z) (dF (decP (vF (dF DP)) (List.take 32 p)).t))).x) (dF (gneg (p4 (dF (decP (vF (dF DP)) (List.take 32 p)).x) (dF (decP (vF (dF DP)) (List.take 32 p)).y) (dF (decP (vF (dF DP)) (List.take 32 p)).z) (dF (decP (vF (dF DP)) (List.take 32 p)).t))).y) (dF (gneg (p4 (dF (decP (vF (dF DP)) (List.take 32 p)).x) (dF (decP (vF (dF DP)) (List.take 32 p)).y) (dF (decP (vF (dF DP)) (List.take 32 p)).z) (dF (decP (vF (dF DP)) (List.take 32 p)).t))).z) (dF (gneg (p4 (dF (decP (vF (dF DP)) (List.take 32 p)).x) (dF (decP (vF (dF DP)) (List.take 32 p)).y) (dF (decP (vF (dF DP)) (List.take 32 p)).z) (dF (decP (vF (dF DP)) (List.take 32 p)).t))).t)) 256 gO).t))).x) (dF (gadd (vF (dF (addF DP DP))) (p4 (dF (gtm (vF (dF (addF DP DP))) (vF (dF (vB (List.take 32 (List.drop (Ix.c (Int.toNat (32 : Int))).n (List.take s.length s)))))) (p4 (dF (decP (vF (dF DP)) baseL).x) (dF (decP (vF (dF DP)) baseL).y) (dF (decP (vF (dF DP)) baseL).z) (dF (decP (vF (dF DP)) baseL).t)) 256 gO).x) (dF (gtm (vF (dF (addF DP DP))) (vF (dF (vB (List.take 32 (List.drop (Ix.c (Int.toNat (32 : Int))).n (List.take s.length s)))))) (p4 (dF (decP (vF (dF DP)) baseL).x) (dF (decP (vF (dF DP)) baseL).y) (dF (decP (vF (dF DP)) baseL).z) (dF (decP (vF (dF DP)) baseL).t)) 256 gO).y) (dF (gtm (vF (dF (addF DP DP))) (vF (dF (vB (List.take 32 (List.drop (Ix.c (Int.toNat (32 : Int))).n (List.take s.length s)))))) (p4 (dF (decP (vF (dF DP)) baseL).x) (dF (decP (vF (dF DP)) baseL).y) (dF (decP (vF (dF DP)) baseL).z) (dF (decP (vF (dF DP)) baseL).t)) 256 gO).z) (dF (gtm (vF (dF (addF DP DP))) (vF (dF (vB (List.take 32 (List.drop (Ix.c (Int.toNat (32 : Int))).n (List.take s.length s)))))) (p4 (dF (decP (vF (dF DP)) baseL).x) (dF (decP (vF (dF DP)) baseL).y) (dF (decP (vF (dF DP)) baseL).z) (dF (decP (vF (dF DP)) baseL).t)) 256 gO).t)) (p4 (dF (gtm (vF (dF (addF DP DP))) (vF (dF (wideV (g (List.drop 0 (List.take (Ix.c (Int.toNat (32 : Int))).n s) ++ p ++ m))))) (p4 (dF (gneg (p4 (dF (decP (vF (dF DP)) (List.take 32 p)).x) (dF (decP (vF (dF DP)) (List.take 32 p)).y) (dF (decP (vF (dF DP)) (List.take 32 p)).z) (dF (decP (vF (dF DP)) (List.take 32 p)).t))).x) (dF (gneg (p4 (dF (decP (vF (dF DP)) (List.take 32 p)).x) (dF (decP (vF (dF DP)) (List.take 32 p)).y) (dF (decP (vF (dF DP)) (List.take 32 p)).z) (dF (decP (vF (dF DP)) (List.take 32 p)).t))).y) (dF (gneg (p4 (dF (decP (vF (dF DP)) (List.take 32 p)).x) (dF (decP (vF (dF DP)) (List.take 32 p)).y) (dF (decP (vF (dF DP)) (List.take 32 p)).z) (dF (decP (vF (dF DP)) (List.take 32 p)).t))).z) (dF (gneg (p4 (dF (decP (vF (dF DP)) (List.take 32 p)).x) (dF (decP (vF (dF DP)) (List.take 32 p)).y) (dF (decP (vF (dF DP)) (List.take 32 p)).z) (dF (decP (vF (dF DP)) (List.take 32 p)).t))).t)) 256 gO).x) (dF (gtm (vF (dF (addF DP DP))) (vF (dF (wideV (g (List.drop 0 (List.take (Ix.c (Int.toNat (32 : Int))).n s) ++ p ++ m))))) (p4 (dF (gneg (p4 (dF (decP (vF (dF DP)) (List.take 32 p)).x) (dF (decP (vF (dF DP)) (List.take 32 p)).y) (dF (decP (vF (dF DP)) (List.take 32 p)).z) (dF (decP (vF (dF DP)) (List.take 32 p)).t))).x) (dF (gneg (p4 (dF (decP (vF (dF DP)) (List.take 32 p)).x) (dF (decP (vF (dF DP)) (List.take 32 p)).y) (dF (decP (vF (dF DP)) (List.take 32 p)).z) (dF (decP (vF (dF DP)) (List.take 32 p)).t))).y) (dF (gneg (p4 (dF (decP (vF (dF DP)) (List.take 32 p)).x) (dF (decP (vF (dF DP)) (List.take 32 p)).y) (dF (decP (vF (dF DP)) (List.take 32 p)).z) (dF (decP (vF (dF DP)) (List.take 32 p)).t))).z) (dF (gneg (p4 (dF (decP (vF (dF DP)) (List.take 32 p)).x) (dF (decP (vF (dF DP)) (List.take 32 p)).y) (dF (decP (vF (dF DP)) (List.take 32 p)).z) (dF (decP (vF (dF DP)) (List.take 32 p)).t))).t)) 256 gO).y) (dF (gtm (vF (dF (addF DP DP))) (vF (dF (wideV (g (List.drop 0 (List.take (Ix.c (Int.toNat (32 : Int))).n s) ++ p ++ m))))) (p4 (dF (gneg (p4 (dF (decP (vF (dF DP)) (List.take 32 p)).x) (dF (decP (vF (dF DP)) (List.take 32 p)).y) (dF (decP (vF (dF DP)) (List.take 32 p)).z) (dF (decP (vF (dF DP)) (List.take 32 p)).t))).x) (dF (gneg (p4 (dF (decP (vF (dF DP)) (List.take 32 p)).x) (dF (decP (vF (dF DP)) (List.take 32 p)).y) (dF (decP (vF (dF DP)) (List.take 32 p)).z) (dF (decP (vF (dF DP)) (List.take 32 p)).t))).y) (dF (gneg (p4 (dF (decP (vF (dF DP)) (List.take 32 p)).x) (dF (decP (vF (dF DP)) (List.take 32 p)).y) (dF (decP (vF (dF DP)) (List.take 32 p)).z) (dF (decP (vF (dF DP)) (List.take 32 p)).t))).z) (dF (gneg (p4 (dF (decP (vF (dF DP)) (List.take 32 p)).x) (dF (decP (vF (dF DP)) (List.take 32 p)).y) (dF (decP (vF (dF DP)) (List.take 32 p)).z) (dF (decP (vF (dF DP)) (List.take 32 p)).t))).t)) 256 gO).z) (dF (gtm (vF (dF (addF DP DP))) (vF (dF (wideV (g (List.drop 0 (List.take (Ix.c (Int.toNat (32 : Int))).n s) ++ p ++ m))))) (p4 (dF (gneg (p4 (dF (decP (vF (dF DP)) (List.take 32 p)).x) (dF (decP (vF (dF DP)) (List.take 32 p)).y) (dF (decP (vF (dF DP)) (List.take 32 p)).z) (dF (decP (vF (dF DP)) (List.take 32 p)).t))).x) (dF (gneg (p4 (dF (decP (vF (dF DP)) (List.take 32 p)).x) (dF (decP (vF (dF DP)) (List.take 32 p)).y) (dF (decP (vF (dF DP)) (List.take 32 p)).z) (dF (decP (vF (dF DP)) (List.take 32 p)).t))).y) (dF (gneg (p4 (dF (decP (vF (dF DP)) (List.take 32 p)).x) (dF (decP (vF (dF DP)) (List.take 32 p)).y) (dF (decP (vF (dF DP)) (List.take 32 p)).z) (dF (decP (vF (dF DP)) (List.take 32 p)).t))).z) (dF (gneg (p4 (dF (decP (vF (dF DP)) (List.take 32 p)).x) (dF (decP (vF (dF DP)) (List.take 32 p)).y) (dF (decP (vF (dF DP)) (List.take 32 p)).z) (dF (decP (vF (dF DP)) (List.take 32 p)).t))).t)) 256 gO).t))).y) (dF (gadd (vF (dF (addF DP DP))) (p4 (dF (gtm (vF (dF (addF DP DP))) (vF (dF (vB (List.take 32 (List.drop (Ix.c (Int.toNat (32 : Int))).n (List.take s.length s)))))) (p4 (dF (decP (vF (dF DP)) baseL).x) (dF (decP (vF (dF DP)) baseL).y) (dF (decP (vF (dF DP)) baseL).z) (dF (decP (vF (dF DP)) baseL).t)) 256 gO).x) (dF (gtm (vF (dF (addF DP DP))) (vF (dF (vB (List.take 32 (List.drop (Ix.c (Int.toNat (32 : Int))).n (List.take s.length s)))))) (p4 (dF (decP (vF (dF DP)) baseL).x) (dF (decP (vF (dF DP)) baseL).y) (dF (decP (vF (dF DP)) baseL).z) (dF (decP (vF (dF DP)) baseL).t)) 256 gO).y) (dF (gtm (vF (dF (addF DP DP))) (vF (dF (vB (List.take 32 (List.drop (Ix.c (Int.toNat (32 : Int))).n (List.take s.length s)))))) (p4 (dF (decP (vF (dF DP)) baseL).x) (dF (decP (vF (dF DP)) baseL).y) (dF (decP (vF (dF DP)) baseL).z) (dF (decP (vF (dF DP)) baseL).t)) 256 gO).z) (dF (gtm (vF (dF (addF DP DP))) (vF (dF (vB (List.take 32 (List.drop (Ix.c (Int.toNat (32 : Int))).n (List.take s.length s)))))) (p4 (dF (decP (vF (dF DP)) baseL).x) (dF (decP (vF (dF DP)) baseL).y) (dF (decP (vF (dF DP)) baseL).z) (dF (decP (vF (dF DP)) baseL).t)) 256 gO).t)) (p4 (dF (gtm (vF (dF (addF DP DP))) (vF (dF (wideV (g (List.drop 0 (List.take (Ix.c (Int.toNat (32 : Int))).n s) ++ p ++ m))))) (p4 (dF (gneg (p4 (dF (decP (vF (dF DP)) (List.take 32 p)).x) (dF (decP (vF (dF DP)) (List.take 32 p)).y) (dF (decP (vF (dF DP)) (List.take 32 p)).z) (dF (decP (vF (dF DP)) (List.take 32 p)).t))).x) (dF (gneg (p4 (dF (decP (vF (dF DP)) (List.take 32 p)).x) (dF (decP (vF (dF DP)) (List.take 32 p)).y) (dF (decP (vF (dF DP)) (List.take 32 p)).z) (dF (decP (vF (dF DP)) (List.take 32 p)).t))).y) (dF (gneg (p4 (dF (decP (vF (dF DP)) (List.take 32 p)).x) (dF (decP (vF (dF DP)) (List.take 32 p)).y) (dF (decP (vF (dF DP)) (List.take 32 p)).z) (dF (decP (vF (dF DP)) (List.take 32 p)).t))).z) (dF (gneg (p4 (dF (decP (vF (dF DP)) (List.take 32 p)).x) (dF (decP (vF (dF DP)) (List.take 32 p)).y) (dF (decP (vF (dF DP)) (List.take 32 p)).z) (dF (decP (vF (dF DP)) (List.take 32 p)).t))).t)) 256 gO).x) (dF (gtm (vF (dF (addF DP DP))) (vF (dF (wideV (g (List.drop 0 (List.take (Ix.c (Int.toNat (32 : Int))).n s) ++ p ++ m))))) (p4 (dF (gneg (p4 (dF (decP (vF (dF DP)) (List.take 32 p)).x) (dF (decP (vF (dF DP)) (List.take 32 p)).y) (dF (decP (vF (dF DP)) (List.take 32 p)).z) (dF (decP (vF (dF DP)) (List.take 32 p)).t))).x) (dF (gneg (p4 (dF (decP (vF (dF DP)) (List.take 32 p)).x) (dF (decP (vF (dF DP)) (List.take 32 p)).y) (dF (decP (vF (dF DP)) (List.take 32 p)).z) (dF (decP (vF (dF DP)) (List.take 32 p)).t))).y) (dF (gneg (p4 (dF (decP (vF (dF DP)) (List.take 32 p)).x) (dF (decP (vF (dF DP)) (List.take 32 p)).y) (dF (decP (vF (dF DP)) (List.take 32 p)).z) (dF (decP (vF (dF DP)) (List.take 32 p)).t))).z) (dF (gneg (p4 (dF (decP (vF (dF DP)) (List.take 32 p)).x) (dF (decP (vF (dF DP)) (List.take 32 p)).y) (dF (decP (vF (dF DP)) (List.take 32 p)).z) (dF (decP (vF (dF DP)) (List.take 32 p)).t))).t)) 256 gO).y) (dF (gtm (vF (dF (addF DP DP))) (vF (dF (wideV (g (List.drop 0 (List.take (Ix.c (Int.toNat (32 : Int))).n s) ++ p ++ m))))) (p4 (dF (gneg (p4 (dF (decP (vF (dF DP)) (List.take 32 p)).x) (dF (decP (vF (dF DP)) (List.take 32 p)).y) (dF (decP (vF (dF DP)) (List.take 32 p)).z) (dF (decP (vF (dF DP)) (List.take 32 p)).t))).x) (dF (gneg (p4 (dF (decP (vF (dF DP)) (List.take 32 p)).x) (dF (decP (vF (dF DP)) (List.take 32 p)).y) (dF (decP (vF (dF DP)) (List.take 32 p)).z) (dF (decP (vF (dF DP)) (List.take 32 p)).t))).y) (dF (gneg (p4 (dF (decP (vF (dF DP)) (List.take 32 p)).x) (dF (decP (vF (dF DP)) (List.take 32 p)).y) (dF (decP (vF (dF DP)) (List.take 32 p)).z) (dF (decP (vF (dF DP)) (List.take 32 p)).t))).z) (dF (gneg (p4 (dF (decP (vF (dF DP)) (List.take 32 p)).x) (dF (decP (vF (dF DP)) (List.take 32 p)).y) (dF (decP (vF (dF DP)) (List.take 32 p)).z) (dF (decP (vF (dF DP)) (List.take 32 p)).t))).t)) 256 gO).z) (dF (gtm (vF (dF (addF DP DP))) (vF (dF (wideV (g (List.drop 0 (List.take (Ix.c (Int.toNat (32 : Int))).n s) ++ p ++ m))))) (p4 (dF (gneg (p4 (dF (decP (vF (dF DP)) (List.take 32 p)).x) (dF (decP (vF (dF DP)) (List.take 32 p)).y) (dF (decP (vF (dF DP)) (List.take 32 p)).z) (dF (decP (vF (dF DP)) (List.take 32 p)).t))).x) (dF (gneg (p4 (dF (decP (vF (dF DP)) (List.take 32 p)).x) (dF (decP (vF (dF DP)) (List.take 32 p)).y) (dF (decP (vF (dF DP)) (List.take 32 p)).z) (dF (decP (vF (dF DP)) (List.take 32 p)).t))).y) (dF (gneg (p4 (dF (decP (vF (dF DP)) (List.take 32 p)).x) (dF (decP (vF (dF DP)) (List.take 32 p)).y) (dF (decP (vF (dF DP)) (List.take 32 p)).z) (dF (decP (vF (dF DP)) (List.take 32 p)).t))).z) (dF (gneg (p4 (dF (decP (vF (dF DP)) (List.take 32 p)).x) (dF (decP (vF (dF DP)) (List.take 32 p)).y) (dF (decP (vF (dF DP)) (List.take 32 p)).z) (dF (decP (vF (dF DP)) (List.take 32 p)).t))).t)) 256 gO).t))).z) (dF (gadd (vF (dF (addF DP DP))) (p4 (dF (gtm (vF (dF (addF DP DP))) (vF (dF (vB (List.take 32 (List.drop (Ix.c (Int.toNat (32 : Int))).n (List.take s.length s)))))) (p4 (dF (decP (vF (dF DP)) baseL).x) (dF (decP (vF (dF DP)) baseL).y) (dF (decP (vF (dF DP)) baseL).z) (dF (decP (vF (dF DP)) baseL).t)) 256 gO).x) (dF (gtm (vF (dF (addF DP DP))) (vF (dF (vB (List.take 32 (List.drop (Ix.c (Int.toNat (32 : Int))).n (List.take s.length s)))))) (p4 (dF (decP (vF (dF DP)) baseL).x) (dF (decP (vF (dF DP)) baseL).y) (dF (decP (vF (dF DP)) baseL).z) (dF (decP (vF (dF DP)) baseL).t)) 256 gO).y) (dF (gtm (vF (dF (addF DP DP))) (vF (dF (vB (List.take 32 (List.drop (Ix.c (Int.toNat (32 : Int))).n (List.take s.length s)))))) (p4 (dF (decP (vF (dF DP)) baseL).x) (dF (decP (vF (dF DP)) baseL).y) (dF (decP (vF (dF DP)) baseL).z) (dF (decP (vF (dF DP)) baseL).t)) 256 gO).z) (dF (gtm (vF (dF (addF DP DP))) (vF (dF (vB (List.take 32 (List.drop (Ix.c (Int.toNat (32 : Int))).n (List.take s.length s)))))) (p4 (dF (decP (vF (dF DP)) baseL).x) (dF (decP (vF (dF DP)) baseL).y) (dF (decP (vF (dF DP)) baseL).z) (dF (decP (vF (dF DP)) baseL).t)) 256 gO).t)) (p4 (dF (gtm (vF (dF (addF DP DP))) (vF (dF (wideV (g (List.drop 0 (List.take (Ix.c (Int.toNat (32 : Int))).n s) ++ p ++ m))))) (p4 (dF (gneg (p4 (dF (decP (vF (dF DP)) (List.take 32 p)).x) (dF (decP (vF (dF DP)) (List.take 32 p)).y) (dF (decP (vF (dF DP)) (List.take 32 p)).z) (dF (decP (vF (dF DP)) (List.take 32 p)).t))).x) (dF (gneg (p4 (dF (decP (vF (dF DP)) (List.take 32 p)).x) (dF (decP (vF (dF DP)) (List.take 32 p)).y) (dF (decP (vF (dF DP)) (List.take 32 p)).z) (dF (decP (vF (dF DP)) (List.take 32 p)).t))).y) (dF (gneg (p4 (dF (decP (vF (dF DP)) (List.take 32 p)).x) (dF (decP (vF (dF DP)) (List.take 32 p)).y) (dF (decP (vF (dF DP)) (List.take 32 p)).z) (dF (decP (vF (dF DP)) (List.take 32 p)).t))).z) (dF (gneg (p4 (dF (decP (vF (dF DP)) (List.take 32 p)).x) (dF (decP (vF (dF DP)) (List.take 32 p)).y) (dF (decP (vF (dF DP)) (List.take 32 p)).z) (dF (decP (vF (dF DP)) (List.take 32 p)).t))).t)) 256 gO).x) (dF (gtm (vF (dF (addF DP DP))) (vF (dF (wideV (g (List.drop 0 (List.take (Ix.c (Int.toNat (32 : Int))).n s) ++ p ++ m))))) (p4 (dF (gneg (p4 (dF (decP (vF (dF DP)) (List.take 32 p)).x) (dF (decP (vF (dF DP)) (List.take 32 p)).y) (dF (decP (vF (dF DP)) (List.take 32 p)).z) (dF (decP (vF (dF DP)) (List.take 32 p)).t))).x) (dF (gneg (p4 (dF (decP (vF (dF DP)) (List.take 32 p)).x) (dF (decP (vF (dF DP)) (List.take 32 p)).y) (dF (decP (vF (dF DP)) (List.take 32 p)).z) (dF (decP (vF (dF DP)) (List.take 32 p)).t))).y) (dF (gneg (p4 (dF (decP (vF (dF DP)) (List.take 32 p)).x) (dF (decP (vF (dF DP)) (List.take 32 p)).y) (dF (decP (vF (dF DP)) (List.take 32 p)).z) (dF (decP (vF (dF DP)) (List.take 32 p)).t))).z) (dF (gneg (p4 (dF (decP (vF (dF DP)) (List.take 32 p)).x) (dF (decP (vF (dF DP)) (List.take 32 p)).y) (dF (decP (vF (dF DP)) (List.take 32 p)).z) (dF (decP (vF (dF DP)) (List.take 32 p)).t))).t)) 256 gO).y) (dF (gtm (vF (dF (addF DP DP))) (vF (dF (wideV (g (List.drop 0 (List.take (Ix.c (Int.toNat (32 : Int))).n s) ++ p ++ m))))) (p4 (dF (gneg (p4 (dF (decP (vF (dF DP)) (List.take 32 p)).x) (dF (decP (vF (dF DP)) (List.take 32 p)).y) (dF (decP (vF (dF DP)) (List.take 32 p)).z) (dF (decP (vF (dF DP)) (List.take 32 p)).t))).x) (dF (gneg (p4 (dF (decP (vF (dF DP)) (List.take 32 p)).x) (dF (decP (vF (dF DP)) (List.take 32 p)).y) (dF (decP (vF (dF DP)) (List.take 32 p)).z) (dF (decP (vF (dF DP)) (List.take 32 p)).t))).y) (dF (gneg (p4 (dF (decP (vF (dF DP)) (List.take 32 p)).x) (dF (decP (vF (dF DP)) (List.take 32 p)).y) (dF (decP (vF (dF DP)) (List.take 32 p)).z) (dF (decP (vF (dF DP)) (List.take 32 p)).t))).z) (dF (gneg (p4 (dF (decP (vF (dF DP)) (List.take 32 p)).x) (dF (decP (vF (dF DP)) (List.take 32 p)).y) (dF (decP (vF (dF DP)) (List.take 32 p)).z) (dF (decP (vF (dF DP)) (List.take 32 p)).t))).t)) 256 gO).z) (dF (gtm (vF (dF (addF DP DP))) (vF (dF (wideV (g (List.drop 0 (List.take (Ix.c (Int.toNat (32 : Int))).n s) ++ p ++ m))))) (p4 (dF (gneg (p4 (dF (decP (vF (dF DP)) (List.take 32 p)).x) (dF (decP (vF (dF DP)) (List.take 32 p)).y) (dF (decP (vF (dF DP)) (List.take 32 p)).z) (dF (decP (vF (dF DP)) (List.take 32 p)).t))).x) (dF (gneg (p4 (dF (decP (vF (dF DP)) (List.take 32 p)).x) (dF (decP (vF (dF DP)) (List.take 32 p)).y) (dF (decP (vF (dF DP)) (List.take 32 p)).z) (dF (decP (vF (dF DP)) (List.take 32 p)).t))).y) (dF (gneg (p4 (dF (decP (vF (dF DP)) (List.take 32 p)).x) (dF (decP (vF (dF DP)) (List.take 32 p)).y) (dF (decP (vF (dF DP)) (List.take 32 p)).z) (dF (decP (vF (dF DP)) (List.take 32 p)).t))).z) (dF (gneg (p4 (dF (decP (vF (dF DP)) (List.take 32 p)).x) (dF (decP (vF (dF DP)) (List.take 32 p)).y) (dF (decP (vF (dF DP)) (List.take 32 p)).z) (dF (decP (vF (dF DP)) (List.take 32 p)).t))).t)) 256 gO).t))).t))) == List.drop 0 (List.take 32 s)))) (ob := [(p.length != 32) = false, (s.length != 64) = false, 32 ≤ p.length, 32 ≤ s.length, s.length ≤ s.length, 32 ≤ (List.drop 32 (List.take s.length s)).length, (!decB 94991750553327537054923576013098519116177106212663501036117577537042505103504 (List.take 32 p)) = false, smallV 74191411869338878686276167017509130379084227759686438032777571066171880567110 (p4 (dF (decP (vF (dF DP)) (List.take 32 p)).x) (dF (decP (vF (dF DP)) (List.take 32 p)).y) (dF (decP (vF (dF DP)) (List.take 32 p)).z) (dF (decP (vF (dF DP)) (List.take 32 p)).t)) = false, (!Decidable.decide (vF (dF (vB (List.take 32 (List.drop 32 (List.take s.length s))))) < 7237005577332262213973186563042994240857116359379907606001950938285454250989)) = false, 0 ≤ 32, 32 ≤ s.length, (List.drop 0 (List.take 32 s)).length + p.length + m.length ≤ 1000000, 0 ≤ 32, 32 ≤ s.length]) (sc' := []) (by kernel_rfl) ?_ ?_
              · rw [hS, tp, decB_lit lP, hb, eDP, p4_pt a0, W2_lit, e8, hsm, vd lS, QQ_lit', List.drop_zero]
                exact ⟨o1, o2, by omega, by omega, Nat.le_refl _, o3, rfl, rfl, by rw [decide_eq_true hq]; rfl, by omega, by omega, by rw [List.length_take]; omega, by omega, by omega, trivial⟩
              · have t0 := gtm_ok W2_lt (vB (List.drop 32 s)) b0 256 gO gO_ok
                have n0 := gneg_ok a0
                have u0 := gtm_ok W2_lt (wideV (g (List.take 32 s ++ p ++ m))) n0 256 gO gO_ok
                have ix : (Ix.c (Int.toNat 32)).n = 32 := rfl
                rw [ix, hS, tp, List.drop_zero, eDP, eW2, p4_pt a0, p4_pt b0, vd lS, vd (Nat.lt_trans (Nat.mod_lt _ (by decide)) QQ_lt : wideV (g (List.take 32 s ++ p ++ m)) < M256), p4_pt n0, p4_pt t0, p4_pt u0, p4_pt (gadd_ok W2_lt t0 u0), encV_mod,
                  gadd_mod W2_lt W2_mod t0 u0, gtm_mod W2_lt W2_mod _ b0 _ _ gO_ok, gtm_mod W2_lt W2_mod _ n0 _ _ gO_ok, gneg_mod a0, decP_mod lB, decP_mod lP, pm_id gO_okP]
                have ew : verW g p m s = verQ g p m s := by unfold verW; simp [hp, hs, hb, hsm, hq]
                rw [ew]
                exact wkR_refl _
            · refine hold_endw mixed (okH11a hg hk) (unroll := true) (f := 400) (sc := [false, false, false, false, true]) (r := (SV.cb false)) (ob := [(p.length != 32) = false, (s.length != 64) = false, 32 ≤ p.length, 32 ≤ s.length, s.length ≤ s.length, 32 ≤ (List.drop 32 (List.take s.length s)).length, (!decB 94991750553327537054923576013098519116177106212663501036117577537042505103504 (List.take 32 p)) = false, smallV 74191411869338878686276167017509130379084227759686438032777571066171880567110 (p4 (dF (decP (vF (dF DP)) (List.take 32 p)).x) (dF (decP (vF (dF DP)) (List.take 32 p)).y) (dF (decP (vF (dF DP)) (List.take 32 p)).z) (dF (decP (vF (dF DP)) (List.take 32 p)).t)) = false, (!Decidable.decide (vF (dF (vB (List.take 32 (List.drop 32 (List.take s.length s))))) < 7237005577332262213973186563042994240857116359379907606001950938285454250989)) = true]) (sc' := []) (by kernel_rfl) ?_ ?_
              · rw [hS, tp, decB_lit lP, hb, eDP, p4_pt a0, W2_lit, e8, hsm, vd lS, QQ_lit']; exact ⟨o1, o2, by omega, by omega, Nat.le_refl _, o3, rfl, rfl, by rw [decide_eq_false hq]; rfl, trivial⟩
              · exact (by unfold verW; simp [hp, hs, hb, hsm, hq] : false = verW g p m s)
          | true =>
            refine hold_endw mixed (okH11a hg hk) (unroll := true) (f := 400) (sc := [false, false, false, true]) (r := (SV.cb false)) (ob := [(p.length != 32) = false, (s.length != 64) = false, 32 ≤ p.length, 32 ≤ s.length, s.length ≤ s.length, 32 ≤ (List.drop 32 (List.take s.length s)).length, (!decB 94991750553327537054923576013098519116177106212663501036117577537042505103504 (List.take 32 p)) = false, smallV 74191411869338878686276167017509130379084227759686438032777571066171880567110 (p4 (dF (decP (vF (dF DP)) (List.take 32 p)).x) (dF (decP (vF (dF DP)) (List.take 32 p)).y) (dF (decP (vF (dF DP)) (List.take 32 p)).z) (dF (decP (vF (dF DP)) (List.take 32 p)).t)) = true]) (sc' := []) (by kernel_rfl) ?_ ?_
            · rw [tp, decB_lit lP, hb, eDP, p4_pt a0, W2_lit, e8, hsm]; exact ⟨o1, o2, by omega, by omega, Nat.le_refl _, o3, rfl, rfl, trivial⟩
            · exact (by unfold verW; simp [hp, hs, hb, hsm] : false = verW g p m s)
        | false =>
          refine hold_endw mixed (okH11a hg hk) (unroll := true) (f := 400) (sc := [false, false, true]) (r := (SV.cb false)) (ob := [(p.length != 32) = false, (s.length != 64) = false, 32 ≤ p.length, 32 ≤ s.length, s.length ≤ s.length, 32 ≤ (List.drop 32 (List.take s.length s)).length, (!decB 94991750553327537054923576013098519116177106212663501036117577537042505103504 (List.take 32 p)) = true]) (sc' := []) (by kernel_rfl) ?_ ?_
          · rw [tp, decB_lit lP, hb]; exact ⟨o1, o2, by omega, by omega, Nat.le_refl _, o3, rfl, trivial⟩
          · exact (by unfold verW; simp [hp, hs, hb] : false = verW g p m s)
      · refine hold_endw mixed (okH11a hg hk) (unroll := true) (f := 400) (sc := [false, true]) (r := (SV.cb false)) (ob := [(p.length != 32) = false, (s.length != 64) = true]) (sc' := []) (by kernel_rfl) ?_ ?_
        · exact ⟨by rw [hp]; rfl, bne_iff_ne.mpr hs, trivial⟩
        · exact (by unfold verW; simp [hp, hs] : false = verW g p m s)
    · refine hold_endw mixed (okH11a hg hk) (unroll := true) (f := 400) (sc := [true]) (r := (SV.cb false)) (ob := [(p.length != 32) = true]) (sc' := []) (by kernel_rfl) ?_ ?_
      · exact ⟨bne_iff_ne.mpr hp, trivial⟩
      · exact (by unfold verW; simp [hp] : false = verW g p m s)
  · cases h
end Go.Eng.G

namespace Go.Eng.G
open Go Go.Eng Go.Proofs Go.Eng.B
set_option maxRecDepth 100000
set_option maxHeartbeats 1000000
def H12a (g : List Nat → List Nat) : Ctr := addC 27 eSmallX (H10b g)
theorem encR_lt (p : P4) : encR p < M256 := enc_lt (ml_lt _ _) (Nat.mod_lt _ (by decide))
theorem cRSmallX : ∀ args res ob, eSmallX args = some (res, ob) → All ob → Contract Tryz.prog 27 args res := by
  intro args res ob h hob
  unfold eSmallX t1b at h
  split at h
  · rename_i a
    cases h
    refine contract Tryz.func27 (body := bodyOf Tryz.f27) rfl (by kernel_rfl) (by kernel_rfl) rfl ?_
    rintro ⟨ha, _⟩ w0 S
    have p0 := rdP_ok a
    have p1 := p4_pt (pokP_pok p0)
    have q2 := rtm_ok dN 8 (rdP a) 256 gO gO_okP
    have p2 := p4_pt (pokP_pok q2)
    cases hb : rdB a with
    | true =>
      refine hold_endw mixed okH7a (unroll := true) (f := 100) (sc := [true]) (r := .b (dB (encR (p4 (dF (rtm dN 8 (p4 (dF (rdP a).x) (dF (rdP a).y) (dF (rdP a).z) (dF (rdP a).t)) 256 gO).x) (dF (rtm dN 8 (p4 (dF (rdP a).x) (dF (rdP a).y) (dF (rdP a).z) (dF (rdP a).t)) 256 gO).y) (dF (rtm dN 8 (p4 (dF (rdP a).x) (dF (rdP a).y) (dF (rdP a).z) (dF (rdP a).t)) 256 gO).z) (dF (rtm dN 8 (p4 (dF (rdP a).x) (dF (rdP a).y) (dF (rdP a).z) (dF (rdP a).t)) 256 gO).t))) == [1, 0, 0, 0, 0, 0, 0, 0, 0, 0, 0, 0, 0, 0, 0, 0, 0, 0, 0, 0, 0, 0, 0, 0, 0, 0, 0, 0, 0, 0, 0, 0])) (ob := [rdB a = true, pokP (p4 (dF (rdP a).x) (dF (rdP a).y) (dF (rdP a).z) (dF (rdP a).t)), pokP (p4 (dF (rtm dN 8 (p4 (dF (rdP a).x) (dF (rdP a).y) (dF (rdP a).z) (dF (rdP a).t)) 256 gO).x) (dF (rtm dN 8 (p4 (dF (rdP a).x) (dF (rdP a).y) (dF (rdP a).z) (dF (rdP a).t)) 256 gO).y) (dF (rtm dN 8 (p4 (dF (rdP a).x) (dF (rdP a).y) (dF (rdP a).z) (dF (rdP a).t)) 256 gO).z) (dF (rtm dN 8 (p4 (dF (rdP a).x) (dF (rdP a).y) (dF (rdP a).z) (dF (rdP a).t)) 256 gO).t))]) (sc' := []) (by kernel_rfl) ?_ ?_
      · rw [p1, p2]
        exact ⟨hb, p0, q2, trivial⟩
      · rw [p1, p2]
        have e : smR a = decide (nsm 8 (rdPt a) = pO) := by unfold smR; rw [hb, Bool.true_and]
        show wkR (.b (dB (encR (rtm dN 8 (rdP a) 256 gO)) == [1, 0, 0, 0, 0, 0, 0, 0, 0, 0, 0, 0, 0, 0, 0, 0, 0, 0, 0, 0, 0, 0, 0, 0, 0, 0, 0, 0, 0, 0, 0, 0])) (.b (smR a))
        rw [e, dB_one, dB_inj (encR_lt _) (by decide), smR_ref a hb]
        exact wkR_refl _
    | false =>
      refine hold_endw mixed okH4 (unroll := true) (f := 100) (sc := [false]) (r := (SV.cb false)) (ob := [rdB a = false]) (sc' := []) (by kernel_rfl) ?_ ?_
      · exact ⟨hb, trivial⟩
      · exact (by unfold smR; rw [hb]; rfl : false = smR a)
  · cases h
theorem okH12a {g : List Nat → List Nat} (hg : g = sum64) (hk : HashOk g) : CtrOk Tryz.prog (H12a g) := addC_ok (okH10b hg hk) cRSmallX
theorem dN_ltP : dN < P255 := by decide +kernel
theorem eDN : vF (dF dN) = dN := vd (P_M dN_ltP)
theorem wV_w2 {g : List Nat → List Nat} (hk : HashOk g) (x : List Nat) : wV (g x) = wideV (g x) := by unfold wV; rw [if_pos (by rw [hk.len]; decide)]
theorem vB_wide2 (b : List Nat) : vB (dB (wideV b)) = wideV b := bd (Nat.lt_trans (Nat.mod_lt _ (by decide)) QQ_lt)
theorem cRVer {g : List Nat → List Nat} (hg : g = sum64) (hk : HashOk g) : ∀ args res ob, eVer g args = some (res, ob) → All ob → Contract Tryz.prog 30 args res := by
  intro args res ob h hob
  unfold eVer at h
  split at h
  · rename_i p m s
    cases h
    refine contract Tryz.func30 (body := bodyOf Tryz.f30) rfl (by kernel_rfl) (by kernel_rfl) rfl ?_
    rintro ⟨hp2, hm2, hs2, _⟩ w0 S
    have hm := hob.1
    by_cases hp : p.length = 32
    · by_cases hs : s.length = 64
      · have hS : List.take 32 (List.drop 32 (List.take s.length s)) = List.drop 32 s := by
          rw [List.take_length, List.take_of_length_le (by rw [List.length_drop]; omega)]
        have hx : (List.drop 32 s).length = 32 := by rw [List.length_drop]; omega
        have lS : vB (List.drop 32 s) < M256 := vB_lt ⟨hx, fun x h => hs2.2 x (List.mem_of_mem_drop h)⟩
        have lP := maskL_lt (u := p) ⟨hp, hp2.2⟩
        have lB : dY baseL < M256 := maskL_lt ⟨rfl, by decide⟩
        have o1 : (p.length != 32) = false := by rw [hp]; rfl
        have o2 : (s.length != 64) = false := by rw [hs]; rfl
        have o3 : 32 ≤ (List.drop 32 (List.take s.length s)).length := by rw [List.take_length]; omega
        have tp : List.take 32 p = p := take32 hp
        cases hb : rdB p with
        | true =>
          cases hsm : smR p with
          | false =>
            by_cases hq : vB (List.drop 32 s) < QQ
            · refine hold_endw mixed (okH12a hg hk) (unroll := true) (f := 400) (sc := [false, false, false, false, false]) (r := (SV.b (dB (encR (p4 (dF (radd (vF (dF dN)) (p4 (dF (rtm dN (vB (List.take 32 (List.drop (Ix.c (Int.toNat (32 : Int))).n (List.take s.length s)))) (p4 (dF (rdP baseL).x) (dF (rdP baseL).y) (dF (rdP baseL).z) (dF (rdP baseL).t)) 256 gO).x) (dF (rtm dN (vB (List.take 32 (List.drop (Ix.c (Int.toNat (32 : Int))).n (List.take s.length s)))) (p4 (dF (rdP baseL).x) (dF (rdP baseL).y) (dF (rdP baseL).z) (dF (rdP baseL).t)) 256 gO).y) (dF (rtm dN (vB (List.take 32 (List.drop (Ix.c (Int.toNat (32 : Int))).n (List.take s.length s)))) (p4 (dF (rdP baseL).x) (dF (rdP baseL).y) (dF (rdP baseL).z) (dF (rdP baseL).t)) 256 gO).z) (dF (rtm dN (vB (List.take 32 (List.drop (Ix.c (Int.toNat (32 : Int))).n (List.take s.length s)))) (p4 (dF (rdP baseL).x) (dF (rdP baseL).y) (dF (rdP baseL).z) (dF (rdP baseL).t)) 256 gO).t)) (p4 (dF (rtm dN (vB (dB (wV (g (List.drop 0 (List.take (Ix.c (Int.toNat (32 : Int))).n s) ++ p ++ m))))) (p4 (dF (rneg (p4 (dF (rdP (List.take 32 p)).x) (dF (rdP (List.take 32 p)).y) (dF (rdP (List.take 32 p)).z) (dF (rdP (List.take 32 p)).t))).x) (dF (rneg (p4 (dF (rdP (List.take 32 p)).x) (dF (rdP (List.take 32 p)).y) (dF (rdP (List.take 32 p)).z) (dF (rdP (List.take 32 p)).t))).y) (dF (rneg (p4 (dF (rdP (List.take 32 p)).x) (dF (rdP (List.take 32 p)).y) (dF (rdP (List.take 32 p)).z) (dF (rdP (List.take 32 p)).t))).z) (dF (rneg (p4 (dF (rdP (List.take 32 p)).x) (dF (rdP (List.take 32 p)).y) (dF (rdP (List.take 32 p)).z) (dF (rdP (List.take 32 p)).t))).t)) 256 gO).x) (dF (rtm dN (vB (dB (wV (g (List.drop 0 (List.take (Ix.c (Int.toNat (32 : Int))).n s) ++ p ++ m))))) (p4 (dF (rneg (p4 (dF (rdP (List.take 32 p)).x) (dF (rdP (List.take 32 p)).y) (dF (rdP (List.take 32 p)).z) (dF (rdP (List.take 32 p)).t))).x) (dF (rneg (p4 (dF (rdP (List.take 32 p)).x) (dF (rdP (List.take 32 p)).y) (dF (rdP (List.take 32 p)).z) (dF (rdP (List.take 32 p)).t))).y) (dF (rneg (p4 (dF (rdP (List.take 32 p)).x) (dF (rdP (List.take 32 p)).y) (dF (rdP (List.take 32 p)).z) (dF (rdP (List.take 32 p)).t))).z) (dF (rneg (p4 (dF (rdP (List.take 32 p)).x) (dF (rdP (List.take 32 p)).y) (dF (rdP (List.take 32 p)).z) (dF (rdP (List.take 32 p)).t))).t)) 256 gO).y) (dF (rtm dN (vB (dB (wV (g (List.drop 0 (List.take (Ix.c (Int.toNat (32 : Int))).n s) ++ p ++ m))))) (p4 (dF (rneg (p4 (dF (rdP (List.take 32 p)).x) (dF (rdP (List.take 32 p)).y) (dF (rdP (List.take 32 p)).z) (dF (rdP (List.take 32 p)).t))).x) (dF (rneg (p4 (dF (rdP (List.take 32 p)).x) (dF (rdP (List.take 32 p)).y) (dF (rdP (List.take 32 p)).z) (dF (rdP (List.take 32 p)).t))).y) (dF (rneg (p4 (dF (rdP (List.take 32 p)).x) (dF (rdP (List.take 32 p)).y) (dF (rdP (List.take 32 p)).z) (dF (rdP (List.take 32 p)).t))).z) (dF (rneg (p4 (dF (rdP (List.take 32 p)).x) (dF (rdP (List.take 32 p)).y) (dF (rdP (List.take 32 p)).z) (dF (rdP (List.take 32 p)).t))).t)) 256 gO).z) (dF (rtm dN (vB (dB (wV (g (List.drop 0 (List.take (Ix.c (Int.toNat (32 : Int))).n s) ++ p ++ m))))) (p4 (dF (rneg (p4 (dF (rdP (List.take 32 p)).x) (dF (rdP (List.take 32 p)).y) (dF (rdP (List.take 32 p)).z) (dF (rdP (List.take 32 p)).t))).x) (dF (rneg (p4 (dF (rdP (List.take 32 p)).x) (dF (rdP (List.take 32 p)).y) (dF (rdP (List.take 32 p)).z) (dF (rdP (List.take 32 p)).t))).y) (dF (rneg (p4 (dF (rdP (List.take 32 p)).x) (dF (rdP (List.take 32 p)).y) (dF (rdP (List.take 32 p)).z) (dF (rdP (List.take 32 p)).t))).z) (dF (rneg (p4 (dF (rdP (List.take 32 p)).x) (dF (rdP (List.take 32 p)).y) (dF (rdP (List.take 32 p)).z) (dF (rdP (List.take 32 p)).t))).t)) 256 gO).t))).x) (dF (radd (vF (dF dN)) (p4 (dF (rtm dN (vB (List.take 32 (List.drop (Ix.c (Int.toNat (32 : Int))).n (List.take s.length s)))) (p4 (dF (rdP baseL).x) (dF (rdP baseL).y) (dF (rdP baseL).z) (dF (rdP baseL).t)) 256 gO).x) (dF (rtm dN (vB (List.take 32 (List.drop (Ix.c (Int.toNat (32 : Int))).n (List.take s.length s)))) (p4 (dF (rdP baseL).x) (dF (rdP baseL).y) (dF (rdP baseL).z) (dF (rdP baseL).t)) 256 gO).y) (dF (rtm dN (vB (List.take 32 (List.drop (Ix.c (Int.toNat (32 : Int))).n (List.take s.length s)))) (p4 (dF (rdP baseL).x) (dF (rdP baseL).y) (dF (rdP baseL).z) (dF (rdP baseL).t)) 256 gO).z) (dF (rtm dN (vB (List.take 32 (List.drop (Ix.c (Int.toNat (32 : Int))).n (List.take s.length s)))) (p4 (dF (rdP baseL).x) (dF (rdP baseL).y) (dF (rdP baseL).z) (dF (rdP baseL).t)) 256 gO).t)) (p4 (dF (rtm dN (vB (dB (wV (g (List.drop 0 (List.take (Ix.c (Int.toNat (32 : Int))).n s) ++ p ++ m))))) (p4 (dF (rneg (p4 (dF (rdP (List.take 32 p)).x) (dF (rdP (List.take 32 p)).y) (dF (rdP (List.take 32 p)).z) (dF (rdP (List.take 32 p)).t))).x) (dF (rneg (p4 (dF (rdP (List.take 32 p)).x) (dF (rdP (List.take 32 p)).y) (dF (rdP (List.take 32 p)).z) (dF (rdP (List.take 32 p)).t))).y) (dF (rneg (p4 (dF (rdP (List.take 32 p)).x) (dF (rdP (List.take 32 p)).y) (dF (rdP (List.take 32 p)).z) (dF (rdP (List.take 32 p)).t))).z) (dF (rneg (p4 (dF (rdP (List.take 32 p)).x) (dF (rdP (List.take 32 p)).y) (dF (rdP (List.take 32 p)).z) (dF (rdP (List.take 32 p)).t))).t)) 256 gO).x) (dF (rtm dN (vB (dB (wV (g (List.drop 0 (List.take (Ix.c (Int.toNat (32 : Int))).n s) ++ p ++ m))))) (p4 (dF (rneg (p4 (dF (rdP (List.take 32 p)).x) (dF (rdP (List.take 32 p)).y) (dF (rdP (List.take 32 p)).z) (dF (rdP (List.take 32 p)).t))).x) (dF (rneg (p4 (dF (rdP (List.take 32 p)).x) (dF (rdP (List.take 32 p)).y) (dF (rdP (List.take 32 p)).z) (dF (rdP (List.take 32 p)).t))).y) (dF (rneg (p4 (dF (rdP (List.take 32 p)).x) (dF (rdP (List.take 32 p)).y) (dF (rdP (List.take 32 p)).z) (dF (rdP (List.take 32 p)).t))).z) (dF (rneg (p4 (dF (rdP (List.take 32 p)).x) (dF (rdP (List.take 32 p)).y) (dF (rdP (List.take 32 p)).z) (dF (rdP (List.take 32 p)).t))).t)) 256 gO).y) (dF (rtm dN (vB (dB (wV (g (List.drop 0 (List.take (Ix.c (Int.toNat (32 : Int))).n s) ++ p ++ m))))) (p4 (dF (rneg (p4 (dF (rdP (List.take 32 p)).x) (dF (rdP (List.take 32 p)).y) (dF (rdP (List.take 32 p)).z) (dF (rdP (List.take 32 p)).t))).x) (dF (rneg (p4 (dF (rdP (List.take 32 p)).x) (dF (rdP (List.take 32 p)).y) (dF (rdP (List.take 32 p)).z) (dF (rdP (List.take 32 p)).t))).y) (dF (rneg (p4 (dF (rdP (List.take 32 p)).x) (dF (rdP (List.take 32 p)).y) (dF (rdP (List.take 32 p)).z) (dF (rdP (List.take 32 p)).t))).z) (dF (rneg (p4 (dF (rdP (List.take 32 p)).x) (dF (rdP (List.take 32 p)).y) (dF (rdP (List.take 32 p)).z) (dF (rdP (List.take 32 p)).t))).t)) 256 gO).z) (dF (rtm dN (vB (dB (wV (g (List.drop 0 (List.take (Ix.c (Int.toNat (32 : Int))).n s) ++ p ++ m))))) (p4 (dF (rneg (p4 (dF (rdP (List.take 32 p)).x) (dF (rdP (List.take 32 p)).y) (dF (rdP (List.take 32 p)).z) (dF (rdP (List.take 32 p)).t))).x) (dF (rneg (p4 (dF (rdP (List.take 32 p)).x) (dF (rdP (List.take 32 p)).y) (dF (rdP (List.take 32 p)).z) (dF (rdP (List.take 32 p)).t))).y) (dF (rneg (p4 (dF (rdP (List.take 32 p)).x) (dF (rdP (List.take 32 p)).y) (dF (rdP (List.take 32 p)).z) (dF (rdP (List.take 32 p)).t))).z) (dF (rneg (p4 (dF (rdP (List.take 32 p)).x) (dF (rdP (List.take 32 p)).y) (dF (rdP (List.take 32 p)).z) (dF (rdP (List.take 32 p)).t))).t)) 256 gO).t))).y) (dF (radd (vF (dF dN)) (p4 (dF (rtm dN (vB (List.take 32 (List.drop (Ix.c (Int.toNat (32 : Int))).n (List.take s.length s)))) (p4 (dF (rdP baseL).x) (dF (rdP baseL).y) (dF (rdP baseL).z) (dF (rdP baseL).t)) 256 gO).x) (dF (rtm dN (vB (List.take 32 (List.drop (Ix.c (Int.toNat (32 : Int))).n (List.take s.length s)))) (p4 (dF (rdP baseL).x) (dF (rdP baseL).y) (dF (rdP baseL).z) (dF (rdP baseL).t)) 256 gO).y) (dF (rtm dN (vB (List.take 32 (List.drop (Ix.c (Int.toNat (32 : Int))).n (List.take s.length s)))) (p4 (dF (rdP baseL).x) (dF (rdP baseL).y) (dF (rdP baseL).z) (dF (rdP baseL).t)) 256 gO).z) (dF (rtm dN (vB (List.take 32 (List.drop (Ix.c (Int.toNat (32 : Int))).n (List.take s.length s)))) (p4 (dF (rdP baseL).x) (dF (rdP baseL).y) (dF (rdP baseL).z) (dF (rdP baseL).t)) 256 gO).t)) (p4 (dF (rtm dN (vB (dB (wV (g (List.drop 0 (List.take (Ix.c (Int.toNat (32 : Int))).n s) ++ p ++ m))))) (p4 (dF (rneg (p4 (dF (rdP (List.take 32 p)).x) (dF (rdP (List.take 32 p)).y) (dF (rdP (List.take 32 p)).z) (dF (rdP (List.take 32 p)).t))).x) (dF (rneg (p4 (dF (rdP (List.take 32 p)).x) (dF (rdP (List.take 32 p)).y) (dF (rdP (List.take 32 p)).z) (dF (rdP (List.take 32 p)).t))).y) (dF (rneg (p4 (dF (rdP (List.take 32 p)).x) (dF (rdP (List.take 32 p)).y) (dF (rdP (List.take 32 p)).z) (dF (rdP (List.take 32 p)).t))).z) (dF (rneg (p4 (dF (rdP (List.take 32 p)).x) (dF (rdP (List.take 32 p)).y) (dF (rdP (List.take 32 p)).z) (dF (rdP (List.take 32 p)).t))).t)) 256 gO).x) (dF (rtm dN (vB (dB (wV (g (List.drop 0 (List.take (Ix.c (Int.toNat (32 : Int))).n s) ++ p ++ m))))) (p4 (dF (rneg (p4 (dF (rdP (List.take 32 p)).x) (dF (rdP (List.take 32 p)).y) (dF (rdP (List.take 32 p)).z) (dF (rdP (List.take 32 p)).t))).x) (dF (rneg (p4 (dF (rdP (List.take 32 p)).x) (dF (rdP (List.take 32 p)).y) (dF (rdP (List.take 32 p)).z) (dF (rdP (List.take 32 p)).t))).y) (dF (rneg (p4 (dF (rdP (List.take 32 p)).x) (dF (rdP (List.take 32 p)).y) (dF (rdP (List.take 32 p)).z) (dF (rdP (List.take 32 p)).t))).z) (dF (rneg (p4 (dF (rdP (List.take 32 p)).x) (dF (rdP (List.take 32 p)).y) (dF (rdP (List.take 32 p)).z) (dF (rdP (List.take 32 p)).t))).t)) 256 gO).y) (dF (rtm dN (vB (dB (wV (g (List.drop 0 (List.take (Ix.c (Int.toNat (32 : Int))).n s) ++ p ++ m))))) (p4 (dF (rneg (p4 (dF (rdP (List.take 32 p)).x) (dF (rdP (List.take 32 p)).y) (dF (rdP (List.take 32 p)).z) (dF (rdP (List.take 32 p)).t))).x) (dF (rneg (p4 (dF (rdP (List.take 32 p)).x) (dF (rdP (List.take 32 p)).y) (dF (rdP (List.take 32 p)).z) (dF (rdP (List.take 32 p)).t))).y) (dF (rneg (p4 (dF (rdP (List.take 32 p)).x) (dF (rdP (List.take 32 p)).y) (dF (rdP (List.take 32 p)).z) (dF (rdP (List.take 32 p)).t))).z) (dF (rneg (p4 (dF (rdP (List.take 32 p)).x) (dF (rdP (List.take 32 p)).y) (dF (rdP (List.take 32 p)).z) (dF (rdP (List.take 32 p)).t))).t)) 256 gO).z) (dF (rtm dN (vB (dB (wV (g (List.drop 0 (List.take (Ix.c (Int.toNat (32 : Int))).n s) ++ p ++ m))))) (p4 (dF (rneg (p4 (dF (rdP (List.take 32 p)).x) (dF (rdP (List.take 32 p)).y) (dF (rdP (List.take 32 p)).z) (dF (rdP (List.take 32 p)).t))).x) (dF (rneg (p4 (dF (rdP (List.take 32 p)).x) (dF (rdP (List.take 32 p)).y) (dF (rdP (List.take 32 p)).z) (dF (rdP (List.take 32 p)).t))).y) (dF (rneg (p4 (dF (rdP (List.take 32 p)).x) (dF (rdP (List.take 32 p)).y) (dF (rdP (List.take 32 p)).z) (dF (rdP (List.take 32 p)).t))).z) (dF (rneg (p4 (dF (rdP (List.take 32 p)).x) (dF (rdP (List.take 32 p)).y) (dF (rdP (List.take 32 p)).z) (dF (rdP (List.take 32 p)).t))).t)) 256 gO).t))).z) (dF (radd (vF (dF dN)) (p4 (dF (rtm dN (vB (List.take 32 (List.drop (Ix.c (Int.toNat (32 : Int))).n (List.take s.length s)))) (p4 (dF (rdP baseL).x) (dF (rdP baseL).y) (dF (rdP baseL).z) (dF (rdP baseL).t)) 256 gO).x) (dF (rtm dN (vB (List.take 32 (List.drop (Ix.c (Int.toNat (32 : Int))).n (List.take s.length s)))) (p4 (dF (rdP baseL).x) (dF (rdP baseL).y) (dF (rdP baseL).z) (dF (rdP baseL).t)) 256 gO).y) (dF (rtm dN (vB (List.take 32 (List.drop (Ix.c (Int.toNat (32 : Int))).n (List.take s.length s)))) (p4 (dF (rdP baseL).x) (dF (rdP baseL).y) (dF (rdP baseL).z) (dF (rdP baseL).t)) 256 gO).z) (dF (rtm dN (vB (List.take 32 (List.drop (Ix.c (Int.toNat (32 : Int))).n (List.take s.length s)))) (p4 (dF (rdP baseL).x) (dF (rdP baseL).y) (dF (rdP baseL).z) (dF (rdP baseL).t)) 256 gO).t)) (p4 (dF (rtm dN (vB (dB (wV (g (List.drop 0 (List.take (Ix.c (Int.toNat (32 : Int))).n s) ++ p ++ m))))) (p4 (dF (rneg (p4 (dF (rdP (List.take 32 p)).x) (dF (rdP (List.take 32 p)).y) (dF (rdP (List.take 32 p)).z) (dF (rdP (List.take 32 p)).t))).x) (dF (rneg (p4 (dF (rdP (List.take 32 p)).x) (dF (rdP (List.take 32 p)).y) (dF (rdP (List.take 32 p)).z) (dF (rdP (List.take 32 p)).t))).y) (dF (rneg (p4 (dF (rdP (List.take 32 p)).x) (dF (rdP (List.take 32 p)).y) (dF (rdP (List.take 32 p)).z) (dF (rdP (List.take 32 p)).t))).z) (dF (rneg (p4 (dF (rdP (List.take 32 p)).x) (dF (rdP (List.take 32 p)).y) (dF (rdP (List.take 32 p)).z) (dF (rdP (List.take 32 p)).t))).t)) 256 gO).x) (dF (rtm dN (vB (dB (wV (g (List.drop 0 (List.take (Ix.c (Int.toNat (32 : Int))).n s) ++ p ++ m))))) (p4 (dF (rneg (p4 (dF (rdP (List.take 32 p)).x) (dF (rdP (List.take 32 p)).y) (dF (rdP (List.take 32 p)).z) (dF (rdP (List.take 32 p)).t))).x) (dF (rneg (p4 (dF (rdP (List.take 32 p)).x) (dF (rdP (List.take 32 p)).y) (dF (rdP (List.take 32 p)).z) (dF (rdP (List.take 32 p)).t))).y) (dF (rneg (p4 (dF (rdP (List.take 32 p)).x) (dF (rdP (List.take 32 p)).y) (dF (rdP (List.take 32 p)).z) (dF (rdP (List.take 32 p)).t))).z) (dF (rneg (p4 (dF (rdP (List.take 32 p)).x) (dF (rdP (List.take 32 p)).y) (dF (rdP (List.take 32 p)).z) (dF (rdP (List.take 32 p)).t))).t)) 256 gO).y) (dF (rtm dN (vB (dB (wV (g (List.drop 0 (List.take (Ix.c (Int.toNat (32 : Int))).n s) ++ p ++ m))))) (p4 (dF (rneg (p4 (dF (rdP (List.take 32 p)).x) (dF (rdP (List.take 32 p)).y) (dF (rdP (List.take 32 p)).z) (dF (rdP (List.take 32 p)).t))).x) (dF (rneg (p4 (dF (rdP (List.take 32 p)).x) (dF (rdP (List.take 32 p)).y) (dF (rdP (List.take 32 p)).z) (dF (rdP (List.take 32 p)).t))).y) (dF (rneg (p4 (dF (rdP (List.take 32 p)).x) (dF (rdP (List.take 32 p)).y) (dF (rdP (List.take 32 p)).z) (dF (rdP (List.take 32 p)).t))).z) (dF (rneg (p4 (dF (rdP (List.take 32 p)).x) (dF (rdP (List.take 32 p)).y) (dF (rdP (List.take 32 p)).z) (dF (rdP (List.take 32 p)).t))).t)) 256 gO).z) (dF (rtm dN (vB (dB (wV (g (List.drop 0 (List.take (Ix.c (Int.toNat (32 : Int))).n s) ++ p ++ m))))) (p4 (dF (rneg (p4 (dF (rdP (List.take 32 p)).x) (dF (rdP (List.take 32 p)).y) (dF (rdP (List.take 32 p)).z) (dF (rdP (List.take 32 p)).t))).x) (dF (rneg (p4 (dF (rdP (List.take 32 p)).x) (dF (rdP (List.take 32 p)).y) (dF (rdP (List.take 32 p)).z) (dF (rdP (List.take 32 p)).t))).y) (dF (rneg (p4 (dF (rdP (List.take 32 p)).x) (dF (rdP (List.take 32 p)).y) (dF (rdP (List.take 32 p)).z) (dF (rdP (List.take 32 p)).t))).z) (dF (rneg (p4 (dF (rdP (List.take 32 p)).x) (dF (rdP (List.take 32 p)).y) (dF (rdP (List.take 32 p)).z) (dF (rdP (List.take 32 p)).t))).t)) 256 gO).t))).t))) == List.drop 0 (List.take 32 s)))) (ob := [(p.length != 32) = false, (s.length != 64) = false, 32 ≤ p.length, smR (List.take 32 p) = false, 32 ≤ p.length, 32 ≤ s.length, s.length ≤ s.length, 32 ≤ (List.drop 32 (List.take s.length s)).length, (!rdB (List.take 32 p)) = false, (!Decidable.decide (vF (dF (vB (List.take 32 (List.drop 32 (List.take s.length s))))) < 7237005577332262213973186563042994240857116359379907606001950938285454250989)) = false, 0 ≤ 32, 32 ≤ s.length, slenD (SV.sl .u8 (List.drop 0 (List.take 32 s))) * 1 ≤ 140737488355328, slenD (SV.sl .u8 (List.drop 0 (List.take 32 s) ++ p)) * 1 ≤ 140737488355328, slenD (SV.sl .u8 (List.drop 0 (List.take 32 s) ++ p ++ m)) * 1 ≤ 140737488355328, (List.drop 0 (List.take 32 s) ++ p ++ m).length ≤ 1000000, pokP (p4 (dF (rdP baseL).x) (dF (rdP baseL).y) (dF (rdP baseL).z) (dF (rdP baseL).t)), pokP (p4 (dF (rdP (List.take 32 p)).x) (dF (rdP (List.take 32 p)).y) (dF (rdP (List.take 32 p)).z) (dF (rdP (List.take 32 p)).t)), pokP (p4 (dF (rneg (p4 (dF (rdP (List.take 32 p)).x) (dF (rdP (List.take 32 p)).y) (dF (rdP (List.take 32 p)).z) (dF (rdP (List.take 32 p)).t))).x) (dF (rneg (p4 (dF (rdP (List.take 32 p)).x) (dF (rdP (List.take 32 p)).y) (dF (rdP (List.take 32 p)).z) (dF (rdP (List.take 32 p)).t))).y) (dF (rneg (p4 (dF (rdP (List.take 32 p)).x) (dF (rdP (List.take 32 p)).y) (dF (rdP (List.take 32 p)).z) (dF (rdP (List.take 32 p)).t))).z) (dF (rneg (p4 (dF (rdP (List.take 32 p)).x) (dF (rdP (List.take 32 p)).y) (dF (rdP (List.take 32 p)).z) (dF (rdP (List.take 32 p)).t))).t)), pokP (p4 (dF (rtm dN (vB (List.take 32 (List.drop (Ix.c (Int.toNat (32 : Int))).n (List.take s.length s)))) (p4 (dF (rdP baseL).x) (dF (rdP baseL).y) (dF (rdP baseL).z) (dF (rdP baseL).t)) 256 gO).x) (dF (rtm dN (vB (List.take 32 (List.drop (Ix.c (Int.toNat (32 : Int))).n (List.take s.length s)))) (p4 (dF (rdP baseL).x) (dF (rdP baseL).y) (dF (rdP baseL).z) (dF (rdP baseL).t)) 256 gO).y) (dF (rtm dN (vB (List.take 32 (List.drop (Ix.c (Int.toNat (32 : Int))).n (List.take s.length s)))) (p4 (dF (rdP baseL).x) (dF (rdP baseL).y) (dF (rdP baseL).z) (dF (rdP baseL).t)) 256 gO).z) (dF (rtm dN (vB (List.take 32 (List.drop (Ix.c (Int.toNat (32 : Int))).n (List.take s.length s)))) (p4 (dF (rdP baseL).x) (dF (rdP baseL).y) (dF (rdP baseL).z) (dF (rdP baseL).t)) 256 gO).t)), pokP (p4 (dF (rtm dN (vB (dB (wV (g (List.drop 0 (List.take (Ix.c (Int.toNat (32 : Int))).n s) ++ p ++ m))))) (p4 (dF (rneg (p4 (dF (rdP (List.take 32 p)).x) (dF (rdP (List.take 32 p)).y) (dF (rdP (List.take 32 p)).z) (dF (rdP (List.take 32 p)).t))).x) (dF (rneg (p4 (dF (rdP (List.take 32 p)).x) (dF (rdP (List.take 32 p)).y) (dF (rdP (List.take 32 p)).z) (dF (rdP (List.take 32 p)).t))).y) (dF (rneg (p4 (dF (rdP (List.take 32 p)).x) (dF (rdP (List.take 32 p)).y) (dF (rdP (List.take 32 p)).z) (dF (rdP (List.take 32 p)).t))).z) (dF (rneg (p4 (dF (rdP (List.take 32 p)).x) (dF (rdP (List.take 32 p)).y) (dF (rdP (List.take 32 p)).z) (dF (rdP (List.take 32 p)).t))).t)) 256 gO).x) (dF (rtm dN (vB (dB (wV (g (List.drop 0 (List.take (Ix.c (Int.toNat (32 : Int))).n s) ++ p ++ m))))) (p4 (dF (rneg (p4 (dF (rdP (List.take 32 p)).x) (dF (rdP (List.take 32 p)).y) (dF (rdP (List.take 32 p)).z) (dF (rdP (List.take 32 p)).t))).x) (dF (rneg (p4 (dF (rdP (List.take 32 p)).x) (dF (rdP (List.take 32 p)).y) (dF (rdP (List.take 32 p)).z) (dF (rdP (List.take 32 p)).t))).y) (dF (rneg (p4 (dF (rdP (List.take 32 p)).x) (dF (rdP (List.take 32 p)).y) (dF (rdP (List.take 32 p)).z) (dF (rdP (List.take 32 p)).t))).z) (dF (rneg (p4 (dF (rdP (List.take 32 p)).x) (dF (rdP (List.take 32 p)).y) (dF (rdP (List.take 32 p)).z) (dF (rdP (List.take 32 p)).t))).t)) 256 gO).y) (dF (rtm dN (vB (dB (wV (g (List.drop 0 (List.take (Ix.c (Int.toNat (32 : Int))).n s) ++ p ++ m))))) (p4 (dF (rneg (p4 (dF (rdP (List.take 32 p)).x) (dF (rdP (List.take 32 p)).y) (dF (rdP (List.take 32 p)).z) (dF (rdP (List.take 32 p)).t))).x) (dF (rneg (p4 (dF (rdP (List.take 32 p)).x) (dF (rdP (List.take 32 p)).y) (dF (rdP (List.take 32 p)).z) (dF (rdP (List.take 32 p)).t))).y) (dF (rneg (p4 (dF (rdP (List.take 32 p)).x) (dF (rdP (List.take 32 p)).y) (dF (rdP (List.take 32 p)).z) (dF (rdP (List.take 32 p)).t))).z) (dF (rneg (p4 (dF (rdP (List.take 32 p)).x) (dF (rdP (List.take 32 p)).y) (dF (rdP (List.take 32 p)).z) (dF (rdP (List.take 32 p)).t))).t)) 256 gO).z) (dF (rtm dN (vB (dB (wV (g (List.drop 0 (List.take (Ix.c (Int.toNat (32 : Int))).n s) ++ p ++ m))))) (p4 (dF (rneg (p4 (dF (rdP (List.take 32 p)).x) (dF (rdP (List.take 32 p)).y) (dF (rdP (List.take 32 p)).z) (dF (rdP (List.take 32 p)).t))).x) (dF (rneg (p4 (dF (rdP (List.take 32 p)).x) (dF (rdP (List.take 32 p)).y) (dF (rdP (List.take 32 p)).z) (dF (rdP (List.take 32 p)).t))).y) (dF (rneg (p4 (dF (rdP (List.take 32 p)).x) (dF (rdP (List.take 32 p)).y) (dF (rdP (List.take 32 p)).z) (dF (rdP (List.take 32 p)).t))).z) (dF (rneg (p4 (dF (rdP (List.take 32 p)).x) (dF (rdP (List.take 32 p)).y) (dF (rdP (List.take 32 p)).z) (dF (rdP (List.take 32 p)).t))).t)) 256 gO).t)), 37095705934669439343138083508754565189542113879843219016388785533085940283555 < P255, pokP (p4 (dF (radd (vF (dF dN)) (p4 (dF (rtm dN (vB (List.take 32 (List.drop (Ix.c (Int.toNat (32 : Int))).n (List.take s.length s)))) (p4 (dF (rdP baseL).x) (dF (rdP baseL).y) (dF (rdP baseL).z) (dF (rdP baseL).t)) 256 gO).x) (dF (rtm dN (vB (List.take 32 (List.drop (Ix.c (Int.toNat (32 : Int))).n (List.take s.length s)))) (p4 (dF (rdP baseL).x) (dF (rdP baseL).y) (dF (rdP baseL).z) (dF (rdP baseL).t)) 256 gO).y) (dF (rtm dN (vB (List.take 32 (List.drop (Ix.c (Int.toNat (32 : Int))).n (List.take s.length s)))) (p4 (dF (rdP baseL).x) (dF (rdP baseL).y) (dF (rdP baseL).z) (dF (rdP baseL).t)) 256 gO).z) (dF (rtm dN (vB (List.take 32 (List.drop (Ix.c (Int.toNat (32 : Int))).n (List.take s.length s)))) (p4 (dF (rdP baseL).x) (dF (rdP baseL).y) (dF (rdP baseL).z) (dF (rdP baseL).t)) 256 gO).t)) (p4 (dF (rtm dN (vB (dB (wV (g (List.drop 0 (List.take (Ix.c (Int.toNat (32 : Int))).n s) ++ p ++ m))))) (p4 (dF (rneg (p4 (dF (rdP (List.take 32 p)).x) (dF (rdP (List.take 32 p)).y) (dF (rdP (List.take 32 p)).z) (dF (rdP (List.take 32 p)).t))).x) (dF (rneg (p4 (dF (rdP (List.take 32 p)).x) (dF (rdP (List.take 32 p)).y) (dF (rdP (List.take 32 p)).z) (dF (rdP (List.take 32 p)).t))).y) (dF (rneg (p4 (dF (rdP (List.take 32 p)).x) (dF (rdP (List.take 32 p)).y) (dF (rdP (List.take 32 p)).z) (dF (rdP (List.take 32 p)).t))).z) (dF (rneg (p4 (dF (rdP (List.take 32 p)).x) (dF (rdP (List.take 32 p)).y) (dF (rdP (List.take 32 p)).z) (dF (rdP (List.take 32 p)).t))).t)) 256 gO).x) (dF (rtm dN (vB (dB (wV (g (List.drop 0 (List.take (Ix.c (Int.toNat (32 : Int))).n s) ++ p ++ m))))) (p4 (dF (rneg (p4 (dF (rdP (List.take 32 p)).x) (dF (rdP (List.take 32 p)).y) (dF (rdP (List.take 32 p)).z) (dF (rdP (List.take 32 p)).t))).x) (dF (rneg (p4 (dF (rdP (List.take 32 p)).x) (dF (rdP (List.take 32 p)).y) (dF (rdP (List.take 32 p)).z) (dF (rdP (List.take 32 p)).t))).y) (dF (rneg (p4 (dF (rdP (List.take 32 p)).x) (dF (rdP (List.take 32 p)).y) (dF (rdP (List.take 32 p)).z) (dF (rdP (List.take 32 p)).t))).z) (dF (rneg (p4 (dF (rdP (List.take 32 p)).x) (dF (rdP (List.take 32 p)).y) (dF (rdP (List.take 32 p)).z) (dF (rdP (List.take 32 p)).t))).t)) 256 gO).y) (dF (rtm dN (vB (dB (wV (g (List.drop 0 (List.take (Ix.c (Int.toNat (32 : Int))).n s) ++ p ++ m))))) (p4 (dF (rneg (p4 (dF (rdP (List.take 32 p)).x) (dF (rdP (List.take 32 p)).y) (dF (rdP (List.take 32 p)).z) (dF (rdP (List.take 32 p)).t))).x) (dF (rneg (p4 (dF (rdP (List.take 32 p)).x) (dF (rdP (List.take 32 p)).y) (dF (rdP (List.take 32 p)).z) (dF (rdP (List.take 32 p)).t))).y) (dF (rneg (p4 (dF (rdP (List.take 32 p)).x) (dF (rdP (List.take 32 p)).y) (dF (rdP (List.take 32 p)).z) (dF (rdP (List.take 32 p)).t))).z) (dF (rneg (p4 (dF (rdP (List.take 32 p)).x) (dF (rdP (List.take 32 p)).y) (dF (rdP (List.take 32 p)).z) (dF (rdP (List.take 32 p)).t))).t)) 256 gO).z) (dF (rtm dN (vB (dB (wV (g (List.drop 0 (List.take (Ix.c (Int.toNat (32 : Int))).n s) ++ p ++ m))))) (p4 (dF (rneg (p4 (dF (rdP (List.take 32 p)).x) (dF (rdP (List.take 32 p)).y) (dF (rdP (List.take 32 p)).z) (dF (rdP (List.take 32 p)).t))).x) (dF (rneg (p4 (dF (rdP (List.take 32 p)).x) (dF (rdP (List.take 32 p)).y) (dF (rdP (List.take 32 p)).z) (dF (rdP (List.take 32 p)).t))).y) (dF (rneg (p4 (dF (rdP (List.take 32 p)).x) (dF (rdP (List.take 32 p)).y) (dF (rdP (List.take 32 p)).z) (dF (rdP (List.take 32 p)).t))).z) (dF (rneg (p4 (dF (rdP (List.take 32 p)).x) (dF (rdP (List.take 32 p)).y) (dF (rdP (List.take 32 p)).z) (dF (rdP (List.take 32 p)).t))).t)) 256 gO).t))).x) (dF (radd (vF (dF dN)) (p4 (dF (rtm dN (vB (List.take 32 (List.drop (Ix.c (Int.toNat (32 : Int))).n (List.take s.length s)))) (p4 (dF (rdP baseL).x) (dF (rdP baseL).y) (dF (rdP baseL).z) (dF (rdP baseL).t)) 256 gO).x) (dF (rtm dN (vB (List.take 32 (List.drop (Ix.c (Int.toNat (32 : Int))).n (List.take s.length s)))) (p4 (dF (rdP baseL).x) (dF (rdP baseL).y) (dF (rdP baseL).z) (dF (rdP baseL).t)) 256 gO).y) (dF (rtm dN (vB (List.take 32 (List.drop (Ix.c (Int.toNat (32 : Int))).n (List.take s.length s)))) (p4 (dF (rdP baseL).x) (dF (rdP baseL).y) (dF (rdP baseL).z) (dF (rdP baseL).t)) 256 gO).z) (dF (rtm dN (vB (List.take 32 (List.drop (Ix.c (Int.toNat (32 : Int))).n (List.take s.length s)))) (p4 (dF (rdP baseL).x) (dF (rdP baseL).y) (dF (rdP baseL).z) (dF (rdP baseL).t)) 256 gO).t)) (p4 (dF (rtm dN (vB (dB (wV (g (List.drop 0 (List.take (Ix.c (Int.toNat (32 : Int))).n s) ++ p ++ m))))) (p4 (dF (rneg (p4 (dF (rdP (List.take 32 p)).x) (dF (rdP (List.take 32 p)).y) (dF (rdP (List.take 32 p)).z) (dF (rdP (List.take 32 p)).t))).x) (dF (rneg (p4 (dF (rdP (List.take 32 p)).x) (dF (rdP (List.take 32 p)).y) (dF (rdP (List.take 32 p)).z) (dF (rdP (List.take 32 p)).t))).y) (dF (rneg (p4 (dF (rdP (List.take 32 p)).x) (dF (rdP (List.take 32 p)).y) (dF (rdP (List.take 32 p)).z) (dF (rdP (List.take 32 p)).t))).z) (dF (rneg (p4 (dF (rdP (List.take 32 p)).x) (dF (rdP (List.take 32 p)).y) (dF (rdP (List.take 32 p)).z) (dF (rdP (List.take 32 p)).t))).t)) 256 gO).x) (dF (rtm dN (vB (dB (wV (g (List.drop 0 (List.take (Ix.c (Int.toNat (32 : Int))).n s) ++ p ++ m))))) (p4 (dF (rneg (p4 (dF (rdP (List.take 32 p)).x) (dF (rdP (List.take 32 p)).y) (dF (rdP (List.take 32 p)).z) (dF (rdP (List.take 32 p)).t))).x) (dF (rneg (p4 (dF (rdP (List.take 32 p)).x) (dF (rdP (List.take 32 p)).y) (dF (rdP (List.take 32 p)).z) (dF (rdP (List.take 32 p)).t))).y) (dF (rneg (p4 (dF (rdP (List.take 32 p)).x) (dF (rdP (List.take 32 p)).y) (dF (rdP (List.take 32 p)).z) (dF (rdP (List.take 32 p)).t))).z) (dF (rneg (p4 (dF (rdP (List.take 32 p)).x) (dF (rdP (List.take 32 p)).y) (dF (rdP (List.take 32 p)).z) (dF (rdP (List.take 32 p)).t))).t)) 256 gO).y) (dF (rtm dN (vB (dB (wV (g (List.drop 0 (List.take (Ix.c (Int.toNat (32 : Int))).n s) ++ p ++ m))))) (p4 (dF (rneg (p4 (dF (rdP (List.take 32 p)).x) (dF (rdP (List.take 32 p)).y) (dF (rdP (List.take 32 p)).z) (dF (rdP (List.take 32 p)).t))).x) (dF (rneg (p4 (dF (rdP (List.take 32 p)).x) (dF (rdP (List.take 32 p)).y) (dF (rdP (List.take 32 p)).z) (dF (rdP (List.take 32 p)).t))).y) (dF (rneg (p4 (dF (rdP (List.take 32 p)).x) (dF (rdP (List.take 32 p)).y) (dF (rdP (List.take 32 p)).z) (dF (rdP (List.take 32 p)).t))).z) (dF (rneg (p4 (dF (rdP (List.take 32 p)).x) (dF (rdP (List.take 32 p)).y) (dF (rdP (List.take 32 p)).z) (dF (rdP (List.take 32 p)).t))).t)) 256 gO).z) (dF (rtm dN (vB (dB (wV (g (List.drop 0 (List.take (Ix.c (Int.toNat (32 : Int))).n s) ++ p ++ m))))) (p4 (dF (rneg (p4 (dF (rdP (List.take 32 p)).x) (dF (rdP (List.take 32 p)).y) (dF (rdP (List.take 32 p)).z) (dF (rdP (List.take 32 p)).t))).x) (dF (rneg (p4 (dF (rdP (List.take 32 p)).x) (dF (rdP (List.take 32 p)).y) (dF (rdP (List.take 32 p)).z) (dF (rdP (List.take 32 p)).t))).y) (dF (rneg (p4 (dF (rdP (List.take 32 p)).x) (dF (rdP (List.take 32 p)).y) (dF (rdP (List.take 32 p)).z) (dF (rdP (List.take 32 p)).t))).z) (dF (rneg (p4 (dF (rdP (List.take 32 p)).x) (dF (rdP (List.take 32 p)).y) (dF (rdP (List.take 32 p)).z) (dF (rdP (List.take 32 p)).t))).t)) 256 gO).t))).y) (dF (radd (vF (dF dN)) (p4 (dF (rtm dN (vB (List.take 32 (List.drop (Ix.c (Int.toNat (32 : Int))).n (List.take s.length s)))) (p4 (dF (rdP baseL).x) (dF (rdP baseL).y) (dF (rdP baseL).z) (dF (rdP baseL).t)) 256 gO).x) (dF (rtm dN (vB (List.take 32 (List.drop (Ix.c (Int.toNat (32 : Int))).n (List.take s.length s)))) (p4 (dF (rdP baseL).x) (dF (rdP baseL).y) (dF (rdP baseL).z) (dF (rdP baseL).t)) 256 gO).y) (dF (rtm dN (vB (List.take 32 (List.drop (Ix.c (Int.toNat (32 : Int))).n (List.take s.length s)))) (p4 (dF (rdP baseL).x) (dF (rdP baseL).y) (dF (rdP baseL).z) (dF (rdP baseL).t)) 256 gO).z) (dF (rtm dN (vB (List.take 32 (List.drop (Ix.c (Int.toNat (32 : Int))).n (List.take s.length s)))) (p4 (dF (rdP baseL).x) (dF (rdP baseL).y) (dF (rdP baseL).z) (dF (rdP baseL).t)) 256 gO).t)) (p4 (dF (rtm dN (vB (dB (wV (g (List.drop 0 (List.take (Ix.c (Int.toNat (32 : Int))).n s) ++ p ++ m))))) (p4 (dF (rneg (p4 (dF (rdP (List.take 32 p)).x) (dF (rdP (List.take 32 p)).y) (dF (rdP (List.take 32 p)).z) (dF (rdP (List.take 32 p)).t))).x) (dF (rneg (p4 (dF (rdP (List.take 32 p)).x) (dF (rdP (List.take 32 p)).y) (dF (rdP (List.take 32 p)).z) (dF (rdP (List.take 32 p)).t))).y) (dF (rneg (p4 (dF (rdP (List.take 32 p)).x) (dF (rdP (List.take 32 p)).y) (dF (rdP (List.take 32 p)).z) (dF (rdP (List.take 32 p)).t))).z) (dF (rneg (p4 (dF (rdP (List.take 32 p)).x) (dF (rdP (List.take 32 p)).y) (dF (rdP (List.take 32 p)).z) (dF (rdP (List.take 32 p)).t))).t)) 256 gO).x) (dF (rtm dN (vB (dB (wV (g (List.drop 0 (List.take (Ix.c (Int.toNat (32 : Int))).n s) ++ p ++ m))))) (p4 (dF (rneg (p4 (dF (rdP (List.take 32 p)).x) (dF (rdP (List.take 32 p)).y) (dF (rdP (List.take 32 p)).z) (dF (rdP (List.take 32 p)).t))).x) (dF (rneg (p4 (dF (rdP (List.take 32 p)).x) (dF (rdP (List.take 32 p)).y) (dF (rdP (List.take 32 p)).z) (dF (rdP (List.take 32 p)).t))).y) (dF (rneg (p4 (dF (rdP (List.take 32 p)).x) (dF (rdP (List.take 32 p)).y) (dF (rdP (List.take 32 p)).z) (dF (rdP (List.take 32 p)).t))).z) (dF (rneg (p4 (dF (rdP (List.take 32 p)).x) (dF (rdP (List.take 32 p)).y) (dF (rdP (List.take 32 p)).z) (dF (rdP (List.take 32 p)).t))).t)) 256 gO).y) (dF (rtm dN (vB (dB (wV (g (List.drop 0 (List.take (Ix.c (Int.toNat (32 : Int))).n s) ++ p ++ m))))) (p4 (dF (rneg (p4 (dF (rdP (List.take 32 p)).x) (dF (rdP (List.take 32 p)).y) (dF (rdP (List.take 32 p)).z) (dF (rdP (List.take 32 p)).t))).x) (dF (rneg (p4 (dF (rdP (List.take 32 p)).x) (dF (rdP (List.take 32 p)).y) (dF (rdP (List.take 32 p)).z) (dF (rdP (List.take 32 p)).t))).y) (dF (rneg (p4 (dF (rdP (List.take 32 p)).x) (dF (rdP (List.take 32 p)).y) (dF (rdP (List.take 32 p)).z) (dF (rdP (List.take 32 p)).t))).z) (dF (rneg (p4 (dF (rdP (List.take 32 p)).x) (dF (rdP (List.take 32 p)).y) (dF (rdP (List.take 32 p)).z) (dF (rdP (List.take 32 p)).t))).t)) 256 gO).z) (dF (rtm dN (vB (dB (wV (g (List.drop 0 (List.take (Ix.c (Int.toNat (32 : Int))).n s) ++ p ++ m))))) (p4 (dF (rneg (p4 (dF (rdP (List.take 32 p)).x) (dF (rdP (List.take 32 p)).y) (dF (rdP (List.take 32 p)).z) (dF (rdP (List.take 32 p)).t))).x) (dF (rneg (p4 (dF (rdP (List.take 32 p)).x) (dF (rdP (List.take 32 p)).y) (dF (rdP (List.take 32 p)).z) (dF (rdP (List.take 32 p)).t))).y) (dF (rneg (p4 (dF (rdP (List.take 32 p)).x) (dF (rdP (List.take 32 p)).y) (dF (rdP (List.take 32 p)).z) (dF (rdP (List.take 32 p)).t))).z) (dF (rneg (p4 (dF (rdP (List.take 32 p)).x) (dF (rdP (List.take 32 p)).y) (dF (rdP (List.take 32 p)).z) (dF (rdP (List.take 32 p)).t))).t)) 256 gO).t))).z) (dF (radd (vF (dF dN)) (p4 (dF (rtm dN (vB (List.take 32 (List.drop (Ix.c (Int.toNat (32 : Int))).n (List.take s.length s)))) (p4 (dF (rdP baseL).x) (dF (rdP baseL).y) (dF (rdP baseL).z) (dF (rdP baseL).t)) 256 gO).x) (dF (rtm dN (vB (List.take 32 (List.drop (Ix.c (Int.toNat (32 : Int))).n (List.take s.length s)))) (p4 (dF (rdP baseL).x) (dF (rdP baseL).y) (dF (rdP baseL).z) (dF (rdP baseL).t)) 256 gO).y) (dF (rtm dN (vB (List.take 32 (List.drop (Ix.c (Int.toNat (32 : Int))).n (List.take s.length s)))) (p4 (dF (rdP baseL).x) (dF (rdP baseL).y) (dF (rdP baseL).z) (dF (rdP baseL).t)) 256 gO).z) (dF (rtm dN (vB (List.take 32 (List.drop (Ix.c (Int.toNat (32 : Int))).n (List.take s.length s)))) (p4 (dF (rdP baseL).x) (dF (rdP baseL).y) (dF (rdP baseL).z) (dF (rdP baseL).t)) 256 gO).t)) (p4 (dF (rtm dN (vB (dB (wV (g (List.drop 0 (List.take (Ix.c (Int.toNat (32 : Int))).n s) ++ p ++ m))))) (p4 (dF (rneg (p4 (dF (rdP (List.take 32 p)).x) (dF (rdP (List.take 32 p)).y) (dF (rdP (List.take 32 p)).z) (dF (rdP (List.take 32 p)).t))).x) (dF (rneg (p4 (dF (rdP (List.take 32 p)).x) (dF (rdP (List.take 32 p)).y) (dF (rdP (List.take 32 p)).z) (dF (rdP (List.take 32 p)).t))).y) (dF (rneg (p4 (dF (rdP (List.take 32 p)).x) (dF (rdP (List.take 32 p)).y) (dF (rdP (List.take 32 p)).z) (dF (rdP (List.take 32 p)).t))).z) (dF (rneg (p4 (dF (rdP (List.take 32 p)).x) (dF (rdP (List.take 32 p)).y) (dF (rdP (List.take 32 p)).z) (dF (rdP (List.take 32 p)).t))).t)) 256 gO).x) (dF (rtm dN (vB (dB (wV (g (List.drop 0 (List.take (Ix.c (Int.toNat (32 : Int))).n s) ++ p ++ m))))) (p4 (dF (rneg (p4 (dF (rdP (List.take 32 p)).x) (dF (rdP (List.take 32 p)).y) (dF (rdP (List.take 32 p)).z) (dF (rdP (List.take 32 p)).t))).x) (dF (rneg (p4 (dF (rdP (List.take 32 p)).x) (dF (rdP (List.take 32 p)).y) (dF (rdP (List.take 32 p)).z) (dF (rdP (List.take 32 p)).t))).y) (dF (rneg (p4 (dF (rdP (List.take 32 p)).x) (dF (rdP (List.take 32 p)).y) (dF (rdP (List.take 32 p)).z) (dF (rdP (List.take 32 p)).t))).z) (dF (rneg (p4 (dF (rdP (List.take 32 p)).x) (dF (rdP (List.take 32 p)).y) (dF (rdP (List.take 32 p)).z) (dF (rdP (List.take 32 p)).t))).t)) 256 gO).y) (dF (rtm dN (vB (dB (wV (g (List.drop 0 (List.take (Ix.c (Int.toNat (32 : Int))).n s) ++ p ++ m))))) (p4 (dF (rneg (p4 (dF (rdP (List.take 32 p)).x) (dF (rdP (List.take 32 p)).y) (dF (rdP (List.take 32 p)).z) (dF (rdP (List.take 32 p)).t))).x) (dF (rneg (p4 (dF (rdP (List.take 32 p)).x) (dF (rdP (List.take 32 p)).y) (dF (rdP (List.take 32 p)).z) (dF (rdP (List.take 32 p)).t))).y) (dF (rneg (p4 (dF (rdP (List.take 32 p)).x) (dF (rdP (List.take 32 p)).y) (dF (rdP (List.take 32 p)).z) (dF (rdP (List.take 32 p)).t))).z) (dF (rneg (p4 (dF (rdP (List.take 32 p)).x) (dF (rdP (List.take 32 p)).y) (dF (rdP (List.take 32 p)).z) (dF (rdP (List.take 32 p)).t))).t)) 256 gO).z) (dF (rtm dN (vB (dB (wV (g (List.drop 0 (List.take (Ix.c (Int.toNat (32 : Int))).n s) ++ p ++ m))))) (p4 (dF (rneg (p4 (dF (rdP (List.take 32 p)).x) (dF (rdP (List.take 32 p)).y) (dF (rdP (List.take 32 p)).z) (dF (rdP (List.take 32 p)).t))).x) (dF (rneg (p4 (dF (rdP (List.take 32 p)).x) (dF (rdP (List.take 32 p)).y) (dF (rdP (List.take 32 p)).z) (dF (rdP (List.take 32 p)).t))).y) (dF (rneg (p4 (dF (rdP (List.take 32 p)).x) (dF (rdP (List.take 32 p)).y) (dF (rdP (List.take 32 p)).z) (dF (rdP (List.take 32 p)).t))).z) (dF (rneg (p4 (dF (rdP (List.take 32 p)).x) (dF (rdP (List.take 32 p)).y) (dF (rdP (List.take 32 p)).z) (dF (rdP (List.take 32 p)).t))).t)) 256 gO).t))).t)), 0 ≤ 32, 32 ≤ s.length]) (sc' := []) (by kernel_rfl) ?_ ?_
              · have a0 := rdP_ok p
                have b0 := rdP_ok baseL
                have t0 := rtm_ok dN (vB (List.drop 32 s)) (rdP baseL) 256 gO gO_okP
                have n0 := rneg_ok a0
                have u0 := rtm_ok dN (wideV (g (List.take 32 s ++ p ++ m))) (rneg (rdP p)) 256 gO gO_okP
                have l3 : (List.take 32 s).length = 32 := by rw [List.length_take]; omega
                have ix : (Ix.c (Int.toNat 32)).n = 32 := rfl
                rw [ix, hS, tp, List.drop_zero, wV_w2 hk, vB_wide2, eDN, p4_pt (pokP_pok a0), p4_pt (pokP_pok b0), p4_pt (pokP_pok n0), p4_pt (pokP_pok t0), p4_pt (pokP_pok u0), p4_pt (pokP_pok (radd_ok dN _ _)), vd lS, hb, hsm, QQ_lit']
                exact ⟨o1, o2, by omega, rfl, by omega, by omega, Nat.le_refl _, o3, rfl, by rw [decide_eq_true hq]; rfl, by omega, by omega, by show (List.take 32 s).length * 1 ≤ _; omega,
                  by show (List.take 32 s ++ p).length * 1 ≤ _; rw [List.length_append]; omega, by show (List.take 32 s ++ p ++ m).length * 1 ≤ _; rw [List.length_append, List.length_append]; omega,
                  by rw [List.length_append, List.length_append]; omega, by first | exact b0 | exact a0, by first | exact a0 | exact b0, by repeat' first | exact True.intro | exact a0 | exact b0 | exact n0 | exact t0 | exact u0 | exact radd_ok _ _ _ | exact dN_ltP | omega | refine ⟨?_, ?_⟩⟩
              · have a0 := rdP_ok p
                have b0 := rdP_ok baseL
                have t0 := rtm_ok dN (vB (List.drop 32 s)) (rdP baseL) 256 gO gO_okP
                have n0 := rneg_ok a0
                have u0 := rtm_ok dN (wideV (g (List.take 32 s ++ p ++ m))) (rneg (rdP p)) 256 gO gO_okP
                have ix : (Ix.c (Int.toNat 32)).n = 32 := rfl
                rw [ix, hS, tp, List.drop_zero, wV_w2 hk, vB_wide2, eDN, p4_pt (pokP_pok a0), p4_pt (pokP_pok b0), p4_pt (pokP_pok n0), p4_pt (pokP_pok t0), p4_pt (pokP_pok u0), p4_pt (pokP_pok (radd_ok dN _ _))]
                have ew : verW g p m s = verQ g p m s := by unfold verW; simp [hp, hs, hb, hsm, hq]
                rw [ew]
                exact wkR_refl _
            · refine hold_endw mixed (okH12a hg hk) (unroll := true) (f := 400) (sc := [false, false, false, false, true]) (r := (SV.cb false)) (ob := [(p.length != 32) = false, (s.length != 64) = false, 32 ≤ p.length, smR (List.take 32 p) = false, 32 ≤ p.length, 32 ≤ s.length, s.length ≤ s.length, 32 ≤ (List.drop 32 (List.take s.length s)).length, (!rdB (List.take 32 p)) = false, (!Decidable.decide (vF (dF (vB (List.take 32 (List.drop 32 (List.take s.length s))))) < 7237005577332262213973186563042994240857116359379907606001950938285454250989)) = true]) (sc' := []) (by kernel_rfl) ?_ ?_
              · rw [hS, tp, hb, hsm, vd lS, QQ_lit']; exact ⟨o1, o2, by omega, rfl, by omega, by omega, Nat.le_refl _, o3, rfl, by rw [decide_eq_false hq]; rfl, trivial⟩
              · exact (by unfold verW; simp [hp, hs, hb, hsm, hq] : false = verW g p m s)
          | true =>
            refine hold_endw mixed (okH12a hg hk) (unroll := true) (f := 400) (sc := [false, false, true]) (r := (SV.cb false)) (ob := [(p.length != 32) = false, (s.length != 64) = false, 32 ≤ p.length, smR (List.take 32 p) = true]) (sc' := []) (by kernel_rfl) ?_ ?_
            · rw [tp, hsm]; exact ⟨o1, o2, by omega, rfl, trivial⟩
            · exact (by unfold verW; simp [hp, hs, hb, hsm] : false = verW g p m s)
        | false =>
          have hsm : smR p = false := by unfold smR; rw [hb]; rfl
          refine hold_endw mixed (okH12a hg hk) (unroll := true) (f := 400) (sc := [false, false, false, true]) (r := (SV.cb false)) (ob := [(p.length != 32) = false, (s.length != 64) = false, 32 ≤ p.length, smR (List.take 32 p) = false, 32 ≤ p.length, 32 ≤ s.length, s.length ≤ s.length, 32 ≤ (List.drop 32 (List.take s.length s)).length, (!rdB (List.take 32 p)) = true]) (sc' := []) (by kernel_rfl) ?_ ?_
          · rw [tp, hb, hsm]; exact ⟨o1, o2, by omega, rfl, by omega, by omega, Nat.le_refl _, o3, rfl, trivial⟩
          · exact (by unfold verW; simp [hp, hs, hb] : false = verW g p m s)
      · refine hold_endw mixed (okH12a hg hk) (unroll := true) (f := 400) (sc := [false, true]) (r := (SV.cb false)) (ob := [(p.length != 32) = false, (s.length != 64) = true]) (sc' := []) (by kernel_rfl) ?_ ?_
        · exact ⟨by rw [hp]; rfl, bne_iff_ne.mpr hs, trivial⟩
        · exact (by unfold verW; simp [hp, hs] : false = verW g p m s)
    · refine hold_endw mixed (okH12a hg hk) (unroll := true) (f := 400) (sc := [true]) (r := (SV.cb false)) (ob := [(p.length != 32) = true]) (sc' := []) (by kernel_rfl) ?_ ?_
      · exact ⟨bne_iff_ne.mpr hp, trivial⟩
      · exact (by unfold verW; simp [hp] : false = verW g p m s)
  · cases h
end Go.Eng.G

namespace Go.Eng
open Go.RowKit
def unG (o : Oper) : Oper := { o with guard := none }
def pureStepG (P : Program) (ctr : Ctr) (ops : Array Oper) (σ : St) (i : Nat) (o : Oper) (sc : List Bool) : Option (St × List Prop × List Bool) :=
  match guardOf ops σ.slots o with
  | none => none
  | some false => match putS σ o.dst (.tup []) with | some σ' => some (σ', [], sc) | none => none
  | some true => match evalR P ctr σ.blks (lookρ σ.slots) (unG o) with
      | some (.val s, ob) => if pureOp (unG o) || slicePtr σ.slots (unG o) || sliceSl σ.slots (unG o) || (numOp σ.slots (unG o) && s.rigid) then
          match resolveB (isGuard ops i) s sc with
          | some (s', ob2, sc') => match putS σ o.dst s' with | some σ' => some (σ', ob ++ ob2, sc') | none => none
          | none => none
        else none
      | _ => none
def firstPureG (P : Program) (ctr : Ctr) (ops : Array Oper) (L : Array Bool) (σ : St) (sc : List Bool) : List Nat → Option (Nat × St × List Prop × List Bool)
  | [] => none
  | i :: r => if Region.free .any ops L i then (match ops[i]? with
      | some o => match pureStepG P ctr ops σ i o sc with
        | some (σ', ob, sc') => some (i, σ', ob, sc')
        | none => firstPureG P ctr ops L σ sc r
      | none => none) else firstPureG P ctr ops L σ sc r
abbrev RA := Nat × Nat × Bool × Nat
def stRA (R : RA) : St := ⟨R.1, [(R.2.1, .cb R.2.2.1)], [], 0, R.2.2.2⟩
def endRA (d : Nat) (σ : St) : Option RA :=
  match restrict [d] [] 0 σ with
  | some ⟨nt, [(e, .cb x)], [], 0, m⟩ => some (nt, e, x, m)
  | _ => none
def tryAll (step : Nat → Option (RA × List Prop × List Bool)) : List Nat → Option (RA × List Prop × List Bool)
  | [] => none
  | [i] => step i
  | i :: r => match step i, tryAll step r with
    | some (R, ob, sc), some (R', ob', sc') => if R = R' ∧ sc = sc' then some (R, ob ++ ob', sc) else none
    | _, _ => none
def execAll (P : Program) (ctr : Ctr) (ops : Array Oper) (d : Nat) : Nat → Array Bool → St → List Bool → Option (RA × List Prop × List Bool)
  | 0, _, _, _ => none
  | f + 1, L, σ, sc => match Region.ready .any ops L with
    | [] => match endRA d σ with
      | some R => some (R, [], sc)
      | none => none
    | r => match firstPureG P ctr ops L σ sc r with
      | some (i, σ1, ob1, sc1) => match execAll P ctr ops d f (L.setIfInBounds i true) σ1 sc1 with
        | some (R, ob2, sc2) => some (R, ob1 ++ ob2, sc2)
        | none => none
      | none => tryAll (fun i => match ops[i]? with
        | some o => match stepOp P ctr ops σ i o sc with
          | some (σ1, ob1, sc1) => match execAll P ctr ops d f (L.setIfInBounds i true) σ1 sc1 with
            | some (R, ob2, sc2) => some (R, ob1 ++ ob2, sc2)
            | none => none
          | none => none
        | none => none) r
def lastDst (ops : Array Oper) : Option Nat := match ops.back? with | some o => o.dst | none => none
def drawAll (P : Program) (ctr : Ctr) (ops : Array Oper) (σ : St) (sc : List Bool) : Option (St × List Prop × List Bool) :=
  match lastDst ops with
  | some d => if Region.noSelect ops then (match execAll P ctr ops d (ops.size + 1) (Array.replicate ops.size false) σ sc with
    | some (R, ob, sc') => some (stRA R, ob, sc')
    | none => none) else none
  | none => none
section
variable {P : Program} {ctr : Ctr} {w0 : Fr} {w : World} {S : Own} {σ σ' : St} {β : Nat → Nat} {a : Act} {ops : Array Oper}
theorem firstPureG_ok : ∀ {r : List Nat} {L : Array Bool} {sc sc' : List Bool} {i : Nat} {ob : List Prop}, firstPureG P ctr ops L σ sc r = some (i, σ', ob, sc') → i ∈ r ∧ Region.free .any ops L i = true ∧ ∃ o, ops[i]? = some o ∧ pureStepG P ctr ops σ i o sc = some (σ', ob, sc') := by
  intro r
  induction r with
  | nil => intro L sc sc' i ob h; simp [firstPureG] at h
  | cons j r ih =>
    intro L sc sc' i ob h
    simp only [firstPureG] at h
    split at h
    · rename_i hf
      split at h
      · rename_i o ho
        split at h
        · rename_i hp; cases h; exact ⟨by simp, hf, o, ho, hp⟩
        · obtain ⟨h1, h2⟩ := ih h; exact ⟨List.mem_cons_of_mem _ h1, h2⟩
      · cases h
    · obtain ⟨h1, h2⟩ := ih h; exact ⟨List.mem_cons_of_mem _ h1, h2⟩
theorem pureStepG_ok {i : Nat} {o : Oper} {sc sc' : List Bool} {ob : List Prop} (h : pureStepG P ctr ops σ i o sc = some (σ', ob, sc')) (hob : All ob) (hS : Sat w0 S σ β a w) :
    ∃ v, Yields P ops o v a ∧ Sat w0 S σ' β (a.put o.dst v) w := by
  unfold pureStepG at h
  split at h
  · cases h
  · rename_i hg
    split at h
    · rename_i σ1 hput
      cases h
      exact ⟨undef, .inr ⟨guard_ok hS.slot hg, rfl⟩, hS.put hput ⟨[], rfl, rfl⟩⟩
    · cases h
  · rename_i hg
    split at h
    · rename_i s ob1 hev
      split at h
      · rename_i hp
        split at h
        · rename_i s' ob2 sc1 hres
          split at h
          · rename_i σ1 hput
            cases h
            obtain ⟨ho1, ho2⟩ := All.append.1 hob
            have key : ∃ v, (∀ w', (execOp a.eval o).run P w' = .ok (.value v) w') ∧ relV β (owS S σ.blks β) w s v := by
              simp only [Bool.or_eq_true, Bool.and_eq_true] at hp
              rcases hp with ((hp | hp) | hp) | hp
              · exact pureR_yields (fun y s hy => hS.look hy) hp hev
              · exact slice_yields (fun y s hy => hS.look hy) hp hev
              · exact sliceSl_yields (fun y s hy => hS.look hy) hp hev ho1
              · exact num_yields (fun y s hy => hS.look hy) hp.1 hp.2 hev ho1
            obtain ⟨v, h1, h2⟩ := key
            exact ⟨v, .inl ⟨guard_ok hS.slot hg, h1⟩, hS.put hput (resolveB_ok hres ho2 h2)⟩
          · cases h
        · cases h
      · cases h
    · cases h
theorem tryAll_ok {step : Nat → Option (RA × List Prop × List Bool)} : ∀ {r : List Nat} {R : RA} {ob : List Prop} {sc : List Bool}, tryAll step r = some (R, ob, sc) → All ob → ∀ i ∈ r, ∃ ob' sc', step i = some (R, ob', sc') ∧ All ob' := by
  intro r
  induction r with
  | nil => intro R ob sc h; simp [tryAll] at h
  | cons i r ih =>
    intro R ob sc h hob j hj
    cases r with
    | nil =>
      simp only [tryAll] at h
      simp only [List.mem_singleton] at hj
      subst hj
      exact ⟨ob, sc, h, hob⟩
    | cons k r =>
      simp only [tryAll] at h
      split at h
      · rename_i R1 ob1 sc1 R2 ob2 sc2 h1 h2
        split at h
        · rename_i he
          obtain ⟨rfl, rfl⟩ := he
          cases h
          obtain ⟨ho1, ho2⟩ := All.append.1 hob
          rcases List.mem_cons.1 hj with rfl | hj
          · exact ⟨_, _, h1, ho1⟩
          · exact ih h2 ho2 j hj
        · cases h
      · cases h
theorem endRA_ok {d : Nat} {R : RA} (h : endRA d σ = some R) (hS : Sat w0 S σ β a w) : Sat w0 S (stRA R) β a w := by
  unfold endRA at h
  split at h
  · rename_i nt e x m hr
    cases h
    exact hS.restrict hr
  · cases h
theorem execAll_ok (hctr : CtrOk P ctr) (hs : Region.noSelect ops = true) {d : Nat} {Q : Exit → Act → World → Prop} (hQ : ∀ c a w, ¬ Q (.panic c) a w) : ∀ {f : Nat} {L : Array Bool} {σ : St} {R : RA} {sc sc' : List Bool} {ob : List Prop} {β : Nat → Nat} {a : Act} {w : World},
    execAll P ctr ops d f L σ sc = some (R, ob, sc') → All ob → Sat w0 S σ β a w → (∀ β' a' w', Sat w0 S (stRA R) β' a' w' → Q .normal a' w') → ∀ {g : Nat}, left L ≤ g → L.size = ops.size → wpAny P .any ops Q g L a w := by
  intro f
  induction f with
  | zero => intro L σ R sc sc' ob β a w h; simp [execAll] at h
  | succ f ih =>
    intro L σ R sc sc' ob β a w h hob hS hk g hl hsz
    simp only [execAll] at h
    split at h
    · rename_i hr
      split at h
      · rename_i R1 he
        cases h
        exact wpAny_done hr (hk β a w (endRA_ok he hS)) g
      · cases h
    · rename_i hr0
      have hstep : ∀ i, i ∈ Region.ready .any ops L → left L = left (L.setIfInBounds i true) + 1 := fun i hi => by
        obtain ⟨h1, o, ho, _⟩ := mem_ready.1 hi
        exact left_set (by rw [hsz]; exact (Array.getElem?_eq_some_iff.1 ho).1) h1
      have hpos : 0 < g := by
        cases hr : Region.ready .any ops L with
        | nil => exact absurd hr hr0
        | cons j t => have := hstep j (by rw [hr]; simp); omega
      obtain ⟨g, rfl⟩ : ∃ g', g = g' + 1 := ⟨g - 1, by omega⟩
      split at h
      · rename_i i σ1 ob1 sc1 hp
        split at h
        · rename_i R2 ob2 sc2 hx
          cases h
          obtain ⟨ho1, ho2⟩ := All.append.1 hob
          obtain ⟨hm, hf, o, ho, hst⟩ := firstPureG_ok hp
          obtain ⟨v, hy, hS1⟩ := pureStepG_ok hst ho1 hS
          refine wpAny_take ho hs hf (by simpa using hm) (fun c a w h => absurd h (hQ c _ w)) hy ?_
          exact ih hx ho2 hS1 hk (by have := hstep i hm; omega) (by simpa using hsz)
        · cases h
      · refine wpAny_all rfl hr0 ?_
        intro j hj
        obtain ⟨ob', sc2, h1, h2⟩ := tryAll_ok h hob j hj
        split at h1
        · rename_i o ho
          split at h1
          · rename_i σ1 ob1 sc1 hst
            split at h1
            · rename_i R2 ob2 sc3 hx
              cases h1
              obtain ⟨ho1, ho2⟩ := All.append.1 h2
              refine stepOp_ok hctr hst ho1 ho hS fun β' a' w' hS' => ?_
              exact ih hx ho2 hS' hk (by have := hstep j hj; omega) (by simpa using hsz)
            · cases h1
          · cases h1
        · cases h1
theorem drawAll_ok (hm : P.follows .mixedOrders = true) (hctr : CtrOk P ctr) {id : Nat} {sc sc' : List Bool} {ob : List Prop} (h : drawAll P ctr ops σ sc = some (σ', ob, sc')) (hob : All ob) (hS : Sat w0 S σ β a w)
    {Q : Exit → Act → World → Prop} (hQ : ∀ c a w, ¬ Q (.panic c) a w) (hk : ∀ β' a' w', Sat w0 S σ' β' a' w' → Q .normal a' w') : (Code.region id ops true).wp P Q a w := by
  unfold drawAll at h
  split at h
  · split at h
    · rename_i hs
      split at h
      · rename_i R ob1 sc1 hx
        cases h
        refine wp_region_any hm ?_
        have hxt : Ext w { w with drawn := w.drawn + 1 } := ⟨rfl, rfl, rfl, Nat.le_refl _, fun _ _ => rfl⟩
        refine execAll_ok hctr hs hQ hx hob (hS.extend hxt) hk ?_ (by simp)
        simp [left, List.countP_replicate]
      · cases h
    · cases h
  · cases h
end
end Go.Eng

