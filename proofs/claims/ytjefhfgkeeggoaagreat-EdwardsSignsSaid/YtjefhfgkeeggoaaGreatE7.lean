import Derived.Test.YtjefhfgkeeggoaaGreatE6
import Derived.WideShapes
import Derived.OpenShut
import Derived.ChangeSlices
import Derived.RowKit
import Derived.Test.YtjefhfgkeeggoaaGreatRows
import Derived.ProofKit
import Derived.JoinedOf
import Derived.KernelRfl
set_option linter.unusedVariables false
set_option linter.unusedSimpArgs false
set_option linter.unusedSectionVars false
namespace Go.Eng.G
open Go Go.Eng Go.Proofs Go.Eng.B
set_option maxRecDepth 100000
set_option linter.unusedSimpArgs false
set_option maxHeartbeats 1000000
def secL (h : List Nat) : List Nat := clampL (h.take 32)
def bmV (k : Nat) : Nat := encR (rtm dN k (rdP baseL) 256 gO)
def pubW (g : List Nat → List Nat) (s : List Nat) : List Nat := dB (bmV (vB (secL (g s))))
def sgR (g : List Nat → List Nat) (s m : List Nat) : Nat := wideV (g ((g s).drop 32 ++ m))
def sgF (g : List Nat → List Nat) (s m : List Nat) : List Nat := dB (bmV (sgR g s m))
def sgK (g : List Nat → List Nat) (s m : List Nat) : Nat := wideV (g (sgF g s m ++ pubW g s ++ m))
def sgS (g : List Nat → List Nat) (s m : List Nat) : Nat := maV (sgK g s m) (vB (secL (g s))) (sgR g s m)
def sigW (g : List Nat → List Nat) (s m : List Nat) : List Nat := sgF g s m ++ dB (sgS g s m)
def pbI (g : List Nat → List Nat) (s : List Nat) : List Nat := if s.length = 32 then pubW g s else []
def erI (s : List Nat) : Int := if s.length = 32 then 0 else 1
def sgI (g : List Nat → List Nat) (s m : List Nat) : List Nat := if s.length = 32 then sigW g s m else []
def eS512 (g : List Nat → List Nat) (args : List SV) : Option (SV × List Prop) := match args with
  | [.sl .u8 b] => some (.sl .u8 (g b), [b.length ≤ 1000000])
  | _ => none
def eSec (g : List Nat → List Nat) (args : List SV) : Option (SV × List Prop) := match args with
  | [.sl .u8 s] => some (.tup [fe (vB (secL (g s))), .sl .u8 ((g s).drop 32)], [s.length ≤ 1000000])
  | _ => none
def eMulti (args : List SV) : Option (SV × List Prop) := match args with
  | [.ag [.arr .u64 4 d, .arr .u64 4 w], .arr .u64 4 k] => some (fld (bmV (vF k)), [vF d = DP, vF w = W2])
  | _ => none
def eNum (g : List Nat → List Nat) (args : List SV) : Option (SV × List Prop) := match args with
  | [.slv 1 [x, y]] => match part? x, part? y with
    | some a, some b => some (fe (wideV (g (a ++ b))), [a.length + b.length ≤ 1000000])
    | _, _ => none
  | [.slv 1 [x, y, z]] => match part? x, part? y, part? z with
    | some a, some b, some c => some (fe (wideV (g (a ++ b ++ c))), [a.length + b.length + c.length ≤ 1000000])
    | _, _, _ => none
  | _ => none
def ePubX (g : List Nat → List Nat) (args : List SV) : Option (SV × List Prop) := match args with
  | [.sl .u8 s] => some (.tup [.sl .u8 (pbI g s), .i .i64 (erI s)], [])
  | _ => none
def eSgnX (g : List Nat → List Nat) (args : List SV) : Option (SV × List Prop) := match args with
  | [.sl .u8 s, .sl .u8 m] => some (.tup [.sl .u8 (sgI g s m), .i .i64 (erI s)], [m.length ≤ 900000])
  | _ => none
def H9a (g : List Nat → List Nat) : Ctr := addC 101 eJoinB (addC 99 (eS512 g) G.H4)
def H9b (g : List Nat → List Nat) : Ctr := addC 53 eMulti (addC 52 (eSec g) (H9a g))
def H9c (g : List Nat → List Nat) : Ctr := addC 56 (eNum g) (H9b g)
def H9 (g : List Nat → List Nat) : Ctr := addC 18 (eSgnX g) (addC 16 (ePubX g) (H9c g))
theorem pbI_p {g : List Nat → List Nat} {s : List Nat} (hl : s.length = 32) : pbI g s = pubW g s := if_pos hl
theorem pbI_n {g : List Nat → List Nat} {s : List Nat} (hl : ¬ s.length = 32) : pbI g s = [] := if_neg hl
theorem erI_p {s : List Nat} (hl : s.length = 32) : erI s = 0 := if_pos hl
theorem erI_n {s : List Nat} (hl : ¬ s.length = 32) : erI s = 1 := if_neg hl
theorem sgI_p {g : List Nat → List Nat} {s m : List Nat} (hl : s.length = 32) : sgI g s m = sigW g s m := if_pos hl
theorem sgI_n {g : List Nat → List Nat} {s m : List Nat} (hl : ¬ s.length = 32) : sgI g s m = [] := if_neg hl
theorem beL_lt {x : Nat} {m : List Nat} (h : ∀ y ∈ m, y < 256) : ∀ y ∈ beL x m, y < 256 := by
  intro y hy
  simp only [beL, List.mem_append, List.mem_singleton] at hy
  rcases hy with (((((((hy | hy) | hy) | hy) | hy) | hy) | hy) | hy) | hy
  · exact h y hy
  all_goals (rw [hy]; exact Nat.mod_lt _ (by decide))
theorem out64_lt (h : List Nat) : ∀ i, ∀ y ∈ out64 h i, y < 256 := by
  intro i
  induction i with
  | zero => intro y hy; cases hy
  | succ i ih => exact beL_lt ih
theorem sum64_len (b : List Nat) : (sum64 b).length = 64 := out64_len _ 8
theorem sum64_lt (b : List Nat) : ∀ y ∈ sum64 b, y < 256 := out64_lt _ 8
structure HashOk (g : List Nat → List Nat) : Prop where
  len : ∀ b, (g b).length = 64
  lt : ∀ b, ∀ y ∈ g b, y < 256
theorem sum64_ok : HashOk sum64 := ⟨sum64_len, sum64_lt⟩
theorem cS512 {g : List Nat → List Nat} (hg : g = sum64) : ∀ args res ob, eS512 g args = some (res, ob) → All ob → Contract Tryz.prog 99 args res := by
  intro args res ob h hob
  unfold eS512 at h
  split at h
  · cases h; rw [hg]; exact sum512_c _ hob.1
  · cases h
theorem okH9a {g : List Nat → List Nat} (hg : g = sum64) : CtrOk Tryz.prog (H9a g) := addC_ok (addC_ok okH4 (cS512 hg)) cJoinB
theorem secL_ok {g : List Nat → List Nat} (hk : HashOk g) (s : List Nat) : (secL (g s)).length = 32 ∧ ∀ x ∈ secL (g s), x < lim .u8 := by
  have h1 : ((g s).take 32).length = 32 := by rw [List.length_take, hk.len]; rfl
  refine ⟨by unfold secL clampL; rw [List.length_set, List.length_set, h1], bits_clamp ⟨h1, fun x hx => hk.lt s x (List.mem_of_mem_take hx)⟩⟩
theorem cSec {g : List Nat → List Nat} (hg : g = sum64) (hk : HashOk g) : ∀ args res ob, eSec g args = some (res, ob) → All ob → Contract Tryz.prog 52 args res := by
  intro args res ob h hob
  unfold eSec at h
  split at h
  · rename_i s
    cases h
    refine contract Tryz.func52 (body := bodyOf Tryz.f52) rfl (by kernel_rfl) (by kernel_rfl) rfl ?_
    rintro _ w0 S
    have h1 := hk.len s
    have h2 : (List.take 32 (g s)).length = 32 := by rw [List.length_take, h1]; rfl
    refine hold_end mixed (okH9a hg) (unroll := true) (f := 100) (sc := []) (r := (SV.tup [SV.arr IntKind.u64 4 (Go.Eng.dF (Go.Eng.vB (((List.take 32 (List.drop 0 (List.take 32 (g s)))).set 0 ((List.take 32 (List.drop 0 (List.take 32 (g s)))).getD 0 0 &&& 248)).set 31 (((List.take 32 (List.drop 0 (List.take 32 (g s)))).set 0 ((List.take 32 (List.drop 0 (List.take 32 (g s)))).getD 0 0 &&& 248)).getD 31 0 &&& 127 ||| 64)))), SV.sl IntKind.u8 (List.drop 32 (List.take (g s).length (g s)))])) (ob := [s.length ≤ 1000000, 0 ≤ 32, 32 ≤ (g s).length, 32 ≤ (List.drop 0 (List.take 32 (g s))).length, 32 ≤ (g s).length, (g s).length ≤ (g s).length]) (sc' := []) (by kernel_rfl) ?_ ?_
    · rw [List.drop_zero]
      exact ⟨hob.1, by repeat' first | exact True.intro | omega | (rw [h2]; omega) | refine ⟨?_, ?_⟩⟩
    · rw [List.drop_zero, List.take_of_length_le (show (List.take 32 (g s)).length ≤ 32 by omega), List.take_of_length_le (Nat.le_refl (g s).length)]
      rfl
  · cases h
theorem cMulti {g : List Nat → List Nat} (hg : g = sum64) : ∀ args res ob, eMulti args = some (res, ob) → All ob → Contract Tryz.prog 53 args res := by
  intro args res ob h hob
  unfold eMulti at h
  split at h
  · rename_i d w k
    cases h
    obtain ⟨hd, hw, _⟩ := hob
    refine contract Tryz.func53 (body := bodyOf Tryz.f53) rfl (by kernel_rfl) (by kernel_rfl) rfl ?_
    rintro _ w0 S
    have lY : dY baseL < M256 := maskL_lt ⟨rfl, by decide⟩
    have p0 := decP_ok lY DP
    have p1 := p4_pt p0
    have p2 := p4_pt (gtm_ok W2_lt (vF k) p0 256 gO gO_ok)
    refine hold_end mixed (okH9a hg) (unroll := true) (f := 100) (sc := []) (r := (SV.arr IntKind.u8 32 (Go.Eng.dB (Go.Eng.G.encV (Go.Eng.G.p4 (Go.Eng.dF (Go.Eng.G.gtm (Go.Eng.vF w) (Go.Eng.vF k) (Go.Eng.G.p4 (Go.Eng.dF (Go.Eng.G.decP (Go.Eng.vF d) Go.Eng.G.baseL).x) (Go.Eng.dF (Go.Eng.G.decP (Go.Eng.vF d) Go.Eng.G.baseL).y) (Go.Eng.dF (Go.Eng.G.decP (Go.Eng.vF d) Go.Eng.G.baseL).z) (Go.Eng.dF (Go.Eng.G.decP (Go.Eng.vF d) Go.Eng.G.baseL).t)) 256 Go.Eng.G.gO).x) (Go.Eng.dF (Go.Eng.G.gtm (Go.Eng.vF w) (Go.Eng.vF k) (Go.Eng.G.p4 (Go.Eng.dF (Go.Eng.G.decP (Go.Eng.vF d) Go.Eng.G.baseL).x) (Go.Eng.dF (Go.Eng.G.decP (Go.Eng.vF d) Go.Eng.G.baseL).y) (Go.Eng.dF (Go.Eng.G.decP (Go.Eng.vF d) Go.Eng.G.baseL).z) (Go.Eng.dF (Go.Eng.G.decP (Go.Eng.vF d) Go.Eng.G.baseL).t)) 256 Go.Eng.G.gO).y) (Go.Eng.dF (Go.Eng.G.gtm (Go.Eng.vF w) (Go.Eng.vF k) (Go.Eng.G.p4 (Go.Eng.dF (Go.Eng.G.decP (Go.Eng.vF d) Go.Eng.G.baseL).x) (Go.Eng.dF (Go.Eng.G.decP (Go.Eng.vF d) Go.Eng.G.baseL).y) (Go.Eng.dF (Go.Eng.G.decP (Go.Eng.vF d) Go.Eng.G.baseL).z) (Go.Eng.dF (Go.Eng.G.decP (Go.Eng.vF d) Go.Eng.G.baseL).t)) 256 Go.Eng.G.gO).z) (Go.Eng.dF (Go.Eng.G.gtm (Go.Eng.vF w) (Go.Eng.vF k) (Go.Eng.G.p4 (Go.Eng.dF (Go.Eng.G.decP (Go.Eng.vF d) Go.Eng.G.baseL).x) (Go.Eng.dF (Go.Eng.G.decP (Go.Eng.vF d) Go.Eng.G.baseL).y) (Go.Eng.dF (Go.Eng.G.decP (Go.Eng.vF d) Go.Eng.G.baseL).z) (Go.Eng.dF (Go.Eng.G.decP (Go.Eng.vF d) Go.Eng.G.baseL).t)) 256 Go.Eng.G.gO).t)))))) (ob := []) (sc' := []) (by kernel_rfl) trivial ?_
    rw [hd, hw, p1, p2, encV_mod, gtm_mod W2_lt W2_mod _ p0 _ _ gO_ok, decP_mod lY, pm_id gO_okP]
    rfl
  · cases h
theorem okH9b {g : List Nat → List Nat} (hg : g = sum64) (hk : HashOk g) : CtrOk Tryz.prog (H9b g) := addC_ok (addC_ok (okH9a hg) (cSec hg hk)) (cMulti hg)
def stNm : List It := [.lp [0, 1, 0, 1, 1, 1], .blk 0, .at [1, 1, 1, 1]]
def sNm (b L : List Nat) (i : SV) : St := ⟨32, [(2, .ptr 0 0 (.c 0)), (4, .ptr 1 0 (.c 0)), (10, .sl .u8 b), (11, .u .i64 b.length), (12, i)],
  [(0, ⟨59, [.arr .u64 4 [0, 0, 0, 0]], false⟩), (1, ⟨117, [.arr .u64 8 L], false⟩)], 2, 0⟩
section
variable {w0 : World} {S : Own} {res : SV}
theorem num_in {g : List Nat → List Nat} (hg : g = sum64) (hk : HashOk g) (b : List Nat) (hb : ∀ x ∈ b, x < 256) (hlen : b.length = 64) (hR : res = fe (wideV b)) :
    ∀ d i, i + d = b.length → ∀ L, L = dg W64 8 (vl 256 (b.take i)) → Hold Tryz.prog (bodyOf Tryz.f56) (Fin Tryz.prog Tryz.f56 w0 S res) w0 S stNm (sNm b L (.u .i64 i)) := by
  intro d
  induction d with
  | zero =>
    intro i hi L hL
    refine hold_unroll (c := _) rfl ?_
    refine hold_end mixed (okH9b hg hk) (unroll := false) (f := 100) (sc := [false]) (r := (SV.arr IntKind.u64 4 (Go.Eng.dF (Go.Eng.G.restV L)))) (ob := [Decidable.decide (i < b.length) = Bool.false, L.length ≤ 1000]) (sc' := []) (by kernel_rfl) ?_ ?_
    · exact ⟨by simp; omega, by rw [hL, dg_length]; decide, trivial⟩
    · rw [hR]
      have e : restV L = wideV b := by
        unfold restV wideV
        have h8 : vl 256 b < W64 ^ 8 := Nat.lt_of_lt_of_le (vl_lt (b := 256) b hb) (Nat.le_trans (Nat.pow_le_pow_right (by decide) (show b.length ≤ 64 by omega)) (show 256 ^ 64 ≤ W64 ^ 8 by decide))
        rw [hL, vl_dg, List.take_of_length_le (by omega), Nat.mod_eq_of_lt h8]
      rw [e]
      rfl
  | succ d ih =>
    intro i hi L hL
    refine hold_unroll (c := _) rfl ?_
    have hv := vl_take_lt hb i
    have hx : b.getD i 0 < 256 := getD_lt (by decide) hb i
    refine hold_cut mixed (okH9b hg hk) (unroll := false) (f := 100) (sc := [true]) (ks := [2,4,10,11,12]) (bs := [0,1]) (nx := 2) (st' := [It.lp [0, 1, 0, 1, 1, 1], It.blk 0, It.at [1, 1, 1, 1]]) (σ' := { nt := 32, slots := [(2, SV.ptr 0 0 (Ix.c 0)), (4, SV.ptr 1 0 (Ix.c 0)), (10, SV.sl IntKind.u8 b), (11, SV.u IntKind.i64 b.length), (12, SV.u IntKind.i64 (i + 1))], blks := [(0, { ty := 59, segs := [SV.arr IntKind.u64 4 [0, 0, 0, 0]] }), (1, { ty := 117, segs := [SV.arr IntKind.u64 8 (L.set (i / 8) (L.getD (i / 8) 0 ||| b.getD i 0 * 2 ^ (8 * (i % 8)) % 18446744073709551616))] })], next := 2 }) (ob := [Decidable.decide (i < b.length) = Bool.true, i < b.length, i / 8 < 8, i / 8 < 8, 8 * (i % 8) < 9223372036854775808, 8 * (i % 8) < 64, i / 8 < 8, i / 8 < 8, i + 1 < 9223372036854775808]) (sc' := []) (by kernel_rfl) ?_ ?_
    · repeat' (first | exact True.intro | refine And.intro ?_ ?_)
      all_goals first | omega | (simp; omega) | (simp only [lim]; omega)
    · refine ih (i + 1) (by omega) _ ?_
      rw [hL, vl_take _ _ _ (by omega)]
      exact or_dig hv hx (by omega)
theorem num2_c {g : List Nat → List Nat} (hg : g = sum64) (hk : HashOk g) (a b : List Nat) (hl : a.length + b.length ≤ 1000000) : Contract Tryz.prog 56 [.slv 1 [.sl .u8 a, .sl .u8 b]] (fe (wideV (g (a ++ b)))) := by
  refine contract Tryz.func56 (body := bodyOf Tryz.f56) rfl (by kernel_rfl) (by kernel_rfl) rfl ?_
  rintro _ w0 S
  have hl2 : (a ++ b).length ≤ 1000000 := by rw [List.length_append]; exact hl
  refine hold_cut mixed (okH9b hg hk) (unroll := false) (f := 100) (sc := []) (ks := [2,4,10,11,12]) (bs := [0,1]) (nx := 2) (st' := [It.lp [0, 1, 0, 1, 1, 1], It.blk 0, It.at [1, 1, 1, 1]]) (σ' := { nt := 32, slots := [(2, SV.ptr 0 0 (Ix.c 0)), (4, SV.ptr 1 0 (Ix.c 0)), (10, SV.sl IntKind.u8 (g (a ++ b))), (11, SV.u IntKind.i64 (g (a ++ b)).length), (12, SV.c IntKind.i64 (0 : Int))], blks := [(0, { ty := 59, segs := [SV.arr IntKind.u64 4 [0, 0, 0, 0]] }), (1, { ty := 117, segs := [SV.arr IntKind.u64 8 [0, 0, 0, 0, 0, 0, 0, 0]] })], next := 2 }) (ob := [a.length + b.length ≤ 1000000, (a ++ b).length ≤ 1000000]) (sc' := []) (by kernel_rfl) ⟨hl, hl2, trivial⟩ ?_
  have := num_in (w0 := w0) (S := S) hg hk (g (a ++ b)) (hk.lt _) (hk.len _) rfl (g (a ++ b)).length 0 (by omega) [0, 0, 0, 0, 0, 0, 0, 0] (by rw [List.take_zero]; decide)
  exact Hold.weaken this (by simp [wks, wk, wk0, wka, lim, sNm])
theorem num3_c {g : List Nat → List Nat} (hg : g = sum64) (hk : HashOk g) (a b c : List Nat) (hl : a.length + b.length + c.length ≤ 1000000) : Contract Tryz.prog 56 [.slv 1 [.sl .u8 a, .sl .u8 b, .sl .u8 c]] (fe (wideV (g (a ++ b ++ c)))) := by
  refine contract Tryz.func56 (body := bodyOf Tryz.f56) rfl (by kernel_rfl) (by kernel_rfl) rfl ?_
  rintro _ w0 S
  have hl2 : (a ++ b ++ c).length ≤ 1000000 := by rw [List.length_append, List.length_append]; exact hl
  refine hold_cut mixed (okH9b hg hk) (unroll := false) (f := 100) (sc := []) (ks := [2,4,10,11,12]) (bs := [0,1]) (nx := 2) (st' := [It.lp [0, 1, 0, 1, 1, 1], It.blk 0, It.at [1, 1, 1, 1]]) (σ' := { nt := 32, slots := [(2, SV.ptr 0 0 (Ix.c 0)), (4, SV.ptr 1 0 (Ix.c 0)), (10, SV.sl IntKind.u8 (g (a ++ b ++ c))), (11, SV.u IntKind.i64 (g (a ++ b ++ c)).length), (12, SV.c IntKind.i64 (0 : Int))], blks := [(0, { ty := 59, segs := [SV.arr IntKind.u64 4 [0, 0, 0, 0]] }), (1, { ty := 117, segs := [SV.arr IntKind.u64 8 [0, 0, 0, 0, 0, 0, 0, 0]] })], next := 2 }) (ob := [a.length + b.length + c.length ≤ 1000000, (a ++ b ++ c).length ≤ 1000000]) (sc' := []) (by kernel_rfl) ⟨hl, hl2, trivial⟩ ?_
  have := num_in (w0 := w0) (S := S) hg hk (g (a ++ b ++ c)) (hk.lt _) (hk.len _) rfl (g (a ++ b ++ c)).length 0 (by omega) [0, 0, 0, 0, 0, 0, 0, 0] (by rw [List.take_zero]; decide)
  exact Hold.weaken this (by simp [wks, wk, wk0, wka, lim, sNm])
end
theorem cNum {g : List Nat → List Nat} (hg : g = sum64) (hk : HashOk g) : ∀ args res ob, eNum g args = some (res, ob) → All ob → Contract Tryz.prog 56 args res := by
  intro args res ob h hob
  unfold eNum at h
  split at h
  · split at h
    · rename_i hx hy
      cases h
      exact slv_argsF (num2_c hg hk _ _ hob.1) ⟨part_wk hx, part_wk hy, rfl⟩ (by simp [SV.size]) rfl
    · cases h
  · split at h
    · rename_i hx hy hz
      cases h
      exact slv_argsF (num3_c hg hk _ _ _ hob.1) ⟨part_wk hx, part_wk hy, part_wk hz, rfl⟩ (by simp [SV.size]) rfl
    · cases h
  · cases h
theorem okH9c {g : List Nat → List Nat} (hg : g = sum64) (hk : HashOk g) : CtrOk Tryz.prog (H9c g) := addC_ok (okH9b hg hk) (cNum hg hk)
theorem cPubX {g : List Nat → List Nat} (hg : g = sum64) (hk : HashOk g) : ∀ args res ob, ePubX g args = some (res, ob) → All ob → Contract Tryz.prog 16 args res := by
  intro args res ob h hob
  unfold ePubX at h
  split at h
  · rename_i s
    cases h
    refine contract Tryz.func16 (body := bodyOf Tryz.f16) rfl (by kernel_rfl) (by kernel_rfl) rfl ?_
    rintro _ w0 S
    have eK := vd (vB_lt (secL_ok hk s))
    by_cases hl : s.length = 32
    · rw [pbI_p hl, erI_p hl]
      refine hold_endw mixed (okH9c hg hk) (unroll := true) (f := 100) (sc := [false]) (r := (SV.tup [SV.sl IntKind.u8 (Go.Eng.dB (bmV (Go.Eng.vF (Go.Eng.dF (Go.Eng.vB (secL (g s))))))), SV.c IntKind.i64 (0 : Int)])) (ob := [(s.length != 32) = Bool.false, s.length ≤ 1000000, 94991750553327537054923576013098519116177106212663501036117577537042505103504 = Go.Eng.G.DP, 74191411869338878686276167017509130379084227759686438032777571066171880567110 = Go.Eng.G.W2]) (sc' := []) (by kernel_rfl) ⟨by rw [hl]; rfl, by omega, rfl, W2_lit, trivial⟩ ?_
      rw [eK]
      exact ⟨rfl, ⟨rfl, rfl⟩, rfl⟩
    · rw [pbI_n hl, erI_n hl]
      refine hold_endw mixed (okH9c hg hk) (unroll := true) (f := 100) (sc := [true]) (r := (SV.tup [SV.sl IntKind.u8 [], SV.c IntKind.i64 (1 : Int)])) (ob := [(s.length != 32) = Bool.true]) (sc' := []) (by kernel_rfl) ⟨bne_iff_ne.mpr hl, trivial⟩ ?_
      exact ⟨rfl, ⟨rfl, rfl⟩, rfl⟩
  · cases h
end Go.Eng.G

namespace Go.Eng
open Go.RowKit

def unG (o : Oper) : Oper := { o with guard := none }
def pureStepG (P : Program) (ctr : Ctr) (ops : Array Oper) (σ : St) (i : Nat) (o : Oper) (sc : List Bool) : Option (St × List Prop × List Bool) :=
  match guardOf ops σ.slots o with
  | none => none
  | some false => match putS σ o.dst (.tup []) with | some σ' => some (σ', [], sc) | none => none
  | some true => match evalR P ctr σ.blks (lookρ σ.slots) (unG o) with
      | some (.val s, ob) => if pureOp (unG o) || slicePtr σ.slots (unG o) || sliceSl σ.slots (unG o) || (numOp σ.slots (unG o) && s.rigid) then
          match resolveB (isGuard ops i) s sc with
          | some (s', ob2, sc') => match putS σ o.dst s' with | some σ' => some (σ', ob ++ ob2, sc') | none => none
          | none => none
        else none
      | _ => none

def firstPureG (P : Program) (ctr : Ctr) (ops : Array Oper) (L : Array Bool) (σ : St) (sc : List Bool) : List Nat → Option (Nat × St × List Prop × List Bool)
  | [] => none
  | i :: r => if Region.free .any ops L i then (match ops[i]? with
      | some o => match pureStepG P ctr ops σ i o sc with
        | some (σ', ob, sc') => some (i, σ', ob, sc')
        | none => firstPureG P ctr ops L σ sc r
      | none => none) else firstPureG P ctr ops L σ sc r


abbrev RA := Nat × Nat × Bool × Nat
def stRA (R : RA) : St := ⟨R.1, [(R.2.1, .cb R.2.2.1)], [], 0, R.2.2.2⟩
def endRA (d : Nat) (σ : St) : Option RA :=
  match restrict [d] [] 0 σ with
  | some ⟨nt, [(e, .cb x)], [], 0, m⟩ => some (nt, e, x, m)
  | _ => none
def tryAll (step : Nat → Option (RA × List Prop × List Bool)) : List Nat → Option (RA × List Prop × List Bool)
  | [] => none
  | [i] => step i
  | i :: r => match step i, tryAll step r with
    | some (R, ob, sc), some (R', ob', sc') => if R = R' ∧ sc = sc' then some (R, ob ++ ob', sc) else none
    | _, _ => none
def execAll (P : Program) (ctr : Ctr) (ops : Array Oper) (d : Nat) : Nat → Array Bool → St → List Bool → Option (RA × List Prop × List Bool)
  | 0, _, _, _ => none
  | f + 1, L, σ, sc => match Region.ready .any ops L with
    | [] => match endRA d σ with
      | some R => some (R, [], sc)
      | none => none
    | r => match firstPureG P ctr ops L σ sc r with
      | some (i, σ1, ob1, sc1) => match execAll P ctr ops d f (L.setIfInBounds i true) σ1 sc1 with
        | some (R, ob2, sc2) => some (R, ob1 ++ ob2, sc2)
        | none => none
      | none => tryAll (fun i => match ops[i]? with
        | some o => match stepOp P ctr ops σ i o sc with
          | some (σ1, ob1, sc1) => match execAll P ctr ops d f (L.setIfInBounds i true) σ1 sc1 with
            | some (R, ob2, sc2) => some (R, ob1 ++ ob2, sc2)
            | none => none
          | none => none
        | none => none) r
def lastDst (ops : Array Oper) : Option Nat := match ops.back? with | some o => o.dst | none => none
def drawAll (P : Program) (ctr : Ctr) (ops : Array Oper) (σ : St) (sc : List Bool) : Option (St × List Prop × List Bool) :=
  match lastDst ops with
  | some d => if Region.noSelect ops then (match execAll P ctr ops d (ops.size + 1) (Array.replicate ops.size false) σ sc with
    | some (R, ob, sc') => some (stRA R, ob, sc')
    | none => none) else none
  | none => none

section
variable {P : Program} {ctr : Ctr} {w0 : Fr} {w : World} {S : Own} {σ σ' : St} {β : Nat → Nat} {a : Act} {ops : Array Oper}

theorem firstPureG_ok : ∀ {r : List Nat} {L : Array Bool} {sc sc' : List Bool} {i : Nat} {ob : List Prop}, firstPureG P ctr ops L σ sc r = some (i, σ', ob, sc') → i ∈ r ∧ Region.free .any ops L i = true ∧ ∃ o, ops[i]? = some o ∧ pureStepG P ctr ops σ i o sc = some (σ', ob, sc') := by
  intro r
  induction r with
  | nil => intro L sc sc' i ob h; simp [firstPureG] at h
  | cons j r ih =>
    intro L sc sc' i ob h
    simp only [firstPureG] at h
    split at h
    · rename_i hf
      split at h
      · rename_i o ho
        split at h
        · rename_i hp; cases h; exact ⟨by simp, hf, o, ho, hp⟩
        · obtain ⟨h1, h2⟩ := ih h; exact ⟨List.mem_cons_of_mem _ h1, h2⟩
      · cases h
    · obtain ⟨h1, h2⟩ := ih h; exact ⟨List.mem_cons_of_mem _ h1, h2⟩

theorem pureStepG_ok {i : Nat} {o : Oper} {sc sc' : List Bool} {ob : List Prop} (h : pureStepG P ctr ops σ i o sc = some (σ', ob, sc')) (hob : All ob) (hS : Sat w0 S σ β a w) :
    ∃ v, Yields P ops o v a ∧ Sat w0 S σ' β (a.put o.dst v) w := by
  unfold pureStepG at h
  split at h
  · cases h
  · rename_i hg
    split at h
    · rename_i σ1 hput
      cases h
      exact ⟨undef, .inr ⟨guard_ok hS.slot hg, rfl⟩, hS.put hput ⟨[], rfl, rfl⟩⟩
    · cases h
  · rename_i hg
    split at h
    · rename_i s ob1 hev
      split at h
      · rename_i hp
        split at h
        · rename_i s' ob2 sc1 hres
          split at h
          · rename_i σ1 hput
            cases h
            obtain ⟨ho1, ho2⟩ := All.append.1 hob
            have key : ∃ v, (∀ w', (execOp a.eval o).run P w' = .ok (.value v) w') ∧ relV β (owS S σ.blks β) w s v := by
              simp only [Bool.or_eq_true, Bool.and_eq_true] at hp
              rcases hp with ((hp | hp) | hp) | hp
              · exact pureR_yields (fun y s hy => hS.look hy) hp hev
              · exact slice_yields (fun y s hy => hS.look hy) hp hev
              · exact sliceSl_yields (fun y s hy => hS.look hy) hp hev ho1
              · exact num_yields (fun y s hy => hS.look hy) hp.1 hp.2 hev ho1
            obtain ⟨v, h1, h2⟩ := key
            exact ⟨v, .inl ⟨guard_ok hS.slot hg, h1⟩, hS.put hput (resolveB_ok hres ho2 h2)⟩
          · cases h
        · cases h
      · cases h
    · cases h

theorem tryAll_ok {step : Nat → Option (RA × List Prop × List Bool)} : ∀ {r : List Nat} {R : RA} {ob : List Prop} {sc : List Bool}, tryAll step r = some (R, ob, sc) → All ob → ∀ i ∈ r, ∃ ob' sc', step i = some (R, ob', sc') ∧ All ob' := by
  intro r
  induction r with
  | nil => intro R ob sc h; simp [tryAll] at h
  | cons i r ih =>
    intro R ob sc h hob j hj
    cases r with
    | nil =>
      simp only [tryAll] at h
      simp only [List.mem_singleton] at hj
      subst hj
      exact ⟨ob, sc, h, hob⟩
    | cons k r =>
      simp only [tryAll] at h
      split at h
      · rename_i R1 ob1 sc1 R2 ob2 sc2 h1 h2
        split at h
        · rename_i he
          obtain ⟨rfl, rfl⟩ := he
          cases h
          obtain ⟨ho1, ho2⟩ := All.append.1 hob
          rcases List.mem_cons.1 hj with rfl | hj
          · exact ⟨_, _, h1, ho1⟩
          · exact ih h2 ho2 j hj
        · cases h
      · cases h

theorem endRA_ok {d : Nat} {R : RA} (h : endRA d σ = some R) (hS : Sat w0 S σ β a w) : Sat w0 S (stRA R) β a w := by
  unfold endRA at h
  split at h
  · rename_i nt e x m hr
    cases h
    exact hS.restrict hr
  · cases h

theorem execAll_ok (hctr : CtrOk P ctr) (hs : Region.noSelect ops = true) {d : Nat} {Q : Exit → Act → World → Prop} (hQ : ∀ c a w, ¬ Q (.panic c) a w) : ∀ {f : Nat} {L : Array Bool} {σ : St} {R : RA} {sc sc' : List Bool} {ob : List Prop} {β : Nat → Nat} {a : Act} {w : World},
    execAll P ctr ops d f L σ sc = some (R, ob, sc') → All ob → Sat w0 S σ β a w → (∀ β' a' w', Sat w0 S (stRA R) β' a' w' → Q .normal a' w') → ∀ {g : Nat}, left L ≤ g → L.size = ops.size → wpAny P .any ops Q g L a w := by
  intro f
  induction f with
  | zero => intro L σ R sc sc' ob β a w h; simp [execAll] at h
  | succ f ih =>
    intro L σ R sc sc' ob β a w h hob hS hk g hl hsz
    simp only [execAll] at h
    split at h
    · rename_i hr
      split at h
      · rename_i R1 he
        cases h
        exact wpAny_done hr (hk β a w (endRA_ok he hS)) g
      · cases h
    · rename_i hr0
      have hstep : ∀ i, i ∈ Region.ready .any ops L → left L = left (L.setIfInBounds i true) + 1 := fun i hi => by
        obtain ⟨h1, o, ho, _⟩ := mem_ready.1 hi
        exact left_set (by rw [hsz]; exact (Array.getElem?_eq_some_iff.1 ho).1) h1
      have hpos : 0 < g := by
        cases hr : Region.ready .any ops L with
        | nil => exact absurd hr hr0
        | cons j t => have := hstep j (by rw [hr]; simp); omega
      obtain ⟨g, rfl⟩ : ∃ g', g = g' + 1 := ⟨g - 1, by omega⟩
      split at h
      · rename_i i σ1 ob1 sc1 hp
        split at h
        · rename_i R2 ob2 sc2 hx
          cases h
          obtain ⟨ho1, ho2⟩ := All.append.1 hob
          obtain ⟨hm, hf, o, ho, hst⟩ := firstPureG_ok hp
          obtain ⟨v, hy, hS1⟩ := pureStepG_ok hst ho1 hS
          refine wpAny_take ho hs hf (by simpa using hm) (fun c a w h => absurd h (hQ c _ w)) hy ?_
          exact ih hx ho2 hS1 hk (by have := hstep i hm; omega) (by simpa using hsz)
        · cases h
      · refine wpAny_all rfl hr0 ?_
        intro j hj
        obtain ⟨ob', sc2, h1, h2⟩ := tryAll_ok h hob j hj
        split at h1
        · rename_i o ho
          split at h1
          · rename_i σ1 ob1 sc1 hst
            split at h1
            · rename_i R2 ob2 sc3 hx
              cases h1
              obtain ⟨ho1, ho2⟩ := All.append.1 h2
              refine stepOp_ok hctr hst ho1 ho hS fun β' a' w' hS' => ?_
              exact ih hx ho2 hS' hk (by have := hstep j hj; omega) (by simpa using hsz)
            · cases h1
          · cases h1
        · cases h1

theorem drawAll_ok (hm : P.follows .mixedOrders = true) (hctr : CtrOk P ctr) {id : Nat} {sc sc' : List Bool} {ob : List Prop} (h : drawAll P ctr ops σ sc = some (σ', ob, sc')) (hob : All ob) (hS : Sat w0 S σ β a w)
    {Q : Exit → Act → World → Prop} (hQ : ∀ c a w, ¬ Q (.panic c) a w) (hk : ∀ β' a' w', Sat w0 S σ' β' a' w' → Q .normal a' w') : (Code.region id ops true).wp P Q a w := by
  unfold drawAll at h
  split at h
  · split at h
    · rename_i hs
      split at h
      · rename_i R ob1 sc1 hx
        cases h
        refine wp_region_any hm ?_
        have hxt : Ext w { w with drawn := w.drawn + 1 } := ⟨rfl, rfl, rfl, Nat.le_refl _, fun _ _ => rfl⟩
        refine execAll_ok hctr hs hQ hx hob (hS.extend hxt) hk ?_ (by simp)
        simp [left, List.countP_replicate]
      · cases h
    · cases h
  · cases h
end
end Go.Eng

namespace Go.Eng
open Go.RowKit
structure Ke where
  (ks bs : List Nat) (nx : Nat)
def tryS (step : Nat → Option (St × List Prop × List Bool)) : List Nat → Option (St × List Prop × List Bool)
  | [] => none
  | [i] => step i
  | i :: r => match step i, tryS step r with
    | some (R, ob, sc), some (R', ob', sc') => if sc = sc' then some (R, (R' = R) :: (ob ++ ob'), sc) else none
    | _, _ => none
def execS (P : Program) (ctr : Ctr) (ops : Array Oper) (d : Ke) : Nat → Array Bool → St → List Bool → Option (St × List Prop × List Bool)
  | 0, _, _, _ => none
  | f + 1, L, σ, sc => match Region.ready .any ops L with
    | [] => match restrict d.ks d.bs d.nx σ with
      | some R => some (R, [], sc)
      | none => none
    | r => match firstPureG P ctr ops L σ sc r with
      | some (i, σ1, ob1, sc1) => match execS P ctr ops d f (L.setIfInBounds i true) σ1 sc1 with
        | some (R, ob2, sc2) => some (R, ob1 ++ ob2, sc2)
        | none => none
      | none => tryS (fun i => match ops[i]? with
        | some o => match stepOp P ctr ops σ i o sc with
          | some (σ1, ob1, sc1) => match execS P ctr ops d f (L.setIfInBounds i true) σ1 sc1 with
            | some (R, ob2, sc2) => some (R, ob1 ++ ob2, sc2)
            | none => none
          | none => none
        | none => none) r
def drawS (P : Program) (ctr : Ctr) (ops : Array Oper) (d : Ke) (σ : St) (sc : List Bool) : Option (St × List Prop × List Bool) :=
  if Region.noSelect ops then execS P ctr ops d (ops.size + 1) (Array.replicate ops.size false) σ sc else none

section
variable {P : Program} {ctr : Ctr} {w0 : Fr} {w : World} {S : Own} {σ σ' : St} {β : Nat → Nat} {a : Act} {ops : Array Oper}
theorem tryS_ok {step : Nat → Option (St × List Prop × List Bool)} : ∀ {r : List Nat} {R : St} {ob : List Prop} {sc : List Bool}, tryS step r = some (R, ob, sc) → All ob → ∀ i ∈ r, ∃ ob' sc', step i = some (R, ob', sc') ∧ All ob' := by
  intro r
  induction r with
  | nil => intro R ob sc h; simp [tryS] at h
  | cons i r ih =>
    intro R ob sc h hob j hj
    cases r with
    | nil =>
      simp only [tryS] at h
      simp only [List.mem_singleton] at hj
      subst hj
      exact ⟨ob, sc, h, hob⟩
    | cons k r =>
      simp only [tryS] at h
      split at h
      · rename_i R1 ob1 sc1 R2 ob2 sc2 h1 h2
        split at h
        · cases h
          obtain ⟨he, hob⟩ := hob
          obtain ⟨ho1, ho2⟩ := All.append.1 hob
          rcases List.mem_cons.1 hj with rfl | hj
          · exact ⟨_, _, h1, ho1⟩
          · subst he
            exact ih h2 ho2 j hj
        · cases h
      · cases h
theorem execS_ok (hctr : CtrOk P ctr) (hs : Region.noSelect ops = true) {d : Ke} {Q : Exit → Act → World → Prop} (hQ : ∀ c a w, ¬ Q (.panic c) a w) : ∀ {f : Nat} {L : Array Bool} {σ : St} {R : St} {sc sc' : List Bool} {ob : List Prop} {β : Nat → Nat} {a : Act} {w : World},
    execS P ctr ops d f L σ sc = some (R, ob, sc') → All ob → Sat w0 S σ β a w → (∀ β' a' w', Sat w0 S R β' a' w' → Q .normal a' w') → ∀ {g : Nat}, left L ≤ g → L.size = ops.size → wpAny P .any ops Q g L a w := by
  intro f
  induction f with
  | zero => intro L σ R sc sc' ob β a w h; simp [execS] at h
  | succ f ih =>
    intro L σ R sc sc' ob β a w h hob hS hk g hl hsz
    simp only [execS] at h
    split at h
    · rename_i hr
      split at h
      · rename_i R1 he
        cases h
        exact wpAny_done hr (hk β a w (hS.restrict he)) g
      · cases h
    · rename_i hr0
      have hstep : ∀ i, i ∈ Region.ready .any ops L → left L = left (L.setIfInBounds i true) + 1 := fun i hi => by
        obtain ⟨h1, o, ho, _⟩ := mem_ready.1 hi
        exact left_set (by rw [hsz]; exact (Array.getElem?_eq_some_iff.1 ho).1) h1
      have hpos : 0 < g := by
        cases hr : Region.ready .any ops L with
        | nil => exact absurd hr hr0
        | cons j t => have := hstep j (by rw [hr]; simp); omega
      obtain ⟨g, rfl⟩ : ∃ g', g = g' + 1 := ⟨g - 1, by omega⟩
      split at h
      · rename_i i σ1 ob1 sc1 hp
        split at h
        · rename_i R2 ob2 sc2 hx
          cases h
          obtain ⟨ho1, ho2⟩ := All.append.1 hob
          obtain ⟨hm, hf, o, ho, hst⟩ := firstPureG_ok hp
          obtain ⟨v, hy, hS1⟩ := pureStepG_ok hst ho1 hS
          refine wpAny_take ho hs hf (by simpa using hm) (fun c a w h => absurd h (hQ c _ w)) hy ?_
          exact ih hx ho2 hS1 hk (by have := hstep i hm; omega) (by simpa using hsz)
        · cases h
      · refine wpAny_all rfl hr0 ?_
        intro j hj
        obtain ⟨ob', sc2, h1, h2⟩ := tryS_ok h hob j hj
        split at h1
        · rename_i o ho
          split at h1
          · rename_i σ1 ob1 sc1 hst
            split at h1
            · rename_i R2 ob2 sc3 hx
              cases h1
              obtain ⟨ho1, ho2⟩ := All.append.1 h2
              refine stepOp_ok hctr hst ho1 ho hS fun β' a' w' hS' => ?_
              exact ih hx ho2 hS' hk (by have := hstep j hj; omega) (by simpa using hsz)
            · cases h1
          · cases h1
        · cases h1

theorem drawS_ok (hm : P.follows .mixedOrders = true) (hctr : CtrOk P ctr) {id : Nat} {d : Ke} {sc sc' : List Bool} {ob : List Prop} (h : drawS P ctr ops d σ sc = some (σ', ob, sc')) (hob : All ob) (hS : Sat w0 S σ β a w)
    {Q : Exit → Act → World → Prop} (hQ : ∀ c a w, ¬ Q (.panic c) a w) (hk : ∀ β' a' w', Sat w0 S σ' β' a' w' → Q .normal a' w') : (Code.region id ops true).wp P Q a w := by
  unfold drawS at h
  split at h
  · rename_i hs
    refine wp_region_any hm ?_
    have hxt : Ext w { w with drawn := w.drawn + 1 } := ⟨rfl, rfl, rfl, Nat.le_refl _, fun _ _ => rfl⟩
    refine execS_ok hctr hs hQ h hob (hS.extend hxt) hk ?_ (by simp)
    simp [left, List.countP_replicate]
  · cases h
end
def regS (P : Program) (ctr : Ctr) (body : Code) (p : List Nat) (r : List It) (d : Ke) (σ : St) (sc : List Bool) : List It × Option St × List Prop × List Bool :=
  match nav body p with
  | some (.region _ ops true) => match drawS P ctr ops d σ sc with
    | some (σ', ob, sc') => (r, some σ', ob, sc')
    | none => ([], none, [], sc)
  | _ => ([], none, [], sc)
theorem hold_allS {P : Program} {body : Code} {w0 : Fr} {S : Own} (hm : P.follows .mixedOrders = true) {ctr : Ctr} (hctr : CtrOk P ctr) {Q : Exit → Act → World → Prop} [ExitOk Q] {p : List Nat} {r : List It} {d : Ke} {σ : St} {sc : List Bool} {st' : List It} {σ' : St} {ob : List Prop} {sc' : List Bool}
    (h : regS P ctr body p r d σ sc = (st', some σ', ob, sc')) (hob : All ob) (hk : Hold P body Q w0 S st' σ') : Hold P body Q w0 S (.at p :: r) σ := by
  unfold regS at h
  split at h
  · rename_i id ops hn
    split at h
    · rename_i σ1 ob1 sc1 hx
      cases h
      intro β a w hS
      simp only [contQ, hn]
      exact drawS_ok hm hctr hx hob hS (contQ_panic (ExitOk.panic (Q := Q)) _) hk
    · cases h
  · cases h
end Go.Eng

namespace Go.Eng
open Go.RowKit
def appendX (P : Program) (σ : St) (t t2 : TypeId) (x y : SV) : Option (St × SV × List Prop) :=
  match elemOf P t, appSrc P t t2 σ.blks y, x with
  | some (e, by'), some (sy, ob0), .osl id n es => match readSl σ.blks (.osl id n es) with
    | some sx => match joinSl sx sy with
      | some r => some (Eng.nilRow σ e, .row σ.next r, ob0 ++ [slenD r * by' ≤ 140737488355328, 0 < slenD sy])
      | none => none
    | none => none
  | _, _, _ => none
def stepX (P : Program) (ops : Array Oper) (σ : St) (o : Oper) (sc : List Bool) : Option (St × List Prop × List Bool) :=
  match guardOf ops σ.slots o with
  | some true => match o.op with
    | .call { callee := .builtin .append, args := ⟨[x, y]⟩, argTypes := ⟨[t, t']⟩ } => match lookρ σ.slots x, lookρ σ.slots y with
      | some sx, some sy => match appendX P σ t t' sx sy.rd with
        | some (σ1, r, ob) => match putS σ1 o.dst r with | some σ' => some (σ', ob, sc) | none => none
        | none => none
      | _, _ => none
    | _ => none
  | _ => none
def stepOpX (P : Program) (ctr : Ctr) (ops : Array Oper) (σ : St) (i : Nat) (o : Oper) (sc : List Bool) : Option (St × List Prop × List Bool) :=
  match stepX P ops σ o sc with
  | some r => some r
  | none => stepOp P ctr ops σ i o sc
section
variable {P : Program} {ctr : Ctr} {w0 : Fr} {w : World} {S : Own} {σ σ' : St} {β : Nat → Nat} {a : Act} {ops : Array Oper}
theorem core_grow {id : Nat} {t t2 e ty : TypeId} {by' : Nat} (he : elemOf P t = some (e, by')) (hS : Sat w0 S σ β a w) (hR : RowStep σ σ' β S a w id e) {r : SV} {co news : List Value} (hc : slCells r = some (co ++ news)) (hg : slGood r)
    {x2 : Value} (hA : ∀ i z, P.info? e = some i → i.zero = some z → App P w t t2 ty e i z x2 news) (hb : (co.length + news.length) * by' ≤ 140737488355328) (h0 : 0 < news.length) (b : Addr)
    (holds : ∀ j u, co[j]? = some u → w.cell? (b.add j) = some u) :
    ∃ v w' β', (Builtin.append_ #[t, t2] ty #[.slice (some b) co.length co.length, x2]).run P w = .ok v w' ∧ Sat w0 S σ' β' a w' ∧ relV β' (owS S σ'.blks β') w' (.row id r) v := by
  obtain ⟨ht, i, z, hi, hz, hs1, hzs, hb0, hby⟩ := elemOf_ok he
  have hA := hA i z hi hz
  have hle : co.length + news.length ≤ 140737488355328 := Nat.le_trans (Nat.le_mul_of_pos_right _ hb0) hb
  have hr := hA.grow (b := b) (n := co.length) (cap := co.length) (olds := co) (by omega) rfl holds (by omega) (by omega) (by rw [hby]; exact hb) (growslice_fits (by omega) (by rw [hby]; exact hb))
  have hge := grownCap_ge w (co.length + news.length) co.length e
  have hcm2 := grownCap_le_maxLen w (co.length + news.length) co.length e (by simp only [maxLen]; omega)
  have hcore := core_new hS hR (rest := (Builtin.zeroCells z.cells (grownCap w (co.length + news.length) co.length e - (co.length + news.length))).toList) (cap := grownCap w (co.length + news.length) co.length e) hc hg (by
    have := size_zeroCells z.cells (grownCap w (co.length + news.length) co.length e - (co.length + news.length))
    rw [hzs] at this
    simp only [Array.length_toList, List.length_append]
    omega) (by omega) hcm2
  have e1 : (co ++ news ++ (Builtin.zeroCells z.cells (grownCap w (co.length + news.length) co.length e - (co.length + news.length))).toList).toArray = co.toArray ++ news.toArray ++ Builtin.zeroCells z.cells (grownCap w (co.length + news.length) co.length e - (co.length + news.length)) := by
    apply Array.ext'; simp
  rw [e1] at hcore
  simp only [List.length_append] at hcore
  exact ⟨_, _, _, hr, hcore.1, hcore.2⟩
theorem appendX_ok (hS : Sat w0 S σ β a w) {t t2 ty : TypeId} {x y r : SV} {ob : List Prop} (h : appendX P σ t t2 x y = some (σ', r, ob)) (hob : All ob) {v1 v2 : Value}
    (hx : relV β (owS S σ.blks β) w x v1) (hy : relV β (owS S σ.blks β) w y v2) :
    ∃ v w' β', (Builtin.append_ #[t, t2] ty #[v1, v2]).run P w = .ok v w' ∧ Sat w0 S σ' β' a w' ∧ relV β' (owS S σ'.blks β') w' r v := by
  unfold appendX at h
  split at h
  · rename_i e by' sy ob0 id n es he hry
    split at h
    · rename_i sx hrd
      split at h
      · rename_i r' hj
        cases h
        obtain ⟨ho0, hob⟩ := All.append.1 hob
        obtain ⟨gy, cy, hcy, hA⟩ := appSrc_ok (ty := ty) hS.blk he hry ho0 hy
        obtain ⟨gx, cx, A, c, hcx, hv, hcell⟩ := readSl_ok hS.blk hrd hx
        have h1 := relV_scalar rfl rfl hx
        simp only [rel, List.cons.injEq, and_true] at h1
        obtain ⟨hcr, hgr⟩ := joinSl_ok hj hcx hcy
        have hb : (cx.length + cy.length) * by' ≤ 140737488355328 := by have := hob.1; simpa [slenD, cells_slen hcr] using this
        have h0 : 0 < cy.length := by have := hob.2.1; simpa [slenD, cells_slen hcy] using this
        rw [h1] at hv
        cases hv
        rw [h1]
        refine core_grow (σ' := Eng.nilRow σ e) he hS (id := σ.next) ⟨rfl, ?_, ?_, hS.uniq_cons, by simp [Eng.nilRow], ⟨rfl, fun i bk hm _ => ⟨List.mem_cons_of_mem _ hm, .inl (hS.bndB i bk hm).1⟩⟩, by simp [Eng.nilRow]⟩ hcr (hgr gx gy) hA hb h0 ⟨β id, 0, none⟩ ?_
        · intro d s hm
          exact ⟨fun i hi => by have := hS.bnd d s hm i hi; simp only [Eng.nilRow]; omega, hS.slot d s hm⟩
        · intro i bk hm
          rcases List.mem_cons.1 hm with h | h
          · cases h; exact .inl ⟨rfl, rfl⟩
          · exact .inr ⟨h, hS.fresh i bk h⟩
        · intro j u hu
          obtain ⟨ad, e2, _, h3⟩ := hcell (by have := (List.getElem?_eq_some_iff.1 hu).1; omega)
          cases e2
          rw [add_plain]
          simpa using h3 j u hu
      · cases h
    · cases h
  · cases h
theorem wp_appendX {o : Oper} {x y : Operand} {t t2 : TypeId} (ho : o.op = .call { callee := .builtin .append, args := #[x, y], argTypes := #[t, t2] }) (hS : Sat w0 S σ β a w) {sx sy r : SV} {ob : List Prop}
    (h : appendX P σ t t2 sx sy = some (σ', r, ob)) (hob : All ob) (hx : relV β (owS S σ.blks β) w sx (a.eval x)) (hy : relV β (owS S σ.blks β) w sy (a.eval y))
    {K : Act → World → Prop} {Q : Exit → Act → World → Prop} (hk : ∀ v w' β', Sat w0 S σ' β' a w' → relV β' (owS S σ'.blks β') w' r v → K (a.put o.dst v) w') : o.wp P a w K Q := by
  obtain ⟨v, w', β', hr, h1, h2⟩ := appendX_ok (P := P) (ty := o.type) hS h hob hx hy
  unfold Oper.wp execOp
  simp only [ho, resolve, invoke, builtin, Sem.run_bind, Sem.run_pure, Result.andThen_ok, List.map_toArray, List.map_cons, List.map_nil, hr]
  exact hk v w' β' h1 h2
theorem stepOpX_ok (hctr : CtrOk P ctr) {σ' : St} {i : Nat} {o : Oper} {sc sc' : List Bool} {ob : List Prop} (h : stepOpX P ctr ops σ i o sc = some (σ', ob, sc')) (hob : All ob) (hi : ops[i]? = some o)
    (hS : Sat w0 S σ β a w) {K : Act → World → Prop} {Q : Exit → Act → World → Prop} (hk : ∀ β' a' w', Sat w0 S σ' β' a' w' → K a' w') : wpOp P ops Q i K a w := by
  unfold stepOpX at h
  split at h
  · rename_i hx
    cases h
    unfold stepX at hx
    split at hx
    · rename_i hg
      split at hx
      · rename_i x y t t' hop
        split at hx
        · rename_i sx sy hx1 hy1
          split at hx
          · rename_i σ1 r ob' happ
            split at hx
            · rename_i σ2 hput
              cases hx
              unfold wpOp
              simp only [hi]
              rw [guard_ok hS.slot hg]
              simp only [if_true]
              refine .inl ?_
              exact wp_appendX hop hS happ hob (hS.look hx1) (rd_ok (hS.look hy1)) fun v w' β' h1 h2 => hk β' _ _ (h1.put hput h2)
            · cases hx
          · cases hx
        · cases hx
      · cases hx
    · cases hx
  · exact stepOp_ok hctr h hob hi hS hk
end
def execX (P : Program) (ctr : Ctr) (ops : Array Oper) (d : Ke) : Nat → Array Bool → St → List Bool → Option (St × List Prop × List Bool)
  | 0, _, _, _ => none
  | f + 1, L, σ, sc => match Region.ready .any ops L with
    | [] => match restrict d.ks d.bs d.nx σ with
      | some R => some (R, [], sc)
      | none => none
    | r => match firstPureG P ctr ops L σ sc r with
      | some (i, σ1, ob1, sc1) => match execX P ctr ops d f (L.setIfInBounds i true) σ1 sc1 with
        | some (R, ob2, sc2) => some (R, ob1 ++ ob2, sc2)
        | none => none
      | none => tryS (fun i => match ops[i]? with
        | some o => match stepOpX P ctr ops σ i o sc with
          | some (σ1, ob1, sc1) => match execX P ctr ops d f (L.setIfInBounds i true) σ1 sc1 with
            | some (R, ob2, sc2) => some (R, ob1 ++ ob2, sc2)
            | none => none
          | none => none
        | none => none) r
def drawX (P : Program) (ctr : Ctr) (ops : Array Oper) (d : Ke) (σ : St) (sc : List Bool) : Option (St × List Prop × List Bool) :=
  if Region.noSelect ops then execX P ctr ops d (ops.size + 1) (Array.replicate ops.size false) σ sc else none

section
variable {P : Program} {ctr : Ctr} {w0 : Fr} {w : World} {S : Own} {σ σ' : St} {β : Nat → Nat} {a : Act} {ops : Array Oper}
theorem execX_ok (hctr : CtrOk P ctr) (hs : Region.noSelect ops = true) {d : Ke} {Q : Exit → Act → World → Prop} (hQ : ∀ c a w, ¬ Q (.panic c) a w) : ∀ {f : Nat} {L : Array Bool} {σ : St} {R : St} {sc sc' : List Bool} {ob : List Prop} {β : Nat → Nat} {a : Act} {w : World},
    execX P ctr ops d f L σ sc = some (R, ob, sc') → All ob → Sat w0 S σ β a w → (∀ β' a' w', Sat w0 S R β' a' w' → Q .normal a' w') → ∀ {g : Nat}, left L ≤ g → L.size = ops.size → wpAny P .any ops Q g L a w := by
  intro f
  induction f with
  | zero => intro L σ R sc sc' ob β a w h; simp [execX] at h
  | succ f ih =>
    intro L σ R sc sc' ob β a w h hob hS hk g hl hsz
    simp only [execX] at h
    split at h
    · rename_i hr
      split at h
      · rename_i R1 he
        cases h
        exact wpAny_done hr (hk β a w (hS.restrict he)) g
      · cases h
    · rename_i hr0
      have hstep : ∀ i, i ∈ Region.ready .any ops L → left L = left (L.setIfInBounds i true) + 1 := fun i hi => by
        obtain ⟨h1, o, ho, _⟩ := mem_ready.1 hi
        exact left_set (by rw [hsz]; exact (Array.getElem?_eq_some_iff.1 ho).1) h1
      have hpos : 0 < g := by
        cases hr : Region.ready .any ops L with
        | nil => exact absurd hr hr0
        | cons j t => have := hstep j (by rw [hr]; simp); omega
      obtain ⟨g, rfl⟩ : ∃ g', g = g' + 1 := ⟨g - 1, by omega⟩
      split at h
      · rename_i i σ1 ob1 sc1 hp
        split at h
        · rename_i R2 ob2 sc2 hx
          cases h
          obtain ⟨ho1, ho2⟩ := All.append.1 hob
          obtain ⟨hm, hf, o, ho, hst⟩ := firstPureG_ok hp
          obtain ⟨v, hy, hS1⟩ := pureStepG_ok hst ho1 hS
          refine wpAny_take ho hs hf (by simpa using hm) (fun c a w h => absurd h (hQ c _ w)) hy ?_
          exact ih hx ho2 hS1 hk (by have := hstep i hm; omega) (by simpa using hsz)
        · cases h
      · refine wpAny_all rfl hr0 ?_
        intro j hj
        obtain ⟨ob', sc2, h1, h2⟩ := tryS_ok h hob j hj
        split at h1
        · rename_i o ho
          split at h1
          · rename_i σ1 ob1 sc1 hst
            split at h1
            · rename_i R2 ob2 sc3 hx
              cases h1
              obtain ⟨ho1, ho2⟩ := All.append.1 h2
              refine stepOpX_ok hctr hst ho1 ho hS fun β' a' w' hS' => ?_
              exact ih hx ho2 hS' hk (by have := hstep j hj; omega) (by simpa using hsz)
            · cases h1
          · cases h1
        · cases h1

theorem drawX_ok (hm : P.follows .mixedOrders = true) (hctr : CtrOk P ctr) {id : Nat} {d : Ke} {sc sc' : List Bool} {ob : List Prop} (h : drawX P ctr ops d σ sc = some (σ', ob, sc')) (hob : All ob) (hS : Sat w0 S σ β a w)
    {Q : Exit → Act → World → Prop} (hQ : ∀ c a w, ¬ Q (.panic c) a w) (hk : ∀ β' a' w', Sat w0 S σ' β' a' w' → Q .normal a' w') : (Code.region id ops true).wp P Q a w := by
  unfold drawX at h
  split at h
  · rename_i hs
    refine wp_region_any hm ?_
    have hxt : Ext w { w with drawn := w.drawn + 1 } := ⟨rfl, rfl, rfl, Nat.le_refl _, fun _ _ => rfl⟩
    refine execX_ok hctr hs hQ h hob (hS.extend hxt) hk ?_ (by simp)
    simp [left, List.countP_replicate]
  · cases h
end
def regX (P : Program) (ctr : Ctr) (body : Code) (p : List Nat) (r : List It) (d : Ke) (σ : St) (sc : List Bool) : List It × Option St × List Prop × List Bool :=
  match nav body p with
  | some (.region _ ops true) => match drawX P ctr ops d σ sc with
    | some (σ', ob, sc') => (r, some σ', ob, sc')
    | none => ([], none, [], sc)
  | _ => ([], none, [], sc)
theorem hold_allX {P : Program} {body : Code} {w0 : Fr} {S : Own} (hm : P.follows .mixedOrders = true) {ctr : Ctr} (hctr : CtrOk P ctr) {Q : Exit → Act → World → Prop} [ExitOk Q] {p : List Nat} {r : List It} {d : Ke} {σ : St} {sc : List Bool} {st' : List It} {σ' : St} {ob : List Prop} {sc' : List Bool}
    (h : regX P ctr body p r d σ sc = (st', some σ', ob, sc')) (hob : All ob) (hk : Hold P body Q w0 S st' σ') : Hold P body Q w0 S (.at p :: r) σ := by
  unfold regX at h
  split at h
  · rename_i id ops hn
    split at h
    · rename_i σ1 ob1 sc1 hx
      cases h
      intro β a w hS
      simp only [contQ, hn]
      exact drawX_ok hm hctr hx hob hS (contQ_panic (ExitOk.panic (Q := Q)) _) hk
    · cases h
  · cases h
end Go.Eng

namespace Go.Eng.G
open Go Go.Eng Go.Proofs Go.Eng.B
set_option maxRecDepth 100000
set_option linter.unusedSimpArgs false
set_option maxHeartbeats 1000000
theorem okH9d {g : List Nat → List Nat} (hg : g = sum64) (hk : HashOk g) : CtrOk Tryz.prog (addC 16 (ePubX g) (H9c g)) := addC_ok (okH9c hg hk) (cPubX hg hk)
theorem wide_M (b : List Nat) : wideV b < M256 := Nat.lt_trans (Nat.mod_lt _ (by decide)) QQ_lt
theorem ma_M (a b c : Nat) : maV a b c < M256 := Nat.lt_trans (Nat.mod_lt _ (by decide)) QQ_lt
theorem slen_dB2 (a b : Nat) : slenD (.sl .u8 (dB a ++ dB b)) = 64 := by show (dB a ++ dB b).length = 64; rw [List.length_append, dB_len, dB_len]
theorem slen_dB1 (a : Nat) : slenD (.sl .u8 (dB a)) = 32 := dB_len a
def sSgn (A B : Nat) : St := ⟨44, [(11, .ptr 5 0 (.c 0)), (12, .ptr 7 0 (.c 0))], [(5, ⟨23, [.arr .u8 32 (dB A)], false⟩), (7, ⟨23, [.arr .u8 32 (dB B)], false⟩)], 8, 0⟩
def sSgn2 (A B : Nat) : St := ⟨44, [(4, .row 8 (.sl .u8 (dB A ++ dB B))), (5, .c .i64 0)], [(8, ⟨5, [], true⟩)], 11, 0⟩
section
variable {w0 : World} {S : Own} {res : SV}
theorem sgn_end {g : List Nat → List Nat} (hg : g = sum64) (hk : HashOk g) (A B : Nat) (hR : res = .tup [.sl .u8 (dB A ++ dB B), .i .i64 0]) :
    Hold Tryz.prog (bodyOf Tryz.f18) (Fin Tryz.prog Tryz.f18 w0 S res) w0 S [.at [0, 1, 1, 1, 1, 1, 1, 1, 1], .at [1, 1, 1, 1, 1, 1, 1, 1, 1]] (sSgn A B) := by
  refine hold_allX mixed (okH9d hg hk) (p := [0, 1, 1, 1, 1, 1, 1, 1, 1]) (r := [.at [1, 1, 1, 1, 1, 1, 1, 1, 1]]) (d := Ke.mk [4, 5] [8] 11) (σ := sSgn A B) (sc := []) (st' := [It.at [1, 1, 1, 1, 1, 1, 1, 1, 1]]) (σ' := (Go.Eng.St.mk 44 [(4, SV.row 8 (SV.sl IntKind.u8 (Go.Eng.dB A ++ Go.Eng.dB B))), (5, SV.c IntKind.i64 (0 : Int))] [(8, Go.Eng.Bk.mk 5 [] Bool.true)] 11 0)) (ob := [Go.Eng.slenD (SV.sl IntKind.u8 (Go.Eng.dB A ++ Go.Eng.dB B)) * 1 ≤ 140737488355328, 0 < Go.Eng.slenD (SV.sl IntKind.u8 (Go.Eng.dB B))]) (sc' := []) (by kernel_rfl) ?_ ?_
  · repeat' first | exact True.intro | exact rfl | (rw [slen_dB2]; decide) | (rw [slen_dB1]; decide) | refine ⟨?_, ?_⟩
  · rw [hR]
    refine hold_endw mixed (okH9d hg hk) (unroll := true) (f := 100) (sc := []) (r := (SV.tup [SV.sl IntKind.u8 (Go.Eng.dB A ++ Go.Eng.dB B), SV.c IntKind.i64 (0 : Int)])) (ob := []) (sc' := []) (by kernel_rfl) trivial ?_
    exact ⟨rfl, ⟨rfl, rfl⟩, rfl⟩
end
theorem cSgnX {g : List Nat → List Nat} (hg : g = sum64) (hk : HashOk g) : ∀ args res ob, eSgnX g args = some (res, ob) → All ob → Contract Tryz.prog 18 args res := by
  intro args res ob h hob
  unfold eSgnX at h
  split at h
  · rename_i s m
    cases h
    refine contract Tryz.func18 (body := bodyOf Tryz.f18) rfl (by kernel_rfl) (by kernel_rfl) rfl ?_
    rintro _ w0 S
    have eK := vd (vB_lt (secL_ok hk s))
    by_cases hl : s.length = 32
    · rw [sgI_p hl, erI_p hl]
      have hd : (List.drop 32 (g s)).length = 32 := by rw [List.length_drop, hk.len]
      have hm := hob.1
      refine hold_cut mixed (okH9d hg hk) (unroll := true) (f := 200) (sc := [false]) (ks := [11,12]) (bs := [5,7]) (nx := 8) (st' := [It.at [0, 1, 1, 1, 1, 1, 1, 1, 1], It.at [1, 1, 1, 1, 1, 1, 1, 1, 1]]) (σ' := { nt := 44, slots := [(11, SV.ptr 5 0 (Ix.c 0)), (12, SV.ptr 7 0 (Ix.c 0))], blks := [(5, { ty := 23, segs := [SV.arr IntKind.u8 32 (Go.Eng.dB (Go.Eng.G.bmV (Go.Eng.vF (Go.Eng.dF (Go.Eng.G.wideV (g (List.drop 32 (g s) ++ m)))))))] }), (7, { ty := 23, segs := [SV.arr IntKind.u8 32 (Go.Eng.dB (Go.Eng.vF (Go.Eng.dF (Go.Eng.G.maV (Go.Eng.vF (Go.Eng.dF (Go.Eng.G.wideV (g (Go.Eng.dB (Go.Eng.G.bmV (Go.Eng.vF (Go.Eng.dF (Go.Eng.G.wideV (g (List.drop 32 (g s) ++ m)))))) ++ Go.Eng.dB (Go.Eng.G.bmV (Go.Eng.vF (Go.Eng.dF (Go.Eng.vB (Go.Eng.G.secL (g s)))))) ++ m))))) (Go.Eng.vF (Go.Eng.dF (Go.Eng.vB (Go.Eng.G.secL (g s))))) (Go.Eng.vF (Go.Eng.dF (Go.Eng.G.wideV (g (List.drop 32 (g s) ++ m)))))))))] })], next := 8 }) (ob := [(s.length != 32) = Bool.false, s.length ≤ 1000000, 94991750553327537054923576013098519116177106212663501036117577537042505103504 = Go.Eng.G.DP, 74191411869338878686276167017509130379084227759686438032777571066171880567110 = Go.Eng.G.W2, (List.drop 32 (g s)).length + m.length ≤ 1000000, 94991750553327537054923576013098519116177106212663501036117577537042505103504 = Go.Eng.G.DP, 74191411869338878686276167017509130379084227759686438032777571066171880567110 = Go.Eng.G.W2, (Go.Eng.dB (Go.Eng.G.bmV (Go.Eng.vF (Go.Eng.dF (Go.Eng.G.wideV (g (List.drop 32 (g s) ++ m))))))).length + (Go.Eng.dB (Go.Eng.G.bmV (Go.Eng.vF (Go.Eng.dF (Go.Eng.vB (Go.Eng.G.secL (g s))))))).length + m.length ≤ 1000000]) (sc' := []) (by kernel_rfl) ?_ ?_
      · exact ⟨by rw [hl]; rfl, by omega, rfl, W2_lit, by rw [hd]; omega, rfl, W2_lit, by rw [dB_len, dB_len]; omega, trivial⟩
      · rw [eK, vd (wide_M _), vd (wide_M _), vd (ma_M _ _ _)]
        exact sgn_end hg hk (bmV (sgR g s m)) (sgS g s m) rfl
    · rw [sgI_n hl, erI_n hl]
      refine hold_endw mixed (okH9d hg hk) (unroll := true) (f := 100) (sc := [true]) (r := (SV.tup [SV.sl IntKind.u8 [], SV.c IntKind.i64 (1 : Int)])) (ob := [(s.length != 32) = Bool.true]) (sc' := []) (by kernel_rfl) ⟨bne_iff_ne.mpr hl, trivial⟩ ?_
      exact ⟨rfl, ⟨rfl, rfl⟩, rfl⟩
  · cases h
theorem okH9 {g : List Nat → List Nat} (hg : g = sum64) (hk : HashOk g) : CtrOk Tryz.prog (H9 g) := addC_ok (okH9d hg hk) (cSgnX hg hk)
end Go.Eng.G

namespace Go.Eng.G
open Go Go.Eng Go.Proofs Go.Eng.B
set_option maxRecDepth 100000
set_option linter.unusedSimpArgs false
set_option maxHeartbeats 1000000
def eRSec (g : List Nat → List Nat) (args : List SV) : Option (SV × List Prop) := match args with
  | [.sl .u8 s] => some (.tup [.arr .u8 32 (secL (g s)), .sl .u8 ((g s).drop 32)], [s.length ≤ 1000000])
  | _ => none
def eBP := t0 (pt (rdP baseL))
def H10a (g : List Nat → List Nat) : Ctr := addC 55 eBP (addC 60 (eS512 g) (addC 16 (ePubX g) (H9c g)))
def H10b (g : List Nat → List Nat) : Ctr := addC 54 (eRSec g) (H10a g)
def H10c (g : List Nat → List Nat) : Ctr := addC 17 (ePubX g) (H10b g)
def H10 (g : List Nat → List Nat) : Ctr := addC 19 (eSgnX g) (H10c g)
theorem cQ512 {g : List Nat → List Nat} (hg : g = sum64) : ∀ args res ob, eS512 g args = some (res, ob) → All ob → Contract Tryz.prog 60 args res := by
  intro args res ob h hob
  unfold eS512 at h
  split at h
  · cases h; rw [hg]; exact qsum512_c _ hob.1
  · cases h
theorem okH9d' {g : List Nat → List Nat} (hg : g = sum64) (hk : HashOk g) : CtrOk Tryz.prog (addC 60 (eS512 g) (addC 16 (ePubX g) (H9c g))) := addC_ok (addC_ok (okH9c hg hk) (cPubX hg hk)) (cQ512 hg)
theorem bP_c : Contract Tryz.prog 55 [] (pt (rdP baseL)) := by
  refine contract Tryz.func55 (body := bodyOf Tryz.f55) rfl (by kernel_rfl) (by kernel_rfl) rfl ?_
  intro _ w0 S
  exact hold_end mixed okH4 (unroll := true) (f := 100) (sc := []) (r := (SV.ag [SV.arr IntKind.u64 4 (Go.Eng.dF 15112221349535400772501151409588531511454012693041857206046113283949847762202), SV.arr IntKind.u64 4 (Go.Eng.dF 46316835694926478169428394003475163141307993866256225615783033603165251855960), SV.arr IntKind.u64 4 (Go.Eng.dF 1), SV.arr IntKind.u64 4 (Go.Eng.dF 46827403850823179245072216630277197565144205554125654976674165829533817101731)])) (ob := []) (sc' := []) (by kernel_rfl) trivial rfl
theorem okH10a {g : List Nat → List Nat} (hg : g = sum64) (hk : HashOk g) : CtrOk Tryz.prog (H10a g) := addC_ok (okH9d' hg hk) (t0_ok bP_c)
theorem cRSec {g : List Nat → List Nat} (hg : g = sum64) (hk : HashOk g) : ∀ args res ob, eRSec g args = some (res, ob) → All ob → Contract Tryz.prog 54 args res := by
  intro args res ob h hob
  unfold eRSec at h
  split at h
  · rename_i s
    cases h
    refine contract Tryz.func54 (body := bodyOf Tryz.f54) rfl (by kernel_rfl) (by kernel_rfl) rfl ?_
    rintro _ w0 S
    have h1 := hk.len s
    have h2 : (List.take 32 (g s)).length = 32 := by rw [List.length_take, h1]; rfl
    refine hold_end mixed (okH10a hg hk) (unroll := true) (f := 100) (sc := []) (r := (SV.tup [SV.arr IntKind.u8 32 (Go.Eng.G.clampL (List.take 32 (List.drop 0 (List.take 32 (g s))))), SV.sl IntKind.u8 (List.drop 32 (List.take (g s).length (g s)))])) (ob := [s.length ≤ 1000000, 0 ≤ 32, 32 ≤ (g s).length, 32 ≤ (g s).length, (g s).length ≤ (g s).length, 32 ≤ (List.drop 0 (List.take 32 (g s))).length]) (sc' := []) (by kernel_rfl) ?_ ?_
    · rw [List.drop_zero]
      exact ⟨hob.1, by repeat' first | exact True.intro | omega | (rw [h2]; omega) | refine ⟨?_, ?_⟩⟩
    · rw [List.drop_zero, List.take_of_length_le (show (List.take 32 (g s)).length ≤ 32 by omega), List.take_of_length_le (Nat.le_refl (g s).length)]
      rfl
  · cases h
theorem slen_dB (n : Nat) : slenD (.sl .u8 (dB n)) = 32 := dB_len n
theorem okH10b {g : List Nat → List Nat} (hg : g = sum64) (hk : HashOk g) : CtrOk Tryz.prog (H10b g) := addC_ok (okH10a hg hk) (cRSec hg hk)
theorem cRPub {g : List Nat → List Nat} (hg : g = sum64) (hk : HashOk g) : ∀ args res ob, ePubX g args = some (res, ob) → All ob → Contract Tryz.prog 17 args res := by
  intro args res ob h hob
  unfold ePubX at h
  split at h
  · rename_i s
    cases h
    refine contract Tryz.func17 (body := bodyOf Tryz.f17) rfl (by kernel_rfl) (by kernel_rfl) rfl ?_
    rintro _ w0 S
    have p0 := rdP_ok baseL
    have p1 := p4_pt (pokP_pok p0)
    have q2 := rtm_ok dN (vB (secL (g s))) (rdP baseL) 256 gO gO_okP
    have p2 := p4_pt (pokP_pok q2)
    by_cases hl : s.length = 32
    · rw [pbI_p hl, erI_p hl]
      refine hold_endw mixed (okH10b hg hk) (unroll := true) (f := 100) (sc := [false]) (r := (SV.tup [SV.sl IntKind.u8 (Go.Eng.dB (Go.Eng.G.encR (Go.Eng.G.p4 (Go.Eng.dF (Go.Eng.G.rtm Go.Eng.G.dN (Go.Eng.vB (Go.Eng.G.secL (g s))) (Go.Eng.G.p4 (Go.Eng.dF (Go.Eng.G.rdP Go.Eng.G.baseL).x) (Go.Eng.dF (Go.Eng.G.rdP Go.Eng.G.baseL).y) (Go.Eng.dF (Go.Eng.G.rdP Go.Eng.G.baseL).z) (Go.Eng.dF (Go.Eng.G.rdP Go.Eng.G.baseL).t)) 256 Go.Eng.G.gO).x) (Go.Eng.dF (Go.Eng.G.rtm Go.Eng.G.dN (Go.Eng.vB (Go.Eng.G.secL (g s))) (Go.Eng.G.p4 (Go.Eng.dF (Go.Eng.G.rdP Go.Eng.G.baseL).x) (Go.Eng.dF (Go.Eng.G.rdP Go.Eng.G.baseL).y) (Go.Eng.dF (Go.Eng.G.rdP Go.Eng.G.baseL).z) (Go.Eng.dF (Go.Eng.G.rdP Go.Eng.G.baseL).t)) 256 Go.Eng.G.gO).y) (Go.Eng.dF (Go.Eng.G.rtm Go.Eng.G.dN (Go.Eng.vB (Go.Eng.G.secL (g s))) (Go.Eng.G.p4 (Go.Eng.dF (Go.Eng.G.rdP Go.Eng.G.baseL).x) (Go.Eng.dF (Go.Eng.G.rdP Go.Eng.G.baseL).y) (Go.Eng.dF (Go.Eng.G.rdP Go.Eng.G.baseL).z) (Go.Eng.dF (Go.Eng.G.rdP Go.Eng.G.baseL).t)) 256 Go.Eng.G.gO).z) (Go.Eng.dF (Go.Eng.G.rtm Go.Eng.G.dN (Go.Eng.vB (Go.Eng.G.secL (g s))) (Go.Eng.G.p4 (Go.Eng.dF (Go.Eng.G.rdP Go.Eng.G.baseL).x) (Go.Eng.dF (Go.Eng.G.rdP Go.Eng.G.baseL).y) (Go.Eng.dF (Go.Eng.G.rdP Go.Eng.G.baseL).z) (Go.Eng.dF (Go.Eng.G.rdP Go.Eng.G.baseL).t)) 256 Go.Eng.G.gO).t)))), SV.c IntKind.i64 (0 : Int)])) (ob := [(s.length != 32) = Bool.false, s.length ≤ 1000000, Go.Eng.G.pokP (Go.Eng.G.p4 (Go.Eng.dF (Go.Eng.G.rdP Go.Eng.G.baseL).x) (Go.Eng.dF (Go.Eng.G.rdP Go.Eng.G.baseL).y) (Go.Eng.dF (Go.Eng.G.rdP Go.Eng.G.baseL).z) (Go.Eng.dF (Go.Eng.G.rdP Go.Eng.G.baseL).t)), Go.Eng.G.pokP (Go.Eng.G.p4 (Go.Eng.dF (Go.Eng.G.rtm Go.Eng.G.dN (Go.Eng.vB (Go.Eng.G.secL (g s))) (Go.Eng.G.p4 (Go.Eng.dF (Go.Eng.G.rdP Go.Eng.G.baseL).x) (Go.Eng.dF (Go.Eng.G.rdP Go.Eng.G.baseL).y) (Go.Eng.dF (Go.Eng.G.rdP Go.Eng.G.baseL).z) (Go.Eng.dF (Go.Eng.G.rdP Go.Eng.G.baseL).t)) 256 Go.Eng.G.gO).x) (Go.Eng.dF (Go.Eng.G.rtm Go.Eng.G.dN (Go.Eng.vB (Go.Eng.G.secL (g s))) (Go.Eng.G.p4 (Go.Eng.dF (Go.Eng.G.rdP Go.Eng.G.baseL).x) (Go.Eng.dF (Go.Eng.G.rdP Go.Eng.G.baseL).y) (Go.Eng.dF (Go.Eng.G.rdP Go.Eng.G.baseL).z) (Go.Eng.dF (Go.Eng.G.rdP Go.Eng.G.baseL).t)) 256 Go.Eng.G.gO).y) (Go.Eng.dF (Go.Eng.G.rtm Go.Eng.G.dN (Go.Eng.vB (Go.Eng.G.secL (g s))) (Go.Eng.G.p4 (Go.Eng.dF (Go.Eng.G.rdP Go.Eng.G.baseL).x) (Go.Eng.dF (Go.Eng.G.rdP Go.Eng.G.baseL).y) (Go.Eng.dF (Go.Eng.G.rdP Go.Eng.G.baseL).z) (Go.Eng.dF (Go.Eng.G.rdP Go.Eng.G.baseL).t)) 256 Go.Eng.G.gO).z) (Go.Eng.dF (Go.Eng.G.rtm Go.Eng.G.dN (Go.Eng.vB (Go.Eng.G.secL (g s))) (Go.Eng.G.p4 (Go.Eng.dF (Go.Eng.G.rdP Go.Eng.G.baseL).x) (Go.Eng.dF (Go.Eng.G.rdP Go.Eng.G.baseL).y) (Go.Eng.dF (Go.Eng.G.rdP Go.Eng.G.baseL).z) (Go.Eng.dF (Go.Eng.G.rdP Go.Eng.G.baseL).t)) 256 Go.Eng.G.gO).t)), Go.Eng.slenD (SV.sl IntKind.u8 (Go.Eng.dB (Go.Eng.G.encR (Go.Eng.G.p4 (Go.Eng.dF (Go.Eng.G.rtm Go.Eng.G.dN (Go.Eng.vB (Go.Eng.G.secL (g s))) (Go.Eng.G.p4 (Go.Eng.dF (Go.Eng.G.rdP Go.Eng.G.baseL).x) (Go.Eng.dF (Go.Eng.G.rdP Go.Eng.G.baseL).y) (Go.Eng.dF (Go.Eng.G.rdP Go.Eng.G.baseL).z) (Go.Eng.dF (Go.Eng.G.rdP Go.Eng.G.baseL).t)) 256 Go.Eng.G.gO).x) (Go.Eng.dF (Go.Eng.G.rtm Go.Eng.G.dN (Go.Eng.vB (Go.Eng.G.secL (g s))) (Go.Eng.G.p4 (Go.Eng.dF (Go.Eng.G.rdP Go.Eng.G.baseL).x) (Go.Eng.dF (Go.Eng.G.rdP Go.Eng.G.baseL).y) (Go.Eng.dF (Go.Eng.G.rdP Go.Eng.G.baseL).z) (Go.Eng.dF (Go.Eng.G.rdP Go.Eng.G.baseL).t)) 256 Go.Eng.G.gO).y) (Go.Eng.dF (Go.Eng.G.rtm Go.Eng.G.dN (Go.Eng.vB (Go.Eng.G.secL (g s))) (Go.Eng.G.p4 (Go.Eng.dF (Go.Eng.G.rdP Go.Eng.G.baseL).x) (Go.Eng.dF (Go.Eng.G.rdP Go.Eng.G.baseL).y) (Go.Eng.dF (Go.Eng.G.rdP Go.Eng.G.baseL).z) (Go.Eng.dF (Go.Eng.G.rdP Go.Eng.G.baseL).t)) 256 Go.Eng.G.gO).z) (Go.Eng.dF (Go.Eng.G.rtm Go.Eng.G.dN (Go.Eng.vB (Go.Eng.G.secL (g s))) (Go.Eng.G.p4 (Go.Eng.dF (Go.Eng.G.rdP Go.Eng.G.baseL).x) (Go.Eng.dF (Go.Eng.G.rdP Go.Eng.G.baseL).y) (Go.Eng.dF (Go.Eng.G.rdP Go.Eng.G.baseL).z) (Go.Eng.dF (Go.Eng.G.rdP Go.Eng.G.baseL).t)) 256 Go.Eng.G.gO).t))))) * 1 ≤ 140737488355328]) (sc' := []) (by kernel_rfl) ?_ ?_
      · rw [p1, p2]
        exact ⟨by rw [hl]; rfl, by omega, p0, q2, by rw [slen_dB]; decide, trivial⟩
      · rw [p1, p2]
        exact ⟨rfl, ⟨rfl, rfl⟩, rfl⟩
    · rw [pbI_n hl, erI_n hl]
      refine hold_endw mixed (okH10b hg hk) (unroll := true) (f := 100) (sc := [true]) (r := (SV.tup [SV.sl IntKind.u8 [], SV.c IntKind.i64 (1 : Int)])) (ob := [(s.length != 32) = Bool.true]) (sc' := []) (by kernel_rfl) ⟨bne_iff_ne.mpr hl, trivial⟩ ?_
      exact ⟨rfl, ⟨rfl, rfl⟩, rfl⟩
  · cases h
theorem okH10c {g : List Nat → List Nat} (hg : g = sum64) (hk : HashOk g) : CtrOk Tryz.prog (H10c g) := addC_ok (okH10b hg hk) (cRPub hg hk)
end Go.Eng.G

namespace Go.Eng.G
open Go Go.Eng Go.Proofs Go.Eng.B
set_option maxRecDepth 100000
set_option linter.unusedSimpArgs false
set_option maxHeartbeats 1000000
theorem wV_w {g : List Nat → List Nat} (hk : HashOk g) (x : List Nat) : wV (g x) = wideV (g x) := by unfold wV; rw [if_pos (by rw [hk.len]; decide)]
theorem vB_wide (b : List Nat) : vB (dB (wideV b)) = wideV b := bd (Nat.lt_trans (Nat.mod_lt _ (by decide)) QQ_lt)
theorem pub_len (g : List Nat → List Nat) (s : List Nat) : (pubW g s).length = 32 := dB_len _
theorem slen_d1 (a : Nat) : slenD (.sl .u8 (dB a)) = 32 := dB_len a
theorem slen_d2 (a : Nat) (g : List Nat → List Nat) (s : List Nat) : slenD (.sl .u8 (dB a ++ pubW g s)) = 64 := by show (dB a ++ pubW g s).length = 64; rw [List.length_append, dB_len, pub_len]
theorem slen_d3 (a b : Nat) : slenD (.sl .u8 (dB a ++ dB b)) = 64 := by show (dB a ++ dB b).length = 64; rw [List.length_append, dB_len, dB_len]
theorem cRSgn {g : List Nat → List Nat} (hg : g = sum64) (hk : HashOk g) : ∀ args res ob, eSgnX g args = some (res, ob) → All ob → Contract Tryz.prog 19 args res := by
  intro args res ob h hob
  unfold eSgnX at h
  split at h
  · rename_i s m
    cases h
    refine contract Tryz.func19 (body := bodyOf Tryz.f19) rfl (by kernel_rfl) (by kernel_rfl) rfl ?_
    rintro _ w0 S
    have p0 := rdP_ok baseL
    have p1 := p4_pt (pokP_pok p0)
    have q2 := rtm_ok dN (sgR g s m) (rdP baseL) 256 gO gO_okP
    have p2 := p4_pt (pokP_pok q2)
    unfold sgR at q2 p2
    have hd : (List.drop 32 (g s)).length = 32 := by rw [List.length_drop, hk.len]
    have hm : m.length ≤ 900000 := hob.1
    by_cases hl : s.length = 32
    · rw [sgI_p hl, erI_p hl]
      refine hold_endw mixed (okH10c hg hk) (unroll := true) (f := 300) (sc := [false]) (r := (SV.tup [SV.sl IntKind.u8 (Go.Eng.dB (Go.Eng.G.encR (Go.Eng.G.p4 (Go.Eng.dF (Go.Eng.G.rtm Go.Eng.G.dN (Go.Eng.vB (Go.Eng.dB (Go.Eng.G.wV (g (List.drop 32 (g s) ++ m))))) (Go.Eng.G.p4 (Go.Eng.dF (Go.Eng.G.rdP Go.Eng.G.baseL).x) (Go.Eng.dF (Go.Eng.G.rdP Go.Eng.G.baseL).y) (Go.Eng.dF (Go.Eng.G.rdP Go.Eng.G.baseL).z) (Go.Eng.dF (Go.Eng.G.rdP Go.Eng.G.baseL).t)) 256 Go.Eng.G.gO).x) (Go.Eng.dF (Go.Eng.G.rtm Go.Eng.G.dN (Go.Eng.vB (Go.Eng.dB (Go.Eng.G.wV (g (List.drop 32 (g s) ++ m))))) (Go.Eng.G.p4 (Go.Eng.dF (Go.Eng.G.rdP Go.Eng.G.baseL).x) (Go.Eng.dF (Go.Eng.G.rdP Go.Eng.G.baseL).y) (Go.Eng.dF (Go.Eng.G.rdP Go.Eng.G.baseL).z) (Go.Eng.dF (Go.Eng.G.rdP Go.Eng.G.baseL).t)) 256 Go.Eng.G.gO).y) (Go.Eng.dF (Go.Eng.G.rtm Go.Eng.G.dN (Go.Eng.vB (Go.Eng.dB (Go.Eng.G.wV (g (List.drop 32 (g s) ++ m))))) (Go.Eng.G.p4 (Go.Eng.dF (Go.Eng.G.rdP Go.Eng.G.baseL).x) (Go.Eng.dF (Go.Eng.G.rdP Go.Eng.G.baseL).y) (Go.Eng.dF (Go.Eng.G.rdP Go.Eng.G.baseL).z) (Go.Eng.dF (Go.Eng.G.rdP Go.Eng.G.baseL).t)) 256 Go.Eng.G.gO).z) (Go.Eng.dF (Go.Eng.G.rtm Go.Eng.G.dN (Go.Eng.vB (Go.Eng.dB (Go.Eng.G.wV (g (List.drop 32 (g s) ++ m))))) (Go.Eng.G.p4 (Go.Eng.dF (Go.Eng.G.rdP Go.Eng.G.baseL).x) (Go.Eng.dF (Go.Eng.G.rdP Go.Eng.G.baseL).y) (Go.Eng.dF (Go.Eng.G.rdP Go.Eng.G.baseL).z) (Go.Eng.dF (Go.Eng.G.rdP Go.Eng.G.baseL).t)) 256 Go.Eng.G.gO).t))) ++ Go.Eng.dB (Go.Eng.G.maV (Go.Eng.vB (Go.Eng.dB (Go.Eng.G.wV (g (Go.Eng.dB (Go.Eng.G.encR (Go.Eng.G.p4 (Go.Eng.dF (Go.Eng.G.rtm Go.Eng.G.dN (Go.Eng.vB (Go.Eng.dB (Go.Eng.G.wV (g (List.drop 32 (g s) ++ m))))) (Go.Eng.G.p4 (Go.Eng.dF (Go.Eng.G.rdP Go.Eng.G.baseL).x) (Go.Eng.dF (Go.Eng.G.rdP Go.Eng.G.baseL).y) (Go.Eng.dF (Go.Eng.G.rdP Go.Eng.G.baseL).z) (Go.Eng.dF (Go.Eng.G.rdP Go.Eng.G.baseL).t)) 256 Go.Eng.G.gO).x) (Go.Eng.dF (Go.Eng.G.rtm Go.Eng.G.dN (Go.Eng.vB (Go.Eng.dB (Go.Eng.G.wV (g (List.drop 32 (g s) ++ m))))) (Go.Eng.G.p4 (Go.Eng.dF (Go.Eng.G.rdP Go.Eng.G.baseL).x) (Go.Eng.dF (Go.Eng.G.rdP Go.Eng.G.baseL).y) (Go.Eng.dF (Go.Eng.G.rdP Go.Eng.G.baseL).z) (Go.Eng.dF (Go.Eng.G.rdP Go.Eng.G.baseL).t)) 256 Go.Eng.G.gO).y) (Go.Eng.dF (Go.Eng.G.rtm Go.Eng.G.dN (Go.Eng.vB (Go.Eng.dB (Go.Eng.G.wV (g (List.drop 32 (g s) ++ m))))) (Go.Eng.G.p4 (Go.Eng.dF (Go.Eng.G.rdP Go.Eng.G.baseL).x) (Go.Eng.dF (Go.Eng.G.rdP Go.Eng.G.baseL).y) (Go.Eng.dF (Go.Eng.G.rdP Go.Eng.G.baseL).z) (Go.Eng.dF (Go.Eng.G.rdP Go.Eng.G.baseL).t)) 256 Go.Eng.G.gO).z) (Go.Eng.dF (Go.Eng.G.rtm Go.Eng.G.dN (Go.Eng.vB (Go.Eng.dB (Go.Eng.G.wV (g (List.drop 32 (g s) ++ m))))) (Go.Eng.G.p4 (Go.Eng.dF (Go.Eng.G.rdP Go.Eng.G.baseL).x) (Go.Eng.dF (Go.Eng.G.rdP Go.Eng.G.baseL).y) (Go.Eng.dF (Go.Eng.G.rdP Go.Eng.G.baseL).z) (Go.Eng.dF (Go.Eng.G.rdP Go.Eng.G.baseL).t)) 256 Go.Eng.G.gO).t))) ++ Go.Eng.G.pbI g s ++ m))))) (Go.Eng.vB (Go.Eng.G.secL (g s))) (Go.Eng.vB (Go.Eng.dB (Go.Eng.G.wV (g (List.drop 32 (g s) ++ m))))))), SV.c IntKind.i64 (0 : Int)])) (ob := [(Go.Eng.G.erI s != (0 : Int)) = Bool.false, s.length ≤ 1000000, Go.Eng.slenD (SV.sl IntKind.u8 (List.drop 32 (g s))) * 1 ≤ 140737488355328, Go.Eng.slenD (SV.sl IntKind.u8 (List.drop 32 (g s) ++ m)) * 1 ≤ 140737488355328, (List.drop 32 (g s) ++ m).length ≤ 1000000, Go.Eng.G.pokP (Go.Eng.G.p4 (Go.Eng.dF (Go.Eng.G.rdP Go.Eng.G.baseL).x) (Go.Eng.dF (Go.Eng.G.rdP Go.Eng.G.baseL).y) (Go.Eng.dF (Go.Eng.G.rdP Go.Eng.G.baseL).z) (Go.Eng.dF (Go.Eng.G.rdP Go.Eng.G.baseL).t)), Go.Eng.G.pokP (Go.Eng.G.p4 (Go.Eng.dF (Go.Eng.G.rtm Go.Eng.G.dN (Go.Eng.vB (Go.Eng.dB (Go.Eng.G.wV (g (List.drop 32 (g s) ++ m))))) (Go.Eng.G.p4 (Go.Eng.dF (Go.Eng.G.rdP Go.Eng.G.baseL).x) (Go.Eng.dF (Go.Eng.G.rdP Go.Eng.G.baseL).y) (Go.Eng.dF (Go.Eng.G.rdP Go.Eng.G.baseL).z) (Go.Eng.dF (Go.Eng.G.rdP Go.Eng.G.baseL).t)) 256 Go.Eng.G.gO).x) (Go.Eng.dF (Go.Eng.G.rtm Go.Eng.G.dN (Go.Eng.vB (Go.Eng.dB (Go.Eng.G.wV (g (List.drop 32 (g s) ++ m))))) (Go.Eng.G.p4 (Go.Eng.dF (Go.Eng.G.rdP Go.Eng.G.baseL).x) (Go.Eng.dF (Go.Eng.G.rdP Go.Eng.G.baseL).y) (Go.Eng.dF (Go.Eng.G.rdP Go.Eng.G.baseL).z) (Go.Eng.dF (Go.Eng.G.rdP Go.Eng.G.baseL).t)) 256 Go.Eng.G.gO).y) (Go.Eng.dF (Go.Eng.G.rtm Go.Eng.G.dN (Go.Eng.vB (Go.Eng.dB (Go.Eng.G.wV (g (List.drop 32 (g s) ++ m))))) (Go.Eng.G.p4 (Go.Eng.dF (Go.Eng.G.rdP Go.Eng.G.baseL).x) (Go.Eng.dF (Go.Eng.G.rdP Go.Eng.G.baseL).y) (Go.Eng.dF (Go.Eng.G.rdP Go.Eng.G.baseL).z) (Go.Eng.dF (Go.Eng.G.rdP Go.Eng.G.baseL).t)) 256 Go.Eng.G.gO).z) (Go.Eng.dF (Go.Eng.G.rtm Go.Eng.G.dN (Go.Eng.vB (Go.Eng.dB (Go.Eng.G.wV (g (List.drop 32 (g s) ++ m))))) (Go.Eng.G.p4 (Go.Eng.dF (Go.Eng.G.rdP Go.Eng.G.baseL).x) (Go.Eng.dF (Go.Eng.G.rdP Go.Eng.G.baseL).y) (Go.Eng.dF (Go.Eng.G.rdP Go.Eng.G.baseL).z) (Go.Eng.dF (Go.Eng.G.rdP Go.Eng.G.baseL).t)) 256 Go.Eng.G.gO).t)), Go.Eng.slenD (SV.sl IntKind.u8 (Go.Eng.dB (Go.Eng.G.encR (Go.Eng.G.p4 (Go.Eng.dF (Go.Eng.G.rtm Go.Eng.G.dN (Go.Eng.vB (Go.Eng.dB (Go.Eng.G.wV (g (List.drop 32 (g s) ++ m))))) (Go.Eng.G.p4 (Go.Eng.dF (Go.Eng.G.rdP Go.Eng.G.baseL).x) (Go.Eng.dF (Go.Eng.G.rdP Go.Eng.G.baseL).y) (Go.Eng.dF (Go.Eng.G.rdP Go.Eng.G.baseL).z) (Go.Eng.dF (Go.Eng.G.rdP Go.Eng.G.baseL).t)) 256 Go.Eng.G.gO).x) (Go.Eng.dF (Go.Eng.G.rtm Go.Eng.G.dN (Go.Eng.vB (Go.Eng.dB (Go.Eng.G.wV (g (List.drop 32 (g s) ++ m))))) (Go.Eng.G.p4 (Go.Eng.dF (Go.Eng.G.rdP Go.Eng.G.baseL).x) (Go.Eng.dF (Go.Eng.G.rdP Go.Eng.G.baseL).y) (Go.Eng.dF (Go.Eng.G.rdP Go.Eng.G.baseL).z) (Go.Eng.dF (Go.Eng.G.rdP Go.Eng.G.baseL).t)) 256 Go.Eng.G.gO).y) (Go.Eng.dF (Go.Eng.G.rtm Go.Eng.G.dN (Go.Eng.vB (Go.Eng.dB (Go.Eng.G.wV (g (List.drop 32 (g s) ++ m))))) (Go.Eng.G.p4 (Go.Eng.dF (Go.Eng.G.rdP Go.Eng.G.baseL).x) (Go.Eng.dF (Go.Eng.G.rdP Go.Eng.G.baseL).y) (Go.Eng.dF (Go.Eng.G.rdP Go.Eng.G.baseL).z) (Go.Eng.dF (Go.Eng.G.rdP Go.Eng.G.baseL).t)) 256 Go.Eng.G.gO).z) (Go.Eng.dF (Go.Eng.G.rtm Go.Eng.G.dN (Go.Eng.vB (Go.Eng.dB (Go.Eng.G.wV (g (List.drop 32 (g s) ++ m))))) (Go.Eng.G.p4 (Go.Eng.dF (Go.Eng.G.rdP Go.Eng.G.baseL).x) (Go.Eng.dF (Go.Eng.G.rdP Go.Eng.G.baseL).y) (Go.Eng.dF (Go.Eng.G.rdP Go.Eng.G.baseL).z) (Go.Eng.dF (Go.Eng.G.rdP Go.Eng.G.baseL).t)) 256 Go.Eng.G.gO).t))))) * 1 ≤ 140737488355328, Go.Eng.slenD (SV.sl IntKind.u8 (Go.Eng.dB (Go.Eng.G.encR (Go.Eng.G.p4 (Go.Eng.dF (Go.Eng.G.rtm Go.Eng.G.dN (Go.Eng.vB (Go.Eng.dB (Go.Eng.G.wV (g (List.drop 32 (g s) ++ m))))) (Go.Eng.G.p4 (Go.Eng.dF (Go.Eng.G.rdP Go.Eng.G.baseL).x) (Go.Eng.dF (Go.Eng.G.rdP Go.Eng.G.baseL).y) (Go.Eng.dF (Go.Eng.G.rdP Go.Eng.G.baseL).z) (Go.Eng.dF (Go.Eng.G.rdP Go.Eng.G.baseL).t)) 256 Go.Eng.G.gO).x) (Go.Eng.dF (Go.Eng.G.rtm Go.Eng.G.dN (Go.Eng.vB (Go.Eng.dB (Go.Eng.G.wV (g (List.drop 32 (g s) ++ m))))) (Go.Eng.G.p4 (Go.Eng.dF (Go.Eng.G.rdP Go.Eng.G.baseL).x) (Go.Eng.dF (Go.Eng.G.rdP Go.Eng.G.baseL).y) (Go.Eng.dF (Go.Eng.G.rdP Go.Eng.G.baseL).z) (Go.Eng.dF (Go.Eng.G.rdP Go.Eng.G.baseL).t)) 256 Go.Eng.G.gO).y) (Go.Eng.dF (Go.Eng.G.rtm Go.Eng.G.dN (Go.Eng.vB (Go.Eng.dB (Go.Eng.G.wV (g (List.drop 32 (g s) ++ m))))) (Go.Eng.G.p4 (Go.Eng.dF (Go.Eng.G.rdP Go.Eng.G.baseL).x) (Go.Eng.dF (Go.Eng.G.rdP Go.Eng.G.baseL).y) (Go.Eng.dF (Go.Eng.G.rdP Go.Eng.G.baseL).z) (Go.Eng.dF (Go.Eng.G.rdP Go.Eng.G.baseL).t)) 256 Go.Eng.G.gO).z) (Go.Eng.dF (Go.Eng.G.rtm Go.Eng.G.dN (Go.Eng.vB (Go.Eng.dB (Go.Eng.G.wV (g (List.drop 32 (g s) ++ m))))) (Go.Eng.G.p4 (Go.Eng.dF (Go.Eng.G.rdP Go.Eng.G.baseL).x) (Go.Eng.dF (Go.Eng.G.rdP Go.Eng.G.baseL).y) (Go.Eng.dF (Go.Eng.G.rdP Go.Eng.G.baseL).z) (Go.Eng.dF (Go.Eng.G.rdP Go.Eng.G.baseL).t)) 256 Go.Eng.G.gO).t))) ++ Go.Eng.G.pbI g s)) * 1 ≤ 140737488355328, Go.Eng.slenD (SV.sl IntKind.u8 (Go.Eng.dB (Go.Eng.G.encR (Go.Eng.G.p4 (Go.Eng.dF (Go.Eng.G.rtm Go.Eng.G.dN (Go.Eng.vB (Go.Eng.dB (Go.Eng.G.wV (g (List.drop 32 (g s) ++ m))))) (Go.Eng.G.p4 (Go.Eng.dF (Go.Eng.G.rdP Go.Eng.G.baseL).x) (Go.Eng.dF (Go.Eng.G.rdP Go.Eng.G.baseL).y) (Go.Eng.dF (Go.Eng.G.rdP Go.Eng.G.baseL).z) (Go.Eng.dF (Go.Eng.G.rdP Go.Eng.G.baseL).t)) 256 Go.Eng.G.gO).x) (Go.Eng.dF (Go.Eng.G.rtm Go.Eng.G.dN (Go.Eng.vB (Go.Eng.dB (Go.Eng.G.wV (g (List.drop 32 (g s) ++ m))))) (Go.Eng.G.p4 (Go.Eng.dF (Go.Eng.G.rdP Go.Eng.G.baseL).x) (Go.Eng.dF (Go.Eng.G.rdP Go.Eng.G.baseL).y) (Go.Eng.dF (Go.Eng.G.rdP Go.Eng.G.baseL).z) (Go.Eng.dF (Go.Eng.G.rdP Go.Eng.G.baseL).t)) 256 Go.Eng.G.gO).y) (Go.Eng.dF (Go.Eng.G.rtm Go.Eng.G.dN (Go.Eng.vB (Go.Eng.dB (Go.Eng.G.wV (g (List.drop 32 (g s) ++ m))))) (Go.Eng.G.p4 (Go.Eng.dF (Go.Eng.G.rdP Go.Eng.G.baseL).x) (Go.Eng.dF (Go.Eng.G.rdP Go.Eng.G.baseL).y) (Go.Eng.dF (Go.Eng.G.rdP Go.Eng.G.baseL).z) (Go.Eng.dF (Go.Eng.G.rdP Go.Eng.G.baseL).t)) 256 Go.Eng.G.gO).z) (Go.Eng.dF (Go.Eng.G.rtm Go.Eng.G.dN (Go.Eng.vB (Go.Eng.dB (Go.Eng.G.wV (g (List.drop 32 (g s) ++ m))))) (Go.Eng.G.p4 (Go.Eng.dF (Go.Eng.G.rdP Go.Eng.G.baseL).x) (Go.Eng.dF (Go.Eng.G.rdP Go.Eng.G.baseL).y) (Go.Eng.dF (Go.Eng.G.rdP Go.Eng.G.baseL).z) (Go.Eng.dF (Go.Eng.G.rdP Go.Eng.G.baseL).t)) 256 Go.Eng.G.gO).t))) ++ Go.Eng.G.pbI g s ++ m)) * 1 ≤ 140737488355328, (Go.Eng.dB (Go.Eng.G.encR (Go.Eng.G.p4 (Go.Eng.dF (Go.Eng.G.rtm Go.Eng.G.dN (Go.Eng.vB (Go.Eng.dB (Go.Eng.G.wV (g (List.drop 32 (g s) ++ m))))) (Go.Eng.G.p4 (Go.Eng.dF (Go.Eng.G.rdP Go.Eng.G.baseL).x) (Go.Eng.dF (Go.Eng.G.rdP Go.Eng.G.baseL).y) (Go.Eng.dF (Go.Eng.G.rdP Go.Eng.G.baseL).z) (Go.Eng.dF (Go.Eng.G.rdP Go.Eng.G.baseL).t)) 256 Go.Eng.G.gO).x) (Go.Eng.dF (Go.Eng.G.rtm Go.Eng.G.dN (Go.Eng.vB (Go.Eng.dB (Go.Eng.G.wV (g (List.drop 32 (g s) ++ m))))) (Go.Eng.G.p4 (Go.Eng.dF (Go.Eng.G.rdP Go.Eng.G.baseL).x) (Go.Eng.dF (Go.Eng.G.rdP Go.Eng.G.baseL).y) (Go.Eng.dF (Go.Eng.G.rdP Go.Eng.G.baseL).z) (Go.Eng.dF (Go.Eng.G.rdP Go.Eng.G.baseL).t)) 256 Go.Eng.G.gO).y) (Go.Eng.dF (Go.Eng.G.rtm Go.Eng.G.dN (Go.Eng.vB (Go.Eng.dB (Go.Eng.G.wV (g (List.drop 32 (g s) ++ m))))) (Go.Eng.G.p4 (Go.Eng.dF (Go.Eng.G.rdP Go.Eng.G.baseL).x) (Go.Eng.dF (Go.Eng.G.rdP Go.Eng.G.baseL).y) (Go.Eng.dF (Go.Eng.G.rdP Go.Eng.G.baseL).z) (Go.Eng.dF (Go.Eng.G.rdP Go.Eng.G.baseL).t)) 256 Go.Eng.G.gO).z) (Go.Eng.dF (Go.Eng.G.rtm Go.Eng.G.dN (Go.Eng.vB (Go.Eng.dB (Go.Eng.G.wV (g (List.drop 32 (g s) ++ m))))) (Go.Eng.G.p4 (Go.Eng.dF (Go.Eng.G.rdP Go.Eng.G.baseL).x) (Go.Eng.dF (Go.Eng.G.rdP Go.Eng.G.baseL).y) (Go.Eng.dF (Go.Eng.G.rdP Go.Eng.G.baseL).z) (Go.Eng.dF (Go.Eng.G.rdP Go.Eng.G.baseL).t)) 256 Go.Eng.G.gO).t))) ++ Go.Eng.G.pbI g s ++ m).length ≤ 1000000, Go.Eng.slenD (SV.sl IntKind.u8 (Go.Eng.dB (Go.Eng.G.encR (Go.Eng.G.p4 (Go.Eng.dF (Go.Eng.G.rtm Go.Eng.G.dN (Go.Eng.vB (Go.Eng.dB (Go.Eng.G.wV (g (List.drop 32 (g s) ++ m))))) (Go.Eng.G.p4 (Go.Eng.dF (Go.Eng.G.rdP Go.Eng.G.baseL).x) (Go.Eng.dF (Go.Eng.G.rdP Go.Eng.G.baseL).y) (Go.Eng.dF (Go.Eng.G.rdP Go.Eng.G.baseL).z) (Go.Eng.dF (Go.Eng.G.rdP Go.Eng.G.baseL).t)) 256 Go.Eng.G.gO).x) (Go.Eng.dF (Go.Eng.G.rtm Go.Eng.G.dN (Go.Eng.vB (Go.Eng.dB (Go.Eng.G.wV (g (List.drop 32 (g s) ++ m))))) (Go.Eng.G.p4 (Go.Eng.dF (Go.Eng.G.rdP Go.Eng.G.baseL).x) (Go.Eng.dF (Go.Eng.G.rdP Go.Eng.G.baseL).y) (Go.Eng.dF (Go.Eng.G.rdP Go.Eng.G.baseL).z) (Go.Eng.dF (Go.Eng.G.rdP Go.Eng.G.baseL).t)) 256 Go.Eng.G.gO).y) (Go.Eng.dF (Go.Eng.G.rtm Go.Eng.G.dN (Go.Eng.vB (Go.Eng.dB (Go.Eng.G.wV (g (List.drop 32 (g s) ++ m))))) (Go.Eng.G.p4 (Go.Eng.dF (Go.Eng.G.rdP Go.Eng.G.baseL).x) (Go.Eng.dF (Go.Eng.G.rdP Go.Eng.G.baseL).y) (Go.Eng.dF (Go.Eng.G.rdP Go.Eng.G.baseL).z) (Go.Eng.dF (Go.Eng.G.rdP Go.Eng.G.baseL).t)) 256 Go.Eng.G.gO).z) (Go.Eng.dF (Go.Eng.G.rtm Go.Eng.G.dN (Go.Eng.vB (Go.Eng.dB (Go.Eng.G.wV (g (List.drop 32 (g s) ++ m))))) (Go.Eng.G.p4 (Go.Eng.dF (Go.Eng.G.rdP Go.Eng.G.baseL).x) (Go.Eng.dF (Go.Eng.G.rdP Go.Eng.G.baseL).y) (Go.Eng.dF (Go.Eng.G.rdP Go.Eng.G.baseL).z) (Go.Eng.dF (Go.Eng.G.rdP Go.Eng.G.baseL).t)) 256 Go.Eng.G.gO).t))))) * 1 ≤ 140737488355328, Go.Eng.slenD (SV.sl IntKind.u8 (Go.Eng.dB (Go.Eng.G.encR (Go.Eng.G.p4 (Go.Eng.dF (Go.Eng.G.rtm Go.Eng.G.dN (Go.Eng.vB (Go.Eng.dB (Go.Eng.G.wV (g (List.drop 32 (g s) ++ m))))) (Go.Eng.G.p4 (Go.Eng.dF (Go.Eng.G.rdP Go.Eng.G.baseL).x) (Go.Eng.dF (Go.Eng.G.rdP Go.Eng.G.baseL).y) (Go.Eng.dF (Go.Eng.G.rdP Go.Eng.G.baseL).z) (Go.Eng.dF (Go.Eng.G.rdP Go.Eng.G.baseL).t)) 256 Go.Eng.G.gO).x) (Go.Eng.dF (Go.Eng.G.rtm Go.Eng.G.dN (Go.Eng.vB (Go.Eng.dB (Go.Eng.G.wV (g (List.drop 32 (g s) ++ m))))) (Go.Eng.G.p4 (Go.Eng.dF (Go.Eng.G.rdP Go.Eng.G.baseL).x) (Go.Eng.dF (Go.Eng.G.rdP Go.Eng.G.baseL).y) (Go.Eng.dF (Go.Eng.G.rdP Go.Eng.G.baseL).z) (Go.Eng.dF (Go.Eng.G.rdP Go.Eng.G.baseL).t)) 256 Go.Eng.G.gO).y) (Go.Eng.dF (Go.Eng.G.rtm Go.Eng.G.dN (Go.Eng.vB (Go.Eng.dB (Go.Eng.G.wV (g (List.drop 32 (g s) ++ m))))) (Go.Eng.G.p4 (Go.Eng.dF (Go.Eng.G.rdP Go.Eng.G.baseL).x) (Go.Eng.dF (Go.Eng.G.rdP Go.Eng.G.baseL).y) (Go.Eng.dF (Go.Eng.G.rdP Go.Eng.G.baseL).z) (Go.Eng.dF (Go.Eng.G.rdP Go.Eng.G.baseL).t)) 256 Go.Eng.G.gO).z) (Go.Eng.dF (Go.Eng.G.rtm Go.Eng.G.dN (Go.Eng.vB (Go.Eng.dB (Go.Eng.G.wV (g (List.drop 32 (g s) ++ m))))) (Go.Eng.G.p4 (Go.Eng.dF (Go.Eng.G.rdP Go.Eng.G.baseL).x) (Go.Eng.dF (Go.Eng.G.rdP Go.Eng.G.baseL).y) (Go.Eng.dF (Go.Eng.G.rdP Go.Eng.G.baseL).z) (Go.Eng.dF (Go.Eng.G.rdP Go.Eng.G.baseL).t)) 256 Go.Eng.G.gO).t))) ++ Go.Eng.dB (Go.Eng.G.maV (Go.Eng.vB (Go.Eng.dB (Go.Eng.G.wV (g (Go.Eng.dB (Go.Eng.G.encR (Go.Eng.G.p4 (Go.Eng.dF (Go.Eng.G.rtm Go.Eng.G.dN (Go.Eng.vB (Go.Eng.dB (Go.Eng.G.wV (g (List.drop 32 (g s) ++ m))))) (Go.Eng.G.p4 (Go.Eng.dF (Go.Eng.G.rdP Go.Eng.G.baseL).x) (Go.Eng.dF (Go.Eng.G.rdP Go.Eng.G.baseL).y) (Go.Eng.dF (Go.Eng.G.rdP Go.Eng.G.baseL).z) (Go.Eng.dF (Go.Eng.G.rdP Go.Eng.G.baseL).t)) 256 Go.Eng.G.gO).x) (Go.Eng.dF (Go.Eng.G.rtm Go.Eng.G.dN (Go.Eng.vB (Go.Eng.dB (Go.Eng.G.wV (g (List.drop 32 (g s) ++ m))))) (Go.Eng.G.p4 (Go.Eng.dF (Go.Eng.G.rdP Go.Eng.G.baseL).x) (Go.Eng.dF (Go.Eng.G.rdP Go.Eng.G.baseL).y) (Go.Eng.dF (Go.Eng.G.rdP Go.Eng.G.baseL).z) (Go.Eng.dF (Go.Eng.G.rdP Go.Eng.G.baseL).t)) 256 Go.Eng.G.gO).y) (Go.Eng.dF (Go.Eng.G.rtm Go.Eng.G.dN (Go.Eng.vB (Go.Eng.dB (Go.Eng.G.wV (g (List.drop 32 (g s) ++ m))))) (Go.Eng.G.p4 (Go.Eng.dF (Go.Eng.G.rdP Go.Eng.G.baseL).x) (Go.Eng.dF (Go.Eng.G.rdP Go.Eng.G.baseL).y) (Go.Eng.dF (Go.Eng.G.rdP Go.Eng.G.baseL).z) (Go.Eng.dF (Go.Eng.G.rdP Go.Eng.G.baseL).t)) 256 Go.Eng.G.gO).z) (Go.Eng.dF (Go.Eng.G.rtm Go.Eng.G.dN (Go.Eng.vB (Go.Eng.dB (Go.Eng.G.wV (g (List.drop 32 (g s) ++ m))))) (Go.Eng.G.p4 (Go.Eng.dF (Go.Eng.G.rdP Go.Eng.G.baseL).x) (Go.Eng.dF (Go.Eng.G.rdP Go.Eng.G.baseL).y) (Go.Eng.dF (Go.Eng.G.rdP Go.Eng.G.baseL).z) (Go.Eng.dF (Go.Eng.G.rdP Go.Eng.G.baseL).t)) 256 Go.Eng.G.gO).t))) ++ Go.Eng.G.pbI g s ++ m))))) (Go.Eng.vB (Go.Eng.G.secL (g s))) (Go.Eng.vB (Go.Eng.dB (Go.Eng.G.wV (g (List.drop 32 (g s) ++ m)))))))) * 1 ≤ 140737488355328]) (sc' := []) (by kernel_rfl) ?_ ?_
      · rw [p1, wV_w hk, wV_w hk, vB_wide, vB_wide, p2, pbI_p hl, erI_p hl]
        exact ⟨rfl, by omega, by show (List.drop 32 (g s)).length * 1 ≤ _; omega, by show (List.drop 32 (g s) ++ m).length * 1 ≤ _; rw [List.length_append]; omega, by rw [List.length_append]; omega, p0, q2,
          by rw [slen_d1]; decide, by rw [slen_d2]; decide, by show (_ ++ _ ++ _ : List Nat).length * 1 ≤ _; rw [List.length_append, List.length_append, dB_len, pub_len]; omega,
          by rw [List.length_append, List.length_append, dB_len, pub_len]; omega, by rw [slen_d1]; decide, by rw [slen_d3]; decide, trivial⟩
      · rw [p1, wV_w hk, wV_w hk, vB_wide, vB_wide, p2, pbI_p hl]
        exact ⟨rfl, ⟨rfl, rfl⟩, rfl⟩
    · rw [sgI_n hl, erI_n hl]
      refine hold_endw mixed (okH10c hg hk) (unroll := true) (f := 100) (sc := [true]) (r := (SV.tup [SV.sl IntKind.u8 [], SV.i IntKind.i64 (Go.Eng.G.erI s)])) (ob := [(Go.Eng.G.erI s != (0 : Int)) = Bool.true]) (sc' := []) (by kernel_rfl) ?_ ?_
      · rw [erI_n hl]; exact ⟨rfl, trivial⟩
      · rw [erI_n hl]; exact wkR_refl _
  · cases h
theorem okH10 {g : List Nat → List Nat} (hg : g = sum64) (hk : HashOk g) : CtrOk Tryz.prog (H10 g) := addC_ok (okH10c hg hk) (cRSgn hg hk)
end Go.Eng.G

namespace Go.Eng.G
open Go Go.Eng Go.Proofs Go.Eng.B
set_option maxRecDepth 100000
set_option linter.unusedSimpArgs false
set_option maxHeartbeats 1000000
def eSh (args : List SV) : Option (SV × List Prop) := match args with
  | [.sl .u8 b] => some (.b (decide (b.length ≤ 600)), [])
  | _ => none
def H13a (g : List Nat → List Nat) : Ctr := addC 15 eMod (addC 18 (eSgnX g) (H10 g))
def H13 (g : List Nat → List Nat) : Ctr := addC 13 eSh (addC 12 (t0 (.b true)) (H13a g))
theorem shortG_c (b : List Nat) : Contract Tryz.prog 13 [.sl .u8 b] (.b (decide (b.length ≤ 600))) := by
  refine contract Tryz.func13 (body := bodyOf Tryz.f13) rfl (by kernel_rfl) (by kernel_rfl) rfl ?_
  intro _ w0 S
  exact hold_endw mixed ctr0_ok (unroll := true) (f := 100) (sc := []) (r := (SV.b (Decidable.decide (b.length ≤ 600)))) (ob := []) (sc' := []) (by kernel_rfl) trivial (wkR_of rfl)
theorem cSh : ∀ args res ob, eSh args = some (res, ob) → All ob → Contract Tryz.prog 13 args res := by
  intro args res ob he hob
  unfold eSh at he
  split at he
  · cases he; exact shortG_c _
  · cases he
theorem okH13 {g : List Nat → List Nat} (hg : g = sum64) (hk : HashOk g) : CtrOk Tryz.prog (H13 g) :=
  addC_ok (addC_ok (addC_ok (addC_ok (okH10 hg hk) (cSgnX hg hk)) cMod) (t0_ok awake_c)) cSh
theorem EdwardsSigns_g {g : List Nat → List Nat} (hg : g = sum64) (hk : HashOk g) (s m : List Nat) (n : Int) : Contract Tryz.prog 4 [.sl .u8 s, .sl .u8 m, .i .i64 n] (.b true) := by
  refine contract Tryz.func4 (body := bodyOf Tryz.f4) rfl (by kernel_rfl) (by kernel_rfl) rfl ?_
  intro _ w0 S
  by_cases hm : m.length ≤ 600
  · by_cases h5 : n % 5 = 0
    · refine hold_endw mixed (okH13 hg hk) (unroll := true) (f := 300) (sc := [false, true, true, true, true, true]) (r := (SV.b Bool.true)) (ob := [(!Decidable.decide (m.length ≤ 600)) = Bool.false, (0 : Int) < (5 : Int), ((n % (5 : Int)).toNat == 0) = Bool.true, m.length ≤ 900000, m.length ≤ 900000, (Go.Eng.G.pbI g s == Go.Eng.G.pbI g s) = Bool.true, (Go.Eng.G.erI s == Go.Eng.G.erI s) = Bool.true, (Go.Eng.G.sgI g s m == Go.Eng.G.sgI g s m) = Bool.true, (Go.Eng.G.erI s == Go.Eng.G.erI s) = Bool.true]) (sc' := []) (by kernel_rfl) ?_ ?_
      · repeat' first | exact True.intro | exact beq_self_eq_true _ | exact decide_eq_true rfl | decide | omega | (simp only [hm, h5]; done) | (simp [hm, h5]; done) | refine ⟨?_, ?_⟩
      · exact wkR_refl _
    · refine hold_endw mixed (okH13 hg hk) (unroll := true) (f := 300) (sc := [false, false, true, true, true, true]) (r := (SV.b Bool.true)) (ob := [(!Decidable.decide (m.length ≤ 600)) = Bool.false, (0 : Int) < (5 : Int), ((n % (5 : Int)).toNat == 0) = Bool.false, m.length ≤ 900000, m.length ≤ 900000, (Go.Eng.G.pbI g (Go.Eng.G.seedL (Go.Eng.G.u64 n)) == Go.Eng.G.pbI g (Go.Eng.G.seedL (Go.Eng.G.u64 n))) = Bool.true, (Go.Eng.G.erI (Go.Eng.G.seedL (Go.Eng.G.u64 n)) == Go.Eng.G.erI (Go.Eng.G.seedL (Go.Eng.G.u64 n))) = Bool.true, (Go.Eng.G.sgI g (Go.Eng.G.seedL (Go.Eng.G.u64 n)) m == Go.Eng.G.sgI g (Go.Eng.G.seedL (Go.Eng.G.u64 n)) m) = Bool.true, (Go.Eng.G.erI (Go.Eng.G.seedL (Go.Eng.G.u64 n)) == Go.Eng.G.erI (Go.Eng.G.seedL (Go.Eng.G.u64 n))) = Bool.true]) (sc' := []) (by kernel_rfl) ?_ ?_
      · have h6 : ¬ (n % 5).toNat = 0 := by omega
        repeat' first | exact True.intro | exact beq_self_eq_true _ | exact decide_eq_true rfl | decide | omega | (simp only [hm, h5, h6]; done) | (simp [hm, h5, h6]; done) | refine ⟨?_, ?_⟩
      · exact wkR_refl _
  · refine hold_endw mixed (okH13 hg hk) (unroll := true) (f := 100) (sc := [true]) (r := (SV.b Bool.true)) (ob := [(!Decidable.decide (m.length ≤ 600)) = Bool.true]) (sc' := []) (by kernel_rfl) ?_ ?_
    · repeat' first | exact True.intro | exact decide_eq_true rfl | (simp [hm]; done) | refine ⟨?_, ?_⟩
    · exact wkR_refl _
theorem EdwardsSigns_c (s m : List Nat) (n : Int) : Contract Tryz.prog 4 [.sl .u8 s, .sl .u8 m, .i .i64 n] (.b true) := EdwardsSigns_g rfl sum64_ok s m n
end Go.Eng.G

namespace Go.Eng
open Go.RowKit

theorem has_inR {k : IntKind} {n : Int} (h : k.has n) : inR k n := by
  cases k <;> simp only [IntKind.has, IntKind.min, IntKind.max, IntKind.signed, IntKind.bits, inR, lo, lim] at * <;> simp at h ⊢ <;> omega

theorem int_of {P : Program} {w : World} {r : Reach} {base : Nat} {t : TypeId} {v : Value} {k : IntKind} (ht : P.underlying t = some (.int k)) (h : Value.okWide P w r base t v) : ∃ n, v = .int k n ∧ k.has n := by
  obtain ⟨n, rfl⟩ := WideShapes.okWide_int ht h
  refine ⟨n, rfl, ?_⟩
  simpa [Value.okWide, Cell.okWide, Cell.ok, ht] using h

theorem open_i {P : Program} {w : World} {r : Reach} {base : Nat} {t : TypeId} {v : Value} {k : IntKind} (ht : P.underlying t = some (.int k)) (h : Value.okWide P w r base t v) {β : Nat → Nat} {ow : Own} {w' : World} :
    ∃ n, relV1 β ow w' (.i k n) v := by
  obtain ⟨n, rfl, hn⟩ := int_of ht h
  exact ⟨n, _, rel_i (has_inR hn), rfl⟩

theorem ints_of {k : IntKind} (hk : k.signed = false) : ∀ (cs : List Value), (∀ v ∈ cs, ∃ n, v = .int k n ∧ k.has n) → ∃ l : List Nat, cs = ints k l ∧ l.length = cs.length ∧ ∀ x ∈ l, x < lim k := by
  intro cs
  induction cs with
  | nil => intro _; exact ⟨[], rfl, rfl, by simp⟩
  | cons v cs ih =>
    intro h
    obtain ⟨l, h1, h2, h3⟩ := ih fun u hu => h u (by simp [hu])
    obtain ⟨n, rfl, hn⟩ := h v (by simp)
    have hr := has_inR hn
    have h0 : 0 ≤ n := by cases k <;> simp [IntKind.signed] at hk <;> simp only [inR, lo] at hr <;> omega
    refine ⟨n.toNat :: l, ?_, by simp [h2], ?_⟩
    · simp only [ints, List.map_cons, Int.toNat_of_nonneg h0]
      rw [h1]; rfl
    · intro x hx
      rcases List.mem_cons.1 hx with rfl | hx
      · have := hr.2; omega
      · exact h3 x hx

theorem open_arr {P : Program} {w : World} {r : Reach} {base : Nat} {t e u : TypeId} {v : Value} {k : IntKind} {n : Nat} (ht : P.underlying t = some (.array n e)) (hct : P.cellTypes P.depth t = some (List.replicate n u)) (hsz : P.cellsOf t = n)
    (hu : P.underlying u = some (.int k)) (hk : k.signed = false) (h : Value.okWide P w r base t v) {β : Nat → Nat} {ow : Own} {w' : World} : ∃ l, relV1 β ow w' (.arr k n l) v := by
  simp only [Value.okWide, ht] at h
  obtain ⟨cs, rfl, hs, ts, hts, _, hc⟩ := h
  rw [hct] at hts
  cases hts
  obtain ⟨l, h1, h2, h3⟩ := ints_of hk cs.toList fun v hv => by
    obtain ⟨i, hi⟩ := List.getElem?_of_mem hv
    obtain ⟨u', hu', hok⟩ := hc i v (by simpa using hi)
    have : u' = u := by
      have := List.mem_of_getElem? hu'
      exact List.eq_of_mem_replicate this
    subst this
    exact int_of (w := w) (r := r) (base := base) hu (by simp only [Value.okWide, hu]; exact hok)
  refine ⟨l, ints k l, rel_arr ?_ h3, ?_⟩
  · rw [h2]; simp [hs, hsz]
  · simp only [SV.isAgg, toV, if_true]
    rw [← h1]

theorem Contract.calls {P : Program} {f : FuncId} {fn : Func} {body : Code} {args : List SV} {res : SV} (h : Contract P f args res) (hf : P.funcs[f]? = some fn) (hb : fn.body = some body) (hname : (fn.name == "runtime.NumGoroutine") = false)
    {w : World} {vs : List Value} (hv : relVs (fun _ => 0) (fun _ _ => False) w args vs) :
    Calls P f vs.toArray w fun e w' => ∃ v, e = .returned v ∧ Below w.heap.size w w' ∧ relV (fun _ => 0) (fun _ _ => False) w' res v := by
  have h1 := h w (fun _ _ => False) vs (fun _ _ h => h.elim) hv
  unfold Invokes at h1
  have hcall : (callFunc f vs.toArray).run P w = .ok (.enter f vs.toArray) w := by
    have hne : ¬ fn.name = "runtime.NumGoroutine" := by simpa using hname
    simp [callFunc, hf, hb, hne]
  rw [hcall] at h1
  exact h1
end Go.Eng

namespace Go.Eng
open Go.RowKit Go.ChangeShapes Go.WideShapes

section
variable {H : Type} {enc : TypeId × Value → H} {P : Program} {w : World} {sp : Nat → Bool} {held : Bool} {r : Reach} {b0 : Nat} {t e : TypeId} {v : Value} {d : DataW H} {ps : List MemPlace} {k : IntKind}

theorem wf_inR {n : Int} (h : (Lit.int k n).wf = true) : inR k n := by
  apply has_inR
  have h : k.min ≤ n ∧ n ≤ k.max := by simpa [Lit.wf] using h
  exact h

theorem open_zs (ht : P.underlying t = some (.slice e)) (he : P.underlying e = some (.int k)) (hc : P.cellsOf e = 1) (hval : Value.okWide P w r b0 t v) (hd : DataW.Trod enc P w 0 sp held t v d ps) :
    ∃ zs : List Int, ReadsAs (fun _ _ => False) w v (zs.map fun n : Int => Value.int k n) ∧ ∀ n ∈ zs, inR k n := by
  obtain ⟨a0, len, cap, rfl⟩ := okWide_slice ht hval
  obtain ⟨fuel, hf⟩ := hd
  rcases ChangeShapes.open_ints ht he hc hf with ⟨h1, _⟩ | ⟨a, len', cap', zs, h1, _, hl, hm, hz, _, hcell, hwf⟩
  · simp only [Value.cells, List.cons.injEq, and_true] at h1
    cases h1
    exact ⟨[], ⟨none, 0, 0, rfl, rfl, Nat.le_refl _, by omega, fun h => absurd h (by omega)⟩, by simp⟩
  · simp only [Value.cells, List.cons.injEq, and_true] at h1
    cases h1
    have hle : len ≤ zs.length := by rw [hz]; split <;> omega
    have hmax : cap < 9223372036854775808 := by simp only [maxLen] at hm; omega
    refine ⟨zs.take len, ⟨some a, len, cap, rfl, by simp; omega, hl, hmax, fun hp => ⟨a, rfl, ?_, fun _ _ h => h, fun j u hu => ?_⟩⟩, fun n hn => wf_inR (hwf n (List.mem_of_mem_take hn))⟩
    · have := hcell 0 (by omega)
      simp only [Addr.add, if_true] at this
      cases hs : a.spot with
      | none => rfl
      | some q => simp [World.cell?, hs] at this; split at this <;> cases this
    · have hj : j < len := by
        have := (List.getElem?_eq_some_iff.1 hu).1
        simp at this; omega
      have h0 := hcell 0 (by omega)
      have hs : a.spot = none := by
        simp only [Addr.add, if_true] at h0
        cases hs : a.spot with
        | none => rfl
        | some q => simp [World.cell?, hs] at h0; split at h0 <;> cases h0
      have := hcell j (by omega)
      rw [add_spot hs] at this
      rw [this]
      simp only [List.getElem?_map, List.getElem?_take_of_lt hj, Option.map_eq_some_iff] at hu
      obtain ⟨z, hz1, rfl⟩ := hu
      simp [List.getD_eq_getElem?_getD, hz1]

theorem nats_of (hk : k.signed = false) : ∀ (zs : List Int), (∀ n ∈ zs, inR k n) → ∃ l : List Nat, (zs.map fun n : Int => Value.int k n) = ints k l ∧ ∀ x ∈ l, x < lim k := by
  intro zs
  induction zs with
  | nil => intro _; exact ⟨[], rfl, by simp⟩
  | cons n zs ih =>
    intro h
    obtain ⟨l, h1, h2⟩ := ih fun m hm => h m (by simp [hm])
    have hr := h n (by simp)
    have h0 : 0 ≤ n := by cases k <;> simp [IntKind.signed] at hk <;> simp only [inR, lo] at hr <;> omega
    refine ⟨n.toNat :: l, by simp only [ints, List.map_cons, Int.toNat_of_nonneg h0, h1], ?_⟩
    intro x hx
    rcases List.mem_cons.1 hx with rfl | hx
    · have := hr.2; omega
    · exact h2 x hx

theorem open_bytes {β : Nat → Nat} (ht : P.underlying t = some (.slice e)) (he : P.underlying e = some (.int k)) (hk : k.signed = false) (hc : P.cellsOf e = 1) (hval : Value.okWide P w r b0 t v) (hd : DataW.Trod enc P w 0 sp held t v d ps) :
    ∃ l, relV1 β (fun _ _ => False) w (.sl k l) v := by
  obtain ⟨zs, h1, h2⟩ := open_zs ht he hc hval hd
  obtain ⟨l, h3, h4⟩ := nats_of hk zs h2
  rw [h3] at h1
  exact ⟨l, [v], by simp only [rel]; exact ⟨⟨v, rfl, h1⟩, h4⟩, rfl⟩
theorem open_intl {β : Nat → Nat} (ht : P.underlying t = some (.slice e)) (he : P.underlying e = some (.int .i64)) (hc : P.cellsOf e = 1) (hval : Value.okWide P w r b0 t v) (hd : DataW.Trod enc P w 0 sp held t v d ps) :
    ∃ l, relV1 β (fun _ _ => False) w (.sli l) v := by
  obtain ⟨zs, h1, h2⟩ := open_zs ht he hc hval hd
  exact ⟨zs, [v], by simp only [rel]; exact ⟨⟨v, rfl, h1⟩, h2⟩, rfl⟩
theorem open_b {β : Nat → Nat} {ow : Own} {w' : World} (ht : P.underlying t = some .bool) (hval : Value.okWide P w r b0 t v) : ∃ x, relV1 β ow w' (.b x) v := by
  obtain ⟨b, rfl⟩ := okWide_bool ht hval
  exact ⟨b, _, rel_b, rfl⟩
theorem open_str {β : Nat → Nat} {ow : Own} {w' : World} (ht : P.underlying t = some .string) (hval : Value.okWide P w r b0 t v) : ∃ l, relV1 β ow w' (.str l) v := by
  obtain ⟨s, rfl⟩ := okWide_string ht hval
  have := constSV_ok (β := β) (ow := ow) (w := w') (v := .string s) (s := .str (s.data.toList.map (·.toNat))) rfl
  exact ⟨_, _, this.1, rfl⟩
end
end Go.Eng

namespace Go.Proofs.YtjefhfgkeeggoaaGreat.Facts
open Go Go.Proofs
set_option maxRecDepth 100000
theorem words_word {r : List Char} : ∀ {l : List Char}, (∀ c ∈ l, c ≠ ' ') → wordsSigns (l ++ ' ' :: r) = l :: wordsSigns r := by
  intro l
  induction l with
  | nil => intro _; rfl
  | cons c l ih =>
    intro h
    have hc : c ≠ ' ' := h c (by simp)
    have e := ih fun x hx => h x (by simp [hx])
    show wordsSigns (c :: (l ++ ' ' :: r)) = _
    rw [wordsSigns, e]
    · intro hh; exact hc hh
theorem order_is : Tryz.pinned.checked.prog.initOrder = "harness 77178b1dc70a41d011fcc0db26ac24ccacecdb73260a66ac5c4b8131a5e0f196 cut at coresec/coreseclaw10.EdwardsMults coresec/coreseclaw10.EdwardsSigns coresec/coreseclaw10.EdwardsPoints coresec/coreseclaw10.EdwardsGroup coresec/coreseclaw10.EdwardsVerifies coresec/coreseclaw22.SuiteCurves" := by kernel_rfl
theorem order_lit : ("harness 77178b1dc70a41d011fcc0db26ac24ccacecdb73260a66ac5c4b8131a5e0f196 cut at coresec/coreseclaw10.EdwardsMults coresec/coreseclaw10.EdwardsSigns coresec/coreseclaw10.EdwardsPoints coresec/coreseclaw10.EdwardsGroup coresec/coreseclaw10.EdwardsVerifies coresec/coreseclaw22.SuiteCurves" : String) = String.ofList (['h', 'a', 'r', 'n', 'e', 's', 's'] ++ ' ' :: (['7', '7', '1', '7', '8', 'b', '1', 'd', 'c', '7', '0', 'a', '4', '1', 'd', '0', '1', '1', 'f', 'c', 'c', '0', 'd', 'b', '2', '6', 'a', 'c', '2', '4', 'c', 'c', 'a', 'c', 'e', 'c', 'd', 'b', '7', '3', '2', '6', '0', 'a', '6', '6', 'a', 'c', '5', 'c', '4', 'b', '8', '1', '3', '1', 'a', '5', 'e', '0', 'f', '1', '9', '6'] ++ ' ' :: (['c', 'u', 't'] ++ ' ' :: ['a', 't', ' ', 'c', 'o', 'r', 'e', 's', 'e', 'c', '/', 'c', 'o', 'r', 'e', 's', 'e', 'c', 'l', 'a', 'w', '1', '0', '.', 'E', 'd', 'w', 'a', 'r', 'd', 's', 'M', 'u', 'l', 't', 's', ' ', 'c', 'o', 'r', 'e', 's', 'e', 'c', '/', 'c', 'o', 'r', 'e', 's', 'e', 'c', 'l', 'a', 'w', '1', '0', '.', 'E', 'd', 'w', 'a', 'r', 'd', 's', 'S', 'i', 'g', 'n', 's', ' ', 'c', 'o', 'r', 'e', 's', 'e', 'c', '/', 'c', 'o', 'r', 'e', 's', 'e', 'c', 'l', 'a', 'w', '1', '0', '.', 'E', 'd', 'w', 'a', 'r', 'd', 's', 'P', 'o', 'i', 'n', 't', 's', ' ', 'c', 'o', 'r', 'e', 's', 'e', 'c', '/', 'c', 'o', 'r', 'e', 's', 'e', 'c', 'l', 'a', 'w', '1', '0', '.', 'E', 'd', 'w', 'a', 'r', 'd', 's', 'G', 'r', 'o', 'u', 'p', ' ', 'c', 'o', 'r', 'e', 's', 'e', 'c', '/', 'c', 'o', 'r', 'e', 's', 'e', 'c', 'l', 'a', 'w', '1', '0', '.', 'E', 'd', 'w', 'a', 'r', 'd', 's', 'V', 'e', 'r', 'i', 'f', 'i', 'e', 's', ' ', 'c', 'o', 'r', 'e', 's', 'e', 'c', '/', 'c', 'o', 'r', 'e', 's', 'e', 'c', 'l', 'a', 'w', '2', '2', '.', 'S', 'u', 'i', 't', 'e', 'C', 'u', 'r', 'v', 'e', 's']))) := by kernel_rfl
theorem order_words : ∃ R, behindMainWord (wordsSigns Tryz.pinned.checked.prog.initOrder.toList) = ['c', 'u', 't'] :: R := by
  rw [order_is, order_lit, String.toList_ofList, words_word (by decide), words_word (by decide), words_word (by decide)]
  generalize wordsSigns ['a', 't', ' ', 'c', 'o', 'r', 'e', 's', 'e', 'c', '/', 'c', 'o', 'r', 'e', 's', 'e', 'c', 'l', 'a', 'w', '1', '0', '.', 'E', 'd', 'w', 'a', 'r', 'd', 's', 'M', 'u', 'l', 't', 's', ' ', 'c', 'o', 'r', 'e', 's', 'e', 'c', '/', 'c', 'o', 'r', 'e', 's', 'e', 'c', 'l', 'a', 'w', '1', '0', '.', 'E', 'd', 'w', 'a', 'r', 'd', 's', 'S', 'i', 'g', 'n', 's', ' ', 'c', 'o', 'r', 'e', 's', 'e', 'c', '/', 'c', 'o', 'r', 'e', 's', 'e', 'c', 'l', 'a', 'w', '1', '0', '.', 'E', 'd', 'w', 'a', 'r', 'd', 's', 'P', 'o', 'i', 'n', 't', 's', ' ', 'c', 'o', 'r', 'e', 's', 'e', 'c', '/', 'c', 'o', 'r', 'e', 's', 'e', 'c', 'l', 'a', 'w', '1', '0', '.', 'E', 'd', 'w', 'a', 'r', 'd', 's', 'G', 'r', 'o', 'u', 'p', ' ', 'c', 'o', 'r', 'e', 's', 'e', 'c', '/', 'c', 'o', 'r', 'e', 's', 'e', 'c', 'l', 'a', 'w', '1', '0', '.', 'E', 'd', 'w', 'a', 'r', 'd', 's', 'V', 'e', 'r', 'i', 'f', 'i', 'e', 's', ' ', 'c', 'o', 'r', 'e', 's', 'e', 'c', '/', 'c', 'o', 'r', 'e', 's', 'e', 'c', 'l', 'a', 'w', '2', '2', '.', 'S', 'u', 'i', 't', 'e', 'C', 'u', 'r', 'v', 'e', 's'] = R
  exact ⟨R, by kernel_rfl⟩
theorem c_gc : (['c', 'u', 't'] == "gc".toList) = false := by kernel_rfl
theorem c_spec : (['c', 'u', 't'] == "spec".toList) = false := by kernel_rfl
theorem c_cut : (['c', 'u', 't'] == "cut".toList) = true := by kernel_rfl
theorem c_carried : (['c', 'u', 't'] == "carried".toList) = false := by kernel_rfl
theorem c_strip (R : List (List Char)) : stripLifts liftWords (['c', 'u', 't'] :: R) = ([], ['c', 'u', 't'] :: R) := by kernel_rfl
theorem lifts_of {P : Program} {R : List (List Char)} (h : behindMainWord (wordsSigns P.initOrder.toList) = ['c', 'u', 't'] :: R) : P.liftsFinal = false := by
  unfold Program.liftsFinal Program.headLifts
  rw [h]
  kernel_rfl
theorem make_of {P : Program} {R : List (List Char)} (h : behindMainWord (wordsSigns P.initOrder.toList) = ['c', 'u', 't'] :: R) : P.make = some .cut := by
  unfold Program.make
  rw [h]
  simp only [c_gc, c_spec, c_cut, Bool.or_false, Bool.false_or, Bool.true_or, if_true, if_false, Bool.false_eq_true]
theorem enter_of {P : Program} {R : List (List Char)} (h : behindMainWord (wordsSigns P.initOrder.toList) = ['c', 'u', 't'] :: R) (h2 : P.laysLater = false) (h3 : P.bearsReflect = false) (h4 : P.doorFits [] = true) : P.mayEnter = true := by
  unfold Program.mayEnter
  rw [h]
  simp only [c_gc, c_spec, c_carried, c_strip, h2, h3, h4]
  kernel_rfl
theorem lays_is : Tryz.pinned.checked.prog.laysLater = false := by kernel_rfl
theorem reflect_is : Tryz.pinned.checked.prog.bearsReflect = false := by kernel_rfl
theorem door_is : Tryz.pinned.checked.prog.doorFits [] = true := by kernel_rfl
theorem lifts_is : Tryz.pinned.checked.prog.liftsFinal = false := by
  obtain ⟨R, h⟩ := order_words
  exact lifts_of h
theorem make_is : Tryz.pinned.checked.prog.make = some .cut := by
  obtain ⟨R, h⟩ := order_words
  exact make_of h
theorem enter_is : Tryz.pinned.checked.prog.mayEnter = true := by
  obtain ⟨R, h⟩ := order_words
  exact enter_of h lays_is reflect_is door_is
end Go.Proofs.YtjefhfgkeeggoaaGreat.Facts

