import Derived.Test.YtjefhfgkeeggoaaE13
set_option linter.unusedVariables false
set_option linter.unusedSimpArgs false
set_option linter.unusedSectionVars false
namespace Go.Eng.G
open Go Go.Eng Go.Proofs Go.Eng.B
set_option maxRecDepth 100000
set_option maxHeartbeats 1000000
def secL (h : List Nat) : List Nat := clampL (h.take 32)
def bmV (k : Nat) : Nat := encR (rtm dN k (rdP baseL) 256 gO)
def pubW (g : List Nat → List Nat) (s : List Nat) : List Nat := dB (bmV (vB (secL (g s))))
def sgR (g : List Nat → List Nat) (s m : List Nat) : Nat := wideV (g ((g s).drop 32 ++ m))
def sgF (g : List Nat → List Nat) (s m : List Nat) : List Nat := dB (bmV (sgR g s m))
def sgK (g : List Nat → List Nat) (s m : List Nat) : Nat := wideV (g (sgF g s m ++ pubW g s ++ m))
def sgS (g : List Nat → List Nat) (s m : List Nat) : Nat := maV (sgK g s m) (vB (secL (g s))) (sgR g s m)
def sigW (g : List Nat → List Nat) (s m : List Nat) : List Nat := sgF g s m ++ dB (sgS g s m)
def pbI (g : List Nat → List Nat) (s : List Nat) : List Nat := if s.length = 32 then pubW g s else []
def erI (s : List Nat) : Int := if s.length = 32 then 0 else 1
def sgI (g : List Nat → List Nat) (s m : List Nat) : List Nat := if s.length = 32 then sigW g s m else []
def eS512 (g : List Nat → List Nat) (args : List SV) : Option (SV × List Prop) := match args with
  | [.sl .u8 b] => some (.sl .u8 (g b), [b.length ≤ 1000000])
  | _ => none
def eSec (g : List Nat → List Nat) (args : List SV) : Option (SV × List Prop) := match args with
  | [.sl .u8 s] => some (.tup [fe (vB (secL (g s))), .sl .u8 ((g s).drop 32)], [s.length ≤ 1000000])
  | _ => none
def eMulti (args : List SV) : Option (SV × List Prop) := match args with
  | [.ag [.arr .u64 4 d, .arr .u64 4 w], .arr .u64 4 k] => some (fld (bmV (vF k)), [vF d = DP, vF w = W2])
  | _ => none
def eNum (g : List Nat → List Nat) (args : List SV) : Option (SV × List Prop) := match args with
  | [.slv 1 [x, y]] => match part? x, part? y with
    | some a, some b => some (fe (wideV (g (a ++ b))), [a.length + b.length ≤ 1000000])
    | _, _ => none
  | [.slv 1 [x, y, z]] => match part? x, part? y, part? z with
    | some a, some b, some c => some (fe (wideV (g (a ++ b ++ c))), [a.length + b.length + c.length ≤ 1000000])
    | _, _, _ => none
  | _ => none
def ePubX (g : List Nat → List Nat) (args : List SV) : Option (SV × List Prop) := match args with
  | [.sl .u8 s] => some (.tup [.sl .u8 (pbI g s), .i .i64 (erI s)], [])
  | _ => none
def eSgnX (g : List Nat → List Nat) (args : List SV) : Option (SV × List Prop) := match args with
  | [.sl .u8 s, .sl .u8 m] => some (.tup [.sl .u8 (sgI g s m), .i .i64 (erI s)], [m.length ≤ 900000])
  | _ => none
def H9a (g : List Nat → List Nat) : Ctr := addC 50 eJoinB (addC 47 (eS512 g) G.H4)
def H9b (g : List Nat → List Nat) : Ctr := addC 25 eMulti (addC 23 (eSec g) (H9a g))
def H9c (g : List Nat → List Nat) : Ctr := addC 26 (eNum g) (H9b g)
def H9 (g : List Nat → List Nat) : Ctr := addC 10 (eSgnX g) (addC 8 (ePubX g) (H9c g))
theorem pbI_p {g : List Nat → List Nat} {s : List Nat} (hl : s.length = 32) : pbI g s = pubW g s := if_pos hl
theorem pbI_n {g : List Nat → List Nat} {s : List Nat} (hl : ¬ s.length = 32) : pbI g s = [] := if_neg hl
theorem erI_p {s : List Nat} (hl : s.length = 32) : erI s = 0 := if_pos hl
theorem erI_n {s : List Nat} (hl : ¬ s.length = 32) : erI s = 1 := if_neg hl
theorem sgI_p {g : List Nat → List Nat} {s m : List Nat} (hl : s.length = 32) : sgI g s m = sigW g s m := if_pos hl
theorem sgI_n {g : List Nat → List Nat} {s m : List Nat} (hl : ¬ s.length = 32) : sgI g s m = [] := if_neg hl
theorem beL_lt {x : Nat} {m : List Nat} (h : ∀ y ∈ m, y < 256) : ∀ y ∈ beL x m, y < 256 := by
  intro y hy
  simp only [beL, List.mem_append, List.mem_singleton] at hy
  rcases hy with (((((((hy | hy) | hy) | hy) | hy) | hy) | hy) | hy) | hy
  · exact h y hy
  all_goals (rw [hy]; exact Nat.mod_lt _ (by decide))
theorem out64_lt (h : List Nat) : ∀ i, ∀ y ∈ out64 h i, y < 256 := by
  intro i
  induction i with
  | zero => intro y hy; cases hy
  | succ i ih => exact beL_lt ih
theorem sum64_len (b : List Nat) : (sum64 b).length = 64 := out64_len _ 8
theorem sum64_lt (b : List Nat) : ∀ y ∈ sum64 b, y < 256 := out64_lt _ 8
structure HashOk (g : List Nat → List Nat) : Prop where
  len : ∀ b, (g b).length = 64
  lt : ∀ b, ∀ y ∈ g b, y < 256
theorem sum64_ok : HashOk sum64 := ⟨sum64_len, sum64_lt⟩
theorem cS512 {g : List Nat → List Nat} (hg : g = sum64) : ∀ args res ob, eS512 g args = some (res, ob) → All ob → Contract Try.prog 47 args res := by
  intro args res ob h hob
  unfold eS512 at h
  split at h
  · cases h; rw [hg]; exact sum512_c _ hob.1
  · cases h
theorem okH9a {g : List Nat → List Nat} (hg : g = sum64) : CtrOk Try.prog (H9a g) := addC_ok (addC_ok okH4 (cS512 hg)) cJoinB
theorem secL_ok {g : List Nat → List Nat} (hk : HashOk g) (s : List Nat) : (secL (g s)).length = 32 ∧ ∀ x ∈ secL (g s), x < lim .u8 := by
  have h1 : ((g s).take 32).length = 32 := by rw [List.length_take, hk.len]; rfl
  refine ⟨by unfold secL clampL; rw [List.length_set, List.length_set, h1], bits_clamp ⟨h1, fun x hx => hk.lt s x (List.mem_of_mem_take hx)⟩⟩
theorem cSec {g : List Nat → List Nat} (hg : g = sum64) (hk : HashOk g) : ∀ args res ob, eSec g args = some (res, ob) → All ob → Contract Try.prog 23 args res := by
  intro args res ob h hob
  unfold eSec at h
  split at h
  · rename_i s
    cases h
    refine contract Try.func23 (body := bodyOf Try.f23) rfl (by kernel_rfl) (by kernel_rfl) rfl ?_
    rintro _ w0 S
    have h1 := hk.len s
    have h2 : (List.take 32 (g s)).length = 32 := by rw [List.length_take, h1]; rfl
    refine hold_end mixed (okH9a hg) (unroll := true) (f := 100) (sc := []) (r := (SV.tup [SV.arr IntKind.u64 4 (Go.Eng.dF (Go.Eng.vB (((List.take 32 (List.drop 0 (List.take 32 (g s)))).set 0 ((List.take 32 (List.drop 0 (List.take 32 (g s)))).getD 0 0 &&& 248)).set 31 (((List.take 32 (List.drop 0 (List.take 32 (g s)))).set 0 ((List.take 32 (List.drop 0 (List.take 32 (g s)))).getD 0 0 &&& 248)).getD 31 0 &&& 127 ||| 64)))), SV.sl IntKind.u8 (List.drop 32 (List.take (g s).length (g s)))])) (ob := [s.length ≤ 1000000, 0 ≤ 32, 32 ≤ (g s).length, 32 ≤ (List.drop 0 (List.take 32 (g s))).length, 32 ≤ (g s).length, (g s).length ≤ (g s).length]) (sc' := []) (by kernel_rfl) ?_ ?_
    · rw [List.drop_zero]
      exact ⟨hob.1, by repeat' first | exact True.intro | omega | (rw [h2]; omega) | refine ⟨?_, ?_⟩⟩
    · rw [List.drop_zero, List.take_of_length_le (show (List.take 32 (g s)).length ≤ 32 by omega), List.take_of_length_le (Nat.le_refl (g s).length)]
      rfl
  · cases h
theorem cMulti {g : List Nat → List Nat} (hg : g = sum64) : ∀ args res ob, eMulti args = some (res, ob) → All ob → Contract Try.prog 25 args res := by
  intro args res ob h hob
  unfold eMulti at h
  split at h
  · rename_i d w k
    cases h
    obtain ⟨hd, hw, _⟩ := hob
    refine contract Try.func25 (body := bodyOf Try.f25) rfl (by kernel_rfl) (by kernel_rfl) rfl ?_
    rintro _ w0 S
    have lY : dY baseL < M256 := maskL_lt ⟨rfl, by decide⟩
    have p0 := decP_ok lY DP
    have p1 := p4_pt p0
    have p2 := p4_pt (gtm_ok W2_lt (vF k) p0 256 gO gO_ok)
    refine hold_end mixed (okH9a hg) (unroll := true) (f := 100) (sc := []) (r := (SV.arr IntKind.u8 32 (Go.Eng.dB (Go.Eng.G.encV (Go.Eng.G.p4 (Go.Eng.dF (Go.Eng.G.gtm (Go.Eng.vF w) (Go.Eng.vF k) (Go.Eng.G.p4 (Go.Eng.dF (Go.Eng.G.decP (Go.Eng.vF d) Go.Eng.G.baseL).x) (Go.Eng.dF (Go.Eng.G.decP (Go.Eng.vF d) Go.Eng.G.baseL).y) (Go.Eng.dF (Go.Eng.G.decP (Go.Eng.vF d) Go.Eng.G.baseL).z) (Go.Eng.dF (Go.Eng.G.decP (Go.Eng.vF d) Go.Eng.G.baseL).t)) 256 Go.Eng.G.gO).x) (Go.Eng.dF (Go.Eng.G.gtm (Go.Eng.vF w) (Go.Eng.vF k) (Go.Eng.G.p4 (Go.Eng.dF (Go.Eng.G.decP (Go.Eng.vF d) Go.Eng.G.baseL).x) (Go.Eng.dF (Go.Eng.G.decP (Go.Eng.vF d) Go.Eng.G.baseL).y) (Go.Eng.dF (Go.Eng.G.decP (Go.Eng.vF d) Go.Eng.G.baseL).z) (Go.Eng.dF (Go.Eng.G.decP (Go.Eng.vF d) Go.Eng.G.baseL).t)) 256 Go.Eng.G.gO).y) (Go.Eng.dF (Go.Eng.G.gtm (Go.Eng.vF w) (Go.Eng.vF k) (Go.Eng.G.p4 (Go.Eng.dF (Go.Eng.G.decP (Go.Eng.vF d) Go.Eng.G.baseL).x) (Go.Eng.dF (Go.Eng.G.decP (Go.Eng.vF d) Go.Eng.G.baseL).y) (Go.Eng.dF (Go.Eng.G.decP (Go.Eng.vF d) Go.Eng.G.baseL).z) (Go.Eng.dF (Go.Eng.G.decP (Go.Eng.vF d) Go.Eng.G.baseL).t)) 256 Go.Eng.G.gO).z) (Go.Eng.dF (Go.Eng.G.gtm (Go.Eng.vF w) (Go.Eng.vF k) (Go.Eng.G.p4 (Go.Eng.dF (Go.Eng.G.decP (Go.Eng.vF d) Go.Eng.G.baseL).x) (Go.Eng.dF (Go.Eng.G.decP (Go.Eng.vF d) Go.Eng.G.baseL).y) (Go.Eng.dF (Go.Eng.G.decP (Go.Eng.vF d) Go.Eng.G.baseL).z) (Go.Eng.dF (Go.Eng.G.decP (Go.Eng.vF d) Go.Eng.G.baseL).t)) 256 Go.Eng.G.gO).t)))))) (ob := []) (sc' := []) (by kernel_rfl) trivial ?_
    rw [hd, hw, p1, p2, encV_mod, gtm_mod W2_lt W2_mod _ p0 _ _ gO_ok, decP_mod lY, pm_id gO_okP]
    rfl
  · cases h
theorem okH9b {g : List Nat → List Nat} (hg : g = sum64) (hk : HashOk g) : CtrOk Try.prog (H9b g) := addC_ok (addC_ok (okH9a hg) (cSec hg hk)) (cMulti hg)
def stNm : List It := [.lp [0, 1, 0, 1, 1, 1], .blk 0, .at [1, 1, 1, 1]]
def sNm (b L : List Nat) (i : SV) : St := ⟨32, [(2, .ptr 0 0 (.c 0)), (4, .ptr 1 0 (.c 0)), (10, .sl .u8 b), (11, .u .i64 b.length), (12, i)],
  [(0, ⟨47, [.arr .u64 4 [0, 0, 0, 0]], false⟩), (1, ⟨68, [.arr .u64 8 L], false⟩)], 2, 0⟩
section
variable {w0 : World} {S : Own} {res : SV}
theorem num_in {g : List Nat → List Nat} (hg : g = sum64) (hk : HashOk g) (b : List Nat) (hb : ∀ x ∈ b, x < 256) (hlen : b.length = 64) (hR : res = fe (wideV b)) :
    ∀ d i, i + d = b.length → ∀ L, L = dg W64 8 (vl 256 (b.take i)) → Hold Try.prog (bodyOf Try.f26) (Fin Try.prog Try.f26 w0 S res) w0 S stNm (sNm b L (.u .i64 i)) := by
  intro d
  induction d with
  | zero =>
    intro i hi L hL
    refine hold_unroll (c := _) rfl ?_
    refine hold_end mixed (okH9b hg hk) (unroll := false) (f := 100) (sc := [false]) (r := (SV.arr IntKind.u64 4 (Go.Eng.dF (Go.Eng.G.restV L)))) (ob := [Decidable.decide (i < b.length) = Bool.false, L.length ≤ 1000]) (sc' := []) (by kernel_rfl) ?_ ?_
    · exact ⟨by simp; omega, by rw [hL, dg_length]; decide, trivial⟩
    · rw [hR]
      have e : restV L = wideV b := by
        unfold restV wideV
        have h8 : vl 256 b < W64 ^ 8 := Nat.lt_of_lt_of_le (vl_lt (b := 256) b hb) (Nat.le_trans (Nat.pow_le_pow_right (by decide) (show b.length ≤ 64 by omega)) (show 256 ^ 64 ≤ W64 ^ 8 by decide))
        rw [hL, vl_dg, List.take_of_length_le (by omega), Nat.mod_eq_of_lt h8]
      rw [e]
      rfl
  | succ d ih =>
    intro i hi L hL
    refine hold_unroll (c := _) rfl ?_
    have hv := vl_take_lt hb i
    have hx : b.getD i 0 < 256 := getD_lt (by decide) hb i
    refine hold_cut mixed (okH9b hg hk) (unroll := false) (f := 100) (sc := [true]) (ks := [2,4,10,11,12]) (bs := [0,1]) (nx := 2) (st' := [It.lp [0, 1, 0, 1, 1, 1], It.blk 0, It.at [1, 1, 1, 1]]) (σ' := { nt := 32, slots := [(2, SV.ptr 0 0 (Ix.c 0)), (4, SV.ptr 1 0 (Ix.c 0)), (10, SV.sl IntKind.u8 b), (11, SV.u IntKind.i64 b.length), (12, SV.u IntKind.i64 (i + 1))], blks := [(0, { ty := 47, segs := [SV.arr IntKind.u64 4 [0, 0, 0, 0]] }), (1, { ty := 68, segs := [SV.arr IntKind.u64 8 (L.set (i / 8) (L.getD (i / 8) 0 ||| b.getD i 0 * 2 ^ (8 * (i % 8)) % 18446744073709551616))] })], next := 2 }) (ob := [Decidable.decide (i < b.length) = Bool.true, i < b.length, i / 8 < 8, i / 8 < 8, 8 * (i % 8) < 9223372036854775808, 8 * (i % 8) < 64, i / 8 < 8, i / 8 < 8, i + 1 < 9223372036854775808]) (sc' := []) (by kernel_rfl) ?_ ?_
    · repeat' (first | exact True.intro | refine And.intro ?_ ?_)
      all_goals first | omega | (simp; omega) | (simp only [lim]; omega)
    · refine ih (i + 1) (by omega) _ ?_
      rw [hL, vl_take _ _ _ (by omega)]
      exact or_dig hv hx (by omega)
theorem num2_c {g : List Nat → List Nat} (hg : g = sum64) (hk : HashOk g) (a b : List Nat) (hl : a.length + b.length ≤ 1000000) : Contract Try.prog 26 [.slv 1 [.sl .u8 a, .sl .u8 b]] (fe (wideV (g (a ++ b)))) := by
  refine contract Try.func26 (body := bodyOf Try.f26) rfl (by kernel_rfl) (by kernel_rfl) rfl ?_
  rintro _ w0 S
  have hl2 : (a ++ b).length ≤ 1000000 := by rw [List.length_append]; exact hl
  refine hold_cut mixed (okH9b hg hk) (unroll := false) (f := 100) (sc := []) (ks := [2,4,10,11,12]) (bs := [0,1]) (nx := 2) (st' := [It.lp [0, 1, 0, 1, 1, 1], It.blk 0, It.at [1, 1, 1, 1]]) (σ' := { nt := 32, slots := [(2, SV.ptr 0 0 (Ix.c 0)), (4, SV.ptr 1 0 (Ix.c 0)), (10, SV.sl IntKind.u8 (g (a ++ b))), (11, SV.u IntKind.i64 (g (a ++ b)).length), (12, SV.c IntKind.i64 (0 : Int))], blks := [(0, { ty := 47, segs := [SV.arr IntKind.u64 4 [0, 0, 0, 0]] }), (1, { ty := 68, segs := [SV.arr IntKind.u64 8 [0, 0, 0, 0, 0, 0, 0, 0]] })], next := 2 }) (ob := [a.length + b.length ≤ 1000000, (a ++ b).length ≤ 1000000]) (sc' := []) (by kernel_rfl) ⟨hl, hl2, trivial⟩ ?_
  have := num_in (w0 := w0) (S := S) hg hk (g (a ++ b)) (hk.lt _) (hk.len _) rfl (g (a ++ b)).length 0 (by omega) [0, 0, 0, 0, 0, 0, 0, 0] (by rw [List.take_zero]; decide)
  exact Hold.weaken this (by simp [wks, wk, wk0, wka, lim, sNm])
theorem num3_c {g : List Nat → List Nat} (hg : g = sum64) (hk : HashOk g) (a b c : List Nat) (hl : a.length + b.length + c.length ≤ 1000000) : Contract Try.prog 26 [.slv 1 [.sl .u8 a, .sl .u8 b, .sl .u8 c]] (fe (wideV (g (a ++ b ++ c)))) := by
  refine contract Try.func26 (body := bodyOf Try.f26) rfl (by kernel_rfl) (by kernel_rfl) rfl ?_
  rintro _ w0 S
  have hl2 : (a ++ b ++ c).length ≤ 1000000 := by rw [List.length_append, List.length_append]; exact hl
  refine hold_cut mixed (okH9b hg hk) (unroll := false) (f := 100) (sc := []) (ks := [2,4,10,11,12]) (bs := [0,1]) (nx := 2) (st' := [It.lp [0, 1, 0, 1, 1, 1], It.blk 0, It.at [1, 1, 1, 1]]) (σ' := { nt := 32, slots := [(2, SV.ptr 0 0 (Ix.c 0)), (4, SV.ptr 1 0 (Ix.c 0)), (10, SV.sl IntKind.u8 (g (a ++ b ++ c))), (11, SV.u IntKind.i64 (g (a ++ b ++ c)).length), (12, SV.c IntKind.i64 (0 : Int))], blks := [(0, { ty := 47, segs := [SV.arr IntKind.u64 4 [0, 0, 0, 0]] }), (1, { ty := 68, segs := [SV.arr IntKind.u64 8 [0, 0, 0, 0, 0, 0, 0, 0]] })], next := 2 }) (ob := [a.length + b.length + c.length ≤ 1000000, (a ++ b ++ c).length ≤ 1000000]) (sc' := []) (by kernel_rfl) ⟨hl, hl2, trivial⟩ ?_
  have := num_in (w0 := w0) (S := S) hg hk (g (a ++ b ++ c)) (hk.lt _) (hk.len _) rfl (g (a ++ b ++ c)).length 0 (by omega) [0, 0, 0, 0, 0, 0, 0, 0] (by rw [List.take_zero]; decide)
  exact Hold.weaken this (by simp [wks, wk, wk0, wka, lim, sNm])
end
theorem cNum {g : List Nat → List Nat} (hg : g = sum64) (hk : HashOk g) : ∀ args res ob, eNum g args = some (res, ob) → All ob → Contract Try.prog 26 args res := by
  intro args res ob h hob
  unfold eNum at h
  split at h
  · split at h
    · rename_i hx hy
      cases h
      exact slv_argsF (num2_c hg hk _ _ hob.1) ⟨part_wk hx, part_wk hy, rfl⟩ (by simp [SV.size]) rfl
    · cases h
  · split at h
    · rename_i hx hy hz
      cases h
      exact slv_argsF (num3_c hg hk _ _ _ hob.1) ⟨part_wk hx, part_wk hy, part_wk hz, rfl⟩ (by simp [SV.size]) rfl
    · cases h
  · cases h
theorem okH9c {g : List Nat → List Nat} (hg : g = sum64) (hk : HashOk g) : CtrOk Try.prog (H9c g) := addC_ok (okH9b hg hk) (cNum hg hk)
theorem cPubX {g : List Nat → List Nat} (hg : g = sum64) (hk : HashOk g) : ∀ args res ob, ePubX g args = some (res, ob) → All ob → Contract Try.prog 8 args res := by
  intro args res ob h hob
  unfold ePubX at h
  split at h
  · rename_i s
    cases h
    refine contract Try.func8 (body := bodyOf Try.f8) rfl (by kernel_rfl) (by kernel_rfl) rfl ?_
    rintro _ w0 S
    have eK := vd (vB_lt (secL_ok hk s))
    by_cases hl : s.length = 32
    · rw [pbI_p hl, erI_p hl]
      refine hold_endw mixed (okH9c hg hk) (unroll := true) (f := 100) (sc := [false]) (r := (SV.tup [SV.sl IntKind.u8 (Go.Eng.dB (bmV (Go.Eng.vF (Go.Eng.dF (Go.Eng.vB (secL (g s))))))), SV.c IntKind.i64 (0 : Int)])) (ob := [(s.length != 32) = Bool.false, s.length ≤ 1000000, 94991750553327537054923576013098519116177106212663501036117577537042505103504 = Go.Eng.G.DP, 74191411869338878686276167017509130379084227759686438032777571066171880567110 = Go.Eng.G.W2]) (sc' := []) (by kernel_rfl) ⟨by rw [hl]; rfl, by omega, rfl, W2_lit, trivial⟩ ?_
      rw [eK]
      exact ⟨rfl, ⟨rfl, rfl⟩, rfl⟩
    · rw [pbI_n hl, erI_n hl]
      refine hold_endw mixed (okH9c hg hk) (unroll := true) (f := 100) (sc := [true]) (r := (SV.tup [SV.sl IntKind.u8 [], SV.c IntKind.i64 (1 : Int)])) (ob := [(s.length != 32) = Bool.true]) (sc' := []) (by kernel_rfl) ⟨bne_iff_ne.mpr hl, trivial⟩ ?_
      exact ⟨rfl, ⟨rfl, rfl⟩, rfl⟩
  · cases h
end Go.Eng.G

namespace Go.Eng
open Go.RowKit
def appendX (P : Program) (σ : St) (t t2 : TypeId) (x y : SV) : Option (St × SV × List Prop) :=
  match elemOf P t, appSrc P t t2 σ.blks y, x with
  | some (e, by'), some (sy, ob0), .osl id n es => match readSl σ.blks (.osl id n es) with
    | some sx => match joinSl sx sy with
      | some r => some (Eng.nilRow σ e, .row σ.next r, ob0 ++ [slenD r * by' ≤ 140737488355328, 0 < slenD sy])
      | none => none
    | none => none
  | _, _, _ => none
def stepX (P : Program) (ops : Array Oper) (σ : St) (o : Oper) (sc : List Bool) : Option (St × List Prop × List Bool) :=
  match guardOf ops σ.slots o with
  | some true => match o.op with
    | .call { callee := .builtin .append, args := ⟨[x, y]⟩, argTypes := ⟨[t, t']⟩ } => match lookρ σ.slots x, lookρ σ.slots y with
      | some sx, some sy => match appendX P σ t t' sx sy.rd with
        | some (σ1, r, ob) => match putS σ1 o.dst r with | some σ' => some (σ', ob, sc) | none => none
        | none => none
      | _, _ => none
    | _ => none
  | _ => none
def stepOpX (P : Program) (ctr : Ctr) (ops : Array Oper) (σ : St) (i : Nat) (o : Oper) (sc : List Bool) : Option (St × List Prop × List Bool) :=
  match stepX P ops σ o sc with
  | some r => some r
  | none => stepOp P ctr ops σ i o sc
section
variable {P : Program} {ctr : Ctr} {w0 : Fr} {w : World} {S : Own} {σ σ' : St} {β : Nat → Nat} {a : Act} {ops : Array Oper}
theorem core_grow {id : Nat} {t t2 e ty : TypeId} {by' : Nat} (he : elemOf P t = some (e, by')) (hS : Sat w0 S σ β a w) (hR : RowStep σ σ' β S a w id e) {r : SV} {co news : List Value} (hc : slCells r = some (co ++ news)) (hg : slGood r)
    {x2 : Value} (hA : ∀ i z, P.info? e = some i → i.zero = some z → App P w t t2 ty e i z x2 news) (hb : (co.length + news.length) * by' ≤ 140737488355328) (h0 : 0 < news.length) (b : Addr)
    (holds : ∀ j u, co[j]? = some u → w.cell? (b.add j) = some u) :
    ∃ v w' β', (Builtin.append_ #[t, t2] ty #[.slice (some b) co.length co.length, x2]).run P w = .ok v w' ∧ Sat w0 S σ' β' a w' ∧ relV β' (owS S σ'.blks β') w' (.row id r) v := by
  obtain ⟨ht, i, z, hi, hz, hs1, hzs, hb0, hby⟩ := elemOf_ok he
  have hA := hA i z hi hz
  have hle : co.length + news.length ≤ 140737488355328 := Nat.le_trans (Nat.le_mul_of_pos_right _ hb0) hb
  have hr := hA.grow (b := b) (n := co.length) (cap := co.length) (olds := co) (by omega) rfl holds (by omega) (by omega) (by rw [hby]; exact hb) (growslice_fits (by omega) (by rw [hby]; exact hb))
  have hge := grownCap_ge w (co.length + news.length) co.length e
  have hcm2 := grownCap_le_maxLen w (co.length + news.length) co.length e (by simp only [maxLen]; omega)
  have hcore := core_new hS hR (rest := (Builtin.zeroCells z.cells (grownCap w (co.length + news.length) co.length e - (co.length + news.length))).toList) (cap := grownCap w (co.length + news.length) co.length e) hc hg (by
    have := size_zeroCells z.cells (grownCap w (co.length + news.length) co.length e - (co.length + news.length))
    rw [hzs] at this
    simp only [Array.length_toList, List.length_append]
    omega) (by omega) hcm2
  have e1 : (co ++ news ++ (Builtin.zeroCells z.cells (grownCap w (co.length + news.length) co.length e - (co.length + news.length))).toList).toArray = co.toArray ++ news.toArray ++ Builtin.zeroCells z.cells (grownCap w (co.length + news.length) co.length e - (co.length + news.length)) := by
    apply Array.ext'; simp
  rw [e1] at hcore
  simp only [List.length_append] at hcore
  exact ⟨_, _, _, hr, hcore.1, hcore.2⟩
theorem appendX_ok (hS : Sat w0 S σ β a w) {t t2 ty : TypeId} {x y r : SV} {ob : List Prop} (h : appendX P σ t t2 x y = some (σ', r, ob)) (hob : All ob) {v1 v2 : Value}
    (hx : relV β (owS S σ.blks β) w x v1) (hy : relV β (owS S σ.blks β) w y v2) :
    ∃ v w' β', (Builtin.append_ #[t, t2] ty #[v1, v2]).run P w = .ok v w' ∧ Sat w0 S σ' β' a w' ∧ relV β' (owS S σ'.blks β') w' r v := by
  unfold appendX at h
  split at h
  · rename_i e by' sy ob0 id n es he hry
    split at h
    · rename_i sx hrd
      split at h
      · rename_i r' hj
        cases h
        obtain ⟨ho0, hob⟩ := All.append.1 hob
        obtain ⟨gy, cy, hcy, hA⟩ := appSrc_ok (ty := ty) hS.blk he hry ho0 hy
        obtain ⟨gx, cx, A, c, hcx, hv, hcell⟩ := readSl_ok hS.blk hrd hx
        have h1 := relV_scalar rfl rfl hx
        simp only [rel, List.cons.injEq, and_true] at h1
        obtain ⟨hcr, hgr⟩ := joinSl_ok hj hcx hcy
        have hb : (cx.length + cy.length) * by' ≤ 140737488355328 := by have := hob.1; simpa [slenD, cells_slen hcr] using this
        have h0 : 0 < cy.length := by have := hob.2.1; simpa [slenD, cells_slen hcy] using this
        rw [h1] at hv
        cases hv
        rw [h1]
        refine core_grow (σ' := Eng.nilRow σ e) he hS (id := σ.next) ⟨rfl, ?_, ?_, hS.uniq_cons, by simp [Eng.nilRow], ⟨rfl, fun i bk hm _ => ⟨List.mem_cons_of_mem _ hm, .inl (hS.bndB i bk hm).1⟩⟩, by simp [Eng.nilRow]⟩ hcr (hgr gx gy) hA hb h0 ⟨β id, 0, none⟩ ?_
        · intro d s hm
          exact ⟨fun i hi => by have := hS.bnd d s hm i hi; simp only [Eng.nilRow]; omega, hS.slot d s hm⟩
        · intro i bk hm
          rcases List.mem_cons.1 hm with h | h
          · cases h; exact .inl ⟨rfl, rfl⟩
          · exact .inr ⟨h, hS.fresh i bk h⟩
        · intro j u hu
          obtain ⟨ad, e2, _, h3⟩ := hcell (by have := (List.getElem?_eq_some_iff.1 hu).1; omega)
          cases e2
          rw [add_plain]
          simpa using h3 j u hu
      · cases h
    · cases h
  · cases h
theorem wp_appendX {o : Oper} {x y : Operand} {t t2 : TypeId} (ho : o.op = .call { callee := .builtin .append, args := #[x, y], argTypes := #[t, t2] }) (hS : Sat w0 S σ β a w) {sx sy r : SV} {ob : List Prop}
    (h : appendX P σ t t2 sx sy = some (σ', r, ob)) (hob : All ob) (hx : relV β (owS S σ.blks β) w sx (a.eval x)) (hy : relV β (owS S σ.blks β) w sy (a.eval y))
    {K : Act → World → Prop} {Q : Exit → Act → World → Prop} (hk : ∀ v w' β', Sat w0 S σ' β' a w' → relV β' (owS S σ'.blks β') w' r v → K (a.put o.dst v) w') : o.wp P a w K Q := by
  obtain ⟨v, w', β', hr, h1, h2⟩ := appendX_ok (P := P) (ty := o.type) hS h hob hx hy
  unfold Oper.wp execOp
  simp only [ho, resolve, invoke, builtin, Sem.run_bind, Sem.run_pure, Result.andThen_ok, List.map_toArray, List.map_cons, List.map_nil, hr]
  exact hk v w' β' h1 h2
theorem stepOpX_ok (hctr : CtrOk P ctr) {σ' : St} {i : Nat} {o : Oper} {sc sc' : List Bool} {ob : List Prop} (h : stepOpX P ctr ops σ i o sc = some (σ', ob, sc')) (hob : All ob) (hi : ops[i]? = some o)
    (hS : Sat w0 S σ β a w) {K : Act → World → Prop} {Q : Exit → Act → World → Prop} (hk : ∀ β' a' w', Sat w0 S σ' β' a' w' → K a' w') : wpOp P ops Q i K a w := by
  unfold stepOpX at h
  split at h
  · rename_i hx
    cases h
    unfold stepX at hx
    split at hx
    · rename_i hg
      split at hx
      · rename_i x y t t' hop
        split at hx
        · rename_i sx sy hx1 hy1
          split at hx
          · rename_i σ1 r ob' happ
            split at hx
            · rename_i σ2 hput
              cases hx
              unfold wpOp
              simp only [hi]
              rw [guard_ok hS.slot hg]
              simp only [if_true]
              refine .inl ?_
              exact wp_appendX hop hS happ hob (hS.look hx1) (rd_ok (hS.look hy1)) fun v w' β' h1 h2 => hk β' _ _ (h1.put hput h2)
            · cases hx
          · cases hx
        · cases hx
      · cases hx
    · cases hx
  · exact stepOp_ok hctr h hob hi hS hk
end
def execX (P : Program) (ctr : Ctr) (ops : Array Oper) (d : Ke) : Nat → Array Bool → St → List Bool → Option (St × List Prop × List Bool)
  | 0, _, _, _ => none
  | f + 1, L, σ, sc => match Region.ready .any ops L with
    | [] => match restrict d.ks d.bs d.nx σ with
      | some R => some (R, [], sc)
      | none => none
    | r => match firstPureG P ctr ops L σ sc r with
      | some (i, σ1, ob1, sc1) => match execX P ctr ops d f (L.setIfInBounds i true) σ1 sc1 with
        | some (R, ob2, sc2) => some (R, ob1 ++ ob2, sc2)
        | none => none
      | none => tryS (fun i => match ops[i]? with
        | some o => match stepOpX P ctr ops σ i o sc with
          | some (σ1, ob1, sc1) => match execX P ctr ops d f (L.setIfInBounds i true) σ1 sc1 with
            | some (R, ob2, sc2) => some (R, ob1 ++ ob2, sc2)
            | none => none
          | none => none
        | none => none) r
def drawX (P : Program) (ctr : Ctr) (ops : Array Oper) (d : Ke) (σ : St) (sc : List Bool) : Option (St × List Prop × List Bool) :=
  if Region.noSelect ops then execX P ctr ops d (ops.size + 1) (Array.replicate ops.size false) σ sc else none
section
variable {P : Program} {ctr : Ctr} {w0 : Fr} {w : World} {S : Own} {σ σ' : St} {β : Nat → Nat} {a : Act} {ops : Array Oper}
theorem execX_ok (hctr : CtrOk P ctr) (hs : Region.noSelect ops = true) {d : Ke} {Q : Exit → Act → World → Prop} (hQ : ∀ c a w, ¬ Q (.panic c) a w) : ∀ {f : Nat} {L : Array Bool} {σ : St} {R : St} {sc sc' : List Bool} {ob : List Prop} {β : Nat → Nat} {a : Act} {w : World},
    execX P ctr ops d f L σ sc = some (R, ob, sc') → All ob → Sat w0 S σ β a w → (∀ β' a' w', Sat w0 S R β' a' w' → Q .normal a' w') → ∀ {g : Nat}, left L ≤ g → L.size = ops.size → wpAny P .any ops Q g L a w := by
  intro f
  induction f with
  | zero => intro L σ R sc sc' ob β a w h; simp [execX] at h
  | succ f ih =>
    intro L σ R sc sc' ob β a w h hob hS hk g hl hsz
    simp only [execX] at h
    split at h
    · rename_i hr
      split at h
      · rename_i R1 he
        cases h
        exact wpAny_done hr (hk β a w (hS.restrict he)) g
      · cases h
    · rename_i hr0
      have hstep : ∀ i, i ∈ Region.ready .any ops L → left L = left (L.setIfInBounds i true) + 1 := fun i hi => by
        obtain ⟨h1, o, ho, _⟩ := mem_ready.1 hi
        exact left_set (by rw [hsz]; exact (Array.getElem?_eq_some_iff.1 ho).1) h1
      have hpos : 0 < g := by
        cases hr : Region.ready .any ops L with
        | nil => exact absurd hr hr0
        | cons j t => have := hstep j (by rw [hr]; simp); omega
      obtain ⟨g, rfl⟩ : ∃ g', g = g' + 1 := ⟨g - 1, by omega⟩
      split at h
      · rename_i i σ1 ob1 sc1 hp
        split at h
        · rename_i R2 ob2 sc2 hx
          cases h
          obtain ⟨ho1, ho2⟩ := All.append.1 hob
          obtain ⟨hm, hf, o, ho, hst⟩ := firstPureG_ok hp
          obtain ⟨v, hy, hS1⟩ := pureStepG_ok hst ho1 hS
          refine wpAny_take ho hs hf (by simpa using hm) (fun c a w h => absurd h (hQ c _ w)) hy ?_
          exact ih hx ho2 hS1 hk (by have := hstep i hm; omega) (by simpa using hsz)
        · cases h
      · refine wpAny_all rfl hr0 ?_
        intro j hj
        obtain ⟨ob', sc2, h1, h2⟩ := tryS_ok h hob j hj
        split at h1
        · rename_i o ho
          split at h1
          · rename_i σ1 ob1 sc1 hst
            split at h1
            · rename_i R2 ob2 sc3 hx
              cases h1
              obtain ⟨ho1, ho2⟩ := All.append.1 h2
              refine stepOpX_ok hctr hst ho1 ho hS fun β' a' w' hS' => ?_
              exact ih hx ho2 hS' hk (by have := hstep j hj; omega) (by simpa using hsz)
            · cases h1
          · cases h1
        · cases h1
theorem drawX_ok (hm : P.follows .mixedOrders = true) (hctr : CtrOk P ctr) {id : Nat} {d : Ke} {sc sc' : List Bool} {ob : List Prop} (h : drawX P ctr ops d σ sc = some (σ', ob, sc')) (hob : All ob) (hS : Sat w0 S σ β a w)
    {Q : Exit → Act → World → Prop} (hQ : ∀ c a w, ¬ Q (.panic c) a w) (hk : ∀ β' a' w', Sat w0 S σ' β' a' w' → Q .normal a' w') : (Code.region id ops true).wp P Q a w := by
  unfold drawX at h
  split at h
  · rename_i hs
    refine wp_region_any hm ?_
    have hxt : Ext w { w with drawn := w.drawn + 1 } := ⟨rfl, rfl, rfl, Nat.le_refl _, fun _ _ => rfl⟩
    refine execX_ok hctr hs hQ h hob (hS.extend hxt) hk ?_ (by simp)
    simp [left, List.countP_replicate]
  · cases h
end
def regX (P : Program) (ctr : Ctr) (body : Code) (p : List Nat) (r : List It) (d : Ke) (σ : St) (sc : List Bool) : List It × Option St × List Prop × List Bool :=
  match nav body p with
  | some (.region _ ops true) => match drawX P ctr ops d σ sc with
    | some (σ', ob, sc') => (r, some σ', ob, sc')
    | none => ([], none, [], sc)
  | _ => ([], none, [], sc)
theorem hold_allX {P : Program} {body : Code} {w0 : Fr} {S : Own} (hm : P.follows .mixedOrders = true) {ctr : Ctr} (hctr : CtrOk P ctr) {Q : Exit → Act → World → Prop} [ExitOk Q] {p : List Nat} {r : List It} {d : Ke} {σ : St} {sc : List Bool} {st' : List It} {σ' : St} {ob : List Prop} {sc' : List Bool}
    (h : regX P ctr body p r d σ sc = (st', some σ', ob, sc')) (hob : All ob) (hk : Hold P body Q w0 S st' σ') : Hold P body Q w0 S (.at p :: r) σ := by
  unfold regX at h
  split at h
  · rename_i id ops hn
    split at h
    · rename_i σ1 ob1 sc1 hx
      cases h
      intro β a w hS
      simp only [contQ, hn]
      exact drawX_ok hm hctr hx hob hS (contQ_panic (ExitOk.panic (Q := Q)) _) hk
    · cases h
  · cases h
end Go.Eng

namespace Go.Eng.G
open Go Go.Eng Go.Proofs Go.Eng.B
set_option maxRecDepth 100000
set_option maxHeartbeats 1000000
theorem okH9d {g : List Nat → List Nat} (hg : g = sum64) (hk : HashOk g) : CtrOk Try.prog (addC 8 (ePubX g) (H9c g)) := addC_ok (okH9c hg hk) (cPubX hg hk)
theorem wide_M (b : List Nat) : wideV b < M256 := Nat.lt_trans (Nat.mod_lt _ (by decide)) QQ_lt
theorem ma_M (a b c : Nat) : maV a b c < M256 := Nat.lt_trans (Nat.mod_lt _ (by decide)) QQ_lt
theorem slen_dB2 (a b : Nat) : slenD (.sl .u8 (dB a ++ dB b)) = 64 := by show (dB a ++ dB b).length = 64; rw [List.length_append, dB_len, dB_len]
theorem slen_dB1 (a : Nat) : slenD (.sl .u8 (dB a)) = 32 := dB_len a
def sSgn (A B : Nat) : St := ⟨44, [(11, .ptr 5 0 (.c 0)), (12, .ptr 7 0 (.c 0))], [(5, ⟨31, [.arr .u8 32 (dB A)], false⟩), (7, ⟨31, [.arr .u8 32 (dB B)], false⟩)], 8, 0⟩
def sSgn2 (A B : Nat) : St := ⟨44, [(4, .row 8 (.sl .u8 (dB A ++ dB B))), (5, .c .i64 0)], [(8, ⟨5, [], true⟩)], 11, 0⟩
section
variable {w0 : World} {S : Own} {res : SV}
theorem sgn_end {g : List Nat → List Nat} (hg : g = sum64) (hk : HashOk g) (A B : Nat) (hR : res = .tup [.sl .u8 (dB A ++ dB B), .i .i64 0]) :
    Hold Try.prog (bodyOf Try.f10) (Fin Try.prog Try.f10 w0 S res) w0 S [.at [0, 1, 1, 1, 1, 1, 1, 1, 1], .at [1, 1, 1, 1, 1, 1, 1, 1, 1]] (sSgn A B) := by
  refine hold_allX mixed (okH9d hg hk) (p := [0, 1, 1, 1, 1, 1, 1, 1, 1]) (r := [.at [1, 1, 1, 1, 1, 1, 1, 1, 1]]) (d := Ke.mk [4, 5] [8] 11) (σ := sSgn A B) (sc := []) (st' := [It.at [1, 1, 1, 1, 1, 1, 1, 1, 1]]) (σ' := (Go.Eng.St.mk 44 [(4, SV.row 8 (SV.sl IntKind.u8 (Go.Eng.dB A ++ Go.Eng.dB B))), (5, SV.c IntKind.i64 (0 : Int))] [(8, Go.Eng.Bk.mk 5 [] Bool.true)] 11 0)) (ob := [Go.Eng.slenD (SV.sl IntKind.u8 (Go.Eng.dB A ++ Go.Eng.dB B)) * 1 ≤ 140737488355328, 0 < Go.Eng.slenD (SV.sl IntKind.u8 (Go.Eng.dB B))]) (sc' := []) (by kernel_rfl) ?_ ?_
  · repeat' first | exact True.intro | exact rfl | (rw [slen_dB2]; decide) | (rw [slen_dB1]; decide) | refine ⟨?_, ?_⟩
  · rw [hR]
    refine hold_endw mixed (okH9d hg hk) (unroll := true) (f := 100) (sc := []) (r := (SV.tup [SV.sl IntKind.u8 (Go.Eng.dB A ++ Go.Eng.dB B), SV.c IntKind.i64 (0 : Int)])) (ob := []) (sc' := []) (by kernel_rfl) trivial ?_
    exact ⟨rfl, ⟨rfl, rfl⟩, rfl⟩
end
theorem cSgnX {g : List Nat → List Nat} (hg : g = sum64) (hk : HashOk g) : ∀ args res ob, eSgnX g args = some (res, ob) → All ob → Contract Try.prog 10 args res := by
  intro args res ob h hob
  unfold eSgnX at h
  split at h
  · rename_i s m
    cases h
    refine contract Try.func10 (body := bodyOf Try.f10) rfl (by kernel_rfl) (by kernel_rfl) rfl ?_
    rintro _ w0 S
    have eK := vd (vB_lt (secL_ok hk s))
    by_cases hl : s.length = 32
    · rw [sgI_p hl, erI_p hl]
      have hd : (List.drop 32 (g s)).length = 32 := by rw [List.length_drop, hk.len]
      have hm := hob.1
      refine hold_cut mixed (okH9d hg hk) (unroll := true) (f := 200) (sc := [false]) (ks := [11,12]) (bs := [5,7]) (nx := 8) (st' := [It.at [0, 1, 1, 1, 1, 1, 1, 1, 1], It.at [1, 1, 1, 1, 1, 1, 1, 1, 1]]) (σ' := { nt := 44, slots := [(11, SV.ptr 5 0 (Ix.c 0)), (12, SV.ptr 7 0 (Ix.c 0))], blks := [(5, { ty := 31, segs := [SV.arr IntKind.u8 32 (Go.Eng.dB (Go.Eng.G.bmV (Go.Eng.vF (Go.Eng.dF (Go.Eng.G.wideV (g (List.drop 32 (g s) ++ m)))))))] }), (7, { ty := 31, segs := [SV.arr IntKind.u8 32 (Go.Eng.dB (Go.Eng.vF (Go.Eng.dF (Go.Eng.G.maV (Go.Eng.vF (Go.Eng.dF (Go.Eng.G.wideV (g (Go.Eng.dB (Go.Eng.G.bmV (Go.Eng.vF (Go.Eng.dF (Go.Eng.G.wideV (g (List.drop 32 (g s) ++ m)))))) ++ Go.Eng.dB (Go.Eng.G.bmV (Go.Eng.vF (Go.Eng.dF (Go.Eng.vB (Go.Eng.G.secL (g s)))))) ++ m))))) (Go.Eng.vF (Go.Eng.dF (Go.Eng.vB (Go.Eng.G.secL (g s))))) (Go.Eng.vF (Go.Eng.dF (Go.Eng.G.wideV (g (List.drop 32 (g s) ++ m)))))))))] })], next := 8 }) (ob := [(s.length != 32) = Bool.false, s.length ≤ 1000000, 94991750553327537054923576013098519116177106212663501036117577537042505103504 = Go.Eng.G.DP, 74191411869338878686276167017509130379084227759686438032777571066171880567110 = Go.Eng.G.W2, (List.drop 32 (g s)).length + m.length ≤ 1000000, 94991750553327537054923576013098519116177106212663501036117577537042505103504 = Go.Eng.G.DP, 74191411869338878686276167017509130379084227759686438032777571066171880567110 = Go.Eng.G.W2, (Go.Eng.dB (Go.Eng.G.bmV (Go.Eng.vF (Go.Eng.dF (Go.Eng.G.wideV (g (List.drop 32 (g s) ++ m))))))).length + (Go.Eng.dB (Go.Eng.G.bmV (Go.Eng.vF (Go.Eng.dF (Go.Eng.vB (Go.Eng.G.secL (g s))))))).length + m.length ≤ 1000000]) (sc' := []) (by kernel_rfl) ?_ ?_
      · exact ⟨by rw [hl]; rfl, by omega, rfl, W2_lit, by rw [hd]; omega, rfl, W2_lit, by rw [dB_len, dB_len]; omega, trivial⟩
      · rw [eK, vd (wide_M _), vd (wide_M _), vd (ma_M _ _ _)]
        exact sgn_end hg hk (bmV (sgR g s m)) (sgS g s m) rfl
    · rw [sgI_n hl, erI_n hl]
      refine hold_endw mixed (okH9d hg hk) (unroll := true) (f := 100) (sc := [true]) (r := (SV.tup [SV.sl IntKind.u8 [], SV.c IntKind.i64 (1 : Int)])) (ob := [(s.length != 32) = Bool.true]) (sc' := []) (by kernel_rfl) ⟨bne_iff_ne.mpr hl, trivial⟩ ?_
      exact ⟨rfl, ⟨rfl, rfl⟩, rfl⟩
  · cases h
theorem okH9 {g : List Nat → List Nat} (hg : g = sum64) (hk : HashOk g) : CtrOk Try.prog (H9 g) := addC_ok (okH9d hg hk) (cSgnX hg hk)
end Go.Eng.G

namespace Go.Eng.G
open Go Go.Eng Go.Proofs Go.Eng.B
set_option maxRecDepth 100000
set_option maxHeartbeats 1000000
theorem pq_a : Pr 1224481 := prime_small 1110 (by decide) (by decide) (by decide +kernel)
theorem pq_b : Pr 531581 := prime_small 740 (by decide) (by decide) (by decide +kernel)
theorem pq_1 : Pr 1257559732178653 :=
  prime_pm2 (q := 1224481) (s := 531581) (a := 2) (m := 1027014492) (k := 2365697292) (v := 1252739704402215) (u := 1139842034583224) 64 (by decide) pq_a pq_b (by decide +kernel) (by decide +kernel) (by decide +kernel) (by decide +kernel) (by decide +kernel) (by decide +kernel) (by decide +kernel) (by decide +kernel) (by decide +kernel) (by decide +kernel) (by decide +kernel) (by decide +kernel) (by decide +kernel) (by decide +kernel)
theorem pq_2 : Pr 4434155615661930479 :=
  prime_pm1 (q := 1257559732178653) (a := 2) (m := 3526) (v := 415787812636281767) 64 (by decide +kernel) pq_1 (by decide +kernel) (by decide +kernel) (by decide +kernel) (by decide +kernel) (by decide +kernel) (by decide +kernel) (by decide +kernel) (by decide +kernel)
theorem pq_3 : Pr 172054593956031949258510691 :=
  prime_pm1 (q := 4434155615661930479) (a := 2) (m := 38802110) (v := 81982237619807054769897707) 128 (by decide +kernel) pq_2 (by decide +kernel) (by decide +kernel) (by decide +kernel) (by decide +kernel) (by decide +kernel) (by decide +kernel) (by decide +kernel) (by decide +kernel)
theorem pq_4 : Pr 19757330305831588566944191468367130476339 :=
  prime_pm1 (q := 172054593956031949258510691) (a := 2) (m := 114831751082918) (v := 9148758478138211201771971577098600188172) 256 (by decide +kernel) pq_3 (by decide +kernel) (by decide +kernel) (by decide +kernel) (by decide +kernel) (by decide +kernel) (by decide +kernel) (by decide +kernel) (by decide +kernel)
theorem pq_5 : Pr 276602624281642239937218680557139826668747 :=
  prime_pm1 (q := 19757330305831588566944191468367130476339) (a := 2) (m := 14) (v := 16384) 256 (by decide +kernel) pq_4 (by decide +kernel) (by decide +kernel) (by decide +kernel) (by decide +kernel) (by decide +kernel) (by decide +kernel) (by decide +kernel) (by decide +kernel)
theorem prQ : Pr QQ :=
  prime_pm1 (q := 276602624281642239937218680557139826668747) (a := 2) (m := 26163907866482859529727157400808004) (v := 2975531125133123119648879457563281269120703404158613135195788908093573672641) 256 (by decide +kernel) pq_5 (by decide +kernel) (by decide +kernel) (by decide +kernel) (by decide +kernel) (by decide +kernel) (by decide +kernel) (by decide +kernel) (by decide +kernel)
theorem base_ok : rdB baseL = true := by kernel_rfl
def Bp : Pt := rdPt baseL
theorem Bp_on : onC Bp := rd_on base_ok
theorem Bp_rep : repP (rdP baseL) Bp := rd_rep base_ok
theorem base_q : encR (rtm dN QQ (rdP baseL) 256 gO) = 1 := by kernel_rfl
theorem base_1 : encR (rtm dN 1 (rdP baseL) 256 gO) ≠ 1 := by decide +kernel
theorem bm_pt {k : Nat} (hk : k < M256) : bmV k = encP (nsm k Bp) := by
  unfold bmV
  exact encR_rep (nsm_on Bp_on k) (rep_times (rdP_ok baseL) Bp_on Bp_rep hk)
theorem Bp_q : nsm QQ Bp = pO := by
  have h := bm_pt QQ_lt
  unfold bmV at h
  rw [base_q] at h
  exact (enc_one (nsm_on Bp_on QQ)).1 h.symm
theorem Bp_ne : Bp ≠ pO := by
  intro h
  have h1 := bm_pt (k := 1) (by decide)
  rw [nsm_one Bp_on] at h1
  exact base_1 (h1.trans ((enc_one Bp_on).2 h))
theorem nsm_mod {P : Pt} (hP : onC P) {a b : Nat} (ha : nsm a P = pO) (hb : nsm b P = pO) : nsm (b % a) P = pO := by
  have h := Nat.div_add_mod b a
  rw [← h, nsm_add hP, nsm_mul hP, ha, nsm_O, O_padd (nsm_on hP _)] at hb
  exact hb
theorem nsm_red (k : Nat) : nsm (k % QQ) Bp = nsm k Bp := by
  have h := Nat.div_add_mod k QQ
  conv => rhs; rw [← h, nsm_add Bp_on, nsm_mul Bp_on, Bp_q, nsm_O, O_padd (nsm_on Bp_on _)]
theorem nsm_gcd {P : Pt} (hP : onC P) (a b : Nat) : nsm a P = pO → nsm b P = pO → nsm (Nat.gcd a b) P = pO := by
  induction a, b using Nat.gcd.induction with
  | H0 b => intro _ h; rw [Nat.gcd_zero_left]; exact h
  | H1 a b ha ih =>
    intro h1 h2
    rw [Nat.gcd_rec]
    exact ih (nsm_mod hP h1 h2) h1
theorem ord_q {k : Nat} (h : ¬ QQ ∣ k) : nsm k Bp ≠ pO := by
  intro h1
  have h2 := nsm_gcd Bp_on QQ k Bp_q h1
  rw [show Nat.gcd QQ k = 1 from prQ.cop h, nsm_one Bp_on] at h2
  exact Bp_ne h2
theorem q_mul {a b : Nat} (ha : ¬ QQ ∣ a) (hb : ¬ QQ ∣ b) : ¬ QQ ∣ a * b := fun h => (prQ.mul h).elim ha hb
theorem q_small {a : Nat} (h0 : 0 < a) (h : a < QQ) : ¬ QQ ∣ a := fun hd => absurd (Nat.le_of_dvd h0 hd) (by omega)
structure Clm (k : Nat) : Prop where
  lt : k < M256
  nd : ¬ QQ ∣ k
theorem c248 : ∀ y, y < 256 → (y &&& 248) % 8 = 0 := by decide +kernel
theorem c127 : ∀ y, y < 256 → 64 ≤ (y &&& 127 ||| 64) ∧ (y &&& 127 ||| 64) < 128 := by decide +kernel
theorem clamp_ok {k : List Nat} (h : k.length = 32 ∧ ∀ x ∈ k, x < lim .u8) : Clm (vB (clampL k)) := by
  have h0 : ∀ j, k.getD j 0 < 256 := getD_lt (by decide) h.2
  have hb := bits_clamp h
  have hl : (clampL k).length = 32 := by unfold clampL; rw [List.length_set, List.length_set, h.1]
  have e0 : (clampL k).getD 0 0 = k.getD 0 0 &&& 248 := by
    unfold clampL
    rw [getD_set_ne (by decide), getD_set_eq (by omega)]
  have e1 : (k.set 0 (k.getD 0 0 &&& 248)).getD 31 0 = k.getD 31 0 := getD_set_ne (by decide)
  have e2 : (clampL k).getD 31 0 = k.getD 31 0 &&& 127 ||| 64 := by
    unfold clampL
    rw [getD_set_eq (by simp; omega), e1]
  have hlt := vB_lt (a := clampL k) ⟨hl, hb⟩
  have hd : dB (vB (clampL k)) = clampL k := dB_vB ⟨hl, hb⟩
  have g0 := c248 _ (h0 0)
  have g1 := c127 _ (h0 31)
  rw [← e0, ← hd] at g0
  rw [← e2, ← hd] at g1
  unfold dB at g0 g1
  rw [dg_getD _ _ _ _ (by decide)] at g0 g1
  have p31 : 256 ^ 31 = 452312848583266388373324160190187140051835877600158453279131187530910662656 := by decide
  rw [p31] at g1
  rw [Nat.pow_zero, Nat.div_one] at g0
  generalize vB (clampL k) = v at *
  refine ⟨hlt, ?_⟩
  unfold M256 at hlt
  have h8 : v = 8 * (v / 8) := by omega
  have hm0 : 0 < v / 8 := by omega
  have hm1 : v / 8 < 7237005577332262213973186563042994240829374041602535252466099000494570602496 := by omega
  rw [h8]
  exact q_mul (by decide) (q_small hm0 (Nat.lt_trans hm1 (by decide)))
def pneg (A : Pt) : Pt := (mi 0 A.1, A.2)
theorem mi0_Q {x : Nat} (h : x < P255) : Q (mi 0 x : Int) (-(x : Int)) := by
  have h2 := Q_mi 0 h
  refine Q.trans h2 (Q.of ?_)
  rw [show ((0 : Nat) : Int) = 0 from rfl]; omega
theorem pneg_on {A : Pt} (h : onC A) : onC (pneg A) := by
  refine ⟨mi_lt _ _, h.2.1, ?_⟩
  have hx := mi0_Q h.1
  have e : Q ((mi 0 A.1 : Int) * (mi 0 A.1 : Int)) ((A.1 : Int) * A.1) := Q.trans (Q.mul hx hx) (Q.of (by grind))
  have e1 : Q (eE dN (mi 0 A.1) A.2) (eE dN A.1 A.2) := by
    unfold eE
    have h3 := Q.mul e (Q.rfl' ((dN : Int) * ((A.2 : Int) * A.2) + 1))
    refine Q.trans (Q.of ?_) (Q.trans (Q.sub (Q.rfl' ((A.2 : Int) * A.2 - 1)) h3) (Q.of ?_)) <;> grind
  exact e1.toD h.2.2
theorem padd_neg {A : Pt} (h : onC A) : padd A (pneg A) = pO := by
  have hn := pneg_on h
  have o := padd_on h hn
  have x := padd_x h hn
  have y := padd_y h hn
  have hx := mi0_Q h.1
  have n1 := complete1 h.2.2 hn.2.2
  have n2 := complete2 h.2.2 hn.2.2
  have x0 : Q (nX A.1 A.2 (pneg A).1 (pneg A).2) 0 := by
    have : Q ((A.1 : Int) * A.2 + A.2 * (mi 0 A.1 : Int)) ((A.1 : Int) * A.2 + A.2 * -(A.1 : Int)) := Q.add (Q.rfl' _) (Q.mul (Q.rfl' _) hx)
    refine Q.trans (Q.of ?_) (Q.trans this (Q.of ?_))
    · unfold nX pneg; grind
    · grind
  have y0 : Q (nY A.1 A.2 (pneg A).1 (pneg A).2) (1 - dl dN A.1 A.2 (pneg A).1 (pneg A).2) := by
    have h1 : Q (nY A.1 A.2 (pneg A).1 (pneg A).2) ((A.2 : Int) * A.2 - A.1 * A.1) := by
      have : Q ((A.2 : Int) * A.2 + A.1 * (mi 0 A.1 : Int)) ((A.2 : Int) * A.2 + A.1 * -(A.1 : Int)) := Q.add (Q.rfl' _) (Q.mul (Q.rfl' _) hx)
      refine Q.trans (Q.of ?_) (Q.trans this (Q.of ?_))
      · unfold nY pneg; grind
      · grind
    have h2 : Q (1 - dl dN A.1 A.2 (pneg A).1 (pneg A).2) (1 + (dN : Int) * A.1 * A.1 * A.2 * A.2) := by
      have : Q (1 - (dN : Int) * A.1 * A.2 * A.2 * (mi 0 A.1 : Int)) (1 - (dN : Int) * A.1 * A.2 * A.2 * -(A.1 : Int)) := Q.sub (Q.rfl' _) (Q.mul (Q.rfl' _) hx)
      refine Q.trans (Q.of ?_) (Q.trans this (Q.of ?_))
      · unfold dl pneg; grind
      · grind
    refine Q.trans h1 (Q.trans ?_ h2.symm)
    refine D.of h.2.2 ?_
    unfold eE; grind
  have ex : (padd A (pneg A)).1 = 0 := by
    refine Q_uniq o.1 (by decide) (Q.cancel n1 (Q.trans x (Q.trans x0 (Q.of ?_))))
    rw [show ((0 : Nat) : Int) = 0 from rfl]; grind
  have ey : (padd A (pneg A)).2 = 1 := by
    refine Q_uniq o.2.1 (by decide) (Q.cancel n2 (Q.trans y (Q.trans y0 (Q.of ?_))))
    rw [show ((1 : Nat) : Int) = 1 from rfl]; grind
  exact Prod.ext ex ey
theorem rep_neg {p : P4} {A : Pt} (hp : pokP p) (hA : onC A) (h : repP p A) : repP (rneg p) (pneg A) := by
  obtain ⟨hz, hx, hy, ht⟩ := h
  have h1 := mi0_Q hp.1
  have h4 := mi0_Q hp.2.2.2
  have ha := mi0_Q hA.1
  refine ⟨hz, ?_, hy, ?_⟩
  · show Q (mi 0 p.x : Int) ((mi 0 A.1 : Int) * p.z)
    refine Q.trans h1 (Q.trans (b := -(A.1 : Int) * p.z) ?_ (Q.mul ha.symm (Q.rfl' _)))
    refine Q.trans (Q.of (by grind)) (Q.trans (Q.sub (Q.rfl' 0) hx) (Q.of (by grind)))
  · show Q (mi 0 p.t : Int) ((mi 0 A.1 : Int) * A.2 * p.z)
    refine Q.trans h4 (Q.trans (b := -(A.1 : Int) * A.2 * p.z) ?_ (Q.mul (Q.mul ha.symm (Q.rfl' _)) (Q.rfl' _)))
    refine Q.trans (Q.of (by grind)) (Q.trans (Q.sub (Q.rfl' 0) ht) (Q.of (by grind)))
theorem nsm_padd {A C : Pt} (hA : onC A) (hC : onC C) : ∀ k, nsm k (padd A C) = padd (nsm k A) (nsm k C)
  | 0 => (padd_O pO_on).symm
  | k + 1 => by
    have a := nsm_on hA k
    have c := nsm_on hC k
    show padd (nsm k (padd A C)) (padd A C) = padd (padd (nsm k A) A) (padd (nsm k C) C)
    rw [nsm_padd hA hC k, padd_assoc a c (padd_on hA hC), padd_assoc a hA (padd_on c hC), ← padd_assoc c hA hC, padd_comm (p := nsm k C) (q := A), padd_assoc hA c hC]
theorem nsm_neg {A : Pt} (hA : onC A) (k : Nat) : padd (nsm k A) (nsm k (pneg A)) = pO := by
  rw [← nsm_padd hA (pneg_on hA), padd_neg hA, nsm_O]
section
variable {g : List Nat → List Nat} (hk : HashOk g) (s m : List Nat)
include hk
theorem sec_lt : vB (secL (g s)) < M256 := vB_lt (secL_ok hk s)
theorem sec_clm : Clm (vB (secL (g s))) := by
  have h1 : ((g s).take 32).length = 32 := by rw [List.length_take, hk.len]; rfl
  exact clamp_ok ⟨h1, fun x hx => hk.lt s x (List.mem_of_mem_take hx)⟩
theorem pubW_pt : rdB (pubW g s) = true ∧ rdPt (pubW g s) = nsm (vB (secL (g s))) Bp := by
  unfold pubW
  rw [bm_pt (sec_lt hk s)]
  exact enc_dec (nsm_on Bp_on _)
omit hk in
theorem sgF_pt : rdB (sgF g s m) = true ∧ rdPt (sgF g s m) = nsm (sgR g s m) Bp := by
  unfold sgF
  rw [bm_pt (Nat.lt_trans (Nat.mod_lt _ (by decide)) QQ_lt : sgR g s m < M256)]
  exact enc_dec (nsm_on Bp_on _)
theorem sg_eqn : nsm (sgS g s m) Bp = padd (nsm (sgR g s m) Bp) (nsm (sgK g s m) (rdPt (pubW g s))) := by
  have e : nsm (sgS g s m) Bp = nsm (sgK g s m * vB (secL (g s)) + sgR g s m) Bp := by
    show nsm (maV (sgK g s m) (vB (secL (g s))) (sgR g s m)) Bp = _
    unfold maV
    exact nsm_red _
  rw [e, (pubW_pt hk s).2, ← nsm_mul Bp_on, ← nsm_add Bp_on]
  congr 1
  rw [Nat.mul_comm, Nat.add_comm]
theorem pub_small : smR (pubW g s) = false := by
  unfold smR
  rw [(pubW_pt hk s).1, (pubW_pt hk s).2, ← nsm_mul Bp_on]
  have h := sec_clm hk s
  rw [decide_eq_false (ord_q (q_mul h.nd (by decide)))]
  rfl
end
end Go.Eng.G

namespace Go.Eng.G
open Go Go.Eng Go.Proofs Go.Eng.B
set_option maxRecDepth 100000
set_option maxHeartbeats 1000000
def eSh (args : List SV) : Option (SV × List Prop) := match args with
  | [.sl .u8 b] => some (.b (decide (b.length ≤ 600)), [])
  | _ => none
def H14 (g : List Nat → List Nat) : Ctr := addC 15 (eS512 g) (addC 6 eSh (addC 7 (t0 (.b true)) (H9 g)))
theorem shortG_c (b : List Nat) : Contract Try.prog 6 [.sl .u8 b] (.b (decide (b.length ≤ 600))) := by
  refine contract Try.func6 (body := bodyOf Try.f6) rfl (by kernel_rfl) (by kernel_rfl) rfl ?_
  intro _ w0 S
  exact hold_endw mixed ctr0_ok (unroll := true) (f := 100) (sc := []) (r := (SV.b (Decidable.decide (b.length ≤ 600)))) (ob := []) (sc' := []) (by kernel_rfl) trivial (wkR_of rfl)
theorem cSh : ∀ args res ob, eSh args = some (res, ob) → All ob → Contract Try.prog 6 args res := by
  intro args res ob he hob
  unfold eSh at he
  split at he
  · cases he; exact shortG_c _
  · cases he
theorem cQ512 {g : List Nat → List Nat} (hg : g = sum64) : ∀ args res ob, eS512 g args = some (res, ob) → All ob → Contract Try.prog 15 args res := by
  intro args res ob h hob
  unfold eS512 at h
  split at h
  · cases h; rw [hg]; exact qsum512_c _ hob.1
  · cases h
theorem okH14 {g : List Nat → List Nat} (hg : g = sum64) (hk : HashOk g) : CtrOk Try.prog (H14 g) :=
  addC_ok (addC_ok (addC_ok (okH9 hg hk) (t0_ok awake_c)) cSh) (cQ512 hg)
theorem seedL_ok (m : Nat) : (seedL m).length = 32 ∧ ∀ x ∈ seedL m, x < lim .u8 := by
  refine ⟨by unfold seedL; rw [List.length_map, List.length_range], fun x hx => ?_⟩
  obtain ⟨i, hi, rfl⟩ := List.mem_map.1 hx
  have hi := List.mem_range.1 hi
  exact Nat.xor_lt_two_pow (n := 8) (Nat.mod_lt _ (by decide)) (by have : 2 ^ 8 = 256 := by decide
                                                                   omega)
theorem mV_pt {k a : List Nat} (hk : vB k < M256) (h : rdB a = true) : mV k a = encP (nsm (vB k) (rdPt a)) := by
  unfold mV
  rw [if_pos h, encR_rep (nsm_on (rd_on h) _) (rep_times (rdP_ok a) (rd_on h) (rd_rep h) hk)]
theorem adV_pt {a b : List Nat} (h : rdB a = true) (h2 : rdB b = true) : adV a b = encP (padd (rdPt a) (rdPt b)) := by
  unfold adV
  rw [h, h2, Bool.and_self, if_pos rfl, encR_rep (padd_on (rd_on h) (rd_on h2)) (rep_radd (rdP_ok a) (rdP_ok b) (rd_on h) (rd_on h2) (rd_rep h) (rd_rep h2))]
theorem mE_ok {a : List Nat} (h : rdB a = true) : mE a = 0 := by unfold mE; rw [if_pos h]
theorem adE_ok {a b : List Nat} (h : rdB a = true) (h2 : rdB b = true) : adE a b = 0 := by unfold adE; rw [h, h2]; rfl
theorem vB_d {x : Nat} (h : x < M256) : vB (dB x) = x := by rw [vB_dB, Nat.mod_eq_of_lt h]
theorem q_M {x : Nat} : x % QQ < M256 := Nat.lt_trans (Nat.mod_lt _ (by decide)) QQ_lt
section
variable (g : List Nat → List Nat) (s m : List Nat)
theorem sig_take : (sigW g s m).take 32 = sgF g s m := List.take_left' (dB_len _)
theorem sig_drop : (sigW g s m).drop 32 = dB (sgS g s m) := List.drop_left' (dB_len _)
theorem sig_len : (sigW g s m).length = 64 := by unfold sigW; rw [List.length_append]; show (dB _).length + (dB _).length = 64; rw [dB_len, dB_len]
theorem pub_len : (pubW g s).length = 32 := dB_len _
theorem sgF_len : (sgF g s m).length = 32 := dB_len _
end
theorem eqn_v {g : List Nat → List Nat} (hk : HashOk g) (s m : List Nat) :
    mV (dB (sgS g s m)) baseL = adV (sgF g s m) (dB (mV (dB (sgK g s m)) (pubW g s))) ∧ mE (pubW g s) = 0 ∧ adE (sgF g s m) (dB (mV (dB (sgK g s m)) (pubW g s))) = 0 := by
  obtain ⟨p1, p2⟩ := pubW_pt hk s
  obtain ⟨f1, f2⟩ := sgF_pt (g := g) s m
  have oP := rd_on p1
  have eS : vB (dB (sgS g s m)) = sgS g s m := vB_d q_M
  have eK : vB (dB (sgK g s m)) = sgK g s m := vB_d q_M
  have hm : mV (dB (sgK g s m)) (pubW g s) = encP (nsm (sgK g s m) (rdPt (pubW g s))) := by rw [mV_pt (by rw [eK]; exact q_M) p1, eK]
  obtain ⟨d1, d2⟩ := enc_dec (nsm_on oP (sgK g s m))
  rw [hm]
  refine ⟨?_, mE_ok p1, adE_ok f1 d1⟩
  rw [mV_pt (by rw [eS]; exact q_M) base_ok, eS, adV_pt f1 d1, d2, f2]
  exact congrArg encP (sg_eqn hk s m)
theorem ob_eqn {g : List Nat → List Nat} (hk : HashOk g) (s m : List Nat) (hs : s.length = 32) (hm : m.length ≤ 600) : All
    [(!decide (m.length ≤ 600)) = false, m.length ≤ 900000, (erI s != 0) = false,
      (erI s != 0) = false, ((pbI g s).length != 32) = false,
      ((sgI g s m).length != 64) = false, 0 ≤ 32, 32 ≤ (sgI g s m).length,
      slenD (SV.sl IntKind.u8 (List.drop 0 (List.take 32 (sgI g s m)))) * 1 ≤ 140737488355328,
      slenD (SV.sl IntKind.u8 (List.drop 0 (List.take 32 (sgI g s m)) ++ pbI g s)) * 1 ≤ 140737488355328,
      slenD (SV.sl IntKind.u8 (List.drop 0 (List.take 32 (sgI g s m)) ++ pbI g s ++ m)) * 1 ≤ 140737488355328,
      (List.drop 0 (List.take 32 (sgI g s m)) ++ pbI g s ++ m).length ≤ 1000000,
      32 ≤ (sgI g s m).length, (sgI g s m).length ≤ (sgI g s m).length,
      32 ≤ (List.drop 32 (List.take (sgI g s m).length (sgI g s m))).length,
      32 ≤ (pbI g s).length, 0 ≤ 32, 32 ≤ (sgI g s m).length,
      32 ≤ (List.drop 0 (List.take 32 (sgI g s m))).length,
      (wE (g (List.drop 0 (List.take 32 (sgI g s m)) ++ pbI g s ++ m)) == 0) = true,
      true = true, (mE (List.take 32 (pbI g s)) == 0) = true,
      (adE (List.take 32 (List.drop 0 (List.take 32 (sgI g s m))))
            (dB (mV (dB (wV (g (List.drop 0 (List.take 32 (sgI g s m)) ++ pbI g s ++ m)))) (List.take 32 (pbI g s)))) == 0) = true,
      (dB (mV (List.take 32 (List.drop 32 (List.take (sgI g s m).length (sgI g s m)))) baseL) ==
          dB (adV (List.take 32 (List.drop 0 (List.take 32 (sgI g s m))))
              (dB (mV (dB (wV (g (List.drop 0 (List.take 32 (sgI g s m)) ++ pbI g s ++ m)))) (List.take 32 (pbI g s)))))) = true] := by
  have l1 := sgF_len g s m
  have l2 := pub_len g s
  have l3 := sig_len g s m
  have hw : (g (sgF g s m ++ pubW g s ++ m)).length ≤ 64 := Nat.le_of_eq (hk.len _)
  have eW : wV (g (sgF g s m ++ pubW g s ++ m)) = sgK g s m := by unfold wV; rw [if_pos hw]; rfl
  have eE : wE (g (sgF g s m ++ pubW g s ++ m)) = 0 := by unfold wE; rw [if_pos hw]
  obtain ⟨v1, v2, v3⟩ := eqn_v hk s m
  rw [sgI_p hs, pbI_p hs, erI_p hs, List.drop_zero, sig_take, List.take_length, sig_drop, take32 l1, take32 l2, take32 (dB_len _), eW, eE, v2, v3, v1]
  have d1 : slenD (SV.sl IntKind.u8 (sgF g s m)) = 32 := l1
  have d2 : slenD (SV.sl IntKind.u8 (sgF g s m ++ pubW g s)) = 64 := by show (sgF g s m ++ pubW g s).length = 64; rw [List.length_append, l1, l2]
  have d3' : (sgF g s m ++ pubW g s ++ m).length = 64 + m.length := by rw [List.length_append, List.length_append, l1, l2]
  have d3 : slenD (SV.sl IntKind.u8 (sgF g s m ++ pubW g s ++ m)) = 64 + m.length := d3'
  rw [d1, d2, d3, d3', l1, l2, l3, dB_len]
  exact ⟨by rw [decide_eq_true hm]; rfl, by omega, rfl, rfl, rfl, rfl, by omega, by omega, by omega, by omega, by omega, by omega, by omega, by omega, by omega, by omega, by omega, by omega, by omega, rfl, rfl, rfl, rfl, beq_self_eq_true _, trivial⟩
theorem EdwardsEquation_g {g : List Nat → List Nat} (hg : g = sum64) (hk : HashOk g) (n : Int) (m : List Nat) : Contract Try.prog 4 [.i .i64 n, .sl .u8 m] (.b true) := by
  refine contract Try.func4 (body := bodyOf Try.f4) rfl (by kernel_rfl) (by kernel_rfl) rfl ?_
  intro _ w0 S
  by_cases hm : m.length ≤ 600
  · refine hold_endw mixed (okH14 hg hk) (unroll := true) (f := 400) (sc := [false, false, false, false, false, true, true, true, true, true]) (r := (SV.b Bool.true)) (ob := [(!Decidable.decide (m.length ≤ 600)) = Bool.false, m.length ≤ 900000, (Go.Eng.G.erI (Go.Eng.G.seedL (Go.Eng.G.u64 n)) != (0 : Int)) = Bool.false, (Go.Eng.G.erI (Go.Eng.G.seedL (Go.Eng.G.u64 n)) != (0 : Int)) = Bool.false, ((Go.Eng.G.pbI g (Go.Eng.G.seedL (Go.Eng.G.u64 n))).length != 32) = Bool.false, ((Go.Eng.G.sgI g (Go.Eng.G.seedL (Go.Eng.G.u64 n)) m).length != 64) = Bool.false, 0 ≤ 32, 32 ≤ (Go.Eng.G.sgI g (Go.Eng.G.seedL (Go.Eng.G.u64 n)) m).length, Go.Eng.slenD (SV.sl IntKind.u8 (List.drop 0 (List.take 32 (Go.Eng.G.sgI g (Go.Eng.G.seedL (Go.Eng.G.u64 n)) m)))) * 1 ≤ 140737488355328, Go.Eng.slenD (SV.sl IntKind.u8 (List.drop 0 (List.take 32 (Go.Eng.G.sgI g (Go.Eng.G.seedL (Go.Eng.G.u64 n)) m)) ++ Go.Eng.G.pbI g (Go.Eng.G.seedL (Go.Eng.G.u64 n)))) * 1 ≤ 140737488355328, Go.Eng.slenD (SV.sl IntKind.u8 (List.drop 0 (List.take 32 (Go.Eng.G.sgI g (Go.Eng.G.seedL (Go.Eng.G.u64 n)) m)) ++ Go.Eng.G.pbI g (Go.Eng.G.seedL (Go.Eng.G.u64 n)) ++ m)) * 1 ≤ 140737488355328, (List.drop 0 (List.take 32 (Go.Eng.G.sgI g (Go.Eng.G.seedL (Go.Eng.G.u64 n)) m)) ++ Go.Eng.G.pbI g (Go.Eng.G.seedL (Go.Eng.G.u64 n)) ++ m).length ≤ 1000000, 32 ≤ (Go.Eng.G.sgI g (Go.Eng.G.seedL (Go.Eng.G.u64 n)) m).length, (Go.Eng.G.sgI g (Go.Eng.G.seedL (Go.Eng.G.u64 n)) m).length ≤ (Go.Eng.G.sgI g (Go.Eng.G.seedL (Go.Eng.G.u64 n)) m).length, 32 ≤ (List.drop 32 (List.take (Go.Eng.G.sgI g (Go.Eng.G.seedL (Go.Eng.G.u64 n)) m).length (Go.Eng.G.sgI g (Go.Eng.G.seedL (Go.Eng.G.u64 n)) m))).length, 32 ≤ (Go.Eng.G.pbI g (Go.Eng.G.seedL (Go.Eng.G.u64 n))).length, 0 ≤ 32, 32 ≤ (Go.Eng.G.sgI g (Go.Eng.G.seedL (Go.Eng.G.u64 n)) m).length, 32 ≤ (List.drop 0 (List.take 32 (Go.Eng.G.sgI g (Go.Eng.G.seedL (Go.Eng.G.u64 n)) m))).length, (Go.Eng.G.wE (g (List.drop 0 (List.take 32 (Go.Eng.G.sgI g (Go.Eng.G.seedL (Go.Eng.G.u64 n)) m)) ++ Go.Eng.G.pbI g (Go.Eng.G.seedL (Go.Eng.G.u64 n)) ++ m)) == (0 : Int)) = Bool.true, Bool.true = Bool.true, (Go.Eng.G.mE (List.take 32 (Go.Eng.G.pbI g (Go.Eng.G.seedL (Go.Eng.G.u64 n)))) == (0 : Int)) = Bool.true, (Go.Eng.G.adE (List.take 32 (List.drop 0 (List.take 32 (Go.Eng.G.sgI g (Go.Eng.G.seedL (Go.Eng.G.u64 n)) m)))) (Go.Eng.dB (Go.Eng.G.mV (Go.Eng.dB (Go.Eng.G.wV (g (List.drop 0 (List.take 32 (Go.Eng.G.sgI g (Go.Eng.G.seedL (Go.Eng.G.u64 n)) m)) ++ Go.Eng.G.pbI g (Go.Eng.G.seedL (Go.Eng.G.u64 n)) ++ m)))) (List.take 32 (Go.Eng.G.pbI g (Go.Eng.G.seedL (Go.Eng.G.u64 n)))))) == (0 : Int)) = Bool.true, (Go.Eng.dB (Go.Eng.G.mV (List.take 32 (List.drop 32 (List.take (Go.Eng.G.sgI g (Go.Eng.G.seedL (Go.Eng.G.u64 n)) m).length (Go.Eng.G.sgI g (Go.Eng.G.seedL (Go.Eng.G.u64 n)) m)))) Go.Eng.G.baseL) == Go.Eng.dB (Go.Eng.G.adV (List.take 32 (List.drop 0 (List.take 32 (Go.Eng.G.sgI g (Go.Eng.G.seedL (Go.Eng.G.u64 n)) m)))) (Go.Eng.dB (Go.Eng.G.mV (Go.Eng.dB (Go.Eng.G.wV (g (List.drop 0 (List.take 32 (Go.Eng.G.sgI g (Go.Eng.G.seedL (Go.Eng.G.u64 n)) m)) ++ Go.Eng.G.pbI g (Go.Eng.G.seedL (Go.Eng.G.u64 n)) ++ m)))) (List.take 32 (Go.Eng.G.pbI g (Go.Eng.G.seedL (Go.Eng.G.u64 n)))))))) = Bool.true]) (sc' := []) (by kernel_rfl) ?_ ?_
    · exact ob_eqn hk (seedL (u64 n)) m (seedL_ok _).1 hm
    · exact wkR_refl _
  · refine hold_endw mixed (okH14 hg hk) (unroll := true) (f := 100) (sc := [true]) (r := (SV.b Bool.true)) (ob := [(!Decidable.decide (m.length ≤ 600)) = Bool.true]) (sc' := []) (by kernel_rfl) ?_ ?_
    · repeat' first | exact True.intro | exact decide_eq_true rfl | (simp [hm]; done) | refine ⟨?_, ?_⟩
    · exact wkR_refl _
theorem EdwardsEquation_c (n : Int) (m : List Nat) : Contract Try.prog 4 [.i .i64 n, .sl .u8 m] (.b true) := EdwardsEquation_g rfl sum64_ok n m
end Go.Eng.G

namespace Go.Eng.G
open Go Go.Eng Go.Proofs Go.Eng.B
set_option maxRecDepth 100000
set_option maxHeartbeats 1000000
def eBe (args : List SV) : Option (SV × List Prop) := match args with
  | [.sl .u8 a, .sl .u8 b] => some (.b (a == b), [])
  | _ => none
def verQ (g : List Nat → List Nat) (p m s : List Nat) : Bool :=
  dB (encR (radd dN (rtm dN (vB (s.drop 32)) (rdP baseL) 256 gO) (rtm dN (wideV (g (s.take 32 ++ p ++ m))) (rneg (rdP p)) 256 gO))) == s.take 32
def verW (g : List Nat → List Nat) (p m s : List Nat) : Bool := decide (p.length = 32) && (decide (s.length = 64) && (rdB p && (!smR p && (decide (vB (s.drop 32) < QQ) && verQ g p m s))))
def eVer (g : List Nat → List Nat) (args : List SV) : Option (SV × List Prop) := match args with
  | [.sl .u8 p, .sl .u8 m, .sl .u8 s] => some (.b (verW g p m s), [m.length ≤ 900000])
  | _ => none
def H11a (g : List Nat → List Nat) : Ctr := addC 39 eBe (H9c g)
theorem be_c (a b : List Nat) : Contract Try.prog 39 [.sl .u8 a, .sl .u8 b] (.b (a == b)) := by
  refine contract Try.func39 (body := bodyOf Try.f39) rfl (by kernel_rfl) (by kernel_rfl) rfl ?_
  intro _ w0 S
  exact hold_end mixed ctr0_ok (unroll := true) (f := 100) (sc := []) (r := (SV.b (a == b))) (ob := []) (sc' := []) (by kernel_rfl) trivial rfl
theorem cBe : ∀ args res ob, eBe args = some (res, ob) → All ob → Contract Try.prog 39 args res := by
  intro args res ob he hob
  unfold eBe at he
  split at he
  · cases he; exact be_c _ _
  · cases he
theorem okH11a {g : List Nat → List Nat} (hg : g = sum64) (hk : HashOk g) : CtrOk Try.prog (H11a g) := addC_ok (okH9c hg hk) cBe
theorem QQ_lit' : 7237005577332262213973186563042994240857116359379907606001950938285454250989 = QQ := by decide +kernel
theorem cVer {g : List Nat → List Nat} (hg : g = sum64) (hk : HashOk g) : ∀ args res ob, eVer g args = some (res, ob) → All ob → Contract Try.prog 13 args res := by
  intro args res ob h hob
  unfold eVer at h
  split at h
  · rename_i p m s
    cases h
    refine contract Try.func13 (body := bodyOf Try.f13) rfl (by kernel_rfl) (by kernel_rfl) rfl ?_
    rintro ⟨hp2, hm2, hs2, _⟩ w0 S
    have hm := hob.1
    by_cases hp : p.length = 32
    · by_cases hs : s.length = 64
      · have hS : List.take 32 (List.drop 32 (List.take s.length s)) = List.drop 32 s := by
          rw [List.take_length, List.take_of_length_le (by rw [List.length_drop]; omega)]
        have hx : (List.drop 32 s).length = 32 := by rw [List.length_drop]; omega
        have lS : vB (List.drop 32 s) < M256 := vB_lt ⟨hx, fun x h => hs2.2 x (List.mem_of_mem_drop h)⟩
        have lP := maskL_lt (u := p) ⟨hp, hp2.2⟩
        have lB : dY baseL < M256 := maskL_lt ⟨rfl, by decide⟩
        have b0 := decP_ok lB DP
        have a0 := decP_ok lP DP
        have o1 : (p.length != 32) = false := by rw [hp]; rfl
        have o2 : (s.length != 64) = false := by rw [hs]; rfl
        have o3 : 32 ≤ (List.drop 32 (List.take s.length s)).length := by rw [List.take_length]; omega
        have tp : List.take 32 p = p := take32 hp
        cases hb : rdB p with
        | true =>
          have e8 : smallV W2 (decP DP p) = smR p := by rw [small_pt lP hb]; unfold smR; rw [hb, Bool.true_and]
          cases hsm : smR p with
          | false =>
            by_cases hq : vB (List.drop 32 s) < QQ
            · refine hold_endw mixed (okH11a hg hk) (unroll := true) (f := 400) (sc := [false, false, false, false, false]) (r := (SV.b (Go.Eng.dB (Go.Eng.G.encV (Go.Eng.G.p4 (Go.Eng.dF (Go.Eng.G.gadd (Go.Eng.vF (Go.Eng.dF (Go.Eng.addF Go.Eng.G.DP Go.Eng.G.DP))) (Go.Eng.G.p4 (Go.Eng.dF (Go.Eng.G.gtm (Go.Eng.vF (Go.Eng.dF (Go.Eng.addF Go.Eng.G.DP Go.Eng.G.DP))) (Go.Eng.vF (Go.Eng.dF (Go.Eng.vB (List.take 32 (List.drop (Ix.c (Int.toNat (32 : Int))).n (List.take s.length s)))))) (Go.Eng.G.p4 (Go.Eng.dF (Go.Eng.G.decP (Go.Eng.vF (Go.Eng.dF Go.Eng.G.DP)) Go.Eng.G.baseL).x) (Go.Eng.dF (Go.Eng.G.decP (Go.Eng.vF (Go.Eng.dF Go.Eng.G.DP)) Go.Eng.G.baseL).y) (Go.Eng.dF (Go.Eng.G.decP (Go.Eng.vF (Go.Eng.dF Go.Eng.G.DP)) Go.Eng.G.baseL).z) (Go.Eng.dF (Go.Eng.G.decP (Go.Eng.vF (Go.Eng.dF Go.Eng.G.DP)) Go.Eng.G.baseL).t)) 256 Go.Eng.G.gO).x) (Go.Eng.dF (Go.Eng.G.gtm (Go.Eng.vF (Go.Eng.dF (Go.Eng.addF Go.Eng.G.DP Go.Eng.G.DP))) (Go.Eng.vF (Go.Eng.dF (Go.Eng.vB (List.take 32 (List.drop (Ix.c (Int.toNat (32 : Int))).n (List.take s.length s)))))) (Go.Eng.G.p4 (Go.Eng.dF (Go.Eng.G.decP (Go.Eng.vF (Go.Eng.dF Go.Eng.G.DP)) Go.Eng.G.baseL).x) (Go.Eng.dF (Go.Eng.G.decP (Go.Eng.vF (Go.Eng.dF Go.Eng.G.DP)) Go.Eng.G.baseL).y) (Go.Eng.dF (Go.Eng.G.decP (Go.Eng.vF (Go.Eng.dF Go.Eng.G.DP)) Go.Eng.G.baseL).z) (Go.Eng.dF (Go.Eng.G.decP (Go.Eng.vF (Go.Eng.dF Go.Eng.G.DP)) Go.Eng.G.baseL).t)) 256 Go.Eng.G.gO).y) (Go.Eng.dF (Go.Eng.G.gtm (Go.Eng.vF (Go.Eng.dF (Go.Eng.addF Go.Eng.G.DP Go.Eng.G.DP))) (Go.Eng.vF (Go.Eng.dF (Go.Eng.vB (List.take 32 (List.drop (Ix.c (Int.toNat (32 : Int))).n (List.take s.length s)))))) (Go.Eng.G.p4 (Go.Eng.dF (Go.Eng.G.decP (Go.Eng.vF (Go.Eng.dF Go.Eng.G.DP)) Go.Eng.G.baseL).x) (Go.Eng.dF (Go.Eng.G.decP (Go.Eng.vF (Go.Eng.dF Go.Eng.G.DP)) Go.Eng.G.baseL).y) (Go.Eng.dF (Go.Eng.G.decP (Go.Eng.vF (Go.Eng.dF Go.Eng.G.DP)) Go.Eng.G.baseL).z) (Go.Eng.dF (Go.Eng.G.decP (Go.Eng.vF (Go.Eng.dF Go.Eng.G.DP)) Go.Eng.G.baseL).t)) 256 Go.Eng.G.gO).z) (Go.Eng.dF (Go.Eng.G.gtm (Go.Eng.vF (Go.Eng.dF (Go.Eng.addF Go.Eng.G.DP Go.Eng.G.DP))) (Go.Eng.vF (Go.Eng.dF (Go.Eng.vB (List.take 32 (List.drop (Ix.c (Int.toNat (32 : Int))).n (List.take s.length s)))))) (Go.Eng.G.p4 (Go.Eng.dF (Go.Eng.G.decP (Go.Eng.vF (Go.Eng.dF Go.Eng.G.DP)) Go.Eng.G.baseL).x) (Go.Eng.dF (Go.Eng.G.decP (Go.Eng.vF (Go.Eng.dF Go.Eng.G.DP)) Go.Eng.G.baseL).y) (Go.Eng.dF (Go.Eng.G.decP (Go.Eng.vF (Go.Eng.dF Go.Eng.G.DP)) Go.Eng.G.baseL).z) (Go.Eng.dF (Go.Eng.G.decP (Go.Eng.vF (Go.Eng.dF Go.Eng.G.DP)) Go.Eng.G.baseL).t)) 256 Go.Eng.G.gO).t)) (Go.Eng.G.p4 (Go.Eng.dF (Go.Eng.G.gtm (Go.Eng.vF (Go.Eng.dF (Go.Eng.addF Go.Eng.G.DP Go.Eng.G.DP))) (Go.Eng.vF (Go.Eng.dF (Go.Eng.G.wideV (g (List.drop 0 (List.take (Ix.c (Int.toNat (32 : Int))).n s) ++ p ++ m))))) (Go.Eng.G.p4 (Go.Eng.dF (Go.Eng.G.gneg (Go.Eng.G.p4 (Go.Eng.dF (Go.Eng.G.decP (Go.Eng.vF (Go.Eng.dF Go.Eng.G.DP)) (List.take 32 p)).x) (Go.Eng.dF (Go.Eng.G.decP (Go.Eng.vF (Go.Eng.dF Go.Eng.G.DP)) (List.take 32 p)).y) (Go.Eng.dF (Go.Eng.G.decP (Go.Eng.vF (Go.Eng.dF Go.Eng.G.DP)) (List.take 32 p)).z) (Go.Eng.dF (Go.Eng.G.decP (Go.Eng.vF (Go.Eng.dF Go.Eng.G.DP)) (List.take 32 p)).t))).x) (Go.Eng.dF (Go.Eng.G.gneg (Go.Eng.G.p4 (Go.Eng.dF (Go.Eng.G.decP (Go.Eng.vF (Go.Eng.dF Go.Eng.G.DP)) (List.take 32 p)).x) (Go.Eng.dF (Go.Eng.G.decP (Go.Eng.vF (Go.Eng.dF Go.Eng.G.DP)) (List.take 32 p)).y) (Go.Eng.dF (Go.Eng.G.decP (Go.Eng.vF (Go.Eng.dF Go.Eng.G.DP)) (List.take 32 p)).z) (Go.Eng.dF (Go.Eng.G.decP (Go.Eng.vF (Go.Eng.dF Go.Eng.G.DP)) (List.take 32 p)).t))).y) (Go.Eng.dF (Go.Eng.G.gneg (Go.Eng.G.p4 (Go.Eng.dF (Go.Eng.G.decP (Go.Eng.vF (Go.Eng.dF Go.Eng.G.DP)) (List.take 32 p)).x) (Go.Eng.dF (Go.Eng.G.decP (Go.Eng.vF (Go.Eng.dF Go.Eng.G.DP)) (List.take 32 p)).y) (Go.Eng.dF (Go.Eng.G.decP (Go.Eng.vF (Go.Eng.dF Go.Eng.G.DP)) (List.take 32 p)).z) (Go.Eng.dF (Go.Eng.G.decP (Go.Eng.vF (Go.Eng.dF Go.Eng.G.DP)) (List.take 32 p)).t))).z) (Go.Eng.dF (Go.Eng.G.gneg (Go.Eng.G.p4 (Go.Eng.dF (Go.Eng.G.decP (Go.Eng.vF (Go.Eng.dF Go.Eng.G.DP)) (List.take 32 p)).x) (Go.Eng.dF (Go.Eng.G.decP (Go.Eng.vF (Go.Eng.dF Go.Eng.G.DP)) (List.take 32 p)).y) (Go.Eng.dF (Go.Eng.G.decP (Go.Eng.vF (Go.Eng.dF Go.Eng.G.DP)) (List.take 32 p)).z) (Go.Eng.dF (Go.Eng.G.decP (Go.Eng.vF (Go.Eng.dF Go.Eng.G.DP)) (List.take 32 p)).t))).t)) 256 Go.Eng.G.gO).x) (Go.Eng.dF (Go.Eng.G.gtm (Go.Eng.vF (Go.Eng.dF (Go.Eng.addF Go.Eng.G.DP Go.Eng.G.DP))) (Go.Eng.vF (Go.Eng.dF (Go.Eng.G.wideV (g (List.drop 0 (List.take (Ix.c (Int.toNat (32 : Int))).n s) ++ p ++ m))))) (Go.Eng.G.p4 (Go.Eng.dF (Go.Eng.G.gneg (Go.Eng.G.p4 (Go.Eng.dF (Go.Eng.G.decP (Go.Eng.vF (Go.Eng.dF Go.Eng.G.DP)) (List.take 32 p)).x) (Go.Eng.dF (Go.Eng.G.decP (Go.Eng.vF (Go.Eng.dF Go.Eng.G.DP)) (List.take 32 p)).y) (Go.Eng.dF (Go.Eng.G.decP (Go.Eng.vF (Go.Eng.dF Go.Eng.G.DP)) (List.take 32 p)).z) (Go.Eng.dF (Go.Eng.G.decP (Go.Eng.vF (Go.Eng.dF Go.Eng.G.DP)) (List.take 32 p)).t))).x) (Go.Eng.dF (Go.Eng.G.gneg (Go.Eng.G.p4 (Go.Eng.dF (Go.Eng.G.decP (Go.Eng.vF (Go.Eng.dF Go.Eng.G.DP)) (List.take 32 p)).x) (Go.Eng.dF (Go.Eng.G.decP (Go.Eng.vF (Go.Eng.dF Go.Eng.G.DP)) (List.take 32 p)).y) (Go.Eng.dF (Go.Eng.G.decP (Go.Eng.vF (Go.Eng.dF Go.Eng.G.DP)) (List.take 32 p)).z) (Go.Eng.dF (Go.Eng.G.decP (Go.Eng.vF (Go.Eng.dF Go.Eng.G.DP)) (List.take 32 p)).t))).y) (Go.Eng.dF (Go.Eng.G.gneg (Go.Eng.G.p4 (Go.Eng.dF (Go.Eng.G.decP (Go.Eng.vF (Go.Eng.dF Go.Eng.G.DP)) (List.take 32 p)).x) (Go.Eng.dF (Go.Eng.G.decP (Go.Eng.vF (Go.Eng.dF Go.Eng.G.DP)) (List.take 32 p)).y) (Go.Eng.dF (Go.Eng.G.decP (Go.Eng.vF (Go.Eng.dF Go.Eng.G.DP)) (List.take 32 p)).z) (Go.Eng.dF (Go.Eng.G.decP (Go.Eng.vF (Go.Eng.dF Go.Eng.G.DP)) (List.take 32 p)).t))).z) (Go.Eng.dF (Go.Eng.G.gneg (Go.Eng.G.p4 (Go.Eng.dF (Go.Eng.G.decP (Go.Eng.vF (Go.Eng.dF Go.Eng.G.DP)) (List.take 32 p)).x) (Go.Eng.dF (Go.Eng.G.decP (Go.Eng.vF (Go.Eng.dF Go.Eng.G.DP)) (List.take 32 p)).y) (Go.Eng.dF (Go.Eng.G.decP (Go.Eng.vF (Go.Eng.dF Go.Eng.G.DP)) (List.take 32 p)).z) (Go.Eng.dF (Go.Eng.G.decP (Go.Eng.vF (Go.Eng.dF Go.Eng.G.DP)) (List.take 32 p)).t))).t)) 256 Go.Eng.G.gO).y) (Go.Eng.dF (Go.Eng.G.gtm (Go.Eng.vF (Go.Eng.dF (Go.Eng.addF Go.Eng.G.DP Go.Eng.G.DP))) (Go.Eng.vF (Go.Eng.dF (Go.Eng.G.wideV (g (List.drop 0 (List.take (Ix.c (Int.toNat (32 : Int))).n s) ++ p ++ m))))) (Go.Eng.G.p4 (Go.Eng.dF (Go.Eng.G.gneg (Go.Eng.G.p4 (Go.Eng.dF (Go.Eng.G.decP (Go.Eng.vF (Go.Eng.dF Go.Eng.G.DP)) (List.take 32 p)).x) (Go.Eng.dF (Go.Eng.G.decP (Go.Eng.vF (Go.Eng.dF Go.Eng.G.DP)) (List.take 32 p)).y) (Go.Eng.dF (Go.Eng.G.decP (Go.Eng.vF (Go.Eng.dF Go.Eng.G.DP)) (List.take 32 p)).z) (Go.Eng.dF (Go.Eng.G.decP (Go.Eng.vF (Go.Eng.dF Go.Eng.G.DP)) (List.take 32 p)).t))).x) (Go.Eng.dF (Go.Eng.G.gneg (Go.Eng.G.p4 (Go.Eng.dF (Go.Eng.G.decP (Go.Eng.vF (Go.Eng.dF Go.Eng.G.DP)) (List.take 32 p)).x) (Go.Eng.dF (Go.Eng.G.decP (Go.Eng.vF (Go.Eng.dF Go.Eng.G.DP)) (List.take 32 p)).y) (Go.Eng.dF (Go.Eng.G.decP (Go.Eng.vF (Go.Eng.dF Go.Eng.G.DP)) (List.take 32 p)).z) (Go.Eng.dF (Go.Eng.G.decP (Go.Eng.vF (Go.Eng.dF Go.Eng.G.DP)) (List.take 32 p)).t))).y) (Go.Eng.dF (Go.Eng.G.gneg (Go.Eng.G.p4 (Go.Eng.dF (Go.Eng.G.decP (Go.Eng.vF (Go.Eng.dF Go.Eng.G.DP)) (List.take 32 p)).x) (Go.Eng.dF (Go.Eng.G.decP (Go.Eng.vF (Go.Eng.dF Go.Eng.G.DP)) (List.take 32 p)).y) (Go.Eng.dF (Go.Eng.G.decP (Go.Eng.vF (Go.Eng.dF Go.Eng.G.DP)) (List.take 32 p)).z) (Go.Eng.dF (Go.Eng.G.decP (Go.Eng.vF (Go.Eng.dF Go.Eng.G.DP)) (List.take 32 p)).t))).z) (Go.Eng.dF (Go.Eng.G.gneg (Go.Eng.G.p4 (Go.Eng.dF (Go.Eng.G.decP (Go.Eng.vF (Go.Eng.dF Go.Eng.G.DP)) (List.take 32 p)).x) (Go.Eng.dF (Go.Eng.G.decP (Go.Eng.vF (Go.Eng.dF Go.Eng.G.DP)) (List.take 32 p)).y) (Go.Eng.dF (Go.Eng.G.decP (Go.Eng.vF (Go.Eng.dF Go.Eng.G.DP)) (List.take 32 p)).z) (Go.Eng.dF (Go.Eng.G.decP (Go.Eng.vF (Go.Eng.dF Go.Eng.G.DP)) (List.take 32 p)).t))).t)) 256 Go.Eng.G.gO).z) (Go.Eng.dF (Go.Eng.G.gtm (Go.Eng.vF (Go.Eng.dF (Go.Eng.addF Go.Eng.G.DP Go.Eng.G.DP))) (Go.Eng.vF (Go.Eng.dF (Go.Eng.G.wideV (g (List.drop 0 (List.take (Ix.c (Int.toNat (32 : Int))).n s) ++ p ++ m))))) (Go.Eng.G.p4 (Go.Eng.dF (Go.Eng.G.gneg (Go.Eng.G.p4 (Go.Eng.dF (Go.Eng.G.decP (Go.Eng.vF (Go.Eng.dF Go.Eng.G.DP)) (List.take 32 p)).x) (Go.Eng.dF (Go.Eng.G.decP (Go.Eng.vF (Go.Eng.dF Go.Eng.G.DP)) (List.take 32 p)).y) (Go.Eng.dF (Go.Eng.G.decP (Go.Eng.vF (Go.Eng.dF Go.Eng.G.DP)) (List.take 32 p)).z) (Go.Eng.dF (Go.Eng.G.decP (Go.Eng.vF (Go.Eng.dF Go.Eng.G.DP)) (List.take 32 p)).t))).x) (Go.Eng.dF (Go.Eng.G.gneg (Go.Eng.G.p4 (Go.Eng.dF (Go.Eng.G.decP (Go.Eng.vF (Go.Eng.dF Go.Eng.G.DP)) (List.take 32 p)).x) (Go.Eng.dF (Go.Eng.G.decP (Go.Eng.vF (Go.Eng.dF Go.Eng.G.DP)) (List.take 32 p)).y) (Go.Eng.dF (Go.Eng.G.decP (Go.Eng.vF (Go.Eng.dF Go.Eng.G.DP)) (List.take 32 p)).z) (Go.Eng.dF (Go.Eng.G.decP (Go.Eng.vF (Go.Eng.dF Go.Eng.G.DP)) (List.take 32 p)).t))).y) (Go.Eng.dF (Go.Eng.G.gneg (Go.Eng.G.p4 (Go.Eng.dF (Go.Eng.G.decP (Go.Eng.vF (Go.Eng.dF Go.Eng.G.DP)) (List.take 32 p)).x) (Go.Eng.dF (Go.Eng.G.decP (Go.Eng.vF (Go.Eng.dF Go.Eng.G.DP)) (List.take 32 p)).y) (Go.Eng.dF (Go.Eng.G.decP (Go.Eng.vF (Go.Eng.dF Go.Eng.G.DP)) (List.take 32 p)).z) (Go.Eng.dF (Go.Eng.G.decP (Go.Eng.vF (Go.Eng.dF Go.Eng.G.DP)) (List.take 32 p)).t))).z) (Go.Eng.dF (Go.Eng.G.gneg (Go.Eng.G.p4 (Go.Eng.dF (Go.Eng.G.decP (Go.Eng.vF (Go.Eng.dF Go.Eng.G.DP)) (List.take 32 p)).x) (Go.Eng.dF (Go.Eng.G.decP (Go.Eng.vF (Go.Eng.dF Go.Eng.G.DP)) (List.take 32 p)).y) (Go.Eng.dF (Go.Eng.G.decP (Go.Eng.vF (Go.Eng.dF Go.Eng.G.DP)) (List.take 32 p)).z) (Go.Eng.dF (Go.Eng.G.decP (Go.Eng.vF (Go.Eng.dF Go.Eng.G.DP)) (List.take 32 p)).t))).t)) 256 Go.Eng.G.gO).t))).x) (Go.Eng.dF (Go.Eng.G.gadd (Go.Eng.vF (Go.Eng.dF (Go.Eng.addF Go.Eng.G.DP Go.Eng.G.DP))) (Go.Eng.G.p4 (Go.Eng.dF (Go.Eng.G.gtm (Go.Eng.vF (Go.Eng.dF (Go.Eng.addF Go.Eng.G.DP Go.Eng.G.DP))) (Go.Eng.vF (Go.Eng.dF (Go.Eng.vB (List.take 32 (List.drop (Ix.c (Int.toNat (32 : Int))).n (List.take s.length s)))))) (Go.Eng.G.p4 (Go.Eng.dF (Go.Eng.G.decP (Go.Eng.vF (Go.Eng.dF Go.Eng.G.DP)) Go.Eng.G.baseL).x) (Go.Eng.dF (Go.Eng.G.decP (Go.Eng.vF (Go.Eng.dF Go.Eng.G.DP)) Go.Eng.G.baseL).y) (Go.Eng.dF (Go.Eng.G.decP (Go.Eng.vF (Go.Eng.dF Go.Eng.G.DP)) Go.Eng.G.baseL).z) (Go.Eng.dF (Go.Eng.G.decP (Go.Eng.vF (Go.Eng.dF Go.Eng.G.DP)) Go.Eng.G.baseL).t)) 256 Go.Eng.G.gO).x) (Go.Eng.dF (Go.Eng.G.gtm (Go.Eng.vF (Go.Eng.dF (Go.Eng.addF Go.Eng.G.DP Go.Eng.G.DP))) (Go.Eng.vF (Go.Eng.dF (Go.Eng.vB (List.take 32 (List.drop (Ix.c (Int.toNat (32 : Int))).n (List.take s.length s)))))) (Go.Eng.G.p4 (Go.Eng.dF (Go.Eng.G.decP (Go.Eng.vF (Go.Eng.dF Go.Eng.G.DP)) Go.Eng.G.baseL).x) (Go.Eng.dF (Go.Eng.G.decP (Go.Eng.vF (Go.Eng.dF Go.Eng.G.DP)) Go.Eng.G.baseL).y) (Go.Eng.dF (Go.Eng.G.decP (Go.Eng.vF (Go.Eng.dF Go.Eng.G.DP)) Go.Eng.G.baseL).z) (Go.Eng.dF (Go.Eng.G.decP (Go.Eng.vF (Go.Eng.dF Go.Eng.G.DP)) Go.Eng.G.baseL).t)) 256 Go.Eng.G.gO).y) (Go.Eng.dF (Go.Eng.G.gtm (Go.Eng.vF (Go.Eng.dF (Go.Eng.addF Go.Eng.G.DP Go.Eng.G.DP))) (Go.Eng.vF (Go.Eng.dF (Go.Eng.vB (List.take 32 (List.drop (Ix.c (Int.toNat (32 : Int))).n (List.take s.length s)))))) (Go.Eng.G.p4 (Go.Eng.dF (Go.Eng.G.decP (Go.Eng.vF (Go.Eng.dF Go.Eng.G.DP)) Go.Eng.G.baseL).x) (Go.Eng.dF (Go.Eng.G.decP (Go.Eng.vF (Go.Eng.dF Go.Eng.G.DP)) Go.Eng.G.baseL).y) (Go.Eng.dF (Go.Eng.G.decP (Go.Eng.vF (Go.Eng.dF Go.Eng.G.DP)) Go.Eng.G.baseL).z) (Go.Eng.dF (Go.Eng.G.decP (Go.Eng.vF (Go.Eng.dF Go.Eng.G.DP)) Go.Eng.G.baseL).t)) 256 Go.Eng.G.gO).z) (Go.Eng.dF (Go.Eng.G.gtm (Go.Eng.vF (Go.Eng.dF (Go.Eng.addF Go.Eng.G.DP Go.Eng.G.DP))) (Go.Eng.vF (Go.Eng.dF (Go.Eng.vB (List.take 32 (List.drop (Ix.c (Int.toNat (32 : Int))).n (List.take s.length s)))))) (Go.Eng.G.p4 (Go.Eng.dF (Go.Eng.G.decP (Go.Eng.vF (Go.Eng.dF Go.Eng.G.DP)) Go.Eng.G.baseL).x) (Go.Eng.dF (Go.Eng.G.decP (Go.Eng.vF (Go.Eng.dF Go.Eng.G.DP)) Go.Eng.G.baseL).y) (Go.Eng.dF (Go.Eng.G.decP (Go.Eng.vF (Go.Eng.dF Go.Eng.G.DP)) Go.Eng.G.baseL).z) (Go.Eng.dF (Go.Eng.G.decP (Go.Eng.vF (Go.Eng.dF Go.Eng.G.DP)) Go.Eng.G.baseL).t)) 256 Go.Eng.G.gO).t)) (Go.Eng.G.p4 (Go.Eng.dF (Go.Eng.G.gtm (Go.Eng.vF (Go.Eng.dF (Go.Eng.addF Go.Eng.G.DP Go.Eng.G.DP))) (Go.Eng.vF (Go.Eng.dF (Go.Eng.G.wideV (g (List.drop 0 (List.take (Ix.c (Int.toNat (32 : Int))).n s) ++ p ++ m))))) (Go.Eng.G.p4 (Go.Eng.dF (Go.Eng.G.gneg (Go.Eng.G.p4 (Go.Eng.dF (Go.Eng.G.decP (Go.Eng.vF (Go.Eng.dF Go.Eng.G.DP)) (List.take 32 p)).x) (Go.Eng.dF (Go.Eng.G.decP (Go.Eng.vF (Go.Eng.dF Go.Eng.G.DP)) (List.take 32 p)).y) (Go.Eng.dF (Go.Eng.G.decP (Go.Eng.vF (Go.Eng.dF Go.Eng.G.DP)) (List.take 32 p)).z) (Go.Eng.dF (Go.Eng.G.decP (Go.Eng.vF (Go.Eng.dF Go.Eng.G.DP)) (List.take 32 p)).t))).x) (Go.Eng.dF (Go.Eng.G.gneg (Go.Eng.G.p4 (Go.Eng.dF (Go.Eng.G.decP (Go.Eng.vF (Go.Eng.dF Go.Eng.G.DP)) (List.take 32 p)).x) (Go.Eng.dF (Go.Eng.G.decP (Go.Eng.vF (Go.Eng.dF Go.Eng.G.DP)) (List.take 32 p)).y) (Go.Eng.dF (Go.Eng.G.decP (Go.Eng.vF (Go.Eng.dF Go.Eng.G.DP)) (List.take 32 p)).z) (Go.Eng.dF (Go.Eng.G.decP (Go.Eng.vF (Go.Eng.dF Go.Eng.G.DP)) (List.take 32 p)).t))).y) (Go.Eng.dF (Go.Eng.G.gneg (Go.Eng.G.p4 (Go.Eng.dF (Go.Eng.G.decP (Go.Eng.vF (Go.Eng.dF Go.Eng.G.DP)) (List.take 32 p)).x) (Go.Eng.dF (Go.Eng.G.decP (Go.Eng.vF (Go.Eng.dF Go.Eng.G.DP)) (List.take 32 p)).y) (Go.Eng.dF (Go.Eng.G.decP (Go.Eng.vF (Go.Eng.dF Go.Eng.G.DP)) (List.take 32 p)).z) (Go.Eng.dF (Go.Eng.G.decP (Go.Eng.vF (Go.Eng.dF Go.Eng.G.DP)) (List.take 32 p)).t))).z) (Go.Eng.dF (Go.Eng.G.gneg (Go.Eng.G.p4 (Go.Eng.dF (Go.Eng.G.decP (Go.Eng.vF (Go.Eng.dF Go.Eng.G.DP)) (List.take 32 p)).x) (Go.Eng.dF (Go.Eng.G.decP (Go.Eng.vF (Go.Eng.dF Go.Eng.G.DP)) (List.take 32 p)).y) (Go.Eng.dF (Go.Eng.G.decP (Go.Eng.vF (Go.Eng.dF Go.Eng.G.DP)) (List.take 32 p)).z) (Go.Eng.dF (Go.Eng.G.decP (Go.Eng.vF (Go.Eng.dF Go.Eng.G.DP)) (List.take 32 p)).t))).t)) 256 Go.Eng.G.gO).x) (Go.Eng.dF (Go.Eng.G.gtm (Go.Eng.vF (Go.Eng.dF (Go.Eng.addF Go.Eng.G.DP Go.Eng.G.DP))) (Go.Eng.vF (Go.Eng.dF (Go.Eng.G.wideV (g (List.drop 0 (List.take (Ix.c (Int.toNat (32 : Int))).n s) ++ p ++ m))))) (Go.Eng.G.p4 (Go.Eng.dF (Go.Eng.G.gneg (Go.Eng.G.p4 (Go.Eng.dF (Go.Eng.G.decP (Go.Eng.vF (Go.Eng.dF Go.Eng.G.DP)) (List.take 32 p)).x) (Go.Eng.dF (Go.Eng.G.decP (Go.Eng.vF (Go.Eng.dF Go.Eng.G.DP)) (List.take 32 p)).y) (Go.Eng.dF (Go.Eng.G.decP (Go.Eng.vF (Go.Eng.dF Go.Eng.G.DP)) (List.take 32 p)).z) (Go.Eng.dF (Go.Eng.G.decP (Go.Eng.vF (Go.Eng.dF Go.Eng.G.DP)) (List.take 32 p)).t))).x) (Go.Eng.dF (Go.Eng.G.gneg (Go.Eng.G.p4 (Go.Eng.dF (Go.Eng.G.decP (Go.Eng.vF (Go.Eng.dF Go.Eng.G.DP)) (List.take 32 p)).x) (Go.Eng.dF (Go.Eng.G.decP (Go.Eng.vF (Go.Eng.dF Go.Eng.G.DP)) (List.take 32 p)).y) (Go.Eng.dF (Go.Eng.G.decP (Go.Eng.vF (Go.Eng.dF Go.Eng.G.DP)) (List.take 32 p)).z) (Go.Eng.dF (Go.Eng.G.decP (Go.Eng.vF (Go.Eng.dF Go.Eng.G.DP)) (List.take 32 p)).t))).y) (Go.Eng.dF (Go.Eng.G.gneg (Go.Eng.G.p4 (Go.Eng.dF (Go.Eng.G.decP (Go.Eng.vF (Go.Eng.dF Go.Eng.G.DP)) (List.take 32 p)).x) (Go.Eng.dF (Go.Eng.G.decP (Go.Eng.vF (Go.Eng.dF Go.Eng.G.DP)) (List.take 32 p)).y) (Go.Eng.dF (Go.Eng.G.decP (Go.Eng.vF (Go.Eng.dF Go.Eng.G.DP)) (List.take 32 p)).z) (Go.Eng.dF (Go.Eng.G.decP (Go.Eng.vF (Go.Eng.dF Go.Eng.G.DP)) (List.take 32 p)).t))).z) (Go.Eng.dF (Go.Eng.G.gneg (Go.Eng.G.p4 (Go.Eng.dF (Go.Eng.G.decP (Go.Eng.vF (Go.Eng.dF Go.Eng.G.DP)) (List.take 32 p)).x) (Go.Eng.dF (Go.Eng.G.decP (Go.Eng.vF (Go.Eng.dF Go.Eng.G.DP)) (List.take 32 p)).y) (Go.Eng.dF (Go.Eng.G.decP (Go.Eng.vF (Go.Eng.dF Go.Eng.G.DP)) (List.take 32 p)).z) (Go.Eng.dF (Go.Eng.G.decP (Go.Eng.vF (Go.Eng.dF Go.Eng.G.DP)) (List.take 32 p)).t))).t)) 256 Go.Eng.G.gO).y) (Go.Eng.dF (Go.Eng.G.gtm (Go.Eng.vF (Go.Eng.dF (Go.Eng.addF Go.Eng.G.DP Go.Eng.G.DP))) (Go.Eng.vF (Go.Eng.dF (Go.Eng.G.wideV (g (List.drop 0 (List.take (Ix.c (Int.toNat (32 : Int))).n s) ++ p ++ m))))) (Go.Eng.G.p4 (Go.Eng.dF (Go.Eng.G.gneg (Go.Eng.G.p4 (Go.Eng.dF (Go.Eng.G.decP (Go.Eng.vF (Go.Eng.dF Go.Eng.G.DP)) (List.take 32 p)).x) (Go.Eng.dF (Go.Eng.G.decP (Go.Eng.vF (Go.Eng.dF Go.Eng.G.DP)) (List.take 32 p)).y) (Go.Eng.dF (Go.Eng.G.decP (Go.Eng.vF (Go.Eng.dF Go.Eng.G.DP)) (List.take 32 p)).z) (Go.Eng.dF (Go.Eng.G.decP (Go.Eng.vF (Go.Eng.dF Go.Eng.G.DP)) (List.take 32 p)).t))).x) (Go.Eng.dF (Go.Eng.G.gneg (Go.Eng.G.p4 (Go.Eng.dF (Go.Eng.G.decP (Go.Eng.vF (Go.Eng.dF Go.Eng.G.DP)) (List.take 32 p)).x) (Go.Eng.dF (Go.Eng.G.decP (Go.Eng.vF (Go.Eng.dF Go.Eng.G.DP)) (List.take 32 p)).y) (Go.Eng.dF (Go.Eng.G.decP (Go.Eng.vF (Go.Eng.dF Go.Eng.G.DP)) (List.take 32 p)).z) (Go.Eng.dF (Go.Eng.G.decP (Go.Eng.vF (Go.Eng.dF Go.Eng.G.DP)) (List.take 32 p)).t))).y) (Go.Eng.dF (Go.Eng.G.gneg (Go.Eng.G.p4 (Go.Eng.dF (Go.Eng.G.decP (Go.Eng.vF (Go.Eng.dF Go.Eng.G.DP)) (List.take 32 p)).x) (Go.Eng.dF (Go.Eng.G.decP (Go.Eng.vF (Go.Eng.dF Go.Eng.G.DP)) (List.take 32 p)).y) (Go.Eng.dF (Go.Eng.G.decP (Go.Eng.vF (Go.Eng.dF Go.Eng.G.DP)) (List.take 32 p)).z) (Go.Eng.dF (Go.Eng.G.decP (Go.Eng.vF (Go.Eng.dF Go.Eng.G.DP)) (List.take 32 p)).t))).z) (Go.Eng.dF (Go.Eng.G.gneg (Go.Eng.G.p4 (Go.Eng.dF (Go.Eng.G.decP (Go.Eng.vF (Go.Eng.dF Go.Eng.G.DP)) (List.take 32 p)).x) (Go.Eng.dF (Go.Eng.G.decP (Go.Eng.vF (Go.Eng.dF Go.Eng.G.DP)) (List.take 32 p)).y) (Go.Eng.dF (Go.Eng.G.decP (Go.Eng.vF (Go.Eng.dF Go.Eng.G.DP)) (List.take 32 p)).z) (Go.Eng.dF (Go.Eng.G.decP (Go.Eng.vF (Go.Eng.dF Go.Eng.G.DP)) (List.take 32 p)).t))).t)) 256 Go.Eng.G.gO).z) (Go.Eng.dF (Go.Eng.G.gtm (Go.Eng.vF (Go.Eng.dF (Go.Eng.addF Go.Eng.G.DP Go.Eng.G.DP))) (Go.Eng.vF (Go.Eng.dF (Go.Eng.G.wideV (g (List.drop 0 (List.take (Ix.c (Int.toNat (32 : Int))).n s) ++ p ++ m))))) (Go.Eng.G.p4 (Go.Eng.dF (Go.Eng.G.gneg (Go.Eng.G.p4 (Go.Eng.dF (Go.Eng.G.decP (Go.Eng.vF (Go.Eng.dF Go.Eng.G.DP)) (List.take 32 p)).x) (Go.Eng.dF (Go.Eng.G.decP (Go.Eng.vF (Go.Eng.dF Go.Eng.G.DP)) (List.take 32 p)).y) (Go.Eng.dF (Go.Eng.G.decP (Go.Eng.vF (Go.Eng.dF Go.Eng.G.DP)) (List.take 32 p)).z) (Go.Eng.dF (Go.Eng.G.decP (Go.Eng.vF (Go.Eng.dF Go.Eng.G.DP)) (List.take 32 p)).t))).x) (Go.Eng.dF (Go.Eng.G.gneg (Go.Eng.G.p4 (Go.Eng.dF (Go.Eng.G.decP (Go.Eng.vF (Go.Eng.dF Go.Eng.G.DP)) (List.take 32 p)).x) (Go.Eng.dF (Go.Eng.G.decP (Go.Eng.vF (Go.Eng.dF Go.Eng.G.DP)) (List.take 32 p)).y) (Go.Eng.dF (Go.Eng.G.decP (Go.Eng.vF (Go.Eng.dF Go.Eng.G.DP)) (List.take 32 p)).z) (Go.Eng.dF (Go.Eng.G.decP (Go.Eng.vF (Go.Eng.dF Go.Eng.G.DP)) (List.take 32 p)).t))).y) (Go.Eng.dF (Go.Eng.G.gneg (Go.Eng.G.p4 (Go.Eng.dF (Go.Eng.G.decP (Go.Eng.vF (Go.Eng.dF Go.Eng.G.DP)) (List.take 32 p)).x) (Go.Eng.dF (Go.Eng.G.decP (Go.Eng.vF (Go.Eng.dF Go.Eng.G.DP)) (List.take 32 p)).y) (Go.Eng.dF (Go.Eng.G.decP (Go.Eng.vF (Go.Eng.dF Go.Eng.G.DP)) (List.take 32 p)).z) (Go.Eng.dF (Go.Eng.G.decP (Go.Eng.vF (Go.Eng.dF Go.Eng.G.DP)) (List.take 32 p)).t))).z) (Go.Eng.dF (Go.Eng.G.gneg (Go.Eng.G.p4 (Go.Eng.dF (Go.Eng.G.decP (Go.Eng.vF (Go.Eng.dF Go.Eng.G.DP)) (List.take 32 p)).x) (Go.Eng.dF (Go.Eng.G.decP (Go.Eng.vF (Go.Eng.dF Go.Eng.G.DP)) (List.take 32 p)).y) (Go.Eng.dF (Go.Eng.G.decP (Go.Eng.vF (Go.Eng.dF Go.Eng.G.DP)) (List.take 32 p)).z) (Go.Eng.dF (Go.Eng.G.decP (Go.Eng.vF (Go.Eng.dF Go.Eng.G.DP)) (List.take 32 p)).t))).t)) 256 Go.Eng.G.gO).t))).y) (Go.Eng.dF (Go.Eng.G.gadd (Go.Eng.vF (Go.Eng.dF (Go.Eng.addF Go.Eng.G.DP Go.Eng.G.DP))) (Go.Eng.G.p4 (Go.Eng.dF (Go.Eng.G.gtm (Go.Eng.vF (Go.Eng.dF (Go.Eng.addF Go.Eng.G.DP Go.Eng.G.DP))) (Go.Eng.vF (Go.Eng.dF (Go.Eng.vB (List.take 32 (List.drop (Ix.c (Int.toNat (32 : Int))).n (List.take s.length s)))))) (Go.Eng.G.p4 (Go.Eng.dF (Go.Eng.G.decP (Go.Eng.vF (Go.Eng.dF Go.Eng.G.DP)) Go.Eng.G.baseL).x) (Go.Eng.dF (Go.Eng.G.decP (Go.Eng.vF (Go.Eng.dF Go.Eng.G.DP)) Go.Eng.G.baseL).y) (Go.Eng.dF (Go.Eng.G.decP (Go.Eng.vF (Go.Eng.dF Go.Eng.G.DP)) Go.Eng.G.baseL).z) (Go.Eng.dF (Go.Eng.G.decP (Go.Eng.vF (Go.Eng.dF Go.Eng.G.DP)) Go.Eng.G.baseL).t)) 256 Go.Eng.G.gO).x) (Go.Eng.dF (Go.Eng.G.gtm (Go.Eng.vF (Go.Eng.dF (Go.Eng.addF Go.Eng.G.DP Go.Eng.G.DP))) (Go.Eng.vF (Go.Eng.dF (Go.Eng.vB (List.take 32 (List.drop (Ix.c (Int.toNat (32 : Int))).n (List.take s.length s)))))) (Go.Eng.G.p4 (Go.Eng.dF (Go.Eng.G.decP (Go.Eng.vF (Go.Eng.dF Go.Eng.G.DP)) Go.Eng.G.baseL).x) (Go.Eng.dF (Go.Eng.G.decP (Go.Eng.vF (Go.Eng.dF Go.Eng.G.DP)) Go.Eng.G.baseL).y) (Go.Eng.dF (Go.Eng.G.decP (Go.Eng.vF (Go.Eng.dF Go.Eng.G.DP)) Go.Eng.G.baseL).z) (Go.Eng.dF (Go.Eng.G.decP (Go.Eng.vF (Go.Eng.dF Go.Eng.G.DP)) Go.Eng.G.baseL).t)) 256 Go.Eng.G.gO).y) (Go.Eng.dF (Go.Eng.G.gtm (Go.Eng.vF (Go.Eng.dF (Go.Eng.addF Go.Eng.G.DP Go.Eng.G.DP))) (Go.Eng.vF (Go.Eng.dF (Go.Eng.vB (List.take 32 (List.drop (Ix.c (Int.toNat (32 : Int))).n (List.take s.length s)))))) (Go.Eng.G.p4 (Go.Eng.dF (Go.Eng.G.decP (Go.Eng.vF (Go.Eng.dF Go.Eng.G.DP)) Go.Eng.G.baseL).x) (Go.Eng.dF (Go.Eng.G.decP (Go.Eng.vF (Go.Eng.dF Go.Eng.G.DP)) Go.Eng.G.baseL).y) (Go.Eng.dF (Go.Eng.G.decP (Go.Eng.vF (Go.Eng.dF Go.Eng.G.DP)) Go.Eng.G.baseL).z) (Go.Eng.dF (Go.Eng.G.decP (Go.Eng.vF (Go.Eng.dF Go.Eng.G.DP)) Go.Eng.G.baseL).t)) 256 Go.Eng.G.gO).z) (Go.Eng.dF (Go.Eng.G.gtm (Go.Eng.vF (Go.Eng.dF (Go.Eng.addF Go.Eng.G.DP Go.Eng.G.DP))) (Go.Eng.vF (Go.Eng.dF (Go.Eng.vB (List.take 32 (List.drop (Ix.c (Int.toNat (32 : Int))).n (List.take s.length s)))))) (Go.Eng.G.p4 (Go.Eng.dF (Go.Eng.G.decP (Go.Eng.vF (Go.Eng.dF Go.Eng.G.DP)) Go.Eng.G.baseL).x) (Go.Eng.dF (Go.Eng.G.decP (Go.Eng.vF (Go.Eng.dF Go.Eng.G.DP)) Go.Eng.G.baseL).y) (Go.Eng.dF (Go.Eng.G.decP (Go.Eng.vF (Go.Eng.dF Go.Eng.G.DP)) Go.Eng.G.baseL).z) (Go.Eng.dF (Go.Eng.G.decP (Go.Eng.vF (Go.Eng.dF Go.Eng.G.DP)) Go.Eng.G.baseL).t)) 256 Go.Eng.G.gO).t)) (Go.Eng.G.p4 (Go.Eng.dF (Go.Eng.G.gtm (Go.Eng.vF (Go.Eng.dF (Go.Eng.addF Go.Eng.G.DP Go.Eng.G.DP))) (Go.Eng.vF (Go.Eng.dF (Go.Eng.G.wideV (g (List.drop 0 (List.take (Ix.c (Int.toNat (32 : Int))).n s) ++ p ++ m))))) (Go.Eng.G.p4 (Go.Eng.dF (Go.Eng.G.gneg (Go.Eng.G.p4 (Go.Eng.dF (Go.Eng.G.decP (Go.Eng.vF (Go.Eng.dF Go.Eng.G.DP)) (List.take 32 p)).x) (Go.Eng.dF (Go.Eng.G.decP (Go.Eng.vF (Go.Eng.dF Go.Eng.G.DP)) (List.take 32 p)).y) (Go.Eng.dF (Go.Eng.G.decP (Go.Eng.vF (Go.Eng.dF Go.Eng.G.DP)) (List.take 32 p)).z) (Go.Eng.dF (Go.Eng.G.decP (Go.Eng.vF (Go.Eng.dF Go.Eng.G.DP)) (List.take 32 p)).t))).x) (Go.Eng.dF (Go.Eng.G.gneg (Go.Eng.G.p4 (Go.Eng.dF (Go.Eng.G.decP (Go.Eng.vF (Go.Eng.dF Go.Eng.G.DP)) (List.take 32 p)).x) (Go.Eng.dF (Go.Eng.G.decP (Go.Eng.vF (Go.Eng.dF Go.Eng.G.DP)) (List.take 32 p)).y) (Go.Eng.dF (Go.Eng.G.decP (Go.Eng.vF (Go.Eng.dF Go.Eng.G.DP)) (List.take 32 p)).z) (Go.Eng.dF (Go.Eng.G.decP (Go.Eng.vF (Go.Eng.dF Go.Eng.G.DP)) (List.take 32 p)).t))).y) (Go.Eng.dF (Go.Eng.G.gneg (Go.Eng.G.p4 (Go.Eng.dF (Go.Eng.G.decP (Go.Eng.vF (Go.Eng.dF Go.Eng.G.DP)) (List.take 32 p)).x) (Go.Eng.dF (Go.Eng.G.decP (Go.Eng.vF (Go.Eng.dF Go.Eng.G.DP)) (List.take 32 p)).y) (Go.Eng.dF (Go.Eng.G.decP (Go.Eng.vF (Go.Eng.dF Go.Eng.G.DP)) (List.take 32 p)).z) (Go.Eng.dF (Go.Eng.G.decP (Go.Eng.vF (Go.Eng.dF Go.Eng.G.DP)) (List.take 32 p)).t))).z) (Go.Eng.dF (Go.Eng.G.gneg (Go.Eng.G.p4 (Go.Eng.dF (Go.Eng.G.decP (Go.Eng.vF (Go.Eng.dF Go.Eng.G.DP)) (List.take 32 p)).x) (Go.Eng.dF (Go.Eng.G.decP (Go.Eng.vF (Go.Eng.dF Go.Eng.G.DP)) (List.take 32 p)).y) (Go.Eng.dF (Go.Eng.G.decP (Go.Eng.vF (Go.Eng.dF Go.Eng.G.DP)) (List.take 32 p)).z) (Go.Eng.dF (Go.Eng.G.decP (Go.Eng.vF (Go.Eng.dF Go.Eng.G.DP)) (List.take 32 p)).t))).t)) 256 Go.Eng.G.gO).x) (Go.Eng.dF (Go.Eng.G.gtm (Go.Eng.vF (Go.Eng.dF (Go.Eng.addF Go.Eng.G.DP Go.Eng.G.DP))) (Go.Eng.vF (Go.Eng.dF (Go.Eng.G.wideV (g (List.drop 0 (List.take (Ix.c (Int.toNat (32 : Int))).n s) ++ p ++ m))))) (Go.Eng.G.p4 (Go.Eng.dF (Go.Eng.G.gneg (Go.Eng.G.p4 (Go.Eng.dF (Go.Eng.G.decP (Go.Eng.vF (Go.Eng.dF Go.Eng.G.DP)) (List.take 32 p)).x) (Go.Eng.dF (Go.Eng.G.decP (Go.Eng.vF (Go.Eng.dF Go.Eng.G.DP)) (List.take 32 p)).y) (Go.Eng.dF (Go.Eng.G.decP (Go.Eng.vF (Go.Eng.dF Go.Eng.G.DP)) (List.take 32 p)).z) (Go.Eng.dF (Go.Eng.G.decP (Go.Eng.vF (Go.Eng.dF Go.Eng.G.DP)) (List.take 32 p)).t))).x) (Go.Eng.dF (Go.Eng.G.gneg (Go.Eng.G.p4 (Go.Eng.dF (Go.Eng.G.decP (Go.Eng.vF (Go.Eng.dF Go.Eng.G.DP)) (List.take 32 p)).x) (Go.Eng.dF (Go.Eng.G.decP (Go.Eng.vF (Go.Eng.dF Go.Eng.G.DP)) (List.take 32 p)).y) (Go.Eng.dF (Go.Eng.G.decP (Go.Eng.vF (Go.Eng.dF Go.Eng.G.DP)) (List.take 32 p)).z) (Go.Eng.dF (Go.Eng.G.decP (Go.Eng.vF (Go.Eng.dF Go.Eng.G.DP)) (List.take 32 p)).t))).y) (Go.Eng.dF (Go.Eng.G.gneg (Go.Eng.G.p4 (Go.Eng.dF (Go.Eng.G.decP (Go.Eng.vF (Go.Eng.dF Go.Eng.G.DP)) (List.take 32 p)).x) (Go.Eng.dF (Go.Eng.G.decP (Go.Eng.vF (Go.Eng.dF Go.Eng.G.DP)) (List.take 32 p)).y) (Go.Eng.dF (Go.Eng.G.decP (Go.Eng.vF (Go.Eng.dF Go.Eng.G.DP)) (List.take 32 p)).z) (Go.Eng.dF (Go.Eng.G.decP (Go.Eng.vF (Go.Eng.dF Go.Eng.G.DP)) (List.take 32 p)).t))).z) (Go.Eng.dF (Go.Eng.G.gneg (Go.Eng.G.p4 (Go.Eng.dF (Go.Eng.G.decP (Go.Eng.vF (Go.Eng.dF Go.Eng.G.DP)) (List.take 32 p)).x) (Go.Eng.dF (Go.Eng.G.decP (Go.Eng.vF (Go.Eng.dF Go.Eng.G.DP)) (List.take 32 p)).y) (Go.Eng.dF (Go.Eng.G.decP (Go.Eng.vF (Go.Eng.dF Go.Eng.G.DP)) (List.take 32 p)).z) (Go.Eng.dF (Go.Eng.G.decP (Go.Eng.vF (Go.Eng.dF Go.Eng.G.DP)) (List.take 32 p)).t))).t)) 256 Go.Eng.G.gO).y) (Go.Eng.dF (Go.Eng.G.gtm (Go.Eng.vF (Go.Eng.dF (Go.Eng.addF Go.Eng.G.DP Go.Eng.G.DP))) (Go.Eng.vF (Go.Eng.dF (Go.Eng.G.wideV (g (List.drop 0 (List.take (Ix.c (Int.toNat (32 : Int))).n s) ++ p ++ m))))) (Go.Eng.G.p4 (Go.Eng.dF (Go.Eng.G.gneg (Go.Eng.G.p4 (Go.Eng.dF (Go.Eng.G.decP (Go.Eng.vF (Go.Eng.dF Go.Eng.G.DP)) (List.take 32 p)).x) (Go.Eng.dF (Go.Eng.G.decP (Go.Eng.vF (Go.Eng.dF Go.Eng.G.DP)) (List.take 32 p)).y) (Go.Eng.dF (Go.Eng.G.decP (Go.Eng.vF (Go.Eng.dF Go.Eng.G.DP)) (List.take 32 p)).z) (Go.Eng.dF (Go.Eng.G.decP (Go.Eng.vF (Go.Eng.dF Go.Eng.G.DP)) (List.take 32 p)).t))).x) (Go.Eng.dF (Go.Eng.G.gneg (Go.Eng.G.p4 (Go.Eng.dF (Go.Eng.G.decP (Go.Eng.vF (Go.Eng.dF Go.Eng.G.DP)) (List.take 32 p)).x) (Go.Eng.dF (Go.Eng.G.decP (Go.Eng.vF (Go.Eng.dF Go.Eng.G.DP)) (List.take 32 p)).y) (Go.Eng.dF (Go.Eng.G.decP (Go.Eng.vF (Go.Eng.dF Go.Eng.G.DP)) (List.take 32 p)).z) (Go.Eng.dF (Go.Eng.G.decP (Go.Eng.vF (Go.Eng.dF Go.Eng.G.DP)) (List.take 32 p)).t))).y) (Go.Eng.dF (Go.Eng.G.gneg (Go.Eng.G.p4 (Go.Eng.dF (Go.Eng.G.decP (Go.Eng.vF (Go.Eng.dF Go.Eng.G.DP)) (List.take 32 p)).x) (Go.Eng.dF (Go.Eng.G.decP (Go.Eng.vF (Go.Eng.dF Go.Eng.G.DP)) (List.take 32 p)).y) (Go.Eng.dF (Go.Eng.G.decP (Go.Eng.vF (Go.Eng.dF Go.Eng.G.DP)) (List.take 32 p)).z) (Go.Eng.dF (Go.Eng.G.decP (Go.Eng.vF (Go.Eng.dF Go.Eng.G.DP)) (List.take 32 p)).t))).z) (Go.Eng.dF (Go.Eng.G.gneg (Go.Eng.G.p4 (Go.Eng.dF (Go.Eng.G.decP (Go.Eng.vF (Go.Eng.dF Go.Eng.G.DP)) (List.take 32 p)).x) (Go.Eng.dF (Go.Eng.G.decP (Go.Eng.vF (Go.Eng.dF Go.Eng.G.DP)) (List.take 32 p)).y) (Go.Eng.dF (Go.Eng.G.decP (Go.Eng.vF (Go.Eng.dF Go.Eng.G.DP)) (List.take 32 p)).z) (Go.Eng.dF (Go.Eng.G.decP (Go.Eng.vF (Go.Eng.dF Go.Eng.G.DP)) (List.take 32 p)).t))).t)) 256 Go.Eng.G.gO).z) (Go.Eng.dF (Go.Eng.G.gtm (Go.Eng.vF (Go.Eng.dF (Go.Eng.addF Go.Eng.G.DP Go.Eng.G.DP))) (Go.Eng.vF (Go.Eng.dF (Go.Eng.G.wideV (g (List.drop 0 (List.take (Ix.c (Int.toNat (32 : Int))).n s) ++ p ++ m))))) (Go.Eng.G.p4 (Go.Eng.dF (Go.Eng.G.gneg (Go.Eng.G.p4 (Go.Eng.dF (Go.Eng.G.decP (Go.Eng.vF (Go.Eng.dF Go.Eng.G.DP)) (List.take 32 p)).x) (Go.Eng.dF (Go.Eng.G.decP (Go.Eng.vF (Go.Eng.dF Go.Eng.G.DP)) (List.take 32 p)).y) (Go.Eng.dF (Go.Eng.G.decP (Go.Eng.vF (Go.Eng.dF Go.Eng.G.DP)) (List.take 32 p)).z) (Go.Eng.dF (Go.Eng.G.decP (Go.Eng.vF (Go.Eng.dF Go.Eng.G.DP)) (List.take 32 p)).t))).x) (Go.Eng.dF (Go.Eng.G.gneg (Go.Eng.G.p4 (Go.Eng.dF (Go.Eng.G.decP (Go.Eng.vF (Go.Eng.dF Go.Eng.G.DP)) (List.take 32 p)).x) (Go.Eng.dF (Go.Eng.G.decP (Go.Eng.vF (Go.Eng.dF Go.Eng.G.DP)) (List.take 32 p)).y) (Go.Eng.dF (Go.Eng.G.decP (Go.Eng.vF (Go.Eng.dF Go.Eng.G.DP)) (List.take 32 p)).z) (Go.Eng.dF (Go.Eng.G.decP (Go.Eng.vF (Go.Eng.dF Go.Eng.G.DP)) (List.take 32 p)).t))).y) (Go.Eng.dF (Go.Eng.G.gneg (Go.Eng.G.p4 (Go.Eng.dF (Go.Eng.G.decP (Go.Eng.vF (Go.Eng.dF Go.Eng.G.DP)) (List.take 32 p)).x) (Go.Eng.dF (Go.Eng.G.decP (Go.Eng.vF (Go.Eng.dF Go.Eng.G.DP)) (List.take 32 p)).y) (Go.Eng.dF (Go.Eng.G.decP (Go.Eng.vF (Go.Eng.dF Go.Eng.G.DP)) (List.take 32 p)).z) (Go.Eng.dF (Go.Eng.G.decP (Go.Eng.vF (Go.Eng.dF Go.Eng.G.DP)) (List.take 32 p)).t))).z) (Go.Eng.dF (Go.Eng.G.gneg (Go.Eng.G.p4 (Go.Eng.dF (Go.Eng.G.decP (Go.Eng.vF (Go.Eng.dF Go.Eng.G.DP)) (List.take 32 p)).x) (Go.Eng.dF (Go.Eng.G.decP (Go.Eng.vF (Go.Eng.dF Go.Eng.G.DP)) (List.take 32 p)).y) (Go.Eng.dF (Go.Eng.G.decP (Go.Eng.vF (Go.Eng.dF Go.Eng.G.DP)) (List.take 32 p)).z) (Go.Eng.dF (Go.Eng.G.decP (Go.Eng.vF (Go.Eng.dF Go.Eng.G.DP)) (List.take 32 p)).t))).t)) 256 Go.Eng.G.gO).t))).z) (Go.Eng.dF (Go.Eng.G.gadd (Go.Eng.vF (Go.Eng.dF (Go.Eng.addF Go.Eng.G.DP Go.Eng.G.DP))) (Go.Eng.G.p4 (Go.Eng.dF (Go.Eng.G.gtm (Go.Eng.vF (Go.Eng.dF (Go.Eng.addF Go.Eng.G.DP Go.Eng.G.DP))) (Go.Eng.vF (Go.Eng.dF (Go.Eng.vB (List.take 32 (List.drop (Ix.c (Int.toNat (32 : Int))).n (List.take s.length s)))))) (Go.Eng.G.p4 (Go.Eng.dF (Go.Eng.G.decP (Go.Eng.vF (Go.Eng.dF Go.Eng.G.DP)) Go.Eng.G.baseL).x) (Go.Eng.dF (Go.Eng.G.decP (Go.Eng.vF (Go.Eng.dF Go.Eng.G.DP)) Go.Eng.G.baseL).y) (Go.Eng.dF (Go.Eng.G.decP (Go.Eng.vF (Go.Eng.dF Go.Eng.G.DP)) Go.Eng.G.baseL).z) (Go.Eng.dF (Go.Eng.G.decP (Go.Eng.vF (Go.Eng.dF Go.Eng.G.DP)) Go.Eng.G.baseL).t)) 256 Go.Eng.G.gO).x) (Go.Eng.dF (Go.Eng.G.gtm (Go.Eng.vF (Go.Eng.dF (Go.Eng.addF Go.Eng.G.DP Go.Eng.G.DP))) (Go.Eng.vF (Go.Eng.dF (Go.Eng.vB (List.take 32 (List.drop (Ix.c (Int.toNat (32 : Int))).n (List.take s.length s)))))) (Go.Eng.G.p4 (Go.Eng.dF (Go.Eng.G.decP (Go.Eng.vF (Go.Eng.dF Go.Eng.G.DP)) Go.Eng.G.baseL).x) (Go.Eng.dF (Go.Eng.G.decP (Go.Eng.vF (Go.Eng.dF Go.Eng.G.DP)) Go.Eng.G.baseL).y) (Go.Eng.dF (Go.Eng.G.decP (Go.Eng.vF (Go.Eng.dF Go.Eng.G.DP)) Go.Eng.G.baseL).z) (Go.Eng.dF (Go.Eng.G.decP (Go.Eng.vF (Go.Eng.dF Go.Eng.G.DP)) Go.Eng.G.baseL).t)) 256 Go.Eng.G.gO).y) (Go.Eng.dF (Go.Eng.G.gtm (Go.Eng.vF (Go.Eng.dF (Go.Eng.addF Go.Eng.G.DP Go.Eng.G.DP))) (Go.Eng.vF (Go.Eng.dF (Go.Eng.vB (List.take 32 (List.drop (Ix.c (Int.toNat (32 : Int))).n (List.take s.length s)))))) (Go.Eng.G.p4 (Go.Eng.dF (Go.Eng.G.decP (Go.Eng.vF (Go.Eng.dF Go.Eng.G.DP)) Go.Eng.G.baseL).x) (Go.Eng.dF (Go.Eng.G.decP (Go.Eng.vF (Go.Eng.dF Go.Eng.G.DP)) Go.Eng.G.baseL).y) (Go.Eng.dF (Go.Eng.G.decP (Go.Eng.vF (Go.Eng.dF Go.Eng.G.DP)) Go.Eng.G.baseL).z) (Go.Eng.dF (Go.Eng.G.decP (Go.Eng.vF (Go.Eng.dF Go.Eng.G.DP)) Go.Eng.G.baseL).t)) 256 Go.Eng.G.gO).z) (Go.Eng.dF (Go.Eng.G.gtm (Go.Eng.vF (Go.Eng.dF (Go.Eng.addF Go.Eng.G.DP Go.Eng.G.DP))) (Go.Eng.vF (Go.Eng.dF (Go.Eng.vB (List.take 32 (List.drop (Ix.c (Int.toNat (32 : Int))).n (List.take s.length s)))))) (Go.Eng.G.p4 (Go.Eng.dF (Go.Eng.G.decP (Go.Eng.vF (Go.Eng.dF Go.Eng.G.DP)) Go.Eng.G.baseL).x) (Go.Eng.dF (Go.Eng.G.decP (Go.Eng.vF (Go.Eng.dF Go.Eng.G.DP)) Go.Eng.G.baseL).y) (Go.Eng.dF (Go.Eng.G.decP (Go.Eng.vF (Go.Eng.dF Go.Eng.G.DP)) Go.Eng.G.baseL).z) (Go.Eng.dF (Go.Eng.G.decP (Go.Eng.vF (Go.Eng.dF Go.Eng.G.DP)) Go.Eng.G.baseL).t)) 256 Go.Eng.G.gO).t)) (Go.Eng.G.p4 (Go.Eng.dF (Go.Eng.G.gtm (Go.Eng.vF (Go.Eng.dF (Go.Eng.addF Go.Eng.G.DP Go.Eng.G.DP))) (Go.Eng.vF (Go.Eng.dF (Go.Eng.G.wideV (g (List.drop 0 (List.take (Ix.c (Int.toNat (32 : Int))).n s) ++ p ++ m))))) (Go.Eng.G.p4 (Go.Eng.dF (Go.Eng.G.gneg (Go.Eng.G.p4 (Go.Eng.dF (Go.Eng.G.decP (Go.Eng.vF (Go.Eng.dF Go.Eng.G.DP)) (List.take 32 p)).x) (Go.Eng.dF (Go.Eng.G.decP (Go.Eng.vF (Go.Eng.dF Go.Eng.G.DP)) (List.take 32 p)).y) (Go.Eng.dF (Go.Eng.G.decP (Go.Eng.vF (Go.Eng.dF Go.Eng.G.DP)) (List.take 32 p)).z) (Go.Eng.dF (Go.Eng.G.decP (Go.Eng.vF (Go.Eng.dF Go.Eng.G.DP)) (List.take 32 p)).t))).x) (Go.Eng.dF (Go.Eng.G.gneg (Go.Eng.G.p4 (Go.Eng.dF (Go.Eng.G.decP (Go.Eng.vF (Go.Eng.dF Go.Eng.G.DP)) (List.take 32 p)).x) (Go.Eng.dF (Go.Eng.G.decP (Go.Eng.vF (Go.Eng.dF Go.Eng.G.DP)) (List.take 32 p)).y) (Go.Eng.dF (Go.Eng.G.decP (Go.Eng.vF (Go.Eng.dF Go.Eng.G.DP)) (List.take 32 p)).z) (Go.Eng.dF (Go.Eng.G.decP (Go.Eng.vF (Go.Eng.dF Go.Eng.G.DP)) (List.take 32 p)).t))).y) (Go.Eng.dF (Go.Eng.G.gneg (Go.Eng.G.p4 (Go.Eng.dF (Go.Eng.G.decP (Go.Eng.vF (Go.Eng.dF Go.Eng.G.DP)) (List.take 32 p)).x) (Go.Eng.dF (Go.Eng.G.decP (Go.Eng.vF (Go.Eng.dF Go.Eng.G.DP)) (List.take 32 p)).y) (Go.Eng.dF (Go.Eng.G.decP (Go.Eng.vF (Go.Eng.dF Go.Eng.G.DP)) (List.take 32 p)).z) (Go.Eng.dF (Go.Eng.G.decP (Go.Eng.vF (Go.Eng.dF Go.Eng.G.DP)) (List.take 32 p)).t))).z) (Go.Eng.dF (Go.Eng.G.gneg (Go.Eng.G.p4 (Go.Eng.dF (Go.Eng.G.decP (Go.Eng.vF (Go.Eng.dF Go.Eng.G.DP)) (List.take 32 p)).x) (Go.Eng.dF (Go.Eng.G.decP (Go.Eng.vF (Go.Eng.dF Go.Eng.G.DP)) (List.take 32 p)).y) (Go.Eng.dF (Go.Eng.G.decP (Go.Eng.vF (Go.Eng.dF Go.Eng.G.DP)) (List.take 32 p)).z) (Go.Eng.dF (Go.Eng.G.decP (Go.Eng.vF (Go.Eng.dF Go.Eng.G.DP)) (List.take 32 p)).t))).t)) 256 Go.Eng.G.gO).x) (Go.Eng.dF (Go.Eng.G.gtm (Go.Eng.vF (Go.Eng.dF (Go.Eng.addF Go.Eng.G.DP Go.Eng.G.DP))) (Go.Eng.vF (Go.Eng.dF (Go.Eng.G.wideV (g (List.drop 0 (List.take (Ix.c (Int.toNat (32 : Int))).n s) ++ p ++ m))))) (Go.Eng.G.p4 (Go.Eng.dF (Go.Eng.G.gneg (Go.Eng.G.p4 (Go.Eng.dF (Go.Eng.G.decP (Go.Eng.vF (Go.Eng.dF Go.Eng.G.DP)) (List.take 32 p)).x) (Go.Eng.dF (Go.Eng.G.decP (Go.Eng.vF (Go.Eng.dF Go.Eng.G.DP)) (List.take 32 p)).y) (Go.Eng.dF (Go.Eng.G.decP (Go.Eng.vF (Go.Eng.dF Go.Eng.G.DP)) (List.take 32 p)).z) (Go.Eng.dF (Go.Eng.G.decP (Go.Eng.vF (Go.Eng.dF Go.Eng.G.DP)) (List.take 32 p)).t))).x) (Go.Eng.dF (Go.Eng.G.gneg (Go.Eng.G.p4 (Go.Eng.dF (Go.Eng.G.decP (Go.Eng.vF (Go.Eng.dF Go.Eng.G.DP)) (List.take 32 p)).x) (Go.Eng.dF (Go.Eng.G.decP (Go.Eng.vF (Go.Eng.dF Go.Eng.G.DP)) (List.take 32 p)).y) (Go.Eng.dF (Go.Eng.G.decP (Go.Eng.vF (Go.Eng.dF Go.Eng.G.DP)) (List.take 32 p)).z) (Go.Eng.dF (Go.Eng.G.decP (Go.Eng.vF (Go.Eng.dF Go.Eng.G.DP)) (List.take 32 p)).t))).y) (Go.Eng.dF (Go.Eng.G.gneg (Go.Eng.G.p4 (Go.Eng.dF (Go.Eng.G.decP (Go.Eng.vF (Go.Eng.dF Go.Eng.G.DP)) (List.take 32 p)).x) (Go.Eng.dF (Go.Eng.G.decP (Go.Eng.vF (Go.Eng.dF Go.Eng.G.DP)) (List.take 32 p)).y) (Go.Eng.dF (Go.Eng.G.decP (Go.Eng.vF (Go.Eng.dF Go.Eng.G.DP)) (List.take 32 p)).z) (Go.Eng.dF (Go.Eng.G.decP (Go.Eng.vF (Go.Eng.dF Go.Eng.G.DP)) (List.take 32 p)).t))).z) (Go.Eng.dF (Go.Eng.G.gneg (Go.Eng.G.p4 (Go.Eng.dF (Go.Eng.G.decP (Go.Eng.vF (Go.Eng.dF Go.Eng.G.DP)) (List.take 32 p)).x) (Go.Eng.dF (Go.Eng.G.decP (Go.Eng.vF (Go.Eng.dF Go.Eng.G.DP)) (List.take 32 p)).y) (Go.Eng.dF (Go.Eng.G.decP (Go.Eng.vF (Go.Eng.dF Go.Eng.G.DP)) (List.take 32 p)).z) (Go.Eng.dF (Go.Eng.G.decP (Go.Eng.vF (Go.Eng.dF Go.Eng.G.DP)) (List.take 32 p)).t))).t)) 256 Go.Eng.G.gO).y) (Go.Eng.dF (Go.Eng.G.gtm (Go.Eng.vF (Go.Eng.dF (Go.Eng.addF Go.Eng.G.DP Go.Eng.G.DP))) (Go.Eng.vF (Go.Eng.dF (Go.Eng.G.wideV (g (List.drop 0 (List.take (Ix.c (Int.toNat (32 : Int))).n s) ++ p ++ m))))) (Go.Eng.G.p4 (Go.Eng.dF (Go.Eng.G.gneg (Go.Eng.G.p4 (Go.Eng.dF (Go.Eng.G.decP (Go.Eng.vF (Go.Eng.dF Go.Eng.G.DP)) (List.take 32 p)).x) (Go.Eng.dF (Go.Eng.G.decP (Go.Eng.vF (Go.Eng.dF Go.Eng.G.DP)) (List.take 32 p)).y) (Go.Eng.dF (Go.Eng.G.decP (Go.Eng.vF (Go.Eng.dF Go.Eng.G.DP)) (List.take 32 p)).z) (Go.Eng.dF (Go.Eng.G.decP (Go.Eng.vF (Go.Eng.dF Go.Eng.G.DP)) (List.take 32 p)).t))).x) (Go.Eng.dF (Go.Eng.G.gneg (Go.Eng.G.p4 (Go.Eng.dF (Go.Eng.G.decP (Go.Eng.vF (Go.Eng.dF Go.Eng.G.DP)) (List.take 32 p)).x) (Go.Eng.dF (Go.Eng.G.decP (Go.Eng.vF (Go.Eng.dF Go.Eng.G.DP)) (List.take 32 p)).y) (Go.Eng.dF (Go.Eng.G.decP (Go.Eng.vF (Go.Eng.dF Go.Eng.G.DP)) (List.take 32 p)).z) (Go.Eng.dF (Go.Eng.G.decP (Go.Eng.vF (Go.Eng.dF Go.Eng.G.DP)) (List.take 32 p)).t))).y) (Go.Eng.dF (Go.Eng.G.gneg (Go.Eng.G.p4 (Go.Eng.dF (Go.Eng.G.decP (Go.Eng.vF (Go.Eng.dF Go.Eng.G.DP)) (List.take 32 p)).x) (Go.Eng.dF (Go.Eng.G.decP (Go.Eng.vF (Go.Eng.dF Go.Eng.G.DP)) (List.take 32 p)).y) (Go.Eng.dF (Go.Eng.G.decP (Go.Eng.vF (Go.Eng.dF Go.Eng.G.DP)) (List.take 32 p)).z) (Go.Eng.dF (Go.Eng.G.decP (Go.Eng.vF (Go.Eng.dF Go.Eng.G.DP)) (List.take 32 p)).t))).z) (Go.Eng.dF (Go.Eng.G.gneg (Go.Eng.G.p4 (Go.Eng.dF (Go.Eng.G.decP (Go.Eng.vF (Go.Eng.dF Go.Eng.G.DP)) (List.take 32 p)).x) (Go.Eng.dF (Go.Eng.G.decP (Go.Eng.vF (Go.Eng.dF Go.Eng.G.DP)) (List.take 32 p)).y) (Go.Eng.dF (Go.Eng.G.decP (Go.Eng.vF (Go.Eng.dF Go.Eng.G.DP)) (List.take 32 p)).z) (Go.Eng.dF (Go.Eng.G.decP (Go.Eng.vF (Go.Eng.dF Go.Eng.G.DP)) (List.take 32 p)).t))).t)) 256 Go.Eng.G.gO).z) (Go.Eng.dF (Go.Eng.G.gtm (Go.Eng.vF (Go.Eng.dF (Go.Eng.addF Go.Eng.G.DP Go.Eng.G.DP))) (Go.Eng.vF (Go.Eng.dF (Go.Eng.G.wideV (g (List.drop 0 (List.take (Ix.c (Int.toNat (32 : Int))).n s) ++ p ++ m))))) (Go.Eng.G.p4 (Go.Eng.dF (Go.Eng.G.gneg (Go.Eng.G.p4 (Go.Eng.dF (Go.Eng.G.decP (Go.Eng.vF (Go.Eng.dF Go.Eng.G.DP)) (List.take 32 p)).x) (Go.Eng.dF (Go.Eng.G.decP (Go.Eng.vF (Go.Eng.dF Go.Eng.G.DP)) (List.take 32 p)).y) (Go.Eng.dF (Go.Eng.G.decP (Go.Eng.vF (Go.Eng.dF Go.Eng.G.DP)) (List.take 32 p)).z) (Go.Eng.dF (Go.Eng.G.decP (Go.Eng.vF (Go.Eng.dF Go.Eng.G.DP)) (List.take 32 p)).t))).x) (Go.Eng.dF (Go.Eng.G.gneg (Go.Eng.G.p4 (Go.Eng.dF (Go.Eng.G.decP (Go.Eng.vF (Go.Eng.dF Go.Eng.G.DP)) (List.take 32 p)).x) (Go.Eng.dF (Go.Eng.G.decP (Go.Eng.vF (Go.Eng.dF Go.Eng.G.DP)) (List.take 32 p)).y) (Go.Eng.dF (Go.Eng.G.decP (Go.Eng.vF (Go.Eng.dF Go.Eng.G.DP)) (List.take 32 p)).z) (Go.Eng.dF (Go.Eng.G.decP (Go.Eng.vF (Go.Eng.dF Go.Eng.G.DP)) (List.take 32 p)).t))).y) (Go.Eng.dF (Go.Eng.G.gneg (Go.Eng.G.p4 (Go.Eng.dF (Go.Eng.G.decP (Go.Eng.vF (Go.Eng.dF Go.Eng.G.DP)) (List.take 32 p)).x) (Go.Eng.dF (Go.Eng.G.decP (Go.Eng.vF (Go.Eng.dF Go.Eng.G.DP)) (List.take 32 p)).y) (Go.Eng.dF (Go.Eng.G.decP (Go.Eng.vF (Go.Eng.dF Go.Eng.G.DP)) (List.take 32 p)).z) (Go.Eng.dF (Go.Eng.G.decP (Go.Eng.vF (Go.Eng.dF Go.Eng.G.DP)) (List.take 32 p)).t))).z) (Go.Eng.dF (Go.Eng.G.gneg (Go.Eng.G.p4 (Go.Eng.dF (Go.Eng.G.decP (Go.Eng.vF (Go.Eng.dF Go.Eng.G.DP)) (List.take 32 p)).x) (Go.Eng.dF (Go.Eng.G.decP (Go.Eng.vF (Go.Eng.dF Go.Eng.G.DP)) (List.take 32 p)).y) (Go.Eng.dF (Go.Eng.G.decP (Go.Eng.vF (Go.Eng.dF Go.Eng.G.DP)) (List.take 32 p)).z) (Go.Eng.dF (Go.Eng.G.decP (Go.Eng.vF (Go.Eng.dF Go.Eng.G.DP)) (List.take 32 p)).t))).t)) 256 Go.Eng.G.gO).t))).t))) == List.drop 0 (List.take 32 s)))) (ob := [(p.length != 32) = Bool.false, (s.length != 64) = Bool.false, 32 ≤ p.length, 32 ≤ s.length, s.length ≤ s.length, 32 ≤ (List.drop 32 (List.take s.length s)).length, (!Go.Eng.G.decB 94991750553327537054923576013098519116177106212663501036117577537042505103504 (List.take 32 p)) = Bool.false, Go.Eng.G.smallV 74191411869338878686276167017509130379084227759686438032777571066171880567110 (Go.Eng.G.p4 (Go.Eng.dF (Go.Eng.G.decP (Go.Eng.vF (Go.Eng.dF Go.Eng.G.DP)) (List.take 32 p)).x) (Go.Eng.dF (Go.Eng.G.decP (Go.Eng.vF (Go.Eng.dF Go.Eng.G.DP)) (List.take 32 p)).y) (Go.Eng.dF (Go.Eng.G.decP (Go.Eng.vF (Go.Eng.dF Go.Eng.G.DP)) (List.take 32 p)).z) (Go.Eng.dF (Go.Eng.G.decP (Go.Eng.vF (Go.Eng.dF Go.Eng.G.DP)) (List.take 32 p)).t)) = Bool.false, (!Decidable.decide (Go.Eng.vF (Go.Eng.dF (Go.Eng.vB (List.take 32 (List.drop 32 (List.take s.length s))))) < 7237005577332262213973186563042994240857116359379907606001950938285454250989)) = Bool.false, 0 ≤ 32, 32 ≤ s.length, (List.drop 0 (List.take 32 s)).length + p.length + m.length ≤ 1000000, 0 ≤ 32, 32 ≤ s.length]) (sc' := []) (by kernel_rfl) ?_ ?_
              · rw [hS, tp, decB_lit lP, hb, eDP, p4_pt a0, W2_lit, e8, hsm, vd lS, QQ_lit', List.drop_zero]
                exact ⟨o1, o2, by omega, by omega, Nat.le_refl _, o3, rfl, rfl, by rw [decide_eq_true hq]; rfl, by omega, by omega, by rw [List.length_take]; omega, by omega, by omega, trivial⟩
              · have t0 := gtm_ok W2_lt (vB (List.drop 32 s)) b0 256 gO gO_ok
                have n0 := gneg_ok a0
                have u0 := gtm_ok W2_lt (wideV (g (List.take 32 s ++ p ++ m))) n0 256 gO gO_ok
                have ix : (Ix.c (Int.toNat 32)).n = 32 := rfl
                rw [ix, hS, tp, List.drop_zero, eDP, eW2, p4_pt a0, p4_pt b0, vd lS, vd (Nat.lt_trans (Nat.mod_lt _ (by decide)) QQ_lt : wideV (g (List.take 32 s ++ p ++ m)) < M256), p4_pt n0, p4_pt t0, p4_pt u0, p4_pt (gadd_ok W2_lt t0 u0), encV_mod,
                  gadd_mod W2_lt W2_mod t0 u0, gtm_mod W2_lt W2_mod _ b0 _ _ gO_ok, gtm_mod W2_lt W2_mod _ n0 _ _ gO_ok, gneg_mod a0, decP_mod lB, decP_mod lP, pm_id gO_okP]
                have ew : verW g p m s = verQ g p m s := by unfold verW; simp [hp, hs, hb, hsm, hq]
                rw [ew]
                exact wkR_refl _
            · refine hold_endw mixed (okH11a hg hk) (unroll := true) (f := 400) (sc := [false, false, false, false, true]) (r := (SV.cb Bool.false)) (ob := [(p.length != 32) = Bool.false, (s.length != 64) = Bool.false, 32 ≤ p.length, 32 ≤ s.length, s.length ≤ s.length, 32 ≤ (List.drop 32 (List.take s.length s)).length, (!Go.Eng.G.decB 94991750553327537054923576013098519116177106212663501036117577537042505103504 (List.take 32 p)) = Bool.false, Go.Eng.G.smallV 74191411869338878686276167017509130379084227759686438032777571066171880567110 (Go.Eng.G.p4 (Go.Eng.dF (Go.Eng.G.decP (Go.Eng.vF (Go.Eng.dF Go.Eng.G.DP)) (List.take 32 p)).x) (Go.Eng.dF (Go.Eng.G.decP (Go.Eng.vF (Go.Eng.dF Go.Eng.G.DP)) (List.take 32 p)).y) (Go.Eng.dF (Go.Eng.G.decP (Go.Eng.vF (Go.Eng.dF Go.Eng.G.DP)) (List.take 32 p)).z) (Go.Eng.dF (Go.Eng.G.decP (Go.Eng.vF (Go.Eng.dF Go.Eng.G.DP)) (List.take 32 p)).t)) = Bool.false, (!Decidable.decide (Go.Eng.vF (Go.Eng.dF (Go.Eng.vB (List.take 32 (List.drop 32 (List.take s.length s))))) < 7237005577332262213973186563042994240857116359379907606001950938285454250989)) = Bool.true]) (sc' := []) (by kernel_rfl) ?_ ?_
              · rw [hS, tp, decB_lit lP, hb, eDP, p4_pt a0, W2_lit, e8, hsm, vd lS, QQ_lit']; exact ⟨o1, o2, by omega, by omega, Nat.le_refl _, o3, rfl, rfl, by rw [decide_eq_false hq]; rfl, trivial⟩
              · exact (by unfold verW; simp [hp, hs, hb, hsm, hq] : false = verW g p m s)
          | true =>
            refine hold_endw mixed (okH11a hg hk) (unroll := true) (f := 400) (sc := [false, false, false, true]) (r := (SV.cb Bool.false)) (ob := [(p.length != 32) = Bool.false, (s.length != 64) = Bool.false, 32 ≤ p.length, 32 ≤ s.length, s.length ≤ s.length, 32 ≤ (List.drop 32 (List.take s.length s)).length, (!Go.Eng.G.decB 94991750553327537054923576013098519116177106212663501036117577537042505103504 (List.take 32 p)) = Bool.false, Go.Eng.G.smallV 74191411869338878686276167017509130379084227759686438032777571066171880567110 (Go.Eng.G.p4 (Go.Eng.dF (Go.Eng.G.decP (Go.Eng.vF (Go.Eng.dF Go.Eng.G.DP)) (List.take 32 p)).x) (Go.Eng.dF (Go.Eng.G.decP (Go.Eng.vF (Go.Eng.dF Go.Eng.G.DP)) (List.take 32 p)).y) (Go.Eng.dF (Go.Eng.G.decP (Go.Eng.vF (Go.Eng.dF Go.Eng.G.DP)) (List.take 32 p)).z) (Go.Eng.dF (Go.Eng.G.decP (Go.Eng.vF (Go.Eng.dF Go.Eng.G.DP)) (List.take 32 p)).t)) = Bool.true]) (sc' := []) (by kernel_rfl) ?_ ?_
            · rw [tp, decB_lit lP, hb, eDP, p4_pt a0, W2_lit, e8, hsm]; exact ⟨o1, o2, by omega, by omega, Nat.le_refl _, o3, rfl, rfl, trivial⟩
            · exact (by unfold verW; simp [hp, hs, hb, hsm] : false = verW g p m s)
        | false =>
          refine hold_endw mixed (okH11a hg hk) (unroll := true) (f := 400) (sc := [false, false, true]) (r := (SV.cb Bool.false)) (ob := [(p.length != 32) = Bool.false, (s.length != 64) = Bool.false, 32 ≤ p.length, 32 ≤ s.length, s.length ≤ s.length, 32 ≤ (List.drop 32 (List.take s.length s)).length, (!Go.Eng.G.decB 94991750553327537054923576013098519116177106212663501036117577537042505103504 (List.take 32 p)) = Bool.true]) (sc' := []) (by kernel_rfl) ?_ ?_
          · rw [tp, decB_lit lP, hb]; exact ⟨o1, o2, by omega, by omega, Nat.le_refl _, o3, rfl, trivial⟩
          · exact (by unfold verW; simp [hp, hs, hb] : false = verW g p m s)
      · refine hold_endw mixed (okH11a hg hk) (unroll := true) (f := 400) (sc := [false, true]) (r := (SV.cb Bool.false)) (ob := [(p.length != 32) = Bool.false, (s.length != 64) = Bool.true]) (sc' := []) (by kernel_rfl) ?_ ?_
        · exact ⟨by rw [hp]; rfl, bne_iff_ne.mpr hs, trivial⟩
        · exact (by unfold verW; simp [hp, hs] : false = verW g p m s)
    · refine hold_endw mixed (okH11a hg hk) (unroll := true) (f := 400) (sc := [true]) (r := (SV.cb Bool.false)) (ob := [(p.length != 32) = Bool.true]) (sc' := []) (by kernel_rfl) ?_ ?_
      · exact ⟨bne_iff_ne.mpr hp, trivial⟩
      · exact (by unfold verW; simp [hp] : false = verW g p m s)
  · cases h
end Go.Eng.G

namespace Go.Eng
open Go.RowKit
def pinL : List SV → List Value → List SV
  | .sl k l :: r, v :: vs => .pin v (.sl k l) :: pinL r vs
  | s :: r, _ :: vs => s :: pinL r vs
  | _, _ => []
theorem pin_relVs {β : Nat → Nat} {ow : Own} {w : World} : ∀ {l : List SV} {vs : List Value}, relVs β ow w l vs → relVs β ow w (pinL l vs) vs := by
  intro l
  induction l with
  | nil => intro vs h; cases h; rfl
  | cons s r ih =>
    intro vs h
    obtain ⟨v, t, rfl, h1, h2⟩ := h
    have keep : ∀ s', pinL (s :: r) (v :: t) = s' :: pinL r t → relV1 β ow w s' v → relVs β ow w (pinL (s :: r) (v :: t)) (v :: t) := fun s' e h => by rw [e]; exact ⟨v, t, rfl, h, ih h2⟩
    cases s <;> try exact keep _ rfl h1
    rename_i k l
    refine keep _ rfl ?_
    obtain ⟨cs, h3, rfl⟩ := h1
    have h4 := h3
    simp only [rel] at h3
    obtain ⟨⟨v, rfl, _⟩, _⟩ := h3
    refine ⟨[v], ?_, rfl⟩
    simp only [rel]
    exact ⟨rfl, rfl, by simpa only [rel] using h4⟩
section
variable {P : Program} {fn : Func} {body : Code} {S : Own} {σ : St}
theorem contractP {f : FuncId} {args : List SV} {res : SV} (hf : P.funcs[f]? = some fn) (hb : fn.body = some body) (hname : (fn.name == "runtime.NumGoroutine") = false) (hn : Nat.ble args.length fn.ntmps = true) (hids : idss args = [])
    (h : pureF.pureFs args → ∀ (w0 : World) (S : Own) (vs : List Value), relVs (fun _ => 0) S w0 args vs → Hold P body (Fin P fn w0 S res) w0 S [.at []] (initSt (pinL args vs) fn.ntmps)) : Contract P f args res := by
  intro w S vs hSlt hvs
  have hlen : ∀ {l : List SV} {vs : List Value}, relVs (fun _ => 0) S w l vs → (pinL l vs).length = l.length ∧ (idss l = [] → idss (pinL l vs) = []) := by
    intro l
    induction l with
    | nil => intro vs h; cases h; exact ⟨rfl, fun h => h⟩
    | cons s r ih =>
      intro vs h
      obtain ⟨v, t, rfl, _, h2⟩ := h
      obtain ⟨h3, h4⟩ := ih h2
      cases s <;> (refine ⟨by simp [pinL, h3], fun h => ?_⟩; simp only [pinL, idss, SV.ids, List.append_eq_nil_iff, List.nil_append, true_and] at h ⊢; first | exact ⟨h.1, h4 h.2⟩ | exact h4 h | (simp_all; done))
  obtain ⟨l1, l2⟩ := hlen hvs
  exact contract_at hf hb hname (by rw [l1]; exact Nat.le_of_ble_eq_true hn) (l2 hids) hSlt (pin_relVs hvs) (h (pureFs_vs args vs hvs) w S vs hvs)
theorem hold_repin {w0 : World} {Q : Exit → Act → World → Prop} {st : List It} {σ' : St} {t : Nat} {k : IntKind} {l : List Nat} {v : Value} (h0 : relV1 (fun _ => 0) S w0 (.sl k l) v) (hg : getS σ.slots t = some (.raw v)) (hp : putS σ (some t) (.pin v (.sl k l)) = some σ')
    (hk : Hold P body Q (w0 : Fr) S st σ') : Hold P body Q (w0 : Fr) S st σ := by
  intro β a w hS
  have h1 := relV_scalar rfl rfl (hS.slot t _ (getS_mem hg))
  simp only [rel, List.cons.injEq, and_true] at h1
  have h2 := old_reads hS h0
  have hv : relV β (owS S σ.blks β) w (.pin v (.sl k l)) (a.tmps.getD t undef) := by
    rw [h1.1]
    refine relV_of1 rfl ?_
    simp only [rel]
    exact ⟨trivial, rfl, by have := relV_scalar (s := .sl k l) rfl rfl h2; simpa only [rel] using this⟩
  have := hS.put hp hv
  rw [put_same_self] at this
  exact hk _ _ _ this
end
end Go.Eng

namespace Go.Eng
open Go.RowKit
section
variable {P : Program} {fn : Func} {body : Code} {S : Own} {σ : St}
theorem loopW_mono {c : Code} {K K' : Exit → Act → World → Prop} (hq : ∀ e a w, K e a w → K' e a w) {a : Act} {w : World} (h : LoopW P c K a w) : LoopW P c K' a w := by
  intro I hI
  refine h I fun a w hw => hI a w (wp_mono hw fun e a w hq' => ?_)
  cases e <;> first | exact hq' | exact hq _ _ _ hq'
theorem contQ_mono {Q Q' : Exit → Act → World → Prop} (hq : ∀ e a w, Q e a w → Q' e a w) : ∀ (st : List It) (e : Exit) (a : Act) (w : World), contQ P body Q st e a w → contQ P body Q' st e a w := by
  intro st
  induction st with
  | nil => intro e a w h; exact hq e a w h
  | cons x st ih =>
    intro e a w h
    cases x with
    | «at» p =>
      cases e <;> simp only [contQ] at h ⊢ <;> try exact ih _ _ _ h
      split at h
      · exact wp_mono h fun e a w hq' => ih _ _ _ hq'
      · exact h
    | lp p =>
      cases e <;> simp only [contQ] at h ⊢ <;> try exact ih _ _ _ h
      split at h
      · exact loopW_mono (fun e a w hq' => ih _ _ _ hq') h
      · exact h
    | blk id =>
      cases e <;> simp only [contQ] at h ⊢ <;> try exact ih _ _ _ h
      split at h
      · rename_i hc; rw [if_pos hc]; exact ih _ _ _ h
      · rename_i hc; rw [if_neg hc]; exact ih _ _ _ h
def pinS : List (Nat × SV) → List Value → List (Nat × SV)
  | (t, .sl k l) :: r, v :: vs => (t, .pin v (.sl k l)) :: pinS r vs
  | p :: r, _ :: vs => p :: pinS r vs
  | _, _ => []
theorem pinS_mem {ow : Own} {w : World} {a : Act} {β : Nat → Nat} : ∀ {l : List (Nat × SV)} {d : Nat} {s : SV}, (d, s) ∈ pinS l (l.map fun p => a.tmps.getD p.1 undef) →
    (∀ p ∈ l, p.2.ids = [] ∧ relV β ow w p.2 (a.tmps.getD p.1 undef)) → s.ids = [] ∧ relV β ow w s (a.tmps.getD d undef) := by
  intro l
  induction l with
  | nil => intro d s h; cases h
  | cons p r ih =>
    intro d s h hl
    obtain ⟨t, s0⟩ := p
    have h0 := hl (t, s0) (by simp)
    have hr : ∀ p ∈ r, p.2.ids = [] ∧ relV β ow w p.2 (a.tmps.getD p.1 undef) := fun p hp => hl p (List.mem_cons_of_mem _ hp)
    have keep : pinS ((t, s0) :: r) (a.tmps.getD t undef :: r.map fun p => a.tmps.getD p.1 undef) = (t, s0) :: pinS r (r.map fun p => a.tmps.getD p.1 undef) → s.ids = [] ∧ relV β ow w s (a.tmps.getD d undef) := fun e => by
      simp only [List.map_cons] at h
      rw [e] at h
      rcases List.mem_cons.1 h with h | h
      · cases h; exact h0
      · exact ih h hr
    cases s0 <;> try exact keep rfl
    rename_i k l
    simp only [List.map_cons, pinS] at h
    rcases List.mem_cons.1 h with h | h
    · cases h
      refine ⟨rfl, relV_of1 rfl ?_⟩
      simp only [rel]
      exact ⟨trivial, rfl, by have := relV_scalar (s := .sl k l) rfl rfl h0.2; simpa only [rel] using this⟩
    · exact ih h hr
theorem hold_rebase {w0 : World} {res : SV} {st : List It} {nt nx : Nat} {slots : List (Nat × SV)} (hi : (slots.all fun p => p.2.ids.isEmpty && !p.2.isTup) = true)
    (hk : ∀ (w1 : World) (vs : List Value), relVs (fun _ => 0) S w1 (slots.map (·.2)) vs → Hold P body (Fin P fn w1 S res) w1 S st ⟨nt, pinS slots vs, [], nx, 0⟩) : Hold P body (Fin P fn w0 S res) w0 S st ⟨nt, slots, [], nx, 0⟩ := by
  intro β a w hS
  have hall : ∀ p ∈ slots, p.2.ids = [] ∧ p.2.isTup = false := fun p hp => by
    have := List.all_eq_true.1 hi p hp
    simp only [Bool.and_eq_true, List.isEmpty_iff, Bool.not_eq_true'] at this
    exact this
  have how : ∀ b j, owS S [] β b j → S b j := by
    rintro b j (h | ⟨i, bk, hm, _⟩)
    · exact h
    · cases hm
  have how2 : ∀ b j, S b j → owS S [] β b j := fun b j h => .inl h
  have hrv : relVs (fun _ => 0) S w (slots.map (·.2)) (slots.map fun p => a.tmps.getD p.1 undef) := by
    have key : ∀ l : List (Nat × SV), (∀ p ∈ l, p ∈ slots) → relVs (fun _ => 0) S w (l.map (·.2)) (l.map fun p => a.tmps.getD p.1 undef) := by
      intro l
      induction l with
      | nil => intro _; exact rfl
      | cons p r ih =>
        intro h
        have hp := h p (by simp)
        refine ⟨_, _, rfl, ?_, ih fun q hq => h q (List.mem_cons_of_mem _ hq)⟩
        exact relV1_mono (fun b j _ h => how2 b j h) (Keep.refl _ _) (fun id hid => by rw [(hall p hp).1] at hid; cases hid) (relV_one (hall p hp).2 (hS.slot p.1 p.2 hp))
    exact key slots fun _ h => h
  have hSat : Sat (w : Fr) S ⟨nt, pinS slots (slots.map fun p => a.tmps.getD p.1 undef), [], nx, 0⟩ β a w := by
    have hsl : ∀ d s, (d, s) ∈ pinS slots (slots.map fun p => a.tmps.getD p.1 undef) → s.ids = [] ∧ relV β (owS S [] β) w s (a.tmps.getD d undef) := fun d s h =>
      pinS_mem h fun p hp => ⟨(hall p hp).1, hS.slot p.1 p.2 hp⟩
    refine ⟨hS.defs, hS.size, fun d s h => (hsl d s h).2, fun i bk h => (by cases h), fun i bk h => (by cases h), fun i j bi bj h => (by cases h), by simp, fun d s h i hi => ?_, fun i bk h => (by cases h), Bel.refl _, fun b j h => ⟨Nat.lt_of_lt_of_le (hS.lowS b j h).1 hS.ext.size, Fr.mut_world⟩, rfl, fun i hi => absurd hi (Nat.not_lt_zero _)⟩
    rw [(hsl d s h).1] at hi
    cases hi
  refine contQ_mono ?_ st _ a w (hk w _ hrv β a w hSat)
  intro e a' w' h
  cases e <;> simp only [Fin] at h ⊢
  · obtain ⟨h1, v, h2, h3, h4⟩ := h
    exact ⟨h1, v, h2, hS.ext.then h3.below, h4⟩
  · obtain ⟨h1, v, h2, h3, h4⟩ := h
    exact ⟨h1, v, h2, hS.ext.then h3.below, h4⟩
end
end Go.Eng

