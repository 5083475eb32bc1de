import Derived.Test.YtedccmojbmlkcaaE12
set_option linter.unusedVariables false
set_option linter.unusedSimpArgs false
set_option linter.unusedSectionVars false
namespace Go.Eng.B
open Go Go.Eng Go.Proofs
set_option maxRecDepth 100000
def eErr (n : Int) : Nat := if okE n = true then 0 else 1
def sE (prk info : List Nat) (g : List Nat → List Nat) (n : Int) (i : Nat) (nt : Nat) : St := ⟨nt, [(0, .sl .u8 prk), (1, .sl .u8 info), (2, .i .i64 n), (8, .row 0 (.sl .u8 (oE g prk info i))), (9, .sl .u8 (tE g prk info i)), (10, .u .i64 (i + 1))], [(0, bY)], 3, 0⟩
def stE : List It := [.lp [0, 1, 0, 1, 1, 1], .blk 0, .at [1, 1, 1, 1]]
noncomputable def KT3 (g h : List Nat → List Nat) : Ctr := addC 16 (eHm g) (addC 97 (eHm g) (addC 79 (eHm g) (addC 81 (eHm g) (addC 65 eJoin (addC 106 eJoin (ST g h))))))
noncomputable def KT2a (g h : List Nat → List Nat) : Ctr := addC 16 (eHm g) (addC 97 (eHm g) (ST g h))
section
variable {g h : List Nat → List Nat} (hg : g = sum32) (hh : h = sum64) {w0 : World} {S : Own} {res : SV}
include hg hh
theorem okKT2a : CtrOk Try.prog (KT2a g h) := addC_ok (addC_ok (okST hg hh) (eHm_ok (qhmac_c hg hh))) (eHm_ok (hmac_c hg hh))
theorem extract_c (k b : List Nat) (hk : k.length ≤ 900000) (hb : b.length ≤ 900000) : Contract Try.prog 79 [.sl .u8 k, .sl .u8 b] (.sl .u8 (hm g k b)) := by
  refine contract Try.func79 (body := bodyOf Try.f79) rfl (by kernel_rfl) (by kernel_rfl) rfl ?_
  intro _ w0 S
  exact hold_endw mixed (okKT2a hg hh) (unroll := true) (f := 100) (sc := []) (r := (SV.sl .u8 (hm g k b))) (ob := [k.length ≤ 900000, b.length ≤ 900000]) (sc' := []) (by kernel_rfl) (by repeat' first | exact trivial | omega | refine ⟨?_, ?_⟩) (wkR_of rfl)
theorem qextract_c (k b : List Nat) (hk : k.length ≤ 900000) (hb : b.length ≤ 900000) : Contract Try.prog 81 [.sl .u8 k, .sl .u8 b] (.sl .u8 (hm g k b)) := by
  refine contract Try.func81 (body := bodyOf Try.f81) rfl (by kernel_rfl) (by kernel_rfl) rfl ?_
  intro _ w0 S
  exact hold_endw mixed (okKT2a hg hh) (unroll := true) (f := 100) (sc := []) (r := (SV.sl .u8 (hm g k b))) (ob := [k.length ≤ 900000, b.length ≤ 900000]) (sc' := []) (by kernel_rfl) (by repeat' first | exact trivial | omega | refine ⟨?_, ?_⟩) (wkR_of rfl)
theorem okKT3 : CtrOk Try.prog (KT3 g h) := addC_ok (addC_ok (addC_ok (addC_ok (addC_ok (addC_ok (okST hg hh) qj_ok) pj_ok) (eHm_ok (qextract_c hg hh))) (eHm_ok (extract_c hg hh))) (eHm_ok (qhmac_c hg hh))) (eHm_ok (hmac_c hg hh))
theorem expand_l (prk info : List Nat) (n : Int) (hn : okE n = true) (hp : prk.length ≤ 900000) (hi : info.length ≤ 800000) (hr : res = .tup [.sl .u8 (expE g prk info n), .u .i64 0]) : ∀ d i, nE n - i = d → i ≤ nE n → Hold Try.prog (bodyOf Try.f15) (Fin Try.prog Try.f15 w0 S res) w0 S stE (sE prk info g n i 39) := by
  have hl : ∀ b, (g b).length = 32 := by rw [hg]; exact sum32_len
  have hn' : 0 ≤ n ∧ n ≤ 8160 := by simpa [okE] using hn
  intro d
  induction d using Nat.strongRecOn with
  | _ d ih =>
  intro i hd hi'
  have ho := oE_len hl prk info i
  have ht : (tE g prk info i).length ≤ 32 := by cases i with | zero => simp [tE] | succ i => rw [tE_len hl]; omega
  have hx : nE n = (n.toNat + 31) / 32 := rfl
  refine hold_unroll (c := _) rfl ?_
  by_cases hlt : i < nE n
  · have e := ih (nE n - (i + 1)) (by omega) (i + 1) rfl (by omega)
    refine hold_cut mixed (okKT3 hg hh) (unroll := false) (f := 300) (sc := [true]) (ks := [0,1,2,8,9,10]) (bs := [0]) (nx := 3) (st' := [It.lp [0, 1, 0, 1, 1, 1], It.blk 0, It.at [1, 1, 1, 1]]) (σ' := { nt := 39, slots := [(0, SV.sl .u8 prk), (1, SV.sl .u8 info), (2, SV.i .i64 n), (8, SV.row 0 (SV.sl .u8 (oE g prk info i ++ hm g prk (tE g prk info i ++ info ++ [(i + 1) % 256])))), (9, SV.sl .u8 (hm g prk (tE g prk info i ++ info ++ [(i + 1) % 256]))), (10, SV.u .i64 (i + 1 + 1))], blks := [(0, { ty := 5, segs := [], row := true })], next := 3 }) (ob := [Decidable.decide ((↑(oE g prk info i).length : Int) < n) = true, (tE g prk info i).length + info.length + [(i + 1) % 256].length ≤ 100000000, prk.length ≤ 900000, (tE g prk info i ++ info ++ [(i + 1) % 256]).length ≤ 900000, slenD (SV.sl .u8 (oE g prk info i ++ hm g prk (tE g prk info i ++ info ++ [(i + 1) % 256]))) * 1 ≤ 140737488355328, i + 1 + 1 < 9223372036854775808]) (sc' := []) (by kernel_rfl) (by repeat' first | exact trivial | exact decide_eq_true (by omega) | exact decide_eq_false (by omega) | omega | (simp only [decide_eq_true_eq, decide_eq_false_iff_not, slenD, SV.slen, Option.getD_some, List.length_append, List.length_cons, List.length_nil, hm_len hl, ho]; omega) | refine ⟨?_, ?_⟩) ?_
    exact e
  · have e : i = nE n := by omega
    subst e
    refine hold_endw mixed (okKT3 hg hh) (unroll := false) (f := 300) (sc := [false]) (r := (SV.tup [SV.sl .u8 (List.drop 0 (List.take n.toNat (oE g prk info (nE n)))), SV.c .i64 (0 : Int)])) (ob := [Decidable.decide ((↑(oE g prk info (nE n)).length : Int) < n) = false, (0 : Int) ≤ n, (0 : Int) ≤ n, 0 ≤ n.toNat, n.toNat ≤ n.toNat, n.toNat ≤ (oE g prk info (nE n)).length]) (sc' := []) (by kernel_rfl) (by repeat' first | exact trivial | exact decide_eq_true (by omega) | exact decide_eq_false (by omega) | omega | (simp only [decide_eq_true_eq, decide_eq_false_iff_not, slenD, SV.slen, Option.getD_some, List.length_append, List.length_cons, List.length_nil, hm_len hl, ho]; omega) | refine ⟨?_, ?_⟩) ?_
    rw [hr]
    unfold expE
    rw [if_pos hn]
    simp [wkR, wkl, wk, wk0, lim]
theorem expand_c (prk info : List Nat) (n : Int) (hp : prk.length ≤ 900000) (hi : info.length ≤ 800000) : Contract Try.prog 15 [.sl .u8 prk, .sl .u8 info, .i .i64 n] (.tup [.sl .u8 (expE g prk info n), .u .i64 (eErr n)]) := by
  refine contract Try.func15 (body := bodyOf Try.f15) rfl (by kernel_rfl) (by kernel_rfl) rfl ?_
  intro _ w0 S
  by_cases h1 : n < 0
  · have hk : ¬ okE n = true := by simp [okE]; omega
    refine hold_endw mixed (okKT3 hg hh) (unroll := true) (f := 100) (sc := [true]) (r := (SV.tup [SV.sl .u8 [], SV.c .i64 (1 : Int)])) (ob := [Decidable.decide (n < (0 : Int)) = true]) (sc' := []) (by kernel_rfl) (by repeat' first | exact trivial | exact decide_eq_true (by omega) | refine ⟨?_, ?_⟩) ?_
    unfold expE eErr; rw [if_neg hk, if_neg hk]; simp [wkR, wkl, wk, wk0, lim]
  by_cases h2 : n > 8160
  · have hk : ¬ okE n = true := by simp [okE]; omega
    refine hold_endw mixed (okKT3 hg hh) (unroll := true) (f := 100) (sc := [false, true]) (r := (SV.tup [SV.sl .u8 [], SV.c .i64 (1 : Int)])) (ob := [Decidable.decide (n < (0 : Int)) = false, Decidable.decide ((8160 : Int) < n) = true]) (sc' := []) (by kernel_rfl) (by repeat' first | exact trivial | exact decide_eq_true (by omega) | exact decide_eq_false (by omega) | refine ⟨?_, ?_⟩) ?_
    unfold expE eErr; rw [if_neg hk, if_neg hk]; simp [wkR, wkl, wk, wk0, lim]
  · have hk : okE n = true := by simp [okE]; omega
    refine hold_cut mixed (okKT3 hg hh) (unroll := false) (f := 100) (sc := [false, false]) (ks := [0,1,2,8,9,10]) (bs := []) (nx := 0) (st' := [It.lp [0, 1, 0, 1, 1, 1], It.blk 0, It.at [1, 1, 1, 1]]) (σ' := { nt := 39, slots := [(0, SV.sl .u8 prk), (1, SV.sl .u8 info), (2, SV.i .i64 n), (8, SV.nil), (9, SV.nil), (10, SV.c .i64 (1 : Int))], blks := [], next := 0 }) (ob := [Decidable.decide (n < (0 : Int)) = false, Decidable.decide ((8160 : Int) < n) = false]) (sc' := []) (by kernel_rfl) (by repeat' first | exact trivial | exact decide_eq_true (by omega) | exact decide_eq_false (by omega) | refine ⟨?_, ?_⟩) ?_
    refine hold_nil (t := 8) (e := 5) (s0 := .sl .u8 []) rfl ?_
    refine hold_restrict (ks := [0,1,2,8,9,10]) (bs := [0]) (nx := 3) rfl ?_
    exact Hold.weaken (expand_l hg hh prk info n hk hp hi (by unfold eErr; rw [if_pos hk]) _ 0 rfl (by omega)) (by simp [wks, wk, wk0, lim, sE, oE, tE])
theorem qexpand_l (prk info : List Nat) (n : Int) (hn : okE n = true) (hp : prk.length ≤ 900000) (hi : info.length ≤ 800000) (hr : res = .tup [.sl .u8 (expE g prk info n), .u .i64 0]) : ∀ d i, nE n - i = d → i ≤ nE n → Hold Try.prog (bodyOf Try.f83) (Fin Try.prog Try.f83 w0 S res) w0 S stE (sE prk info g n i 38) := by
  have hl : ∀ b, (g b).length = 32 := by rw [hg]; exact sum32_len
  have hn' : 0 ≤ n ∧ n ≤ 8160 := by simpa [okE] using hn
  intro d
  induction d using Nat.strongRecOn with
  | _ d ih =>
  intro i hd hi'
  have ho := oE_len hl prk info i
  have ht : (tE g prk info i).length ≤ 32 := by cases i with | zero => simp [tE] | succ i => rw [tE_len hl]; omega
  have hx : nE n = (n.toNat + 31) / 32 := rfl
  refine hold_unroll (c := _) rfl ?_
  by_cases hlt : i < nE n
  · have e := ih (nE n - (i + 1)) (by omega) (i + 1) rfl (by omega)
    refine hold_cut mixed (okKT3 hg hh) (unroll := false) (f := 300) (sc := [true]) (ks := [0,1,2,8,9,10]) (bs := [0]) (nx := 3) (st' := [It.lp [0, 1, 0, 1, 1, 1], It.blk 0, It.at [1, 1, 1, 1]]) (σ' := { nt := 38, slots := [(0, SV.sl .u8 prk), (1, SV.sl .u8 info), (2, SV.i .i64 n), (8, SV.row 0 (SV.sl .u8 (oE g prk info i ++ hm g prk (tE g prk info i ++ info ++ [(i + 1) % 256])))), (9, SV.sl .u8 (hm g prk (tE g prk info i ++ info ++ [(i + 1) % 256]))), (10, SV.u .i64 (i + 1 + 1))], blks := [(0, { ty := 5, segs := [], row := true })], next := 3 }) (ob := [Decidable.decide ((↑(oE g prk info i).length : Int) < n) = true, (tE g prk info i).length + info.length + [(i + 1) % 256].length ≤ 100000000, prk.length ≤ 900000, (tE g prk info i ++ info ++ [(i + 1) % 256]).length ≤ 900000, slenD (SV.sl .u8 (oE g prk info i ++ hm g prk (tE g prk info i ++ info ++ [(i + 1) % 256]))) * 1 ≤ 140737488355328, i + 1 + 1 < 9223372036854775808]) (sc' := []) (by kernel_rfl) (by repeat' first | exact trivial | exact decide_eq_true (by omega) | exact decide_eq_false (by omega) | omega | (simp only [decide_eq_true_eq, decide_eq_false_iff_not, slenD, SV.slen, Option.getD_some, List.length_append, List.length_cons, List.length_nil, hm_len hl, ho]; omega) | refine ⟨?_, ?_⟩) ?_
    exact e
  · have e : i = nE n := by omega
    subst e
    refine hold_endw mixed (okKT3 hg hh) (unroll := false) (f := 300) (sc := [false]) (r := (SV.tup [SV.sl .u8 (List.drop 0 (List.take n.toNat (oE g prk info (nE n)))), SV.c .i64 (0 : Int)])) (ob := [Decidable.decide ((↑(oE g prk info (nE n)).length : Int) < n) = false, (0 : Int) ≤ n, 0 ≤ n.toNat, n.toNat ≤ (oE g prk info (nE n)).length]) (sc' := []) (by kernel_rfl) (by repeat' first | exact trivial | exact decide_eq_true (by omega) | exact decide_eq_false (by omega) | omega | (simp only [decide_eq_true_eq, decide_eq_false_iff_not, slenD, SV.slen, Option.getD_some, List.length_append, List.length_cons, List.length_nil, hm_len hl, ho]; omega) | refine ⟨?_, ?_⟩) ?_
    rw [hr]
    unfold expE
    rw [if_pos hn]
    simp [wkR, wkl, wk, wk0, lim]
theorem qexpand_c (prk info : List Nat) (n : Int) (hp : prk.length ≤ 900000) (hi : info.length ≤ 800000) : Contract Try.prog 83 [.sl .u8 prk, .sl .u8 info, .i .i64 n] (.tup [.sl .u8 (expE g prk info n), .u .i64 (eErr n)]) := by
  refine contract Try.func83 (body := bodyOf Try.f83) rfl (by kernel_rfl) (by kernel_rfl) rfl ?_
  intro _ w0 S
  by_cases h1 : n < 0
  · have hk : ¬ okE n = true := by simp [okE]; omega
    refine hold_endw mixed (okKT3 hg hh) (unroll := true) (f := 100) (sc := [true]) (r := (SV.tup [SV.sl .u8 [], SV.c .i64 (1 : Int)])) (ob := [Decidable.decide (n < (0 : Int)) = true]) (sc' := []) (by kernel_rfl) (by repeat' first | exact trivial | exact decide_eq_true (by omega) | refine ⟨?_, ?_⟩) ?_
    unfold expE eErr; rw [if_neg hk, if_neg hk]; simp [wkR, wkl, wk, wk0, lim]
  by_cases h2 : n > 8160
  · have hk : ¬ okE n = true := by simp [okE]; omega
    refine hold_endw mixed (okKT3 hg hh) (unroll := true) (f := 100) (sc := [false, true]) (r := (SV.tup [SV.sl .u8 [], SV.c .i64 (1 : Int)])) (ob := [Decidable.decide (n < (0 : Int)) = false, Decidable.decide ((8160 : Int) < n) = true]) (sc' := []) (by kernel_rfl) (by repeat' first | exact trivial | exact decide_eq_true (by omega) | exact decide_eq_false (by omega) | refine ⟨?_, ?_⟩) ?_
    unfold expE eErr; rw [if_neg hk, if_neg hk]; simp [wkR, wkl, wk, wk0, lim]
  · have hk : okE n = true := by simp [okE]; omega
    refine hold_cut mixed (okKT3 hg hh) (unroll := false) (f := 100) (sc := [false, false]) (ks := [0,1,2,8,9,10]) (bs := []) (nx := 0) (st' := [It.lp [0, 1, 0, 1, 1, 1], It.blk 0, It.at [1, 1, 1, 1]]) (σ' := { nt := 38, slots := [(0, SV.sl .u8 prk), (1, SV.sl .u8 info), (2, SV.i .i64 n), (8, SV.nil), (9, SV.nil), (10, SV.c .i64 (1 : Int))], blks := [], next := 0 }) (ob := [Decidable.decide (n < (0 : Int)) = false, Decidable.decide ((8160 : Int) < n) = false]) (sc' := []) (by kernel_rfl) (by repeat' first | exact trivial | exact decide_eq_true (by omega) | exact decide_eq_false (by omega) | refine ⟨?_, ?_⟩) ?_
    refine hold_nil (t := 8) (e := 5) (s0 := .sl .u8 []) rfl ?_
    refine hold_restrict (ks := [0,1,2,8,9,10]) (bs := [0]) (nx := 3) rfl ?_
    exact Hold.weaken (qexpand_l hg hh prk info n hk hp hi (by unfold eErr; rw [if_pos hk]) _ 0 rfl (by omega)) (by simp [wks, wk, wk0, lim, sE, oE, tE])
end
def eExp (g : List Nat → List Nat) (args : List SV) : Option (SV × List Prop) :=
  match args with
  | [x, y, z] => match part? x, part? y, z.int? with
    | some prk, some info, some (.i64, n) => some (.tup [.sl .u8 (expE g prk info n), .u .i64 (eErr n)], [prk.length ≤ 900000, info.length ≤ 800000])
    | _, _, _ => none
  | _ => none
def nCa (k b : Int) : Nat := bl256 (64 + b) + bl256 96 + (if 64 < k then bl256 k else 0)
def bf (i : Nat) : Nat := if i = 0 then 0 else 32
def cE (k f : Int) : Nat → Nat
  | 0 => 0
  | i + 1 => cE k f i + nCa k (bf i + f + 1)
def eCa (args : List SV) : Option (SV × List Prop) :=
  match args with
  | [x, y] => match x.int?, y.int? with
    | some (.i64, k), some (.i64, b) => some (.u .i64 (nCa k b), [k ≤ 1099511627776, 0 ≤ b, b ≤ 1099511627776])
    | _, _ => none
  | _ => none
def eCE (args : List SV) : Option (SV × List Prop) :=
  match args with
  | [x, y, z] => match x.int?, y.int?, z.int? with
    | some (.i64, k), some (.i64, f), some (.i64, n) => some (.u .i64 (cE k f (nE n)), [k ≤ 1073741824, 0 ≤ f, f ≤ 1073741824, n ≤ 10000])
    | _, _, _ => none
  | _ => none
def stC : List It := [.lp [0, 0, 1, 1], .blk 0, .at [1, 1, 1]]
def sC (k f n : Int) (i : Nat) : St := ⟨22, [(0, .i .i64 k), (1, .i .i64 f), (2, .i .i64 (n - 32 * i)), (7, .u .i64 (cE k f i)), (8, .u .i64 (bf i))], [], 0, 0⟩
def stD : List It := [.lp [0, 1, 0, 1, 1], .blk 0, .at [1, 1, 1]]
def sD (k f n : Int) (i : Nat) : St := ⟨24, [(0, .i .i64 k), (1, .i .i64 f), (2, .i .i64 n), (7, .u .i64 (cE k f i)), (8, .u .i64 (bf i)), (9, .u .i64 (32 * i))], [], 0, 0⟩
theorem eExp_ok {P : Program} {f : FuncId} {g : List Nat → List Nat} (h : ∀ (prk info : List Nat) (n : Int), prk.length ≤ 900000 → info.length ≤ 800000 → Contract P f [.sl .u8 prk, .sl .u8 info, .i .i64 n] (.tup [.sl .u8 (expE g prk info n), .u .i64 (eErr n)])) : ∀ args res ob, eExp g args = some (res, ob) → All ob → Contract P f args res := by
  intro args res ob he hob
  unfold eExp at he
  split at he
  · split at he
    · rename_i hx hy hz
      cases he
      exact Contract.argsF (h _ _ _ hob.1 hob.2.1) ⟨wk_of0 (part_wk hx), wk_of0 (part_wk hy), int?_wk hz, rfl⟩
    · cases he
  · cases he
theorem bl_le (n : Int) : bl256 n ≤ n.toNat / 64 + 2 := by unfold bl256; split <;> omega
theorem bf_le (i : Nat) : bf i ≤ 32 := by unfold bf; split <;> omega
theorem nCa_le (k b : Int) (hk : k ≤ 1099511627776) (hb : b ≤ 1099511627776) : nCa k b ≤ 68719476736 := by
  unfold nCa
  have h1 := bl_le (64 + b); have h2 := bl_le 96; have h3 := bl_le k
  split <;> omega
theorem cE_le (k f : Int) (hk : k ≤ 1073741824) (hf : f ≤ 1073741824) : ∀ i, cE k f i ≤ 68719476736 * i := by
  intro i
  induction i with
  | zero => simp [cE]
  | succ i ih =>
    have := bf_le i
    have := nCa_le k (bf i + f + 1) (by omega) (by omega)
    simp only [cE]; omega
section
variable {g h : List Nat → List Nat} (hg : g = sum32) (hh : h = sum64) {w0 : World} {S : Own} {res : SV}
include hg hh
theorem calls_c (k b : Int) (hk : k ≤ 1099511627776) (hb0 : 0 ≤ b) (hb : b ≤ 1099511627776) : Contract Try.prog 18 [.i .i64 k, .i .i64 b] (.u .i64 (nCa k b)) := by
  refine contract Try.func18 (body := bodyOf Try.f18) rfl (by kernel_rfl) (by kernel_rfl) rfl ?_
  intro _ w0 S
  have h1 := bl_le (64 + b); have h2 := bl_le 96; have h3 := bl_le k
  by_cases hk64 : 64 < k
  · refine hold_endw mixed (okST hg hh) (unroll := true) (f := 100) (sc := [true]) (r := (SV.u .i64 (bl256 ((64 : Int) + b) + 2 + bl256 k))) (ob := [inR .i64 ((64 : Int) + b), (64 : Int) + b ≤ (1125899906842624 : Int), (96 : Int) ≤ (1125899906842624 : Int), bl256 ((64 : Int) + b) + 2 < 9223372036854775808, Decidable.decide ((64 : Int) < k) = true, k ≤ (1125899906842624 : Int), bl256 ((64 : Int) + b) + 2 + bl256 k < 9223372036854775808]) (sc' := []) (by kernel_rfl) (by repeat' first | exact trivial | exact decide_eq_true (by omega) | omega | (simp only [inR, lo, lim]; omega) | refine ⟨?_, ?_⟩) ?_
    unfold nCa; rw [if_pos hk64]; have h96 : bl256 96 = 2 := by decide
    first | (simp [wkR, wk, wk0, lim, h96]; done) | (simp [wkR, wk, wk0, lim, h96]; omega)
  · refine hold_endw mixed (okST hg hh) (unroll := true) (f := 100) (sc := [false]) (r := (SV.u .i64 (bl256 ((64 : Int) + b) + 2))) (ob := [inR .i64 ((64 : Int) + b), (64 : Int) + b ≤ (1125899906842624 : Int), (96 : Int) ≤ (1125899906842624 : Int), bl256 ((64 : Int) + b) + 2 < 9223372036854775808, Decidable.decide ((64 : Int) < k) = false]) (sc' := []) (by kernel_rfl) (by repeat' first | exact trivial | exact decide_eq_false (by omega) | omega | (simp only [inR, lo, lim]; omega) | refine ⟨?_, ?_⟩) ?_
    unfold nCa; rw [if_neg hk64]; have h96 : bl256 96 = 2 := by decide
    first | (simp [wkR, wk, wk0, lim, h96]; done) | (simp [wkR, wk, wk0, lim, h96]; omega)
theorem qcalls_c (k b : Int) (hk : k ≤ 1099511627776) (hb0 : 0 ≤ b) (hb : b ≤ 1099511627776) : Contract Try.prog 19 [.i .i64 k, .i .i64 b] (.u .i64 (nCa k b)) := by
  refine contract Try.func19 (body := bodyOf Try.f19) rfl (by kernel_rfl) (by kernel_rfl) rfl ?_
  intro _ w0 S
  have h1 := bl_le (64 + b); have h2 := bl_le 96; have h3 := bl_le k
  by_cases hk64 : 64 < k
  · refine hold_endw mixed (okST hg hh) (unroll := true) (f := 100) (sc := [true]) (r := (SV.u .i64 (bl256 ((64 : Int) + b) + 2 + bl256 k))) (ob := [inR .i64 ((64 : Int) + b), (64 : Int) + b ≤ (1125899906842624 : Int), (96 : Int) ≤ (1125899906842624 : Int), bl256 ((64 : Int) + b) + 2 < 9223372036854775808, Decidable.decide ((64 : Int) < k) = true, k ≤ (1125899906842624 : Int), bl256 ((64 : Int) + b) + 2 + bl256 k < 9223372036854775808]) (sc' := []) (by kernel_rfl) (by repeat' first | exact trivial | exact decide_eq_true (by omega) | omega | (simp only [inR, lo, lim]; omega) | refine ⟨?_, ?_⟩) ?_
    unfold nCa; rw [if_pos hk64]; have h96 : bl256 96 = 2 := by decide
    first | (simp [wkR, wk, wk0, lim, h96]; done) | (simp [wkR, wk, wk0, lim, h96]; omega)
  · refine hold_endw mixed (okST hg hh) (unroll := true) (f := 100) (sc := [false]) (r := (SV.u .i64 (bl256 ((64 : Int) + b) + 2))) (ob := [inR .i64 ((64 : Int) + b), (64 : Int) + b ≤ (1125899906842624 : Int), (96 : Int) ≤ (1125899906842624 : Int), bl256 ((64 : Int) + b) + 2 < 9223372036854775808, Decidable.decide ((64 : Int) < k) = false]) (sc' := []) (by kernel_rfl) (by repeat' first | exact trivial | exact decide_eq_false (by omega) | omega | (simp only [inR, lo, lim]; omega) | refine ⟨?_, ?_⟩) ?_
    unfold nCa; rw [if_neg hk64]; have h96 : bl256 96 = 2 := by decide
    first | (simp [wkR, wk, wk0, lim, h96]; done) | (simp [wkR, wk, wk0, lim, h96]; omega)
end
theorem eCa_ok {P : Program} {f : FuncId} (h : ∀ k b : Int, k ≤ 1099511627776 → 0 ≤ b → b ≤ 1099511627776 → Contract P f [.i .i64 k, .i .i64 b] (.u .i64 (nCa k b))) : ∀ args res ob, eCa args = some (res, ob) → All ob → Contract P f args res := by
  intro args res ob he hob
  unfold eCa at he
  split at he
  · split at he
    · rename_i hx hy
      cases he
      exact Contract.argsF (h _ _ hob.1 hob.2.1 hob.2.2.1) ⟨int?_wk hx, int?_wk hy, rfl⟩
    · cases he
  · cases he
theorem eCE_ok {P : Program} {f : FuncId} (h : ∀ k b n : Int, k ≤ 1073741824 → 0 ≤ b → b ≤ 1073741824 → n ≤ 10000 → Contract P f [.i .i64 k, .i .i64 b, .i .i64 n] (.u .i64 (cE k b (nE n)))) : ∀ args res ob, eCE args = some (res, ob) → All ob → Contract P f args res := by
  intro args res ob he hob
  unfold eCE at he
  split at he
  · split at he
    · rename_i hx hy hz
      cases he
      exact Contract.argsF (h _ _ _ hob.1 hob.2.1 hob.2.2.1 hob.2.2.2.1) ⟨int?_wk hx, int?_wk hy, int?_wk hz, rfl⟩
    · cases he
  · cases he
noncomputable def KT4 (g h : List Nat → List Nat) : Ctr := addC 18 eCa (addC 19 eCa (ST g h))
section
variable {g h : List Nat → List Nat} (hg : g = sum32) (hh : h = sum64) {w0 : World} {S : Own} {res : SV}
include hg hh
theorem okKT4 : CtrOk Try.prog (KT4 g h) := addC_ok (addC_ok (okST hg hh) (eCa_ok (qcalls_c hg hh))) (eCa_ok (calls_c hg hh))
theorem xcalls_l (k f n : Int) (hk : k ≤ 1073741824) (hf0 : 0 ≤ f) (hf : f ≤ 1073741824) (hn : n ≤ 10000) (hr : res = .u .i64 (cE k f (nE n))) (hn0 : inR .i64 n) : ∀ d i, nE n - i = d → i ≤ nE n → Hold Try.prog (bodyOf Try.f20) (Fin Try.prog Try.f20 w0 S res) w0 S stC (sC k f n i) := by
  intro d
  induction d using Nat.strongRecOn with
  | _ d ih =>
  intro i hd hi'
  have hx : nE n = (n.toNat + 31) / 32 := rfl
  have hb := bf_le i
  have hc := cE_le k f hk hf i
  have hc2 := cE_le k f hk hf (i + 1)
  have hs : cE k f (i + 1) = cE k f i + nCa k (bf i + f + 1) := rfl
  simp only [inR, lo, lim] at hn0
  refine hold_unroll (c := _) rfl ?_
  by_cases hlt : i < nE n
  · have e := ih (nE n - (i + 1)) (by omega) (i + 1) rfl (by omega)
    refine hold_cut mixed (okKT4 hg hh) (unroll := false) (f := 300) (sc := [true]) (ks := [0,1,2,7,8]) (bs := []) (nx := 0) (st' := [It.lp [0, 0, 1, 1], It.blk 0, It.at [1, 1, 1]]) (σ' := { nt := 22, slots := [(0, SV.i .i64 k), (1, SV.i .i64 f), (2, SV.i .i64 (n - (32 : Int) * (↑i : Int) - (32 : Int))), (7, SV.u .i64 (cE k f i + nCa k ((↑(bf i) : Int) + f + (1 : Int)))), (8, SV.c .i64 (32 : Int))], blks := [], next := 0 }) (ob := [Decidable.decide ((0 : Int) < n - (32 : Int) * (↑i : Int)) = true, inR .i64 ((↑(bf i) : Int) + f), inR .i64 ((↑(bf i) : Int) + f + (1 : Int)), k ≤ (1099511627776 : Int), (0 : Int) ≤ (↑(bf i) : Int) + f + (1 : Int), (↑(bf i) : Int) + f + (1 : Int) ≤ (1099511627776 : Int), cE k f i + nCa k ((↑(bf i) : Int) + f + (1 : Int)) < 9223372036854775808, inR .i64 (n - (32 : Int) * (↑i : Int) - (32 : Int))]) (sc' := []) (by kernel_rfl) (by repeat' first | exact trivial | exact decide_eq_true (by omega) | exact decide_eq_false (by omega) | omega | (simp only [inR, lo, lim]; omega) | refine ⟨?_, ?_⟩) ?_
    refine Hold.weaken e ?_
    simp only [wks, wk, wk0, sC, bf, lim, hs]
    first | omega | (simp; omega) | skip
  · have e : i = nE n := by omega
    subst e
    refine hold_endw mixed (okKT4 hg hh) (unroll := false) (f := 300) (sc := [false]) (r := (SV.u .i64 (cE k f (nE n)))) (ob := [Decidable.decide ((0 : Int) < n - (32 : Int) * (↑(nE n) : Int)) = false]) (sc' := []) (by kernel_rfl) (by repeat' first | exact trivial | exact decide_eq_true (by omega) | exact decide_eq_false (by omega) | omega | (simp only [inR, lo, lim]; omega) | refine ⟨?_, ?_⟩) ?_
    rw [hr]; exact wkR_of rfl
theorem xcalls_c (k f n : Int) (hk : k ≤ 1073741824) (hf0 : 0 ≤ f) (hf : f ≤ 1073741824) (hn : n ≤ 10000) : Contract Try.prog 20 [.i .i64 k, .i .i64 f, .i .i64 n] (.u .i64 (cE k f (nE n))) := by
  refine contract Try.func20 (body := bodyOf Try.f20) rfl (by kernel_rfl) (by kernel_rfl) rfl ?_
  rintro ⟨_, _, hn0, _⟩ w0 S
  refine hold_cut mixed (okKT4 hg hh) (unroll := false) (f := 100) (sc := []) (ks := [0,1,2,7,8]) (bs := []) (nx := 0) (st' := [It.lp [0, 0, 1, 1], It.blk 0, It.at [1, 1, 1]]) (σ' := { nt := 22, slots := [(0, SV.i .i64 k), (1, SV.i .i64 f), (2, SV.i .i64 n), (7, SV.c .i64 (0 : Int)), (8, SV.c .i64 (0 : Int))], blks := [], next := 0 }) (ob := []) (sc' := []) (by kernel_rfl) trivial ?_
  exact Hold.weaken (xcalls_l hg hh k f n hk hf0 hf hn rfl hn0 _ 0 rfl (by omega)) (by simp [wks, wk, wk0, lim, sC, cE, bf])
theorem qxcalls_l (k f n : Int) (hk : k ≤ 1073741824) (hf0 : 0 ≤ f) (hf : f ≤ 1073741824) (hn : n ≤ 10000) (hr : res = .u .i64 (cE k f (nE n))) (hn0 : inR .i64 n) : ∀ d i, nE n - i = d → i ≤ nE n → Hold Try.prog (bodyOf Try.f21) (Fin Try.prog Try.f21 w0 S res) w0 S stD (sD k f n i) := by
  intro d
  induction d using Nat.strongRecOn with
  | _ d ih =>
  intro i hd hi'
  have hx : nE n = (n.toNat + 31) / 32 := rfl
  have hb := bf_le i
  have hc := cE_le k f hk hf i
  have hc2 := cE_le k f hk hf (i + 1)
  have hs : cE k f (i + 1) = cE k f i + nCa k (bf i + f + 1) := rfl
  simp only [inR, lo, lim] at hn0
  refine hold_unroll (c := _) rfl ?_
  by_cases hlt : i < nE n
  · have e := ih (nE n - (i + 1)) (by omega) (i + 1) rfl (by omega)
    refine hold_cut mixed (okKT4 hg hh) (unroll := false) (f := 300) (sc := [true]) (ks := [0,1,2,7,8,9]) (bs := []) (nx := 0) (st' := [It.lp [0, 1, 0, 1, 1], It.blk 0, It.at [1, 1, 1]]) (σ' := { nt := 24, slots := [(0, SV.i .i64 k), (1, SV.i .i64 f), (2, SV.i .i64 n), (7, SV.u .i64 (cE k f i + nCa k ((↑(bf i) : Int) + f + (1 : Int)))), (8, SV.c .i64 (32 : Int)), (9, SV.u .i64 (32 * i + 32))], blks := [], next := 0 }) (ob := [Decidable.decide ((↑(32 * i) : Int) < n) = true, inR .i64 ((↑(bf i) : Int) + f), inR .i64 ((↑(bf i) : Int) + f + (1 : Int)), k ≤ (1099511627776 : Int), (0 : Int) ≤ (↑(bf i) : Int) + f + (1 : Int), (↑(bf i) : Int) + f + (1 : Int) ≤ (1099511627776 : Int), cE k f i + nCa k ((↑(bf i) : Int) + f + (1 : Int)) < 9223372036854775808, 32 * i + 32 < 9223372036854775808]) (sc' := []) (by kernel_rfl) (by repeat' first | exact trivial | exact decide_eq_true (by omega) | exact decide_eq_false (by omega) | omega | (simp only [inR, lo, lim]; omega) | refine ⟨?_, ?_⟩) ?_
    refine Hold.weaken e ?_
    simp only [wks, wk, wk0, sD, bf, lim, hs]
    first | omega | (simp; omega) | skip
  · have e : i = nE n := by omega
    subst e
    refine hold_endw mixed (okKT4 hg hh) (unroll := false) (f := 300) (sc := [false]) (r := (SV.u .i64 (cE k f (nE n)))) (ob := [Decidable.decide ((↑(32 * nE n) : Int) < n) = false]) (sc' := []) (by kernel_rfl) (by repeat' first | exact trivial | exact decide_eq_true (by omega) | exact decide_eq_false (by omega) | omega | (simp only [inR, lo, lim]; omega) | refine ⟨?_, ?_⟩) ?_
    rw [hr]; exact wkR_of rfl
theorem qxcalls_c (k f n : Int) (hk : k ≤ 1073741824) (hf0 : 0 ≤ f) (hf : f ≤ 1073741824) (hn : n ≤ 10000) : Contract Try.prog 21 [.i .i64 k, .i .i64 f, .i .i64 n] (.u .i64 (cE k f (nE n))) := by
  refine contract Try.func21 (body := bodyOf Try.f21) rfl (by kernel_rfl) (by kernel_rfl) rfl ?_
  rintro ⟨_, _, hn0, _⟩ w0 S
  refine hold_cut mixed (okKT4 hg hh) (unroll := false) (f := 100) (sc := []) (ks := [0,1,2,7,8,9]) (bs := []) (nx := 0) (st' := [It.lp [0, 1, 0, 1, 1], It.blk 0, It.at [1, 1, 1]]) (σ' := { nt := 24, slots := [(0, SV.i .i64 k), (1, SV.i .i64 f), (2, SV.i .i64 n), (7, SV.c .i64 (0 : Int)), (8, SV.c .i64 (0 : Int)), (9, SV.c .i64 (0 : Int))], blks := [], next := 0 }) (ob := []) (sc' := []) (by kernel_rfl) trivial ?_
  exact Hold.weaken (qxcalls_l hg hh k f n hk hf0 hf hn rfl hn0 _ 0 rfl (by omega)) (by simp [wks, wk, wk0, lim, sD, cE, bf])
end
end Go.Eng.B

namespace Go.Eng.B
open Go Go.Eng Go.Proofs
set_option maxRecDepth 100000
def eShort (args : List SV) : Option (SV × List Prop) :=
  match args with
  | [x] => match part? x with
    | some b => some (.b (decide (b.length ≤ 600)), [])
    | _ => none
  | _ => none
noncomputable def KT5a (g h : List Nat → List Nat) : Ctr := addC 12 eShort (addC 47 eSome (addC 15 (eExp g) (addC 83 (eExp g) (addC 20 eCE (addC 21 eCE (addC 18 eCa (addC 19 eCa (KT3 g h))))))))
noncomputable def KT5 (g h : List Nat → List Nat) : Ctr := addC 13 eT (KT5a g h)
theorem short_c (b : List Nat) : Contract Try.prog 12 [.sl .u8 b] (.b (decide (b.length ≤ 600))) := by
  refine contract Try.func12 (body := bodyOf Try.f12) rfl (by kernel_rfl) (by kernel_rfl) rfl ?_
  intro _ w0 S
  exact hold_endw mixed ctr0_ok (unroll := true) (f := 100) (sc := []) (r := (SV.b (Decidable.decide (b.length ≤ 600)))) (ob := []) (sc' := []) (by kernel_rfl) trivial (wkR_of rfl)
theorem short_ok : ∀ args res ob, eShort args = some (res, ob) → All ob → Contract Try.prog 12 args res := by
  intro args res ob he hob
  unfold eShort at he
  split at he
  · split at he
    · rename_i hx
      cases he
      exact Contract.argsF (short_c _) ⟨wk_of0 (part_wk hx), rfl⟩
    · cases he
  · cases he
theorem hm_hi : hm sum32 [11, 11, 11, 11, 11, 11, 11, 11, 11, 11, 11, 11, 11, 11, 11, 11, 11, 11, 11, 11] [72, 105, 32, 84, 104, 101, 114, 101] = [176, 52, 76, 97, 216, 219, 56, 83, 92, 168, 175, 206, 175, 11, 241, 43, 136, 29, 194, 0, 201, 131, 61, 167, 38, 233, 55, 108, 46, 50, 207, 247] := by kernel_rfl
section
variable {g h : List Nat → List Nat} (hg : g = sum32) (hh : h = sum64) {w0 : World} {S : Own} {res : SV}
include hg hh
theorem okKT5a : CtrOk Try.prog (KT5a g h) := addC_ok (addC_ok (addC_ok (addC_ok (addC_ok (addC_ok (addC_ok (addC_ok (okKT3 hg hh) (eCa_ok (qcalls_c hg hh))) (eCa_ok (calls_c hg hh))) (eCE_ok (qxcalls_c hg hh))) (eCE_ok (xcalls_c hg hh))) (eExp_ok (qexpand_c hg hh))) (eExp_ok (expand_c hg hh))) some_ok) short_ok
theorem awake5_c : Contract Try.prog 13 [] (.cb true) := by
  refine contract Try.func13 (body := bodyOf Try.f13) rfl (by kernel_rfl) (by kernel_rfl) rfl ?_
  intro _ w0 S
  have ha : hm g [11, 11, 11, 11, 11, 11, 11, 11, 11, 11, 11, 11, 11, 11, 11, 11, 11, 11, 11, 11] [72, 105, 32, 84, 104, 101, 114, 101] = [176, 52, 76, 97, 216, 219, 56, 83, 92, 168, 175, 206, 175, 11, 241, 43, 136, 29, 194, 0, 201, 131, 61, 167, 38, 233, 55, 108, 46, 50, 207, 247] := by rw [hg]; exact hm_hi
  have he : eErr (-1) = 1 := rfl
  rcases Bool.eq_false_or_eq_true ((hm g [11, 11, 11, 11, 11, 11, 11, 11, 11, 11, 11, 11, 11, 11, 11, 11, 11, 11, 11, 11] [72, 105, 32, 84, 104, 101, 114, 101]).length == 32) with hc0 | hc0
  · have hd0 := eq_of_beq hc0
    rcases Bool.eq_false_or_eq_true ((hm g [11, 11, 11, 11, 11, 11, 11, 11, 11, 11, 11, 11, 11, 11, 11, 11, 11, 11, 11, 11] [72, 105, 32, 84, 104, 101, 114, 101]).getD 0 0 == 176) with hc1 | hc1
    · have hd1 := eq_of_beq hc1
      rcases Bool.eq_false_or_eq_true ((hm g [11, 11, 11, 11, 11, 11, 11, 11, 11, 11, 11, 11, 11, 11, 11, 11, 11, 11, 11, 11] [72, 105, 32, 84, 104, 101, 114, 101]).getD 1 0 == 52) with hc2 | hc2
      · have hd2 := eq_of_beq hc2
        rcases Bool.eq_false_or_eq_true ((hm g [11, 11, 11, 11, 11, 11, 11, 11, 11, 11, 11, 11, 11, 11, 11, 11, 11, 11, 11, 11] [72, 105, 32, 84, 104, 101, 114, 101]).getD 31 0 == 247) with hc3 | hc3
        · have hd3 := eq_of_beq hc3
          refine hold_endw mixed (okKT5a hg hh) (unroll := true) (f := 200) (sc := [true, true, true, true]) (r := (SV.b true)) (ob := [20 ≤ 900000, 8 ≤ 900000, (hm g [11, 11, 11, 11, 11, 11, 11, 11, 11, 11, 11, 11, 11, 11, 11, 11, 11, 11, 11, 11] [72, 105, 32, 84, 104, 101, 114, 101]).length ≤ 900000, 0 ≤ 800000, ((hm g [11, 11, 11, 11, 11, 11, 11, 11, 11, 11, 11, 11, 11, 11, 11, 11, 11, 11, 11, 11] [72, 105, 32, 84, 104, 101, 114, 101]).length == 32) = true, 0 < (hm g [11, 11, 11, 11, 11, 11, 11, 11, 11, 11, 11, 11, 11, 11, 11, 11, 11, 11, 11, 11] [72, 105, 32, 84, 104, 101, 114, 101]).length, ((hm g [11, 11, 11, 11, 11, 11, 11, 11, 11, 11, 11, 11, 11, 11, 11, 11, 11, 11, 11, 11] [72, 105, 32, 84, 104, 101, 114, 101]).getD 0 0 == 176) = true, 1 < (hm g [11, 11, 11, 11, 11, 11, 11, 11, 11, 11, 11, 11, 11, 11, 11, 11, 11, 11, 11, 11] [72, 105, 32, 84, 104, 101, 114, 101]).length, ((hm g [11, 11, 11, 11, 11, 11, 11, 11, 11, 11, 11, 11, 11, 11, 11, 11, 11, 11, 11, 11] [72, 105, 32, 84, 104, 101, 114, 101]).getD 1 0 == 52) = true, 31 < (hm g [11, 11, 11, 11, 11, 11, 11, 11, 11, 11, 11, 11, 11, 11, 11, 11, 11, 11, 11, 11] [72, 105, 32, 84, 104, 101, 114, 101]).length, ((hm g [11, 11, 11, 11, 11, 11, 11, 11, 11, 11, 11, 11, 11, 11, 11, 11, 11, 11, 11, 11] [72, 105, 32, 84, 104, 101, 114, 101]).getD 31 0 == 247) = true]) (sc' := []) (by kernel_rfl) ?_ ?_
          · exact ⟨(by first | trivial | omega | decide | (rw [ha]; decide)), (by first | trivial | omega | decide | (rw [ha]; decide)), (by first | trivial | omega | decide | (rw [ha]; decide)), (by first | trivial | omega | decide | (rw [ha]; decide)), hc0, (by first | trivial | omega | decide | (rw [ha]; decide)), hc1, (by first | trivial | omega | decide | (rw [ha]; decide)), hc2, (by first | trivial | omega | decide | (rw [ha]; decide)), hc3, trivial⟩
          · first | (exfalso; simp_all; done) | (simp_all [wkR, wk, wk0]; done)
        · have hd3 := ne_of_beq_false hc3
          refine hold_endw mixed (okKT5a hg hh) (unroll := true) (f := 200) (sc := [true, true, true, false]) (r := (SV.cb false)) (ob := [20 ≤ 900000, 8 ≤ 900000, (hm g [11, 11, 11, 11, 11, 11, 11, 11, 11, 11, 11, 11, 11, 11, 11, 11, 11, 11, 11, 11] [72, 105, 32, 84, 104, 101, 114, 101]).length ≤ 900000, 0 ≤ 800000, ((hm g [11, 11, 11, 11, 11, 11, 11, 11, 11, 11, 11, 11, 11, 11, 11, 11, 11, 11, 11, 11] [72, 105, 32, 84, 104, 101, 114, 101]).length == 32) = true, 0 < (hm g [11, 11, 11, 11, 11, 11, 11, 11, 11, 11, 11, 11, 11, 11, 11, 11, 11, 11, 11, 11] [72, 105, 32, 84, 104, 101, 114, 101]).length, ((hm g [11, 11, 11, 11, 11, 11, 11, 11, 11, 11, 11, 11, 11, 11, 11, 11, 11, 11, 11, 11] [72, 105, 32, 84, 104, 101, 114, 101]).getD 0 0 == 176) = true, 1 < (hm g [11, 11, 11, 11, 11, 11, 11, 11, 11, 11, 11, 11, 11, 11, 11, 11, 11, 11, 11, 11] [72, 105, 32, 84, 104, 101, 114, 101]).length, ((hm g [11, 11, 11, 11, 11, 11, 11, 11, 11, 11, 11, 11, 11, 11, 11, 11, 11, 11, 11, 11] [72, 105, 32, 84, 104, 101, 114, 101]).getD 1 0 == 52) = true, 31 < (hm g [11, 11, 11, 11, 11, 11, 11, 11, 11, 11, 11, 11, 11, 11, 11, 11, 11, 11, 11, 11] [72, 105, 32, 84, 104, 101, 114, 101]).length, ((hm g [11, 11, 11, 11, 11, 11, 11, 11, 11, 11, 11, 11, 11, 11, 11, 11, 11, 11, 11, 11] [72, 105, 32, 84, 104, 101, 114, 101]).getD 31 0 == 247) = false]) (sc' := []) (by kernel_rfl) ?_ ?_
          · exact ⟨(by first | trivial | omega | decide | (rw [ha]; decide)), (by first | trivial | omega | decide | (rw [ha]; decide)), (by first | trivial | omega | decide | (rw [ha]; decide)), (by first | trivial | omega | decide | (rw [ha]; decide)), hc0, (by first | trivial | omega | decide | (rw [ha]; decide)), hc1, (by first | trivial | omega | decide | (rw [ha]; decide)), hc2, (by first | trivial | omega | decide | (rw [ha]; decide)), hc3, trivial⟩
          · first | (exfalso; simp_all; done) | (simp_all [wkR, wk, wk0]; done)
      · have hd2 := ne_of_beq_false hc2
        refine hold_endw mixed (okKT5a hg hh) (unroll := true) (f := 200) (sc := [true, true, false]) (r := (SV.cb false)) (ob := [20 ≤ 900000, 8 ≤ 900000, (hm g [11, 11, 11, 11, 11, 11, 11, 11, 11, 11, 11, 11, 11, 11, 11, 11, 11, 11, 11, 11] [72, 105, 32, 84, 104, 101, 114, 101]).length ≤ 900000, 0 ≤ 800000, ((hm g [11, 11, 11, 11, 11, 11, 11, 11, 11, 11, 11, 11, 11, 11, 11, 11, 11, 11, 11, 11] [72, 105, 32, 84, 104, 101, 114, 101]).length == 32) = true, 0 < (hm g [11, 11, 11, 11, 11, 11, 11, 11, 11, 11, 11, 11, 11, 11, 11, 11, 11, 11, 11, 11] [72, 105, 32, 84, 104, 101, 114, 101]).length, ((hm g [11, 11, 11, 11, 11, 11, 11, 11, 11, 11, 11, 11, 11, 11, 11, 11, 11, 11, 11, 11] [72, 105, 32, 84, 104, 101, 114, 101]).getD 0 0 == 176) = true, 1 < (hm g [11, 11, 11, 11, 11, 11, 11, 11, 11, 11, 11, 11, 11, 11, 11, 11, 11, 11, 11, 11] [72, 105, 32, 84, 104, 101, 114, 101]).length, ((hm g [11, 11, 11, 11, 11, 11, 11, 11, 11, 11, 11, 11, 11, 11, 11, 11, 11, 11, 11, 11] [72, 105, 32, 84, 104, 101, 114, 101]).getD 1 0 == 52) = false]) (sc' := []) (by kernel_rfl) ?_ ?_
        · exact ⟨(by first | trivial | omega | decide | (rw [ha]; decide)), (by first | trivial | omega | decide | (rw [ha]; decide)), (by first | trivial | omega | decide | (rw [ha]; decide)), (by first | trivial | omega | decide | (rw [ha]; decide)), hc0, (by first | trivial | omega | decide | (rw [ha]; decide)), hc1, (by first | trivial | omega | decide | (rw [ha]; decide)), hc2, trivial⟩
        · first | (exfalso; simp_all; done) | (simp_all [wkR, wk, wk0]; done)
    · have hd1 := ne_of_beq_false hc1
      refine hold_endw mixed (okKT5a hg hh) (unroll := true) (f := 200) (sc := [true, false]) (r := (SV.cb false)) (ob := [20 ≤ 900000, 8 ≤ 900000, (hm g [11, 11, 11, 11, 11, 11, 11, 11, 11, 11, 11, 11, 11, 11, 11, 11, 11, 11, 11, 11] [72, 105, 32, 84, 104, 101, 114, 101]).length ≤ 900000, 0 ≤ 800000, ((hm g [11, 11, 11, 11, 11, 11, 11, 11, 11, 11, 11, 11, 11, 11, 11, 11, 11, 11, 11, 11] [72, 105, 32, 84, 104, 101, 114, 101]).length == 32) = true, 0 < (hm g [11, 11, 11, 11, 11, 11, 11, 11, 11, 11, 11, 11, 11, 11, 11, 11, 11, 11, 11, 11] [72, 105, 32, 84, 104, 101, 114, 101]).length, ((hm g [11, 11, 11, 11, 11, 11, 11, 11, 11, 11, 11, 11, 11, 11, 11, 11, 11, 11, 11, 11] [72, 105, 32, 84, 104, 101, 114, 101]).getD 0 0 == 176) = false]) (sc' := []) (by kernel_rfl) ?_ ?_
      · exact ⟨(by first | trivial | omega | decide | (rw [ha]; decide)), (by first | trivial | omega | decide | (rw [ha]; decide)), (by first | trivial | omega | decide | (rw [ha]; decide)), (by first | trivial | omega | decide | (rw [ha]; decide)), hc0, (by first | trivial | omega | decide | (rw [ha]; decide)), hc1, trivial⟩
      · first | (exfalso; simp_all; done) | (simp_all [wkR, wk, wk0]; done)
  · have hd0 := ne_of_beq_false hc0
    refine hold_endw mixed (okKT5a hg hh) (unroll := true) (f := 200) (sc := [false]) (r := (SV.cb false)) (ob := [20 ≤ 900000, 8 ≤ 900000, (hm g [11, 11, 11, 11, 11, 11, 11, 11, 11, 11, 11, 11, 11, 11, 11, 11, 11, 11, 11, 11] [72, 105, 32, 84, 104, 101, 114, 101]).length ≤ 900000, 0 ≤ 800000, ((hm g [11, 11, 11, 11, 11, 11, 11, 11, 11, 11, 11, 11, 11, 11, 11, 11, 11, 11, 11, 11] [72, 105, 32, 84, 104, 101, 114, 101]).length == 32) = false]) (sc' := []) (by kernel_rfl) ?_ ?_
    · exact ⟨(by first | trivial | omega | decide | (rw [ha]; decide)), (by first | trivial | omega | decide | (rw [ha]; decide)), (by first | trivial | omega | decide | (rw [ha]; decide)), (by first | trivial | omega | decide | (rw [ha]; decide)), hc0, trivial⟩
    · first | (exfalso; simp_all; done) | (simp_all [wkR, wk, wk0]; done)
theorem okKT5 : CtrOk Try.prog (KT5 g h) := addC_ok (okKT5a hg hh) (eT_ok (awake5_c hg hh))
end
end Go.Eng.B

