import Derived.Test.YthaabhoopofnhaaE10
set_option linter.unusedVariables false
set_option linter.unusedSimpArgs false
set_option linter.unusedSectionVars false
namespace Go.Eng.B
def xorL (m : Nat) (l : List Nat) : List Nat := l.map fun x => x ^^^ m
def kk (g : List Nat → List Nat) (key : List Nat) : List Nat := if 64 < key.length then g key else key
def zf (k : List Nat) : List Nat := k ++ List.replicate (64 - k.length) 0
def k64 (g : List Nat → List Nat) (key : List Nat) : List Nat := zf (kk g key)
def hm (g : List Nat → List Nat) (key b : List Nat) : List Nat := g (xorL 92 (k64 g key) ++ g (xorL 54 (k64 g key) ++ b))
def tE (g : List Nat → List Nat) (prk info : List Nat) : Nat → List Nat
  | 0 => []
  | i + 1 => hm g prk (tE g prk info i ++ info ++ [(i + 1) % 256])
def oE (g : List Nat → List Nat) (prk info : List Nat) : Nat → List Nat
  | 0 => []
  | i + 1 => oE g prk info i ++ tE g prk info (i + 1)
def okE (n : Int) : Bool := decide (0 ≤ n) && decide (n ≤ 8160)
def nE (n : Int) : Nat := (n.toNat + 31) / 32
def expE (g : List Nat → List Nat) (prk info : List Nat) (n : Int) : List Nat := if okE n = true then (oE g prk info (nE n)).take n.toNat else []
theorem xorL_len (m : Nat) (l : List Nat) : (xorL m l).length = l.length := by simp [xorL]
theorem xorL_nil (m : Nat) : xorL m [] = [] := rfl
theorem xorL_snoc (m x : Nat) (l : List Nat) : xorL m (l ++ [x]) = xorL m l ++ [x ^^^ m] := by simp [xorL]
theorem xorL_take (m : Nat) (l : List Nat) (i : Nat) (h : i < l.length) : xorL m (l.take (i + 1)) = xorL m (l.take i) ++ [l.getD i 0 ^^^ m] := by
  rw [← xorL_snoc]; congr 1
  rw [List.take_add_one, List.getD_eq_getElem?_getD, List.getElem?_eq_getElem h]; rfl
theorem mix_get (m : Nat) (l : List Nat) (i : Nat) (h : i < l.length) : (xorL m (l.take i) ++ l.drop i).getD i 0 = l.getD i 0 := by
  rw [List.getD_eq_getElem?_getD, List.getElem?_append_right (by simp [xorL]; omega)]
  simp only [xorL_len, List.length_take, List.getElem?_drop, List.getD_eq_getElem?_getD]
  congr 2; omega
theorem mix_set (m : Nat) (l : List Nat) (i : Nat) (h : i < l.length) : (xorL m (l.take i) ++ l.drop i).set i (l.getD i 0 ^^^ m) = xorL m (l.take (i + 1)) ++ l.drop (i + 1) := by
  rw [xorL_take m l i h]
  rw [List.set_append_right _ _ (by simp [xorL]; omega)]
  rw [xorL_len, List.length_take, show i - min i l.length = 0 by omega, List.append_assoc]
  congr 1
  rw [List.drop_eq_getElem_cons h]; rfl
theorem kk_len {g : List Nat → List Nat} (hg : ∀ b, (g b).length = 32) (key : List Nat) : (kk g key).length ≤ 64 := by
  unfold kk; split
  · rw [hg]; omega
  · omega
theorem zf_len {k : List Nat} (h : k.length ≤ 64) : (zf k).length = 64 := by simp [zf]; omega
theorem k64_len {g : List Nat → List Nat} (hg : ∀ b, (g b).length = 32) (key : List Nat) : (k64 g key).length = 64 := zf_len (kk_len hg key)
theorem hm_len {g : List Nat → List Nat} (hg : ∀ b, (g b).length = 32) (key b : List Nat) : (hm g key b).length = 32 := hg _
theorem tE_len {g : List Nat → List Nat} (hg : ∀ b, (g b).length = 32) (prk info : List Nat) (i : Nat) : (tE g prk info (i + 1)).length = 32 := hg _
theorem oE_len {g : List Nat → List Nat} (hg : ∀ b, (g b).length = 32) (prk info : List Nat) : ∀ i, (oE g prk info i).length = 32 * i := by
  intro i
  induction i with
  | zero => rfl
  | succ i ih => simp only [oE, List.length_append, ih, tE_len hg]; omega
theorem expE_len {g : List Nat → List Nat} (hg : ∀ b, (g b).length = 32) (prk info : List Nat) {n : Int} (h : okE n = true) : (expE g prk info n).length = n.toNat := by
  unfold expE; rw [if_pos h, List.length_take, oE_len hg]; unfold nE; omega
theorem oE_pre (g : List Nat → List Nat) (prk info : List Nat) : ∀ {i j : Nat}, i ≤ j → ∃ r, oE g prk info j = oE g prk info i ++ r := by
  intro i j h
  induction j with
  | zero => exact ⟨[], by rw [show i = 0 by omega]; simp⟩
  | succ j ih =>
    rcases Nat.eq_or_lt_of_le h with e | h
    · subst e; exact ⟨[], by simp⟩
    · obtain ⟨r, hr⟩ := ih (by omega)
      exact ⟨r ++ tE g prk info (j + 1), by simp only [oE, hr, List.append_assoc]⟩
theorem zf_zero {k : List Nat} (h : k.length < 64) : zf (k ++ [0]) = zf k := by
  unfold zf
  rw [List.append_assoc]
  congr 1
  rw [List.length_append, List.length_singleton, show 64 - k.length = 64 - (k.length + 1) + 1 by omega, List.replicate_succ]
  rfl
theorem k64_zero {g : List Nat → List Nat} {k : List Nat} (h : k.length < 64) : k64 g (k ++ [0]) = k64 g k := by
  unfold k64 kk
  rw [if_neg (by simp; omega), if_neg (by omega), zf_zero h]
theorem hm_key {g : List Nat → List Nat} {k k' : List Nat} (h : k64 g k' = k64 g k) (b : List Nat) : hm g k' b = hm g k b := by unfold hm; rw [h]
theorem tE_key {g : List Nat → List Nat} {k k' : List Nat} (h : k64 g k' = k64 g k) (info : List Nat) : ∀ i, tE g k' info i = tE g k info i := by
  intro i
  induction i with
  | zero => rfl
  | succ i ih => simp only [tE, ih, hm_key h]
theorem oE_key {g : List Nat → List Nat} {k k' : List Nat} (h : k64 g k' = k64 g k) (info : List Nat) : ∀ i, oE g k' info i = oE g k info i := by
  intro i
  induction i with
  | zero => rfl
  | succ i ih => simp only [oE, ih, tE_key h]
theorem expE_key {g : List Nat → List Nat} {k k' : List Nat} (h : k64 g k' = k64 g k) (info : List Nat) (n : Int) : expE g k' info n = expE g k info n := by unfold expE; rw [oE_key h]
theorem expE_pre {g : List Nat → List Nat} (hg : ∀ b, (g b).length = 32) (prk info : List Nat) {n m : Nat} (h : n + m ≤ 8160) : (expE g prk info ((n : Int) + m)).take n = expE g prk info n := by
  unfold expE
  rw [if_pos (by simp [okE]; omega), if_pos (by simp [okE]; omega)]
  obtain ⟨r, hr⟩ := oE_pre g prk info (show nE (n : Int) ≤ nE ((n : Int) + m) by unfold nE; omega)
  rw [List.take_take, hr, List.take_append_of_le_length (by rw [oE_len hg]; unfold nE; omega)]
  congr 1
  omega
end Go.Eng.B

namespace Go.Eng.B
open Go Go.Eng Go.Proofs
set_option maxRecDepth 100000
def part? : SV → Option (List Nat)
  | .sl .u8 l => some l
  | .nil => some []
  | _ => none
def eJoin (args : List SV) : Option (SV × List Prop) :=
  match args with
  | [.slv 1 [x]] => match part? x with
    | some a => some (.sl .u8 a, [a.length ≤ 100000000])
    | _ => none
  | [.slv 1 [x, y]] => match part? x, part? y with
    | some a, some b => some (.sl .u8 (a ++ b), [a.length + b.length ≤ 100000000])
    | _, _ => none
  | [.slv 1 [x, y, z]] => match part? x, part? y, part? z with
    | some a, some b, some c => some (.sl .u8 (a ++ b ++ c), [a.length + b.length + c.length ≤ 100000000])
    | _, _, _ => none
  | [.slv 1 [x, y, z, v]] => match part? x, part? y, part? z, part? v with
    | some a, some b, some c, some d => some (.sl .u8 (a ++ b ++ c ++ d), [a.length + b.length + c.length + d.length ≤ 100000000])
    | _, _, _, _ => none
  | [.slv 1 [x, y, z, v, u]] => match part? x, part? y, part? z, part? v, part? u with
    | some a, some b, some c, some d, some e => some (.sl .u8 (a ++ b ++ c ++ d ++ e), [a.length + b.length + c.length + d.length + e.length ≤ 100000000])
    | _, _, _, _, _ => none
  | _ => none
theorem part_wk {x : SV} {a : List Nat} (h : part? x = some a) : wk0 x (.sl .u8 a) := by
  unfold part? at h
  split at h
  · cases h; exact wk0_refl _
  · cases h; rfl
  · cases h
theorem wk_of0 {s t : SV} (h : wk0 s t) : wk s t := by
  cases s <;> first | exact h | (cases t <;> first | exact h | (simp only [wk0, SV.ag.injEq] at h; subst h; exact wka_refl _) | (simp [wk0] at h))
theorem part_R {x : SV} {a : List Nat} (h : part? x = some a) {β : Nat → Nat} {ow : Own} {w : World} {v : Value} (hv : relV1 β ow w x v) : relV1 β ow w (.sl .u8 a) v := wk_ok1 (wk_of0 (part_wk h)) hv
theorem Contract.argsR {P : Program} {f : FuncId} {args args' : List SV} {r : SV} (hw : ∀ {β : Nat → Nat} {ow : Own} {w : World} {vs : List Value}, relVs β ow w args vs → relVs β ow w args' vs) (h : Contract P f args' r) : Contract P f args r :=
  fun w S vs h1 h2 => h w S vs h1 (hw h2)
theorem slv_args {P : Program} {f : FuncId} {l m : List SV} {r : SV} (hw : wka l m) (hs : ∀ s ∈ m, s.size = 1) (hl : m.length = l.length) (h : Contract P f [.slv 1 m] r) : Contract P f [.slv 1 l] r := by
  intro w S vs hlt hvs
  refine h w S vs hlt ?_
  obtain ⟨v, t, rfl, ⟨cs, hr, rfl⟩, rfl⟩ := hvs
  refine ⟨_, _, rfl, ⟨cs, ?_, rfl⟩, rfl⟩
  simp only [rel] at hr ⊢
  obtain ⟨h1, h2, v, vs, h3, h4, h5⟩ := hr
  exact ⟨hs, by rw [hl]; exact h2, v, vs, h3, by rw [hl]; exact h4, wka_rels hw h5⟩
theorem slv_argsF {P : Program} {f : FuncId} {l m : List SV} {r : SV} (h : Contract P f [.slv 1 m] r) (hw : wka l m) (hs : ∀ s ∈ m, s.size = 1) (hl : m.length = l.length) : Contract P f [.slv 1 l] r := slv_args hw hs hl h
theorem pj1_c (a : List Nat) (h : a.length ≤ 100000000) : Contract Try.prog 49 [.slv 1 [.sl .u8 a]] (.sl .u8 (a)) := by
  refine contract Try.func49 (body := bodyOf Try.f49) rfl (by kernel_rfl) (by kernel_rfl) rfl ?_
  intro _ w0 S
  exact hold_endw mixed ctr0_ok (unroll := true) (f := 300) (sc := []) (r := (SV.sl .u8 a)) (ob := [slenD (SV.sl .u8 a) * 1 ≤ 140737488355328]) (sc' := []) (by kernel_rfl) (by repeat' first | exact trivial | omega | (simp only [slenD, SV.slen, List.length_append, List.length_nil]; omega) | refine ⟨?_, ?_⟩) (wkR_of rfl)
theorem pj2_c (a b : List Nat) (h : a.length + b.length ≤ 100000000) : Contract Try.prog 49 [.slv 1 [.sl .u8 a, .sl .u8 b]] (.sl .u8 (a ++ b)) := by
  refine contract Try.func49 (body := bodyOf Try.f49) rfl (by kernel_rfl) (by kernel_rfl) rfl ?_
  intro _ w0 S
  exact hold_endw mixed ctr0_ok (unroll := true) (f := 300) (sc := []) (r := (SV.sl .u8 (a ++ b))) (ob := [slenD (SV.sl .u8 a) * 1 ≤ 140737488355328, slenD (SV.sl .u8 (a ++ b)) * 1 ≤ 140737488355328]) (sc' := []) (by kernel_rfl) (by repeat' first | exact trivial | omega | (simp only [slenD, SV.slen, List.length_append, List.length_nil]; omega) | refine ⟨?_, ?_⟩) (wkR_of rfl)
theorem pj3_c (a b c : List Nat) (h : a.length + b.length + c.length ≤ 100000000) : Contract Try.prog 49 [.slv 1 [.sl .u8 a, .sl .u8 b, .sl .u8 c]] (.sl .u8 (a ++ b ++ c)) := by
  refine contract Try.func49 (body := bodyOf Try.f49) rfl (by kernel_rfl) (by kernel_rfl) rfl ?_
  intro _ w0 S
  exact hold_endw mixed ctr0_ok (unroll := true) (f := 300) (sc := []) (r := (SV.sl .u8 (a ++ b ++ c))) (ob := [slenD (SV.sl .u8 a) * 1 ≤ 140737488355328, slenD (SV.sl .u8 (a ++ b)) * 1 ≤ 140737488355328, slenD (SV.sl .u8 (a ++ b ++ c)) * 1 ≤ 140737488355328]) (sc' := []) (by kernel_rfl) (by repeat' first | exact trivial | omega | (simp only [slenD, SV.slen, List.length_append, List.length_nil]; omega) | refine ⟨?_, ?_⟩) (wkR_of rfl)
theorem pj4_c (a b c d : List Nat) (h : a.length + b.length + c.length + d.length ≤ 100000000) : Contract Try.prog 49 [.slv 1 [.sl .u8 a, .sl .u8 b, .sl .u8 c, .sl .u8 d]] (.sl .u8 (a ++ b ++ c ++ d)) := by
  refine contract Try.func49 (body := bodyOf Try.f49) rfl (by kernel_rfl) (by kernel_rfl) rfl ?_
  intro _ w0 S
  exact hold_endw mixed ctr0_ok (unroll := true) (f := 300) (sc := []) (r := (SV.sl .u8 (a ++ b ++ c ++ d))) (ob := [slenD (SV.sl .u8 a) * 1 ≤ 140737488355328, slenD (SV.sl .u8 (a ++ b)) * 1 ≤ 140737488355328, slenD (SV.sl .u8 (a ++ b ++ c)) * 1 ≤ 140737488355328, slenD (SV.sl .u8 (a ++ b ++ c ++ d)) * 1 ≤ 140737488355328]) (sc' := []) (by kernel_rfl) (by repeat' first | exact trivial | omega | (simp only [slenD, SV.slen, List.length_append, List.length_nil]; omega) | refine ⟨?_, ?_⟩) (wkR_of rfl)
theorem pj5_c (a b c d e : List Nat) (h : a.length + b.length + c.length + d.length + e.length ≤ 100000000) : Contract Try.prog 49 [.slv 1 [.sl .u8 a, .sl .u8 b, .sl .u8 c, .sl .u8 d, .sl .u8 e]] (.sl .u8 (a ++ b ++ c ++ d ++ e)) := by
  refine contract Try.func49 (body := bodyOf Try.f49) rfl (by kernel_rfl) (by kernel_rfl) rfl ?_
  intro _ w0 S
  exact hold_endw mixed ctr0_ok (unroll := true) (f := 300) (sc := []) (r := (SV.sl .u8 (a ++ b ++ c ++ d ++ e))) (ob := [slenD (SV.sl .u8 a) * 1 ≤ 140737488355328, slenD (SV.sl .u8 (a ++ b)) * 1 ≤ 140737488355328, slenD (SV.sl .u8 (a ++ b ++ c)) * 1 ≤ 140737488355328, slenD (SV.sl .u8 (a ++ b ++ c ++ d)) * 1 ≤ 140737488355328, slenD (SV.sl .u8 (a ++ b ++ c ++ d ++ e)) * 1 ≤ 140737488355328]) (sc' := []) (by kernel_rfl) (by repeat' first | exact trivial | omega | (simp only [slenD, SV.slen, List.length_append, List.length_nil]; omega) | refine ⟨?_, ?_⟩) (wkR_of rfl)
theorem pj_ok : ∀ args res ob, eJoin args = some (res, ob) → All ob → Contract Try.prog 49 args res := by
  intro args res ob he hob
  unfold eJoin at he
  split at he
  · split at he
    · rename_i ha
      cases he
      exact slv_argsF (pj1_c _ hob.1) ⟨part_wk ha, rfl⟩ (by simp [SV.size]) rfl
    · cases he
  · split at he
    · rename_i ha hb
      cases he
      exact slv_argsF (pj2_c _ _ hob.1) ⟨part_wk ha, part_wk hb, rfl⟩ (by simp [SV.size]) rfl
    · cases he
  · split at he
    · rename_i ha hb hc
      cases he
      exact slv_argsF (pj3_c _ _ _ hob.1) ⟨part_wk ha, part_wk hb, part_wk hc, rfl⟩ (by simp [SV.size]) rfl
    · cases he
  · split at he
    · rename_i ha hb hc hd
      cases he
      exact slv_argsF (pj4_c _ _ _ _ hob.1) ⟨part_wk ha, part_wk hb, part_wk hc, part_wk hd, rfl⟩ (by simp [SV.size]) rfl
    · cases he
  · split at he
    · rename_i ha hb hc hd he
      cases he
      exact slv_argsF (pj5_c _ _ _ _ _ hob.1) ⟨part_wk ha, part_wk hb, part_wk hc, part_wk hd, part_wk he, rfl⟩ (by simp [SV.size]) rfl
    · cases he
  · cases he
theorem copyZ (s : List Nat) (h : s.length ≤ 64) : List.take 64 s ++ List.drop (min s.length 64) (List.replicate 64 0) = zf s := by
  rw [List.take_of_length_le h, Nat.min_eq_left h, List.drop_replicate]; rfl
def stM : List It := [.lp [0, 1, 0, 1, 1, 1, 1], .blk 0, .at [1, 1, 1, 1, 1]]
def sM (k : List Nat) (m i : Nat) : St := ⟨30, [(1, .u .u8 m), (5, .osl 0 64 1), (17, .c .i64 64), (18, .u .i64 i)], [(0, ⟨5, [.arr .u8 64 (xorL m (k.take i) ++ k.drop i)], false⟩)], 1, 0⟩
section
variable {g h : List Nat → List Nat} (hg : g = sum32) (hh : h = sum64) {w0 : World} {S : Own} {res : SV}
include hg hh
theorem masked_l (k : List Nat) (m : Nat) (hk : k.length = 64) (hr : res = .sl .u8 (xorL m k)) : ∀ d i, 64 - i = d → i ≤ 64 → Hold Try.prog (bodyOf Try.f50) (Fin Try.prog Try.f50 w0 S res) w0 S stM (sM k m i) := by
  have hl : ∀ b, (g b).length = 32 := by rw [hg]; exact sum32_len
  intro d
  induction d using Nat.strongRecOn with
  | _ d ih =>
  intro i hd hi
  refine hold_unroll (c := _) rfl ?_
  by_cases hlt : i < 64
  · have e := ih (64 - (i + 1)) (by omega) (i + 1) rfl (by omega)
    refine hold_cut mixed (okST hg hh) (unroll := false) (f := 300) (sc := [true]) (ks := [1,5,17,18]) (bs := [0]) (nx := 1) (st' := [It.lp [0, 1, 0, 1, 1, 1, 1], It.blk 0, It.at [1, 1, 1, 1, 1]]) (σ' := { nt := 30, slots := [(1, SV.u .u8 m), (5, SV.osl 0 64 1), (17, SV.c .i64 (64 : Int)), (18, SV.u .i64 (i + 1))], blks := [(0, { ty := 5, segs := [SV.arr .u8 64 ((xorL m (List.take i k) ++ List.drop i k).set i ((xorL m (List.take i k) ++ List.drop i k).getD i 0 ^^^ m))] })], next := 1 }) (ob := [Decidable.decide (i < 64) = true, i < 64, i < 64, i < 64, i < 64, i + 1 < 9223372036854775808]) (sc' := []) (by kernel_rfl) (by repeat' first | exact trivial | exact decide_eq_true (by omega) | exact decide_eq_false (by omega) | omega | (simp only [decide_eq_true_eq, decide_eq_false_iff_not, slenD, SV.slen, Option.getD_some, List.length_append, List.length_cons, List.length_nil, List.length_replicate, List.length_take, List.length_drop, xorL_len, k64_len hl, hl, oE_len hl]; omega) | refine ⟨?_, ?_⟩) ?_
    rw [mix_get m k i (by omega), mix_set m k i (by omega)]
    exact e
  · have e : i = 64 := by omega
    subst e
    refine hold_end mixed (okST hg hh) (unroll := false) (f := 300) (sc := [false]) (r := (SV.sl .u8 (xorL m (List.take 64 k) ++ List.drop 64 k))) (ob := [false = false]) (sc' := []) (by kernel_rfl) (by repeat' first | exact trivial | exact decide_eq_true (by omega) | exact decide_eq_false (by omega) | omega | (simp only [decide_eq_true_eq, decide_eq_false_iff_not, slenD, SV.slen, Option.getD_some, List.length_append, List.length_cons, List.length_nil, List.length_replicate, List.length_take, List.length_drop, xorL_len, k64_len hl, hl, oE_len hl]; omega) | refine ⟨?_, ?_⟩) ?_
    rw [hr, List.take_of_length_le (by omega), List.drop_of_length_le (by omega), List.append_nil]
theorem masked_c (k : List Nat) (m : Nat) (hb : k.length ≤ 1000000) : Contract Try.prog 50 [.sl .u8 k, .u .u8 m] (.sl .u8 (xorL m (k64 g k))) := by
  have hl : ∀ b, (g b).length = 32 := by rw [hg]; exact sum32_len
  refine contract Try.func50 (body := bodyOf Try.f50) rfl (by kernel_rfl) (by kernel_rfl) rfl ?_
  intro _ w0 S
  by_cases h64 : 64 < k.length
  · refine hold_cut mixed (okST hg hh) (unroll := false) (f := 100) (sc := [true]) (ks := [1,5,17,18]) (bs := [0]) (nx := 1) (st' := [It.lp [0, 1, 0, 1, 1, 1, 1], It.blk 0, It.at [1, 1, 1, 1, 1]]) (σ' := { nt := 30, slots := [(1, SV.u .u8 m), (5, SV.osl 0 64 1), (17, SV.c .i64 (64 : Int)), (18, SV.c .i64 (0 : Int))], blks := [(0, { ty := 5, segs := [SV.arr .u8 64 (List.take 64 (g k) ++ List.drop (Min.min (g k).length 64) [0, 0, 0, 0, 0, 0, 0, 0, 0, 0, 0, 0, 0, 0, 0, 0, 0, 0, 0, 0, 0, 0, 0, 0, 0, 0, 0, 0, 0, 0, 0, 0, 0, 0, 0, 0, 0, 0, 0, 0, 0, 0, 0, 0, 0, 0, 0, 0, 0, 0, 0, 0, 0, 0, 0, 0, 0, 0, 0, 0, 0, 0, 0, 0])] })], next := 1 }) (ob := [Decidable.decide (64 < k.length) = true, k.length ≤ 1000000]) (sc' := []) (by kernel_rfl) (by repeat' first | exact trivial | exact decide_eq_true (by omega) | exact decide_eq_false (by omega) | omega | (simp only [decide_eq_true_eq, decide_eq_false_iff_not, slenD, SV.slen, Option.getD_some, List.length_append, List.length_cons, List.length_nil, List.length_replicate, List.length_take, List.length_drop, xorL_len, k64_len hl, hl, oE_len hl]; omega) | refine ⟨?_, ?_⟩) ?_
    refine Hold.cast (σ' := ⟨30, [(1, .u .u8 m), (5, .osl 0 64 1), (17, .c .i64 64), (18, .c .i64 0)], [(0, ⟨5, [.arr .u8 64 (zf (g k))], false⟩)], 1, 0⟩) ?_ (by rw [← copyZ (g k) (by rw [hl]; omega)]; kernel_rfl)
    refine Hold.weaken (masked_l hg hh (zf (g k)) m (zf_len (by rw [hl]; omega)) ?_ _ 0 rfl (by omega)) (by simp [wks, wk, wk0, lim, sM])
    unfold k64 kk; rw [if_pos h64]
  · refine hold_cut mixed (okST hg hh) (unroll := false) (f := 100) (sc := [false]) (ks := [1,5,17,18]) (bs := [0]) (nx := 1) (st' := [It.lp [0, 1, 0, 1, 1, 1, 1], It.blk 0, It.at [1, 1, 1, 1, 1]]) (σ' := { nt := 30, slots := [(1, SV.u .u8 m), (5, SV.osl 0 64 1), (17, SV.c .i64 (64 : Int)), (18, SV.c .i64 (0 : Int))], blks := [(0, { ty := 5, segs := [SV.arr .u8 64 (List.take 64 k ++ List.drop (Min.min k.length 64) [0, 0, 0, 0, 0, 0, 0, 0, 0, 0, 0, 0, 0, 0, 0, 0, 0, 0, 0, 0, 0, 0, 0, 0, 0, 0, 0, 0, 0, 0, 0, 0, 0, 0, 0, 0, 0, 0, 0, 0, 0, 0, 0, 0, 0, 0, 0, 0, 0, 0, 0, 0, 0, 0, 0, 0, 0, 0, 0, 0, 0, 0, 0, 0])] })], next := 1 }) (ob := [Decidable.decide (64 < k.length) = false]) (sc' := []) (by kernel_rfl) (by repeat' first | exact trivial | exact decide_eq_true (by omega) | exact decide_eq_false (by omega) | omega | (simp only [decide_eq_true_eq, decide_eq_false_iff_not, slenD, SV.slen, Option.getD_some, List.length_append, List.length_cons, List.length_nil, List.length_replicate, List.length_take, List.length_drop, xorL_len, k64_len hl, hl, oE_len hl]; omega) | refine ⟨?_, ?_⟩) ?_
    refine Hold.cast (σ' := ⟨30, [(1, .u .u8 m), (5, .osl 0 64 1), (17, .c .i64 64), (18, .c .i64 0)], [(0, ⟨5, [.arr .u8 64 (zf (k))], false⟩)], 1, 0⟩) ?_ (by rw [← copyZ k (by omega)]; kernel_rfl)
    refine Hold.weaken (masked_l hg hh (zf k) m (zf_len (by omega)) ?_ _ 0 rfl (by omega)) (by simp [wks, wk, wk0, lim, sM])
    unfold k64 kk; rw [if_neg h64]
def eMask (g : List Nat → List Nat) (args : List SV) : Option (SV × List Prop) :=
  match args with
  | [x, y] => match part? x, y.nat? with
    | some k, some (.u8, m) => some (.sl .u8 (xorL m (k64 g k)), [k.length ≤ 1000000])
    | _, _ => none
  | _ => none
def eHm (g : List Nat → List Nat) (args : List SV) : Option (SV × List Prop) :=
  match args with
  | [x, y] => match part? x, part? y with
    | some k, some b => some (.sl .u8 (hm g k b), [k.length ≤ 900000, b.length ≤ 900000])
    | _, _ => none
  | _ => none
noncomputable def KT1 (g h : List Nat → List Nat) : Ctr := addC 50 (eMask g) (addC 49 eJoin (ST g h))
theorem okKT1 : CtrOk Try.prog (KT1 g h) := by
  refine addC_ok (addC_ok (okST hg hh) pj_ok) ?_
  intro args res ob he hob
  unfold eMask at he
  split at he
  · split at he
    · rename_i hx hy
      cases he
      exact Contract.argsRF (masked_c hg hh _ _ hob.1) (fun ⟨v, t, e, h1, v2, t2, e2, h2, h3⟩ => ⟨v, t, e, part_R hx h1, v2, t2, e2, nat?_wk hy h2, h3⟩)
    · cases he
  · cases he
theorem hmac_c (k b : List Nat) (hk : k.length ≤ 900000) (hb : b.length ≤ 900000) : Contract Try.prog 37 [.sl .u8 k, .sl .u8 b] (.sl .u8 (hm g k b)) := by
  have hl : ∀ b, (g b).length = 32 := by rw [hg]; exact sum32_len
  refine contract Try.func37 (body := bodyOf Try.f37) rfl (by kernel_rfl) (by kernel_rfl) rfl ?_
  intro _ w0 S
  exact hold_endw mixed (okKT1 hg hh) (unroll := true) (f := 100) (sc := []) (r := (SV.sl .u8 (g (xorL 92 (k64 g k) ++ g (xorL 54 (k64 g k) ++ b))))) (ob := [k.length ≤ 1000000, k.length ≤ 1000000, (xorL 54 (k64 g k)).length + b.length ≤ 100000000, (xorL 54 (k64 g k) ++ b).length ≤ 1000000, (xorL 92 (k64 g k)).length + (g (xorL 54 (k64 g k) ++ b)).length ≤ 100000000, (xorL 92 (k64 g k) ++ g (xorL 54 (k64 g k) ++ b)).length ≤ 1000000]) (sc' := []) (by kernel_rfl) (by repeat' first | exact trivial | exact decide_eq_true (by omega) | exact decide_eq_false (by omega) | omega | (simp only [decide_eq_true_eq, decide_eq_false_iff_not, slenD, SV.slen, Option.getD_some, List.length_append, List.length_cons, List.length_nil, List.length_replicate, List.length_take, List.length_drop, xorL_len, k64_len hl, hl, oE_len hl]; omega) | refine ⟨?_, ?_⟩) (wkR_of rfl)
end
theorem eHm_ok {P : Program} {f : FuncId} {g : List Nat → List Nat} (h : ∀ k b : List Nat, k.length ≤ 900000 → b.length ≤ 900000 → Contract P f [.sl .u8 k, .sl .u8 b] (.sl .u8 (hm g k b))) : ∀ args res ob, eHm g args = some (res, ob) → All ob → Contract P f args res := by
  intro args res ob he hob
  unfold eHm at he
  split at he
  · split at he
    · rename_i hx hy
      cases he
      exact Contract.argsF (h _ _ hob.1 hob.2.1) ⟨wk_of0 (part_wk hx), wk_of0 (part_wk hy), rfl⟩
    · cases he
  · cases he
end Go.Eng.B

namespace Go.Eng.B
open Go Go.Eng Go.Proofs
set_option maxRecDepth 100000
def cmpV : List Nat → List Nat → Int
  | [], [] => 0
  | [], _ :: _ => -1
  | _ :: _, [] => 1
  | x :: a, y :: b => if x < y then -1 else if y < x then 1 else cmpV a b
def allB (l : List (List Nat)) : Bool := l.all fun p => decide (p.length ≤ 900)
def eCmp (args : List SV) : Option (SV × List Prop) := match args with
  | [x, y] => match part? x, part? y with | some a, some b => some (.i .i64 (cmpV a b), []) | _, _ => none
  | _ => none
def eEq (args : List SV) : Option (SV × List Prop) := match args with
  | [x, y] => match part? x, part? y with | some a, some b => some (.b (decide (a = b)), []) | _, _ => none
  | _ => none
def eSmall (args : List SV) : Option (SV × List Prop) := match args with
  | [x] => match part? x with | some a => some (.b (decide (a.length ≤ 900)), []) | _ => none
  | _ => none
def eAll (args : List SV) : Option (SV × List Prop) := match args with
  | [.slv 1 [x, y]] => match part? x, part? y with | some a, some b => some (.b (allB [a, b]), []) | _, _ => none
  | [.slv 1 [x, y, z]] => match part? x, part? y, part? z with | some a, some b, some c => some (.b (allB [a, b, c]), []) | _, _, _ => none
  | [.slv 1 [x, y, z, v, u]] => match part? x, part? y, part? z, part? v, part? u with | some a, some b, some c, some d, some e => some (.b (allB [a, b, c, d, e]), []) | _, _, _, _, _ => none
  | _ => none
def sCmp (a b : List Nat) (i : Nat) : St := ⟨48, [(0, .sl .u8 a), (1, .sl .u8 b), (5, .u .i64 i)], [], 0, 0⟩
def stCmp : List It := [.lp [0, 1, 0, 1], .blk 0, .at [1, 1]]
theorem cmpV_eq : ∀ a b : List Nat, cmpV a b = 0 ↔ a = b := by
  intro a
  induction a with
  | nil => intro b; cases b <;> simp [cmpV]
  | cons x a ih =>
    intro b
    cases b with
    | nil => simp [cmpV]
    | cons y b =>
      simp only [cmpV]
      split
      · rename_i h; simp; omega
      · split
        · rename_i h; simp; omega
        · rename_i h1 h2
          rw [ih b]
          have : x = y := by omega
          simp [this]
theorem cmpV_drop (a b : List Nat) : ∀ i, i < a.length → i < b.length → cmpV (a.drop i) (b.drop i) = if a.getD i 0 < b.getD i 0 then -1 else if b.getD i 0 < a.getD i 0 then 1 else cmpV (a.drop (i + 1)) (b.drop (i + 1)) := by
  intro i h1 h2
  rw [List.drop_eq_getElem_cons h1, List.drop_eq_getElem_cons h2]
  simp only [cmpV, List.getD_eq_getElem?_getD, List.getElem?_eq_getElem h1, List.getElem?_eq_getElem h2, Option.getD_some]
section
variable {w0 : World} {S : Own} {res : SV}
theorem cmp_l (a b : List Nat) (hr : res = .i .i64 (cmpV a b)) (hla : a.length < 9223372036854775808) : ∀ d i, a.length - i = d → i ≤ a.length → i ≤ b.length → cmpV a b = cmpV (a.drop i) (b.drop i) → Hold Try.prog (bodyOf Try.f54) (Fin Try.prog Try.f54 w0 S res) w0 S stCmp (sCmp a b i) := by
  intro d
  induction d using Nat.strongRecOn with
  | _ d ih =>
  intro i hd hi hj he
  refine hold_unroll (c := _) rfl ?_
  by_cases ha : i < a.length
  · by_cases hb : i < b.length
    · have hc := cmpV_drop a b i ha hb
      by_cases h1 : a.getD i 0 < b.getD i 0
      · rw [if_pos h1] at hc
        refine hold_endw mixed ctr0_ok (unroll := true) (f := 300) (sc := [true, true, true, true]) (r := (Go.Eng.SV.c Go.IntKind.i64 (-1 : Int))) (ob := [Decidable.decide (i < a.length) = Bool.true, Decidable.decide (i < b.length) = Bool.true, i < a.length, i < b.length, (a.getD i (0 : Nat) != b.getD i (0 : Nat)) = Bool.true, i < a.length, i < b.length, Decidable.decide (a.getD i (0 : Nat) < b.getD i (0 : Nat)) = Bool.true]) (sc' := []) (by kernel_rfl) (by repeat' first | exact trivial | exact decide_eq_true (by omega) | exact decide_eq_false (by omega) | omega | (simp_all; done) | (simp_all; omega) | refine ⟨?_, ?_⟩) ?_
        rw [hr, he, hc]; simp [wkR, wk, wk0]
      · rw [if_neg h1] at hc
        by_cases h2 : b.getD i 0 < a.getD i 0
        · rw [if_pos h2] at hc
          refine hold_endw mixed ctr0_ok (unroll := true) (f := 300) (sc := [true, true, true, false]) (r := (Go.Eng.SV.c Go.IntKind.i64 (1 : Int))) (ob := [Decidable.decide (i < a.length) = Bool.true, Decidable.decide (i < b.length) = Bool.true, i < a.length, i < b.length, (a.getD i (0 : Nat) != b.getD i (0 : Nat)) = Bool.true, i < a.length, i < b.length, Decidable.decide (a.getD i (0 : Nat) < b.getD i (0 : Nat)) = Bool.false]) (sc' := []) (by kernel_rfl) (by repeat' first | exact trivial | exact decide_eq_true (by omega) | exact decide_eq_false (by omega) | omega | (simp_all; done) | (simp_all; omega) | refine ⟨?_, ?_⟩) ?_
          rw [hr, he, hc]; simp [wkR, wk, wk0]
        · rw [if_neg h2] at hc
          have e := ih (a.length - (i + 1)) (by omega) (i + 1) rfl (by omega) (by omega) (by rw [he, hc])
          have heq : a.getD i 0 = b.getD i 0 := by omega
          refine hold_cut mixed ctr0_ok (unroll := false) (f := 300) (sc := [true, true, false]) (ks := [0,1,5]) (bs := []) (nx := 0) (st' := [Go.Eng.It.lp [(0 : Nat), (1 : Nat), (0 : Nat), (1 : Nat)], Go.Eng.It.blk (0 : Nat), Go.Eng.It.at [(1 : Nat), (1 : Nat)]]) (σ' := { nt := (48 : Nat), slots := [((0 : Nat), Go.Eng.SV.sl Go.IntKind.u8 a), ((1 : Nat), Go.Eng.SV.sl Go.IntKind.u8 b), ((5 : Nat), Go.Eng.SV.u Go.IntKind.i64 (i + (1 : Nat)))], blks := [], next := (0 : Nat) }) (ob := [Decidable.decide (i < a.length) = Bool.true, Decidable.decide (i < b.length) = Bool.true, i < a.length, i < b.length, (a.getD i (0 : Nat) != b.getD i (0 : Nat)) = Bool.false, i + (1 : Nat) < (9223372036854775808 : Nat)]) (sc' := []) (by kernel_rfl) (by repeat' first | exact trivial | exact decide_eq_true (by omega) | exact decide_eq_false (by omega) | omega | (simp_all; done) | (simp_all; omega) | refine ⟨?_, ?_⟩) ?_
          exact e
    · refine hold_endw mixed ctr0_ok (unroll := true) (f := 300) (sc := [true, false, false, true]) (r := (Go.Eng.SV.c Go.IntKind.i64 (1 : Int))) (ob := [Decidable.decide (i < a.length) = Bool.true, Decidable.decide (i < b.length) = Bool.false, Decidable.decide (a.length < b.length) = Bool.false, Decidable.decide (b.length < a.length) = Bool.true]) (sc' := []) (by kernel_rfl) (by repeat' first | exact trivial | exact decide_eq_true (by omega) | exact decide_eq_false (by omega) | omega | (simp_all; done) | (simp_all; omega) | refine ⟨?_, ?_⟩) ?_
      rw [hr, he, List.drop_eq_getElem_cons ha, List.drop_of_length_le (by omega : b.length ≤ i)]; simp [cmpV, wkR, wk, wk0]
  · by_cases hb : i < b.length
    · refine hold_endw mixed ctr0_ok (unroll := true) (f := 300) (sc := [false, true]) (r := (Go.Eng.SV.c Go.IntKind.i64 (-1 : Int))) (ob := [Decidable.decide (i < a.length) = Bool.false, Decidable.decide (a.length < b.length) = Bool.true]) (sc' := []) (by kernel_rfl) (by repeat' first | exact trivial | exact decide_eq_true (by omega) | exact decide_eq_false (by omega) | omega | (simp_all; done) | (simp_all; omega) | refine ⟨?_, ?_⟩) ?_
      rw [hr, he, List.drop_eq_getElem_cons hb, List.drop_of_length_le (by omega : a.length ≤ i)]; simp [cmpV, wkR, wk, wk0]
    · refine hold_endw mixed ctr0_ok (unroll := true) (f := 300) (sc := [false, false, false]) (r := (Go.Eng.SV.c Go.IntKind.i64 (0 : Int))) (ob := [Decidable.decide (i < a.length) = Bool.false, Decidable.decide (a.length < b.length) = Bool.false, Decidable.decide (b.length < a.length) = Bool.false]) (sc' := []) (by kernel_rfl) (by repeat' first | exact trivial | exact decide_eq_true (by omega) | exact decide_eq_false (by omega) | omega | (simp_all; done) | (simp_all; omega) | refine ⟨?_, ?_⟩) ?_
      rw [hr, he, List.drop_of_length_le (by omega : a.length ≤ i), List.drop_of_length_le (by omega : b.length ≤ i)]; simp [cmpV, wkR, wk, wk0]
theorem cmp_c (a b : List Nat) : Contract Try.prog 54 [.sl .u8 a, .sl .u8 b] (.i .i64 (cmpV a b)) := by
  refine contract Try.func54 (body := bodyOf Try.f54) rfl (by kernel_rfl) (by kernel_rfl) rfl ?_
  rintro ⟨⟨ha, _⟩, _⟩ w0 S
  refine hold_cut mixed ctr0_ok (unroll := false) (f := 100) (sc := []) (ks := [0,1,5]) (bs := []) (nx := 0) (st' := [Go.Eng.It.lp [(0 : Nat), (1 : Nat), (0 : Nat), (1 : Nat)], Go.Eng.It.blk (0 : Nat), Go.Eng.It.at [(1 : Nat), (1 : Nat)]]) (σ' := { nt := (48 : Nat), slots := [((0 : Nat), Go.Eng.SV.sl Go.IntKind.u8 a), ((1 : Nat), Go.Eng.SV.sl Go.IntKind.u8 b), ((5 : Nat), Go.Eng.SV.c Go.IntKind.i64 (0 : Int))], blks := [], next := (0 : Nat) }) (ob := []) (sc' := []) (by kernel_rfl) trivial ?_
  exact Hold.weaken (cmp_l a b rfl ha _ 0 rfl (by omega) (by omega) (by rw [List.drop_zero, List.drop_zero])) (by simp [wks, wk, wk0, lim, sCmp])
end
theorem cmp_ok : ∀ args res ob, eCmp args = some (res, ob) → All ob → Contract Try.prog 54 args res := by
  intro args res ob he _
  unfold eCmp at he
  split at he
  · split at he
    · rename_i hx hy
      cases he
      exact Contract.argsF (cmp_c _ _) ⟨wk_of0 (part_wk hx), wk_of0 (part_wk hy), rfl⟩
    · cases he
  · cases he
noncomputable def T4a : Ctr := addC 54 eCmp (addC 17 eSmall ctr0)
theorem small_ok : ∀ args res ob, eSmall args = some (res, ob) → All ob → Contract Try.prog 17 args res := by
  intro args res ob he _
  unfold eSmall at he
  split at he
  · split at he
    · rename_i a hx
      cases he
      refine Contract.args (args' := [.sl .u8 a]) ⟨wk_of0 (part_wk hx), rfl⟩ ?_
      refine contract Try.func17 (body := bodyOf Try.f17) rfl (by kernel_rfl) (by kernel_rfl) rfl ?_
      intro _ w0 S
      exact hold_endw mixed ctr0_ok (unroll := true) (f := 100) (sc := []) (r := (Go.Eng.SV.b (Decidable.decide (a.length ≤ (900 : Nat))))) (ob := []) (sc' := []) (by kernel_rfl) trivial (wkR_of rfl)
    · cases he
  · cases he
theorem okT4a : CtrOk Try.prog T4a := addC_ok (addC_ok ctr0_ok small_ok) cmp_ok
theorem equal_ok : ∀ args res ob, eEq args = some (res, ob) → All ob → Contract Try.prog 47 args res := by
  intro args res ob he _
  unfold eEq at he
  split at he
  · split at he
    · rename_i a b hx hy
      cases he
      refine Contract.args (args' := [.sl .u8 a, .sl .u8 b]) ⟨wk_of0 (part_wk hx), wk_of0 (part_wk hy), rfl⟩ ?_
      refine contract Try.func47 (body := bodyOf Try.f47) rfl (by kernel_rfl) (by kernel_rfl) rfl ?_
      intro _ w0 S
      have hc := cmpV_eq a b
      rcases Bool.eq_false_or_eq_true (cmpV a b == (0 : Int)) with hc0 | hc0
      · have hd0 := eq_of_beq hc0
        refine hold_endw mixed okT4a (unroll := true) (f := 100) (sc := [true]) (r := (Go.Eng.SV.b (a.length == b.length))) (ob := [(cmpV a b == (0 : Int)) = Bool.true]) (sc' := []) (by kernel_rfl) ?_ ?_
        · exact ⟨hc0, trivial⟩
        · first | (simp_all [wkR, wk, wk0]; done) | (simp only [wkR, wk, wk0]; by_cases q : a = b <;> simp_all; done) | (simp only [wkR, wk, wk0]; by_cases q : a = b <;> simp_all; omega)
      · have hd0 := ne_of_beq_false hc0
        refine hold_endw mixed okT4a (unroll := true) (f := 100) (sc := [false]) (r := (Go.Eng.SV.cb Bool.false)) (ob := [(cmpV a b == (0 : Int)) = Bool.false]) (sc' := []) (by kernel_rfl) ?_ ?_
        · exact ⟨hc0, trivial⟩
        · first | (simp_all [wkR, wk, wk0]; done) | (simp only [wkR, wk, wk0]; by_cases q : a = b <;> simp_all; done) | (simp only [wkR, wk, wk0]; by_cases q : a = b <;> simp_all; omega)
    · cases he
  · cases he
end Go.Eng.B

namespace Go.Eng
open Go.RowKit
def fldPtr (slots : List (Nat × SV)) (o : Oper) : Bool :=
  match o.guard, o.op with
  | none, .fieldAddr _ x _ => match lookρ slots x with | some (.ptr _ _ _) => true | _ => false
  | _, _ => false
def unG (o : Oper) : Oper := { o with guard := none }
def pureStepG (P : Program) (ctr : Ctr) (ops : Array Oper) (σ : St) (i : Nat) (o : Oper) (sc : List Bool) : Option (St × List Prop × List Bool) :=
  match guardOf ops σ.slots o with
  | none => none
  | some false => match putS σ o.dst (.tup []) with | some σ' => some (σ', [], sc) | none => none
  | some true => match evalR P ctr σ.blks (lookρ σ.slots) (unG o) with
      | some (.val s, ob) => if pureOp (unG o) || slicePtr σ.slots (unG o) || sliceSl σ.slots (unG o) || (numOp σ.slots (unG o) && s.rigid) || fldPtr σ.slots (unG o) then
          match resolveB (isGuard ops i) s sc with
          | some (s', ob2, sc') => match putS σ o.dst s' with | some σ' => some (σ', ob ++ ob2, sc') | none => none
          | none => none
        else none
      | _ => none
def firstPureG (P : Program) (ctr : Ctr) (ops : Array Oper) (L : Array Bool) (σ : St) (sc : List Bool) : List Nat → Option (Nat × St × List Prop × List Bool)
  | [] => none
  | i :: r => if Region.free .any ops L i then (match ops[i]? with
      | some o => match pureStepG P ctr ops σ i o sc with
        | some (σ', ob, sc') => some (i, σ', ob, sc')
        | none => firstPureG P ctr ops L σ sc r
      | none => none) else firstPureG P ctr ops L σ sc r
abbrev RA := Nat × Nat × Bool × Nat
def stRA (R : RA) : St := ⟨R.1, [(R.2.1, .cb R.2.2.1)], [], 0, R.2.2.2⟩
def endRA (d : Nat) (σ : St) : Option RA :=
  match restrict [d] [] 0 σ with
  | some ⟨nt, [(e, .cb x)], [], 0, m⟩ => some (nt, e, x, m)
  | _ => none
def tryAll (step : Nat → Option (RA × List Prop × List Bool)) : List Nat → Option (RA × List Prop × List Bool)
  | [] => none
  | [i] => step i
  | i :: r => match step i, tryAll step r with
    | some (R, ob, sc), some (R', ob', sc') => if R = R' ∧ sc = sc' then some (R, ob ++ ob', sc) else none
    | _, _ => none
def execAll (P : Program) (ctr : Ctr) (ops : Array Oper) (d : Nat) : Nat → Array Bool → St → List Bool → Option (RA × List Prop × List Bool)
  | 0, _, _, _ => none
  | f + 1, L, σ, sc => match Region.ready .any ops L with
    | [] => match endRA d σ with
      | some R => some (R, [], sc)
      | none => none
    | r => match firstPureG P ctr ops L σ sc r with
      | some (i, σ1, ob1, sc1) => match execAll P ctr ops d f (L.setIfInBounds i true) σ1 sc1 with
        | some (R, ob2, sc2) => some (R, ob1 ++ ob2, sc2)
        | none => none
      | none => tryAll (fun i => match ops[i]? with
        | some o => match stepOp P ctr ops σ i o sc with
          | some (σ1, ob1, sc1) => match execAll P ctr ops d f (L.setIfInBounds i true) σ1 sc1 with
            | some (R, ob2, sc2) => some (R, ob1 ++ ob2, sc2)
            | none => none
          | none => none
        | none => none) r
def lastDst (ops : Array Oper) : Option Nat := match ops.back? with | some o => o.dst | none => none
def drawAll (P : Program) (ctr : Ctr) (ops : Array Oper) (σ : St) (sc : List Bool) : Option (St × List Prop × List Bool) :=
  match lastDst ops with
  | some d => if Region.noSelect ops then (match execAll P ctr ops d (ops.size + 1) (Array.replicate ops.size false) σ sc with
    | some (R, ob, sc') => some (stRA R, ob, sc')
    | none => none) else none
  | none => none
section
variable {P : Program} {ctr : Ctr} {w0 : Fr} {w : World} {S : Own} {σ σ' : St} {β : Nat → Nat} {a : Act} {ops : Array Oper}
theorem fieldAddrS_all {ow : Own} {x0 : World} {s : TypeId} {x r : SV} {f : Nat} (h : fieldAddrS P s x f = some r) {v1 : Value} (hx : relV β ow x0 x v1) : ∃ v, ∀ w', (Instr.fieldAt s v1 f).run P w' = .ok v w' ∧ relV β ow x0 r v := by
  unfold fieldAddrS at h
  split at h
  · rename_i fs id off hu
    have h1 := relV_scalar rfl rfl hx
    simp only [rel, List.cons.injEq, and_true] at h1
    subst h1
    split at h
    · rename_i fd hf
      split at h
      · rename_i sz hs
        split at h
        · cases h
        · rename_i h0
          cases h
          refine ⟨.pointer (some ⟨β id, off + fd.offset, none⟩), fun w' => ⟨?_, relV_of1 rfl (by simp only [rel, Ix.n, Nat.add_zero])⟩⟩
          simp only [Instr.fieldAt, Sem.run_bind, run_underlying hu, Result.andThen_ok, hf, Instr.sureAddr, Sem.run_pure, fieldPlace, sizeOf_run hs, h0, if_false, add_plain, Ix.n, Nat.add_zero]
      · cases h
    · cases h
  · cases h
theorem fld_yields {ow : Own} {x : World} {slots : List (Nat × SV)} {H : List (Nat × Bk)} (hρ : ∀ y s, lookρ slots y = some s → relV β ow x s (a.eval y)) {o : Oper} (hp : fldPtr slots o = true) {s : SV} {ob : List Prop} (h : evalR P ctr H (lookρ slots) o = some (.val s, ob)) :
    ∃ v, (∀ w', (execOp a.eval o).run P w' = .ok (.value v) w') ∧ relV β ow x s v := by
  obtain ⟨dst, op, type, pos, after, guard⟩ := o
  unfold fldPtr at hp
  simp only at hp
  split at hp
  · rename_i t y f
    split at hp
    · rename_i id off ix hl
      have hr : rdρ (lookρ slots) y = some (.ptr id off ix) := by simp [rdρ, hl, SV.rd]
      unfold evalR at h
      simp only [movesOp, Bool.false_eq_true, if_false] at h
      have hx : extraH P (rdρ (lookρ slots)) ⟨dst, .fieldAddr t y f, type, pos, after, none⟩ = none := rfl
      have hx2 : extra2 P (rdρ (lookρ slots)) ⟨dst, .fieldAddr t y f, type, pos, after, none⟩ = none := rfl
      rw [hx2] at h
      simp only at h
      rw [hx] at h
      simp only at h
      unfold evalH at h
      simp only [hr] at h
      split at h
      · rename_i r' hb
        cases h
        obtain ⟨v, hv⟩ := fieldAddrS_all (P := P) hb (hρ y _ hl)
        exact ⟨v, fun w' => by simp only [execOp, Sem.run_bind, (hv w').1, Result.andThen_ok, Sem.run_pure], (hv x).2⟩
      · cases h
    · cases hp
  · cases hp
theorem firstPureG_ok : ∀ {r : List Nat} {L : Array Bool} {sc sc' : List Bool} {i : Nat} {ob : List Prop}, firstPureG P ctr ops L σ sc r = some (i, σ', ob, sc') → i ∈ r ∧ Region.free .any ops L i = true ∧ ∃ o, ops[i]? = some o ∧ pureStepG P ctr ops σ i o sc = some (σ', ob, sc') := by
  intro r
  induction r with
  | nil => intro L sc sc' i ob h; simp [firstPureG] at h
  | cons j r ih =>
    intro L sc sc' i ob h
    simp only [firstPureG] at h
    split at h
    · rename_i hf
      split at h
      · rename_i o ho
        split at h
        · rename_i hp; cases h; exact ⟨by simp, hf, o, ho, hp⟩
        · obtain ⟨h1, h2⟩ := ih h; exact ⟨List.mem_cons_of_mem _ h1, h2⟩
      · cases h
    · obtain ⟨h1, h2⟩ := ih h; exact ⟨List.mem_cons_of_mem _ h1, h2⟩
theorem pureStepG_ok {i : Nat} {o : Oper} {sc sc' : List Bool} {ob : List Prop} (h : pureStepG P ctr ops σ i o sc = some (σ', ob, sc')) (hob : All ob) (hS : Sat w0 S σ β a w) :
    ∃ v, Yields P ops o v a ∧ Sat w0 S σ' β (a.put o.dst v) w := by
  unfold pureStepG at h
  split at h
  · cases h
  · rename_i hg
    split at h
    · rename_i σ1 hput
      cases h
      exact ⟨undef, .inr ⟨guard_ok hS.slot hg, rfl⟩, hS.put hput ⟨[], rfl, rfl⟩⟩
    · cases h
  · rename_i hg
    split at h
    · rename_i s ob1 hev
      split at h
      · rename_i hp
        split at h
        · rename_i s' ob2 sc1 hres
          split at h
          · rename_i σ1 hput
            cases h
            obtain ⟨ho1, ho2⟩ := All.append.1 hob
            have key : ∃ v, (∀ w', (execOp a.eval o).run P w' = .ok (.value v) w') ∧ relV β (owS S σ.blks β) w s v := by
              simp only [Bool.or_eq_true, Bool.and_eq_true] at hp
              rcases hp with (((hp | hp) | hp) | hp) | hp
              · exact pureR_yields (fun y s hy => hS.look hy) hp hev
              · exact slice_yields (fun y s hy => hS.look hy) hp hev
              · exact sliceSl_yields (fun y s hy => hS.look hy) hp hev ho1
              · exact num_yields (fun y s hy => hS.look hy) hp.1 hp.2 hev ho1
              · exact fld_yields (fun y s hy => hS.look hy) hp hev
            obtain ⟨v, h1, h2⟩ := key
            exact ⟨v, .inl ⟨guard_ok hS.slot hg, h1⟩, hS.put hput (resolveB_ok hres ho2 h2)⟩
          · cases h
        · cases h
      · cases h
    · cases h
theorem tryAll_ok {step : Nat → Option (RA × List Prop × List Bool)} : ∀ {r : List Nat} {R : RA} {ob : List Prop} {sc : List Bool}, tryAll step r = some (R, ob, sc) → All ob → ∀ i ∈ r, ∃ ob' sc', step i = some (R, ob', sc') ∧ All ob' := by
  intro r
  induction r with
  | nil => intro R ob sc h; simp [tryAll] at h
  | cons i r ih =>
    intro R ob sc h hob j hj
    cases r with
    | nil =>
      simp only [tryAll] at h
      simp only [List.mem_singleton] at hj
      subst hj
      exact ⟨ob, sc, h, hob⟩
    | cons k r =>
      simp only [tryAll] at h
      split at h
      · rename_i R1 ob1 sc1 R2 ob2 sc2 h1 h2
        split at h
        · rename_i he
          obtain ⟨rfl, rfl⟩ := he
          cases h
          obtain ⟨ho1, ho2⟩ := All.append.1 hob
          rcases List.mem_cons.1 hj with rfl | hj
          · exact ⟨_, _, h1, ho1⟩
          · exact ih h2 ho2 j hj
        · cases h
      · cases h
theorem endRA_ok {d : Nat} {R : RA} (h : endRA d σ = some R) (hS : Sat w0 S σ β a w) : Sat w0 S (stRA R) β a w := by
  unfold endRA at h
  split at h
  · rename_i nt e x m hr
    cases h
    exact hS.restrict hr
  · cases h
theorem execAll_ok (hctr : CtrOk P ctr) (hs : Region.noSelect ops = true) {d : Nat} {Q : Exit → Act → World → Prop} (hQ : ∀ c a w, ¬ Q (.panic c) a w) : ∀ {f : Nat} {L : Array Bool} {σ : St} {R : RA} {sc sc' : List Bool} {ob : List Prop} {β : Nat → Nat} {a : Act} {w : World},
    execAll P ctr ops d f L σ sc = some (R, ob, sc') → All ob → Sat w0 S σ β a w → (∀ β' a' w', Sat w0 S (stRA R) β' a' w' → Q .normal a' w') → ∀ {g : Nat}, left L ≤ g → L.size = ops.size → wpAny P .any ops Q g L a w := by
  intro f
  induction f with
  | zero => intro L σ R sc sc' ob β a w h; simp [execAll] at h
  | succ f ih =>
    intro L σ R sc sc' ob β a w h hob hS hk g hl hsz
    simp only [execAll] at h
    split at h
    · rename_i hr
      split at h
      · rename_i R1 he
        cases h
        exact wpAny_done hr (hk β a w (endRA_ok he hS)) g
      · cases h
    · rename_i hr0
      have hstep : ∀ i, i ∈ Region.ready .any ops L → left L = left (L.setIfInBounds i true) + 1 := fun i hi => by
        obtain ⟨h1, o, ho, _⟩ := mem_ready.1 hi
        exact left_set (by rw [hsz]; exact (Array.getElem?_eq_some_iff.1 ho).1) h1
      have hpos : 0 < g := by
        cases hr : Region.ready .any ops L with
        | nil => exact absurd hr hr0
        | cons j t => have := hstep j (by rw [hr]; simp); omega
      obtain ⟨g, rfl⟩ : ∃ g', g = g' + 1 := ⟨g - 1, by omega⟩
      split at h
      · rename_i i σ1 ob1 sc1 hp
        split at h
        · rename_i R2 ob2 sc2 hx
          cases h
          obtain ⟨ho1, ho2⟩ := All.append.1 hob
          obtain ⟨hm, hf, o, ho, hst⟩ := firstPureG_ok hp
          obtain ⟨v, hy, hS1⟩ := pureStepG_ok hst ho1 hS
          refine wpAny_take ho hs hf (by simpa using hm) (fun c a w h => absurd h (hQ c _ w)) hy ?_
          exact ih hx ho2 hS1 hk (by have := hstep i hm; omega) (by simpa using hsz)
        · cases h
      · refine wpAny_all rfl hr0 ?_
        intro j hj
        obtain ⟨ob', sc2, h1, h2⟩ := tryAll_ok h hob j hj
        split at h1
        · rename_i o ho
          split at h1
          · rename_i σ1 ob1 sc1 hst
            split at h1
            · rename_i R2 ob2 sc3 hx
              cases h1
              obtain ⟨ho1, ho2⟩ := All.append.1 h2
              refine stepOp_ok hctr hst ho1 ho hS fun β' a' w' hS' => ?_
              exact ih hx ho2 hS' hk (by have := hstep j hj; omega) (by simpa using hsz)
            · cases h1
          · cases h1
        · cases h1
theorem drawAll_ok (hm : P.follows .mixedOrders = true) (hctr : CtrOk P ctr) {id : Nat} {sc sc' : List Bool} {ob : List Prop} (h : drawAll P ctr ops σ sc = some (σ', ob, sc')) (hob : All ob) (hS : Sat w0 S σ β a w)
    {Q : Exit → Act → World → Prop} (hQ : ∀ c a w, ¬ Q (.panic c) a w) (hk : ∀ β' a' w', Sat w0 S σ' β' a' w' → Q .normal a' w') : (Code.region id ops true).wp P Q a w := by
  unfold drawAll at h
  split at h
  · split at h
    · rename_i hs
      split at h
      · rename_i R ob1 sc1 hx
        cases h
        refine wp_region_any hm ?_
        have hxt : Ext w { w with drawn := w.drawn + 1 } := ⟨rfl, rfl, rfl, Nat.le_refl _, fun _ _ => rfl⟩
        refine execAll_ok hctr hs hQ hx hob (hS.extend hxt) hk ?_ (by simp)
        simp [left, List.countP_replicate]
      · cases h
    · cases h
  · cases h
end
end Go.Eng

namespace Go.Eng
open Go.RowKit
structure Ke where
  (ks bs : List Nat) (nx : Nat)
def tryS (step : Nat → Option (St × List Prop × List Bool)) : List Nat → Option (St × List Prop × List Bool)
  | [] => none
  | [i] => step i
  | i :: r => match step i, tryS step r with
    | some (R, ob, sc), some (R', ob', sc') => if sc = sc' then some (R, (R' = R) :: (ob ++ ob'), sc) else none
    | _, _ => none
def execS (P : Program) (ctr : Ctr) (ops : Array Oper) (d : Ke) : Nat → Array Bool → St → List Bool → Option (St × List Prop × List Bool)
  | 0, _, _, _ => none
  | f + 1, L, σ, sc => match Region.ready .any ops L with
    | [] => match restrict d.ks d.bs d.nx σ with
      | some R => some (R, [], sc)
      | none => none
    | r => match firstPureG P ctr ops L σ sc r with
      | some (i, σ1, ob1, sc1) => match execS P ctr ops d f (L.setIfInBounds i true) σ1 sc1 with
        | some (R, ob2, sc2) => some (R, ob1 ++ ob2, sc2)
        | none => none
      | none => tryS (fun i => match ops[i]? with
        | some o => match stepOp P ctr ops σ i o sc with
          | some (σ1, ob1, sc1) => match execS P ctr ops d f (L.setIfInBounds i true) σ1 sc1 with
            | some (R, ob2, sc2) => some (R, ob1 ++ ob2, sc2)
            | none => none
          | none => none
        | none => none) r
def drawS (P : Program) (ctr : Ctr) (ops : Array Oper) (d : Ke) (σ : St) (sc : List Bool) : Option (St × List Prop × List Bool) :=
  if Region.noSelect ops then execS P ctr ops d (ops.size + 1) (Array.replicate ops.size false) σ sc else none
section
variable {P : Program} {ctr : Ctr} {w0 : Fr} {w : World} {S : Own} {σ σ' : St} {β : Nat → Nat} {a : Act} {ops : Array Oper}
theorem tryS_ok {step : Nat → Option (St × List Prop × List Bool)} : ∀ {r : List Nat} {R : St} {ob : List Prop} {sc : List Bool}, tryS step r = some (R, ob, sc) → All ob → ∀ i ∈ r, ∃ ob' sc', step i = some (R, ob', sc') ∧ All ob' := by
  intro r
  induction r with
  | nil => intro R ob sc h; simp [tryS] at h
  | cons i r ih =>
    intro R ob sc h hob j hj
    cases r with
    | nil =>
      simp only [tryS] at h
      simp only [List.mem_singleton] at hj
      subst hj
      exact ⟨ob, sc, h, hob⟩
    | cons k r =>
      simp only [tryS] at h
      split at h
      · rename_i R1 ob1 sc1 R2 ob2 sc2 h1 h2
        split at h
        · cases h
          obtain ⟨he, hob⟩ := hob
          obtain ⟨ho1, ho2⟩ := All.append.1 hob
          rcases List.mem_cons.1 hj with rfl | hj
          · exact ⟨_, _, h1, ho1⟩
          · subst he
            exact ih h2 ho2 j hj
        · cases h
      · cases h
theorem execS_ok (hctr : CtrOk P ctr) (hs : Region.noSelect ops = true) {d : Ke} {Q : Exit → Act → World → Prop} (hQ : ∀ c a w, ¬ Q (.panic c) a w) : ∀ {f : Nat} {L : Array Bool} {σ : St} {R : St} {sc sc' : List Bool} {ob : List Prop} {β : Nat → Nat} {a : Act} {w : World},
    execS P ctr ops d f L σ sc = some (R, ob, sc') → All ob → Sat w0 S σ β a w → (∀ β' a' w', Sat w0 S R β' a' w' → Q .normal a' w') → ∀ {g : Nat}, left L ≤ g → L.size = ops.size → wpAny P .any ops Q g L a w := by
  intro f
  induction f with
  | zero => intro L σ R sc sc' ob β a w h; simp [execS] at h
  | succ f ih =>
    intro L σ R sc sc' ob β a w h hob hS hk g hl hsz
    simp only [execS] at h
    split at h
    · rename_i hr
      split at h
      · rename_i R1 he
        cases h
        exact wpAny_done hr (hk β a w (hS.restrict he)) g
      · cases h
    · rename_i hr0
      have hstep : ∀ i, i ∈ Region.ready .any ops L → left L = left (L.setIfInBounds i true) + 1 := fun i hi => by
        obtain ⟨h1, o, ho, _⟩ := mem_ready.1 hi
        exact left_set (by rw [hsz]; exact (Array.getElem?_eq_some_iff.1 ho).1) h1
      have hpos : 0 < g := by
        cases hr : Region.ready .any ops L with
        | nil => exact absurd hr hr0
        | cons j t => have := hstep j (by rw [hr]; simp); omega
      obtain ⟨g, rfl⟩ : ∃ g', g = g' + 1 := ⟨g - 1, by omega⟩
      split at h
      · rename_i i σ1 ob1 sc1 hp
        split at h
        · rename_i R2 ob2 sc2 hx
          cases h
          obtain ⟨ho1, ho2⟩ := All.append.1 hob
          obtain ⟨hm, hf, o, ho, hst⟩ := firstPureG_ok hp
          obtain ⟨v, hy, hS1⟩ := pureStepG_ok hst ho1 hS
          refine wpAny_take ho hs hf (by simpa using hm) (fun c a w h => absurd h (hQ c _ w)) hy ?_
          exact ih hx ho2 hS1 hk (by have := hstep i hm; omega) (by simpa using hsz)
        · cases h
      · refine wpAny_all rfl hr0 ?_
        intro j hj
        obtain ⟨ob', sc2, h1, h2⟩ := tryS_ok h hob j hj
        split at h1
        · rename_i o ho
          split at h1
          · rename_i σ1 ob1 sc1 hst
            split at h1
            · rename_i R2 ob2 sc3 hx
              cases h1
              obtain ⟨ho1, ho2⟩ := All.append.1 h2
              refine stepOp_ok hctr hst ho1 ho hS fun β' a' w' hS' => ?_
              exact ih hx ho2 hS' hk (by have := hstep j hj; omega) (by simpa using hsz)
            · cases h1
          · cases h1
        · cases h1
theorem drawS_ok (hm : P.follows .mixedOrders = true) (hctr : CtrOk P ctr) {id : Nat} {d : Ke} {sc sc' : List Bool} {ob : List Prop} (h : drawS P ctr ops d σ sc = some (σ', ob, sc')) (hob : All ob) (hS : Sat w0 S σ β a w)
    {Q : Exit → Act → World → Prop} (hQ : ∀ c a w, ¬ Q (.panic c) a w) (hk : ∀ β' a' w', Sat w0 S σ' β' a' w' → Q .normal a' w') : (Code.region id ops true).wp P Q a w := by
  unfold drawS at h
  split at h
  · rename_i hs
    refine wp_region_any hm ?_
    have hxt : Ext w { w with drawn := w.drawn + 1 } := ⟨rfl, rfl, rfl, Nat.le_refl _, fun _ _ => rfl⟩
    refine execS_ok hctr hs hQ h hob (hS.extend hxt) hk ?_ (by simp)
    simp [left, List.countP_replicate]
  · cases h
end
def regS (P : Program) (ctr : Ctr) (body : Code) (p : List Nat) (r : List It) (d : Ke) (σ : St) (sc : List Bool) : List It × Option St × List Prop × List Bool :=
  match nav body p with
  | some (.region _ ops true) => match drawS P ctr ops d σ sc with
    | some (σ', ob, sc') => (r, some σ', ob, sc')
    | none => ([], none, [], sc)
  | _ => ([], none, [], sc)
theorem hold_allS {P : Program} {body : Code} {w0 : Fr} {S : Own} (hm : P.follows .mixedOrders = true) {ctr : Ctr} (hctr : CtrOk P ctr) {Q : Exit → Act → World → Prop} [ExitOk Q] {p : List Nat} {r : List It} {d : Ke} {σ : St} {sc : List Bool} {st' : List It} {σ' : St} {ob : List Prop} {sc' : List Bool}
    (h : regS P ctr body p r d σ sc = (st', some σ', ob, sc')) (hob : All ob) (hk : Hold P body Q w0 S st' σ') : Hold P body Q w0 S (.at p :: r) σ := by
  unfold regS at h
  split at h
  · rename_i id ops hn
    split at h
    · rename_i σ1 ob1 sc1 hx
      cases h
      intro β a w hS
      simp only [contQ, hn]
      exact drawS_ok hm hctr hx hob hS (contQ_panic (ExitOk.panic (Q := Q)) _) hk
    · cases h
  · cases h
end Go.Eng

namespace Go.Eng
open Go.RowKit
def appendX (P : Program) (σ : St) (t t2 : TypeId) (x y : SV) : Option (St × SV × List Prop) :=
  match elemOf P t, appSrc P t t2 σ.blks y, x with
  | some (e, by'), some (sy, ob0), .osl id n es => match readSl σ.blks (.osl id n es) with
    | some sx => match joinSl sx sy with
      | some r => some (Eng.nilRow σ e, .row σ.next r, ob0 ++ [slenD r * by' ≤ 140737488355328, 0 < slenD sy])
      | none => none
    | none => none
  | _, _, _ => none
def stepX (P : Program) (ops : Array Oper) (σ : St) (o : Oper) (sc : List Bool) : Option (St × List Prop × List Bool) :=
  match guardOf ops σ.slots o with
  | some true => match o.op with
    | .call { callee := .builtin .append, args := ⟨[x, y]⟩, argTypes := ⟨[t, t']⟩ } => match lookρ σ.slots x, lookρ σ.slots y with
      | some sx, some sy => match appendX P σ t t' sx sy.rd with
        | some (σ1, r, ob) => match putS σ1 o.dst r with | some σ' => some (σ', ob, sc) | none => none
        | none => none
      | _, _ => none
    | _ => none
  | _ => none
def stepOpX (P : Program) (ctr : Ctr) (ops : Array Oper) (σ : St) (i : Nat) (o : Oper) (sc : List Bool) : Option (St × List Prop × List Bool) :=
  match stepX P ops σ o sc with
  | some r => some r
  | none => stepOpC P ctr ops σ i o sc
section
variable {P : Program} {ctr : Ctr} {w0 : Fr} {w : World} {S : Own} {σ σ' : St} {β : Nat → Nat} {a : Act} {ops : Array Oper}
theorem core_grow {id : Nat} {t t2 e ty : TypeId} {by' : Nat} (he : elemOf P t = some (e, by')) (hS : Sat w0 S σ β a w) (hR : RowStep σ σ' β S a w id e) {r : SV} {co news : List Value} (hc : slCells r = some (co ++ news)) (hg : slGood r)
    {x2 : Value} (hA : ∀ i z, P.info? e = some i → i.zero = some z → App P w t t2 ty e i z x2 news) (hb : (co.length + news.length) * by' ≤ 140737488355328) (h0 : 0 < news.length) (b : Addr)
    (holds : ∀ j u, co[j]? = some u → w.cell? (b.add j) = some u) :
    ∃ v w' β', (Builtin.append_ #[t, t2] ty #[.slice (some b) co.length co.length, x2]).run P w = .ok v w' ∧ Sat w0 S σ' β' a w' ∧ relV β' (owS S σ'.blks β') w' (.row id r) v := by
  obtain ⟨ht, i, z, hi, hz, hs1, hzs, hb0, hby⟩ := elemOf_ok he
  have hA := hA i z hi hz
  have hle : co.length + news.length ≤ 140737488355328 := Nat.le_trans (Nat.le_mul_of_pos_right _ hb0) hb
  have hr := hA.grow (b := b) (n := co.length) (cap := co.length) (olds := co) (by omega) rfl holds (by omega) (by omega) (by rw [hby]; exact hb) (growslice_fits (by omega) (by rw [hby]; exact hb))
  have hge := grownCap_ge w (co.length + news.length) co.length e
  have hcm2 := grownCap_le_maxLen w (co.length + news.length) co.length e (by simp only [maxLen]; omega)
  have hcore := core_new hS hR (rest := (Builtin.zeroCells z.cells (grownCap w (co.length + news.length) co.length e - (co.length + news.length))).toList) (cap := grownCap w (co.length + news.length) co.length e) hc hg (by
    have := size_zeroCells z.cells (grownCap w (co.length + news.length) co.length e - (co.length + news.length))
    rw [hzs] at this
    simp only [Array.length_toList, List.length_append]
    omega) (by omega) hcm2
  have e1 : (co ++ news ++ (Builtin.zeroCells z.cells (grownCap w (co.length + news.length) co.length e - (co.length + news.length))).toList).toArray = co.toArray ++ news.toArray ++ Builtin.zeroCells z.cells (grownCap w (co.length + news.length) co.length e - (co.length + news.length)) := by
    apply Array.ext'; simp
  rw [e1] at hcore
  simp only [List.length_append] at hcore
  exact ⟨_, _, _, hr, hcore.1, hcore.2⟩
theorem appendX_ok (hS : Sat w0 S σ β a w) {t t2 ty : TypeId} {x y r : SV} {ob : List Prop} (h : appendX P σ t t2 x y = some (σ', r, ob)) (hob : All ob) {v1 v2 : Value}
    (hx : relV β (owS S σ.blks β) w x v1) (hy : relV β (owS S σ.blks β) w y v2) :
    ∃ v w' β', (Builtin.append_ #[t, t2] ty #[v1, v2]).run P w = .ok v w' ∧ Sat w0 S σ' β' a w' ∧ relV β' (owS S σ'.blks β') w' r v := by
  unfold appendX at h
  split at h
  · rename_i e by' sy ob0 id n es he hry
    split at h
    · rename_i sx hrd
      split at h
      · rename_i r' hj
        cases h
        obtain ⟨ho0, hob⟩ := All.append.1 hob
        obtain ⟨gy, cy, hcy, hA⟩ := appSrc_ok (ty := ty) hS.blk he hry ho0 hy
        obtain ⟨gx, cx, A, c, hcx, hv, hcell⟩ := readSl_ok hS.blk hrd hx
        have h1 := relV_scalar rfl rfl hx
        simp only [rel, List.cons.injEq, and_true] at h1
        obtain ⟨hcr, hgr⟩ := joinSl_ok hj hcx hcy
        have hb : (cx.length + cy.length) * by' ≤ 140737488355328 := by have := hob.1; simpa [slenD, cells_slen hcr] using this
        have h0 : 0 < cy.length := by have := hob.2.1; simpa [slenD, cells_slen hcy] using this
        rw [h1] at hv
        cases hv
        rw [h1]
        refine core_grow (σ' := Eng.nilRow σ e) he hS (id := σ.next) ⟨rfl, ?_, ?_, hS.uniq_cons, by simp [Eng.nilRow], ⟨rfl, fun i bk hm _ => ⟨List.mem_cons_of_mem _ hm, .inl (hS.bndB i bk hm).1⟩⟩, by simp [Eng.nilRow]⟩ hcr (hgr gx gy) hA hb h0 ⟨β id, 0, none⟩ ?_
        · intro d s hm
          exact ⟨fun i hi => by have := hS.bnd d s hm i hi; simp only [Eng.nilRow]; omega, hS.slot d s hm⟩
        · intro i bk hm
          rcases List.mem_cons.1 hm with h | h
          · cases h; exact .inl ⟨rfl, rfl⟩
          · exact .inr ⟨h, hS.fresh i bk h⟩
        · intro j u hu
          obtain ⟨ad, e2, _, h3⟩ := hcell (by have := (List.getElem?_eq_some_iff.1 hu).1; omega)
          cases e2
          rw [add_plain]
          simpa using h3 j u hu
      · cases h
    · cases h
  · cases h
theorem wp_appendX {o : Oper} {x y : Operand} {t t2 : TypeId} (ho : o.op = .call { callee := .builtin .append, args := #[x, y], argTypes := #[t, t2] }) (hS : Sat w0 S σ β a w) {sx sy r : SV} {ob : List Prop}
    (h : appendX P σ t t2 sx sy = some (σ', r, ob)) (hob : All ob) (hx : relV β (owS S σ.blks β) w sx (a.eval x)) (hy : relV β (owS S σ.blks β) w sy (a.eval y))
    {K : Act → World → Prop} {Q : Exit → Act → World → Prop} (hk : ∀ v w' β', Sat w0 S σ' β' a w' → relV β' (owS S σ'.blks β') w' r v → K (a.put o.dst v) w') : o.wp P a w K Q := by
  obtain ⟨v, w', β', hr, h1, h2⟩ := appendX_ok (P := P) (ty := o.type) hS h hob hx hy
  unfold Oper.wp execOp
  simp only [ho, resolve, invoke, builtin, Sem.run_bind, Sem.run_pure, Result.andThen_ok, List.map_toArray, List.map_cons, List.map_nil, hr]
  exact hk v w' β' h1 h2
theorem stepOpX_ok (hctr : CtrOk P ctr) {σ' : St} {i : Nat} {o : Oper} {sc sc' : List Bool} {ob : List Prop} (h : stepOpX P ctr ops σ i o sc = some (σ', ob, sc')) (hob : All ob) (hi : ops[i]? = some o)
    (hS : Sat w0 S σ β a w) {K : Act → World → Prop} {Q : Exit → Act → World → Prop} (hk : ∀ β' a' w', Sat w0 S σ' β' a' w' → K a' w') : wpOp P ops Q i K a w := by
  unfold stepOpX at h
  split at h
  · rename_i hx
    cases h
    unfold stepX at hx
    split at hx
    · rename_i hg
      split at hx
      · rename_i x y t t' hop
        split at hx
        · rename_i sx sy hx1 hy1
          split at hx
          · rename_i σ1 r ob' happ
            split at hx
            · rename_i σ2 hput
              cases hx
              unfold wpOp
              simp only [hi]
              rw [guard_ok hS.slot hg]
              simp only [if_true]
              refine .inl ?_
              exact wp_appendX hop hS happ hob (hS.look hx1) (rd_ok (hS.look hy1)) fun v w' β' h1 h2 => hk β' _ _ (h1.put hput h2)
            · cases hx
          · cases hx
        · cases hx
      · cases hx
    · cases hx
  · exact stepOpC_ok hctr h hob hi hS hk
end
def execX (P : Program) (ctr : Ctr) (ops : Array Oper) (d : Ke) : Nat → Array Bool → St → List Bool → Option (St × List Prop × List Bool)
  | 0, _, _, _ => none
  | f + 1, L, σ, sc => match Region.ready .any ops L with
    | [] => match restrict d.ks d.bs d.nx σ with
      | some R => some (R, [], sc)
      | none => none
    | r => match firstPureG P ctr ops L σ sc r with
      | some (i, σ1, ob1, sc1) => match execX P ctr ops d f (L.setIfInBounds i true) σ1 sc1 with
        | some (R, ob2, sc2) => some (R, ob1 ++ ob2, sc2)
        | none => none
      | none => tryS (fun i => match ops[i]? with
        | some o => match stepOpX P ctr ops σ i o sc with
          | some (σ1, ob1, sc1) => match execX P ctr ops d f (L.setIfInBounds i true) σ1 sc1 with
            | some (R, ob2, sc2) => some (R, ob1 ++ ob2, sc2)
            | none => none
          | none => none
        | none => none) r
def drawX (P : Program) (ctr : Ctr) (ops : Array Oper) (d : Ke) (σ : St) (sc : List Bool) : Option (St × List Prop × List Bool) :=
  if Region.noSelect ops then execX P ctr ops d (ops.size + 1) (Array.replicate ops.size false) σ sc else none
section
variable {P : Program} {ctr : Ctr} {w0 : Fr} {w : World} {S : Own} {σ σ' : St} {β : Nat → Nat} {a : Act} {ops : Array Oper}
theorem execX_ok (hctr : CtrOk P ctr) (hs : Region.noSelect ops = true) {d : Ke} {Q : Exit → Act → World → Prop} (hQ : ∀ c a w, ¬ Q (.panic c) a w) : ∀ {f : Nat} {L : Array Bool} {σ : St} {R : St} {sc sc' : List Bool} {ob : List Prop} {β : Nat → Nat} {a : Act} {w : World},
    execX P ctr ops d f L σ sc = some (R, ob, sc') → All ob → Sat w0 S σ β a w → (∀ β' a' w', Sat w0 S R β' a' w' → Q .normal a' w') → ∀ {g : Nat}, left L ≤ g → L.size = ops.size → wpAny P .any ops Q g L a w := by
  intro f
  induction f with
  | zero => intro L σ R sc sc' ob β a w h; simp [execX] at h
  | succ f ih =>
    intro L σ R sc sc' ob β a w h hob hS hk g hl hsz
    simp only [execX] at h
    split at h
    · rename_i hr
      split at h
      · rename_i R1 he
        cases h
        exact wpAny_done hr (hk β a w (hS.restrict he)) g
      · cases h
    · rename_i hr0
      have hstep : ∀ i, i ∈ Region.ready .any ops L → left L = left (L.setIfInBounds i true) + 1 := fun i hi => by
        obtain ⟨h1, o, ho, _⟩ := mem_ready.1 hi
        exact left_set (by rw [hsz]; exact (Array.getElem?_eq_some_iff.1 ho).1) h1
      have hpos : 0 < g := by
        cases hr : Region.ready .any ops L with
        | nil => exact absurd hr hr0
        | cons j t => have := hstep j (by rw [hr]; simp); omega
      obtain ⟨g, rfl⟩ : ∃ g', g = g' + 1 := ⟨g - 1, by omega⟩
      split at h
      · rename_i i σ1 ob1 sc1 hp
        split at h
        · rename_i R2 ob2 sc2 hx
          cases h
          obtain ⟨ho1, ho2⟩ := All.append.1 hob
          obtain ⟨hm, hf, o, ho, hst⟩ := firstPureG_ok hp
          obtain ⟨v, hy, hS1⟩ := pureStepG_ok hst ho1 hS
          refine wpAny_take ho hs hf (by simpa using hm) (fun c a w h => absurd h (hQ c _ w)) hy ?_
          exact ih hx ho2 hS1 hk (by have := hstep i hm; omega) (by simpa using hsz)
        · cases h
      · refine wpAny_all rfl hr0 ?_
        intro j hj
        obtain ⟨ob', sc2, h1, h2⟩ := tryS_ok h hob j hj
        split at h1
        · rename_i o ho
          split at h1
          · rename_i σ1 ob1 sc1 hst
            split at h1
            · rename_i R2 ob2 sc3 hx
              cases h1
              obtain ⟨ho1, ho2⟩ := All.append.1 h2
              refine stepOpX_ok hctr hst ho1 ho hS fun β' a' w' hS' => ?_
              exact ih hx ho2 hS' hk (by have := hstep j hj; omega) (by simpa using hsz)
            · cases h1
          · cases h1
        · cases h1
theorem drawX_ok (hm : P.follows .mixedOrders = true) (hctr : CtrOk P ctr) {id : Nat} {d : Ke} {sc sc' : List Bool} {ob : List Prop} (h : drawX P ctr ops d σ sc = some (σ', ob, sc')) (hob : All ob) (hS : Sat w0 S σ β a w)
    {Q : Exit → Act → World → Prop} (hQ : ∀ c a w, ¬ Q (.panic c) a w) (hk : ∀ β' a' w', Sat w0 S σ' β' a' w' → Q .normal a' w') : (Code.region id ops true).wp P Q a w := by
  unfold drawX at h
  split at h
  · rename_i hs
    refine wp_region_any hm ?_
    have hxt : Ext w { w with drawn := w.drawn + 1 } := ⟨rfl, rfl, rfl, Nat.le_refl _, fun _ _ => rfl⟩
    refine execX_ok hctr hs hQ h hob (hS.extend hxt) hk ?_ (by simp)
    simp [left, List.countP_replicate]
  · cases h
end
def regX (P : Program) (ctr : Ctr) (body : Code) (p : List Nat) (r : List It) (d : Ke) (σ : St) (sc : List Bool) : List It × Option St × List Prop × List Bool :=
  match nav body p with
  | some (.region _ ops true) => match drawX P ctr ops d σ sc with
    | some (σ', ob, sc') => (r, some σ', ob, sc')
    | none => ([], none, [], sc)
  | _ => ([], none, [], sc)
theorem hold_allX {P : Program} {body : Code} {w0 : Fr} {S : Own} (hm : P.follows .mixedOrders = true) {ctr : Ctr} (hctr : CtrOk P ctr) {Q : Exit → Act → World → Prop} [ExitOk Q] {p : List Nat} {r : List It} {d : Ke} {σ : St} {sc : List Bool} {st' : List It} {σ' : St} {ob : List Prop} {sc' : List Bool}
    (h : regX P ctr body p r d σ sc = (st', some σ', ob, sc')) (hob : All ob) (hk : Hold P body Q w0 S st' σ') : Hold P body Q w0 S (.at p :: r) σ := by
  unfold regX at h
  split at h
  · rename_i id ops hn
    split at h
    · rename_i σ1 ob1 sc1 hx
      cases h
      intro β a w hS
      simp only [contQ, hn]
      exact drawX_ok hm hctr hx hob hS (contQ_panic (ExitOk.panic (Q := Q)) _) hk
    · cases h
  · cases h
end Go.Eng

namespace Go.Eng
open Go.RowKit
abbrev Nd := Array Bool × St × List Bool
def insK (x : Nat) : List Nat → List Nat
  | [] => [x]
  | y :: r => if x ≤ y then x :: y :: r else y :: insK x r
def sortK : List Nat → List Nat
  | [] => []
  | x :: r => insK x (sortK r)
def normS (nt m nx : Nat) (σ : St) : Option St := match restrict (sortK (σ.slots.map (·.1))) (sortK (σ.blks.map (·.1))) nx σ with
  | some ⟨nt', sl, bl, nx', m'⟩ => if nt' = nt ∧ m' = m ∧ nx' = nx then some ⟨nt, sl, bl, nx, m⟩ else none
  | none => none
def looks (L : Array Bool) (σ : St) (sc : List Bool) : (List Bool × List Bool) × List (Nat × List Nat) × List (Nat × Bool) :=
  ((L.toList, sc), σ.slots.map (fun p => (p.1, p.2.ids)), σ.blks.map (fun p => (p.1, p.2.row)))
def addNd (L : Array Bool) (σ : St) (sc : List Bool) : List Nd → List Nd × List Prop
  | [] => ([(L, σ, sc)], [])
  | (L', σ', sc') :: r => if looks L σ sc = looks L' σ' sc' then ((L', σ', sc') :: r, [σ = σ']) else match addNd L σ sc r with | (r', ob) => ((L', σ', sc') :: r', ob)
def mergeNd : List Nd → List Nd × List Prop
  | [] => ([], [])
  | (L, σ, sc) :: r => match mergeNd r with | (l, ob) => match addNd L σ sc l with | (l', ob') => (l', ob' ++ ob)
def mapO (f : Nat → Option (Nd × List Prop)) : List Nat → Option (List Nd × List Prop)
  | [] => some ([], [])
  | i :: r => match f i, mapO f r with
    | some (n, ob), some (l, ob') => some (n :: l, ob ++ ob')
    | _, _ => none
def nextNd (P : Program) (ctr : Ctr) (ops : Array Oper) (nt m nx : Nat) : Nd → Option (List Nd × List Prop)
  | (L, σ, sc) => match Region.ready .any ops L with
    | [] => some ([(L, σ, sc)], [])
    | r => match firstPureG P ctr ops L σ sc r with
      | some (i, σ1, ob1, sc1) => match normS nt m nx σ1 with | some σ2 => some ([(L.setIfInBounds i true, σ2, sc1)], ob1) | none => none
      | none => mapO (fun i => match ops[i]? with
        | some o => match stepOpX P ctr ops σ i o sc with
          | some (σ1, ob1, sc1) => match normS nt m nx σ1 with | some σ2 => some ((L.setIfInBounds i true, σ2, sc1), ob1) | none => none
          | none => none
        | none => none) r
def nextAll (P : Program) (ctr : Ctr) (ops : Array Oper) (nt m nx : Nat) : List Nd → Option (List Nd × List Prop)
  | [] => some ([], [])
  | n :: r => match nextNd P ctr ops nt m nx n, nextAll P ctr ops nt m nx r with
    | some (l, ob), some (l', ob') => some (l ++ l', ob ++ ob')
    | _, _ => none
def allDone (ops : Array Oper) (ns : List Nd) : Bool := ns.all fun n => (Region.ready .any ops n.1).isEmpty
def rdSt (σ : St) : St := { σ with slots := σ.slots.map fun p => (p.1, p.2.rd) }
def endSt (d : Ke) (σ : St) : Option St := restrict d.ks d.bs d.nx (if d.bs.isEmpty = true then rdSt σ else σ)
def endAll (d : Ke) : List Nd → Option (St × List Prop × List Bool)
  | [] => none
  | [(_, σ, sc)] => match endSt d σ with
    | some R => some (R, [], sc)
    | none => none
  | (_, σ, sc) :: r => match endSt d σ, endAll d r with
    | some R, some (R', ob, sc') => if sc = sc' then some (R', (R = R') :: ob, sc') else none
    | _, _ => none
def execL (P : Program) (ctr : Ctr) (ops : Array Oper) (d : Ke) (nt m : Nat) : Nat → Nat → List Nd → Option (St × List Prop × List Bool)
  | 0, _, _ => none
  | f + 1, nx, ns => if allDone ops ns = true then endAll d ns else match nextAll P ctr ops nt m nx ns with
    | some (l, ob) => match mergeNd l with
      | (l', ob') => match execL P ctr ops d nt m f (nx + 4) l' with
        | some (R, ob2, sc) => some (R, ob ++ (ob' ++ ob2), sc)
        | none => none
    | none => none
def drawL2 (P : Program) (ctr : Ctr) (ops : Array Oper) (d : Ke) (σ : St) (sc : List Bool) : Option (St × List Prop × List Bool) :=
  if Region.noSelect ops then execL P ctr ops d σ.nt σ.m (ops.size + 1) (σ.next + 4) [(Array.replicate ops.size false, σ, sc)] else none
section
variable {P : Program} {ctr : Ctr} {w0 : Fr} {w : World} {S : Own} {σ σ' : St} {β : Nat → Nat} {a : Act} {ops : Array Oper}
theorem Sat.norm {nt m nx : Nat} (h : normS nt m nx σ = some σ') (hS : Sat w0 S σ β a w) : Sat w0 S σ' β a w := by
  unfold normS at h
  split at h
  · rename_i nt' sl bl nx' m' hr
    split at h
    · rename_i hc
      obtain ⟨rfl, rfl, rfl⟩ := hc
      cases h
      exact hS.restrict hr
    · cases h
  · cases h
theorem rd_ids (s : SV) : ∀ i ∈ s.rd.ids, i ∈ s.ids := by
  cases s <;> intro i hi <;> simp_all [SV.rd, SV.ids]
theorem Sat.rd (hS : Sat w0 S σ β a w) : Sat w0 S (rdSt σ) β a w := by
  refine ⟨hS.defs, hS.size, ?_, hS.blk, hS.low, hS.inj, hS.uniq, ?_, hS.bndB, hS.ext, hS.lowS, hS.pins⟩
  · intro d s hd
    obtain ⟨⟨d', s'⟩, h1, h2⟩ := List.mem_map.1 hd
    cases h2
    exact rd_ok (hS.slot _ _ h1)
  · intro d s hd i hi
    obtain ⟨⟨d', s'⟩, h1, h2⟩ := List.mem_map.1 hd
    cases h2
    exact hS.bnd _ _ h1 i (rd_ids s' i hi)
theorem Sat.ends {d : Ke} (h : endSt d σ = some σ') (hS : Sat w0 S σ β a w) : Sat w0 S σ' β a w := by
  unfold endSt at h
  split at h
  · exact hS.rd.restrict h
  · exact hS.restrict h
theorem addNd_ok {L : Array Bool} {σ : St} {sc : List Bool} : ∀ {l l' : List Nd} {ob : List Prop}, addNd L σ sc l = (l', ob) → All ob → (L, σ, sc) ∈ l' ∧ ∀ m ∈ l, m ∈ l' := by
  intro l
  induction l with
  | nil => intro l' ob h _; simp only [addNd] at h; cases h; exact ⟨by simp, by simp⟩
  | cons m r ih =>
    obtain ⟨L', σ', sc'⟩ := m
    intro l' ob h hob
    simp only [addNd] at h
    split at h
    · rename_i hlk
      cases h
      obtain ⟨h1, _⟩ := hob
      have e1 : L = L' := Array.ext' (congrArg (fun x => x.1.1) hlk)
      have e2 : sc = sc' := congrArg (fun x => x.1.2) hlk
      subst e1 e2 h1
      exact ⟨by simp, fun _ h => h⟩
    · cases hq : addNd L σ sc r with
      | mk r' ob' =>
        rw [hq] at h
        cases h
        obtain ⟨h1, h2⟩ := ih hq hob
        refine ⟨List.mem_cons_of_mem _ h1, fun x hx => ?_⟩
        rcases List.mem_cons.1 hx with rfl | hx
        · simp
        · exact List.mem_cons_of_mem _ (h2 x hx)
theorem mergeNd_ok : ∀ {l l' : List Nd} {ob : List Prop}, mergeNd l = (l', ob) → All ob → ∀ n ∈ l, n ∈ l' := by
  intro l
  induction l with
  | nil => intro l' ob _ _ n hn; cases hn
  | cons n r ih =>
    obtain ⟨L, σ, sc⟩ := n
    intro l' ob h hob m hm
    simp only [mergeNd] at h
    cases hq : mergeNd r with
    | mk l1 ob1 =>
      rw [hq] at h
      dsimp only at h
      cases hq2 : addNd L σ sc l1 with
      | mk l2 ob2 =>
        rw [hq2] at h
        cases h
        obtain ⟨h1, h2⟩ := All.append.1 hob
        obtain ⟨h3, h4⟩ := addNd_ok hq2 h1
        rcases List.mem_cons.1 hm with rfl | hm
        · exact h3
        · exact h4 _ (ih hq h2 _ hm)
theorem mapO_ok {f : Nat → Option (Nd × List Prop)} : ∀ {r : List Nat} {l : List Nd} {ob : List Prop}, mapO f r = some (l, ob) → All ob → ∀ i ∈ r, ∃ n ob', f i = some (n, ob') ∧ All ob' ∧ n ∈ l := by
  intro r
  induction r with
  | nil => intro l ob _ _ i hi; cases hi
  | cons j r ih =>
    intro l ob h hob i hi
    simp only [mapO] at h
    split at h
    · rename_i n ob1 l1 ob2 h1 h2
      cases h
      obtain ⟨ho1, ho2⟩ := All.append.1 hob
      rcases List.mem_cons.1 hi with rfl | hi
      · exact ⟨n, ob1, h1, ho1, by simp⟩
      · obtain ⟨m, ob', h3, h4, h5⟩ := ih h2 ho2 i hi
        exact ⟨m, ob', h3, h4, List.mem_cons_of_mem _ h5⟩
    · cases h
theorem endAll_ok {d : Ke} : ∀ {ns : List Nd} {R : St} {ob : List Prop} {sc : List Bool}, endAll d ns = some (R, ob, sc) → All ob → ∀ n ∈ ns, endSt d n.2.1 = some R := by
  intro ns
  induction ns with
  | nil => intro R ob sc _ _ n hn; cases hn
  | cons n r ih =>
    obtain ⟨L, σ, sc0⟩ := n
    intro R ob sc h hob m hm
    cases r with
    | nil =>
      simp only [endAll] at h
      split at h
      · rename_i R1 h1
        cases h
        rcases List.mem_cons.1 hm with rfl | hm
        · exact h1
        · cases hm
      · cases h
    | cons k r =>
      simp only [endAll] at h
      split at h
      · rename_i R1 R2 ob1 sc1 h1 h2
        split at h
        · cases h
          obtain ⟨ho1, ho2⟩ := hob
          rcases List.mem_cons.1 hm with rfl | hm
          · rw [← ho1]; exact h1
          · exact ih h2 ho2 _ hm
        · cases h
      · cases h
theorem nextAll_ok {nt m nx : Nat} : ∀ {ns l : List Nd} {ob : List Prop}, nextAll P ctr ops nt m nx ns = some (l, ob) → All ob → ∀ n ∈ ns, ∃ l1 ob1, nextNd P ctr ops nt m nx n = some (l1, ob1) ∧ All ob1 ∧ ∀ m ∈ l1, m ∈ l := by
  intro ns
  induction ns with
  | nil => intro l ob _ _ n hn; cases hn
  | cons n r ih =>
    intro l ob h hob m hm
    simp only [nextAll] at h
    split at h
    · rename_i l1 ob1 l2 ob2 h1 h2
      cases h
      obtain ⟨ho1, ho2⟩ := All.append.1 hob
      rcases List.mem_cons.1 hm with rfl | hm
      · exact ⟨l1, ob1, h1, ho1, fun x hx => List.mem_append_left _ hx⟩
      · obtain ⟨l3, ob3, h3, h4, h5⟩ := ih h2 ho2 m hm
        exact ⟨l3, ob3, h3, h4, fun x hx => List.mem_append_right _ (h5 x hx)⟩
    · cases h
theorem execL_ok (hctr : CtrOk P ctr) (hs : Region.noSelect ops = true) {d : Ke} {nt m : Nat} {Q : Exit → Act → World → Prop} (hQ : ∀ c a w, ¬ Q (.panic c) a w) : ∀ {f nx : Nat} {ns : List Nd} {R : St} {sc' : List Bool} {ob : List Prop},
    execL P ctr ops d nt m f nx ns = some (R, ob, sc') → All ob → (∀ β' a' w', Sat w0 S R β' a' w' → Q .normal a' w') → ∀ n ∈ ns, ∀ {β : Nat → Nat} {a : Act} {w : World}, Sat w0 S n.2.1 β a w → ∀ {g : Nat}, left n.1 ≤ g → n.1.size = ops.size → wpAny P .any ops Q g n.1 a w := by
  intro f
  induction f with
  | zero => intro nx ns R sc' ob h; simp [execL] at h
  | succ f ih =>
    intro nx ns R sc' ob h hob hk n hn β a w hS g hl hsz
    simp only [execL] at h
    split at h
    · rename_i hd
      have hr : Region.ready .any ops n.1 = [] := by
        have := List.all_eq_true.1 hd n hn
        simpa using this
      exact wpAny_done hr (hk β a w (hS.ends (endAll_ok h hob n hn))) g
    · split at h
      · rename_i l ob1 hnx
        cases hq : mergeNd l with
        | mk l' ob2 =>
          rw [hq] at h
          dsimp only at h
          split at h
          · rename_i R1 ob3 sc1 hx
            cases h
            obtain ⟨ho1, ho⟩ := All.append.1 hob
            obtain ⟨ho2, ho3⟩ := All.append.1 ho
            obtain ⟨l1, obn, h1, h2, h3⟩ := nextAll_ok hnx ho1 n hn
            have hgo : ∀ m ∈ l1, ∀ {β : Nat → Nat} {a : Act} {w : World}, Sat w0 S m.2.1 β a w → ∀ {g : Nat}, left m.1 ≤ g → m.1.size = ops.size → wpAny P .any ops Q g m.1 a w :=
              fun m hm => ih hx ho3 hk m (mergeNd_ok hq ho2 m (h3 m hm))
            obtain ⟨L, σ, sc⟩ := n
            simp only [nextNd] at h1
            dsimp only at hS hl hsz
            split at h1
            · cases h1
              exact hgo (L, σ, sc) (by simp) hS hl hsz
            · rename_i hr0
              have hstep : ∀ i, i ∈ Region.ready .any ops L → left L = left (L.setIfInBounds i true) + 1 := fun i hi => by
                obtain ⟨h1, o, ho, _⟩ := mem_ready.1 hi
                exact left_set (by rw [hsz]; exact (Array.getElem?_eq_some_iff.1 ho).1) h1
              have hpos : 0 < g := by
                cases hr : Region.ready .any ops L with
                | nil => exact absurd hr hr0
                | cons j t => have := hstep j (by rw [hr]; simp); omega
              obtain ⟨g, rfl⟩ : ∃ g', g = g' + 1 := ⟨g - 1, by omega⟩
              split at h1
              · rename_i i σ1 ob1 sc1 hp
                split at h1
                · rename_i σ2 hno
                  cases h1
                  obtain ⟨hm, hf, o, ho, hst⟩ := firstPureG_ok hp
                  obtain ⟨v, hy, hS1⟩ := pureStepG_ok hst h2 hS
                  refine wpAny_take ho hs hf (by simpa using hm) (fun c a w h => absurd h (hQ c _ w)) hy ?_
                  exact hgo _ (List.mem_singleton.2 rfl) (hS1.norm hno) (by have := hstep i hm; dsimp only; omega) (by simpa using hsz)
                · cases h1
              · refine wpAny_all rfl hr0 ?_
                intro j hj
                obtain ⟨m, obj, h4, h5, h6⟩ := mapO_ok h1 h2 j hj
                split at h4
                · rename_i o ho
                  split at h4
                  · rename_i σ1 ob1 sc1 hst
                    split at h4
                    · rename_i σ2 hno
                      cases h4
                      refine stepOpX_ok hctr hst h5 ho hS fun β' a' w' hS' => ?_
                      exact hgo _ h6 (hS'.norm hno) (by have := hstep j hj; dsimp only; omega) (by simpa using hsz)
                    · cases h4
                  · cases h4
                · cases h4
          · cases h
      · cases h
theorem drawL2_ok (hm : P.follows .mixedOrders = true) (hctr : CtrOk P ctr) {id : Nat} {d : Ke} {sc sc' : List Bool} {ob : List Prop} (h : drawL2 P ctr ops d σ sc = some (σ', ob, sc')) (hob : All ob) (hS : Sat w0 S σ β a w)
    {Q : Exit → Act → World → Prop} (hQ : ∀ c a w, ¬ Q (.panic c) a w) (hk : ∀ β' a' w', Sat w0 S σ' β' a' w' → Q .normal a' w') : (Code.region id ops true).wp P Q a w := by
  unfold drawL2 at h
  split at h
  · rename_i hs
    refine wp_region_any hm ?_
    have hxt : Ext w { w with drawn := w.drawn + 1 } := ⟨rfl, rfl, rfl, Nat.le_refl _, fun _ _ => rfl⟩
    refine execL_ok hctr hs hQ h hob hk _ (List.mem_singleton.2 rfl) (hS.extend hxt) ?_ (by simp)
    simp [left, List.countP_replicate]
  · cases h
end
def regL (P : Program) (ctr : Ctr) (body : Code) (p : List Nat) (r : List It) (d : Ke) (σ : St) (sc : List Bool) : List It × Option St × List Prop × List Bool :=
  match nav body p with
  | some (.region _ ops true) => match drawL2 P ctr ops d σ sc with
    | some (σ', ob, sc') => (r, some σ', ob, sc')
    | none => ([], none, [], sc)
  | _ => ([], none, [], sc)
theorem hold_allL {P : Program} {body : Code} {w0 : Fr} {S : Own} (hm : P.follows .mixedOrders = true) {ctr : Ctr} (hctr : CtrOk P ctr) {Q : Exit → Act → World → Prop} [ExitOk Q] {p : List Nat} {r : List It} {d : Ke} {σ : St} {sc : List Bool} {st' : List It} {σ' : St} {ob : List Prop} {sc' : List Bool}
    (h : regL P ctr body p r d σ sc = (st', some σ', ob, sc')) (hob : All ob) (hk : Hold P body Q w0 S st' σ') : Hold P body Q w0 S (.at p :: r) σ := by
  unfold regL at h
  split at h
  · rename_i id ops hn
    split at h
    · rename_i σ1 ob1 sc1 hx
      cases h
      intro β a w hS
      simp only [contQ, hn]
      exact drawL2_ok hm hctr hx hob hS (contQ_panic (ExitOk.panic (Q := Q)) _) hk
    · cases h
  · cases h
end Go.Eng

namespace Go.Eng
open Go.RowKit
abbrev TabM := List (Nat × Nat × Nat)
abbrev Nm := Nat × St × List Bool
def depsOf (ops : Array Oper) (i : Nat) : List Nat := match ops[i]? with
  | some o => (o.after.toList.filter (Region.binds .any)).map (·.on)
  | none => []
def blkOf (ops : Array Oper) (i : Nat) : List Nat := match ops[i]? with
  | some oi => (List.range ops.size).filter fun j => !(j == i || match ops[j]? with
    | some oj => oj.after.any (fun e => Region.binds .any e && e.on == i) || oi.apart ops oj
    | none => true)
  | none => []
def maskOf (l : List Nat) : Nat := l.foldl (fun a j => a ||| 2 ^ j) 0
def tabOf (ops : Array Oper) : TabM := (List.range ops.size).map fun i => (i, maskOf (depsOf ops i), maskOf (blkOf ops i))
def readyM (m : Nat) (t : Nat × Nat × Nat) : Bool := !m.testBit t.1 && (m &&& t.2.1 == t.2.1)
def freeM (m : Nat) (t : Nat × Nat × Nat) : Bool := m &&& t.2.2 == t.2.2
def looksM (m : Nat) (σ : St) (sc : List Bool) : (Nat × List Bool) × List (Nat × List Nat) × List (Nat × Bool) :=
  ((m, sc), σ.slots.map (fun p => (p.1, p.2.ids)), σ.blks.map (fun p => (p.1, p.2.row)))
abbrev Eqs := List (St × St)
def addNm (m : Nat) (σ : St) (sc : List Bool) : List Nm → List Nm × Eqs
  | [] => ([(m, σ, sc)], [])
  | (m', σ', sc') :: r => if looksM m σ sc = looksM m' σ' sc' then ((m', σ', sc') :: r, [(σ, σ')]) else match addNm m σ sc r with | (r', ob) => ((m', σ', sc') :: r', ob)
def mergeNm : List Nm → List Nm × Eqs
  | [] => ([], [])
  | (m, σ, sc) :: r => match mergeNm r with | (l, ob) => match addNm m σ sc l with | (l', ob') => (l', ob' ++ ob)
def mapM (f : Nat × Nat × Nat → Option (Nm × List Prop)) : TabM → Option (List Nm × List Prop)
  | [] => some ([], [])
  | i :: r => match f i, mapM f r with
    | some (n, ob), some (l, ob') => some (n :: l, ob ++ ob')
    | _, _ => none
def firstM (P : Program) (ctr : Ctr) (ops : Array Oper) (m : Nat) (σ : St) (sc : List Bool) : TabM → Option (Nat × St × List Prop × List Bool)
  | [] => none
  | t :: r => if freeM m t = true then (match ops[t.1]? with
      | some o => match pureStepG P ctr ops σ t.1 o sc with
        | some (σ', ob, sc') => some (t.1, σ', ob, sc')
        | none => firstM P ctr ops m σ sc r
      | none => none) else firstM P ctr ops m σ sc r
def preM (nt mm a nx : Nat) (σ : St) : Option St := match normS nt mm a σ with
  | some s => some s
  | none => normS nt mm nx σ
def nextNm (P : Program) (ctr : Ctr) (ops : Array Oper) (T : TabM) (b0 nt mm nx : Nat) : Nm → Option (List Nm × List Prop)
  | (m, σ, sc) => match T.filter (readyM m) with
    | [] => some ([(m, σ, sc)], [])
    | r => match firstM P ctr ops m σ sc r with
      | some (i, σ1, ob1, sc1) => some ([(m ||| 2 ^ i, σ1, sc1)], ob1)
      | none => mapM (fun t => match ops[t.1]? with
        | some o => match preM nt mm (b0 + 16 * t.1) nx σ with
          | some σ0 => match stepOpX P ctr ops σ0 t.1 o sc with
            | some (σ1, ob1, sc1) => match normS nt mm (nx + 16) σ1 with | some σ2 => some ((m ||| 2 ^ t.1, σ2, sc1), ob1) | none => none
            | none => none
          | none => none
        | none => none) r
def nextAllM (P : Program) (ctr : Ctr) (ops : Array Oper) (T : TabM) (b0 nt mm nx : Nat) : List Nm → Option (List Nm × List Prop)
  | [] => some ([], [])
  | n :: r => match nextNm P ctr ops T b0 nt mm nx n, nextAllM P ctr ops T b0 nt mm nx r with
    | some (l, ob), some (l', ob') => some (l ++ l', ob ++ ob')
    | _, _ => none
def allDoneM (T : TabM) (ns : List Nm) : Bool := ns.all fun n => (T.filter (readyM n.1)).isEmpty
def endAllM (d : Ke) : List Nm → Option (St × Eqs × List Bool)
  | [] => none
  | [(_, σ, sc)] => match endSt d σ with
    | some R => some (R, [], sc)
    | none => none
  | (_, σ, sc) :: r => match endSt d σ, endAllM d r with
    | some R, some (R', ob, sc') => if sc = sc' then some (R', (R, R') :: ob, sc') else none
    | _, _ => none
def execM (P : Program) (ctr : Ctr) (ops : Array Oper) (T : TabM) (d : Ke) (b0 nt mm : Nat) : Nat → Nat → List Nm → Option (St × List Prop × List Bool × Eqs)
  | 0, _, _ => none
  | f + 1, nx, ns => if allDoneM T ns = true then (match endAllM d ns with
      | some (R, eq, sc) => some (R, [], sc, eq)
      | none => none) else match nextAllM P ctr ops T b0 nt mm nx ns with
    | some (l, ob) => match mergeNm l with
      | (l', eq) => match execM P ctr ops T d b0 nt mm f (nx + 16) l' with
        | some (R, ob2, sc, eq2) => some (R, ob ++ ob2, sc, eq ++ eq2)
        | none => none
    | none => none
def drawM2 (P : Program) (ctr : Ctr) (ops : Array Oper) (T : TabM) (d : Ke) (σ : St) (sc : List Bool) : Option (St × List Prop × List Bool × Eqs) :=
  if Region.noSelect ops then execM P ctr ops T d σ.next σ.nt σ.m (ops.size + 1) (σ.next + 16 * ops.size) [(0, σ, sc)] else none
def AllEq (l : Eqs) : Prop := ∀ p ∈ l, p.1 = p.2
theorem AllEq.of : ∀ {l : Eqs}, l.map (·.1) = l.map (·.2) → AllEq l
  | [], _ => fun p hp => by cases hp
  | (a, b) :: l, h => by
    simp only [List.map_cons, List.cons.injEq] at h
    intro p hp
    rcases List.mem_cons.1 hp with rfl | hp
    · exact h.1
    · exact AllEq.of h.2 p hp
theorem AllEq.append {l m : Eqs} (h : AllEq (l ++ m)) : AllEq l ∧ AllEq m := ⟨fun p hp => h p (List.mem_append_left _ hp), fun p hp => h p (List.mem_append_right _ hp)⟩
theorem AllEq.cons {a b : St} {m : Eqs} (h : AllEq ((a, b) :: m)) : a = b ∧ AllEq m := ⟨h (a, b) (by simp), fun p hp => h p (by simp [hp])⟩
def IsM (n : Nat) (L : Array Bool) (m : Nat) : Prop := L.size = n ∧ ∀ j, L.getD j false = m.testBit j
section
variable {P : Program} {ctr : Ctr} {w0 : Fr} {w : World} {S : Own} {σ σ' : St} {β : Nat → Nat} {a : Act} {ops : Array Oper}
theorem mask_bit (j : Nat) : ∀ (l : List Nat) (a : Nat), (l.foldl (fun a j => a ||| 2 ^ j) a).testBit j = (a.testBit j || decide (j ∈ l)) := by
  intro l
  induction l with
  | nil => intro a; simp
  | cons x r ih =>
    intro a
    rw [List.foldl_cons, ih, Nat.testBit_or, Nat.testBit_two_pow]
    by_cases h : x = j
    · subst h; simp
    · have h' : ¬ j = x := fun e => h e.symm
      simp [h, h']
theorem sub_iff {m : Nat} {l : List Nat} : (m &&& maskOf l == maskOf l) = true ↔ ∀ j ∈ l, m.testBit j = true := by
  rw [beq_iff_eq]
  constructor
  · intro h j hj
    have h1 := congrArg (fun x => x.testBit j) h
    simp only [Nat.testBit_and, maskOf, mask_bit, Nat.zero_testBit, Bool.false_or, hj, decide_true, Bool.and_true] at h1
    exact h1
  · intro h
    refine Nat.eq_of_testBit_eq fun j => ?_
    simp only [Nat.testBit_and, maskOf, mask_bit, Nat.zero_testBit, Bool.false_or]
    by_cases hj : j ∈ l
    · rw [h j hj]; simp
    · simp [hj]
theorem Sat.preM {nt m x nx : Nat} (h : preM nt m x nx σ = some σ') (hS : Sat w0 S σ β a w) : Sat w0 S σ' β a w := by
  unfold Eng.preM at h
  split at h
  · rename_i s hs; cases h; exact hS.norm hs
  · exact hS.norm h
theorem IsM.start (n : Nat) : IsM n (Array.replicate n false) 0 := by
  refine ⟨by simp, fun j => ?_⟩
  rw [Nat.zero_testBit]
  by_cases h : j < n <;> simp [Array.getD, h]
theorem IsM.set {n i m : Nat} {L : Array Bool} (h : IsM n L m) (hi : i < n) : IsM n (L.setIfInBounds i true) (m ||| 2 ^ i) := by
  obtain ⟨h1, h2⟩ := h
  refine ⟨by simpa using h1, fun j => ?_⟩
  rw [Nat.testBit_or, Nat.testBit_two_pow, ← h2 j]
  subst h1
  by_cases hj : j < L.size
  · by_cases hij : i = j
    · subst hij; simp [Array.getD, hj]
    · simp [Array.getD, hj, hij]
  · have : i ≠ j := by omega
    simp [Array.getD, hj, this]
theorem IsM.true {n j m : Nat} {L : Array Bool} (h : IsM n L m) (hj : j < n) : L.getD j true = m.testBit j := by
  rw [← h.2 j]
  have : j < L.size := by rw [h.1]; exact hj
  simp [Array.getD, this]
theorem tab_mem {t : Nat × Nat × Nat} (h : t ∈ tabOf ops) : t.1 < ops.size ∧ t.2.1 = maskOf (depsOf ops t.1) ∧ t.2.2 = maskOf (blkOf ops t.1) := by
  obtain ⟨i, hi, rfl⟩ := List.mem_map.1 h
  exact ⟨List.mem_range.1 hi, rfl, rfl⟩
theorem readyM_iff {L : Array Bool} {m i : Nat} (h : IsM ops.size L m) : i ∈ Region.ready .any ops L ↔ ∃ t ∈ tabOf ops, t.1 = i ∧ readyM m t = true := by
  rw [mem_ready]
  constructor
  · rintro ⟨h1, o, ho, h2⟩
    have hi : i < ops.size := (Array.getElem?_eq_some_iff.1 ho).1
    refine ⟨(i, maskOf (depsOf ops i), maskOf (blkOf ops i)), List.mem_map.2 ⟨i, List.mem_range.2 hi, rfl⟩, rfl, ?_⟩
    simp only [readyM, Bool.and_eq_true, Bool.not_eq_true']
    refine ⟨by rw [← h.true hi]; exact h1, sub_iff.2 fun j hj => ?_⟩
    simp only [depsOf, ho, List.mem_map, List.mem_filter] at hj
    obtain ⟨e, ⟨he, hb⟩, rfl⟩ := hj
    rw [← h.2]
    exact h2 e (by simpa using he) hb
  · rintro ⟨t, ht, rfl, hr⟩
    obtain ⟨hi, hd, _⟩ := tab_mem ht
    simp only [readyM, Bool.and_eq_true, Bool.not_eq_true'] at hr
    rw [hd, sub_iff] at hr
    refine ⟨by rw [h.true hi]; exact hr.1, ops[t.1], by simp [hi], fun e he hb => ?_⟩
    rw [h.2]
    refine hr.2 _ ?_
    simp only [depsOf, Array.getElem?_eq_getElem hi, List.mem_map, List.mem_filter]
    exact ⟨e, ⟨by simpa using he, hb⟩, rfl⟩
theorem freeM_ok {L : Array Bool} {m : Nat} {t : Nat × Nat × Nat} (h : IsM ops.size L m) (ht : t ∈ tabOf ops) (hf : freeM m t = true) : Region.free .any ops L t.1 = true := by
  obtain ⟨hi, _, hb⟩ := tab_mem ht
  simp only [freeM] at hf
  rw [hb, sub_iff] at hf
  unfold Region.free
  simp only [Array.getElem?_eq_getElem hi, List.all_eq_true]
  intro j hj
  have hjs := List.mem_range.1 hj
  cases hm : m.testBit j with
  | true => rw [h.true hjs, hm]; simp
  | false =>
    have hn : j ∉ blkOf ops t.1 := fun hj' => by rw [hf j hj'] at hm; cases hm
    simp only [blkOf, Array.getElem?_eq_getElem hi, List.mem_filter, not_and, Bool.not_eq_true, Bool.not_eq_false'] at hn
    have := hn hj
    cases hji : (j == t.1) with
    | true => simp
    | false => rw [hji] at this; simp only [Bool.false_or] at this; simp only [Bool.or_eq_true]; exact .inr this
theorem addNm_ok {m : Nat} {σ : St} {sc : List Bool} : ∀ {l l' : List Nm} {ob : Eqs}, addNm m σ sc l = (l', ob) → AllEq ob → (m, σ, sc) ∈ l' ∧ ∀ x ∈ l, x ∈ l' := by
  intro l
  induction l with
  | nil => intro l' ob h _; simp only [addNm] at h; cases h; exact ⟨by simp, by simp⟩
  | cons x r ih =>
    obtain ⟨m', σ', sc'⟩ := x
    intro l' ob h hob
    simp only [addNm] at h
    split at h
    · rename_i hlk
      cases h
      obtain ⟨h1, _⟩ := hob.cons
      have e1 : m = m' := congrArg (fun x => x.1.1) hlk
      have e2 : sc = sc' := congrArg (fun x => x.1.2) hlk
      subst e1 e2 h1
      exact ⟨by simp, fun _ h => h⟩
    · cases hq : addNm m σ sc r with
      | mk r' ob' =>
        rw [hq] at h
        cases h
        obtain ⟨h1, h2⟩ := ih hq hob
        refine ⟨List.mem_cons_of_mem _ h1, fun x hx => ?_⟩
        rcases List.mem_cons.1 hx with rfl | hx
        · simp
        · exact List.mem_cons_of_mem _ (h2 x hx)
theorem mergeNm_ok : ∀ {l l' : List Nm} {ob : Eqs}, mergeNm l = (l', ob) → AllEq ob → ∀ n ∈ l, n ∈ l' := by
  intro l
  induction l with
  | nil => intro l' ob _ _ n hn; cases hn
  | cons n r ih =>
    obtain ⟨m, σ, sc⟩ := n
    intro l' ob h hob x hx
    simp only [mergeNm] at h
    cases hq : mergeNm r with
    | mk l1 ob1 =>
      rw [hq] at h
      dsimp only at h
      cases hq2 : addNm m σ sc l1 with
      | mk l2 ob2 =>
        rw [hq2] at h
        cases h
        obtain ⟨h1, h2⟩ := hob.append
        obtain ⟨h3, h4⟩ := addNm_ok hq2 h1
        rcases List.mem_cons.1 hx with rfl | hx
        · exact h3
        · exact h4 _ (ih hq h2 _ hx)
theorem mapM_ok {f : Nat × Nat × Nat → Option (Nm × List Prop)} : ∀ {r : TabM} {l : List Nm} {ob : List Prop}, mapM f r = some (l, ob) → All ob → ∀ i ∈ r, ∃ n ob', f i = some (n, ob') ∧ All ob' ∧ n ∈ l := by
  intro r
  induction r with
  | nil => intro l ob _ _ i hi; cases hi
  | cons j r ih =>
    intro l ob h hob i hi
    simp only [mapM] at h
    split at h
    · rename_i n ob1 l1 ob2 h1 h2
      cases h
      obtain ⟨ho1, ho2⟩ := All.append.1 hob
      rcases List.mem_cons.1 hi with rfl | hi
      · exact ⟨n, ob1, h1, ho1, by simp⟩
      · obtain ⟨x, ob', h3, h4, h5⟩ := ih h2 ho2 i hi
        exact ⟨x, ob', h3, h4, List.mem_cons_of_mem _ h5⟩
    · cases h
theorem firstM_ok {m : Nat} : ∀ {r : TabM} {sc sc' : List Bool} {i : Nat} {ob : List Prop}, firstM P ctr ops m σ sc r = some (i, σ', ob, sc') → ∃ t ∈ r, t.1 = i ∧ freeM m t = true ∧ ∃ o, ops[i]? = some o ∧ pureStepG P ctr ops σ i o sc = some (σ', ob, sc') := by
  intro r
  induction r with
  | nil => intro sc sc' i ob h; simp [firstM] at h
  | cons t r ih =>
    intro sc sc' i ob h
    simp only [firstM] at h
    split at h
    · rename_i hf
      split at h
      · rename_i o ho
        split at h
        · rename_i hp; cases h; exact ⟨t, by simp, rfl, hf, o, ho, hp⟩
        · obtain ⟨t', h1, h2⟩ := ih h; exact ⟨t', List.mem_cons_of_mem _ h1, h2⟩
      · cases h
    · obtain ⟨t', h1, h2⟩ := ih h; exact ⟨t', List.mem_cons_of_mem _ h1, h2⟩
theorem endAllM_ok {d : Ke} : ∀ {ns : List Nm} {R : St} {ob : Eqs} {sc : List Bool}, endAllM d ns = some (R, ob, sc) → AllEq ob → ∀ n ∈ ns, endSt d n.2.1 = some R := by
  intro ns
  induction ns with
  | nil => intro R ob sc _ _ n hn; cases hn
  | cons n r ih =>
    obtain ⟨L, σ, sc0⟩ := n
    intro R ob sc h hob m hm
    cases r with
    | nil =>
      simp only [endAllM] at h
      split at h
      · rename_i R1 h1
        cases h
        rcases List.mem_cons.1 hm with rfl | hm
        · exact h1
        · cases hm
      · cases h
    | cons k r =>
      simp only [endAllM] at h
      split at h
      · rename_i R1 R2 ob1 sc1 h1 h2
        split at h
        · cases h
          obtain ⟨ho1, ho2⟩ := hob.cons
          rcases List.mem_cons.1 hm with rfl | hm
          · rw [← ho1]; exact h1
          · exact ih h2 ho2 _ hm
        · cases h
      · cases h
theorem nextAllM_ok {T : TabM} {b0 nt mm nx : Nat} : ∀ {ns l : List Nm} {ob : List Prop}, nextAllM P ctr ops T b0 nt mm nx ns = some (l, ob) → All ob → ∀ n ∈ ns, ∃ l1 ob1, nextNm P ctr ops T b0 nt mm nx n = some (l1, ob1) ∧ All ob1 ∧ ∀ x ∈ l1, x ∈ l := by
  intro ns
  induction ns with
  | nil => intro l ob _ _ n hn; cases hn
  | cons n r ih =>
    intro l ob h hob m hm
    simp only [nextAllM] at h
    split at h
    · rename_i l1 ob1 l2 ob2 h1 h2
      cases h
      obtain ⟨ho1, ho2⟩ := All.append.1 hob
      rcases List.mem_cons.1 hm with rfl | hm
      · exact ⟨l1, ob1, h1, ho1, fun x hx => List.mem_append_left _ hx⟩
      · obtain ⟨l3, ob3, h3, h4, h5⟩ := ih h2 ho2 m hm
        exact ⟨l3, ob3, h3, h4, fun x hx => List.mem_append_right _ (h5 x hx)⟩
    · cases h
theorem execM_ok (hctr : CtrOk P ctr) (hs : Region.noSelect ops = true) {T : TabM} (hT : T = tabOf ops) {d : Ke} {b0 nt mm : Nat} {Q : Exit → Act → World → Prop} (hQ : ∀ c a w, ¬ Q (.panic c) a w) : ∀ {f nx : Nat} {ns : List Nm} {R : St} {sc' : List Bool} {ob : List Prop} {eq : Eqs},
    execM P ctr ops T d b0 nt mm f nx ns = some (R, ob, sc', eq) → All ob → AllEq eq → (∀ β' a' w', Sat w0 S R β' a' w' → Q .normal a' w') → ∀ n ∈ ns, ∀ {L : Array Bool}, IsM ops.size L n.1 → ∀ {β : Nat → Nat} {a : Act} {w : World}, Sat w0 S n.2.1 β a w → ∀ {g : Nat}, left L ≤ g → wpAny P .any ops Q g L a w := by
  intro f
  induction f with
  | zero => intro nx ns R sc' ob eq h; simp [execM] at h
  | succ f ih =>
    intro nx ns R sc' ob eq h hob heq hk n hn L hL β a w hS g hl
    have hsz : L.size = ops.size := hL.1
    have hnone : T.filter (readyM n.1) = [] → Region.ready .any ops L = [] := fun h0 => by
      refine List.eq_nil_iff_forall_not_mem.2 fun i hi => ?_
      obtain ⟨t, ht, _, hr⟩ := (readyM_iff hL).1 hi
      have : t ∈ T.filter (readyM n.1) := List.mem_filter.2 ⟨by rw [hT]; exact ht, hr⟩
      rw [h0] at this; cases this
    simp only [execM] at h
    split at h
    · rename_i hd
      have hr : Region.ready .any ops L = [] := hnone (by
        have := List.all_eq_true.1 hd n hn
        simpa using this)
      split at h
      · rename_i R1 eq1 sc1 he
        cases h
        exact wpAny_done hr (hk β a w (hS.ends (endAllM_ok he heq n hn))) g
      · cases h
    · split at h
      · rename_i l ob1 hnx
        cases hq : mergeNm l with
        | mk l' ob2 =>
          rw [hq] at h
          dsimp only at h
          split at h
          · rename_i R1 ob3 sc1 eq3 hx
            cases h
            obtain ⟨ho1, ho3⟩ := All.append.1 hob
            obtain ⟨ho2, he3⟩ := heq.append
            obtain ⟨l1, obn, h1, h2, h3⟩ := nextAllM_ok hnx ho1 n hn
            have hgo : ∀ x ∈ l1, ∀ {L : Array Bool}, IsM ops.size L x.1 → ∀ {β : Nat → Nat} {a : Act} {w : World}, Sat w0 S x.2.1 β a w → ∀ {g : Nat}, left L ≤ g → wpAny P .any ops Q g L a w :=
              fun x hx' => ih hx ho3 he3 hk x (mergeNm_ok hq ho2 x (h3 x hx'))
            obtain ⟨m, σ, sc⟩ := n
            simp only [nextNm] at h1
            dsimp only at hS hL hnone
            split at h1
            · cases h1
              exact hgo (m, σ, sc) (by simp) hL hS hl
            · rename_i hr0
              have hr1 : Region.ready .any ops L ≠ [] := fun h0 => by
                cases hf : T.filter (readyM m) with
                | nil => exact hr0 hf
                | cons t r =>
                  obtain ⟨ht, hrt⟩ := List.mem_filter.1 (show t ∈ T.filter (readyM m) by rw [hf]; simp)
                  have := (readyM_iff hL).2 ⟨t, by rw [← hT]; exact ht, rfl, hrt⟩
                  rw [h0] at this; cases this
              have hstep : ∀ i, i ∈ Region.ready .any ops L → left L = left (L.setIfInBounds i true) + 1 := fun i hi => by
                obtain ⟨h1, o, ho, _⟩ := mem_ready.1 hi
                exact left_set (by rw [hsz]; exact (Array.getElem?_eq_some_iff.1 ho).1) h1
              have hpos : 0 < g := by
                cases hr : Region.ready .any ops L with
                | nil => exact absurd hr hr1
                | cons j t => have := hstep j (by rw [hr]; simp); omega
              obtain ⟨g, rfl⟩ : ∃ g', g = g' + 1 := ⟨g - 1, by omega⟩
              split at h1
              · rename_i i σ1 ob1 sc1 hp
                cases h1
                obtain ⟨t, ht, rfl, hf, o, ho, hst⟩ := firstM_ok hp
                obtain ⟨ht1, ht2⟩ := List.mem_filter.1 ht
                rw [hT] at ht1
                have hm : t.1 ∈ Region.ready .any ops L := (readyM_iff hL).2 ⟨t, ht1, rfl, ht2⟩
                obtain ⟨v, hy, hS1⟩ := pureStepG_ok hst h2 hS
                refine wpAny_take ho hs (freeM_ok hL ht1 hf) (by simpa using hm) (fun c a w h => absurd h (hQ c _ w)) hy ?_
                exact hgo _ (List.mem_singleton.2 rfl) (hL.set (tab_mem ht1).1) hS1 (by have := hstep t.1 hm; omega)
              · refine wpAny_all rfl hr1 ?_
                intro j hj
                obtain ⟨t, ht, rfl, hrt⟩ := (readyM_iff hL).1 hj
                obtain ⟨x, obj, h4, h5, h6⟩ := mapM_ok h1 h2 t (List.mem_filter.2 ⟨by rw [hT]; exact ht, hrt⟩)
                split at h4
                · rename_i o ho
                  split at h4
                  · rename_i σ0 hpre
                    split at h4
                    · rename_i σ1 ob1 sc1 hst
                      split at h4
                      · rename_i σ2 hno
                        cases h4
                        refine stepOpX_ok hctr hst h5 ho (hS.preM hpre) fun β' a' w' hS' => ?_
                        exact hgo _ h6 (hL.set (tab_mem ht).1) (hS'.norm hno) (by have := hstep t.1 hj; omega)
                      · cases h4
                    · cases h4
                  · cases h4
                · cases h4
          · cases h
      · cases h
theorem drawM2_ok (hm : P.follows .mixedOrders = true) (hctr : CtrOk P ctr) {id : Nat} {T : TabM} (hT : T = tabOf ops) {d : Ke} {sc sc' : List Bool} {ob : List Prop} {eq : Eqs} (h : drawM2 P ctr ops T d σ sc = some (σ', ob, sc', eq)) (hob : All ob) (heq : AllEq eq) (hS : Sat w0 S σ β a w)
    {Q : Exit → Act → World → Prop} (hQ : ∀ c a w, ¬ Q (.panic c) a w) (hk : ∀ β' a' w', Sat w0 S σ' β' a' w' → Q .normal a' w') : (Code.region id ops true).wp P Q a w := by
  unfold drawM2 at h
  split at h
  · rename_i hs
    refine wp_region_any hm ?_
    have hxt : Ext w { w with drawn := w.drawn + 1 } := ⟨rfl, rfl, rfl, Nat.le_refl _, fun _ _ => rfl⟩
    refine execM_ok hctr hs hT hQ h hob heq hk _ (List.mem_singleton.2 rfl) (IsM.start _) (hS.extend hxt) ?_
    simp [left, List.countP_replicate]
  · cases h
end
def opsAt (body : Code) (p : List Nat) : Array Oper := match nav body p with
  | some (.region _ ops true) => ops
  | _ => #[]
def tabAt (body : Code) (p : List Nat) : TabM := tabOf (opsAt body p)
def regM (P : Program) (ctr : Ctr) (body : Code) (T : TabM) (p : List Nat) (r : List It) (d : Ke) (σ : St) (sc : List Bool) : List It × Option St × List Prop × List Bool :=
  match nav body p with
  | some (.region _ ops true) => match drawM2 P ctr ops T d σ sc with
    | some (σ', ob, sc', _) => (r, some σ', ob, sc')
    | none => ([], none, [], sc)
  | _ => ([], none, [], sc)
def eqsM (P : Program) (ctr : Ctr) (body : Code) (T : TabM) (p : List Nat) (d : Ke) (σ : St) (sc : List Bool) : Eqs :=
  match nav body p with
  | some (.region _ ops true) => match drawM2 P ctr ops T d σ sc with
    | some (_, _, _, eq) => eq
    | none => []
  | _ => []
theorem hold_allM {P : Program} {body : Code} {w0 : Fr} {S : Own} (hm : P.follows .mixedOrders = true) {ctr : Ctr} (hctr : CtrOk P ctr) {Q : Exit → Act → World → Prop} [ExitOk Q] (T : TabM) {p : List Nat} {r : List It} {d : Ke} {σ : St} {sc : List Bool} {st' : List It} {σ' : St} {ob : List Prop} {sc' : List Bool}
    (hT : tabAt body p = T) (h : regM P ctr body T p r d σ sc = (st', some σ', ob, sc')) (hE : (eqsM P ctr body T p d σ sc).map (·.1) = (eqsM P ctr body T p d σ sc).map (·.2)) (hob : All ob) (hk : Hold P body Q w0 S st' σ') : Hold P body Q w0 S (.at p :: r) σ := by
  have hE' := AllEq.of hE
  unfold regM at h
  unfold eqsM at hE'
  unfold tabAt opsAt at hT
  split at h
  · rename_i id ops hn
    rw [hn] at hT hE'
    dsimp only at hE'
    split at h
    · rename_i σ1 ob1 sc1 eq1 hx
      rw [hx] at hE'
      cases h
      intro β a w hS
      simp only [contQ, hn]
      exact drawM2_ok hm hctr hT.symm hx hob hE' hS (contQ_panic (ExitOk.panic (Q := Q)) _) hk
    · cases h
  · cases h
end Go.Eng

namespace Go.Eng
open Go.RowKit
def pinL : List SV → List Value → List SV
  | .sl k l :: r, v :: vs => .pin v (.sl k l) :: pinL r vs
  | s :: r, _ :: vs => s :: pinL r vs
  | _, _ => []
theorem pin_relVs {β : Nat → Nat} {ow : Own} {w : World} : ∀ {l : List SV} {vs : List Value}, relVs β ow w l vs → relVs β ow w (pinL l vs) vs := by
  intro l
  induction l with
  | nil => intro vs h; cases h; rfl
  | cons s r ih =>
    intro vs h
    obtain ⟨v, t, rfl, h1, h2⟩ := h
    have keep : ∀ s', pinL (s :: r) (v :: t) = s' :: pinL r t → relV1 β ow w s' v → relVs β ow w (pinL (s :: r) (v :: t)) (v :: t) := fun s' e h => by rw [e]; exact ⟨v, t, rfl, h, ih h2⟩
    cases s <;> try exact keep _ rfl h1
    rename_i k l
    refine keep _ rfl ?_
    obtain ⟨cs, h3, rfl⟩ := h1
    have h4 := h3
    simp only [rel] at h3
    obtain ⟨⟨v, rfl, _⟩, _⟩ := h3
    refine ⟨[v], ?_, rfl⟩
    simp only [rel]
    exact ⟨rfl, rfl, by simpa only [rel] using h4⟩
section
variable {P : Program} {fn : Func} {body : Code} {S : Own} {σ : St}
theorem contractP {f : FuncId} {args : List SV} {res : SV} (hf : P.funcs[f]? = some fn) (hb : fn.body = some body) (hname : (fn.name == "runtime.NumGoroutine") = false) (hn : Nat.ble args.length fn.ntmps = true) (hids : idss args = [])
    (h : pureF.pureFs args → ∀ (w0 : World) (S : Own) (vs : List Value), relVs (fun _ => 0) S w0 args vs → Hold P body (Fin P fn w0 S res) w0 S [.at []] (initSt (pinL args vs) fn.ntmps)) : Contract P f args res := by
  intro w S vs hSlt hvs
  have hlen : ∀ {l : List SV} {vs : List Value}, relVs (fun _ => 0) S w l vs → (pinL l vs).length = l.length ∧ (idss l = [] → idss (pinL l vs) = []) := by
    intro l
    induction l with
    | nil => intro vs h; cases h; exact ⟨rfl, fun h => h⟩
    | cons s r ih =>
      intro vs h
      obtain ⟨v, t, rfl, _, h2⟩ := h
      obtain ⟨h3, h4⟩ := ih h2
      cases s <;> (refine ⟨by simp [pinL, h3], fun h => ?_⟩; simp only [pinL, idss, SV.ids, List.append_eq_nil_iff, List.nil_append, true_and] at h ⊢; first | exact ⟨h.1, h4 h.2⟩ | exact h4 h | (simp_all; done))
  obtain ⟨l1, l2⟩ := hlen hvs
  exact contract_at hf hb hname (by rw [l1]; exact Nat.le_of_ble_eq_true hn) (l2 hids) hSlt (pin_relVs hvs) (h (pureFs_vs args vs hvs) w S vs hvs)
theorem hold_repin {w0 : World} {Q : Exit → Act → World → Prop} {st : List It} {σ' : St} {t : Nat} {k : IntKind} {l : List Nat} {v : Value} (h0 : relV1 (fun _ => 0) S w0 (.sl k l) v) (hg : getS σ.slots t = some (.raw v)) (hp : putS σ (some t) (.pin v (.sl k l)) = some σ')
    (hk : Hold P body Q (w0 : Fr) S st σ') : Hold P body Q (w0 : Fr) S st σ := by
  intro β a w hS
  have h1 := relV_scalar rfl rfl (hS.slot t _ (getS_mem hg))
  simp only [rel, List.cons.injEq, and_true] at h1
  have h2 := old_reads hS h0
  have hv : relV β (owS S σ.blks β) w (.pin v (.sl k l)) (a.tmps.getD t undef) := by
    rw [h1.1]
    refine relV_of1 rfl ?_
    simp only [rel]
    exact ⟨trivial, rfl, by have := relV_scalar (s := .sl k l) rfl rfl h2; simpa only [rel] using this⟩
  have := hS.put hp hv
  rw [put_same_self] at this
  exact hk _ _ _ this
end
end Go.Eng

