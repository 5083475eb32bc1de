import Derived.Test.YtedccmojbmlkcaaE11
set_option linter.unusedVariables false
set_option linter.unusedSimpArgs false
set_option linter.unusedSectionVars false
namespace Go.Eng.B
def xorL (m : Nat) (l : List Nat) : List Nat := l.map fun x => x ^^^ m
def kk (g : List Nat → List Nat) (key : List Nat) : List Nat := if 64 < key.length then g key else key
def zf (k : List Nat) : List Nat := k ++ List.replicate (64 - k.length) 0
def k64 (g : List Nat → List Nat) (key : List Nat) : List Nat := zf (kk g key)
def hm (g : List Nat → List Nat) (key b : List Nat) : List Nat := g (xorL 92 (k64 g key) ++ g (xorL 54 (k64 g key) ++ b))
def tE (g : List Nat → List Nat) (prk info : List Nat) : Nat → List Nat
  | 0 => []
  | i + 1 => hm g prk (tE g prk info i ++ info ++ [(i + 1) % 256])
def oE (g : List Nat → List Nat) (prk info : List Nat) : Nat → List Nat
  | 0 => []
  | i + 1 => oE g prk info i ++ tE g prk info (i + 1)
def okE (n : Int) : Bool := decide (0 ≤ n) && decide (n ≤ 8160)
def nE (n : Int) : Nat := (n.toNat + 31) / 32
def expE (g : List Nat → List Nat) (prk info : List Nat) (n : Int) : List Nat := if okE n = true then (oE g prk info (nE n)).take n.toNat else []
theorem xorL_len (m : Nat) (l : List Nat) : (xorL m l).length = l.length := by simp [xorL]
theorem xorL_nil (m : Nat) : xorL m [] = [] := rfl
theorem xorL_snoc (m x : Nat) (l : List Nat) : xorL m (l ++ [x]) = xorL m l ++ [x ^^^ m] := by simp [xorL]
theorem xorL_take (m : Nat) (l : List Nat) (i : Nat) (h : i < l.length) : xorL m (l.take (i + 1)) = xorL m (l.take i) ++ [l.getD i 0 ^^^ m] := by
  rw [← xorL_snoc]; congr 1
  rw [List.take_add_one, List.getD_eq_getElem?_getD, List.getElem?_eq_getElem h]; rfl
theorem mix_get (m : Nat) (l : List Nat) (i : Nat) (h : i < l.length) : (xorL m (l.take i) ++ l.drop i).getD i 0 = l.getD i 0 := by
  rw [List.getD_eq_getElem?_getD, List.getElem?_append_right (by simp [xorL]; omega)]
  simp only [xorL_len, List.length_take, List.getElem?_drop, List.getD_eq_getElem?_getD]
  congr 2; omega
theorem mix_set (m : Nat) (l : List Nat) (i : Nat) (h : i < l.length) : (xorL m (l.take i) ++ l.drop i).set i (l.getD i 0 ^^^ m) = xorL m (l.take (i + 1)) ++ l.drop (i + 1) := by
  rw [xorL_take m l i h]
  rw [List.set_append_right _ _ (by simp [xorL]; omega)]
  rw [xorL_len, List.length_take, show i - min i l.length = 0 by omega, List.append_assoc]
  congr 1
  rw [List.drop_eq_getElem_cons h]; rfl
theorem kk_len {g : List Nat → List Nat} (hg : ∀ b, (g b).length = 32) (key : List Nat) : (kk g key).length ≤ 64 := by
  unfold kk; split
  · rw [hg]; omega
  · omega
theorem zf_len {k : List Nat} (h : k.length ≤ 64) : (zf k).length = 64 := by simp [zf]; omega
theorem k64_len {g : List Nat → List Nat} (hg : ∀ b, (g b).length = 32) (key : List Nat) : (k64 g key).length = 64 := zf_len (kk_len hg key)
theorem hm_len {g : List Nat → List Nat} (hg : ∀ b, (g b).length = 32) (key b : List Nat) : (hm g key b).length = 32 := hg _
theorem tE_len {g : List Nat → List Nat} (hg : ∀ b, (g b).length = 32) (prk info : List Nat) (i : Nat) : (tE g prk info (i + 1)).length = 32 := hg _
theorem oE_len {g : List Nat → List Nat} (hg : ∀ b, (g b).length = 32) (prk info : List Nat) : ∀ i, (oE g prk info i).length = 32 * i := by
  intro i
  induction i with
  | zero => rfl
  | succ i ih => simp only [oE, List.length_append, ih, tE_len hg]; omega
theorem expE_len {g : List Nat → List Nat} (hg : ∀ b, (g b).length = 32) (prk info : List Nat) {n : Int} (h : okE n = true) : (expE g prk info n).length = n.toNat := by
  unfold expE; rw [if_pos h, List.length_take, oE_len hg]; unfold nE; omega
theorem oE_pre (g : List Nat → List Nat) (prk info : List Nat) : ∀ {i j : Nat}, i ≤ j → ∃ r, oE g prk info j = oE g prk info i ++ r := by
  intro i j h
  induction j with
  | zero => exact ⟨[], by rw [show i = 0 by omega]; simp⟩
  | succ j ih =>
    rcases Nat.eq_or_lt_of_le h with e | h
    · subst e; exact ⟨[], by simp⟩
    · obtain ⟨r, hr⟩ := ih (by omega)
      exact ⟨r ++ tE g prk info (j + 1), by simp only [oE, hr, List.append_assoc]⟩
theorem zf_zero {k : List Nat} (h : k.length < 64) : zf (k ++ [0]) = zf k := by
  unfold zf
  rw [List.append_assoc]
  congr 1
  rw [List.length_append, List.length_singleton, show 64 - k.length = 64 - (k.length + 1) + 1 by omega, List.replicate_succ]
  rfl
theorem k64_zero {g : List Nat → List Nat} {k : List Nat} (h : k.length < 64) : k64 g (k ++ [0]) = k64 g k := by
  unfold k64 kk
  rw [if_neg (by simp; omega), if_neg (by omega), zf_zero h]
theorem hm_key {g : List Nat → List Nat} {k k' : List Nat} (h : k64 g k' = k64 g k) (b : List Nat) : hm g k' b = hm g k b := by unfold hm; rw [h]
theorem tE_key {g : List Nat → List Nat} {k k' : List Nat} (h : k64 g k' = k64 g k) (info : List Nat) : ∀ i, tE g k' info i = tE g k info i := by
  intro i
  induction i with
  | zero => rfl
  | succ i ih => simp only [tE, ih, hm_key h]
theorem oE_key {g : List Nat → List Nat} {k k' : List Nat} (h : k64 g k' = k64 g k) (info : List Nat) : ∀ i, oE g k' info i = oE g k info i := by
  intro i
  induction i with
  | zero => rfl
  | succ i ih => simp only [oE, ih, tE_key h]
theorem expE_key {g : List Nat → List Nat} {k k' : List Nat} (h : k64 g k' = k64 g k) (info : List Nat) (n : Int) : expE g k' info n = expE g k info n := by unfold expE; rw [oE_key h]
theorem expE_pre {g : List Nat → List Nat} (hg : ∀ b, (g b).length = 32) (prk info : List Nat) {n m : Nat} (h : n + m ≤ 8160) : (expE g prk info ((n : Int) + m)).take n = expE g prk info n := by
  unfold expE
  rw [if_pos (by simp [okE]; omega), if_pos (by simp [okE]; omega)]
  obtain ⟨r, hr⟩ := oE_pre g prk info (show nE (n : Int) ≤ nE ((n : Int) + m) by unfold nE; omega)
  rw [List.take_take, hr, List.take_append_of_le_length (by rw [oE_len hg]; unfold nE; omega)]
  congr 1
  omega
end Go.Eng.B

namespace Go.Eng.B
open Go Go.Eng Go.Proofs
set_option maxRecDepth 100000
def part? : SV → Option (List Nat)
  | .sl .u8 l => some l
  | .nil => some []
  | _ => none
def eJoin (args : List SV) : Option (SV × List Prop) :=
  match args with
  | [.slv 1 [x]] => match part? x with
    | some a => some (.sl .u8 a, [a.length ≤ 100000000])
    | _ => none
  | [.slv 1 [x, y]] => match part? x, part? y with
    | some a, some b => some (.sl .u8 (a ++ b), [a.length + b.length ≤ 100000000])
    | _, _ => none
  | [.slv 1 [x, y, z]] => match part? x, part? y, part? z with
    | some a, some b, some c => some (.sl .u8 (a ++ b ++ c), [a.length + b.length + c.length ≤ 100000000])
    | _, _, _ => none
  | [.slv 1 [x, y, z, v]] => match part? x, part? y, part? z, part? v with
    | some a, some b, some c, some d => some (.sl .u8 (a ++ b ++ c ++ d), [a.length + b.length + c.length + d.length ≤ 100000000])
    | _, _, _, _ => none
  | [.slv 1 [x, y, z, v, u]] => match part? x, part? y, part? z, part? v, part? u with
    | some a, some b, some c, some d, some e => some (.sl .u8 (a ++ b ++ c ++ d ++ e), [a.length + b.length + c.length + d.length + e.length ≤ 100000000])
    | _, _, _, _, _ => none
  | _ => none
theorem part_wk {x : SV} {a : List Nat} (h : part? x = some a) : wk0 x (.sl .u8 a) := by
  unfold part? at h
  split at h
  · cases h; exact wk0_refl _
  · cases h; rfl
  · cases h
theorem wk_of0 {s t : SV} (h : wk0 s t) : wk s t := by
  cases s <;> first | exact h | (cases t <;> first | exact h | (simp only [wk0, SV.ag.injEq] at h; subst h; exact wka_refl _) | (simp [wk0] at h))
theorem part_R {x : SV} {a : List Nat} (h : part? x = some a) {β : Nat → Nat} {ow : Own} {w : World} {v : Value} (hv : relV1 β ow w x v) : relV1 β ow w (.sl .u8 a) v := wk_ok1 (wk_of0 (part_wk h)) hv
theorem Contract.argsR {P : Program} {f : FuncId} {args args' : List SV} {r : SV} (hw : ∀ {β : Nat → Nat} {ow : Own} {w : World} {vs : List Value}, relVs β ow w args vs → relVs β ow w args' vs) (h : Contract P f args' r) : Contract P f args r :=
  fun w S vs h1 h2 => h w S vs h1 (hw h2)
theorem slv_args {P : Program} {f : FuncId} {l m : List SV} {r : SV} (hw : wka l m) (hs : ∀ s ∈ m, s.size = 1) (hl : m.length = l.length) (h : Contract P f [.slv 1 m] r) : Contract P f [.slv 1 l] r := by
  intro w S vs hlt hvs
  refine h w S vs hlt ?_
  obtain ⟨v, t, rfl, ⟨cs, hr, rfl⟩, rfl⟩ := hvs
  refine ⟨_, _, rfl, ⟨cs, ?_, rfl⟩, rfl⟩
  simp only [rel] at hr ⊢
  obtain ⟨h1, h2, v, vs, h3, h4, h5⟩ := hr
  exact ⟨hs, by rw [hl]; exact h2, v, vs, h3, by rw [hl]; exact h4, wka_rels hw h5⟩
theorem slv_argsF {P : Program} {f : FuncId} {l m : List SV} {r : SV} (h : Contract P f [.slv 1 m] r) (hw : wka l m) (hs : ∀ s ∈ m, s.size = 1) (hl : m.length = l.length) : Contract P f [.slv 1 l] r := slv_args hw hs hl h
theorem pj1_c (a : List Nat) (h : a.length ≤ 100000000) : Contract Try.prog 65 [.slv 1 [.sl .u8 a]] (.sl .u8 (a)) := by
  refine contract Try.func65 (body := bodyOf Try.f65) rfl (by kernel_rfl) (by kernel_rfl) rfl ?_
  intro _ w0 S
  exact hold_endw mixed ctr0_ok (unroll := true) (f := 300) (sc := []) (r := (Go.Eng.SV.sl Go.IntKind.u8 a)) (ob := [Go.Eng.slenD (Go.Eng.SV.sl Go.IntKind.u8 a) * (1 : Nat) ≤ (140737488355328 : Nat)]) (sc' := []) (by kernel_rfl) (by repeat' first | exact trivial | omega | (simp only [slenD, SV.slen, List.length_append, List.length_nil]; omega) | refine ⟨?_, ?_⟩) (wkR_of rfl)
theorem pj2_c (a b : List Nat) (h : a.length + b.length ≤ 100000000) : Contract Try.prog 65 [.slv 1 [.sl .u8 a, .sl .u8 b]] (.sl .u8 (a ++ b)) := by
  refine contract Try.func65 (body := bodyOf Try.f65) rfl (by kernel_rfl) (by kernel_rfl) rfl ?_
  intro _ w0 S
  exact hold_endw mixed ctr0_ok (unroll := true) (f := 300) (sc := []) (r := (Go.Eng.SV.sl Go.IntKind.u8 (a ++ b))) (ob := [Go.Eng.slenD (Go.Eng.SV.sl Go.IntKind.u8 a) * (1 : Nat) ≤ (140737488355328 : Nat), Go.Eng.slenD (Go.Eng.SV.sl Go.IntKind.u8 (a ++ b)) * (1 : Nat) ≤ (140737488355328 : Nat)]) (sc' := []) (by kernel_rfl) (by repeat' first | exact trivial | omega | (simp only [slenD, SV.slen, List.length_append, List.length_nil]; omega) | refine ⟨?_, ?_⟩) (wkR_of rfl)
theorem pj3_c (a b c : List Nat) (h : a.length + b.length + c.length ≤ 100000000) : Contract Try.prog 65 [.slv 1 [.sl .u8 a, .sl .u8 b, .sl .u8 c]] (.sl .u8 (a ++ b ++ c)) := by
  refine contract Try.func65 (body := bodyOf Try.f65) rfl (by kernel_rfl) (by kernel_rfl) rfl ?_
  intro _ w0 S
  exact hold_endw mixed ctr0_ok (unroll := true) (f := 300) (sc := []) (r := (Go.Eng.SV.sl Go.IntKind.u8 (a ++ b ++ c))) (ob := [Go.Eng.slenD (Go.Eng.SV.sl Go.IntKind.u8 a) * (1 : Nat) ≤ (140737488355328 : Nat), Go.Eng.slenD (Go.Eng.SV.sl Go.IntKind.u8 (a ++ b)) * (1 : Nat) ≤ (140737488355328 : Nat), Go.Eng.slenD (Go.Eng.SV.sl Go.IntKind.u8 (a ++ b ++ c)) * (1 : Nat) ≤ (140737488355328 : Nat)]) (sc' := []) (by kernel_rfl) (by repeat' first | exact trivial | omega | (simp only [slenD, SV.slen, List.length_append, List.length_nil]; omega) | refine ⟨?_, ?_⟩) (wkR_of rfl)
theorem pj4_c (a b c d : List Nat) (h : a.length + b.length + c.length + d.length ≤ 100000000) : Contract Try.prog 65 [.slv 1 [.sl .u8 a, .sl .u8 b, .sl .u8 c, .sl .u8 d]] (.sl .u8 (a ++ b ++ c ++ d)) := by
  refine contract Try.func65 (body := bodyOf Try.f65) rfl (by kernel_rfl) (by kernel_rfl) rfl ?_
  intro _ w0 S
  exact hold_endw mixed ctr0_ok (unroll := true) (f := 300) (sc := []) (r := (Go.Eng.SV.sl Go.IntKind.u8 (a ++ b ++ c ++ d))) (ob := [Go.Eng.slenD (Go.Eng.SV.sl Go.IntKind.u8 a) * (1 : Nat) ≤ (140737488355328 : Nat), Go.Eng.slenD (Go.Eng.SV.sl Go.IntKind.u8 (a ++ b)) * (1 : Nat) ≤ (140737488355328 : Nat), Go.Eng.slenD (Go.Eng.SV.sl Go.IntKind.u8 (a ++ b ++ c)) * (1 : Nat) ≤ (140737488355328 : Nat), Go.Eng.slenD (Go.Eng.SV.sl Go.IntKind.u8 (a ++ b ++ c ++ d)) * (1 : Nat) ≤ (140737488355328 : Nat)]) (sc' := []) (by kernel_rfl) (by repeat' first | exact trivial | omega | (simp only [slenD, SV.slen, List.length_append, List.length_nil]; omega) | refine ⟨?_, ?_⟩) (wkR_of rfl)
theorem pj5_c (a b c d e : List Nat) (h : a.length + b.length + c.length + d.length + e.length ≤ 100000000) : Contract Try.prog 65 [.slv 1 [.sl .u8 a, .sl .u8 b, .sl .u8 c, .sl .u8 d, .sl .u8 e]] (.sl .u8 (a ++ b ++ c ++ d ++ e)) := by
  refine contract Try.func65 (body := bodyOf Try.f65) rfl (by kernel_rfl) (by kernel_rfl) rfl ?_
  intro _ w0 S
  exact hold_endw mixed ctr0_ok (unroll := true) (f := 300) (sc := []) (r := (Go.Eng.SV.sl Go.IntKind.u8 (a ++ b ++ c ++ d ++ e))) (ob := [Go.Eng.slenD (Go.Eng.SV.sl Go.IntKind.u8 a) * (1 : Nat) ≤ (140737488355328 : Nat), Go.Eng.slenD (Go.Eng.SV.sl Go.IntKind.u8 (a ++ b)) * (1 : Nat) ≤ (140737488355328 : Nat), Go.Eng.slenD (Go.Eng.SV.sl Go.IntKind.u8 (a ++ b ++ c)) * (1 : Nat) ≤ (140737488355328 : Nat), Go.Eng.slenD (Go.Eng.SV.sl Go.IntKind.u8 (a ++ b ++ c ++ d)) * (1 : Nat) ≤ (140737488355328 : Nat), Go.Eng.slenD (Go.Eng.SV.sl Go.IntKind.u8 (a ++ b ++ c ++ d ++ e)) * (1 : Nat) ≤ (140737488355328 : Nat)]) (sc' := []) (by kernel_rfl) (by repeat' first | exact trivial | omega | (simp only [slenD, SV.slen, List.length_append, List.length_nil]; omega) | refine ⟨?_, ?_⟩) (wkR_of rfl)
theorem pj_ok : ∀ args res ob, eJoin args = some (res, ob) → All ob → Contract Try.prog 65 args res := by
  intro args res ob he hob
  unfold eJoin at he
  split at he
  · split at he
    · rename_i ha
      cases he
      exact slv_argsF (pj1_c _ hob.1) ⟨part_wk ha, rfl⟩ (by simp [SV.size]) rfl
    · cases he
  · split at he
    · rename_i ha hb
      cases he
      exact slv_argsF (pj2_c _ _ hob.1) ⟨part_wk ha, part_wk hb, rfl⟩ (by simp [SV.size]) rfl
    · cases he
  · split at he
    · rename_i ha hb hc
      cases he
      exact slv_argsF (pj3_c _ _ _ hob.1) ⟨part_wk ha, part_wk hb, part_wk hc, rfl⟩ (by simp [SV.size]) rfl
    · cases he
  · split at he
    · rename_i ha hb hc hd
      cases he
      exact slv_argsF (pj4_c _ _ _ _ hob.1) ⟨part_wk ha, part_wk hb, part_wk hc, part_wk hd, rfl⟩ (by simp [SV.size]) rfl
    · cases he
  · split at he
    · rename_i ha hb hc hd he
      cases he
      exact slv_argsF (pj5_c _ _ _ _ _ hob.1) ⟨part_wk ha, part_wk hb, part_wk hc, part_wk hd, part_wk he, rfl⟩ (by simp [SV.size]) rfl
    · cases he
  · cases he
theorem copyZ (s : List Nat) (h : s.length ≤ 64) : List.take 64 s ++ List.drop (min s.length 64) (List.replicate 64 0) = zf s := by
  rw [List.take_of_length_le h, Nat.min_eq_left h, List.drop_replicate]; rfl
def stM : List It := [.lp [0, 1, 0, 1, 1, 1, 1], .blk 0, .at [1, 1, 1, 1, 1]]
def sM (k : List Nat) (m i : Nat) : St := ⟨30, [(1, .u .u8 m), (5, .osl 0 64 1), (17, .c .i64 64), (18, .u .i64 i)], [(0, ⟨5, [.arr .u8 64 (xorL m (k.take i) ++ k.drop i)], false⟩)], 1, 0⟩
section
variable {g h : List Nat → List Nat} (hg : g = sum32) (hh : h = sum64) {w0 : World} {S : Own} {res : SV}
include hg hh
theorem masked_l (k : List Nat) (m : Nat) (hk : k.length = 64) (hr : res = .sl .u8 (xorL m k)) : ∀ d i, 64 - i = d → i ≤ 64 → Hold Try.prog (bodyOf Try.f67) (Fin Try.prog Try.f67 w0 S res) w0 S stM (sM k m i) := by
  have hl : ∀ b, (g b).length = 32 := by rw [hg]; exact sum32_len
  intro d
  induction d using Nat.strongRecOn with
  | _ d ih =>
  intro i hd hi
  refine hold_unroll (c := _) rfl ?_
  by_cases hlt : i < 64
  · have e := ih (64 - (i + 1)) (by omega) (i + 1) rfl (by omega)
    refine hold_cut mixed (okST hg hh) (unroll := false) (f := 300) (sc := [true]) (ks := [1,5,17,18]) (bs := [0]) (nx := 1) (st' := [Go.Eng.It.lp [(0 : Nat), (1 : Nat), (0 : Nat), (1 : Nat), (1 : Nat), (1 : Nat), (1 : Nat)], Go.Eng.It.blk (0 : Nat), Go.Eng.It.at [(1 : Nat), (1 : Nat), (1 : Nat), (1 : Nat), (1 : Nat)]]) (σ' := { nt := (30 : Nat), slots := [((1 : Nat), Go.Eng.SV.u Go.IntKind.u8 m), ((5 : Nat), Go.Eng.SV.osl (0 : Nat) (64 : Nat) (1 : Nat)), ((17 : Nat), Go.Eng.SV.c Go.IntKind.i64 (64 : Int)), ((18 : Nat), Go.Eng.SV.u Go.IntKind.i64 (i + (1 : Nat)))], blks := [((0 : Nat), { ty := (5 : Nat), segs := [Go.Eng.SV.arr Go.IntKind.u8 (64 : Nat) ((Go.Eng.B.xorL m (List.take i k) ++ List.drop i k).set i ((Go.Eng.B.xorL m (List.take i k) ++ List.drop i k).getD i (0 : Nat) ^^^ m))] })], next := (1 : Nat) }) (ob := [Decidable.decide (i < (64 : Nat)) = Bool.true, i < (64 : Nat), i < (64 : Nat), i < (64 : Nat), i < (64 : Nat), i + (1 : Nat) < (9223372036854775808 : Nat)]) (sc' := []) (by kernel_rfl) (by repeat' first | exact trivial | exact decide_eq_true (by omega) | exact decide_eq_false (by omega) | omega | (simp only [decide_eq_true_eq, decide_eq_false_iff_not, slenD, SV.slen, Option.getD_some, List.length_append, List.length_cons, List.length_nil, List.length_replicate, List.length_take, List.length_drop, xorL_len, k64_len hl, hl, oE_len hl]; omega) | refine ⟨?_, ?_⟩) ?_
    rw [mix_get m k i (by omega), mix_set m k i (by omega)]
    exact e
  · have e : i = 64 := by omega
    subst e
    refine hold_end mixed (okST hg hh) (unroll := false) (f := 300) (sc := [false]) (r := (Go.Eng.SV.sl Go.IntKind.u8 (Go.Eng.B.xorL m (List.take (64 : Nat) k) ++ List.drop (64 : Nat) k))) (ob := [Bool.false = Bool.false]) (sc' := []) (by kernel_rfl) (by repeat' first | exact trivial | exact decide_eq_true (by omega) | exact decide_eq_false (by omega) | omega | (simp only [decide_eq_true_eq, decide_eq_false_iff_not, slenD, SV.slen, Option.getD_some, List.length_append, List.length_cons, List.length_nil, List.length_replicate, List.length_take, List.length_drop, xorL_len, k64_len hl, hl, oE_len hl]; omega) | refine ⟨?_, ?_⟩) ?_
    rw [hr, List.take_of_length_le (by omega), List.drop_of_length_le (by omega), List.append_nil]
theorem masked_c (k : List Nat) (m : Nat) (hb : k.length ≤ 1000000) : Contract Try.prog 67 [.sl .u8 k, .u .u8 m] (.sl .u8 (xorL m (k64 g k))) := by
  have hl : ∀ b, (g b).length = 32 := by rw [hg]; exact sum32_len
  refine contract Try.func67 (body := bodyOf Try.f67) rfl (by kernel_rfl) (by kernel_rfl) rfl ?_
  intro _ w0 S
  by_cases h64 : 64 < k.length
  · refine hold_cut mixed (okST hg hh) (unroll := false) (f := 100) (sc := [true]) (ks := [1,5,17,18]) (bs := [0]) (nx := 1) (st' := [Go.Eng.It.lp [(0 : Nat), (1 : Nat), (0 : Nat), (1 : Nat), (1 : Nat), (1 : Nat), (1 : Nat)], Go.Eng.It.blk (0 : Nat), Go.Eng.It.at [(1 : Nat), (1 : Nat), (1 : Nat), (1 : Nat), (1 : Nat)]]) (σ' := { nt := (30 : Nat), slots := [((1 : Nat), Go.Eng.SV.u Go.IntKind.u8 m), ((5 : Nat), Go.Eng.SV.osl (0 : Nat) (64 : Nat) (1 : Nat)), ((17 : Nat), Go.Eng.SV.c Go.IntKind.i64 (64 : Int)), ((18 : Nat), Go.Eng.SV.c Go.IntKind.i64 (0 : Int))], blks := [((0 : Nat), { ty := (5 : Nat), segs := [Go.Eng.SV.arr Go.IntKind.u8 (64 : Nat) (List.take (64 : Nat) (g k) ++ List.drop (Min.min (g k).length (64 : Nat)) [(0 : Nat), (0 : Nat), (0 : Nat), (0 : Nat), (0 : Nat), (0 : Nat), (0 : Nat), (0 : Nat), (0 : Nat), (0 : Nat), (0 : Nat), (0 : Nat), (0 : Nat), (0 : Nat), (0 : Nat), (0 : Nat), (0 : Nat), (0 : Nat), (0 : Nat), (0 : Nat), (0 : Nat), (0 : Nat), (0 : Nat), (0 : Nat), (0 : Nat), (0 : Nat), (0 : Nat), (0 : Nat), (0 : Nat), (0 : Nat), (0 : Nat), (0 : Nat), (0 : Nat), (0 : Nat), (0 : Nat), (0 : Nat), (0 : Nat), (0 : Nat), (0 : Nat), (0 : Nat), (0 : Nat), (0 : Nat), (0 : Nat), (0 : Nat), (0 : Nat), (0 : Nat), (0 : Nat), (0 : Nat), (0 : Nat), (0 : Nat), (0 : Nat), (0 : Nat), (0 : Nat), (0 : Nat), (0 : Nat), (0 : Nat), (0 : Nat), (0 : Nat), (0 : Nat), (0 : Nat), (0 : Nat), (0 : Nat), (0 : Nat), (0 : Nat)])] })], next := (1 : Nat) }) (ob := [Decidable.decide ((64 : Nat) < k.length) = Bool.true, k.length ≤ (1000000 : Nat)]) (sc' := []) (by kernel_rfl) (by repeat' first | exact trivial | exact decide_eq_true (by omega) | exact decide_eq_false (by omega) | omega | (simp only [decide_eq_true_eq, decide_eq_false_iff_not, slenD, SV.slen, Option.getD_some, List.length_append, List.length_cons, List.length_nil, List.length_replicate, List.length_take, List.length_drop, xorL_len, k64_len hl, hl, oE_len hl]; omega) | refine ⟨?_, ?_⟩) ?_
    refine Hold.cast (σ' := ⟨30, [(1, .u .u8 m), (5, .osl 0 64 1), (17, .c .i64 64), (18, .c .i64 0)], [(0, ⟨5, [.arr .u8 64 (zf (g k))], false⟩)], 1, 0⟩) ?_ (by rw [← copyZ (g k) (by rw [hl]; omega)]; kernel_rfl)
    refine Hold.weaken (masked_l hg hh (zf (g k)) m (zf_len (by rw [hl]; omega)) ?_ _ 0 rfl (by omega)) (by simp [wks, wk, wk0, lim, sM])
    unfold k64 kk; rw [if_pos h64]
  · refine hold_cut mixed (okST hg hh) (unroll := false) (f := 100) (sc := [false]) (ks := [1,5,17,18]) (bs := [0]) (nx := 1) (st' := [Go.Eng.It.lp [(0 : Nat), (1 : Nat), (0 : Nat), (1 : Nat), (1 : Nat), (1 : Nat), (1 : Nat)], Go.Eng.It.blk (0 : Nat), Go.Eng.It.at [(1 : Nat), (1 : Nat), (1 : Nat), (1 : Nat), (1 : Nat)]]) (σ' := { nt := (30 : Nat), slots := [((1 : Nat), Go.Eng.SV.u Go.IntKind.u8 m), ((5 : Nat), Go.Eng.SV.osl (0 : Nat) (64 : Nat) (1 : Nat)), ((17 : Nat), Go.Eng.SV.c Go.IntKind.i64 (64 : Int)), ((18 : Nat), Go.Eng.SV.c Go.IntKind.i64 (0 : Int))], blks := [((0 : Nat), { ty := (5 : Nat), segs := [Go.Eng.SV.arr Go.IntKind.u8 (64 : Nat) (List.take (64 : Nat) k ++ List.drop (Min.min k.length (64 : Nat)) [(0 : Nat), (0 : Nat), (0 : Nat), (0 : Nat), (0 : Nat), (0 : Nat), (0 : Nat), (0 : Nat), (0 : Nat), (0 : Nat), (0 : Nat), (0 : Nat), (0 : Nat), (0 : Nat), (0 : Nat), (0 : Nat), (0 : Nat), (0 : Nat), (0 : Nat), (0 : Nat), (0 : Nat), (0 : Nat), (0 : Nat), (0 : Nat), (0 : Nat), (0 : Nat), (0 : Nat), (0 : Nat), (0 : Nat), (0 : Nat), (0 : Nat), (0 : Nat), (0 : Nat), (0 : Nat), (0 : Nat), (0 : Nat), (0 : Nat), (0 : Nat), (0 : Nat), (0 : Nat), (0 : Nat), (0 : Nat), (0 : Nat), (0 : Nat), (0 : Nat), (0 : Nat), (0 : Nat), (0 : Nat), (0 : Nat), (0 : Nat), (0 : Nat), (0 : Nat), (0 : Nat), (0 : Nat), (0 : Nat), (0 : Nat), (0 : Nat), (0 : Nat), (0 : Nat), (0 : Nat), (0 : Nat), (0 : Nat), (0 : Nat), (0 : Nat)])] })], next := (1 : Nat) }) (ob := [Decidable.decide ((64 : Nat) < k.length) = Bool.false]) (sc' := []) (by kernel_rfl) (by repeat' first | exact trivial | exact decide_eq_true (by omega) | exact decide_eq_false (by omega) | omega | (simp only [decide_eq_true_eq, decide_eq_false_iff_not, slenD, SV.slen, Option.getD_some, List.length_append, List.length_cons, List.length_nil, List.length_replicate, List.length_take, List.length_drop, xorL_len, k64_len hl, hl, oE_len hl]; omega) | refine ⟨?_, ?_⟩) ?_
    refine Hold.cast (σ' := ⟨30, [(1, .u .u8 m), (5, .osl 0 64 1), (17, .c .i64 64), (18, .c .i64 0)], [(0, ⟨5, [.arr .u8 64 (zf (k))], false⟩)], 1, 0⟩) ?_ (by rw [← copyZ k (by omega)]; kernel_rfl)
    refine Hold.weaken (masked_l hg hh (zf k) m (zf_len (by omega)) ?_ _ 0 rfl (by omega)) (by simp [wks, wk, wk0, lim, sM])
    unfold k64 kk; rw [if_neg h64]
def eMask (g : List Nat → List Nat) (args : List SV) : Option (SV × List Prop) :=
  match args with
  | [x, y] => match part? x, y.nat? with
    | some k, some (.u8, m) => some (.sl .u8 (xorL m (k64 g k)), [k.length ≤ 1000000])
    | _, _ => none
  | _ => none
def eHm (g : List Nat → List Nat) (args : List SV) : Option (SV × List Prop) :=
  match args with
  | [x, y] => match part? x, part? y with
    | some k, some b => some (.sl .u8 (hm g k b), [k.length ≤ 900000, b.length ≤ 900000])
    | _, _ => none
  | _ => none
noncomputable def KT1 (g h : List Nat → List Nat) : Ctr := addC 67 (eMask g) (addC 65 eJoin (ST g h))
theorem okKT1 : CtrOk Try.prog (KT1 g h) := by
  refine addC_ok (addC_ok (okST hg hh) pj_ok) ?_
  intro args res ob he hob
  unfold eMask at he
  split at he
  · split at he
    · rename_i hx hy
      cases he
      exact Contract.argsRF (masked_c hg hh _ _ hob.1) (fun ⟨v, t, e, h1, v2, t2, e2, h2, h3⟩ => ⟨v, t, e, part_R hx h1, v2, t2, e2, nat?_wk hy h2, h3⟩)
    · cases he
  · cases he
theorem hmac_c (k b : List Nat) (hk : k.length ≤ 900000) (hb : b.length ≤ 900000) : Contract Try.prog 16 [.sl .u8 k, .sl .u8 b] (.sl .u8 (hm g k b)) := by
  have hl : ∀ b, (g b).length = 32 := by rw [hg]; exact sum32_len
  refine contract Try.func16 (body := bodyOf Try.f16) rfl (by kernel_rfl) (by kernel_rfl) rfl ?_
  intro _ w0 S
  exact hold_endw mixed (okKT1 hg hh) (unroll := true) (f := 100) (sc := []) (r := (Go.Eng.SV.sl Go.IntKind.u8 (g (Go.Eng.B.xorL (92 : Nat) (Go.Eng.B.k64 g k) ++ g (Go.Eng.B.xorL (54 : Nat) (Go.Eng.B.k64 g k) ++ b))))) (ob := [k.length ≤ (1000000 : Nat), k.length ≤ (1000000 : Nat), (Go.Eng.B.xorL (54 : Nat) (Go.Eng.B.k64 g k)).length + b.length ≤ (100000000 : Nat), (Go.Eng.B.xorL (54 : Nat) (Go.Eng.B.k64 g k) ++ b).length ≤ (1000000 : Nat), (Go.Eng.B.xorL (92 : Nat) (Go.Eng.B.k64 g k)).length + (g (Go.Eng.B.xorL (54 : Nat) (Go.Eng.B.k64 g k) ++ b)).length ≤ (100000000 : Nat), (Go.Eng.B.xorL (92 : Nat) (Go.Eng.B.k64 g k) ++ g (Go.Eng.B.xorL (54 : Nat) (Go.Eng.B.k64 g k) ++ b)).length ≤ (1000000 : Nat)]) (sc' := []) (by kernel_rfl) (by repeat' first | exact trivial | exact decide_eq_true (by omega) | exact decide_eq_false (by omega) | omega | (simp only [decide_eq_true_eq, decide_eq_false_iff_not, slenD, SV.slen, Option.getD_some, List.length_append, List.length_cons, List.length_nil, List.length_replicate, List.length_take, List.length_drop, xorL_len, k64_len hl, hl, oE_len hl]; omega) | refine ⟨?_, ?_⟩) (wkR_of rfl)
end
theorem eHm_ok {P : Program} {f : FuncId} {g : List Nat → List Nat} (h : ∀ k b : List Nat, k.length ≤ 900000 → b.length ≤ 900000 → Contract P f [.sl .u8 k, .sl .u8 b] (.sl .u8 (hm g k b))) : ∀ args res ob, eHm g args = some (res, ob) → All ob → Contract P f args res := by
  intro args res ob he hob
  unfold eHm at he
  split at he
  · split at he
    · rename_i hx hy
      cases he
      exact Contract.argsF (h _ _ hob.1 hob.2.1) ⟨wk_of0 (part_wk hx), wk_of0 (part_wk hy), rfl⟩
    · cases he
  · cases he
end Go.Eng.B

namespace Go.Eng.B
open Go Go.Eng Go.Proofs
set_option maxRecDepth 100000
theorem qj1_c (a : List Nat) (h : a.length ≤ 100000000) : Contract Try.prog 106 [.slv 1 [.sl .u8 a]] (.sl .u8 (a)) := by
  refine contract Try.func106 (body := bodyOf Try.f106) rfl (by kernel_rfl) (by kernel_rfl) rfl ?_
  intro _ w0 S
  exact hold_endw mixed ctr0_ok (unroll := true) (f := 300) (sc := []) (r := (Go.Eng.SV.sl Go.IntKind.u8 a)) (ob := [Go.Eng.slenD (Go.Eng.SV.sl Go.IntKind.u8 a) * (1 : Nat) ≤ (140737488355328 : Nat)]) (sc' := []) (by kernel_rfl) (by repeat' first | exact trivial | omega | (simp only [slenD, SV.slen, List.length_append, List.length_nil]; omega) | refine ⟨?_, ?_⟩) (wkR_of rfl)
theorem qj2_c (a b : List Nat) (h : a.length + b.length ≤ 100000000) : Contract Try.prog 106 [.slv 1 [.sl .u8 a, .sl .u8 b]] (.sl .u8 (a ++ b)) := by
  refine contract Try.func106 (body := bodyOf Try.f106) rfl (by kernel_rfl) (by kernel_rfl) rfl ?_
  intro _ w0 S
  exact hold_endw mixed ctr0_ok (unroll := true) (f := 300) (sc := []) (r := (Go.Eng.SV.sl Go.IntKind.u8 (a ++ b))) (ob := [Go.Eng.slenD (Go.Eng.SV.sl Go.IntKind.u8 a) * (1 : Nat) ≤ (140737488355328 : Nat), Go.Eng.slenD (Go.Eng.SV.sl Go.IntKind.u8 (a ++ b)) * (1 : Nat) ≤ (140737488355328 : Nat)]) (sc' := []) (by kernel_rfl) (by repeat' first | exact trivial | omega | (simp only [slenD, SV.slen, List.length_append, List.length_nil]; omega) | refine ⟨?_, ?_⟩) (wkR_of rfl)
theorem qj3_c (a b c : List Nat) (h : a.length + b.length + c.length ≤ 100000000) : Contract Try.prog 106 [.slv 1 [.sl .u8 a, .sl .u8 b, .sl .u8 c]] (.sl .u8 (a ++ b ++ c)) := by
  refine contract Try.func106 (body := bodyOf Try.f106) rfl (by kernel_rfl) (by kernel_rfl) rfl ?_
  intro _ w0 S
  exact hold_endw mixed ctr0_ok (unroll := true) (f := 300) (sc := []) (r := (Go.Eng.SV.sl Go.IntKind.u8 (a ++ b ++ c))) (ob := [Go.Eng.slenD (Go.Eng.SV.sl Go.IntKind.u8 a) * (1 : Nat) ≤ (140737488355328 : Nat), Go.Eng.slenD (Go.Eng.SV.sl Go.IntKind.u8 (a ++ b)) * (1 : Nat) ≤ (140737488355328 : Nat), Go.Eng.slenD (Go.Eng.SV.sl Go.IntKind.u8 (a ++ b ++ c)) * (1 : Nat) ≤ (140737488355328 : Nat)]) (sc' := []) (by kernel_rfl) (by repeat' first | exact trivial | omega | (simp only [slenD, SV.slen, List.length_append, List.length_nil]; omega) | refine ⟨?_, ?_⟩) (wkR_of rfl)
theorem qj4_c (a b c d : List Nat) (h : a.length + b.length + c.length + d.length ≤ 100000000) : Contract Try.prog 106 [.slv 1 [.sl .u8 a, .sl .u8 b, .sl .u8 c, .sl .u8 d]] (.sl .u8 (a ++ b ++ c ++ d)) := by
  refine contract Try.func106 (body := bodyOf Try.f106) rfl (by kernel_rfl) (by kernel_rfl) rfl ?_
  intro _ w0 S
  exact hold_endw mixed ctr0_ok (unroll := true) (f := 300) (sc := []) (r := (Go.Eng.SV.sl Go.IntKind.u8 (a ++ b ++ c ++ d))) (ob := [Go.Eng.slenD (Go.Eng.SV.sl Go.IntKind.u8 a) * (1 : Nat) ≤ (140737488355328 : Nat), Go.Eng.slenD (Go.Eng.SV.sl Go.IntKind.u8 (a ++ b)) * (1 : Nat) ≤ (140737488355328 : Nat), Go.Eng.slenD (Go.Eng.SV.sl Go.IntKind.u8 (a ++ b ++ c)) * (1 : Nat) ≤ (140737488355328 : Nat), Go.Eng.slenD (Go.Eng.SV.sl Go.IntKind.u8 (a ++ b ++ c ++ d)) * (1 : Nat) ≤ (140737488355328 : Nat)]) (sc' := []) (by kernel_rfl) (by repeat' first | exact trivial | omega | (simp only [slenD, SV.slen, List.length_append, List.length_nil]; omega) | refine ⟨?_, ?_⟩) (wkR_of rfl)
theorem qj5_c (a b c d e : List Nat) (h : a.length + b.length + c.length + d.length + e.length ≤ 100000000) : Contract Try.prog 106 [.slv 1 [.sl .u8 a, .sl .u8 b, .sl .u8 c, .sl .u8 d, .sl .u8 e]] (.sl .u8 (a ++ b ++ c ++ d ++ e)) := by
  refine contract Try.func106 (body := bodyOf Try.f106) rfl (by kernel_rfl) (by kernel_rfl) rfl ?_
  intro _ w0 S
  exact hold_endw mixed ctr0_ok (unroll := true) (f := 300) (sc := []) (r := (Go.Eng.SV.sl Go.IntKind.u8 (a ++ b ++ c ++ d ++ e))) (ob := [Go.Eng.slenD (Go.Eng.SV.sl Go.IntKind.u8 a) * (1 : Nat) ≤ (140737488355328 : Nat), Go.Eng.slenD (Go.Eng.SV.sl Go.IntKind.u8 (a ++ b)) * (1 : Nat) ≤ (140737488355328 : Nat), Go.Eng.slenD (Go.Eng.SV.sl Go.IntKind.u8 (a ++ b ++ c)) * (1 : Nat) ≤ (140737488355328 : Nat), Go.Eng.slenD (Go.Eng.SV.sl Go.IntKind.u8 (a ++ b ++ c ++ d)) * (1 : Nat) ≤ (140737488355328 : Nat), Go.Eng.slenD (Go.Eng.SV.sl Go.IntKind.u8 (a ++ b ++ c ++ d ++ e)) * (1 : Nat) ≤ (140737488355328 : Nat)]) (sc' := []) (by kernel_rfl) (by repeat' first | exact trivial | omega | (simp only [slenD, SV.slen, List.length_append, List.length_nil]; omega) | refine ⟨?_, ?_⟩) (wkR_of rfl)
theorem qj_ok : ∀ args res ob, eJoin args = some (res, ob) → All ob → Contract Try.prog 106 args res := by
  intro args res ob he hob
  unfold eJoin at he
  split at he
  · split at he
    · rename_i ha
      cases he
      exact slv_argsF (qj1_c _ hob.1) ⟨part_wk ha, rfl⟩ (by simp [SV.size]) rfl
    · cases he
  · split at he
    · rename_i ha hb
      cases he
      exact slv_argsF (qj2_c _ _ hob.1) ⟨part_wk ha, part_wk hb, rfl⟩ (by simp [SV.size]) rfl
    · cases he
  · split at he
    · rename_i ha hb hc
      cases he
      exact slv_argsF (qj3_c _ _ _ hob.1) ⟨part_wk ha, part_wk hb, part_wk hc, rfl⟩ (by simp [SV.size]) rfl
    · cases he
  · split at he
    · rename_i ha hb hc hd
      cases he
      exact slv_argsF (qj4_c _ _ _ _ hob.1) ⟨part_wk ha, part_wk hb, part_wk hc, part_wk hd, rfl⟩ (by simp [SV.size]) rfl
    · cases he
  · split at he
    · rename_i ha hb hc hd he
      cases he
      exact slv_argsF (qj5_c _ _ _ _ _ hob.1) ⟨part_wk ha, part_wk hb, part_wk hc, part_wk hd, part_wk he, rfl⟩ (by simp [SV.size]) rfl
    · cases he
  · cases he
def sn : List It := [.lp [0, 0, 1, 1, 1], .blk 0, .at [1, 1, 1, 1]]
def sn2 : List It := [.lp [0, 1, 0, 1, 1, 1, 1, 1], .blk 2, .at [1, 1, 1, 1, 1, 1]]
def sH0 (b K : List Nat) (j : Nat) : St := ⟨47, [(1, .sl .u8 b), (5, .row 0 (.sl .u8 (K ++ List.replicate j 0)))], [(0, bY)], 3, 0⟩
def sI0 (b K : List Nat) (i : Nat) : St := ⟨47, [(1, .sl .u8 b), (6, .row 3 (.sl .u8 (xorL 54 (K.take i)))), (7, .row 6 (.sl .u8 (xorL 92 (K.take i)))), (23, .row 0 (.sl .u8 K)), (24, .u .i64 K.length), (25, .u .i64 i)], [(0, bY), (3, bY), (6, bY)], 9, 0⟩
def sH3 (b K : List Nat) (j : Nat) : St := ⟨47, [(1, .sl .u8 b), (5, .row 3 (.sl .u8 (K ++ List.replicate j 0)))], [(3, bY)], 6, 0⟩
def sI3 (b K : List Nat) (i : Nat) : St := ⟨47, [(1, .sl .u8 b), (6, .row 6 (.sl .u8 (xorL 54 (K.take i)))), (7, .row 9 (.sl .u8 (xorL 92 (K.take i)))), (23, .row 3 (.sl .u8 K)), (24, .u .i64 K.length), (25, .u .i64 i)], [(3, bY), (6, bY), (9, bY)], 12, 0⟩
section
variable {g h : List Nat → List Nat} (hg : g = sum32) (hh : h = sum64) {w0 : World} {S : Own} {res : SV}
theorem rep_succ (K : List Nat) (j : Nat) : K ++ List.replicate j 0 ++ [0] = K ++ List.replicate (j + 1) 0 := by
  rw [List.append_assoc, List.replicate_succ']
include hg hh
theorem qI0 (b K : List Nat) (hK : K.length = 64) (hb : b.length ≤ 900000) (hr : res = .sl .u8 (g (xorL 92 K ++ g (xorL 54 K ++ b)))) : ∀ d i, 64 - i = d → i ≤ 64 → Hold Try.prog (bodyOf Try.f97) (Fin Try.prog Try.f97 w0 S res) w0 S sn2 (sI0 b K i) := by
  have hl : ∀ b, (g b).length = 32 := by rw [hg]; exact sum32_len
  intro d
  induction d using Nat.strongRecOn with
  | _ d ih =>
  intro i hd hi
  refine hold_unroll (c := _) rfl ?_
  by_cases hlt : i < 64
  · have e := ih (64 - (i + 1)) (by omega) (i + 1) rfl (by omega)
    have e1 := xorL_take 54 K i (by omega)
    have e2 := xorL_take 92 K i (by omega)
    refine hold_cut mixed (okSR hg hh) (unroll := false) (f := 300) (sc := [true]) (ks := [1,6,7,23,24,25]) (bs := [0,3,6]) (nx := 9) (st' := [Go.Eng.It.lp [(0 : Nat), (1 : Nat), (0 : Nat), (1 : Nat), (1 : Nat), (1 : Nat), (1 : Nat), (1 : Nat)], Go.Eng.It.blk (2 : Nat), Go.Eng.It.at [(1 : Nat), (1 : Nat), (1 : Nat), (1 : Nat), (1 : Nat), (1 : Nat)]]) (σ' := { nt := (47 : Nat), slots := [((1 : Nat), Go.Eng.SV.sl Go.IntKind.u8 b), ((6 : Nat), Go.Eng.SV.row (3 : Nat) (Go.Eng.SV.sl Go.IntKind.u8 (Go.Eng.B.xorL (54 : Nat) (List.take i K) ++ [K.getD i (0 : Nat) ^^^ (54 : Nat)]))), ((7 : Nat), Go.Eng.SV.row (6 : Nat) (Go.Eng.SV.sl Go.IntKind.u8 (Go.Eng.B.xorL (92 : Nat) (List.take i K) ++ [K.getD i (0 : Nat) ^^^ (92 : Nat)]))), ((23 : Nat), Go.Eng.SV.row (0 : Nat) (Go.Eng.SV.sl Go.IntKind.u8 K)), ((24 : Nat), Go.Eng.SV.u Go.IntKind.i64 K.length), ((25 : Nat), Go.Eng.SV.u Go.IntKind.i64 (i + (1 : Nat)))], blks := [((0 : Nat), { ty := (5 : Nat), segs := [], row := Bool.true }), ((3 : Nat), { ty := (5 : Nat), segs := [], row := Bool.true }), ((6 : Nat), { ty := (5 : Nat), segs := [], row := Bool.true })], next := (9 : Nat) }) (ob := [Decidable.decide (i < K.length) = Bool.true, i < K.length, Go.Eng.slenD (Go.Eng.SV.sl Go.IntKind.u8 (Go.Eng.B.xorL (54 : Nat) (List.take i K) ++ [K.getD i (0 : Nat) ^^^ (54 : Nat)])) * (1 : Nat) ≤ (140737488355328 : Nat), Go.Eng.slenD (Go.Eng.SV.sl Go.IntKind.u8 (Go.Eng.B.xorL (92 : Nat) (List.take i K) ++ [K.getD i (0 : Nat) ^^^ (92 : Nat)])) * (1 : Nat) ≤ (140737488355328 : Nat), i + (1 : Nat) < (9223372036854775808 : Nat)]) (sc' := []) (by kernel_rfl) (by repeat' first | exact trivial | exact decide_eq_true (by omega) | exact decide_eq_false (by omega) | omega | (simp only [decide_eq_true_eq, decide_eq_false_iff_not, slenD, SV.slen, Option.getD_some, List.length_append, List.length_cons, List.length_nil, List.length_replicate, List.length_take, List.length_drop, xorL_len, k64_len hl, hl, oE_len hl]; omega) | refine ⟨?_, ?_⟩) ?_
    rw [← e1, ← e2]
    exact e
  · have e : i = 64 := by omega
    subst e
    refine hold_end mixed (okSR hg hh) (unroll := false) (f := 300) (sc := [false]) (r := (Go.Eng.SV.sl Go.IntKind.u8 (g (Go.Eng.B.xorL (92 : Nat) (List.take (64 : Nat) K) ++ g (Go.Eng.B.xorL (54 : Nat) (List.take (64 : Nat) K) ++ b))))) (ob := [Decidable.decide ((64 : Nat) < K.length) = Bool.false, Go.Eng.slenD (Go.Eng.SV.sl Go.IntKind.u8 (Go.Eng.B.xorL (54 : Nat) (List.take (64 : Nat) K) ++ b)) * (1 : Nat) ≤ (140737488355328 : Nat), (Go.Eng.B.xorL (54 : Nat) (List.take (64 : Nat) K) ++ b).length ≤ (1000000 : Nat), Go.Eng.slenD (Go.Eng.SV.sl Go.IntKind.u8 (Go.Eng.B.xorL (92 : Nat) (List.take (64 : Nat) K) ++ g (Go.Eng.B.xorL (54 : Nat) (List.take (64 : Nat) K) ++ b))) * (1 : Nat) ≤ (140737488355328 : Nat), (Go.Eng.B.xorL (92 : Nat) (List.take (64 : Nat) K) ++ g (Go.Eng.B.xorL (54 : Nat) (List.take (64 : Nat) K) ++ b)).length ≤ (1000000 : Nat)]) (sc' := []) (by kernel_rfl) (by repeat' first | exact trivial | exact decide_eq_true (by omega) | exact decide_eq_false (by omega) | omega | (simp only [decide_eq_true_eq, decide_eq_false_iff_not, slenD, SV.slen, Option.getD_some, List.length_append, List.length_cons, List.length_nil, List.length_replicate, List.length_take, List.length_drop, xorL_len, k64_len hl, hl, oE_len hl]; omega) | refine ⟨?_, ?_⟩) ?_
    rw [hr, List.take_of_length_le (by omega)]
theorem qH0 (b K : List Nat) (hK : K.length ≤ 64) (hb : b.length ≤ 900000) (hr : res = .sl .u8 (g (xorL 92 (zf K) ++ g (xorL 54 (zf K) ++ b)))) : ∀ d j, 64 - K.length - j = d → j ≤ 64 - K.length → Hold Try.prog (bodyOf Try.f97) (Fin Try.prog Try.f97 w0 S res) w0 S sn (sH0 b K j) := by
  have hl : ∀ b, (g b).length = 32 := by rw [hg]; exact sum32_len
  intro d
  induction d using Nat.strongRecOn with
  | _ d ih =>
  intro j hd hj
  refine hold_unroll (c := _) rfl ?_
  by_cases hlt : j < 64 - K.length
  · have e := ih (64 - K.length - (j + 1)) (by omega) (j + 1) rfl (by omega)
    refine hold_cut mixed (okSR hg hh) (unroll := false) (f := 300) (sc := [true]) (ks := [1,5]) (bs := [0]) (nx := 3) (st' := [Go.Eng.It.lp [(0 : Nat), (0 : Nat), (1 : Nat), (1 : Nat), (1 : Nat)], Go.Eng.It.blk (0 : Nat), Go.Eng.It.at [(1 : Nat), (1 : Nat), (1 : Nat), (1 : Nat)]]) (σ' := { nt := (47 : Nat), slots := [((1 : Nat), Go.Eng.SV.sl Go.IntKind.u8 b), ((5 : Nat), Go.Eng.SV.row (0 : Nat) (Go.Eng.SV.sl Go.IntKind.u8 (K ++ List.replicate j (0 : Nat) ++ [(0 : Nat)])))], blks := [((0 : Nat), { ty := (5 : Nat), segs := [], row := Bool.true })], next := (3 : Nat) }) (ob := [Decidable.decide ((K ++ List.replicate j (0 : Nat)).length < (64 : Nat)) = Bool.true, Go.Eng.slenD (Go.Eng.SV.sl Go.IntKind.u8 (K ++ List.replicate j (0 : Nat) ++ [(0 : Nat)])) * (1 : Nat) ≤ (140737488355328 : Nat)]) (sc' := []) (by kernel_rfl) (by repeat' first | exact trivial | exact decide_eq_true (by omega) | exact decide_eq_false (by omega) | omega | (simp only [decide_eq_true_eq, decide_eq_false_iff_not, slenD, SV.slen, Option.getD_some, List.length_append, List.length_cons, List.length_nil, List.length_replicate, List.length_take, List.length_drop, xorL_len, k64_len hl, hl, oE_len hl]; omega) | refine ⟨?_, ?_⟩) ?_
    rw [rep_succ]
    exact e
  · have e : K ++ List.replicate j 0 = zf K := by unfold zf; congr 2; omega
    refine hold_cut mixed (okSR hg hh) (unroll := false) (f := 300) (sc := [false]) (ks := [1,6,7,23,24,25]) (bs := [0]) (nx := 3) (st' := [Go.Eng.It.lp [(0 : Nat), (1 : Nat), (0 : Nat), (1 : Nat), (1 : Nat), (1 : Nat), (1 : Nat), (1 : Nat)], Go.Eng.It.blk (2 : Nat), Go.Eng.It.at [(1 : Nat), (1 : Nat), (1 : Nat), (1 : Nat), (1 : Nat), (1 : Nat)]]) (σ' := { nt := (47 : Nat), slots := [((1 : Nat), Go.Eng.SV.sl Go.IntKind.u8 b), ((6 : Nat), Go.Eng.SV.nil), ((7 : Nat), Go.Eng.SV.nil), ((23 : Nat), Go.Eng.SV.row (0 : Nat) (Go.Eng.SV.sl Go.IntKind.u8 (K ++ List.replicate j (0 : Nat)))), ((24 : Nat), Go.Eng.SV.u Go.IntKind.i64 (K ++ List.replicate j (0 : Nat)).length), ((25 : Nat), Go.Eng.SV.c Go.IntKind.i64 (0 : Int))], blks := [((0 : Nat), { ty := (5 : Nat), segs := [], row := Bool.true })], next := (3 : Nat) }) (ob := [Decidable.decide ((K ++ List.replicate j (0 : Nat)).length < (64 : Nat)) = Bool.false]) (sc' := []) (by kernel_rfl) (by repeat' first | exact trivial | exact decide_eq_true (by omega) | exact decide_eq_false (by omega) | omega | (simp only [decide_eq_true_eq, decide_eq_false_iff_not, slenD, SV.slen, Option.getD_some, List.length_append, List.length_cons, List.length_nil, List.length_replicate, List.length_take, List.length_drop, xorL_len, k64_len hl, hl, oE_len hl]; omega) | refine ⟨?_, ?_⟩) ?_
    rw [e]
    refine hold_nil (t := 6) (e := 5) (s0 := .sl .u8 []) rfl ?_
    refine hold_nil (t := 7) (e := 5) (s0 := .sl .u8 []) rfl ?_
    refine hold_restrict (ks := [1,6,7,23,24,25]) (bs := [0,3,6]) (nx := 9) rfl ?_
    exact Hold.weaken (qI0 hg hh b (zf K) (zf_len hK) hb hr _ 0 rfl (by omega)) (by simp [wks, wk, wk0, lim, sI0, xorL, nilRow])
theorem qI3 (b K : List Nat) (hK : K.length = 64) (hb : b.length ≤ 900000) (hr : res = .sl .u8 (g (xorL 92 K ++ g (xorL 54 K ++ b)))) : ∀ d i, 64 - i = d → i ≤ 64 → Hold Try.prog (bodyOf Try.f97) (Fin Try.prog Try.f97 w0 S res) w0 S sn2 (sI3 b K i) := by
  have hl : ∀ b, (g b).length = 32 := by rw [hg]; exact sum32_len
  intro d
  induction d using Nat.strongRecOn with
  | _ d ih =>
  intro i hd hi
  refine hold_unroll (c := _) rfl ?_
  by_cases hlt : i < 64
  · have e := ih (64 - (i + 1)) (by omega) (i + 1) rfl (by omega)
    have e1 := xorL_take 54 K i (by omega)
    have e2 := xorL_take 92 K i (by omega)
    refine hold_cut mixed (okSR hg hh) (unroll := false) (f := 300) (sc := [true]) (ks := [1,6,7,23,24,25]) (bs := [3,6,9]) (nx := 12) (st' := [Go.Eng.It.lp [(0 : Nat), (1 : Nat), (0 : Nat), (1 : Nat), (1 : Nat), (1 : Nat), (1 : Nat), (1 : Nat)], Go.Eng.It.blk (2 : Nat), Go.Eng.It.at [(1 : Nat), (1 : Nat), (1 : Nat), (1 : Nat), (1 : Nat), (1 : Nat)]]) (σ' := { nt := (47 : Nat), slots := [((1 : Nat), Go.Eng.SV.sl Go.IntKind.u8 b), ((6 : Nat), Go.Eng.SV.row (6 : Nat) (Go.Eng.SV.sl Go.IntKind.u8 (Go.Eng.B.xorL (54 : Nat) (List.take i K) ++ [K.getD i (0 : Nat) ^^^ (54 : Nat)]))), ((7 : Nat), Go.Eng.SV.row (9 : Nat) (Go.Eng.SV.sl Go.IntKind.u8 (Go.Eng.B.xorL (92 : Nat) (List.take i K) ++ [K.getD i (0 : Nat) ^^^ (92 : Nat)]))), ((23 : Nat), Go.Eng.SV.row (3 : Nat) (Go.Eng.SV.sl Go.IntKind.u8 K)), ((24 : Nat), Go.Eng.SV.u Go.IntKind.i64 K.length), ((25 : Nat), Go.Eng.SV.u Go.IntKind.i64 (i + (1 : Nat)))], blks := [((3 : Nat), { ty := (5 : Nat), segs := [], row := Bool.true }), ((6 : Nat), { ty := (5 : Nat), segs := [], row := Bool.true }), ((9 : Nat), { ty := (5 : Nat), segs := [], row := Bool.true })], next := (12 : Nat) }) (ob := [Decidable.decide (i < K.length) = Bool.true, i < K.length, Go.Eng.slenD (Go.Eng.SV.sl Go.IntKind.u8 (Go.Eng.B.xorL (54 : Nat) (List.take i K) ++ [K.getD i (0 : Nat) ^^^ (54 : Nat)])) * (1 : Nat) ≤ (140737488355328 : Nat), Go.Eng.slenD (Go.Eng.SV.sl Go.IntKind.u8 (Go.Eng.B.xorL (92 : Nat) (List.take i K) ++ [K.getD i (0 : Nat) ^^^ (92 : Nat)])) * (1 : Nat) ≤ (140737488355328 : Nat), i + (1 : Nat) < (9223372036854775808 : Nat)]) (sc' := []) (by kernel_rfl) (by repeat' first | exact trivial | exact decide_eq_true (by omega) | exact decide_eq_false (by omega) | omega | (simp only [decide_eq_true_eq, decide_eq_false_iff_not, slenD, SV.slen, Option.getD_some, List.length_append, List.length_cons, List.length_nil, List.length_replicate, List.length_take, List.length_drop, xorL_len, k64_len hl, hl, oE_len hl]; omega) | refine ⟨?_, ?_⟩) ?_
    rw [← e1, ← e2]
    exact e
  · have e : i = 64 := by omega
    subst e
    refine hold_end mixed (okSR hg hh) (unroll := false) (f := 300) (sc := [false]) (r := (Go.Eng.SV.sl Go.IntKind.u8 (g (Go.Eng.B.xorL (92 : Nat) (List.take (64 : Nat) K) ++ g (Go.Eng.B.xorL (54 : Nat) (List.take (64 : Nat) K) ++ b))))) (ob := [Decidable.decide ((64 : Nat) < K.length) = Bool.false, Go.Eng.slenD (Go.Eng.SV.sl Go.IntKind.u8 (Go.Eng.B.xorL (54 : Nat) (List.take (64 : Nat) K) ++ b)) * (1 : Nat) ≤ (140737488355328 : Nat), (Go.Eng.B.xorL (54 : Nat) (List.take (64 : Nat) K) ++ b).length ≤ (1000000 : Nat), Go.Eng.slenD (Go.Eng.SV.sl Go.IntKind.u8 (Go.Eng.B.xorL (92 : Nat) (List.take (64 : Nat) K) ++ g (Go.Eng.B.xorL (54 : Nat) (List.take (64 : Nat) K) ++ b))) * (1 : Nat) ≤ (140737488355328 : Nat), (Go.Eng.B.xorL (92 : Nat) (List.take (64 : Nat) K) ++ g (Go.Eng.B.xorL (54 : Nat) (List.take (64 : Nat) K) ++ b)).length ≤ (1000000 : Nat)]) (sc' := []) (by kernel_rfl) (by repeat' first | exact trivial | exact decide_eq_true (by omega) | exact decide_eq_false (by omega) | omega | (simp only [decide_eq_true_eq, decide_eq_false_iff_not, slenD, SV.slen, Option.getD_some, List.length_append, List.length_cons, List.length_nil, List.length_replicate, List.length_take, List.length_drop, xorL_len, k64_len hl, hl, oE_len hl]; omega) | refine ⟨?_, ?_⟩) ?_
    rw [hr, List.take_of_length_le (by omega)]
theorem qH3 (b K : List Nat) (hK : K.length ≤ 64) (hb : b.length ≤ 900000) (hr : res = .sl .u8 (g (xorL 92 (zf K) ++ g (xorL 54 (zf K) ++ b)))) : ∀ d j, 64 - K.length - j = d → j ≤ 64 - K.length → Hold Try.prog (bodyOf Try.f97) (Fin Try.prog Try.f97 w0 S res) w0 S sn (sH3 b K j) := by
  have hl : ∀ b, (g b).length = 32 := by rw [hg]; exact sum32_len
  intro d
  induction d using Nat.strongRecOn with
  | _ d ih =>
  intro j hd hj
  refine hold_unroll (c := _) rfl ?_
  by_cases hlt : j < 64 - K.length
  · have e := ih (64 - K.length - (j + 1)) (by omega) (j + 1) rfl (by omega)
    refine hold_cut mixed (okSR hg hh) (unroll := false) (f := 300) (sc := [true]) (ks := [1,5]) (bs := [3]) (nx := 6) (st' := [Go.Eng.It.lp [(0 : Nat), (0 : Nat), (1 : Nat), (1 : Nat), (1 : Nat)], Go.Eng.It.blk (0 : Nat), Go.Eng.It.at [(1 : Nat), (1 : Nat), (1 : Nat), (1 : Nat)]]) (σ' := { nt := (47 : Nat), slots := [((1 : Nat), Go.Eng.SV.sl Go.IntKind.u8 b), ((5 : Nat), Go.Eng.SV.row (3 : Nat) (Go.Eng.SV.sl Go.IntKind.u8 (K ++ List.replicate j (0 : Nat) ++ [(0 : Nat)])))], blks := [((3 : Nat), { ty := (5 : Nat), segs := [], row := Bool.true })], next := (6 : Nat) }) (ob := [Decidable.decide ((K ++ List.replicate j (0 : Nat)).length < (64 : Nat)) = Bool.true, Go.Eng.slenD (Go.Eng.SV.sl Go.IntKind.u8 (K ++ List.replicate j (0 : Nat) ++ [(0 : Nat)])) * (1 : Nat) ≤ (140737488355328 : Nat)]) (sc' := []) (by kernel_rfl) (by repeat' first | exact trivial | exact decide_eq_true (by omega) | exact decide_eq_false (by omega) | omega | (simp only [decide_eq_true_eq, decide_eq_false_iff_not, slenD, SV.slen, Option.getD_some, List.length_append, List.length_cons, List.length_nil, List.length_replicate, List.length_take, List.length_drop, xorL_len, k64_len hl, hl, oE_len hl]; omega) | refine ⟨?_, ?_⟩) ?_
    rw [rep_succ]
    exact e
  · have e : K ++ List.replicate j 0 = zf K := by unfold zf; congr 2; omega
    refine hold_cut mixed (okSR hg hh) (unroll := false) (f := 300) (sc := [false]) (ks := [1,6,7,23,24,25]) (bs := [3]) (nx := 6) (st' := [Go.Eng.It.lp [(0 : Nat), (1 : Nat), (0 : Nat), (1 : Nat), (1 : Nat), (1 : Nat), (1 : Nat), (1 : Nat)], Go.Eng.It.blk (2 : Nat), Go.Eng.It.at [(1 : Nat), (1 : Nat), (1 : Nat), (1 : Nat), (1 : Nat), (1 : Nat)]]) (σ' := { nt := (47 : Nat), slots := [((1 : Nat), Go.Eng.SV.sl Go.IntKind.u8 b), ((6 : Nat), Go.Eng.SV.nil), ((7 : Nat), Go.Eng.SV.nil), ((23 : Nat), Go.Eng.SV.row (3 : Nat) (Go.Eng.SV.sl Go.IntKind.u8 (K ++ List.replicate j (0 : Nat)))), ((24 : Nat), Go.Eng.SV.u Go.IntKind.i64 (K ++ List.replicate j (0 : Nat)).length), ((25 : Nat), Go.Eng.SV.c Go.IntKind.i64 (0 : Int))], blks := [((3 : Nat), { ty := (5 : Nat), segs := [], row := Bool.true })], next := (6 : Nat) }) (ob := [Decidable.decide ((K ++ List.replicate j (0 : Nat)).length < (64 : Nat)) = Bool.false]) (sc' := []) (by kernel_rfl) (by repeat' first | exact trivial | exact decide_eq_true (by omega) | exact decide_eq_false (by omega) | omega | (simp only [decide_eq_true_eq, decide_eq_false_iff_not, slenD, SV.slen, Option.getD_some, List.length_append, List.length_cons, List.length_nil, List.length_replicate, List.length_take, List.length_drop, xorL_len, k64_len hl, hl, oE_len hl]; omega) | refine ⟨?_, ?_⟩) ?_
    rw [e]
    refine hold_nil (t := 6) (e := 5) (s0 := .sl .u8 []) rfl ?_
    refine hold_nil (t := 7) (e := 5) (s0 := .sl .u8 []) rfl ?_
    refine hold_restrict (ks := [1,6,7,23,24,25]) (bs := [3,6,9]) (nx := 12) rfl ?_
    exact Hold.weaken (qI3 hg hh b (zf K) (zf_len hK) hb hr _ 0 rfl (by omega)) (by simp [wks, wk, wk0, lim, sI3, xorL, nilRow])
theorem qhmac_c (k b : List Nat) (hk : k.length ≤ 900000) (hb : b.length ≤ 900000) : Contract Try.prog 97 [.sl .u8 k, .sl .u8 b] (.sl .u8 (hm g k b)) := by
  have hl : ∀ b, (g b).length = 32 := by rw [hg]; exact sum32_len
  refine contract Try.func97 (body := bodyOf Try.f97) rfl (by kernel_rfl) (by kernel_rfl) rfl ?_
  intro _ w0 S
  by_cases h64 : 64 < k.length
  · refine hold_cut mixed (okSR hg hh) (unroll := false) (f := 100) (sc := [true]) (ks := [1,5]) (bs := [3]) (nx := 6) (st' := [Go.Eng.It.lp [(0 : Nat), (0 : Nat), (1 : Nat), (1 : Nat), (1 : Nat)], Go.Eng.It.blk (0 : Nat), Go.Eng.It.at [(1 : Nat), (1 : Nat), (1 : Nat), (1 : Nat)]]) (σ' := { nt := (47 : Nat), slots := [((1 : Nat), Go.Eng.SV.sl Go.IntKind.u8 b), ((5 : Nat), Go.Eng.SV.row (Go.Eng.backM [] (3 : Nat) (0 : Nat)) (Go.Eng.SV.sl Go.IntKind.u8 (g k)))], blks := [((3 : Nat), { ty := (5 : Nat), segs := [], row := Bool.true })], next := (6 : Nat) }) (ob := [Go.Eng.slenD (Go.Eng.SV.sl Go.IntKind.u8 k) * (1 : Nat) ≤ (140737488355328 : Nat), Decidable.decide ((64 : Nat) < k.length) = Bool.true, k.length ≤ (1000000 : Nat)]) (sc' := []) (by kernel_rfl) (by repeat' first | exact trivial | exact decide_eq_true (by omega) | exact decide_eq_false (by omega) | omega | (simp only [decide_eq_true_eq, decide_eq_false_iff_not, slenD, SV.slen, Option.getD_some, List.length_append, List.length_cons, List.length_nil, List.length_replicate, List.length_take, List.length_drop, xorL_len, k64_len hl, hl, oE_len hl]; omega) | refine ⟨?_, ?_⟩) ?_
    have e := qH3 (res := .sl .u8 (hm g k b)) (w0 := w0) (S := S) hg hh b (g k) (by rw [hl]; omega) hb (by unfold hm k64 kk; rw [if_pos h64]) _ 0 rfl (by omega)
    exact e.cast (by first | (simp [sH3, bY, backM]; done) | rfl)
  · refine hold_cut mixed (okSR hg hh) (unroll := false) (f := 100) (sc := [false]) (ks := [1,5]) (bs := [0]) (nx := 3) (st' := [Go.Eng.It.lp [(0 : Nat), (0 : Nat), (1 : Nat), (1 : Nat), (1 : Nat)], Go.Eng.It.blk (0 : Nat), Go.Eng.It.at [(1 : Nat), (1 : Nat), (1 : Nat), (1 : Nat)]]) (σ' := { nt := (47 : Nat), slots := [((1 : Nat), Go.Eng.SV.sl Go.IntKind.u8 b), ((5 : Nat), Go.Eng.SV.row (0 : Nat) (Go.Eng.SV.sl Go.IntKind.u8 k))], blks := [((0 : Nat), { ty := (5 : Nat), segs := [], row := Bool.true })], next := (3 : Nat) }) (ob := [Go.Eng.slenD (Go.Eng.SV.sl Go.IntKind.u8 k) * (1 : Nat) ≤ (140737488355328 : Nat), Decidable.decide ((64 : Nat) < k.length) = Bool.false]) (sc' := []) (by kernel_rfl) (by repeat' first | exact trivial | exact decide_eq_true (by omega) | exact decide_eq_false (by omega) | omega | (simp only [decide_eq_true_eq, decide_eq_false_iff_not, slenD, SV.slen, Option.getD_some, List.length_append, List.length_cons, List.length_nil, List.length_replicate, List.length_take, List.length_drop, xorL_len, k64_len hl, hl, oE_len hl]; omega) | refine ⟨?_, ?_⟩) ?_
    have e := qH0 (res := .sl .u8 (hm g k b)) (w0 := w0) (S := S) hg hh b k (by omega) hb (by unfold hm k64 kk; rw [if_neg h64]) _ 0 rfl (by omega)
    exact e.cast (by first | (simp [sH0, bY]; done) | rfl)
end
end Go.Eng.B

namespace Go.Eng.B
open Go Go.Eng Go.Proofs
set_option maxRecDepth 100000
def cmpV : List Nat → List Nat → Int
  | [], [] => 0
  | [], _ :: _ => -1
  | _ :: _, [] => 1
  | x :: a, y :: b => if x < y then -1 else if y < x then 1 else cmpV a b
def allB (l : List (List Nat)) : Bool := l.all fun p => decide (p.length ≤ 900)
def eCmp (args : List SV) : Option (SV × List Prop) := match args with
  | [x, y] => match part? x, part? y with | some a, some b => some (.i .i64 (cmpV a b), []) | _, _ => none
  | _ => none
def eEq (args : List SV) : Option (SV × List Prop) := match args with
  | [x, y] => match part? x, part? y with | some a, some b => some (.b (decide (a = b)), []) | _, _ => none
  | _ => none
def eSmall (args : List SV) : Option (SV × List Prop) := match args with
  | [x] => match part? x with | some a => some (.b (decide (a.length ≤ 900)), []) | _ => none
  | _ => none
def eAll (args : List SV) : Option (SV × List Prop) := match args with
  | [.slv 1 [x, y]] => match part? x, part? y with | some a, some b => some (.b (allB [a, b]), []) | _, _ => none
  | [.slv 1 [x, y, z]] => match part? x, part? y, part? z with | some a, some b, some c => some (.b (allB [a, b, c]), []) | _, _, _ => none
  | [.slv 1 [x, y, z, v, u]] => match part? x, part? y, part? z, part? v, part? u with | some a, some b, some c, some d, some e => some (.b (allB [a, b, c, d, e]), []) | _, _, _, _, _ => none
  | _ => none
def sCmp (a b : List Nat) (i : Nat) : St := ⟨48, [(0, .sl .u8 a), (1, .sl .u8 b), (5, .u .i64 i)], [], 0, 0⟩
def stCmp : List It := [.lp [0, 1, 0, 1], .blk 0, .at [1, 1]]
theorem cmpV_eq : ∀ a b : List Nat, cmpV a b = 0 ↔ a = b := by
  intro a
  induction a with
  | nil => intro b; cases b <;> simp [cmpV]
  | cons x a ih =>
    intro b
    cases b with
    | nil => simp [cmpV]
    | cons y b =>
      simp only [cmpV]
      split
      · rename_i h; simp; omega
      · split
        · rename_i h; simp; omega
        · rename_i h1 h2
          rw [ih b]
          have : x = y := by omega
          simp [this]
theorem cmpV_drop (a b : List Nat) : ∀ i, i < a.length → i < b.length → cmpV (a.drop i) (b.drop i) = if a.getD i 0 < b.getD i 0 then -1 else if b.getD i 0 < a.getD i 0 then 1 else cmpV (a.drop (i + 1)) (b.drop (i + 1)) := by
  intro i h1 h2
  rw [List.drop_eq_getElem_cons h1, List.drop_eq_getElem_cons h2]
  simp only [cmpV, List.getD_eq_getElem?_getD, List.getElem?_eq_getElem h1, List.getElem?_eq_getElem h2, Option.getD_some]
section
variable {w0 : World} {S : Own} {res : SV}
theorem cmp_l (a b : List Nat) (hr : res = .i .i64 (cmpV a b)) (hla : a.length < 9223372036854775808) : ∀ d i, a.length - i = d → i ≤ a.length → i ≤ b.length → cmpV a b = cmpV (a.drop i) (b.drop i) → Hold Try.prog (bodyOf Try.f85) (Fin Try.prog Try.f85 w0 S res) w0 S stCmp (sCmp a b i) := by
  intro d
  induction d using Nat.strongRecOn with
  | _ d ih =>
  intro i hd hi hj he
  refine hold_unroll (c := _) rfl ?_
  by_cases ha : i < a.length
  · by_cases hb : i < b.length
    · have hc := cmpV_drop a b i ha hb
      by_cases h1 : a.getD i 0 < b.getD i 0
      · rw [if_pos h1] at hc
        refine hold_endw mixed ctr0_ok (unroll := true) (f := 300) (sc := [true, true, true, true]) (r := (Go.Eng.SV.c Go.IntKind.i64 (-1 : Int))) (ob := [Decidable.decide (i < a.length) = Bool.true, Decidable.decide (i < b.length) = Bool.true, i < a.length, i < b.length, (a.getD i (0 : Nat) != b.getD i (0 : Nat)) = Bool.true, i < a.length, i < b.length, Decidable.decide (a.getD i (0 : Nat) < b.getD i (0 : Nat)) = Bool.true]) (sc' := []) (by kernel_rfl) (by repeat' first | exact trivial | exact decide_eq_true (by omega) | exact decide_eq_false (by omega) | omega | (simp_all; done) | (simp_all; omega) | refine ⟨?_, ?_⟩) ?_
        rw [hr, he, hc]; simp [wkR, wk, wk0]
      · rw [if_neg h1] at hc
        by_cases h2 : b.getD i 0 < a.getD i 0
        · rw [if_pos h2] at hc
          refine hold_endw mixed ctr0_ok (unroll := true) (f := 300) (sc := [true, true, true, false]) (r := (Go.Eng.SV.c Go.IntKind.i64 (1 : Int))) (ob := [Decidable.decide (i < a.length) = Bool.true, Decidable.decide (i < b.length) = Bool.true, i < a.length, i < b.length, (a.getD i (0 : Nat) != b.getD i (0 : Nat)) = Bool.true, i < a.length, i < b.length, Decidable.decide (a.getD i (0 : Nat) < b.getD i (0 : Nat)) = Bool.false]) (sc' := []) (by kernel_rfl) (by repeat' first | exact trivial | exact decide_eq_true (by omega) | exact decide_eq_false (by omega) | omega | (simp_all; done) | (simp_all; omega) | refine ⟨?_, ?_⟩) ?_
          rw [hr, he, hc]; simp [wkR, wk, wk0]
        · rw [if_neg h2] at hc
          have e := ih (a.length - (i + 1)) (by omega) (i + 1) rfl (by omega) (by omega) (by rw [he, hc])
          have heq : a.getD i 0 = b.getD i 0 := by omega
          refine hold_cut mixed ctr0_ok (unroll := false) (f := 300) (sc := [true, true, false]) (ks := [0,1,5]) (bs := []) (nx := 0) (st' := [Go.Eng.It.lp [(0 : Nat), (1 : Nat), (0 : Nat), (1 : Nat)], Go.Eng.It.blk (0 : Nat), Go.Eng.It.at [(1 : Nat), (1 : Nat)]]) (σ' := { nt := (48 : Nat), slots := [((0 : Nat), Go.Eng.SV.sl Go.IntKind.u8 a), ((1 : Nat), Go.Eng.SV.sl Go.IntKind.u8 b), ((5 : Nat), Go.Eng.SV.u Go.IntKind.i64 (i + (1 : Nat)))], blks := [], next := (0 : Nat) }) (ob := [Decidable.decide (i < a.length) = Bool.true, Decidable.decide (i < b.length) = Bool.true, i < a.length, i < b.length, (a.getD i (0 : Nat) != b.getD i (0 : Nat)) = Bool.false, i + (1 : Nat) < (9223372036854775808 : Nat)]) (sc' := []) (by kernel_rfl) (by repeat' first | exact trivial | exact decide_eq_true (by omega) | exact decide_eq_false (by omega) | omega | (simp_all; done) | (simp_all; omega) | refine ⟨?_, ?_⟩) ?_
          exact e
    · refine hold_endw mixed ctr0_ok (unroll := true) (f := 300) (sc := [true, false, false, true]) (r := (Go.Eng.SV.c Go.IntKind.i64 (1 : Int))) (ob := [Decidable.decide (i < a.length) = Bool.true, Decidable.decide (i < b.length) = Bool.false, Decidable.decide (a.length < b.length) = Bool.false, Decidable.decide (b.length < a.length) = Bool.true]) (sc' := []) (by kernel_rfl) (by repeat' first | exact trivial | exact decide_eq_true (by omega) | exact decide_eq_false (by omega) | omega | (simp_all; done) | (simp_all; omega) | refine ⟨?_, ?_⟩) ?_
      rw [hr, he, List.drop_eq_getElem_cons ha, List.drop_of_length_le (by omega : b.length ≤ i)]; simp [cmpV, wkR, wk, wk0]
  · by_cases hb : i < b.length
    · refine hold_endw mixed ctr0_ok (unroll := true) (f := 300) (sc := [false, true]) (r := (Go.Eng.SV.c Go.IntKind.i64 (-1 : Int))) (ob := [Decidable.decide (i < a.length) = Bool.false, Decidable.decide (a.length < b.length) = Bool.true]) (sc' := []) (by kernel_rfl) (by repeat' first | exact trivial | exact decide_eq_true (by omega) | exact decide_eq_false (by omega) | omega | (simp_all; done) | (simp_all; omega) | refine ⟨?_, ?_⟩) ?_
      rw [hr, he, List.drop_eq_getElem_cons hb, List.drop_of_length_le (by omega : a.length ≤ i)]; simp [cmpV, wkR, wk, wk0]
    · refine hold_endw mixed ctr0_ok (unroll := true) (f := 300) (sc := [false, false, false]) (r := (Go.Eng.SV.c Go.IntKind.i64 (0 : Int))) (ob := [Decidable.decide (i < a.length) = Bool.false, Decidable.decide (a.length < b.length) = Bool.false, Decidable.decide (b.length < a.length) = Bool.false]) (sc' := []) (by kernel_rfl) (by repeat' first | exact trivial | exact decide_eq_true (by omega) | exact decide_eq_false (by omega) | omega | (simp_all; done) | (simp_all; omega) | refine ⟨?_, ?_⟩) ?_
      rw [hr, he, List.drop_of_length_le (by omega : a.length ≤ i), List.drop_of_length_le (by omega : b.length ≤ i)]; simp [cmpV, wkR, wk, wk0]
theorem cmp_c (a b : List Nat) : Contract Try.prog 85 [.sl .u8 a, .sl .u8 b] (.i .i64 (cmpV a b)) := by
  refine contract Try.func85 (body := bodyOf Try.f85) rfl (by kernel_rfl) (by kernel_rfl) rfl ?_
  rintro ⟨⟨ha, _⟩, _⟩ w0 S
  refine hold_cut mixed ctr0_ok (unroll := false) (f := 100) (sc := []) (ks := [0,1,5]) (bs := []) (nx := 0) (st' := [Go.Eng.It.lp [(0 : Nat), (1 : Nat), (0 : Nat), (1 : Nat)], Go.Eng.It.blk (0 : Nat), Go.Eng.It.at [(1 : Nat), (1 : Nat)]]) (σ' := { nt := (48 : Nat), slots := [((0 : Nat), Go.Eng.SV.sl Go.IntKind.u8 a), ((1 : Nat), Go.Eng.SV.sl Go.IntKind.u8 b), ((5 : Nat), Go.Eng.SV.c Go.IntKind.i64 (0 : Int))], blks := [], next := (0 : Nat) }) (ob := []) (sc' := []) (by kernel_rfl) trivial ?_
  exact Hold.weaken (cmp_l a b rfl ha _ 0 rfl (by omega) (by omega) (by rw [List.drop_zero, List.drop_zero])) (by simp [wks, wk, wk0, lim, sCmp])
end
theorem cmp_ok : ∀ args res ob, eCmp args = some (res, ob) → All ob → Contract Try.prog 85 args res := by
  intro args res ob he _
  unfold eCmp at he
  split at he
  · split at he
    · rename_i hx hy
      cases he
      exact Contract.argsF (cmp_c _ _) ⟨wk_of0 (part_wk hx), wk_of0 (part_wk hy), rfl⟩
    · cases he
  · cases he
noncomputable def T4a : Ctr := addC 85 eCmp (addC 32 eSmall ctr0)
theorem small_ok : ∀ args res ob, eSmall args = some (res, ob) → All ob → Contract Try.prog 32 args res := by
  intro args res ob he _
  unfold eSmall at he
  split at he
  · split at he
    · rename_i a hx
      cases he
      refine Contract.args (args' := [.sl .u8 a]) ⟨wk_of0 (part_wk hx), rfl⟩ ?_
      refine contract Try.func32 (body := bodyOf Try.f32) rfl (by kernel_rfl) (by kernel_rfl) rfl ?_
      intro _ w0 S
      exact hold_endw mixed ctr0_ok (unroll := true) (f := 100) (sc := []) (r := (Go.Eng.SV.b (Decidable.decide (a.length ≤ (900 : Nat))))) (ob := []) (sc' := []) (by kernel_rfl) trivial (wkR_of rfl)
    · cases he
  · cases he
theorem okT4a : CtrOk Try.prog T4a := addC_ok (addC_ok ctr0_ok small_ok) cmp_ok
theorem equal_ok : ∀ args res ob, eEq args = some (res, ob) → All ob → Contract Try.prog 43 args res := by
  intro args res ob he _
  unfold eEq at he
  split at he
  · split at he
    · rename_i a b hx hy
      cases he
      refine Contract.args (args' := [.sl .u8 a, .sl .u8 b]) ⟨wk_of0 (part_wk hx), wk_of0 (part_wk hy), rfl⟩ ?_
      refine contract Try.func43 (body := bodyOf Try.f43) rfl (by kernel_rfl) (by kernel_rfl) rfl ?_
      intro _ w0 S
      have hc := cmpV_eq a b
      rcases Bool.eq_false_or_eq_true (cmpV a b == (0 : Int)) with hc0 | hc0
      · have hd0 := eq_of_beq hc0
        refine hold_endw mixed okT4a (unroll := true) (f := 100) (sc := [true]) (r := (Go.Eng.SV.b (a.length == b.length))) (ob := [(cmpV a b == (0 : Int)) = Bool.true]) (sc' := []) (by kernel_rfl) ?_ ?_
        · exact ⟨hc0, trivial⟩
        · first | (simp_all [wkR, wk, wk0]; done) | (simp only [wkR, wk, wk0]; by_cases q : a = b <;> simp_all; done) | (simp only [wkR, wk, wk0]; by_cases q : a = b <;> simp_all; omega)
      · have hd0 := ne_of_beq_false hc0
        refine hold_endw mixed okT4a (unroll := true) (f := 100) (sc := [false]) (r := (Go.Eng.SV.cb Bool.false)) (ob := [(cmpV a b == (0 : Int)) = Bool.false]) (sc' := []) (by kernel_rfl) ?_ ?_
        · exact ⟨hc0, trivial⟩
        · first | (simp_all [wkR, wk, wk0]; done) | (simp only [wkR, wk, wk0]; by_cases q : a = b <;> simp_all; done) | (simp only [wkR, wk, wk0]; by_cases q : a = b <;> simp_all; omega)
    · cases he
  · cases he
theorem all2_c (a b : List Nat) : Contract Try.prog 46 [.slv 1 [.sl .u8 a, .sl .u8 b]] (.b (allB [a, b])) := by
  refine contract Try.func46 (body := bodyOf Try.f46) rfl (by kernel_rfl) (by kernel_rfl) rfl ?_
  intro _ w0 S
  rcases Bool.eq_false_or_eq_true (!Decidable.decide (a.length ≤ (900 : Nat))) with hc0 | hc0
  · have hd0 := of_decide_eq_false ((Bool.not_eq_true' _).mp hc0)
    refine hold_endw mixed okT4a (unroll := true) (f := 300) (sc := [true]) (r := (Go.Eng.SV.cb Bool.false)) (ob := [(!Decidable.decide (a.length ≤ (900 : Nat))) = Bool.true]) (sc' := []) (by kernel_rfl) ?_ ?_
    · exact ⟨hc0, trivial⟩
    · first | (simp_all [wkR, wk, wk0, allB]; done) | (simp_all [wkR, wk, wk0, allB]; omega)
  · have hd0 := of_decide_eq_true ((Bool.not_eq_false' _).mp hc0)
    rcases Bool.eq_false_or_eq_true (!Decidable.decide (b.length ≤ (900 : Nat))) with hc1 | hc1
    · have hd1 := of_decide_eq_false ((Bool.not_eq_true' _).mp hc1)
      refine hold_endw mixed okT4a (unroll := true) (f := 300) (sc := [false, true]) (r := (Go.Eng.SV.cb Bool.false)) (ob := [(!Decidable.decide (a.length ≤ (900 : Nat))) = Bool.false, (!Decidable.decide (b.length ≤ (900 : Nat))) = Bool.true]) (sc' := []) (by kernel_rfl) ?_ ?_
      · exact ⟨hc0, hc1, trivial⟩
      · first | (simp_all [wkR, wk, wk0, allB]; done) | (simp_all [wkR, wk, wk0, allB]; omega)
    · have hd1 := of_decide_eq_true ((Bool.not_eq_false' _).mp hc1)
      refine hold_endw mixed okT4a (unroll := true) (f := 300) (sc := [false, false]) (r := (Go.Eng.SV.cb (Decidable.decide ((↑(2 : Nat) : Int) ≤ (20 : Int))))) (ob := [(!Decidable.decide (a.length ≤ (900 : Nat))) = Bool.false, (!Decidable.decide (b.length ≤ (900 : Nat))) = Bool.false]) (sc' := []) (by kernel_rfl) ?_ ?_
      · exact ⟨hc0, hc1, trivial⟩
      · first | (simp_all [wkR, wk, wk0, allB]; done) | (simp_all [wkR, wk, wk0, allB]; omega)
theorem all3_c (a b c : List Nat) : Contract Try.prog 46 [.slv 1 [.sl .u8 a, .sl .u8 b, .sl .u8 c]] (.b (allB [a, b, c])) := by
  refine contract Try.func46 (body := bodyOf Try.f46) rfl (by kernel_rfl) (by kernel_rfl) rfl ?_
  intro _ w0 S
  rcases Bool.eq_false_or_eq_true (!Decidable.decide (a.length ≤ (900 : Nat))) with hc0 | hc0
  · have hd0 := of_decide_eq_false ((Bool.not_eq_true' _).mp hc0)
    refine hold_endw mixed okT4a (unroll := true) (f := 300) (sc := [true]) (r := (Go.Eng.SV.cb Bool.false)) (ob := [(!Decidable.decide (a.length ≤ (900 : Nat))) = Bool.true]) (sc' := []) (by kernel_rfl) ?_ ?_
    · exact ⟨hc0, trivial⟩
    · first | (simp_all [wkR, wk, wk0, allB]; done) | (simp_all [wkR, wk, wk0, allB]; omega)
  · have hd0 := of_decide_eq_true ((Bool.not_eq_false' _).mp hc0)
    rcases Bool.eq_false_or_eq_true (!Decidable.decide (b.length ≤ (900 : Nat))) with hc1 | hc1
    · have hd1 := of_decide_eq_false ((Bool.not_eq_true' _).mp hc1)
      refine hold_endw mixed okT4a (unroll := true) (f := 300) (sc := [false, true]) (r := (Go.Eng.SV.cb Bool.false)) (ob := [(!Decidable.decide (a.length ≤ (900 : Nat))) = Bool.false, (!Decidable.decide (b.length ≤ (900 : Nat))) = Bool.true]) (sc' := []) (by kernel_rfl) ?_ ?_
      · exact ⟨hc0, hc1, trivial⟩
      · first | (simp_all [wkR, wk, wk0, allB]; done) | (simp_all [wkR, wk, wk0, allB]; omega)
    · have hd1 := of_decide_eq_true ((Bool.not_eq_false' _).mp hc1)
      rcases Bool.eq_false_or_eq_true (!Decidable.decide (c.length ≤ (900 : Nat))) with hc2 | hc2
      · have hd2 := of_decide_eq_false ((Bool.not_eq_true' _).mp hc2)
        refine hold_endw mixed okT4a (unroll := true) (f := 300) (sc := [false, false, true]) (r := (Go.Eng.SV.cb Bool.false)) (ob := [(!Decidable.decide (a.length ≤ (900 : Nat))) = Bool.false, (!Decidable.decide (b.length ≤ (900 : Nat))) = Bool.false, (!Decidable.decide (c.length ≤ (900 : Nat))) = Bool.true]) (sc' := []) (by kernel_rfl) ?_ ?_
        · exact ⟨hc0, hc1, hc2, trivial⟩
        · first | (simp_all [wkR, wk, wk0, allB]; done) | (simp_all [wkR, wk, wk0, allB]; omega)
      · have hd2 := of_decide_eq_true ((Bool.not_eq_false' _).mp hc2)
        refine hold_endw mixed okT4a (unroll := true) (f := 300) (sc := [false, false, false]) (r := (Go.Eng.SV.cb (Decidable.decide ((↑(3 : Nat) : Int) ≤ (20 : Int))))) (ob := [(!Decidable.decide (a.length ≤ (900 : Nat))) = Bool.false, (!Decidable.decide (b.length ≤ (900 : Nat))) = Bool.false, (!Decidable.decide (c.length ≤ (900 : Nat))) = Bool.false]) (sc' := []) (by kernel_rfl) ?_ ?_
        · exact ⟨hc0, hc1, hc2, trivial⟩
        · first | (simp_all [wkR, wk, wk0, allB]; done) | (simp_all [wkR, wk, wk0, allB]; omega)
theorem all5_c (a b c d e : List Nat) : Contract Try.prog 46 [.slv 1 [.sl .u8 a, .sl .u8 b, .sl .u8 c, .sl .u8 d, .sl .u8 e]] (.b (allB [a, b, c, d, e])) := by
  refine contract Try.func46 (body := bodyOf Try.f46) rfl (by kernel_rfl) (by kernel_rfl) rfl ?_
  intro _ w0 S
  rcases Bool.eq_false_or_eq_true (!Decidable.decide (a.length ≤ (900 : Nat))) with hc0 | hc0
  · have hd0 := of_decide_eq_false ((Bool.not_eq_true' _).mp hc0)
    refine hold_endw mixed okT4a (unroll := true) (f := 300) (sc := [true]) (r := (Go.Eng.SV.cb Bool.false)) (ob := [(!Decidable.decide (a.length ≤ (900 : Nat))) = Bool.true]) (sc' := []) (by kernel_rfl) ?_ ?_
    · exact ⟨hc0, trivial⟩
    · first | (simp_all [wkR, wk, wk0, allB]; done) | (simp_all [wkR, wk, wk0, allB]; omega)
  · have hd0 := of_decide_eq_true ((Bool.not_eq_false' _).mp hc0)
    rcases Bool.eq_false_or_eq_true (!Decidable.decide (b.length ≤ (900 : Nat))) with hc1 | hc1
    · have hd1 := of_decide_eq_false ((Bool.not_eq_true' _).mp hc1)
      refine hold_endw mixed okT4a (unroll := true) (f := 300) (sc := [false, true]) (r := (Go.Eng.SV.cb Bool.false)) (ob := [(!Decidable.decide (a.length ≤ (900 : Nat))) = Bool.false, (!Decidable.decide (b.length ≤ (900 : Nat))) = Bool.true]) (sc' := []) (by kernel_rfl) ?_ ?_
      · exact ⟨hc0, hc1, trivial⟩
      · first | (simp_all [wkR, wk, wk0, allB]; done) | (simp_all [wkR, wk, wk0, allB]; omega)
    · have hd1 := of_decide_eq_true ((Bool.not_eq_false' _).mp hc1)
      rcases Bool.eq_false_or_eq_true (!Decidable.decide (c.length ≤ (900 : Nat))) with hc2 | hc2
      · have hd2 := of_decide_eq_false ((Bool.not_eq_true' _).mp hc2)
        refine hold_endw mixed okT4a (unroll := true) (f := 300) (sc := [false, false, true]) (r := (Go.Eng.SV.cb Bool.false)) (ob := [(!Decidable.decide (a.length ≤ (900 : Nat))) = Bool.false, (!Decidable.decide (b.length ≤ (900 : Nat))) = Bool.false, (!Decidable.decide (c.length ≤ (900 : Nat))) = Bool.true]) (sc' := []) (by kernel_rfl) ?_ ?_
        · exact ⟨hc0, hc1, hc2, trivial⟩
        · first | (simp_all [wkR, wk, wk0, allB]; done) | (simp_all [wkR, wk, wk0, allB]; omega)
      · have hd2 := of_decide_eq_true ((Bool.not_eq_false' _).mp hc2)
        rcases Bool.eq_false_or_eq_true (!Decidable.decide (d.length ≤ (900 : Nat))) with hc3 | hc3
        · have hd3 := of_decide_eq_false ((Bool.not_eq_true' _).mp hc3)
          refine hold_endw mixed okT4a (unroll := true) (f := 300) (sc := [false, false, false, true]) (r := (Go.Eng.SV.cb Bool.false)) (ob := [(!Decidable.decide (a.length ≤ (900 : Nat))) = Bool.false, (!Decidable.decide (b.length ≤ (900 : Nat))) = Bool.false, (!Decidable.decide (c.length ≤ (900 : Nat))) = Bool.false, (!Decidable.decide (d.length ≤ (900 : Nat))) = Bool.true]) (sc' := []) (by kernel_rfl) ?_ ?_
          · exact ⟨hc0, hc1, hc2, hc3, trivial⟩
          · first | (simp_all [wkR, wk, wk0, allB]; done) | (simp_all [wkR, wk, wk0, allB]; omega)
        · have hd3 := of_decide_eq_true ((Bool.not_eq_false' _).mp hc3)
          rcases Bool.eq_false_or_eq_true (!Decidable.decide (e.length ≤ (900 : Nat))) with hc4 | hc4
          · have hd4 := of_decide_eq_false ((Bool.not_eq_true' _).mp hc4)
            refine hold_endw mixed okT4a (unroll := true) (f := 300) (sc := [false, false, false, false, true]) (r := (Go.Eng.SV.cb Bool.false)) (ob := [(!Decidable.decide (a.length ≤ (900 : Nat))) = Bool.false, (!Decidable.decide (b.length ≤ (900 : Nat))) = Bool.false, (!Decidable.decide (c.length ≤ (900 : Nat))) = Bool.false, (!Decidable.decide (d.length ≤ (900 : Nat))) = Bool.false, (!Decidable.decide (e.length ≤ (900 : Nat))) = Bool.true]) (sc' := []) (by kernel_rfl) ?_ ?_
            · exact ⟨hc0, hc1, hc2, hc3, hc4, trivial⟩
            · first | (simp_all [wkR, wk, wk0, allB]; done) | (simp_all [wkR, wk, wk0, allB]; omega)
          · have hd4 := of_decide_eq_true ((Bool.not_eq_false' _).mp hc4)
            refine hold_endw mixed okT4a (unroll := true) (f := 300) (sc := [false, false, false, false, false]) (r := (Go.Eng.SV.cb (Decidable.decide ((↑(5 : Nat) : Int) ≤ (20 : Int))))) (ob := [(!Decidable.decide (a.length ≤ (900 : Nat))) = Bool.false, (!Decidable.decide (b.length ≤ (900 : Nat))) = Bool.false, (!Decidable.decide (c.length ≤ (900 : Nat))) = Bool.false, (!Decidable.decide (d.length ≤ (900 : Nat))) = Bool.false, (!Decidable.decide (e.length ≤ (900 : Nat))) = Bool.false]) (sc' := []) (by kernel_rfl) ?_ ?_
            · exact ⟨hc0, hc1, hc2, hc3, hc4, trivial⟩
            · first | (simp_all [wkR, wk, wk0, allB]; done) | (simp_all [wkR, wk, wk0, allB]; omega)
theorem all_ok : ∀ args res ob, eAll args = some (res, ob) → All ob → Contract Try.prog 46 args res := by
  intro args res ob he _
  unfold eAll at he
  split at he
  · split at he
    · rename_i ha hb
      cases he
      exact slv_argsF (all2_c _ _) ⟨part_wk ha, part_wk hb, rfl⟩ (by simp [SV.size]) rfl
    · cases he
  · split at he
    · rename_i ha hb hc
      cases he
      exact slv_argsF (all3_c _ _ _) ⟨part_wk ha, part_wk hb, part_wk hc, rfl⟩ (by simp [SV.size]) rfl
    · cases he
  · split at he
    · rename_i ha hb hc hd he
      cases he
      exact slv_argsF (all5_c _ _ _ _ _) ⟨part_wk ha, part_wk hb, part_wk hc, part_wk hd, part_wk he, rfl⟩ (by simp [SV.size]) rfl
    · cases he
  · cases he
end Go.Eng.B

namespace Go.Eng.B
open Go Go.Eng Go.Proofs
set_option maxRecDepth 100000
set_option maxHeartbeats 1000000
def fourL (m : Nat) : List Nat := [m / 16777216 % 256, m / 65536 % 256, m / 256 % 256, m % 256]
def okK (k p : List Nat) (n : Int) : Bool := decide (k.length = 16) && decide (p.length ≤ 7) && decide (0 ≤ n) && decide (n ≤ 1073741824)
def mkL (g : List Nat → List Nat) (k p : List Nat) (m : Nat) : List Nat := fourL m ++ (hm g k ([p.length] ++ p ++ fourL m)).take 8
def mkV (g : List Nat → List Nat) (k p : List Nat) (n : Int) : List Nat := if okK k p n = true then mkL g k p n.toNat else []
def mkE (k p : List Nat) (n : Int) : Nat := if okK k p n = true then 0 else 1
def eNumb (H : List Bk) (args : List SV) : Option (MRes × List Prop) := match H, args with
  | [], [x, y] => match x.nat?, y.nat? with
    | some (.i64, m), some (.i64, n) => some (⟨.row 0 (.sl .u8 (fourL m)), [], [bY]⟩, [n = 4])
    | _, _ => none
  | _, _ => none
def eFour (H : List Bk) (args : List SV) : Option (MRes × List Prop) := match H, args with
  | [], [x] => match x.nat? with
    | some (.i64, m) => some (⟨.row 0 (.sl .u8 (fourL m)), [], [bY]⟩, [])
    | _ => none
  | _, _ => none
def eRight (args : List SV) : Option (SV × List Prop) := match args with
  | [x, y, z] => match part? x, part? y, z.int? with | some k, some p, some (.i64, n) => some (.b (okK k p n), []) | _, _, _ => none
  | _ => none
def eMake (g : List Nat → List Nat) (args : List SV) : Option (SV × List Prop) := match args with
  | [x, y, z] => match part? x, part? y, z.int? with | some k, some p, some (.i64, n) => some (.tup [.sl .u8 (mkV g k p n), .u .i64 (mkE k p n)], []) | _, _, _ => none
  | _ => none
noncomputable def V1a (g h : List Nat → List Nat) : Ctr := addC 98 eRight (addC 95 eRight (addM 99 eNumb (addM 96 eFour (addC 16 (eHm g) (addC 97 (eHm g) (ST g h))))))
theorem fourL_len (m : Nat) : (fourL m).length = 4 := rfl
section
variable {w0 : World} {S : Own} {res : SV}
theorem numb_m (m : Nat) : ContractM Try.prog 99 [] [.u .i64 m, .u .i64 4] ⟨.row 0 (.sl .u8 (fourL m)), [], [bY]⟩ := by
  refine ContractM.args (args' := [.u .i64 m, .c .i64 4]) ⟨wk_refl _, by simp [wk, wk0], rfl⟩ ?_
  refine contractM Try.func99 (body := bodyOf Try.f99) rfl (by kernel_rfl) (by kernel_rfl) rfl rfl ?_
  rintro _ _ F S _
  refine hold_endOw mixed ctr0_ok (news := [1]) (t := 4) (unroll := true) (f := 300) (sc := []) (r := { res := Go.Eng.SV.row (0 : Nat) (Go.Eng.SV.sl Go.IntKind.u8 [m / (16777216 : Nat) % (256 : Nat), m / (65536 : Nat) % (256 : Nat), m / (256 : Nat) % (256 : Nat), m / (1 : Nat) % (256 : Nat)]), upd := [], new := [{ ty := (5 : Nat), segs := [], row := Bool.true }] }) (ob := []) (sc' := []) (by kernel_rfl) (by repeat' first | exact trivial | refine ⟨?_, ?_⟩) ?_
  rw [Nat.div_one]
  exact wkM_of rfl
theorem four_m (m : Nat) : ContractM Try.prog 96 [] [.u .i64 m] ⟨.row 0 (.sl .u8 (fourL m)), [], [bY]⟩ := by
  refine contractM Try.func96 (body := bodyOf Try.f96) rfl (by kernel_rfl) (by kernel_rfl) rfl rfl ?_
  rintro _ _ F S _
  refine hold_endOw mixed ctr0_ok (news := [1]) (t := 2) (unroll := true) (f := 300) (sc := []) (r := { res := Go.Eng.SV.row (0 : Nat) (Go.Eng.SV.sl Go.IntKind.u8 [m / (16777216 : Nat) % (256 : Nat), m / (65536 : Nat) % (256 : Nat), m / (256 : Nat) % (256 : Nat), m % (256 : Nat)]), upd := [], new := [{ ty := (5 : Nat), segs := [], row := Bool.true }] }) (ob := []) (sc' := []) (by kernel_rfl) (by repeat' first | exact trivial | refine ⟨?_, ?_⟩) ?_
  exact wkM_of rfl
theorem right_c (k p : List Nat) (n : Int) : Contract Try.prog 98 [.sl .u8 k, .sl .u8 p, .i .i64 n] (.b (okK k p n)) := by
  refine contract Try.func98 (body := bodyOf Try.f98) rfl (by kernel_rfl) (by kernel_rfl) rfl ?_
  intro _ w0 S
  rcases Bool.eq_false_or_eq_true (k.length == (16 : Nat)) with hc0 | hc0
  · have hd0 := eq_of_beq hc0
    rcases Bool.eq_false_or_eq_true (Decidable.decide (p.length ≤ (7 : Nat))) with hc1 | hc1
    · have hd1 := of_decide_eq_true hc1
      rcases Bool.eq_false_or_eq_true (Decidable.decide ((0 : Int) ≤ n)) with hc2 | hc2
      · have hd2 := of_decide_eq_true hc2
        refine hold_endw mixed ctr0_ok (unroll := true) (f := 100) (sc := [true, true, true]) (r := (Go.Eng.SV.b (Decidable.decide (n ≤ (1073741824 : Int))))) (ob := [(k.length == (16 : Nat)) = Bool.true, Decidable.decide (p.length ≤ (7 : Nat)) = Bool.true, Decidable.decide ((0 : Int) ≤ n) = Bool.true]) (sc' := []) (by kernel_rfl) ?_ ?_
        · exact ⟨hc0, hc1, hc2, trivial⟩
        · first | (simp_all [wkR, wk, wk0, okK]; done) | (simp_all [wkR, wk, wk0, okK]; omega)
      · have hd2 := of_decide_eq_false hc2
        refine hold_endw mixed ctr0_ok (unroll := true) (f := 100) (sc := [true, true, false]) (r := (Go.Eng.SV.cb Bool.false)) (ob := [(k.length == (16 : Nat)) = Bool.true, Decidable.decide (p.length ≤ (7 : Nat)) = Bool.true, Decidable.decide ((0 : Int) ≤ n) = Bool.false]) (sc' := []) (by kernel_rfl) ?_ ?_
        · exact ⟨hc0, hc1, hc2, trivial⟩
        · first | (simp_all [wkR, wk, wk0, okK]; done) | (simp_all [wkR, wk, wk0, okK]; omega)
    · have hd1 := of_decide_eq_false hc1
      refine hold_endw mixed ctr0_ok (unroll := true) (f := 100) (sc := [true, false]) (r := (Go.Eng.SV.cb Bool.false)) (ob := [(k.length == (16 : Nat)) = Bool.true, Decidable.decide (p.length ≤ (7 : Nat)) = Bool.false]) (sc' := []) (by kernel_rfl) ?_ ?_
      · exact ⟨hc0, hc1, trivial⟩
      · first | (simp_all [wkR, wk, wk0, okK]; done) | (simp_all [wkR, wk, wk0, okK]; omega)
  · have hd0 := ne_of_beq_false hc0
    refine hold_endw mixed ctr0_ok (unroll := true) (f := 100) (sc := [false]) (r := (Go.Eng.SV.cb Bool.false)) (ob := [(k.length == (16 : Nat)) = Bool.false]) (sc' := []) (by kernel_rfl) ?_ ?_
    · exact ⟨hc0, trivial⟩
    · first | (simp_all [wkR, wk, wk0, okK]; done) | (simp_all [wkR, wk, wk0, okK]; omega)
theorem fine_c (k p : List Nat) (n : Int) : Contract Try.prog 95 [.sl .u8 k, .sl .u8 p, .i .i64 n] (.b (okK k p n)) := by
  refine contract Try.func95 (body := bodyOf Try.f95) rfl (by kernel_rfl) (by kernel_rfl) rfl ?_
  intro _ w0 S
  rcases Bool.eq_false_or_eq_true (k.length == (16 : Nat)) with hc0 | hc0
  · have hd0 := eq_of_beq hc0
    rcases Bool.eq_false_or_eq_true (Decidable.decide (p.length ≤ (7 : Nat))) with hc1 | hc1
    · have hd1 := of_decide_eq_true hc1
      rcases Bool.eq_false_or_eq_true (Decidable.decide ((0 : Int) ≤ n)) with hc2 | hc2
      · have hd2 := of_decide_eq_true hc2
        refine hold_endw mixed ctr0_ok (unroll := true) (f := 100) (sc := [true, true, true]) (r := (Go.Eng.SV.b (Decidable.decide (n ≤ (1073741824 : Int))))) (ob := [(k.length == (16 : Nat)) = Bool.true, Decidable.decide (p.length ≤ (7 : Nat)) = Bool.true, Decidable.decide ((0 : Int) ≤ n) = Bool.true]) (sc' := []) (by kernel_rfl) ?_ ?_
        · exact ⟨hc0, hc1, hc2, trivial⟩
        · first | (simp_all [wkR, wk, wk0, okK]; done) | (simp_all [wkR, wk, wk0, okK]; omega)
      · have hd2 := of_decide_eq_false hc2
        refine hold_endw mixed ctr0_ok (unroll := true) (f := 100) (sc := [true, true, false]) (r := (Go.Eng.SV.cb Bool.false)) (ob := [(k.length == (16 : Nat)) = Bool.true, Decidable.decide (p.length ≤ (7 : Nat)) = Bool.true, Decidable.decide ((0 : Int) ≤ n) = Bool.false]) (sc' := []) (by kernel_rfl) ?_ ?_
        · exact ⟨hc0, hc1, hc2, trivial⟩
        · first | (simp_all [wkR, wk, wk0, okK]; done) | (simp_all [wkR, wk, wk0, okK]; omega)
    · have hd1 := of_decide_eq_false hc1
      refine hold_endw mixed ctr0_ok (unroll := true) (f := 100) (sc := [true, false]) (r := (Go.Eng.SV.cb Bool.false)) (ob := [(k.length == (16 : Nat)) = Bool.true, Decidable.decide (p.length ≤ (7 : Nat)) = Bool.false]) (sc' := []) (by kernel_rfl) ?_ ?_
      · exact ⟨hc0, hc1, trivial⟩
      · first | (simp_all [wkR, wk, wk0, okK]; done) | (simp_all [wkR, wk, wk0, okK]; omega)
  · have hd0 := ne_of_beq_false hc0
    refine hold_endw mixed ctr0_ok (unroll := true) (f := 100) (sc := [false]) (r := (Go.Eng.SV.cb Bool.false)) (ob := [(k.length == (16 : Nat)) = Bool.false]) (sc' := []) (by kernel_rfl) ?_ ?_
    · exact ⟨hc0, trivial⟩
    · first | (simp_all [wkR, wk, wk0, okK]; done) | (simp_all [wkR, wk, wk0, okK]; omega)
end
theorem numb_ok : ∀ H args r ob, eNumb H args = some (r, ob) → All ob → ContractM Try.prog 99 H args r := by
  intro H args r ob he hob
  unfold eNumb at he
  split at he
  · split at he
    · rename_i m n hx hy
      cases he
      obtain ⟨rfl, _⟩ := hob
      exact ContractM.argsRF (numb_m m) (fun ⟨v, t, e, h1, v2, t2, e2, h2, h3⟩ => ⟨v, t, e, nat?_wk hx h1, v2, t2, e2, nat?_wk hy h2, h3⟩)
    · cases he
  · cases he
theorem four_ok : ∀ H args r ob, eFour H args = some (r, ob) → All ob → ContractM Try.prog 96 H args r := by
  intro H args r ob he hob
  unfold eFour at he
  split at he
  · split at he
    · rename_i m hx
      cases he
      exact ContractM.argsRF (four_m m) (fun ⟨v, t, e, h1, h3⟩ => ⟨v, t, e, nat?_wk hx h1, h3⟩)
    · cases he
  · cases he
theorem eRight_ok {P : Program} {f : FuncId} (h : ∀ (k p : List Nat) (n : Int), Contract P f [.sl .u8 k, .sl .u8 p, .i .i64 n] (.b (okK k p n))) : ∀ args res ob, eRight args = some (res, ob) → All ob → Contract P f args res := by
  intro args res ob he _
  unfold eRight at he
  split at he
  · split at he
    · rename_i hx hy hz
      cases he
      exact Contract.argsF (h _ _ _) ⟨wk_of0 (part_wk hx), wk_of0 (part_wk hy), int?_wk hz, rfl⟩
    · cases he
  · cases he
theorem eMake_ok {P : Program} {f : FuncId} {g : List Nat → List Nat} (h : ∀ (k p : List Nat) (n : Int), Contract P f [.sl .u8 k, .sl .u8 p, .i .i64 n] (.tup [.sl .u8 (mkV g k p n), .u .i64 (mkE k p n)])) : ∀ args res ob, eMake g args = some (res, ob) → All ob → Contract P f args res := by
  intro args res ob he _
  unfold eMake at he
  split at he
  · split at he
    · rename_i hx hy hz
      cases he
      exact Contract.argsF (h _ _ _) ⟨wk_of0 (part_wk hx), wk_of0 (part_wk hy), int?_wk hz, rfl⟩
    · cases he
  · cases he
theorem okK_n {k p : List Nat} {n : Int} (h : okK k p n = true) : k.length = 16 ∧ p.length ≤ 7 ∧ 0 ≤ n ∧ n ≤ 1073741824 := by
  simp only [okK, Bool.and_eq_true, decide_eq_true_eq] at h
  exact ⟨h.1.1.1, h.1.1.2, h.1.2, h.2⟩
section
variable {g h : List Nat → List Nat} (hg : g = sum32) (hh : h = sum64) {w0 : World} {S : Own} {res : SV}
include hg hh
theorem okV1a : CtrOk Try.prog (V1a g h) := addC_ok (addC_ok (addM_ok (addM_ok (addC_ok (addC_ok (okST hg hh) (eHm_ok (qhmac_c hg hh))) (eHm_ok (hmac_c hg hh))) four_ok) numb_ok) (eRight_ok fine_c)) (eRight_ok right_c)
theorem make_c (k p : List Nat) (n : Int) : Contract Try.prog 61 [.sl .u8 k, .sl .u8 p, .i .i64 n] (.tup [.sl .u8 (mkV g k p n), .u .i64 (mkE k p n)]) := by
  have hl : ∀ b, (g b).length = 32 := by rw [hg]; exact sum32_len
  cases ho : okK k p n with
  | false =>
    unfold mkV mkE
    rw [ho]
    refine contract Try.func61 (body := bodyOf Try.f61) rfl (by kernel_rfl) (by kernel_rfl) rfl ?_
    intro _ w0 S
    exact hold_endw mixed (okV1a hg hh) (unroll := true) (f := 100) (sc := [true]) (r := (Go.Eng.SV.tup [Go.Eng.SV.sl Go.IntKind.u8 [], Go.Eng.SV.c Go.IntKind.i64 (1 : Int)])) (ob := [(!okK k p n) = Bool.true]) (sc' := []) (by kernel_rfl) ⟨by rw [ho]; rfl, trivial⟩ (by simp [wkR, wk, wk0, wkl, wka, lim])
  | true =>
    obtain ⟨hk, hp, h0, h1⟩ := okK_n ho
    obtain ⟨m, rfl⟩ : ∃ m : Nat, n = (m : Int) := ⟨n.toNat, by omega⟩
    unfold mkV mkE
    rw [ho]
    refine Contract.args (args' := [.sl .u8 k, .sl .u8 p, .u .i64 m]) ⟨by simp [wk, wk0], by simp [wk, wk0], by simp [wk, wk0, lim]; omega, rfl⟩ ?_
    refine contract Try.func61 (body := bodyOf Try.f61) rfl (by kernel_rfl) (by kernel_rfl) rfl ?_
    intro _ w0 S
    have hq : (hm g k (p.length % 256 :: p ++ fourL m)).length = 32 := hm_len hl _ _
    have hr : p.length % 256 = p.length := by omega
    refine hold_endw mixed (okV1a hg hh) (unroll := true) (f := 100) (sc := [false]) (r := (Go.Eng.SV.tup [Go.Eng.SV.sl Go.IntKind.u8 (fourL m ++ List.drop (0 : Nat) (List.take (8 : Nat) (Go.Eng.B.hm g k (p.length % (256 : Nat) :: p ++ fourL m)))), Go.Eng.SV.c Go.IntKind.i64 (0 : Int)])) (ob := [(!okK k p (↑m : Int)) = Bool.false, Go.Eng.slenD (Go.Eng.SV.sl Go.IntKind.u8 (p.length % (256 : Nat) :: p)) * (1 : Nat) ≤ (140737488355328 : Nat), (4 : Nat) = (4 : Nat), (4 : Nat) = (4 : Nat), Go.Eng.slenD (Go.Eng.SV.sl Go.IntKind.u8 (p.length % (256 : Nat) :: p ++ fourL m)) * (1 : Nat) ≤ (140737488355328 : Nat), k.length ≤ (900000 : Nat), (p.length % (256 : Nat) :: p ++ fourL m).length ≤ (900000 : Nat), (0 : Nat) ≤ (8 : Nat), (8 : Nat) ≤ (Go.Eng.B.hm g k (p.length % (256 : Nat) :: p ++ fourL m)).length, Go.Eng.slenD (Go.Eng.SV.sl Go.IntKind.u8 (fourL m ++ List.drop (0 : Nat) (List.take (8 : Nat) (Go.Eng.B.hm g k (p.length % (256 : Nat) :: p ++ fourL m))))) * (1 : Nat) ≤ (140737488355328 : Nat)]) (sc' := []) (by kernel_rfl) (by repeat' first | exact trivial | exact ho | omega | (rw [ho]; rfl) | (simp only [slenD, SV.slen, Option.getD_some, List.length_append, List.length_cons, List.length_nil, List.length_take, List.length_drop, fourL_len, hm_len hl]; omega) | refine ⟨?_, ?_⟩) ?_
    simp [wkR, wk, wk0, wkl, wka, lim, mkL, hr]
theorem qmake_c (k p : List Nat) (n : Int) : Contract Try.prog 60 [.sl .u8 k, .sl .u8 p, .i .i64 n] (.tup [.sl .u8 (mkV g k p n), .u .i64 (mkE k p n)]) := by
  have hl : ∀ b, (g b).length = 32 := by rw [hg]; exact sum32_len
  cases ho : okK k p n with
  | false =>
    unfold mkV mkE
    rw [ho]
    refine contract Try.func60 (body := bodyOf Try.f60) rfl (by kernel_rfl) (by kernel_rfl) rfl ?_
    intro _ w0 S
    exact hold_endw mixed (okV1a hg hh) (unroll := true) (f := 100) (sc := [true]) (r := (Go.Eng.SV.tup [Go.Eng.SV.sl Go.IntKind.u8 [], Go.Eng.SV.c Go.IntKind.i64 (1 : Int)])) (ob := [(!okK k p n) = Bool.true]) (sc' := []) (by kernel_rfl) ⟨by rw [ho]; rfl, trivial⟩ (by simp [wkR, wk, wk0, wkl, wka, lim])
  | true =>
    obtain ⟨hk, hp, h0, h1⟩ := okK_n ho
    obtain ⟨m, rfl⟩ : ∃ m : Nat, n = (m : Int) := ⟨n.toNat, by omega⟩
    unfold mkV mkE
    rw [ho]
    refine Contract.args (args' := [.sl .u8 k, .sl .u8 p, .u .i64 m]) ⟨by simp [wk, wk0], by simp [wk, wk0], by simp [wk, wk0, lim]; omega, rfl⟩ ?_
    refine contract Try.func60 (body := bodyOf Try.f60) rfl (by kernel_rfl) (by kernel_rfl) rfl ?_
    intro _ w0 S
    have hr : p.length % 256 = p.length := by omega
    refine hold_endw mixed (okV1a hg hh) (unroll := true) (f := 100) (sc := [false]) (r := (Go.Eng.SV.tup [Go.Eng.SV.sl Go.IntKind.u8 (fourL m ++ List.drop (0 : Nat) (List.take (8 : Nat) (Go.Eng.B.hm g k (p.length % (256 : Nat) :: p ++ fourL m)))), Go.Eng.SV.c Go.IntKind.i64 (0 : Int)])) (ob := [(!okK k p (↑m : Int)) = Bool.false, Go.Eng.slenD (Go.Eng.SV.sl Go.IntKind.u8 (p.length % (256 : Nat) :: p)) * (1 : Nat) ≤ (140737488355328 : Nat), Go.Eng.slenD (Go.Eng.SV.sl Go.IntKind.u8 (p.length % (256 : Nat) :: p ++ fourL m)) * (1 : Nat) ≤ (140737488355328 : Nat), k.length ≤ (900000 : Nat), (p.length % (256 : Nat) :: p ++ fourL m).length ≤ (900000 : Nat), (0 : Nat) ≤ (8 : Nat), (8 : Nat) ≤ (Go.Eng.B.hm g k (p.length % (256 : Nat) :: p ++ fourL m)).length, Go.Eng.slenD (Go.Eng.SV.sl Go.IntKind.u8 (fourL m ++ List.drop (0 : Nat) (List.take (8 : Nat) (Go.Eng.B.hm g k (p.length % (256 : Nat) :: p ++ fourL m))))) * (1 : Nat) ≤ (140737488355328 : Nat)]) (sc' := []) (by kernel_rfl) (by repeat' first | exact trivial | exact ho | omega | (rw [ho]; rfl) | (simp only [slenD, SV.slen, Option.getD_some, List.length_append, List.length_cons, List.length_nil, List.length_take, List.length_drop, fourL_len, hm_len hl]; omega) | refine ⟨?_, ?_⟩) ?_
    simp [wkR, wk, wk0, wkl, wka, lim, mkL, hr]
end
end Go.Eng.B

namespace Go.Eng.B
open Go Go.Eng Go.Proofs
set_option maxRecDepth 100000
set_option maxHeartbeats 1000000
def be4 (v : List Nat) : Nat := ((v.getD 0 0 * 256 + v.getD 1 0) * 256 + v.getD 2 0) * 256 + v.getD 3 0
def ckT (g : List Nat → List Nat) (k p v : List Nat) (n : Int) (t : Nat) : Nat :=
  if 1073741824 < t then 4 else if mkL g k p t ≠ v then 11 else if n < (t : Int) ∨ 16 < n - (t : Int) then 39 else 0
def ckE (g : List Nat → List Nat) (k p v : List Nat) (n : Int) : Nat :=
  if okK k p n = false then 1 else if v.length ≠ 12 then 4 else ckT g k p v n (be4 v)
def sCk (k p v : List Nat) (m t : Nat) : St := ⟨62, [(0, .sl .u8 k), (1, .sl .u8 p), (2, .sl .u8 v), (3, .u .i64 m), (9, .u .i64 t), (36, .b (decide (1073741824 < t)))], [], 0, 0⟩
def sQk (k p v : List Nat) (m t : Nat) : St := ⟨55, [(0, .sl .u8 k), (1, .sl .u8 p), (2, .sl .u8 v), (3, .u .i64 m), (9, .u .i64 t), (34, .b (decide (1073741824 < t)))], [], 0, 0⟩
def eCheck (g : List Nat → List Nat) (args : List SV) : Option (SV × List Prop) := match args with
  | [x, y, z, u] => match part? x, part? y, part? z, u.int? with | some k, some p, some v, some (.i64, n) => some (.u .i64 (ckE g k p v n), []) | _, _, _, _ => none
  | _ => none
noncomputable def V2a (g h : List Nat → List Nat) : Ctr := addC 61 (eMake g) (addC 60 (eMake g) (addC 43 eEq (V1a g h)))
theorem or8 (x y : Nat) (h : y < 256) : (x * 256 ||| y) = x * 256 + y := by
  have := Nat.two_pow_add_eq_or_of_lt (i := 8) (b := y) (by omega) x
  rw [Nat.mul_comm x 256]; exact this.symm
theorem mkV_ok {g : List Nat → List Nat} {k p : List Nat} {t : Nat} (hk : k.length = 16) (hp : p.length ≤ 7) (ht : t ≤ 1073741824) : mkV g k p (t : Int) = mkL g k p t ∧ mkE k p (t : Int) = 0 := by
  have ho : okK k p (t : Int) = true := by simp only [okK, Bool.and_eq_true, decide_eq_true_eq]; omega
  unfold mkV mkE; rw [if_pos ho, if_pos ho]; exact ⟨rfl, rfl⟩
section
variable {g h : List Nat → List Nat} (hg : g = sum32) (hh : h = sum64) {w0 : World} {S : Own} {res : SV}
include hg hh
theorem okV2a : CtrOk Try.prog (V2a g h) := addC_ok (addC_ok (addC_ok (okV1a hg hh) equal_ok) (eMake_ok (qmake_c hg hh))) (eMake_ok (make_c hg hh))
theorem ck1 (k p v : List Nat) (m t : Nat) (hk : k.length = 16) (hp : p.length ≤ 7) (hm : m ≤ 1073741824) (hr : res = .u .i64 (ckT g k p v (m : Int) t)) : Hold Try.prog (bodyOf Try.f63) (Fin Try.prog Try.f63 w0 S res) w0 S [.at [1,0,1,1,1,1,1], .at [1,1,1,1,1,1]] (sCk k p v m t) := by
  unfold ckT at hr
  by_cases h1 : 1073741824 < t
  · rw [hr, if_pos h1]
    exact hold_endw mixed (okV2a hg hh) (unroll := true) (f := 100) (sc := [true]) (r := (Go.Eng.SV.c Go.IntKind.i64 (4 : Int))) (ob := [Decidable.decide ((1073741824 : Nat) < t) = Bool.true]) (sc' := []) (by kernel_rfl) ⟨decide_eq_true h1, trivial⟩ (by simp [wkR, wk, wk0, wka, lim])
  · rw [if_neg h1] at hr
    obtain ⟨e1, e2⟩ := mkV_ok (g := g) hk hp (show t ≤ 1073741824 by omega)
    by_cases h2 : mkL g k p t = v
    · rw [if_neg (by simp [h2])] at hr
      by_cases h3 : m < t
      · rw [hr, if_pos (by omega)]
        exact hold_endw mixed (okV2a hg hh) (unroll := true) (f := 100) (sc := [false, false, false, true]) (r := (Go.Eng.SV.c Go.IntKind.i64 (39 : Int))) (ob := [Decidable.decide ((1073741824 : Nat) < t) = Bool.false, (Go.Eng.B.mkE k p (↑t : Int) != (0 : Nat)) = Bool.false, (Go.Eng.B.mkV g k p (↑t : Int) != v) = Bool.false, Decidable.decide (m < t) = Bool.true]) (sc' := []) (by kernel_rfl) ⟨decide_eq_false h1, by rw [e2]; rfl, by rw [e1, h2]; simp, decide_eq_true h3, trivial⟩ (by simp [wkR, wk, wk0, wka, lim])
      · by_cases h4 : 16 < (m : Int) - (t : Int)
        · rw [hr, if_pos (by omega)]
          exact hold_endw mixed (okV2a hg hh) (unroll := true) (f := 100) (sc := [false, false, false, false, true]) (r := (Go.Eng.SV.c Go.IntKind.i64 (39 : Int))) (ob := [Decidable.decide ((1073741824 : Nat) < t) = Bool.false, (Go.Eng.B.mkE k p (↑t : Int) != (0 : Nat)) = Bool.false, (Go.Eng.B.mkV g k p (↑t : Int) != v) = Bool.false, Decidable.decide (m < t) = Bool.false, Decidable.decide ((16 : Int) < (↑m : Int) - (↑t : Int)) = Bool.true]) (sc' := []) (by kernel_rfl) ⟨decide_eq_false h1, by rw [e2]; rfl, by rw [e1, h2]; simp, decide_eq_false h3, decide_eq_true h4, trivial⟩ (by simp [wkR, wk, wk0, wka, lim])
        · rw [hr, if_neg (by omega)]
          exact hold_endw mixed (okV2a hg hh) (unroll := true) (f := 100) (sc := [false, false, false, false, false]) (r := (Go.Eng.SV.c Go.IntKind.i64 (0 : Int))) (ob := [Decidable.decide ((1073741824 : Nat) < t) = Bool.false, (Go.Eng.B.mkE k p (↑t : Int) != (0 : Nat)) = Bool.false, (Go.Eng.B.mkV g k p (↑t : Int) != v) = Bool.false, Decidable.decide (m < t) = Bool.false, Decidable.decide ((16 : Int) < (↑m : Int) - (↑t : Int)) = Bool.false]) (sc' := []) (by kernel_rfl) ⟨decide_eq_false h1, by rw [e2]; rfl, by rw [e1, h2]; simp, decide_eq_false h3, decide_eq_false h4, trivial⟩ (by simp [wkR, wk, wk0, wka, lim])
    · rw [hr, if_pos h2]
      exact hold_endw mixed (okV2a hg hh) (unroll := true) (f := 100) (sc := [false, false, true]) (r := (Go.Eng.SV.c Go.IntKind.i64 (11 : Int))) (ob := [Decidable.decide ((1073741824 : Nat) < t) = Bool.false, (Go.Eng.B.mkE k p (↑t : Int) != (0 : Nat)) = Bool.false, (Go.Eng.B.mkV g k p (↑t : Int) != v) = Bool.true]) (sc' := []) (by kernel_rfl) ⟨decide_eq_false h1, by rw [e2]; rfl, by rw [e1]; exact bne_iff_ne.mpr h2, trivial⟩ (by simp [wkR, wk, wk0, wka, lim])
theorem check_c (k p v : List Nat) (n : Int) : Contract Try.prog 63 [.sl .u8 k, .sl .u8 p, .sl .u8 v, .i .i64 n] (.u .i64 (ckE g k p v n)) := by
  cases ho : okK k p n with
  | false =>
    unfold ckE; rw [if_pos ho]
    refine contract Try.func63 (body := bodyOf Try.f63) rfl (by kernel_rfl) (by kernel_rfl) rfl ?_
    intro _ w0 S
    exact hold_endw mixed (okV2a hg hh) (unroll := true) (f := 100) (sc := [true]) (r := (Go.Eng.SV.c Go.IntKind.i64 (1 : Int))) (ob := [(!Go.Eng.B.okK k p n) = Bool.true]) (sc' := []) (by kernel_rfl) ⟨by rw [ho]; rfl, trivial⟩ (by simp [wkR, wk, wk0, wka, lim])
  | true =>
    obtain ⟨hk, hp, h0, h1⟩ := okK_n ho
    obtain ⟨m, rfl⟩ : ∃ m : Nat, n = (m : Int) := ⟨n.toNat, by omega⟩
    unfold ckE; rw [if_neg (by rw [ho]; decide)]
    refine Contract.args (args' := [.sl .u8 k, .sl .u8 p, .sl .u8 v, .u .i64 m]) ⟨wk_refl _, wk_refl _, wk_refl _, by simp [wk, wk0, lim]; omega, rfl⟩ ?_
    refine contract Try.func63 (body := bodyOf Try.f63) rfl (by kernel_rfl) (by kernel_rfl) rfl ?_
    rintro ⟨_, _, ⟨_, hv⟩, _⟩ w0 S
    have hv : ∀ x ∈ v, x < 256 := hv
    by_cases hl : v.length = 12
    · rw [if_neg (by omega)]
      have g0 := getD_lt (by decide) hv 0
      have g1 := getD_lt (by decide) hv 1
      have g2 := getD_lt (by decide) hv 2
      have g3 := getD_lt (by decide) hv 3
      have tl : (List.drop 0 (List.take 4 v)).length = 4 := by simp; omega
      have t0 : ∀ i, i < 4 → (List.drop 0 (List.take 4 v)).getD i 0 = v.getD i 0 := by
        intro i hi; simp [List.getD_eq_getElem?_getD, List.getElem?_take, hi]
      have o1 := or8 (v.getD 0 0) (v.getD 1 0) g1
      have o2 := or8 (v.getD 0 0 * 256 + v.getD 1 0) (v.getD 2 0) g2
      have o3 := or8 ((v.getD 0 0 * 256 + v.getD 1 0) * 256 + v.getD 2 0) (v.getD 3 0) g3
      refine hold_cut mixed (okV2a hg hh) (unroll := true) (f := 300) (sc := [false, false, true, true, true, true, false]) (ks := [0,1,2,3,9,36]) (bs := []) (nx := 0) (st' := [Go.Eng.It.at [(1 : Nat), (0 : Nat), (1 : Nat), (1 : Nat), (1 : Nat), (1 : Nat), (1 : Nat)], Go.Eng.It.at [(1 : Nat), (1 : Nat), (1 : Nat), (1 : Nat), (1 : Nat), (1 : Nat)]]) (σ' := { nt := (62 : Nat), slots := [((0 : Nat), Go.Eng.SV.sl Go.IntKind.u8 k), ((1 : Nat), Go.Eng.SV.sl Go.IntKind.u8 p), ((2 : Nat), Go.Eng.SV.sl Go.IntKind.u8 v), ((3 : Nat), Go.Eng.SV.u Go.IntKind.i64 m), ((9 : Nat), Go.Eng.SV.u Go.IntKind.i64 (((((0 : Nat) ||| (List.drop (0 : Nat) (List.take (4 : Nat) v)).getD (0 : Nat) (0 : Nat)) * (256 : Nat) ||| (List.drop (0 : Nat) (List.take (4 : Nat) v)).getD (1 : Nat) (0 : Nat)) * (256 : Nat) ||| (List.drop (0 : Nat) (List.take (4 : Nat) v)).getD (2 : Nat) (0 : Nat)) * (256 : Nat) ||| (List.drop (0 : Nat) (List.take (4 : Nat) v)).getD (3 : Nat) (0 : Nat))), ((36 : Nat), Go.Eng.SV.b (Decidable.decide ((1073741824 : Nat) < ((((0 : Nat) ||| (List.drop (0 : Nat) (List.take (4 : Nat) v)).getD (0 : Nat) (0 : Nat)) * (256 : Nat) ||| (List.drop (0 : Nat) (List.take (4 : Nat) v)).getD (1 : Nat) (0 : Nat)) * (256 : Nat) ||| (List.drop (0 : Nat) (List.take (4 : Nat) v)).getD (2 : Nat) (0 : Nat)) * (256 : Nat) ||| (List.drop (0 : Nat) (List.take (4 : Nat) v)).getD (3 : Nat) (0 : Nat))))], blks := [], next := (0 : Nat) }) (ob := [(!Go.Eng.B.okK k p (↑m : Int)) = Bool.false, (v.length != (12 : Nat)) = Bool.false, (0 : Nat) ≤ (4 : Nat), (4 : Nat) ≤ v.length, Decidable.decide ((0 : Nat) < (List.drop (0 : Nat) (List.take (4 : Nat) v)).length) = Bool.true, (0 : Nat) < (List.drop (0 : Nat) (List.take (4 : Nat) v)).length, Decidable.decide ((1 : Nat) < (List.drop (0 : Nat) (List.take (4 : Nat) v)).length) = Bool.true, (1 : Nat) < (List.drop (0 : Nat) (List.take (4 : Nat) v)).length, ((0 : Nat) ||| (List.drop (0 : Nat) (List.take (4 : Nat) v)).getD (0 : Nat) (0 : Nat)) * (256 : Nat) < (9223372036854775808 : Nat), Decidable.decide ((2 : Nat) < (List.drop (0 : Nat) (List.take (4 : Nat) v)).length) = Bool.true, (2 : Nat) < (List.drop (0 : Nat) (List.take (4 : Nat) v)).length, (((0 : Nat) ||| (List.drop (0 : Nat) (List.take (4 : Nat) v)).getD (0 : Nat) (0 : Nat)) * (256 : Nat) ||| (List.drop (0 : Nat) (List.take (4 : Nat) v)).getD (1 : Nat) (0 : Nat)) * (256 : Nat) < (9223372036854775808 : Nat), Decidable.decide ((3 : Nat) < (List.drop (0 : Nat) (List.take (4 : Nat) v)).length) = Bool.true, (3 : Nat) < (List.drop (0 : Nat) (List.take (4 : Nat) v)).length, ((((0 : Nat) ||| (List.drop (0 : Nat) (List.take (4 : Nat) v)).getD (0 : Nat) (0 : Nat)) * (256 : Nat) ||| (List.drop (0 : Nat) (List.take (4 : Nat) v)).getD (1 : Nat) (0 : Nat)) * (256 : Nat) ||| (List.drop (0 : Nat) (List.take (4 : Nat) v)).getD (2 : Nat) (0 : Nat)) * (256 : Nat) < (9223372036854775808 : Nat), Decidable.decide ((4 : Nat) < (List.drop (0 : Nat) (List.take (4 : Nat) v)).length) = Bool.false]) (sc' := []) (by kernel_rfl) (by
        repeat' first | exact trivial | exact bne_eq_false_iff_eq.mpr hl | exact decide_eq_true (by omega) | exact decide_eq_false (by omega) | omega | (rw [ho]; rfl) | (rw [t0 0 (by omega), t0 1 (by omega), t0 2 (by omega), Nat.zero_or, o1, o2]; omega) | (rw [t0 0 (by omega), t0 1 (by omega), Nat.zero_or, o1]; omega) | (rw [t0 0 (by omega), Nat.zero_or]; omega) | refine ⟨?_, ?_⟩) ?_
      rw [t0 0 (by omega), t0 1 (by omega), t0 2 (by omega), t0 3 (by omega), Nat.zero_or, o1, o2, o3]
      exact (ck1 hg hh k p v m (be4 v) hk hp (by omega) rfl).cast rfl
    · rw [if_pos hl]
      exact hold_endw mixed (okV2a hg hh) (unroll := true) (f := 100) (sc := [false, true]) (r := (Go.Eng.SV.c Go.IntKind.i64 (4 : Int))) (ob := [(!Go.Eng.B.okK k p (↑m : Int)) = Bool.false, (v.length != (12 : Nat)) = Bool.true]) (sc' := []) (by kernel_rfl) ⟨by rw [ho]; rfl, bne_iff_ne.mpr hl, trivial⟩ (by simp [wkR, wk, wk0, wka, lim])
theorem qck1 (k p v : List Nat) (m t : Nat) (hk : k.length = 16) (hp : p.length ≤ 7) (hm : m ≤ 1073741824) (hr : res = .u .i64 (ckT g k p v (m : Int) t)) : Hold Try.prog (bodyOf Try.f64) (Fin Try.prog Try.f64 w0 S res) w0 S [.at [1,0,1,1,1,1,1], .at [1,1,1,1,1,1]] (sQk k p v m t) := by
  unfold ckT at hr
  by_cases h1 : 1073741824 < t
  · rw [hr, if_pos h1]
    exact hold_endw mixed (okV2a hg hh) (unroll := true) (f := 100) (sc := [true]) (r := (Go.Eng.SV.c Go.IntKind.i64 (4 : Int))) (ob := [Decidable.decide ((1073741824 : Nat) < t) = Bool.true]) (sc' := []) (by kernel_rfl) ⟨decide_eq_true h1, trivial⟩ (by simp [wkR, wk, wk0, wka, lim])
  · rw [if_neg h1] at hr
    obtain ⟨e1, e2⟩ := mkV_ok (g := g) hk hp (show t ≤ 1073741824 by omega)
    by_cases h2 : mkL g k p t = v
    · rw [if_neg (by simp [h2])] at hr
      by_cases h3 : m < t
      · rw [hr, if_pos (by omega)]
        exact hold_endw mixed (okV2a hg hh) (unroll := true) (f := 100) (sc := [false, false, true]) (r := (Go.Eng.SV.c Go.IntKind.i64 (39 : Int))) (ob := [Decidable.decide ((1073741824 : Nat) < t) = Bool.false, (!Decidable.decide (Go.Eng.B.mkV g k p (↑t : Int) = v)) = Bool.false, Decidable.decide (m < t) = Bool.true]) (sc' := []) (by kernel_rfl) ⟨decide_eq_false h1, by rw [e1, h2]; simp, decide_eq_true h3, trivial⟩ (by simp [wkR, wk, wk0, wka, lim])
      · by_cases h4 : 16 < (m : Int) - (t : Int)
        · rw [hr, if_pos (by omega)]
          exact hold_endw mixed (okV2a hg hh) (unroll := true) (f := 100) (sc := [false, false, false, true]) (r := (Go.Eng.SV.c Go.IntKind.i64 (39 : Int))) (ob := [Decidable.decide ((1073741824 : Nat) < t) = Bool.false, (!Decidable.decide (Go.Eng.B.mkV g k p (↑t : Int) = v)) = Bool.false, Decidable.decide (m < t) = Bool.false, Decidable.decide ((16 : Int) < (↑m : Int) - (↑t : Int)) = Bool.true]) (sc' := []) (by kernel_rfl) ⟨decide_eq_false h1, by rw [e1, h2]; simp, decide_eq_false h3, decide_eq_true h4, trivial⟩ (by simp [wkR, wk, wk0, wka, lim])
        · rw [hr, if_neg (by omega)]
          exact hold_endw mixed (okV2a hg hh) (unroll := true) (f := 100) (sc := [false, false, false, false]) (r := (Go.Eng.SV.c Go.IntKind.i64 (0 : Int))) (ob := [Decidable.decide ((1073741824 : Nat) < t) = Bool.false, (!Decidable.decide (Go.Eng.B.mkV g k p (↑t : Int) = v)) = Bool.false, Decidable.decide (m < t) = Bool.false, Decidable.decide ((16 : Int) < (↑m : Int) - (↑t : Int)) = Bool.false]) (sc' := []) (by kernel_rfl) ⟨decide_eq_false h1, by rw [e1, h2]; simp, decide_eq_false h3, decide_eq_false h4, trivial⟩ (by simp [wkR, wk, wk0, wka, lim])
    · rw [hr, if_pos h2]
      exact hold_endw mixed (okV2a hg hh) (unroll := true) (f := 100) (sc := [false, true]) (r := (Go.Eng.SV.c Go.IntKind.i64 (11 : Int))) (ob := [Decidable.decide ((1073741824 : Nat) < t) = Bool.false, (!Decidable.decide (Go.Eng.B.mkV g k p (↑t : Int) = v)) = Bool.true]) (sc' := []) (by kernel_rfl) ⟨decide_eq_false h1, by rw [e1]; simp [h2], trivial⟩ (by simp [wkR, wk, wk0, wka, lim])
theorem qcheck_c (k p v : List Nat) (n : Int) : Contract Try.prog 64 [.sl .u8 k, .sl .u8 p, .sl .u8 v, .i .i64 n] (.u .i64 (ckE g k p v n)) := by
  cases ho : okK k p n with
  | false =>
    unfold ckE; rw [if_pos ho]
    refine contract Try.func64 (body := bodyOf Try.f64) rfl (by kernel_rfl) (by kernel_rfl) rfl ?_
    intro _ w0 S
    exact hold_endw mixed (okV2a hg hh) (unroll := true) (f := 100) (sc := [true]) (r := (Go.Eng.SV.c Go.IntKind.i64 (1 : Int))) (ob := [(!Go.Eng.B.okK k p n) = Bool.true]) (sc' := []) (by kernel_rfl) ⟨by rw [ho]; rfl, trivial⟩ (by simp [wkR, wk, wk0, wka, lim])
  | true =>
    obtain ⟨hk, hp, h0, h1⟩ := okK_n ho
    obtain ⟨m, rfl⟩ : ∃ m : Nat, n = (m : Int) := ⟨n.toNat, by omega⟩
    unfold ckE; rw [if_neg (by rw [ho]; decide)]
    refine Contract.args (args' := [.sl .u8 k, .sl .u8 p, .sl .u8 v, .u .i64 m]) ⟨wk_refl _, wk_refl _, wk_refl _, by simp [wk, wk0, lim]; omega, rfl⟩ ?_
    refine contract Try.func64 (body := bodyOf Try.f64) rfl (by kernel_rfl) (by kernel_rfl) rfl ?_
    rintro ⟨_, _, ⟨_, hv⟩, _⟩ w0 S
    have hv : ∀ x ∈ v, x < 256 := hv
    by_cases hl : v.length = 12
    · rw [if_neg (by omega)]
      have g0 := getD_lt (by decide) hv 0
      have g1 := getD_lt (by decide) hv 1
      have g2 := getD_lt (by decide) hv 2
      have g3 := getD_lt (by decide) hv 3
      refine hold_cut mixed (okV2a hg hh) (unroll := true) (f := 300) (sc := [false, false]) (ks := [0,1,2,3,9,34]) (bs := []) (nx := 0) (st' := [Go.Eng.It.at [(1 : Nat), (0 : Nat), (1 : Nat), (1 : Nat), (1 : Nat), (1 : Nat), (1 : Nat)], Go.Eng.It.at [(1 : Nat), (1 : Nat), (1 : Nat), (1 : Nat), (1 : Nat), (1 : Nat)]]) (σ' := { nt := (55 : Nat), slots := [((0 : Nat), Go.Eng.SV.sl Go.IntKind.u8 k), ((1 : Nat), Go.Eng.SV.sl Go.IntKind.u8 p), ((2 : Nat), Go.Eng.SV.sl Go.IntKind.u8 v), ((3 : Nat), Go.Eng.SV.u Go.IntKind.i64 m), ((9 : Nat), Go.Eng.SV.u Go.IntKind.i64 (((((0 : Nat) + v.getD (0 : Nat) (0 : Nat)) * (256 : Nat) + v.getD (1 : Nat) (0 : Nat)) * (256 : Nat) + v.getD (2 : Nat) (0 : Nat)) * (256 : Nat) + v.getD (3 : Nat) (0 : Nat))), ((34 : Nat), Go.Eng.SV.b (Decidable.decide ((1073741824 : Nat) < ((((0 : Nat) + v.getD (0 : Nat) (0 : Nat)) * (256 : Nat) + v.getD (1 : Nat) (0 : Nat)) * (256 : Nat) + v.getD (2 : Nat) (0 : Nat)) * (256 : Nat) + v.getD (3 : Nat) (0 : Nat))))], blks := [], next := (0 : Nat) }) (ob := [(!Go.Eng.B.okK k p (↑m : Int)) = Bool.false, (v.length != (12 : Nat)) = Bool.false, (0 : Nat) < v.length, (0 : Nat) + v.getD (0 : Nat) (0 : Nat) < (9223372036854775808 : Nat), ((0 : Nat) + v.getD (0 : Nat) (0 : Nat)) * (256 : Nat) < (9223372036854775808 : Nat), (1 : Nat) < v.length, ((0 : Nat) + v.getD (0 : Nat) (0 : Nat)) * (256 : Nat) + v.getD (1 : Nat) (0 : Nat) < (9223372036854775808 : Nat), (((0 : Nat) + v.getD (0 : Nat) (0 : Nat)) * (256 : Nat) + v.getD (1 : Nat) (0 : Nat)) * (256 : Nat) < (9223372036854775808 : Nat), (2 : Nat) < v.length, (((0 : Nat) + v.getD (0 : Nat) (0 : Nat)) * (256 : Nat) + v.getD (1 : Nat) (0 : Nat)) * (256 : Nat) + v.getD (2 : Nat) (0 : Nat) < (9223372036854775808 : Nat), ((((0 : Nat) + v.getD (0 : Nat) (0 : Nat)) * (256 : Nat) + v.getD (1 : Nat) (0 : Nat)) * (256 : Nat) + v.getD (2 : Nat) (0 : Nat)) * (256 : Nat) < (9223372036854775808 : Nat), (3 : Nat) < v.length, ((((0 : Nat) + v.getD (0 : Nat) (0 : Nat)) * (256 : Nat) + v.getD (1 : Nat) (0 : Nat)) * (256 : Nat) + v.getD (2 : Nat) (0 : Nat)) * (256 : Nat) + v.getD (3 : Nat) (0 : Nat) < (9223372036854775808 : Nat)]) (sc' := []) (by kernel_rfl) (by
        repeat' first | exact trivial | exact bne_eq_false_iff_eq.mpr hl | exact decide_eq_true (by omega) | exact decide_eq_false (by omega) | omega | (rw [ho]; rfl) | refine ⟨?_, ?_⟩) ?_
      rw [Nat.zero_add]
      exact (qck1 hg hh k p v m (be4 v) hk hp (by omega) rfl).cast rfl
    · rw [if_pos hl]
      exact hold_endw mixed (okV2a hg hh) (unroll := true) (f := 100) (sc := [false, true]) (r := (Go.Eng.SV.c Go.IntKind.i64 (4 : Int))) (ob := [(!Go.Eng.B.okK k p (↑m : Int)) = Bool.false, (v.length != (12 : Nat)) = Bool.true]) (sc' := []) (by kernel_rfl) ⟨by rw [ho]; rfl, bne_iff_ne.mpr hl, trivial⟩ (by simp [wkR, wk, wk0, wka, lim])
end
theorem eCheck_ok {P : Program} {f : FuncId} {g : List Nat → List Nat} (h : ∀ (k p v : List Nat) (n : Int), Contract P f [.sl .u8 k, .sl .u8 p, .sl .u8 v, .i .i64 n] (.u .i64 (ckE g k p v n))) : ∀ args res ob, eCheck g args = some (res, ob) → All ob → Contract P f args res := by
  intro args res ob he _
  unfold eCheck at he
  split at he
  · split at he
    · rename_i hx hy hz hu
      cases he
      exact Contract.argsF (h _ _ _ _) ⟨wk_of0 (part_wk hx), wk_of0 (part_wk hy), wk_of0 (part_wk hz), int?_wk hu, rfl⟩
    · cases he
  · cases he
end Go.Eng.B

namespace Go.Eng
open Go.RowKit
def unG (o : Oper) : Oper := { o with guard := none }
def pureStepG (P : Program) (ctr : Ctr) (ops : Array Oper) (σ : St) (i : Nat) (o : Oper) (sc : List Bool) : Option (St × List Prop × List Bool) :=
  match guardOf ops σ.slots o with
  | none => none
  | some false => match putS σ o.dst (.tup []) with | some σ' => some (σ', [], sc) | none => none
  | some true => match evalR P ctr σ.blks (lookρ σ.slots) (unG o) with
      | some (.val s, ob) => if pureOp (unG o) || slicePtr σ.slots (unG o) || sliceSl σ.slots (unG o) || (numOp σ.slots (unG o) && s.rigid) then
          match resolveB (isGuard ops i) s sc with
          | some (s', ob2, sc') => match putS σ o.dst s' with | some σ' => some (σ', ob ++ ob2, sc') | none => none
          | none => none
        else none
      | _ => none
def firstPureG (P : Program) (ctr : Ctr) (ops : Array Oper) (L : Array Bool) (σ : St) (sc : List Bool) : List Nat → Option (Nat × St × List Prop × List Bool)
  | [] => none
  | i :: r => if Region.free .any ops L i then (match ops[i]? with
      | some o => match pureStepG P ctr ops σ i o sc with
        | some (σ', ob, sc') => some (i, σ', ob, sc')
        | none => firstPureG P ctr ops L σ sc r
      | none => none) else firstPureG P ctr ops L σ sc r
abbrev RA := Nat × Nat × Bool × Nat
def stRA (R : RA) : St := ⟨R.1, [(R.2.1, .cb R.2.2.1)], [], 0, R.2.2.2⟩
def endRA (d : Nat) (σ : St) : Option RA :=
  match restrict [d] [] 0 σ with
  | some ⟨nt, [(e, .cb x)], [], 0, m⟩ => some (nt, e, x, m)
  | _ => none
def tryAll (step : Nat → Option (RA × List Prop × List Bool)) : List Nat → Option (RA × List Prop × List Bool)
  | [] => none
  | [i] => step i
  | i :: r => match step i, tryAll step r with
    | some (R, ob, sc), some (R', ob', sc') => if R = R' ∧ sc = sc' then some (R, ob ++ ob', sc) else none
    | _, _ => none
def execAll (P : Program) (ctr : Ctr) (ops : Array Oper) (d : Nat) : Nat → Array Bool → St → List Bool → Option (RA × List Prop × List Bool)
  | 0, _, _, _ => none
  | f + 1, L, σ, sc => match Region.ready .any ops L with
    | [] => match endRA d σ with
      | some R => some (R, [], sc)
      | none => none
    | r => match firstPureG P ctr ops L σ sc r with
      | some (i, σ1, ob1, sc1) => match execAll P ctr ops d f (L.setIfInBounds i true) σ1 sc1 with
        | some (R, ob2, sc2) => some (R, ob1 ++ ob2, sc2)
        | none => none
      | none => tryAll (fun i => match ops[i]? with
        | some o => match stepOp P ctr ops σ i o sc with
          | some (σ1, ob1, sc1) => match execAll P ctr ops d f (L.setIfInBounds i true) σ1 sc1 with
            | some (R, ob2, sc2) => some (R, ob1 ++ ob2, sc2)
            | none => none
          | none => none
        | none => none) r
def lastDst (ops : Array Oper) : Option Nat := match ops.back? with | some o => o.dst | none => none
def drawAll (P : Program) (ctr : Ctr) (ops : Array Oper) (σ : St) (sc : List Bool) : Option (St × List Prop × List Bool) :=
  match lastDst ops with
  | some d => if Region.noSelect ops then (match execAll P ctr ops d (ops.size + 1) (Array.replicate ops.size false) σ sc with
    | some (R, ob, sc') => some (stRA R, ob, sc')
    | none => none) else none
  | none => none
section
variable {P : Program} {ctr : Ctr} {w0 : Fr} {w : World} {S : Own} {σ σ' : St} {β : Nat → Nat} {a : Act} {ops : Array Oper}
theorem firstPureG_ok : ∀ {r : List Nat} {L : Array Bool} {sc sc' : List Bool} {i : Nat} {ob : List Prop}, firstPureG P ctr ops L σ sc r = some (i, σ', ob, sc') → i ∈ r ∧ Region.free .any ops L i = true ∧ ∃ o, ops[i]? = some o ∧ pureStepG P ctr ops σ i o sc = some (σ', ob, sc') := by
  intro r
  induction r with
  | nil => intro L sc sc' i ob h; simp [firstPureG] at h
  | cons j r ih =>
    intro L sc sc' i ob h
    simp only [firstPureG] at h
    split at h
    · rename_i hf
      split at h
      · rename_i o ho
        split at h
        · rename_i hp; cases h; exact ⟨by simp, hf, o, ho, hp⟩
        · obtain ⟨h1, h2⟩ := ih h; exact ⟨List.mem_cons_of_mem _ h1, h2⟩
      · cases h
    · obtain ⟨h1, h2⟩ := ih h; exact ⟨List.mem_cons_of_mem _ h1, h2⟩
theorem pureStepG_ok {i : Nat} {o : Oper} {sc sc' : List Bool} {ob : List Prop} (h : pureStepG P ctr ops σ i o sc = some (σ', ob, sc')) (hob : All ob) (hS : Sat w0 S σ β a w) :
    ∃ v, Yields P ops o v a ∧ Sat w0 S σ' β (a.put o.dst v) w := by
  unfold pureStepG at h
  split at h
  · cases h
  · rename_i hg
    split at h
    · rename_i σ1 hput
      cases h
      exact ⟨undef, .inr ⟨guard_ok hS.slot hg, rfl⟩, hS.put hput ⟨[], rfl, rfl⟩⟩
    · cases h
  · rename_i hg
    split at h
    · rename_i s ob1 hev
      split at h
      · rename_i hp
        split at h
        · rename_i s' ob2 sc1 hres
          split at h
          · rename_i σ1 hput
            cases h
            obtain ⟨ho1, ho2⟩ := All.append.1 hob
            have key : ∃ v, (∀ w', (execOp a.eval o).run P w' = .ok (.value v) w') ∧ relV β (owS S σ.blks β) w s v := by
              simp only [Bool.or_eq_true, Bool.and_eq_true] at hp
              rcases hp with ((hp | hp) | hp) | hp
              · exact pureR_yields (fun y s hy => hS.look hy) hp hev
              · exact slice_yields (fun y s hy => hS.look hy) hp hev
              · exact sliceSl_yields (fun y s hy => hS.look hy) hp hev ho1
              · exact num_yields (fun y s hy => hS.look hy) hp.1 hp.2 hev ho1
            obtain ⟨v, h1, h2⟩ := key
            exact ⟨v, .inl ⟨guard_ok hS.slot hg, h1⟩, hS.put hput (resolveB_ok hres ho2 h2)⟩
          · cases h
        · cases h
      · cases h
    · cases h
theorem tryAll_ok {step : Nat → Option (RA × List Prop × List Bool)} : ∀ {r : List Nat} {R : RA} {ob : List Prop} {sc : List Bool}, tryAll step r = some (R, ob, sc) → All ob → ∀ i ∈ r, ∃ ob' sc', step i = some (R, ob', sc') ∧ All ob' := by
  intro r
  induction r with
  | nil => intro R ob sc h; simp [tryAll] at h
  | cons i r ih =>
    intro R ob sc h hob j hj
    cases r with
    | nil =>
      simp only [tryAll] at h
      simp only [List.mem_singleton] at hj
      subst hj
      exact ⟨ob, sc, h, hob⟩
    | cons k r =>
      simp only [tryAll] at h
      split at h
      · rename_i R1 ob1 sc1 R2 ob2 sc2 h1 h2
        split at h
        · rename_i he
          obtain ⟨rfl, rfl⟩ := he
          cases h
          obtain ⟨ho1, ho2⟩ := All.append.1 hob
          rcases List.mem_cons.1 hj with rfl | hj
          · exact ⟨_, _, h1, ho1⟩
          · exact ih h2 ho2 j hj
        · cases h
      · cases h
theorem endRA_ok {d : Nat} {R : RA} (h : endRA d σ = some R) (hS : Sat w0 S σ β a w) : Sat w0 S (stRA R) β a w := by
  unfold endRA at h
  split at h
  · rename_i nt e x m hr
    cases h
    exact hS.restrict hr
  · cases h
theorem execAll_ok (hctr : CtrOk P ctr) (hs : Region.noSelect ops = true) {d : Nat} {Q : Exit → Act → World → Prop} (hQ : ∀ c a w, ¬ Q (.panic c) a w) : ∀ {f : Nat} {L : Array Bool} {σ : St} {R : RA} {sc sc' : List Bool} {ob : List Prop} {β : Nat → Nat} {a : Act} {w : World},
    execAll P ctr ops d f L σ sc = some (R, ob, sc') → All ob → Sat w0 S σ β a w → (∀ β' a' w', Sat w0 S (stRA R) β' a' w' → Q .normal a' w') → ∀ {g : Nat}, left L ≤ g → L.size = ops.size → wpAny P .any ops Q g L a w := by
  intro f
  induction f with
  | zero => intro L σ R sc sc' ob β a w h; simp [execAll] at h
  | succ f ih =>
    intro L σ R sc sc' ob β a w h hob hS hk g hl hsz
    simp only [execAll] at h
    split at h
    · rename_i hr
      split at h
      · rename_i R1 he
        cases h
        exact wpAny_done hr (hk β a w (endRA_ok he hS)) g
      · cases h
    · rename_i hr0
      have hstep : ∀ i, i ∈ Region.ready .any ops L → left L = left (L.setIfInBounds i true) + 1 := fun i hi => by
        obtain ⟨h1, o, ho, _⟩ := mem_ready.1 hi
        exact left_set (by rw [hsz]; exact (Array.getElem?_eq_some_iff.1 ho).1) h1
      have hpos : 0 < g := by
        cases hr : Region.ready .any ops L with
        | nil => exact absurd hr hr0
        | cons j t => have := hstep j (by rw [hr]; simp); omega
      obtain ⟨g, rfl⟩ : ∃ g', g = g' + 1 := ⟨g - 1, by omega⟩
      split at h
      · rename_i i σ1 ob1 sc1 hp
        split at h
        · rename_i R2 ob2 sc2 hx
          cases h
          obtain ⟨ho1, ho2⟩ := All.append.1 hob
          obtain ⟨hm, hf, o, ho, hst⟩ := firstPureG_ok hp
          obtain ⟨v, hy, hS1⟩ := pureStepG_ok hst ho1 hS
          refine wpAny_take ho hs hf (by simpa using hm) (fun c a w h => absurd h (hQ c _ w)) hy ?_
          exact ih hx ho2 hS1 hk (by have := hstep i hm; omega) (by simpa using hsz)
        · cases h
      · refine wpAny_all rfl hr0 ?_
        intro j hj
        obtain ⟨ob', sc2, h1, h2⟩ := tryAll_ok h hob j hj
        split at h1
        · rename_i o ho
          split at h1
          · rename_i σ1 ob1 sc1 hst
            split at h1
            · rename_i R2 ob2 sc3 hx
              cases h1
              obtain ⟨ho1, ho2⟩ := All.append.1 h2
              refine stepOp_ok hctr hst ho1 ho hS fun β' a' w' hS' => ?_
              exact ih hx ho2 hS' hk (by have := hstep j hj; omega) (by simpa using hsz)
            · cases h1
          · cases h1
        · cases h1
theorem drawAll_ok (hm : P.follows .mixedOrders = true) (hctr : CtrOk P ctr) {id : Nat} {sc sc' : List Bool} {ob : List Prop} (h : drawAll P ctr ops σ sc = some (σ', ob, sc')) (hob : All ob) (hS : Sat w0 S σ β a w)
    {Q : Exit → Act → World → Prop} (hQ : ∀ c a w, ¬ Q (.panic c) a w) (hk : ∀ β' a' w', Sat w0 S σ' β' a' w' → Q .normal a' w') : (Code.region id ops true).wp P Q a w := by
  unfold drawAll at h
  split at h
  · split at h
    · rename_i hs
      split at h
      · rename_i R ob1 sc1 hx
        cases h
        refine wp_region_any hm ?_
        have hxt : Ext w { w with drawn := w.drawn + 1 } := ⟨rfl, rfl, rfl, Nat.le_refl _, fun _ _ => rfl⟩
        refine execAll_ok hctr hs hQ hx hob (hS.extend hxt) hk ?_ (by simp)
        simp [left, List.countP_replicate]
      · cases h
    · cases h
  · cases h
end
end Go.Eng

