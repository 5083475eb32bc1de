import Derived.Test.YtedccmojbmlkcaaE11
set_option linter.unusedVariables false
set_option linter.unusedSimpArgs false
set_option linter.unusedSectionVars false
namespace Go.Eng.B
def xorL (m : Nat) (l : List Nat) : List Nat := l.map fun x => x ^^^ m
def kk (g : List Nat → List Nat) (key : List Nat) : List Nat := if 64 < key.length then g key else key
def zf (k : List Nat) : List Nat := k ++ List.replicate (64 - k.length) 0
def k64 (g : List Nat → List Nat) (key : List Nat) : List Nat := zf (kk g key)
def hm (g : List Nat → List Nat) (key b : List Nat) : List Nat := g (xorL 92 (k64 g key) ++ g (xorL 54 (k64 g key) ++ b))
def tE (g : List Nat → List Nat) (prk info : List Nat) : Nat → List Nat
  | 0 => []
  | i + 1 => hm g prk (tE g prk info i ++ info ++ [(i + 1) % 256])
def oE (g : List Nat → List Nat) (prk info : List Nat) : Nat → List Nat
  | 0 => []
  | i + 1 => oE g prk info i ++ tE g prk info (i + 1)
def okE (n : Int) : Bool := decide (0 ≤ n) && decide (n ≤ 8160)
def nE (n : Int) : Nat := (n.toNat + 31) / 32
def expE (g : List Nat → List Nat) (prk info : List Nat) (n : Int) : List Nat := if okE n = true then (oE g prk info (nE n)).take n.toNat else []
theorem xorL_len (m : Nat) (l : List Nat) : (xorL m l).length = l.length := by simp [xorL]
theorem xorL_nil (m : Nat) : xorL m [] = [] := rfl
theorem xorL_snoc (m x : Nat) (l : List Nat) : xorL m (l ++ [x]) = xorL m l ++ [x ^^^ m] := by simp [xorL]
theorem xorL_take (m : Nat) (l : List Nat) (i : Nat) (h : i < l.length) : xorL m (l.take (i + 1)) = xorL m (l.take i) ++ [l.getD i 0 ^^^ m] := by
  rw [← xorL_snoc]; congr 1
  rw [List.take_add_one, List.getD_eq_getElem?_getD, List.getElem?_eq_getElem h]; rfl
theorem mix_get (m : Nat) (l : List Nat) (i : Nat) (h : i < l.length) : (xorL m (l.take i) ++ l.drop i).getD i 0 = l.getD i 0 := by
  rw [List.getD_eq_getElem?_getD, List.getElem?_append_right (by simp [xorL]; omega)]
  simp only [xorL_len, List.length_take, List.getElem?_drop, List.getD_eq_getElem?_getD]
  congr 2; omega
theorem mix_set (m : Nat) (l : List Nat) (i : Nat) (h : i < l.length) : (xorL m (l.take i) ++ l.drop i).set i (l.getD i 0 ^^^ m) = xorL m (l.take (i + 1)) ++ l.drop (i + 1) := by
  rw [xorL_take m l i h]
  rw [List.set_append_right _ _ (by simp [xorL]; omega)]
  rw [xorL_len, List.length_take, show i - min i l.length = 0 by omega, List.append_assoc]
  congr 1
  rw [List.drop_eq_getElem_cons h]; rfl
theorem kk_len {g : List Nat → List Nat} (hg : ∀ b, (g b).length = 32) (key : List Nat) : (kk g key).length ≤ 64 := by
  unfold kk; split
  · rw [hg]; omega
  · omega
theorem zf_len {k : List Nat} (h : k.length ≤ 64) : (zf k).length = 64 := by simp [zf]; omega
theorem k64_len {g : List Nat → List Nat} (hg : ∀ b, (g b).length = 32) (key : List Nat) : (k64 g key).length = 64 := zf_len (kk_len hg key)
theorem hm_len {g : List Nat → List Nat} (hg : ∀ b, (g b).length = 32) (key b : List Nat) : (hm g key b).length = 32 := hg _
theorem tE_len {g : List Nat → List Nat} (hg : ∀ b, (g b).length = 32) (prk info : List Nat) (i : Nat) : (tE g prk info (i + 1)).length = 32 := hg _
theorem oE_len {g : List Nat → List Nat} (hg : ∀ b, (g b).length = 32) (prk info : List Nat) : ∀ i, (oE g prk info i).length = 32 * i := by
  intro i
  induction i with
  | zero => rfl
  | succ i ih => simp only [oE, List.length_append, ih, tE_len hg]; omega
theorem expE_len {g : List Nat → List Nat} (hg : ∀ b, (g b).length = 32) (prk info : List Nat) {n : Int} (h : okE n = true) : (expE g prk info n).length = n.toNat := by
  unfold expE; rw [if_pos h, List.length_take, oE_len hg]; unfold nE; omega
theorem oE_pre (g : List Nat → List Nat) (prk info : List Nat) : ∀ {i j : Nat}, i ≤ j → ∃ r, oE g prk info j = oE g prk info i ++ r := by
  intro i j h
  induction j with
  | zero => exact ⟨[], by rw [show i = 0 by omega]; simp⟩
  | succ j ih =>
    rcases Nat.eq_or_lt_of_le h with e | h
    · subst e; exact ⟨[], by simp⟩
    · obtain ⟨r, hr⟩ := ih (by omega)
      exact ⟨r ++ tE g prk info (j + 1), by simp only [oE, hr, List.append_assoc]⟩
theorem zf_zero {k : List Nat} (h : k.length < 64) : zf (k ++ [0]) = zf k := by
  unfold zf
  rw [List.append_assoc]
  congr 1
  rw [List.length_append, List.length_singleton, show 64 - k.length = 64 - (k.length + 1) + 1 by omega, List.replicate_succ]
  rfl
theorem k64_zero {g : List Nat → List Nat} {k : List Nat} (h : k.length < 64) : k64 g (k ++ [0]) = k64 g k := by
  unfold k64 kk
  rw [if_neg (by simp; omega), if_neg (by omega), zf_zero h]
theorem hm_key {g : List Nat → List Nat} {k k' : List Nat} (h : k64 g k' = k64 g k) (b : List Nat) : hm g k' b = hm g k b := by unfold hm; rw [h]
theorem tE_key {g : List Nat → List Nat} {k k' : List Nat} (h : k64 g k' = k64 g k) (info : List Nat) : ∀ i, tE g k' info i = tE g k info i := by
  intro i
  induction i with
  | zero => rfl
  | succ i ih => simp only [tE, ih, hm_key h]
theorem oE_key {g : List Nat → List Nat} {k k' : List Nat} (h : k64 g k' = k64 g k) (info : List Nat) : ∀ i, oE g k' info i = oE g k info i := by
  intro i
  induction i with
  | zero => rfl
  | succ i ih => simp only [oE, ih, tE_key h]
theorem expE_key {g : List Nat → List Nat} {k k' : List Nat} (h : k64 g k' = k64 g k) (info : List Nat) (n : Int) : expE g k' info n = expE g k info n := by unfold expE; rw [oE_key h]
theorem expE_pre {g : List Nat → List Nat} (hg : ∀ b, (g b).length = 32) (prk info : List Nat) {n m : Nat} (h : n + m ≤ 8160) : (expE g prk info ((n : Int) + m)).take n = expE g prk info n := by
  unfold expE
  rw [if_pos (by simp [okE]; omega), if_pos (by simp [okE]; omega)]
  obtain ⟨r, hr⟩ := oE_pre g prk info (show nE (n : Int) ≤ nE ((n : Int) + m) by unfold nE; omega)
  rw [List.take_take, hr, List.take_append_of_le_length (by rw [oE_len hg]; unfold nE; omega)]
  congr 1
  omega
end Go.Eng.B

namespace Go.Eng.B
open Go Go.Eng Go.Proofs
set_option maxRecDepth 100000
def part? : SV → Option (List Nat)
  | .sl .u8 l => some l
  | .nil => some []
  | _ => none
def eJoin (args : List SV) : Option (SV × List Prop) :=
  match args with
  | [.slv 1 [x]] => match part? x with
    | some a => some (.sl .u8 a, [a.length ≤ 100000000])
    | _ => none
  | [.slv 1 [x, y]] => match part? x, part? y with
    | some a, some b => some (.sl .u8 (a ++ b), [a.length + b.length ≤ 100000000])
    | _, _ => none
  | [.slv 1 [x, y, z]] => match part? x, part? y, part? z with
    | some a, some b, some c => some (.sl .u8 (a ++ b ++ c), [a.length + b.length + c.length ≤ 100000000])
    | _, _, _ => none
  | [.slv 1 [x, y, z, v]] => match part? x, part? y, part? z, part? v with
    | some a, some b, some c, some d => some (.sl .u8 (a ++ b ++ c ++ d), [a.length + b.length + c.length + d.length ≤ 100000000])
    | _, _, _, _ => none
  | [.slv 1 [x, y, z, v, u]] => match part? x, part? y, part? z, part? v, part? u with
    | some a, some b, some c, some d, some e => some (.sl .u8 (a ++ b ++ c ++ d ++ e), [a.length + b.length + c.length + d.length + e.length ≤ 100000000])
    | _, _, _, _, _ => none
  | _ => none
theorem part_wk {x : SV} {a : List Nat} (h : part? x = some a) : wk0 x (.sl .u8 a) := by
  unfold part? at h
  split at h
  · cases h; exact wk0_refl _
  · cases h; rfl
  · cases h
theorem wk_of0 {s t : SV} (h : wk0 s t) : wk s t := by
  cases s <;> first | exact h | (cases t <;> first | exact h | (simp only [wk0, SV.ag.injEq] at h; subst h; exact wka_refl _) | (simp [wk0] at h))
theorem part_R {x : SV} {a : List Nat} (h : part? x = some a) {β : Nat → Nat} {ow : Own} {w : World} {v : Value} (hv : relV1 β ow w x v) : relV1 β ow w (.sl .u8 a) v := wk_ok1 (wk_of0 (part_wk h)) hv
theorem Contract.argsR {P : Program} {f : FuncId} {args args' : List SV} {r : SV} (hw : ∀ {β : Nat → Nat} {ow : Own} {w : World} {vs : List Value}, relVs β ow w args vs → relVs β ow w args' vs) (h : Contract P f args' r) : Contract P f args r :=
  fun w S vs h1 h2 => h w S vs h1 (hw h2)
theorem slv_args {P : Program} {f : FuncId} {l m : List SV} {r : SV} (hw : wka l m) (hs : ∀ s ∈ m, s.size = 1) (hl : m.length = l.length) (h : Contract P f [.slv 1 m] r) : Contract P f [.slv 1 l] r := by
  intro w S vs hlt hvs
  refine h w S vs hlt ?_
  obtain ⟨v, t, rfl, ⟨cs, hr, rfl⟩, rfl⟩ := hvs
  refine ⟨_, _, rfl, ⟨cs, ?_, rfl⟩, rfl⟩
  simp only [rel] at hr ⊢
  obtain ⟨h1, h2, v, vs, h3, h4, h5⟩ := hr
  exact ⟨hs, by rw [hl]; exact h2, v, vs, h3, by rw [hl]; exact h4, wka_rels hw h5⟩
theorem slv_argsF {P : Program} {f : FuncId} {l m : List SV} {r : SV} (h : Contract P f [.slv 1 m] r) (hw : wka l m) (hs : ∀ s ∈ m, s.size = 1) (hl : m.length = l.length) : Contract P f [.slv 1 l] r := slv_args hw hs hl h
theorem pj1_c (a : List Nat) (h : a.length ≤ 100000000) : Contract Try.prog 65 [.slv 1 [.sl .u8 a]] (.sl .u8 (a)) := by
  refine contract Try.func65 (body := bodyOf Try.f65) rfl (by kernel_rfl) (by kernel_rfl) rfl ?_
  intro _ w0 S
  exact hold_endw mixed ctr0_ok (unroll := true) (f := 300) (sc := []) (r := (Go.Eng.SV.sl Go.IntKind.u8 a)) (ob := [Go.Eng.slenD (Go.Eng.SV.sl Go.IntKind.u8 a) * (1 : Nat) ≤ (140737488355328 : Nat)]) (sc' := []) (by kernel_rfl) (by repeat' first | exact trivial | omega | (simp only [slenD, SV.slen, List.length_append, List.length_nil]; omega) | refine ⟨?_, ?_⟩) (wkR_of rfl)
theorem pj2_c (a b : List Nat) (h : a.length + b.length ≤ 100000000) : Contract Try.prog 65 [.slv 1 [.sl .u8 a, .sl .u8 b]] (.sl .u8 (a ++ b)) := by
  refine contract Try.func65 (body := bodyOf Try.f65) rfl (by kernel_rfl) (by kernel_rfl) rfl ?_
  intro _ w0 S
  exact hold_endw mixed ctr0_ok (unroll := true) (f := 300) (sc := []) (r := (Go.Eng.SV.sl Go.IntKind.u8 (a ++ b))) (ob := [Go.Eng.slenD (Go.Eng.SV.sl Go.IntKind.u8 a) * (1 : Nat) ≤ (140737488355328 : Nat), Go.Eng.slenD (Go.Eng.SV.sl Go.IntKind.u8 (a ++ b)) * (1 : Nat) ≤ (140737488355328 : Nat)]) (sc' := []) (by kernel_rfl) (by repeat' first | exact trivial | omega | (simp only [slenD, SV.slen, List.length_append, List.length_nil]; omega) | refine ⟨?_, ?_⟩) (wkR_of rfl)
theorem pj3_c (a b c : List Nat) (h : a.length + b.length + c.length ≤ 100000000) : Contract Try.prog 65 [.slv 1 [.sl .u8 a, .sl .u8 b, .sl .u8 c]] (.sl .u8 (a ++ b ++ c)) := by
  refine contract Try.func65 (body := bodyOf Try.f65) rfl (by kernel_rfl) (by kernel_rfl) rfl ?_
  intro _ w0 S
  exact hold_endw mixed ctr0_ok (unroll := true) (f := 300) (sc := []) (r := (Go.Eng.SV.sl Go.IntKind.u8 (a ++ b ++ c))) (ob := [Go.Eng.slenD (Go.Eng.SV.sl Go.IntKind.u8 a) * (1 : Nat) ≤ (140737488355328 : Nat), Go.Eng.slenD (Go.Eng.SV.sl Go.IntKind.u8 (a ++ b)) * (1 : Nat) ≤ (140737488355328 : Nat), Go.Eng.slenD (Go.Eng.SV.sl Go.IntKind.u8 (a ++ b ++ c)) * (1 : Nat) ≤ (140737488355328 : Nat)]) (sc' := []) (by kernel_rfl) (by repeat' first | exact trivial | omega | (simp only [slenD, SV.slen, List.length_append, List.length_nil]; omega) | refine ⟨?_, ?_⟩) (wkR_of rfl)
theorem pj4_c (a b c d : List Nat) (h : a.length + b.length + c.length + d.length ≤ 100000000) : Contract Try.prog 65 [.slv 1 [.sl .u8 a, .sl .u8 b, .sl .u8 c, .sl .u8 d]] (.sl .u8 (a ++ b ++ c ++ d)) := by
  refine contract Try.func65 (body := bodyOf Try.f65) rfl (by kernel_rfl) (by kernel_rfl) rfl ?_
  intro _ w0 S
  exact hold_endw mixed ctr0_ok (unroll := true) (f := 300) (sc := []) (r := (Go.Eng.SV.sl Go.IntKind.u8 (a ++ b ++ c ++ d))) (ob := [Go.Eng.slenD (Go.Eng.SV.sl Go.IntKind.u8 a) * (1 : Nat) ≤ (140737488355328 : Nat), Go.Eng.slenD (Go.Eng.SV.sl Go.IntKind.u8 (a ++ b)) * (1 : Nat) ≤ (140737488355328 : Nat), Go.Eng.slenD (Go.Eng.SV.sl Go.IntKind.u8 (a ++ b ++ c)) * (1 : Nat) ≤ (140737488355328 : Nat), Go.Eng.slenD (Go.Eng.SV.sl Go.IntKind.u8 (a ++ b ++ c ++ d)) * (1 : Nat) ≤ (140737488355328 : Nat)]) (sc' := []) (by kernel_rfl) (by repeat' first | exact trivial | omega | (simp only [slenD, SV.slen, List.length_append, List.length_nil]; omega) | refine ⟨?_, ?_⟩) (wkR_of rfl)
theorem pj5_c (a b c d e : List Nat) (h : a.length + b.length + c.length + d.length + e.length ≤ 100000000) : Contract Try.prog 65 [.slv 1 [.sl .u8 a, .sl .u8 b, .sl .u8 c, .sl .u8 d, .sl .u8 e]] (.sl .u8 (a ++ b ++ c ++ d ++ e)) := by
  refine contract Try.func65 (body := bodyOf Try.f65) rfl (by kernel_rfl) (by kernel_rfl) rfl ?_
  intro _ w0 S
  exact hold_endw mixed ctr0_ok (unroll := true) (f := 300) (sc := []) (r := (Go.Eng.SV.sl Go.IntKind.u8 (a ++ b ++ c ++ d ++ e))) (ob := [Go.Eng.slenD (Go.Eng.SV.sl Go.IntKind.u8 a) * (1 : Nat) ≤ (140737488355328 : Nat), Go.Eng.slenD (Go.Eng.SV.sl Go.IntKind.u8 (a ++ b)) * (1 : Nat) ≤ (140737488355328 : Nat), Go.Eng.slenD (Go.Eng.SV.sl Go.IntKind.u8 (a ++ b ++ c)) * (1 : Nat) ≤ (140737488355328 : Nat), Go.Eng.slenD (Go.Eng.SV.sl Go.IntKind.u8 (a ++ b ++ c ++ d)) * (1 : Nat) ≤ (140737488355328 : Nat), Go.Eng.slenD (Go.Eng.SV.sl Go.IntKind.u8 (a ++ b ++ c ++ d ++ e)) * (1 : Nat) ≤ (140737488355328 : Nat)]) (sc' := []) (by kernel_rfl) (by repeat' first | exact trivial | omega | (simp only [slenD, SV.slen, List.length_append, List.length_nil]; omega) | refine ⟨?_, ?_⟩) (wkR_of rfl)
theorem pj_ok : ∀ args res ob, eJoin args = some (res, ob) → All ob → Contract Try.prog 65 args res := by
  intro args res ob he hob
  unfold eJoin at he
  split at he
  · split at he
    · rename_i ha
      cases he
      exact slv_argsF (pj1_c _ hob.1) ⟨part_wk ha, rfl⟩ (by simp [SV.size]) rfl
    · cases he
  · split at he
    · rename_i ha hb
      cases he
      exact slv_argsF (pj2_c _ _ hob.1) ⟨part_wk ha, part_wk hb, rfl⟩ (by simp [SV.size]) rfl
    · cases he
  · split at he
    · rename_i ha hb hc
      cases he
      exact slv_argsF (pj3_c _ _ _ hob.1) ⟨part_wk ha, part_wk hb, part_wk hc, rfl⟩ (by simp [SV.size]) rfl
    · cases he
  · split at he
    · rename_i ha hb hc hd
      cases he
      exact slv_argsF (pj4_c _ _ _ _ hob.1) ⟨part_wk ha, part_wk hb, part_wk hc, part_wk hd, rfl⟩ (by simp [SV.size]) rfl
    · cases he
  · split at he
    · rename_i ha hb hc hd he
      cases he
      exact slv_argsF (pj5_c _ _ _ _ _ hob.1) ⟨part_wk ha, part_wk hb, part_wk hc, part_wk hd, part_wk he, rfl⟩ (by simp [SV.size]) rfl
    · cases he
  · cases he
theorem copyZ (s : List Nat) (h : s.length ≤ 64) : List.take 64 s ++ List.drop (min s.length 64) (List.replicate 64 0) = zf s := by
  rw [List.take_of_length_le h, Nat.min_eq_left h, List.drop_replicate]; rfl
def stM : List It := [.lp [0, 1, 0, 1, 1, 1, 1], .blk 0, .at [1, 1, 1, 1, 1]]
def sM (k : List Nat) (m i : Nat) : St := ⟨30, [(1, .u .u8 m), (5, .osl 0 64 1), (17, .c .i64 64), (18, .u .i64 i)], [(0, ⟨5, [.arr .u8 64 (xorL m (k.take i) ++ k.drop i)], false⟩)], 1, 0⟩
section
variable {g h : List Nat → List Nat} (hg : g = sum32) (hh : h = sum64) {w0 : World} {S : Own} {res : SV}
include hg hh
theorem masked_l (k : List Nat) (m : Nat) (hk : k.length = 64) (hr : res = .sl .u8 (xorL m k)) : ∀ d i, 64 - i = d → i ≤ 64 → Hold Try.prog (bodyOf Try.f67) (Fin Try.prog Try.f67 w0 S res) w0 S stM (sM k m i) := by
  have hl : ∀ b, (g b).length = 32 := by rw [hg]; exact sum32_len
  intro d
  induction d using Nat.strongRecOn with
  | _ d ih =>
  intro i hd hi
  refine hold_unroll (c := _) rfl ?_
  by_cases hlt : i < 64
  · have e := ih (64 - (i + 1)) (by omega) (i + 1) rfl (by omega)
    refine hold_cut mixed (okST hg hh) (unroll := false) (f := 300) (sc := [true]) (ks := [1,5,17,18]) (bs := [0]) (nx := 1) (st' := [Go.Eng.It.lp [(0 : Nat), (1 : Nat), (0 : Nat), (1 : Nat), (1 : Nat), (1 : Nat), (1 : Nat)], Go.Eng.It.blk (0 : Nat), Go.Eng.It.at [(1 : Nat), (1 : Nat), (1 : Nat), (1 : Nat), (1 : Nat)]]) (σ' := { nt := (30 : Nat), slots := [((1 : Nat), Go.Eng.SV.u Go.IntKind.u8 m), ((5 : Nat), Go.Eng.SV.osl (0 : Nat) (64 : Nat) (1 : Nat)), ((17 : Nat), Go.Eng.SV.c Go.IntKind.i64 (64 : Int)), ((18 : Nat), Go.Eng.SV.u Go.IntKind.i64 (i + (1 : Nat)))], blks := [((0 : Nat), { ty := (5 : Nat), segs := [Go.Eng.SV.arr Go.IntKind.u8 (64 : Nat) ((Go.Eng.B.xorL m (List.take i k) ++ List.drop i k).set i ((Go.Eng.B.xorL m (List.take i k) ++ List.drop i k).getD i (0 : Nat) ^^^ m))] })], next := (1 : Nat) }) (ob := [Decidable.decide (i < (64 : Nat)) = Bool.true, i < (64 : Nat), i < (64 : Nat), i < (64 : Nat), i < (64 : Nat), i + (1 : Nat) < (9223372036854775808 : Nat)]) (sc' := []) (by kernel_rfl) (by repeat' first | exact trivial | exact decide_eq_true (by omega) | exact decide_eq_false (by omega) | omega | (simp only [decide_eq_true_eq, decide_eq_false_iff_not, slenD, SV.slen, Option.getD_some, List.length_append, List.length_cons, List.length_nil, List.length_replicate, List.length_take, List.length_drop, xorL_len, k64_len hl, hl, oE_len hl]; omega) | refine ⟨?_, ?_⟩) ?_
    rw [mix_get m k i (by omega), mix_set m k i (by omega)]
    exact e
  · have e : i = 64 := by omega
    subst e
    refine hold_end mixed (okST hg hh) (unroll := false) (f := 300) (sc := [false]) (r := (Go.Eng.SV.sl Go.IntKind.u8 (Go.Eng.B.xorL m (List.take (64 : Nat) k) ++ List.drop (64 : Nat) k))) (ob := [Bool.false = Bool.false]) (sc' := []) (by kernel_rfl) (by repeat' first | exact trivial | exact decide_eq_true (by omega) | exact decide_eq_false (by omega) | omega | (simp only [decide_eq_true_eq, decide_eq_false_iff_not, slenD, SV.slen, Option.getD_some, List.length_append, List.length_cons, List.length_nil, List.length_replicate, List.length_take, List.length_drop, xorL_len, k64_len hl, hl, oE_len hl]; omega) | refine ⟨?_, ?_⟩) ?_
    rw [hr, List.take_of_length_le (by omega), List.drop_of_length_le (by omega), List.append_nil]
theorem masked_c (k : List Nat) (m : Nat) (hb : k.length ≤ 1000000) : Contract Try.prog 67 [.sl .u8 k, .u .u8 m] (.sl .u8 (xorL m (k64 g k))) := by
  have hl : ∀ b, (g b).length = 32 := by rw [hg]; exact sum32_len
  refine contract Try.func67 (body := bodyOf Try.f67) rfl (by kernel_rfl) (by kernel_rfl) rfl ?_
  intro _ w0 S
  by_cases h64 : 64 < k.length
  · refine hold_cut mixed (okST hg hh) (unroll := false) (f := 100) (sc := [true]) (ks := [1,5,17,18]) (bs := [0]) (nx := 1) (st' := [Go.Eng.It.lp [(0 : Nat), (1 : Nat), (0 : Nat), (1 : Nat), (1 : Nat), (1 : Nat), (1 : Nat)], Go.Eng.It.blk (0 : Nat), Go.Eng.It.at [(1 : Nat), (1 : Nat), (1 : Nat), (1 : Nat), (1 : Nat)]]) (σ' := { nt := (30 : Nat), slots := [((1 : Nat), Go.Eng.SV.u Go.IntKind.u8 m), ((5 : Nat), Go.Eng.SV.osl (0 : Nat) (64 : Nat) (1 : Nat)), ((17 : Nat), Go.Eng.SV.c Go.IntKind.i64 (64 : Int)), ((18 : Nat), Go.Eng.SV.c Go.IntKind.i64 (0 : Int))], blks := [((0 : Nat), { ty := (5 : Nat), segs := [Go.Eng.SV.arr Go.IntKind.u8 (64 : Nat) (List.take (64 : Nat) (g k) ++ List.drop (Min.min (g k).length (64 : Nat)) [(0 : Nat), (0 : Nat), (0 : Nat), (0 : Nat), (0 : Nat), (0 : Nat), (0 : Nat), (0 : Nat), (0 : Nat), (0 : Nat), (0 : Nat), (0 : Nat), (0 : Nat), (0 : Nat), (0 : Nat), (0 : Nat), (0 : Nat), (0 : Nat), (0 : Nat), (0 : Nat), (0 : Nat), (0 : Nat), (0 : Nat), (0 : Nat), (0 : Nat), (0 : Nat), (0 : Nat), (0 : Nat), (0 : Nat), (0 : Nat), (0 : Nat), (0 : Nat), (0 : Nat), (0 : Nat), (0 : Nat), (0 : Nat), (0 : Nat), (0 : Nat), (0 : Nat), (0 : Nat), (0 : Nat), (0 : Nat), (0 : Nat), (0 : Nat), (0 : Nat), (0 : Nat), (0 : Nat), (0 : Nat), (0 : Nat), (0 : Nat), (0 : Nat), (0 : Nat), (0 : Nat), (0 : Nat), (0 : Nat), (0 : Nat), (0 : Nat), (0 : Nat), (0 : Nat), (0 : Nat), (0 : Nat), (0 : Nat), (0 : Nat), (0 : Nat)])] })], next := (1 : Nat) }) (ob := [Decidable.decide ((64 : Nat) < k.length) = Bool.true, k.length ≤ (1000000 : Nat)]) (sc' := []) (by kernel_rfl) (by repeat' first | exact trivial | exact decide_eq_true (by omega) | exact decide_eq_false (by omega) | omega | (simp only [decide_eq_true_eq, decide_eq_false_iff_not, slenD, SV.slen, Option.getD_some, List.length_append, List.length_cons, List.length_nil, List.length_replicate, List.length_take, List.length_drop, xorL_len, k64_len hl, hl, oE_len hl]; omega) | refine ⟨?_, ?_⟩) ?_
    refine Hold.cast (σ' := ⟨30, [(1, .u .u8 m), (5, .osl 0 64 1), (17, .c .i64 64), (18, .c .i64 0)], [(0, ⟨5, [.arr .u8 64 (zf (g k))], false⟩)], 1, 0⟩) ?_ (by rw [← copyZ (g k) (by rw [hl]; omega)]; kernel_rfl)
    refine Hold.weaken (masked_l hg hh (zf (g k)) m (zf_len (by rw [hl]; omega)) ?_ _ 0 rfl (by omega)) (by simp [wks, wk, wk0, lim, sM])
    unfold k64 kk; rw [if_pos h64]
  · refine hold_cut mixed (okST hg hh) (unroll := false) (f := 100) (sc := [false]) (ks := [1,5,17,18]) (bs := [0]) (nx := 1) (st' := [Go.Eng.It.lp [(0 : Nat), (1 : Nat), (0 : Nat), (1 : Nat), (1 : Nat), (1 : Nat), (1 : Nat)], Go.Eng.It.blk (0 : Nat), Go.Eng.It.at [(1 : Nat), (1 : Nat), (1 : Nat), (1 : Nat), (1 : Nat)]]) (σ' := { nt := (30 : Nat), slots := [((1 : Nat), Go.Eng.SV.u Go.IntKind.u8 m), ((5 : Nat), Go.Eng.SV.osl (0 : Nat) (64 : Nat) (1 : Nat)), ((17 : Nat), Go.Eng.SV.c Go.IntKind.i64 (64 : Int)), ((18 : Nat), Go.Eng.SV.c Go.IntKind.i64 (0 : Int))], blks := [((0 : Nat), { ty := (5 : Nat), segs := [Go.Eng.SV.arr Go.IntKind.u8 (64 : Nat) (List.take (64 : Nat) k ++ List.drop (Min.min k.length (64 : Nat)) [(0 : Nat), (0 : Nat), (0 : Nat), (0 : Nat), (0 : Nat), (0 : Nat), (0 : Nat), (0 : Nat), (0 : Nat), (0 : Nat), (0 : Nat), (0 : Nat), (0 : Nat), (0 : Nat), (0 : Nat), (0 : Nat), (0 : Nat), (0 : Nat), (0 : Nat), (0 : Nat), (0 : Nat), (0 : Nat), (0 : Nat), (0 : Nat), (0 : Nat), (0 : Nat), (0 : Nat), (0 : Nat), (0 : Nat), (0 : Nat), (0 : Nat), (0 : Nat), (0 : Nat), (0 : Nat), (0 : Nat), (0 : Nat), (0 : Nat), (0 : Nat), (0 : Nat), (0 : Nat), (0 : Nat), (0 : Nat), (0 : Nat), (0 : Nat), (0 : Nat), (0 : Nat), (0 : Nat), (0 : Nat), (0 : Nat), (0 : Nat), (0 : Nat), (0 : Nat), (0 : Nat), (0 : Nat), (0 : Nat), (0 : Nat), (0 : Nat), (0 : Nat), (0 : Nat), (0 : Nat), (0 : Nat), (0 : Nat), (0 : Nat), (0 : Nat)])] })], next := (1 : Nat) }) (ob := [Decidable.decide ((64 : Nat) < k.length) = Bool.false]) (sc' := []) (by kernel_rfl) (by repeat' first | exact trivial | exact decide_eq_true (by omega) | exact decide_eq_false (by omega) | omega | (simp only [decide_eq_true_eq, decide_eq_false_iff_not, slenD, SV.slen, Option.getD_some, List.length_append, List.length_cons, List.length_nil, List.length_replicate, List.length_take, List.length_drop, xorL_len, k64_len hl, hl, oE_len hl]; omega) | refine ⟨?_, ?_⟩) ?_
    refine Hold.cast (σ' := ⟨30, [(1, .u .u8 m), (5, .osl 0 64 1), (17, .c .i64 64), (18, .c .i64 0)], [(0, ⟨5, [.arr .u8 64 (zf (k))], false⟩)], 1, 0⟩) ?_ (by rw [← copyZ k (by omega)]; kernel_rfl)
    refine Hold.weaken (masked_l hg hh (zf k) m (zf_len (by omega)) ?_ _ 0 rfl (by omega)) (by simp [wks, wk, wk0, lim, sM])
    unfold k64 kk; rw [if_neg h64]
def eMask (g : List Nat → List Nat) (args : List SV) : Option (SV × List Prop) :=
  match args with
  | [x, y] => match part? x, y.nat? with
    | some k, some (.u8, m) => some (.sl .u8 (xorL m (k64 g k)), [k.length ≤ 1000000])
    | _, _ => none
  | _ => none
def eHm (g : List Nat → List Nat) (args : List SV) : Option (SV × List Prop) :=
  match args with
  | [x, y] => match part? x, part? y with
    | some k, some b => some (.sl .u8 (hm g k b), [k.length ≤ 900000, b.length ≤ 900000])
    | _, _ => none
  | _ => none
noncomputable def KT1 (g h : List Nat → List Nat) : Ctr := addC 67 (eMask g) (addC 65 eJoin (ST g h))
theorem okKT1 : CtrOk Try.prog (KT1 g h) := by
  refine addC_ok (addC_ok (okST hg hh) pj_ok) ?_
  intro args res ob he hob
  unfold eMask at he
  split at he
  · split at he
    · rename_i hx hy
      cases he
      exact Contract.argsRF (masked_c hg hh _ _ hob.1) (fun ⟨v, t, e, h1, v2, t2, e2, h2, h3⟩ => ⟨v, t, e, part_R hx h1, v2, t2, e2, nat?_wk hy h2, h3⟩)
    · cases he
  · cases he
theorem hmac_c (k b : List Nat) (hk : k.length ≤ 900000) (hb : b.length ≤ 900000) : Contract Try.prog 16 [.sl .u8 k, .sl .u8 b] (.sl .u8 (hm g k b)) := by
  have hl : ∀ b, (g b).length = 32 := by rw [hg]; exact sum32_len
  refine contract Try.func16 (body := bodyOf Try.f16) rfl (by kernel_rfl) (by kernel_rfl) rfl ?_
  intro _ w0 S
  exact hold_endw mixed (okKT1 hg hh) (unroll := true) (f := 100) (sc := []) (r := (Go.Eng.SV.sl Go.IntKind.u8 (g (Go.Eng.B.xorL (92 : Nat) (Go.Eng.B.k64 g k) ++ g (Go.Eng.B.xorL (54 : Nat) (Go.Eng.B.k64 g k) ++ b))))) (ob := [k.length ≤ (1000000 : Nat), k.length ≤ (1000000 : Nat), (Go.Eng.B.xorL (54 : Nat) (Go.Eng.B.k64 g k)).length + b.length ≤ (100000000 : Nat), (Go.Eng.B.xorL (54 : Nat) (Go.Eng.B.k64 g k) ++ b).length ≤ (1000000 : Nat), (Go.Eng.B.xorL (92 : Nat) (Go.Eng.B.k64 g k)).length + (g (Go.Eng.B.xorL (54 : Nat) (Go.Eng.B.k64 g k) ++ b)).length ≤ (100000000 : Nat), (Go.Eng.B.xorL (92 : Nat) (Go.Eng.B.k64 g k) ++ g (Go.Eng.B.xorL (54 : Nat) (Go.Eng.B.k64 g k) ++ b)).length ≤ (1000000 : Nat)]) (sc' := []) (by kernel_rfl) (by repeat' first | exact trivial | exact decide_eq_true (by omega) | exact decide_eq_false (by omega) | omega | (simp only [decide_eq_true_eq, decide_eq_false_iff_not, slenD, SV.slen, Option.getD_some, List.length_append, List.length_cons, List.length_nil, List.length_replicate, List.length_take, List.length_drop, xorL_len, k64_len hl, hl, oE_len hl]; omega) | refine ⟨?_, ?_⟩) (wkR_of rfl)
end
theorem eHm_ok {P : Program} {f : FuncId} {g : List Nat → List Nat} (h : ∀ k b : List Nat, k.length ≤ 900000 → b.length ≤ 900000 → Contract P f [.sl .u8 k, .sl .u8 b] (.sl .u8 (hm g k b))) : ∀ args res ob, eHm g args = some (res, ob) → All ob → Contract P f args res := by
  intro args res ob he hob
  unfold eHm at he
  split at he
  · split at he
    · rename_i hx hy
      cases he
      exact Contract.argsF (h _ _ hob.1 hob.2.1) ⟨wk_of0 (part_wk hx), wk_of0 (part_wk hy), rfl⟩
    · cases he
  · cases he
end Go.Eng.B

namespace Go.Eng.B
open Go Go.Eng Go.Proofs
set_option maxRecDepth 100000
theorem qj1_c (a : List Nat) (h : a.length ≤ 100000000) : Contract Try.prog 106 [.slv 1 [.sl .u8 a]] (.sl .u8 (a)) := by
  refine contract Try.func106 (body := bodyOf Try.f106) rfl (by kernel_rfl) (by kernel_rfl) rfl ?_
  intro _ w0 S
  exact hold_endw mixed ctr0_ok (unroll := true) (f := 300) (sc := []) (r := (Go.Eng.SV.sl Go.IntKind.u8 a)) (ob := [Go.Eng.slenD (Go.Eng.SV.sl Go.IntKind.u8 a) * (1 : Nat) ≤ (140737488355328 : Nat)]) (sc' := []) (by kernel_rfl) (by repeat' first | exact trivial | omega | (simp only [slenD, SV.slen, List.length_append, List.length_nil]; omega) | refine ⟨?_, ?_⟩) (wkR_of rfl)
theorem qj2_c (a b : List Nat) (h : a.length + b.length ≤ 100000000) : Contract Try.prog 106 [.slv 1 [.sl .u8 a, .sl .u8 b]] (.sl .u8 (a ++ b)) := by
  refine contract Try.func106 (body := bodyOf Try.f106) rfl (by kernel_rfl) (by kernel_rfl) rfl ?_
  intro _ w0 S
  exact hold_endw mixed ctr0_ok (unroll := true) (f := 300) (sc := []) (r := (Go.Eng.SV.sl Go.IntKind.u8 (a ++ b))) (ob := [Go.Eng.slenD (Go.Eng.SV.sl Go.IntKind.u8 a) * (1 : Nat) ≤ (140737488355328 : Nat), Go.Eng.slenD (Go.Eng.SV.sl Go.IntKind.u8 (a ++ b)) * (1 : Nat) ≤ (140737488355328 : Nat)]) (sc' := []) (by kernel_rfl) (by repeat' first | exact trivial | omega | (simp only [slenD, SV.slen, List.length_append, List.length_nil]; omega) | refine ⟨?_, ?_⟩) (wkR_of rfl)
theorem qj3_c (a b c : List Nat) (h : a.length + b.length + c.length ≤ 100000000) : Contract Try.prog 106 [.slv 1 [.sl .u8 a, .sl .u8 b, .sl .u8 c]] (.sl .u8 (a ++ b ++ c)) := by
  refine contract Try.func106 (body := bodyOf Try.f106) rfl (by kernel_rfl) (by kernel_rfl) rfl ?_
  intro _ w0 S
  exact hold_endw mixed ctr0_ok (unroll := true) (f := 300) (sc := []) (r := (Go.Eng.SV.sl Go.IntKind.u8 (a ++ b ++ c))) (ob := [Go.Eng.slenD (Go.Eng.SV.sl Go.IntKind.u8 a) * (1 : Nat) ≤ (140737488355328 : Nat), Go.Eng.slenD (Go.Eng.SV.sl Go.IntKind.u8 (a ++ b)) * (1 : Nat) ≤ (140737488355328 : Nat), Go.Eng.slenD (Go.Eng.SV.sl Go.IntKind.u8 (a ++ b ++ c)) * (1 : Nat) ≤ (140737488355328 : Nat)]) (sc' := []) (by kernel_rfl) (by repeat' first | exact trivial | omega | (simp only [slenD, SV.slen, List.length_append, List.length_nil]; omega) | refine ⟨?_, ?_⟩) (wkR_of rfl)
theorem qj4_c (a b c d : List Nat) (h : a.length + b.length + c.length + d.length ≤ 100000000) : Contract Try.prog 106 [.slv 1 [.sl .u8 a, .sl .u8 b, .sl .u8 c, .sl .u8 d]] (.sl .u8 (a ++ b ++ c ++ d)) := by
  refine contract Try.func106 (body := bodyOf Try.f106) rfl (by kernel_rfl) (by kernel_rfl) rfl ?_
  intro _ w0 S
  exact hold_endw mixed ctr0_ok (unroll := true) (f := 300) (sc := []) (r := (Go.Eng.SV.sl Go.IntKind.u8 (a ++ b ++ c ++ d))) (ob := [Go.Eng.slenD (Go.Eng.SV.sl Go.IntKind.u8 a) * (1 : Nat) ≤ (140737488355328 : Nat), Go.Eng.slenD (Go.Eng.SV.sl Go.IntKind.u8 (a ++ b)) * (1 : Nat) ≤ (140737488355328 : Nat), Go.Eng.slenD (Go.Eng.SV.sl Go.IntKind.u8 (a ++ b ++ c)) * (1 : Nat) ≤ (140737488355328 : Nat), Go.Eng.slenD (Go.Eng.SV.sl Go.IntKind.u8 (a ++ b ++ c ++ d)) * (1 : Nat) ≤ (140737488355328 : Nat)]) (sc' := []) (by kernel_rfl) (by repeat' first | exact trivial | omega | (simp only [slenD, SV.slen, List.length_append, List.length_nil]; omega) | refine ⟨?_, ?_⟩) (wkR_of rfl)
theorem qj5_c (a b c d e : List Nat) (h : a.length + b.length + c.length + d.length + e.length ≤ 100000000) : Contract Try.prog 106 [.slv 1 [.sl .u8 a, .sl .u8 b, .sl .u8 c, .sl .u8 d, .sl .u8 e]] (.sl .u8 (a ++ b ++ c ++ d ++ e)) := by
  refine contract Try.func106 (body := bodyOf Try.f106) rfl (by kernel_rfl) (by kernel_rfl) rfl ?_
  intro _ w0 S
  exact hold_endw mixed ctr0_ok (unroll := true) (f := 300) (sc := []) (r := (Go.Eng.SV.sl Go.IntKind.u8 (a ++ b ++ c ++ d ++ e))) (ob := [Go.Eng.slenD (Go.Eng.SV.sl Go.IntKind.u8 a) * (1 : Nat) ≤ (140737488355328 : Nat), Go.Eng.slenD (Go.Eng.SV.sl Go.IntKind.u8 (a ++ b)) * (1 : Nat) ≤ (140737488355328 : Nat), Go.Eng.slenD (Go.Eng.SV.sl Go.IntKind.u8 (a ++ b ++ c)) * (1 : Nat) ≤ (140737488355328 : Nat), Go.Eng.slenD (Go.Eng.SV.sl Go.IntKind.u8 (a ++ b ++ c ++ d)) * (1 : Nat) ≤ (140737488355328 : Nat), Go.Eng.slenD (Go.Eng.SV.sl Go.IntKind.u8 (a ++ b ++ c ++ d ++ e)) * (1 : Nat) ≤ (140737488355328 : Nat)]) (sc' := []) (by kernel_rfl) (by repeat' first | exact trivial | omega | (simp only [slenD, SV.slen, List.length_append, List.length_nil]; omega) | refine ⟨?_, ?_⟩) (wkR_of rfl)
theorem qj_ok : ∀ args res ob, eJoin args = some (res, ob) → All ob → Contract Try.prog 106 args res := by
  intro args res ob he hob
  unfold eJoin at he
  split at he
  · split at he
    · rename_i ha
      cases he
      exact slv_argsF (qj1_c _ hob.1) ⟨part_wk ha, rfl⟩ (by simp [SV.size]) rfl
    · cases he
  · split at he
    · rename_i ha hb
      cases he
      exact slv_argsF (qj2_c _ _ hob.1) ⟨part_wk ha, part_wk hb, rfl⟩ (by simp [SV.size]) rfl
    · cases he
  · split at he
    · rename_i ha hb hc
      cases he
      exact slv_argsF (qj3_c _ _ _ hob.1) ⟨part_wk ha, part_wk hb, part_wk hc, rfl⟩ (by simp [SV.size]) rfl
    · cases he
  · split at he
    · rename_i ha hb hc hd
      cases he
      exact slv_argsF (qj4_c _ _ _ _ hob.1) ⟨part_wk ha, part_wk hb, part_wk hc, part_wk hd, rfl⟩ (by simp [SV.size]) rfl
    · cases he
  · split at he
    · rename_i ha hb hc hd he
      cases he
      exact slv_argsF (qj5_c _ _ _ _ _ hob.1) ⟨part_wk ha, part_wk hb, part_wk hc, part_wk hd, part_wk he, rfl⟩ (by simp [SV.size]) rfl
    · cases he
  · cases he
def sn : List It := [.lp [0, 0, 1, 1, 1], .blk 0, .at [1, 1, 1, 1]]
def sn2 : List It := [.lp [0, 1, 0, 1, 1, 1, 1, 1], .blk 2, .at [1, 1, 1, 1, 1, 1]]
def sH0 (b K : List Nat) (j : Nat) : St := ⟨47, [(1, .sl .u8 b), (5, .row 0 (.sl .u8 (K ++ List.replicate j 0)))], [(0, bY)], 3, 0⟩
def sI0 (b K : List Nat) (i : Nat) : St := ⟨47, [(1, .sl .u8 b), (6, .row 3 (.sl .u8 (xorL 54 (K.take i)))), (7, .row 6 (.sl .u8 (xorL 92 (K.take i)))), (23, .row 0 (.sl .u8 K)), (24, .u .i64 K.length), (25, .u .i64 i)], [(0, bY), (3, bY), (6, bY)], 9, 0⟩
def sH3 (b K : List Nat) (j : Nat) : St := ⟨47, [(1, .sl .u8 b), (5, .row 3 (.sl .u8 (K ++ List.replicate j 0)))], [(3, bY)], 6, 0⟩
def sI3 (b K : List Nat) (i : Nat) : St := ⟨47, [(1, .sl .u8 b), (6, .row 6 (.sl .u8 (xorL 54 (K.take i)))), (7, .row 9 (.sl .u8 (xorL 92 (K.take i)))), (23, .row 3 (.sl .u8 K)), (24, .u .i64 K.length), (25, .u .i64 i)], [(3, bY), (6, bY), (9, bY)], 12, 0⟩
section
variable {g h : List Nat → List Nat} (hg : g = sum32) (hh : h = sum64) {w0 : World} {S : Own} {res : SV}
theorem rep_succ (K : List Nat) (j : Nat) : K ++ List.replicate j 0 ++ [0] = K ++ List.replicate (j + 1) 0 := by
  rw [List.append_assoc, List.replicate_succ']
include hg hh
theorem qI0 (b K : List Nat) (hK : K.length = 64) (hb : b.length ≤ 900000) (hr : res = .sl .u8 (g (xorL 92 K ++ g (xorL 54 K ++ b)))) : ∀ d i, 64 - i = d → i ≤ 64 → Hold Try.prog (bodyOf Try.f97) (Fin Try.prog Try.f97 w0 S res) w0 S sn2 (sI0 b K i) := by
  have hl : ∀ b, (g b).length = 32 := by rw [hg]; exact sum32_len
  intro d
  induction d using Nat.strongRecOn with
  | _ d ih =>
  intro i hd hi
  refine hold_unroll (c := _) rfl ?_
  by_cases hlt : i < 64
  · have e := ih (64 - (i + 1)) (by omega) (i + 1) rfl (by omega)
    have e1 := xorL_take 54 K i (by omega)
    have e2 := xorL_take 92 K i (by omega)
    refine hold_cut mixed (okSR hg hh) (unroll := false) (f := 300) (sc := [true]) (ks := [1,6,7,23,24,25]) (bs := [0,3,6]) (nx := 9) (st' := [Go.Eng.It.lp [(0 : Nat), (1 : Nat), (0 : Nat), (1 : Nat), (1 : Nat), (1 : Nat), (1 : Nat), (1 : Nat)], Go.Eng.It.blk (2 : Nat), Go.Eng.It.at [(1 : Nat), (1 : Nat), (1 : Nat), (1 : Nat), (1 : Nat), (1 : Nat)]]) (σ' := { nt := (47 : Nat), slots := [((1 : Nat), Go.Eng.SV.sl Go.IntKind.u8 b), ((6 : Nat), Go.Eng.SV.row (3 : Nat) (Go.Eng.SV.sl Go.IntKind.u8 (Go.Eng.B.xorL (54 : Nat) (List.take i K) ++ [K.getD i (0 : Nat) ^^^ (54 : Nat)]))), ((7 : Nat), Go.Eng.SV.row (6 : Nat) (Go.Eng.SV.sl Go.IntKind.u8 (Go.Eng.B.xorL (92 : Nat) (List.take i K) ++ [K.getD i (0 : Nat) ^^^ (92 : Nat)]))), ((23 : Nat), Go.Eng.SV.row (0 : Nat) (Go.Eng.SV.sl Go.IntKind.u8 K)), ((24 : Nat), Go.Eng.SV.u Go.IntKind.i64 K.length), ((25 : Nat), Go.Eng.SV.u Go.IntKind.i64 (i + (1 : Nat)))], blks := [((0 : Nat), { ty := (5 : Nat), segs := [], row := Bool.true }), ((3 : Nat), { ty := (5 : Nat), segs := [], row := Bool.true }), ((6 : Nat), { ty := (5 : Nat), segs := [], row := Bool.true })], next := (9 : Nat) }) (ob := [Decidable.decide (i < K.length) = Bool.true, i < K.length, Go.Eng.slenD (Go.Eng.SV.sl Go.IntKind.u8 (Go.Eng.B.xorL (54 : Nat) (List.take i K) ++ [K.getD i (0 : Nat) ^^^ (54 : Nat)])) * (1 : Nat) ≤ (140737488355328 : Nat), Go.Eng.slenD (Go.Eng.SV.sl Go.IntKind.u8 (Go.Eng.B.xorL (92 : Nat) (List.take i K) ++ [K.getD i (0 : Nat) ^^^ (92 : Nat)])) * (1 : Nat) ≤ (140737488355328 : Nat), i + (1 : Nat) < (9223372036854775808 : Nat)]) (sc' := []) (by kernel_rfl) (by repeat' first | exact trivial | exact decide_eq_true (by omega) | exact decide_eq_false (by omega) | omega | (simp only [decide_eq_true_eq, decide_eq_false_iff_not, slenD, SV.slen, Option.getD_some, List.length_append, List.length_cons, List.length_nil, List.length_replicate, List.length_take, List.length_drop, xorL_len, k64_len hl, hl, oE_len hl]; omega) | refine ⟨?_, ?_⟩) ?_
    rw [← e1, ← e2]
    exact e
  · have e : i = 64 := by omega
    subst e
    refine hold_end mixed (okSR hg hh) (unroll := false) (f := 300) (sc := [false]) (r := (Go.Eng.SV.sl Go.IntKind.u8 (g (Go.Eng.B.xorL (92 : Nat) (List.take (64 : Nat) K) ++ g (Go.Eng.B.xorL (54 : Nat) (List.take (64 : Nat) K) ++ b))))) (ob := [Decidable.decide ((64 : Nat) < K.length) = Bool.false, Go.Eng.slenD (Go.Eng.SV.sl Go.IntKind.u8 (Go.Eng.B.xorL (54 : Nat) (List.take (64 : Nat) K) ++ b)) * (1 : Nat) ≤ (140737488355328 : Nat), (Go.Eng.B.xorL (54 : Nat) (List.take (64 : Nat) K) ++ b).length ≤ (1000000 : Nat), Go.Eng.slenD (Go.Eng.SV.sl Go.IntKind.u8 (Go.Eng.B.xorL (92 : Nat) (List.take (64 : Nat) K) ++ g (Go.Eng.B.xorL (54 : Nat) (List.take (64 : Nat) K) ++ b))) * (1 : Nat) ≤ (140737488355328 : Nat), (Go.Eng.B.xorL (92 : Nat) (List.take (64 : Nat) K) ++ g (Go.Eng.B.xorL (54 : Nat) (List.take (64 : Nat) K) ++ b)).length ≤ (1000000 : Nat)]) (sc' := []) (by kernel_rfl) (by repeat' first | exact trivial | exact decide_eq_true (by omega) | exact decide_eq_false (by omega) | omega | (simp only [decide_eq_true_eq, decide_eq_false_iff_not, slenD, SV.slen, Option.getD_some, List.length_append, List.length_cons, List.length_nil, List.length_replicate, List.length_take, List.length_drop, xorL_len, k64_len hl, hl, oE_len hl]; omega) | refine ⟨?_, ?_⟩) ?_
    rw [hr, List.take_of_length_le (by omega)]
theorem qH0 (b K : List Nat) (hK : K.length ≤ 64) (hb : b.length ≤ 900000) (hr : res = .sl .u8 (g (xorL 92 (zf K) ++ g (xorL 54 (zf K) ++ b)))) : ∀ d j, 64 - K.length - j = d → j ≤ 64 - K.length → Hold Try.prog (bodyOf Try.f97) (Fin Try.prog Try.f97 w0 S res) w0 S sn (sH0 b K j) := by
  have hl : ∀ b, (g b).length = 32 := by rw [hg]; exact sum32_len
  intro d
  induction d using Nat.strongRecOn with
  | _ d ih =>
  intro j hd hj
  refine hold_unroll (c := _) rfl ?_
  by_cases hlt : j < 64 - K.length
  · have e := ih (64 - K.length - (j + 1)) (by omega) (j + 1) rfl (by omega)
    refine hold_cut mixed (okSR hg hh) (unroll := false) (f := 300) (sc := [true]) (ks := [1,5]) (bs := [0]) (nx := 3) (st' := [Go.Eng.It.lp [(0 : Nat), (0 : Nat), (1 : Nat), (1 : Nat), (1 : Nat)], Go.Eng.It.blk (0 : Nat), Go.Eng.It.at [(1 : Nat), (1 : Nat), (1 : Nat), (1 : Nat)]]) (σ' := { nt := (47 : Nat), slots := [((1 : Nat), Go.Eng.SV.sl Go.IntKind.u8 b), ((5 : Nat), Go.Eng.SV.row (0 : Nat) (Go.Eng.SV.sl Go.IntKind.u8 (K ++ List.replicate j (0 : Nat) ++ [(0 : Nat)])))], blks := [((0 : Nat), { ty := (5 : Nat), segs := [], row := Bool.true })], next := (3 : Nat) }) (ob := [Decidable.decide ((K ++ List.replicate j (0 : Nat)).length < (64 : Nat)) = Bool.true, Go.Eng.slenD (Go.Eng.SV.sl Go.IntKind.u8 (K ++ List.replicate j (0 : Nat) ++ [(0 : Nat)])) * (1 : Nat) ≤ (140737488355328 : Nat)]) (sc' := []) (by kernel_rfl) (by repeat' first | exact trivial | exact decide_eq_true (by omega) | exact decide_eq_false (by omega) | omega | (simp only [decide_eq_true_eq, decide_eq_false_iff_not, slenD, SV.slen, Option.getD_some, List.length_append, List.length_cons, List.length_nil, List.length_replicate, List.length_take, List.length_drop, xorL_len, k64_len hl, hl, oE_len hl]; omega) | refine ⟨?_, ?_⟩) ?_
    rw [rep_succ]
    exact e
  · have e : K ++ List.replicate j 0 = zf K := by unfold zf; congr 2; omega
    refine hold_cut mixed (okSR hg hh) (unroll := false) (f := 300) (sc := [false]) (ks := [1,6,7,23,24,25]) (bs := [0]) (nx := 3) (st' := [Go.Eng.It.lp [(0 : Nat), (1 : Nat), (0 : Nat), (1 : Nat), (1 : Nat), (1 : Nat), (1 : Nat), (1 : Nat)], Go.Eng.It.blk (2 : Nat), Go.Eng.It.at [(1 : Nat), (1 : Nat), (1 : Nat), (1 : Nat), (1 : Nat), (1 : Nat)]]) (σ' := { nt := (47 : Nat), slots := [((1 : Nat), Go.Eng.SV.sl Go.IntKind.u8 b), ((6 : Nat), Go.Eng.SV.nil), ((7 : Nat), Go.Eng.SV.nil), ((23 : Nat), Go.Eng.SV.row (0 : Nat) (Go.Eng.SV.sl Go.IntKind.u8 (K ++ List.replicate j (0 : Nat)))), ((24 : Nat), Go.Eng.SV.u Go.IntKind.i64 (K ++ List.replicate j (0 : Nat)).length), ((25 : Nat), Go.Eng.SV.c Go.IntKind.i64 (0 : Int))], blks := [((0 : Nat), { ty := (5 : Nat), segs := [], row := Bool.true })], next := (3 : Nat) }) (ob := [Decidable.decide ((K ++ List.replicate j (0 : Nat)).length < (64 : Nat)) = Bool.false]) (sc' := []) (by kernel_rfl) (by repeat' first | exact trivial | exact decide_eq_true (by omega) | exact decide_eq_false (by omega) | omega | (simp only [decide_eq_true_eq, decide_eq_false_iff_not, slenD, SV.slen, Option.getD_some, List.length_append, List.length_cons, List.length_nil, List.length_replicate, List.length_take, List.length_drop, xorL_len, k64_len hl, hl, oE_len hl]; omega) | refine ⟨?_, ?_⟩) ?_
    rw [e]
    refine hold_nil (t := 6) (e := 5) (s0 := .sl .u8 []) rfl ?_
    refine hold_nil (t := 7) (e := 5) (s0 := .sl .u8 []) rfl ?_
    refine hold_restrict (ks := [1,6,7,23,24,25]) (bs := [0,3,6]) (nx := 9) rfl ?_
    exact Hold.weaken (qI0 hg hh b (zf K) (zf_len hK) hb hr _ 0 rfl (by omega)) (by simp [wks, wk, wk0, lim, sI0, xorL, nilRow])
theorem qI3 (b K : List Nat) (hK : K.length = 64) (hb : b.length ≤ 900000) (hr : res = .sl .u8 (g (xorL 92 K ++ g (xorL 54 K ++ b)))) : ∀ d i, 64 - i = d → i ≤ 64 → Hold Try.prog (bodyOf Try.f97) (Fin Try.prog Try.f97 w0 S res) w0 S sn2 (sI3 b K i) := by
  have hl : ∀ b, (g b).length = 32 := by rw [hg]; exact sum32_len
  intro d
  induction d using Nat.strongRecOn with
  | _ d ih =>
  intro i hd hi
  refine hold_unroll (c := _) rfl ?_
  by_cases hlt : i < 64
  · have e := ih (64 - (i + 1)) (by omega) (i + 1) rfl (by omega)
    have e1 := xorL_take 54 K i (by omega)
    have e2 := xorL_take 92 K i (by omega)
    refine hold_cut mixed (okSR hg hh) (unroll := false) (f := 300) (sc := [true]) (ks := [1,6,7,23,24,25]) (bs := [3,6,9]) (nx := 12) (st' := [Go.Eng.It.lp [(0 : Nat), (1 : Nat), (0 : Nat), (1 : Nat), (1 : Nat), (1 : Nat), (1 : Nat), (1 : Nat)], Go.Eng.It.blk (2 : Nat), Go.Eng.It.at [(1 : Nat), (1 : Nat), (1 : Nat), (1 : Nat), (1 : Nat), (1 : Nat)]]) (σ' := { nt := (47 : Nat), slots := [((1 : Nat), Go.Eng.SV.sl Go.IntKind.u8 b), ((6 : Nat), Go.Eng.SV.row (6 : Nat) (Go.Eng.SV.sl Go.IntKind.u8 (Go.Eng.B.xorL (54 : Nat) (List.take i K) ++ [K.getD i (0 : Nat) ^^^ (54 : Nat)]))), ((7 : Nat), Go.Eng.SV.row (9 : Nat) (Go.Eng.SV.sl Go.IntKind.u8 (Go.Eng.B.xorL (92 : Nat) (List.take i K) ++ [K.getD i (0 : Nat) ^^^ (92 : Nat)]))), ((23 : Nat), Go.Eng.SV.row (3 : Nat) (Go.Eng.SV.sl Go.IntKind.u8 K)), ((24 : Nat), Go.Eng.SV.u Go.IntKind.i64 K.length), ((25 : Nat), Go.Eng.SV.u Go.IntKind.i64 (i + (1 : Nat)))], blks := [((3 : Nat), { ty := (5 : Nat), segs := [], row := Bool.true }), ((6 : Nat), { ty := (5 : Nat), segs := [], row := Bool.true }), ((9 : Nat), { ty := (5 : Nat), segs := [], row := Bool.true })], next := (12 : Nat) }) (ob := [Decidable.decide (i < K.length) = Bool.true, i < K.length, Go.Eng.slenD (Go.Eng.SV.sl Go.IntKind.u8 (Go.Eng.B.xorL (54 : Nat) (List.take i K) ++ [K.getD i (0 : Nat) ^^^ (54 : Nat)])) * (1 : Nat) ≤ (140737488355328 : Nat), Go.Eng.slenD (Go.Eng.SV.sl Go.IntKind.u8 (Go.Eng.B.xorL (92 : Nat) (List.take i K) ++ [K.getD i (0 : Nat) ^^^ (92 : Nat)])) * (1 : Nat) ≤ (140737488355328 : Nat), i + (1 : Nat) < (9223372036854775808 : Nat)]) (sc' := []) (by kernel_rfl) (by repeat' first | exact trivial | exact decide_eq_true (by omega) | exact decide_eq_false (by omega) | omega | (simp only [decide_eq_true_eq, decide_eq_false_iff_not, slenD, SV.slen, Option.getD_some, List.length_append, List.length_cons, List.length_nil, List.length_replicate, List.length_take, List.length_drop, xorL_len, k64_len hl, hl, oE_len hl]; omega) | refine ⟨?_, ?_⟩) ?_
    rw [← e1, ← e2]
    exact e
  · have e : i = 64 := by omega
    subst e
    refine hold_end mixed (okSR hg hh) (unroll := false) (f := 300) (sc := [false]) (r := (Go.Eng.SV.sl Go.IntKind.u8 (g (Go.Eng.B.xorL (92 : Nat) (List.take (64 : Nat) K) ++ g (Go.Eng.B.xorL (54 : Nat) (List.take (64 : Nat) K) ++ b))))) (ob := [Decidable.decide ((64 : Nat) < K.length) = Bool.false, Go.Eng.slenD (Go.Eng.SV.sl Go.IntKind.u8 (Go.Eng.B.xorL (54 : Nat) (List.take (64 : Nat) K) ++ b)) * (1 : Nat) ≤ (140737488355328 : Nat), (Go.Eng.B.xorL (54 : Nat) (List.take (64 : Nat) K) ++ b).length ≤ (1000000 : Nat), Go.Eng.slenD (Go.Eng.SV.sl Go.IntKind.u8 (Go.Eng.B.xorL (92 : Nat) (List.take (64 : Nat) K) ++ g (Go.Eng.B.xorL (54 : Nat) (List.take (64 : Nat) K) ++ b))) * (1 : Nat) ≤ (140737488355328 : Nat), (Go.Eng.B.xorL (92 : Nat) (List.take (64 : Nat) K) ++ g (Go.Eng.B.xorL (54 : Nat) (List.take (64 : Nat) K) ++ b)).length ≤ (1000000 : Nat)]) (sc' := []) (by kernel_rfl) (by repeat' first | exact trivial | exact decide_eq_true (by omega) | exact decide_eq_false (by omega) | omega | (simp only [decide_eq_true_eq, decide_eq_false_iff_not, slenD, SV.slen, Option.getD_some, List.length_append, List.length_cons, List.length_nil, List.length_replicate, List.length_take, List.length_drop, xorL_len, k64_len hl, hl, oE_len hl]; omega) | refine ⟨?_, ?_⟩) ?_
    rw [hr, List.take_of_length_le (by omega)]
theorem qH3 (b K : List Nat) (hK : K.length ≤ 64) (hb : b.length ≤ 900000) (hr : res = .sl .u8 (g (xorL 92 (zf K) ++ g (xorL 54 (zf K) ++ b)))) : ∀ d j, 64 - K.length - j = d → j ≤ 64 - K.length → Hold Try.prog (bodyOf Try.f97) (Fin Try.prog Try.f97 w0 S res) w0 S sn (sH3 b K j) := by
  have hl : ∀ b, (g b).length = 32 := by rw [hg]; exact sum32_len
  intro d
  induction d using Nat.strongRecOn with
  | _ d ih =>
  intro j hd hj
  refine hold_unroll (c := _) rfl ?_
  by_cases hlt : j < 64 - K.length
  · have e := ih (64 - K.length - (j + 1)) (by omega) (j + 1) rfl (by omega)
    refine hold_cut mixed (okSR hg hh) (unroll := false) (f := 300) (sc := [true]) (ks := [1,5]) (bs := [3]) (nx := 6) (st' := [Go.Eng.It.lp [(0 : Nat), (0 : Nat), (1 : Nat), (1 : Nat), (1 : Nat)], Go.Eng.It.blk (0 : Nat), Go.Eng.It.at [(1 : Nat), (1 : Nat), (1 : Nat), (1 : Nat)]]) (σ' := { nt := (47 : Nat), slots := [((1 : Nat), Go.Eng.SV.sl Go.IntKind.u8 b), ((5 : Nat), Go.Eng.SV.row (3 : Nat) (Go.Eng.SV.sl Go.IntKind.u8 (K ++ List.replicate j (0 : Nat) ++ [(0 : Nat)])))], blks := [((3 : Nat), { ty := (5 : Nat), segs := [], row := Bool.true })], next := (6 : Nat) }) (ob := [Decidable.decide ((K ++ List.replicate j (0 : Nat)).length < (64 : Nat)) = Bool.true, Go.Eng.slenD (Go.Eng.SV.sl Go.IntKind.u8 (K ++ List.replicate j (0 : Nat) ++ [(0 : Nat)])) * (1 : Nat) ≤ (140737488355328 : Nat)]) (sc' := []) (by kernel_rfl) (by repeat' first | exact trivial | exact decide_eq_true (by omega) | exact decide_eq_false (by omega) | omega | (simp only [decide_eq_true_eq, decide_eq_false_iff_not, slenD, SV.slen, Option.getD_some, List.length_append, List.length_cons, List.length_nil, List.length_replicate, List.length_take, List.length_drop, xorL_len, k64_len hl, hl, oE_len hl]; omega) | refine ⟨?_, ?_⟩) ?_
    rw [rep_succ]
    exact e
  · have e : K ++ List.replicate j 0 = zf K := by unfold zf; congr 2; omega
    refine hold_cut mixed (okSR hg hh) (unroll := false) (f := 300) (sc := [false]) (ks := [1,6,7,23,24,25]) (bs := [3]) (nx := 6) (st' := [Go.Eng.It.lp [(0 : Nat), (1 : Nat), (0 : Nat), (1 : Nat), (1 : Nat), (1 : Nat), (1 : Nat), (1 : Nat)], Go.Eng.It.blk (2 : Nat), Go.Eng.It.at [(1 : Nat), (1 : Nat), (1 : Nat), (1 : Nat), (1 : Nat), (1 : Nat)]]) (σ' := { nt := (47 : Nat), slots := [((1 : Nat), Go.Eng.SV.sl Go.IntKind.u8 b), ((6 : Nat), Go.Eng.SV.nil), ((7 : Nat), Go.Eng.SV.nil), ((23 : Nat), Go.Eng.SV.row (3 : Nat) (Go.Eng.SV.sl Go.IntKind.u8 (K ++ List.replicate j (0 : Nat)))), ((24 : Nat), Go.Eng.SV.u Go.IntKind.i64 (K ++ List.replicate j (0 : Nat)).length), ((25 : Nat), Go.Eng.SV.c Go.IntKind.i64 (0 : Int))], blks := [((3 : Nat), { ty := (5 : Nat), segs := [], row := Bool.true })], next := (6 : Nat) }) (ob := [Decidable.decide ((K ++ List.replicate j (0 : Nat)).length < (64 : Nat)) = Bool.false]) (sc' := []) (by kernel_rfl) (by repeat' first | exact trivial | exact decide_eq_true (by omega) | exact decide_eq_false (by omega) | omega | (simp only [decide_eq_true_eq, decide_eq_false_iff_not, slenD, SV.slen, Option.getD_some, List.length_append, List.length_cons, List.length_nil, List.length_replicate, List.length_take, List.length_drop, xorL_len, k64_len hl, hl, oE_len hl]; omega) | refine ⟨?_, ?_⟩) ?_
    rw [e]
    refine hold_nil (t := 6) (e := 5) (s0 := .sl .u8 []) rfl ?_
    refine hold_nil (t := 7) (e := 5) (s0 := .sl .u8 []) rfl ?_
    refine hold_restrict (ks := [1,6,7,23,24,25]) (bs := [3,6,9]) (nx := 12) rfl ?_
    exact Hold.weaken (qI3 hg hh b (zf K) (zf_len hK) hb hr _ 0 rfl (by omega)) (by simp [wks, wk, wk0, lim, sI3, xorL, nilRow])
theorem qhmac_c (k b : List Nat) (hk : k.length ≤ 900000) (hb : b.length ≤ 900000) : Contract Try.prog 97 [.sl .u8 k, .sl .u8 b] (.sl .u8 (hm g k b)) := by
  have hl : ∀ b, (g b).length = 32 := by rw [hg]; exact sum32_len
  refine contract Try.func97 (body := bodyOf Try.f97) rfl (by kernel_rfl) (by kernel_rfl) rfl ?_
  intro _ w0 S
  by_cases h64 : 64 < k.length
  · refine hold_cut mixed (okSR hg hh) (unroll := false) (f := 100) (sc := [true]) (ks := [1,5]) (bs := [3]) (nx := 6) (st' := [Go.Eng.It.lp [(0 : Nat), (0 : Nat), (1 : Nat), (1 : Nat), (1 : Nat)], Go.Eng.It.blk (0 : Nat), Go.Eng.It.at [(1 : Nat), (1 : Nat), (1 : Nat), (1 : Nat)]]) (σ' := { nt := (47 : Nat), slots := [((1 : Nat), Go.Eng.SV.sl Go.IntKind.u8 b), ((5 : Nat), Go.Eng.SV.row (Go.Eng.backM [] (3 : Nat) (0 : Nat)) (Go.Eng.SV.sl Go.IntKind.u8 (g k)))], blks := [((3 : Nat), { ty := (5 : Nat), segs := [], row := Bool.true })], next := (6 : Nat) }) (ob := [Go.Eng.slenD (Go.Eng.SV.sl Go.IntKind.u8 k) * (1 : Nat) ≤ (140737488355328 : Nat), Decidable.decide ((64 : Nat) < k.length) = Bool.true, k.length ≤ (1000000 : Nat)]) (sc' := []) (by kernel_rfl) (by repeat' first | exact trivial | exact decide_eq_true (by omega) | exact decide_eq_false (by omega) | omega | (simp only [decide_eq_true_eq, decide_eq_false_iff_not, slenD, SV.slen, Option.getD_some, List.length_append, List.length_cons, List.length_nil, List.length_replicate, List.length_take, List.length_drop, xorL_len, k64_len hl, hl, oE_len hl]; omega) | refine ⟨?_, ?_⟩) ?_
    have e := qH3 (res := .sl .u8 (hm g k b)) (w0 := w0) (S := S) hg hh b (g k) (by rw [hl]; omega) hb (by unfold hm k64 kk; rw [if_pos h64]) _ 0 rfl (by omega)
    exact e.cast (by first | (simp [sH3, bY, backM]; done) | rfl)
  · refine hold_cut mixed (okSR hg hh) (unroll := false) (f := 100) (sc := [false]) (ks := [1,5]) (bs := [0]) (nx := 3) (st' := [Go.Eng.It.lp [(0 : Nat), (0 : Nat), (1 : Nat), (1 : Nat), (1 : Nat)], Go.Eng.It.blk (0 : Nat), Go.Eng.It.at [(1 : Nat), (1 : Nat), (1 : Nat), (1 : Nat)]]) (σ' := { nt := (47 : Nat), slots := [((1 : Nat), Go.Eng.SV.sl Go.IntKind.u8 b), ((5 : Nat), Go.Eng.SV.row (0 : Nat) (Go.Eng.SV.sl Go.IntKind.u8 k))], blks := [((0 : Nat), { ty := (5 : Nat), segs := [], row := Bool.true })], next := (3 : Nat) }) (ob := [Go.Eng.slenD (Go.Eng.SV.sl Go.IntKind.u8 k) * (1 : Nat) ≤ (140737488355328 : Nat), Decidable.decide ((64 : Nat) < k.length) = Bool.false]) (sc' := []) (by kernel_rfl) (by repeat' first | exact trivial | exact decide_eq_true (by omega) | exact decide_eq_false (by omega) | omega | (simp only [decide_eq_true_eq, decide_eq_false_iff_not, slenD, SV.slen, Option.getD_some, List.length_append, List.length_cons, List.length_nil, List.length_replicate, List.length_take, List.length_drop, xorL_len, k64_len hl, hl, oE_len hl]; omega) | refine ⟨?_, ?_⟩) ?_
    have e := qH0 (res := .sl .u8 (hm g k b)) (w0 := w0) (S := S) hg hh b k (by omega) hb (by unfold hm k64 kk; rw [if_neg h64]) _ 0 rfl (by omega)
    exact e.cast (by first | (simp [sH0, bY]; done) | rfl)
end
end Go.Eng.B

namespace Go.Eng.B
open Go Go.Eng Go.Proofs
set_option maxRecDepth 100000
def eErr (n : Int) : Nat := if okE n = true then 0 else 1
def sE (prk info : List Nat) (g : List Nat → List Nat) (n : Int) (i : Nat) (nt : Nat) : St := ⟨nt, [(0, .sl .u8 prk), (1, .sl .u8 info), (2, .i .i64 n), (8, .row 0 (.sl .u8 (oE g prk info i))), (9, .sl .u8 (tE g prk info i)), (10, .u .i64 (i + 1))], [(0, bY)], 3, 0⟩
def stE : List It := [.lp [0, 1, 0, 1, 1, 1], .blk 0, .at [1, 1, 1, 1]]
noncomputable def KT3 (g h : List Nat → List Nat) : Ctr := addC 16 (eHm g) (addC 97 (eHm g) (addC 79 (eHm g) (addC 81 (eHm g) (addC 65 eJoin (addC 106 eJoin (ST g h))))))
noncomputable def KT2a (g h : List Nat → List Nat) : Ctr := addC 16 (eHm g) (addC 97 (eHm g) (ST g h))
section
variable {g h : List Nat → List Nat} (hg : g = sum32) (hh : h = sum64) {w0 : World} {S : Own} {res : SV}
include hg hh
theorem okKT2a : CtrOk Try.prog (KT2a g h) := addC_ok (addC_ok (okST hg hh) (eHm_ok (qhmac_c hg hh))) (eHm_ok (hmac_c hg hh))
theorem extract_c (k b : List Nat) (hk : k.length ≤ 900000) (hb : b.length ≤ 900000) : Contract Try.prog 79 [.sl .u8 k, .sl .u8 b] (.sl .u8 (hm g k b)) := by
  refine contract Try.func79 (body := bodyOf Try.f79) rfl (by kernel_rfl) (by kernel_rfl) rfl ?_
  intro _ w0 S
  exact hold_endw mixed (okKT2a hg hh) (unroll := true) (f := 100) (sc := []) (r := (Go.Eng.SV.sl Go.IntKind.u8 (Go.Eng.B.hm g k b))) (ob := [k.length ≤ (900000 : Nat), b.length ≤ (900000 : Nat)]) (sc' := []) (by kernel_rfl) (by repeat' first | exact trivial | omega | refine ⟨?_, ?_⟩) (wkR_of rfl)
theorem qextract_c (k b : List Nat) (hk : k.length ≤ 900000) (hb : b.length ≤ 900000) : Contract Try.prog 81 [.sl .u8 k, .sl .u8 b] (.sl .u8 (hm g k b)) := by
  refine contract Try.func81 (body := bodyOf Try.f81) rfl (by kernel_rfl) (by kernel_rfl) rfl ?_
  intro _ w0 S
  exact hold_endw mixed (okKT2a hg hh) (unroll := true) (f := 100) (sc := []) (r := (Go.Eng.SV.sl Go.IntKind.u8 (Go.Eng.B.hm g k b))) (ob := [k.length ≤ (900000 : Nat), b.length ≤ (900000 : Nat)]) (sc' := []) (by kernel_rfl) (by repeat' first | exact trivial | omega | refine ⟨?_, ?_⟩) (wkR_of rfl)
theorem okKT3 : CtrOk Try.prog (KT3 g h) := addC_ok (addC_ok (addC_ok (addC_ok (addC_ok (addC_ok (okST hg hh) qj_ok) pj_ok) (eHm_ok (qextract_c hg hh))) (eHm_ok (extract_c hg hh))) (eHm_ok (qhmac_c hg hh))) (eHm_ok (hmac_c hg hh))
theorem expand_l (prk info : List Nat) (n : Int) (hn : okE n = true) (hp : prk.length ≤ 900000) (hi : info.length ≤ 800000) (hr : res = .tup [.sl .u8 (expE g prk info n), .u .i64 0]) : ∀ d i, nE n - i = d → i ≤ nE n → Hold Try.prog (bodyOf Try.f15) (Fin Try.prog Try.f15 w0 S res) w0 S stE (sE prk info g n i 39) := by
  have hl : ∀ b, (g b).length = 32 := by rw [hg]; exact sum32_len
  have hn' : 0 ≤ n ∧ n ≤ 8160 := by simpa [okE] using hn
  intro d
  induction d using Nat.strongRecOn with
  | _ d ih =>
  intro i hd hi'
  have ho := oE_len hl prk info i
  have ht : (tE g prk info i).length ≤ 32 := by cases i with | zero => simp [tE] | succ i => rw [tE_len hl]; omega
  have hx : nE n = (n.toNat + 31) / 32 := rfl
  refine hold_unroll (c := _) rfl ?_
  by_cases hlt : i < nE n
  · have e := ih (nE n - (i + 1)) (by omega) (i + 1) rfl (by omega)
    refine hold_cut mixed (okKT3 hg hh) (unroll := false) (f := 300) (sc := [true]) (ks := [0,1,2,8,9,10]) (bs := [0]) (nx := 3) (st' := [Go.Eng.It.lp [(0 : Nat), (1 : Nat), (0 : Nat), (1 : Nat), (1 : Nat), (1 : Nat)], Go.Eng.It.blk (0 : Nat), Go.Eng.It.at [(1 : Nat), (1 : Nat), (1 : Nat), (1 : Nat)]]) (σ' := { nt := (39 : Nat), slots := [((0 : Nat), Go.Eng.SV.sl Go.IntKind.u8 prk), ((1 : Nat), Go.Eng.SV.sl Go.IntKind.u8 info), ((2 : Nat), Go.Eng.SV.i Go.IntKind.i64 n), ((8 : Nat), Go.Eng.SV.row (0 : Nat) (Go.Eng.SV.sl Go.IntKind.u8 (Go.Eng.B.oE g prk info i ++ Go.Eng.B.hm g prk (Go.Eng.B.tE g prk info i ++ info ++ [(i + (1 : Nat)) % (256 : Nat)])))), ((9 : Nat), Go.Eng.SV.sl Go.IntKind.u8 (Go.Eng.B.hm g prk (Go.Eng.B.tE g prk info i ++ info ++ [(i + (1 : Nat)) % (256 : Nat)]))), ((10 : Nat), Go.Eng.SV.u Go.IntKind.i64 (i + (1 : Nat) + (1 : Nat)))], blks := [((0 : Nat), { ty := (5 : Nat), segs := [], row := Bool.true })], next := (3 : Nat) }) (ob := [Decidable.decide ((↑(Go.Eng.B.oE g prk info i).length : Int) < n) = Bool.true, (Go.Eng.B.tE g prk info i).length + info.length + [(i + (1 : Nat)) % (256 : Nat)].length ≤ (100000000 : Nat), prk.length ≤ (900000 : Nat), (Go.Eng.B.tE g prk info i ++ info ++ [(i + (1 : Nat)) % (256 : Nat)]).length ≤ (900000 : Nat), Go.Eng.slenD (Go.Eng.SV.sl Go.IntKind.u8 (Go.Eng.B.oE g prk info i ++ Go.Eng.B.hm g prk (Go.Eng.B.tE g prk info i ++ info ++ [(i + (1 : Nat)) % (256 : Nat)]))) * (1 : Nat) ≤ (140737488355328 : Nat), i + (1 : Nat) + (1 : Nat) < (9223372036854775808 : Nat)]) (sc' := []) (by kernel_rfl) (by repeat' first | exact trivial | exact decide_eq_true (by omega) | exact decide_eq_false (by omega) | omega | (simp only [decide_eq_true_eq, decide_eq_false_iff_not, slenD, SV.slen, Option.getD_some, List.length_append, List.length_cons, List.length_nil, hm_len hl, ho]; omega) | refine ⟨?_, ?_⟩) ?_
    exact e
  · have e : i = nE n := by omega
    subst e
    refine hold_endw mixed (okKT3 hg hh) (unroll := false) (f := 300) (sc := [false]) (r := (Go.Eng.SV.tup [Go.Eng.SV.sl Go.IntKind.u8 (List.drop (0 : Nat) (List.take n.toNat (Go.Eng.B.oE g prk info (Go.Eng.B.nE n)))), Go.Eng.SV.c Go.IntKind.i64 (0 : Int)])) (ob := [Decidable.decide ((↑(Go.Eng.B.oE g prk info (Go.Eng.B.nE n)).length : Int) < n) = Bool.false, (0 : Int) ≤ n, (0 : Int) ≤ n, (0 : Nat) ≤ n.toNat, n.toNat ≤ n.toNat, n.toNat ≤ (Go.Eng.B.oE g prk info (Go.Eng.B.nE n)).length]) (sc' := []) (by kernel_rfl) (by repeat' first | exact trivial | exact decide_eq_true (by omega) | exact decide_eq_false (by omega) | omega | (simp only [decide_eq_true_eq, decide_eq_false_iff_not, slenD, SV.slen, Option.getD_some, List.length_append, List.length_cons, List.length_nil, hm_len hl, ho]; omega) | refine ⟨?_, ?_⟩) ?_
    rw [hr]
    unfold expE
    rw [if_pos hn]
    simp [wkR, wkl, wk, wk0, lim]
theorem expand_c (prk info : List Nat) (n : Int) (hp : prk.length ≤ 900000) (hi : info.length ≤ 800000) : Contract Try.prog 15 [.sl .u8 prk, .sl .u8 info, .i .i64 n] (.tup [.sl .u8 (expE g prk info n), .u .i64 (eErr n)]) := by
  refine contract Try.func15 (body := bodyOf Try.f15) rfl (by kernel_rfl) (by kernel_rfl) rfl ?_
  intro _ w0 S
  by_cases h1 : n < 0
  · have hk : ¬ okE n = true := by simp [okE]; omega
    refine hold_endw mixed (okKT3 hg hh) (unroll := true) (f := 100) (sc := [true]) (r := (Go.Eng.SV.tup [Go.Eng.SV.sl Go.IntKind.u8 [], Go.Eng.SV.c Go.IntKind.i64 (1 : Int)])) (ob := [Decidable.decide (n < (0 : Int)) = Bool.true]) (sc' := []) (by kernel_rfl) (by repeat' first | exact trivial | exact decide_eq_true (by omega) | refine ⟨?_, ?_⟩) ?_
    unfold expE eErr; rw [if_neg hk, if_neg hk]; simp [wkR, wkl, wk, wk0, lim]
  by_cases h2 : n > 8160
  · have hk : ¬ okE n = true := by simp [okE]; omega
    refine hold_endw mixed (okKT3 hg hh) (unroll := true) (f := 100) (sc := [false, true]) (r := (Go.Eng.SV.tup [Go.Eng.SV.sl Go.IntKind.u8 [], Go.Eng.SV.c Go.IntKind.i64 (1 : Int)])) (ob := [Decidable.decide (n < (0 : Int)) = Bool.false, Decidable.decide ((8160 : Int) < n) = Bool.true]) (sc' := []) (by kernel_rfl) (by repeat' first | exact trivial | exact decide_eq_true (by omega) | exact decide_eq_false (by omega) | refine ⟨?_, ?_⟩) ?_
    unfold expE eErr; rw [if_neg hk, if_neg hk]; simp [wkR, wkl, wk, wk0, lim]
  · have hk : okE n = true := by simp [okE]; omega
    refine hold_cut mixed (okKT3 hg hh) (unroll := false) (f := 100) (sc := [false, false]) (ks := [0,1,2,8,9,10]) (bs := []) (nx := 0) (st' := [Go.Eng.It.lp [(0 : Nat), (1 : Nat), (0 : Nat), (1 : Nat), (1 : Nat), (1 : Nat)], Go.Eng.It.blk (0 : Nat), Go.Eng.It.at [(1 : Nat), (1 : Nat), (1 : Nat), (1 : Nat)]]) (σ' := { nt := (39 : Nat), slots := [((0 : Nat), Go.Eng.SV.sl Go.IntKind.u8 prk), ((1 : Nat), Go.Eng.SV.sl Go.IntKind.u8 info), ((2 : Nat), Go.Eng.SV.i Go.IntKind.i64 n), ((8 : Nat), Go.Eng.SV.nil), ((9 : Nat), Go.Eng.SV.nil), ((10 : Nat), Go.Eng.SV.c Go.IntKind.i64 (1 : Int))], blks := [], next := (0 : Nat) }) (ob := [Decidable.decide (n < (0 : Int)) = Bool.false, Decidable.decide ((8160 : Int) < n) = Bool.false]) (sc' := []) (by kernel_rfl) (by repeat' first | exact trivial | exact decide_eq_true (by omega) | exact decide_eq_false (by omega) | refine ⟨?_, ?_⟩) ?_
    refine hold_nil (t := 8) (e := 5) (s0 := .sl .u8 []) rfl ?_
    refine hold_restrict (ks := [0,1,2,8,9,10]) (bs := [0]) (nx := 3) rfl ?_
    exact Hold.weaken (expand_l hg hh prk info n hk hp hi (by unfold eErr; rw [if_pos hk]) _ 0 rfl (by omega)) (by simp [wks, wk, wk0, lim, sE, oE, tE])
theorem qexpand_l (prk info : List Nat) (n : Int) (hn : okE n = true) (hp : prk.length ≤ 900000) (hi : info.length ≤ 800000) (hr : res = .tup [.sl .u8 (expE g prk info n), .u .i64 0]) : ∀ d i, nE n - i = d → i ≤ nE n → Hold Try.prog (bodyOf Try.f83) (Fin Try.prog Try.f83 w0 S res) w0 S stE (sE prk info g n i 38) := by
  have hl : ∀ b, (g b).length = 32 := by rw [hg]; exact sum32_len
  have hn' : 0 ≤ n ∧ n ≤ 8160 := by simpa [okE] using hn
  intro d
  induction d using Nat.strongRecOn with
  | _ d ih =>
  intro i hd hi'
  have ho := oE_len hl prk info i
  have ht : (tE g prk info i).length ≤ 32 := by cases i with | zero => simp [tE] | succ i => rw [tE_len hl]; omega
  have hx : nE n = (n.toNat + 31) / 32 := rfl
  refine hold_unroll (c := _) rfl ?_
  by_cases hlt : i < nE n
  · have e := ih (nE n - (i + 1)) (by omega) (i + 1) rfl (by omega)
    refine hold_cut mixed (okKT3 hg hh) (unroll := false) (f := 300) (sc := [true]) (ks := [0,1,2,8,9,10]) (bs := [0]) (nx := 3) (st' := [Go.Eng.It.lp [(0 : Nat), (1 : Nat), (0 : Nat), (1 : Nat), (1 : Nat), (1 : Nat)], Go.Eng.It.blk (0 : Nat), Go.Eng.It.at [(1 : Nat), (1 : Nat), (1 : Nat), (1 : Nat)]]) (σ' := { nt := (38 : Nat), slots := [((0 : Nat), Go.Eng.SV.sl Go.IntKind.u8 prk), ((1 : Nat), Go.Eng.SV.sl Go.IntKind.u8 info), ((2 : Nat), Go.Eng.SV.i Go.IntKind.i64 n), ((8 : Nat), Go.Eng.SV.row (0 : Nat) (Go.Eng.SV.sl Go.IntKind.u8 (Go.Eng.B.oE g prk info i ++ Go.Eng.B.hm g prk (Go.Eng.B.tE g prk info i ++ info ++ [(i + (1 : Nat)) % (256 : Nat)])))), ((9 : Nat), Go.Eng.SV.sl Go.IntKind.u8 (Go.Eng.B.hm g prk (Go.Eng.B.tE g prk info i ++ info ++ [(i + (1 : Nat)) % (256 : Nat)]))), ((10 : Nat), Go.Eng.SV.u Go.IntKind.i64 (i + (1 : Nat) + (1 : Nat)))], blks := [((0 : Nat), { ty := (5 : Nat), segs := [], row := Bool.true })], next := (3 : Nat) }) (ob := [Decidable.decide ((↑(Go.Eng.B.oE g prk info i).length : Int) < n) = Bool.true, (Go.Eng.B.tE g prk info i).length + info.length + [(i + (1 : Nat)) % (256 : Nat)].length ≤ (100000000 : Nat), prk.length ≤ (900000 : Nat), (Go.Eng.B.tE g prk info i ++ info ++ [(i + (1 : Nat)) % (256 : Nat)]).length ≤ (900000 : Nat), Go.Eng.slenD (Go.Eng.SV.sl Go.IntKind.u8 (Go.Eng.B.oE g prk info i ++ Go.Eng.B.hm g prk (Go.Eng.B.tE g prk info i ++ info ++ [(i + (1 : Nat)) % (256 : Nat)]))) * (1 : Nat) ≤ (140737488355328 : Nat), i + (1 : Nat) + (1 : Nat) < (9223372036854775808 : Nat)]) (sc' := []) (by kernel_rfl) (by repeat' first | exact trivial | exact decide_eq_true (by omega) | exact decide_eq_false (by omega) | omega | (simp only [decide_eq_true_eq, decide_eq_false_iff_not, slenD, SV.slen, Option.getD_some, List.length_append, List.length_cons, List.length_nil, hm_len hl, ho]; omega) | refine ⟨?_, ?_⟩) ?_
    exact e
  · have e : i = nE n := by omega
    subst e
    refine hold_endw mixed (okKT3 hg hh) (unroll := false) (f := 300) (sc := [false]) (r := (Go.Eng.SV.tup [Go.Eng.SV.sl Go.IntKind.u8 (List.drop (0 : Nat) (List.take n.toNat (Go.Eng.B.oE g prk info (Go.Eng.B.nE n)))), Go.Eng.SV.c Go.IntKind.i64 (0 : Int)])) (ob := [Decidable.decide ((↑(Go.Eng.B.oE g prk info (Go.Eng.B.nE n)).length : Int) < n) = Bool.false, (0 : Int) ≤ n, (0 : Nat) ≤ n.toNat, n.toNat ≤ (Go.Eng.B.oE g prk info (Go.Eng.B.nE n)).length]) (sc' := []) (by kernel_rfl) (by repeat' first | exact trivial | exact decide_eq_true (by omega) | exact decide_eq_false (by omega) | omega | (simp only [decide_eq_true_eq, decide_eq_false_iff_not, slenD, SV.slen, Option.getD_some, List.length_append, List.length_cons, List.length_nil, hm_len hl, ho]; omega) | refine ⟨?_, ?_⟩) ?_
    rw [hr]
    unfold expE
    rw [if_pos hn]
    simp [wkR, wkl, wk, wk0, lim]
theorem qexpand_c (prk info : List Nat) (n : Int) (hp : prk.length ≤ 900000) (hi : info.length ≤ 800000) : Contract Try.prog 83 [.sl .u8 prk, .sl .u8 info, .i .i64 n] (.tup [.sl .u8 (expE g prk info n), .u .i64 (eErr n)]) := by
  refine contract Try.func83 (body := bodyOf Try.f83) rfl (by kernel_rfl) (by kernel_rfl) rfl ?_
  intro _ w0 S
  by_cases h1 : n < 0
  · have hk : ¬ okE n = true := by simp [okE]; omega
    refine hold_endw mixed (okKT3 hg hh) (unroll := true) (f := 100) (sc := [true]) (r := (Go.Eng.SV.tup [Go.Eng.SV.sl Go.IntKind.u8 [], Go.Eng.SV.c Go.IntKind.i64 (1 : Int)])) (ob := [Decidable.decide (n < (0 : Int)) = Bool.true]) (sc' := []) (by kernel_rfl) (by repeat' first | exact trivial | exact decide_eq_true (by omega) | refine ⟨?_, ?_⟩) ?_
    unfold expE eErr; rw [if_neg hk, if_neg hk]; simp [wkR, wkl, wk, wk0, lim]
  by_cases h2 : n > 8160
  · have hk : ¬ okE n = true := by simp [okE]; omega
    refine hold_endw mixed (okKT3 hg hh) (unroll := true) (f := 100) (sc := [false, true]) (r := (Go.Eng.SV.tup [Go.Eng.SV.sl Go.IntKind.u8 [], Go.Eng.SV.c Go.IntKind.i64 (1 : Int)])) (ob := [Decidable.decide (n < (0 : Int)) = Bool.false, Decidable.decide ((8160 : Int) < n) = Bool.true]) (sc' := []) (by kernel_rfl) (by repeat' first | exact trivial | exact decide_eq_true (by omega) | exact decide_eq_false (by omega) | refine ⟨?_, ?_⟩) ?_
    unfold expE eErr; rw [if_neg hk, if_neg hk]; simp [wkR, wkl, wk, wk0, lim]
  · have hk : okE n = true := by simp [okE]; omega
    refine hold_cut mixed (okKT3 hg hh) (unroll := false) (f := 100) (sc := [false, false]) (ks := [0,1,2,8,9,10]) (bs := []) (nx := 0) (st' := [Go.Eng.It.lp [(0 : Nat), (1 : Nat), (0 : Nat), (1 : Nat), (1 : Nat), (1 : Nat)], Go.Eng.It.blk (0 : Nat), Go.Eng.It.at [(1 : Nat), (1 : Nat), (1 : Nat), (1 : Nat)]]) (σ' := { nt := (38 : Nat), slots := [((0 : Nat), Go.Eng.SV.sl Go.IntKind.u8 prk), ((1 : Nat), Go.Eng.SV.sl Go.IntKind.u8 info), ((2 : Nat), Go.Eng.SV.i Go.IntKind.i64 n), ((8 : Nat), Go.Eng.SV.nil), ((9 : Nat), Go.Eng.SV.nil), ((10 : Nat), Go.Eng.SV.c Go.IntKind.i64 (1 : Int))], blks := [], next := (0 : Nat) }) (ob := [Decidable.decide (n < (0 : Int)) = Bool.false, Decidable.decide ((8160 : Int) < n) = Bool.false]) (sc' := []) (by kernel_rfl) (by repeat' first | exact trivial | exact decide_eq_true (by omega) | exact decide_eq_false (by omega) | refine ⟨?_, ?_⟩) ?_
    refine hold_nil (t := 8) (e := 5) (s0 := .sl .u8 []) rfl ?_
    refine hold_restrict (ks := [0,1,2,8,9,10]) (bs := [0]) (nx := 3) rfl ?_
    exact Hold.weaken (qexpand_l hg hh prk info n hk hp hi (by unfold eErr; rw [if_pos hk]) _ 0 rfl (by omega)) (by simp [wks, wk, wk0, lim, sE, oE, tE])
end
def eExp (g : List Nat → List Nat) (args : List SV) : Option (SV × List Prop) :=
  match args with
  | [x, y, z] => match part? x, part? y, z.int? with
    | some prk, some info, some (.i64, n) => some (.tup [.sl .u8 (expE g prk info n), .u .i64 (eErr n)], [prk.length ≤ 900000, info.length ≤ 800000])
    | _, _, _ => none
  | _ => none
def nCa (k b : Int) : Nat := bl256 (64 + b) + bl256 96 + (if 64 < k then bl256 k else 0)
def bf (i : Nat) : Nat := if i = 0 then 0 else 32
def cE (k f : Int) : Nat → Nat
  | 0 => 0
  | i + 1 => cE k f i + nCa k (bf i + f + 1)
def eCa (args : List SV) : Option (SV × List Prop) :=
  match args with
  | [x, y] => match x.int?, y.int? with
    | some (.i64, k), some (.i64, b) => some (.u .i64 (nCa k b), [k ≤ 1099511627776, 0 ≤ b, b ≤ 1099511627776])
    | _, _ => none
  | _ => none
def eCE (args : List SV) : Option (SV × List Prop) :=
  match args with
  | [x, y, z] => match x.int?, y.int?, z.int? with
    | some (.i64, k), some (.i64, f), some (.i64, n) => some (.u .i64 (cE k f (nE n)), [k ≤ 1073741824, 0 ≤ f, f ≤ 1073741824, n ≤ 10000])
    | _, _, _ => none
  | _ => none
def stC : List It := [.lp [0, 0, 1, 1], .blk 0, .at [1, 1, 1]]
def sC (k f n : Int) (i : Nat) : St := ⟨22, [(0, .i .i64 k), (1, .i .i64 f), (2, .i .i64 (n - 32 * i)), (7, .u .i64 (cE k f i)), (8, .u .i64 (bf i))], [], 0, 0⟩
def stD : List It := [.lp [0, 1, 0, 1, 1], .blk 0, .at [1, 1, 1]]
def sD (k f n : Int) (i : Nat) : St := ⟨24, [(0, .i .i64 k), (1, .i .i64 f), (2, .i .i64 n), (7, .u .i64 (cE k f i)), (8, .u .i64 (bf i)), (9, .u .i64 (32 * i))], [], 0, 0⟩
theorem eExp_ok {P : Program} {f : FuncId} {g : List Nat → List Nat} (h : ∀ (prk info : List Nat) (n : Int), prk.length ≤ 900000 → info.length ≤ 800000 → Contract P f [.sl .u8 prk, .sl .u8 info, .i .i64 n] (.tup [.sl .u8 (expE g prk info n), .u .i64 (eErr n)])) : ∀ args res ob, eExp g args = some (res, ob) → All ob → Contract P f args res := by
  intro args res ob he hob
  unfold eExp at he
  split at he
  · split at he
    · rename_i hx hy hz
      cases he
      exact Contract.argsF (h _ _ _ hob.1 hob.2.1) ⟨wk_of0 (part_wk hx), wk_of0 (part_wk hy), int?_wk hz, rfl⟩
    · cases he
  · cases he
theorem bl_le (n : Int) : bl256 n ≤ n.toNat / 64 + 2 := by unfold bl256; split <;> omega
theorem bf_le (i : Nat) : bf i ≤ 32 := by unfold bf; split <;> omega
theorem nCa_le (k b : Int) (hk : k ≤ 1099511627776) (hb : b ≤ 1099511627776) : nCa k b ≤ 68719476736 := by
  unfold nCa
  have h1 := bl_le (64 + b); have h2 := bl_le 96; have h3 := bl_le k
  split <;> omega
theorem cE_le (k f : Int) (hk : k ≤ 1073741824) (hf : f ≤ 1073741824) : ∀ i, cE k f i ≤ 68719476736 * i := by
  intro i
  induction i with
  | zero => simp [cE]
  | succ i ih =>
    have := bf_le i
    have := nCa_le k (bf i + f + 1) (by omega) (by omega)
    simp only [cE]; omega
section
variable {g h : List Nat → List Nat} (hg : g = sum32) (hh : h = sum64) {w0 : World} {S : Own} {res : SV}
include hg hh
theorem calls_c (k b : Int) (hk : k ≤ 1099511627776) (hb0 : 0 ≤ b) (hb : b ≤ 1099511627776) : Contract Try.prog 18 [.i .i64 k, .i .i64 b] (.u .i64 (nCa k b)) := by
  refine contract Try.func18 (body := bodyOf Try.f18) rfl (by kernel_rfl) (by kernel_rfl) rfl ?_
  intro _ w0 S
  have h1 := bl_le (64 + b); have h2 := bl_le 96; have h3 := bl_le k
  by_cases hk64 : 64 < k
  · refine hold_endw mixed (okST hg hh) (unroll := true) (f := 100) (sc := [true]) (r := (Go.Eng.SV.u Go.IntKind.i64 (Go.Eng.B.bl256 ((64 : Int) + b) + (2 : Nat) + Go.Eng.B.bl256 k))) (ob := [Go.Eng.inR Go.IntKind.i64 ((64 : Int) + b), (64 : Int) + b ≤ (1125899906842624 : Int), (96 : Int) ≤ (1125899906842624 : Int), Go.Eng.B.bl256 ((64 : Int) + b) + (2 : Nat) < (9223372036854775808 : Nat), Decidable.decide ((64 : Int) < k) = Bool.true, k ≤ (1125899906842624 : Int), Go.Eng.B.bl256 ((64 : Int) + b) + (2 : Nat) + Go.Eng.B.bl256 k < (9223372036854775808 : Nat)]) (sc' := []) (by kernel_rfl) (by repeat' first | exact trivial | exact decide_eq_true (by omega) | omega | (simp only [inR, lo, lim]; omega) | refine ⟨?_, ?_⟩) ?_
    unfold nCa; rw [if_pos hk64]; have h96 : bl256 96 = 2 := by decide
    first | (simp [wkR, wk, wk0, lim, h96]; done) | (simp [wkR, wk, wk0, lim, h96]; omega)
  · refine hold_endw mixed (okST hg hh) (unroll := true) (f := 100) (sc := [false]) (r := (Go.Eng.SV.u Go.IntKind.i64 (Go.Eng.B.bl256 ((64 : Int) + b) + (2 : Nat)))) (ob := [Go.Eng.inR Go.IntKind.i64 ((64 : Int) + b), (64 : Int) + b ≤ (1125899906842624 : Int), (96 : Int) ≤ (1125899906842624 : Int), Go.Eng.B.bl256 ((64 : Int) + b) + (2 : Nat) < (9223372036854775808 : Nat), Decidable.decide ((64 : Int) < k) = Bool.false]) (sc' := []) (by kernel_rfl) (by repeat' first | exact trivial | exact decide_eq_false (by omega) | omega | (simp only [inR, lo, lim]; omega) | refine ⟨?_, ?_⟩) ?_
    unfold nCa; rw [if_neg hk64]; have h96 : bl256 96 = 2 := by decide
    first | (simp [wkR, wk, wk0, lim, h96]; done) | (simp [wkR, wk, wk0, lim, h96]; omega)
theorem qcalls_c (k b : Int) (hk : k ≤ 1099511627776) (hb0 : 0 ≤ b) (hb : b ≤ 1099511627776) : Contract Try.prog 19 [.i .i64 k, .i .i64 b] (.u .i64 (nCa k b)) := by
  refine contract Try.func19 (body := bodyOf Try.f19) rfl (by kernel_rfl) (by kernel_rfl) rfl ?_
  intro _ w0 S
  have h1 := bl_le (64 + b); have h2 := bl_le 96; have h3 := bl_le k
  by_cases hk64 : 64 < k
  · refine hold_endw mixed (okST hg hh) (unroll := true) (f := 100) (sc := [true]) (r := (Go.Eng.SV.u Go.IntKind.i64 (Go.Eng.B.bl256 ((64 : Int) + b) + (2 : Nat) + Go.Eng.B.bl256 k))) (ob := [Go.Eng.inR Go.IntKind.i64 ((64 : Int) + b), (64 : Int) + b ≤ (1125899906842624 : Int), (96 : Int) ≤ (1125899906842624 : Int), Go.Eng.B.bl256 ((64 : Int) + b) + (2 : Nat) < (9223372036854775808 : Nat), Decidable.decide ((64 : Int) < k) = Bool.true, k ≤ (1125899906842624 : Int), Go.Eng.B.bl256 ((64 : Int) + b) + (2 : Nat) + Go.Eng.B.bl256 k < (9223372036854775808 : Nat)]) (sc' := []) (by kernel_rfl) (by repeat' first | exact trivial | exact decide_eq_true (by omega) | omega | (simp only [inR, lo, lim]; omega) | refine ⟨?_, ?_⟩) ?_
    unfold nCa; rw [if_pos hk64]; have h96 : bl256 96 = 2 := by decide
    first | (simp [wkR, wk, wk0, lim, h96]; done) | (simp [wkR, wk, wk0, lim, h96]; omega)
  · refine hold_endw mixed (okST hg hh) (unroll := true) (f := 100) (sc := [false]) (r := (Go.Eng.SV.u Go.IntKind.i64 (Go.Eng.B.bl256 ((64 : Int) + b) + (2 : Nat)))) (ob := [Go.Eng.inR Go.IntKind.i64 ((64 : Int) + b), (64 : Int) + b ≤ (1125899906842624 : Int), (96 : Int) ≤ (1125899906842624 : Int), Go.Eng.B.bl256 ((64 : Int) + b) + (2 : Nat) < (9223372036854775808 : Nat), Decidable.decide ((64 : Int) < k) = Bool.false]) (sc' := []) (by kernel_rfl) (by repeat' first | exact trivial | exact decide_eq_false (by omega) | omega | (simp only [inR, lo, lim]; omega) | refine ⟨?_, ?_⟩) ?_
    unfold nCa; rw [if_neg hk64]; have h96 : bl256 96 = 2 := by decide
    first | (simp [wkR, wk, wk0, lim, h96]; done) | (simp [wkR, wk, wk0, lim, h96]; omega)
end
theorem eCa_ok {P : Program} {f : FuncId} (h : ∀ k b : Int, k ≤ 1099511627776 → 0 ≤ b → b ≤ 1099511627776 → Contract P f [.i .i64 k, .i .i64 b] (.u .i64 (nCa k b))) : ∀ args res ob, eCa args = some (res, ob) → All ob → Contract P f args res := by
  intro args res ob he hob
  unfold eCa at he
  split at he
  · split at he
    · rename_i hx hy
      cases he
      exact Contract.argsF (h _ _ hob.1 hob.2.1 hob.2.2.1) ⟨int?_wk hx, int?_wk hy, rfl⟩
    · cases he
  · cases he
theorem eCE_ok {P : Program} {f : FuncId} (h : ∀ k b n : Int, k ≤ 1073741824 → 0 ≤ b → b ≤ 1073741824 → n ≤ 10000 → Contract P f [.i .i64 k, .i .i64 b, .i .i64 n] (.u .i64 (cE k b (nE n)))) : ∀ args res ob, eCE args = some (res, ob) → All ob → Contract P f args res := by
  intro args res ob he hob
  unfold eCE at he
  split at he
  · split at he
    · rename_i hx hy hz
      cases he
      exact Contract.argsF (h _ _ _ hob.1 hob.2.1 hob.2.2.1 hob.2.2.2.1) ⟨int?_wk hx, int?_wk hy, int?_wk hz, rfl⟩
    · cases he
  · cases he
noncomputable def KT4 (g h : List Nat → List Nat) : Ctr := addC 18 eCa (addC 19 eCa (ST g h))
section
variable {g h : List Nat → List Nat} (hg : g = sum32) (hh : h = sum64) {w0 : World} {S : Own} {res : SV}
include hg hh
theorem okKT4 : CtrOk Try.prog (KT4 g h) := addC_ok (addC_ok (okST hg hh) (eCa_ok (qcalls_c hg hh))) (eCa_ok (calls_c hg hh))
theorem xcalls_l (k f n : Int) (hk : k ≤ 1073741824) (hf0 : 0 ≤ f) (hf : f ≤ 1073741824) (hn : n ≤ 10000) (hr : res = .u .i64 (cE k f (nE n))) (hn0 : inR .i64 n) : ∀ d i, nE n - i = d → i ≤ nE n → Hold Try.prog (bodyOf Try.f20) (Fin Try.prog Try.f20 w0 S res) w0 S stC (sC k f n i) := by
  intro d
  induction d using Nat.strongRecOn with
  | _ d ih =>
  intro i hd hi'
  have hx : nE n = (n.toNat + 31) / 32 := rfl
  have hb := bf_le i
  have hc := cE_le k f hk hf i
  have hc2 := cE_le k f hk hf (i + 1)
  have hs : cE k f (i + 1) = cE k f i + nCa k (bf i + f + 1) := rfl
  simp only [inR, lo, lim] at hn0
  refine hold_unroll (c := _) rfl ?_
  by_cases hlt : i < nE n
  · have e := ih (nE n - (i + 1)) (by omega) (i + 1) rfl (by omega)
    refine hold_cut mixed (okKT4 hg hh) (unroll := false) (f := 300) (sc := [true]) (ks := [0,1,2,7,8]) (bs := []) (nx := 0) (st' := [Go.Eng.It.lp [(0 : Nat), (0 : Nat), (1 : Nat), (1 : Nat)], Go.Eng.It.blk (0 : Nat), Go.Eng.It.at [(1 : Nat), (1 : Nat), (1 : Nat)]]) (σ' := { nt := (22 : Nat), slots := [((0 : Nat), Go.Eng.SV.i Go.IntKind.i64 k), ((1 : Nat), Go.Eng.SV.i Go.IntKind.i64 f), ((2 : Nat), Go.Eng.SV.i Go.IntKind.i64 (n - (32 : Int) * (↑i : Int) - (32 : Int))), ((7 : Nat), Go.Eng.SV.u Go.IntKind.i64 (cE k f i + nCa k ((↑(bf i) : Int) + f + (1 : Int)))), ((8 : Nat), Go.Eng.SV.c Go.IntKind.i64 (32 : Int))], blks := [], next := (0 : Nat) }) (ob := [Decidable.decide ((0 : Int) < n - (32 : Int) * (↑i : Int)) = Bool.true, Go.Eng.inR Go.IntKind.i64 ((↑(bf i) : Int) + f), Go.Eng.inR Go.IntKind.i64 ((↑(bf i) : Int) + f + (1 : Int)), k ≤ (1099511627776 : Int), (0 : Int) ≤ (↑(bf i) : Int) + f + (1 : Int), (↑(bf i) : Int) + f + (1 : Int) ≤ (1099511627776 : Int), cE k f i + nCa k ((↑(bf i) : Int) + f + (1 : Int)) < (9223372036854775808 : Nat), Go.Eng.inR Go.IntKind.i64 (n - (32 : Int) * (↑i : Int) - (32 : Int))]) (sc' := []) (by kernel_rfl) (by repeat' first | exact trivial | exact decide_eq_true (by omega) | exact decide_eq_false (by omega) | omega | (simp only [inR, lo, lim]; omega) | refine ⟨?_, ?_⟩) ?_
    refine Hold.weaken e ?_
    simp only [wks, wk, wk0, sC, bf, lim, hs]
    first | omega | (simp; omega) | skip
  · have e : i = nE n := by omega
    subst e
    refine hold_endw mixed (okKT4 hg hh) (unroll := false) (f := 300) (sc := [false]) (r := (Go.Eng.SV.u Go.IntKind.i64 (cE k f (Go.Eng.B.nE n)))) (ob := [Decidable.decide ((0 : Int) < n - (32 : Int) * (↑(Go.Eng.B.nE n) : Int)) = Bool.false]) (sc' := []) (by kernel_rfl) (by repeat' first | exact trivial | exact decide_eq_true (by omega) | exact decide_eq_false (by omega) | omega | (simp only [inR, lo, lim]; omega) | refine ⟨?_, ?_⟩) ?_
    rw [hr]; exact wkR_of rfl
theorem xcalls_c (k f n : Int) (hk : k ≤ 1073741824) (hf0 : 0 ≤ f) (hf : f ≤ 1073741824) (hn : n ≤ 10000) : Contract Try.prog 20 [.i .i64 k, .i .i64 f, .i .i64 n] (.u .i64 (cE k f (nE n))) := by
  refine contract Try.func20 (body := bodyOf Try.f20) rfl (by kernel_rfl) (by kernel_rfl) rfl ?_
  rintro ⟨_, _, hn0, _⟩ w0 S
  refine hold_cut mixed (okKT4 hg hh) (unroll := false) (f := 100) (sc := []) (ks := [0,1,2,7,8]) (bs := []) (nx := 0) (st' := [Go.Eng.It.lp [(0 : Nat), (0 : Nat), (1 : Nat), (1 : Nat)], Go.Eng.It.blk (0 : Nat), Go.Eng.It.at [(1 : Nat), (1 : Nat), (1 : Nat)]]) (σ' := { nt := (22 : Nat), slots := [((0 : Nat), Go.Eng.SV.i Go.IntKind.i64 k), ((1 : Nat), Go.Eng.SV.i Go.IntKind.i64 f), ((2 : Nat), Go.Eng.SV.i Go.IntKind.i64 n), ((7 : Nat), Go.Eng.SV.c Go.IntKind.i64 (0 : Int)), ((8 : Nat), Go.Eng.SV.c Go.IntKind.i64 (0 : Int))], blks := [], next := (0 : Nat) }) (ob := []) (sc' := []) (by kernel_rfl) trivial ?_
  exact Hold.weaken (xcalls_l hg hh k f n hk hf0 hf hn rfl hn0 _ 0 rfl (by omega)) (by simp [wks, wk, wk0, lim, sC, cE, bf])
theorem qxcalls_l (k f n : Int) (hk : k ≤ 1073741824) (hf0 : 0 ≤ f) (hf : f ≤ 1073741824) (hn : n ≤ 10000) (hr : res = .u .i64 (cE k f (nE n))) (hn0 : inR .i64 n) : ∀ d i, nE n - i = d → i ≤ nE n → Hold Try.prog (bodyOf Try.f21) (Fin Try.prog Try.f21 w0 S res) w0 S stD (sD k f n i) := by
  intro d
  induction d using Nat.strongRecOn with
  | _ d ih =>
  intro i hd hi'
  have hx : nE n = (n.toNat + 31) / 32 := rfl
  have hb := bf_le i
  have hc := cE_le k f hk hf i
  have hc2 := cE_le k f hk hf (i + 1)
  have hs : cE k f (i + 1) = cE k f i + nCa k (bf i + f + 1) := rfl
  simp only [inR, lo, lim] at hn0
  refine hold_unroll (c := _) rfl ?_
  by_cases hlt : i < nE n
  · have e := ih (nE n - (i + 1)) (by omega) (i + 1) rfl (by omega)
    refine hold_cut mixed (okKT4 hg hh) (unroll := false) (f := 300) (sc := [true]) (ks := [0,1,2,7,8,9]) (bs := []) (nx := 0) (st' := [Go.Eng.It.lp [(0 : Nat), (1 : Nat), (0 : Nat), (1 : Nat), (1 : Nat)], Go.Eng.It.blk (0 : Nat), Go.Eng.It.at [(1 : Nat), (1 : Nat), (1 : Nat)]]) (σ' := { nt := (24 : Nat), slots := [((0 : Nat), Go.Eng.SV.i Go.IntKind.i64 k), ((1 : Nat), Go.Eng.SV.i Go.IntKind.i64 f), ((2 : Nat), Go.Eng.SV.i Go.IntKind.i64 n), ((7 : Nat), Go.Eng.SV.u Go.IntKind.i64 (cE k f i + nCa k ((↑(bf i) : Int) + f + (1 : Int)))), ((8 : Nat), Go.Eng.SV.c Go.IntKind.i64 (32 : Int)), ((9 : Nat), Go.Eng.SV.u Go.IntKind.i64 ((32 : Nat) * i + (32 : Nat)))], blks := [], next := (0 : Nat) }) (ob := [Decidable.decide ((↑((32 : Nat) * i) : Int) < n) = Bool.true, Go.Eng.inR Go.IntKind.i64 ((↑(bf i) : Int) + f), Go.Eng.inR Go.IntKind.i64 ((↑(bf i) : Int) + f + (1 : Int)), k ≤ (1099511627776 : Int), (0 : Int) ≤ (↑(bf i) : Int) + f + (1 : Int), (↑(bf i) : Int) + f + (1 : Int) ≤ (1099511627776 : Int), cE k f i + nCa k ((↑(bf i) : Int) + f + (1 : Int)) < (9223372036854775808 : Nat), (32 : Nat) * i + (32 : Nat) < (9223372036854775808 : Nat)]) (sc' := []) (by kernel_rfl) (by repeat' first | exact trivial | exact decide_eq_true (by omega) | exact decide_eq_false (by omega) | omega | (simp only [inR, lo, lim]; omega) | refine ⟨?_, ?_⟩) ?_
    refine Hold.weaken e ?_
    simp only [wks, wk, wk0, sD, bf, lim, hs]
    first | omega | (simp; omega) | skip
  · have e : i = nE n := by omega
    subst e
    refine hold_endw mixed (okKT4 hg hh) (unroll := false) (f := 300) (sc := [false]) (r := (Go.Eng.SV.u Go.IntKind.i64 (cE k f (Go.Eng.B.nE n)))) (ob := [Decidable.decide ((↑((32 : Nat) * Go.Eng.B.nE n) : Int) < n) = Bool.false]) (sc' := []) (by kernel_rfl) (by repeat' first | exact trivial | exact decide_eq_true (by omega) | exact decide_eq_false (by omega) | omega | (simp only [inR, lo, lim]; omega) | refine ⟨?_, ?_⟩) ?_
    rw [hr]; exact wkR_of rfl
theorem qxcalls_c (k f n : Int) (hk : k ≤ 1073741824) (hf0 : 0 ≤ f) (hf : f ≤ 1073741824) (hn : n ≤ 10000) : Contract Try.prog 21 [.i .i64 k, .i .i64 f, .i .i64 n] (.u .i64 (cE k f (nE n))) := by
  refine contract Try.func21 (body := bodyOf Try.f21) rfl (by kernel_rfl) (by kernel_rfl) rfl ?_
  rintro ⟨_, _, hn0, _⟩ w0 S
  refine hold_cut mixed (okKT4 hg hh) (unroll := false) (f := 100) (sc := []) (ks := [0,1,2,7,8,9]) (bs := []) (nx := 0) (st' := [Go.Eng.It.lp [(0 : Nat), (1 : Nat), (0 : Nat), (1 : Nat), (1 : Nat)], Go.Eng.It.blk (0 : Nat), Go.Eng.It.at [(1 : Nat), (1 : Nat), (1 : Nat)]]) (σ' := { nt := (24 : Nat), slots := [((0 : Nat), Go.Eng.SV.i Go.IntKind.i64 k), ((1 : Nat), Go.Eng.SV.i Go.IntKind.i64 f), ((2 : Nat), Go.Eng.SV.i Go.IntKind.i64 n), ((7 : Nat), Go.Eng.SV.c Go.IntKind.i64 (0 : Int)), ((8 : Nat), Go.Eng.SV.c Go.IntKind.i64 (0 : Int)), ((9 : Nat), Go.Eng.SV.c Go.IntKind.i64 (0 : Int))], blks := [], next := (0 : Nat) }) (ob := []) (sc' := []) (by kernel_rfl) trivial ?_
  exact Hold.weaken (qxcalls_l hg hh k f n hk hf0 hf hn rfl hn0 _ 0 rfl (by omega)) (by simp [wks, wk, wk0, lim, sD, cE, bf])
end
end Go.Eng.B

namespace Go.Eng.B
open Go Go.Eng Go.Proofs
set_option maxRecDepth 100000
def smB (k : Int) (i : Nat) : Nat := ((k % 18446744073709551616).toNat / 2 ^ (8 * (i % 8) % 18446744073709551616) % 256 + i / 8 % 256) % 256
def smL (k : Int) (i : Nat) : List Nat := itr (fun b j => b ++ [smB k j]) [] i
def stS : List It := [.lp [0, 1, 0, 1, 1], .blk 0, .at [1, 1, 1]]
def sS (k n : Int) (i : Nat) : St := ⟨28, [(0, .i .i64 k), (5, .row 0 (.sl .u8 (smL k i))), (7, .i .i64 n), (8, .u .i64 i)], [(0, bY)], 3, 0⟩
def eSome (args : List SV) : Option (SV × List Prop) :=
  match args with
  | [x, y] => match x.int?, y.int? with
    | some (.i64, k), some (.i64, n) => some (.sl .u8 (smL k n.toNat), [n ≤ 1000000])
    | _, _ => none
  | _ => none
theorem smL_len (k : Int) : ∀ i, (smL k i).length = i := by
  intro i
  induction i with
  | zero => rfl
  | succ i ih => show (smL k i ++ [smB k i]).length = _; simp [ih]
theorem smL_succ (k : Int) (i : Nat) : smL k (i + 1) = smL k i ++ [smB k i] := rfl
section
variable {w0 : World} {S : Own} {res : SV}
theorem some_l (k n : Int) (hn : n ≤ 1000000) (hr : res = .sl .u8 (smL k n.toNat)) : ∀ d i, n.toNat - i = d → i ≤ n.toNat → Hold Try.prog (bodyOf Try.f47) (Fin Try.prog Try.f47 w0 S res) w0 S stS (sS k n i) := by
  intro d
  induction d using Nat.strongRecOn with
  | _ d ih =>
  intro i hd hi
  have hl := smL_len k i
  refine hold_unroll (c := _) rfl ?_
  by_cases hlt : (i : Int) < n
  · have e := ih (n.toNat - (i + 1)) (by omega) (i + 1) rfl (by omega)
    rw [show sS k n (i + 1) = ⟨28, [(0, .i .i64 k), (5, .row 0 (.sl .u8 (smL k i ++ [smB k i]))), (7, .i .i64 n), (8, .u .i64 (i + 1))], [(0, bY)], 3, 0⟩ from rfl] at e
    unfold smB at e
    refine hold_cut mixed okC1 (unroll := false) (f := 300) (sc := [true]) (ks := [0,5,7,8]) (bs := [0]) (nx := 3) (st' := [Go.Eng.It.lp [(0 : Nat), (1 : Nat), (0 : Nat), (1 : Nat), (1 : Nat)], Go.Eng.It.blk (0 : Nat), Go.Eng.It.at [(1 : Nat), (1 : Nat), (1 : Nat)]]) (σ' := { nt := (28 : Nat), slots := [((0 : Nat), Go.Eng.SV.i Go.IntKind.i64 k), ((5 : Nat), Go.Eng.SV.row (0 : Nat) (Go.Eng.SV.sl Go.IntKind.u8 (smL k i ++ [((k % (18446744073709551616 : Int)).toNat / (2 : Nat) ^ ((8 : Nat) * (i % (8 : Nat)) % (18446744073709551616 : Nat)) % (256 : Nat) + i / (8 : Nat) % (256 : Nat)) % (256 : Nat)]))), ((7 : Nat), Go.Eng.SV.i Go.IntKind.i64 n), ((8 : Nat), Go.Eng.SV.u Go.IntKind.i64 (i + (1 : Nat)))], blks := [((0 : Nat), { ty := (5 : Nat), segs := [], row := Bool.true })], next := (3 : Nat) }) (ob := [Decidable.decide ((↑i : Int) < n) = Bool.true, (8 : Nat) * (i % (8 : Nat)) % (18446744073709551616 : Nat) < (64 : Nat), Go.Eng.slenD (Go.Eng.SV.sl Go.IntKind.u8 (smL k i ++ [((k % (18446744073709551616 : Int)).toNat / (2 : Nat) ^ ((8 : Nat) * (i % (8 : Nat)) % (18446744073709551616 : Nat)) % (256 : Nat) + i / (8 : Nat) % (256 : Nat)) % (256 : Nat)])) * (1 : Nat) ≤ (140737488355328 : Nat), i + (1 : Nat) < (9223372036854775808 : Nat)]) (sc' := []) (by kernel_rfl) (by repeat' first | exact trivial | exact decide_eq_true (by omega) | exact decide_eq_false (by omega) | omega | (simp only [slenD, SV.slen, List.length_append, List.length_cons, List.length_nil]; omega) | (simp only [inR, lo, lim]; omega) | refine ⟨?_, ?_⟩) ?_
    exact e
  · have e : i = n.toNat := by omega
    subst e
    refine hold_end mixed okC1 (unroll := false) (f := 300) (sc := [false]) (r := (Go.Eng.SV.sl Go.IntKind.u8 (smL k n.toNat))) (ob := [Decidable.decide ((↑n.toNat : Int) < n) = Bool.false]) (sc' := []) (by kernel_rfl) (by repeat' first | exact trivial | exact decide_eq_true (by omega) | exact decide_eq_false (by omega) | omega | (simp only [slenD, SV.slen, List.length_append, List.length_cons, List.length_nil]; omega) | (simp only [inR, lo, lim]; omega) | refine ⟨?_, ?_⟩) ?_
    exact hr.symm
theorem some_c (k n : Int) (hn : n ≤ 1000000) : Contract Try.prog 47 [.i .i64 k, .i .i64 n] (.sl .u8 (smL k n.toNat)) := by
  refine contract Try.func47 (body := bodyOf Try.f47) rfl (by kernel_rfl) (by kernel_rfl) rfl ?_
  intro _ w0 S
  refine hold_cut mixed okC1 (unroll := false) (f := 100) (sc := []) (ks := [0,5,7,8]) (bs := []) (nx := 0) (st' := [Go.Eng.It.lp [(0 : Nat), (1 : Nat), (0 : Nat), (1 : Nat), (1 : Nat)], Go.Eng.It.blk (0 : Nat), Go.Eng.It.at [(1 : Nat), (1 : Nat), (1 : Nat)]]) (σ' := { nt := (28 : Nat), slots := [((0 : Nat), Go.Eng.SV.i Go.IntKind.i64 k), ((5 : Nat), Go.Eng.SV.nil), ((7 : Nat), Go.Eng.SV.i Go.IntKind.i64 n), ((8 : Nat), Go.Eng.SV.c Go.IntKind.i64 (0 : Int))], blks := [], next := (0 : Nat) }) (ob := []) (sc' := []) (by kernel_rfl) trivial ?_
  refine hold_nil (t := 5) (e := 5) (s0 := .sl .u8 []) rfl ?_
  refine hold_restrict (ks := [0,5,7,8]) (bs := [0]) (nx := 3) rfl ?_
  exact Hold.weaken (some_l k n hn rfl _ 0 rfl (by omega)) (by simp [wks, wk, wk0, lim, sS, smL, itr])
end
theorem some_ok : ∀ args res ob, eSome args = some (res, ob) → All ob → Contract Try.prog 47 args res := by
  intro args res ob he hob
  unfold eSome at he
  split at he
  · split at he
    · rename_i hx hy
      cases he
      exact Contract.argsF (some_c _ _ hob.1) ⟨int?_wk hx, int?_wk hy, rfl⟩
    · cases he
  · cases he
def atN (l : List Int) (a i : Nat) : Nat := itr (fun a _ => nextA l a) a i
def bys (l : List Int) (a i : Nat) : List Nat := itr (fun b j => b ++ [nextV l (atN l a j) 256 % 256]) [] i
def bysK (l : List Int) (a : Nat) (n : Int) : Nat := nextV l a (n + 1)
def bysL (l : List Int) (a : Nat) (n : Int) : List Nat := bys l (nextA l a) (bysK l a n)
def bysA (l : List Int) (a : Nat) (n : Int) : Nat := atN l (nextA l a) (bysK l a n)
def stBy : List It := [.lp [0, 1, 0, 1, 1], .blk 0, .at [1, 1, 1]]
def sBy (l : List Int) (a m i : Nat) : St := ⟨22, [(0, .ptr 0 0 (.c 0)), (5, .row 1 (.sl .u8 (bys l a i))), (6, .u .i64 (m - i))], [(0, deckB l (atN l a i)), (1, bY)], 4, 1⟩
def eBytes (H : List Bk) (args : List SV) : Option (MRes × List Prop) :=
  match H, args with
  | [⟨96, [.sli l, a], false⟩], [.ptr 0 0 (.c 0), x] => match a.nat?, x.int? with
    | some (.i64, at'), some (.i64, n) => some (⟨.row 1 (.sl .u8 (bysL l at' n)), [deckB l (bysA l at' n)], [bY]⟩, [0 ≤ n, n ≤ 100000])
    | _, _ => none
  | _, _ => none
theorem deck_hand {P : Program} {f : FuncId} {l : List Int} {a : SV} {at' : Nat} {args : List SV} {r : MRes} (ha : a.nat? = some (.i64, at')) (h : ContractM P f [deckB l at'] args r) : ContractM P f [⟨96, [.sli l, a], false⟩] args r := by
  intro w S β vs h1 h2 h3 h4 h5
  have hlt : at' < lim .i64 := by
    obtain ⟨cs, q1, _⟩ := (h3 0 ⟨96, [.sli l, a], false⟩ (by simp [numB])).1 rfl
    simp only [rels] at q1
    obtain ⟨c1, c2, _, _, c3, c4, _, q3, _⟩ := q1
    exact (nat?_ok ha q3).2
  refine ContractM.hand (H := [⟨96, [.sli l, a], false⟩]) (H' := [deckB l at']) (show wkB _ (_ :: []) from ⟨rfl, rfl, show wkl (_ :: a :: []) (_ :: (SV.u .i64 at') :: []) from ⟨wk_refl _, ?_, rfl⟩, rfl⟩) rfl h w S β vs h1 h2 h3 h4 h5
  cases a <;> simp [SV.nat?] at ha
  · obtain ⟨q1, rfl, q3⟩ := ha
    simp only [wk, wk0, wka]
    refine ⟨trivial, by omega, hlt⟩
  · obtain ⟨rfl, rfl⟩ := ha
    exact wk_refl _
theorem bys_len (l : List Int) (a : Nat) : ∀ i, (bys l a i).length = i := by
  intro i
  induction i with
  | zero => rfl
  | succ i ih => show (bys l a i ++ [_]).length = _; simp [ih]
section
variable {F : Fr} {S : Own} {res : MRes}
theorem bytes_l (l : List Int) (a m : Nat) (hm : m ≤ 100000) (hr : res = ⟨.row 1 (.sl .u8 (bys l a m)), [deckB l (atN l a m)], [bY]⟩) : ∀ d i, m - i = d → i ≤ m → Hold Try.prog (bodyOf Try.f49) (FinM Try.prog Try.f49 F S res) F S stBy (sBy l a m i) := by
  intro d
  induction d using Nat.strongRecOn with
  | _ d ih =>
  intro i hd hi
  have hl := bys_len l a i
  refine hold_unroll (c := _) rfl ?_
  by_cases hlt : i < m
  · have e := ih (m - (i + 1)) (by omega) (i + 1) rfl (by omega)
    refine hold_cut mixed okC1 (unroll := false) (f := 300) (sc := [true]) (ks := [0,5,6]) (bs := [0,1]) (nx := 4) (st' := [Go.Eng.It.lp [(0 : Nat), (1 : Nat), (0 : Nat), (1 : Nat), (1 : Nat)], Go.Eng.It.blk (0 : Nat), Go.Eng.It.at [(1 : Nat), (1 : Nat), (1 : Nat)]]) (σ' := { nt := (22 : Nat), slots := [((0 : Nat), Go.Eng.SV.ptr (0 : Nat) (0 : Nat) (Go.Eng.Ix.c (0 : Nat))), ((5 : Nat), Go.Eng.SV.row (1 : Nat) (Go.Eng.SV.sl Go.IntKind.u8 (bys l a i ++ [Go.Eng.B.nextV l (atN l a i) (256 : Int) % (256 : Nat)]))), ((6 : Nat), Go.Eng.SV.i Go.IntKind.i64 ((↑(m - i) : Int) - (1 : Int)))], blks := [((0 : Nat), { ty := (96 : Nat), segs := [Go.Eng.SV.sli l, Go.Eng.SV.u Go.IntKind.i64 (Go.Eng.B.nextA l (atN l a i))] }), ((1 : Nat), { ty := (5 : Nat), segs := [], row := Bool.true })], next := (4 : Nat), m := (1 : Nat) }) (ob := [Decidable.decide ((0 : Nat) < m - i) = Bool.true, (0 : Int) < (256 : Int), Go.Eng.slenD (Go.Eng.SV.sl Go.IntKind.u8 (bys l a i ++ [Go.Eng.B.nextV l (atN l a i) (256 : Int) % (256 : Nat)])) * (1 : Nat) ≤ (140737488355328 : Nat)]) (sc' := []) (by kernel_rfl) (by repeat' first | exact trivial | exact decide_eq_true (by omega) | exact decide_eq_false (by omega) | omega | (simp only [slenD, SV.slen, List.length_append, List.length_cons, List.length_nil]; omega) | (simp only [inR, lo, lim]; omega) | refine ⟨?_, ?_⟩) ?_
    exact Hold.weaken e (by simp only [wks, wk, wk0, sBy, lim, and_true, true_and]; first | omega | (refine ⟨rfl, ?_⟩; omega) | (refine ⟨rfl, rfl, ?_⟩; omega))
  · have e : i = m := by omega
    subst e
    refine hold_endNw mixed okC1 (news := [1]) (unroll := false) (f := 300) (sc := [false]) (r := { res := Go.Eng.SV.row ((0 : Nat) + Go.Eng.wid { ty := (96 : Nat), segs := [Go.Eng.SV.sli l, Go.Eng.SV.u Go.IntKind.i64 (atN l a i)] }) (Go.Eng.SV.sl Go.IntKind.u8 (bys l a i)), upd := [{ ty := (96 : Nat), segs := [Go.Eng.SV.sli l, Go.Eng.SV.u Go.IntKind.i64 (atN l a i)] }], new := [{ ty := (5 : Nat), segs := [], row := Bool.true }] }) (ob := [Decidable.decide ((0 : Nat) < i - i) = Bool.false]) (sc' := []) (by kernel_rfl) (by repeat' first | exact trivial | exact decide_eq_true (by omega) | exact decide_eq_false (by omega) | omega | (simp only [slenD, SV.slen, List.length_append, List.length_cons, List.length_nil]; omega) | (simp only [inR, lo, lim]; omega) | refine ⟨?_, ?_⟩) ?_
    exact wkM_of hr.symm
theorem bytes_m (l : List Int) (a : Nat) (n : Int) (hn0 : 0 ≤ n) (hn : n ≤ 100000) : ContractM Try.prog 49 [deckB l a] [.ptr 0 0 (.c 0), .i .i64 n] ⟨.row 1 (.sl .u8 (bysL l a n)), [deckB l (bysA l a n)], [bY]⟩ := by
  refine contractM Try.func49 (body := bodyOf Try.f49) rfl (by kernel_rfl) (by kernel_rfl) rfl rfl ?_
  rintro _ _ F S hF
  have hk : bysK l a n ≤ 100000 := by
    unfold bysK nextV
    split
    · have := Int.emod_lt_of_pos (l.getD a 0) (show 0 < n + 1 by omega); omega
    · omega
  refine hold_cut mixed okC1 (unroll := false) (f := 100) (sc := []) (ks := [0,5,6]) (bs := [0]) (nx := 1) (st' := [Go.Eng.It.lp [(0 : Nat), (1 : Nat), (0 : Nat), (1 : Nat), (1 : Nat)], Go.Eng.It.blk (0 : Nat), Go.Eng.It.at [(1 : Nat), (1 : Nat), (1 : Nat)]]) (σ' := { nt := (22 : Nat), slots := [((0 : Nat), Go.Eng.SV.ptr (0 : Nat) (0 : Nat) (Go.Eng.Ix.c (0 : Nat))), ((5 : Nat), Go.Eng.SV.nil), ((6 : Nat), Go.Eng.SV.u Go.IntKind.i64 (Go.Eng.B.nextV l a (n + (1 : Int))))], blks := [((0 : Nat), { ty := (96 : Nat), segs := [Go.Eng.SV.sli l, Go.Eng.SV.u Go.IntKind.i64 (Go.Eng.B.nextA l a)] })], next := (1 : Nat), m := (1 : Nat) }) (ob := [Go.Eng.inR Go.IntKind.i64 (n + (1 : Int)), (0 : Int) < n + (1 : Int)]) (sc' := []) (by kernel_rfl) (by repeat' first | exact trivial | exact decide_eq_true (by omega) | exact decide_eq_false (by omega) | omega | (simp only [slenD, SV.slen, List.length_append, List.length_cons, List.length_nil]; omega) | (simp only [inR, lo, lim]; omega) | refine ⟨?_, ?_⟩) ?_
  refine hold_nil (t := 5) (e := 5) (s0 := .sl .u8 []) rfl ?_
  refine hold_restrict (ks := [0,5,6]) (bs := [0,1]) (nx := 4) rfl ?_
  exact Hold.weaken (bytes_l l (nextA l a) (bysK l a n) hk rfl _ 0 rfl (by omega)) (by simp [wks, wk, wk0, lim, sBy, bys, bysK, itr])
end
theorem bytes_ok : ∀ H args r ob, eBytes H args = some (r, ob) → All ob → ContractM Try.prog 49 H args r := by
  intro H args r ob h hob
  unfold eBytes at h
  split at h
  · rename_i l a x
    split at h
    · rename_i at' n ha hx
      cases h
      exact deck_hand ha (ContractM.args (args' := [.ptr 0 0 (.c 0), .i .i64 n]) ⟨wk_refl _, int?_wk hx, rfl⟩ (bytes_m l at' n hob.1 hob.2.1))
    · cases h
  · cases h
end Go.Eng.B

namespace Go.Eng.B
open Go Go.Eng Go.Proofs
set_option maxRecDepth 100000
def eShort (args : List SV) : Option (SV × List Prop) :=
  match args with
  | [x] => match part? x with
    | some b => some (.b (decide (b.length ≤ 600)), [])
    | _ => none
  | _ => none
noncomputable def KT5a (g h : List Nat → List Nat) : Ctr := addC 12 eShort (addC 47 eSome (addC 15 (eExp g) (addC 83 (eExp g) (addC 20 eCE (addC 21 eCE (addC 18 eCa (addC 19 eCa (KT3 g h))))))))
noncomputable def KT5 (g h : List Nat → List Nat) : Ctr := addC 13 eT (KT5a g h)
theorem short_c (b : List Nat) : Contract Try.prog 12 [.sl .u8 b] (.b (decide (b.length ≤ 600))) := by
  refine contract Try.func12 (body := bodyOf Try.f12) rfl (by kernel_rfl) (by kernel_rfl) rfl ?_
  intro _ w0 S
  exact hold_endw mixed ctr0_ok (unroll := true) (f := 100) (sc := []) (r := (Go.Eng.SV.b (Decidable.decide (b.length ≤ (600 : Nat))))) (ob := []) (sc' := []) (by kernel_rfl) trivial (wkR_of rfl)
theorem short_ok : ∀ args res ob, eShort args = some (res, ob) → All ob → Contract Try.prog 12 args res := by
  intro args res ob he hob
  unfold eShort at he
  split at he
  · split at he
    · rename_i hx
      cases he
      exact Contract.argsF (short_c _) ⟨wk_of0 (part_wk hx), rfl⟩
    · cases he
  · cases he
theorem hm_hi : hm sum32 [11, 11, 11, 11, 11, 11, 11, 11, 11, 11, 11, 11, 11, 11, 11, 11, 11, 11, 11, 11] [72, 105, 32, 84, 104, 101, 114, 101] = [176, 52, 76, 97, 216, 219, 56, 83, 92, 168, 175, 206, 175, 11, 241, 43, 136, 29, 194, 0, 201, 131, 61, 167, 38, 233, 55, 108, 46, 50, 207, 247] := by kernel_rfl
section
variable {g h : List Nat → List Nat} (hg : g = sum32) (hh : h = sum64) {w0 : World} {S : Own} {res : SV}
include hg hh
theorem okKT5a : CtrOk Try.prog (KT5a g h) := addC_ok (addC_ok (addC_ok (addC_ok (addC_ok (addC_ok (addC_ok (addC_ok (okKT3 hg hh) (eCa_ok (qcalls_c hg hh))) (eCa_ok (calls_c hg hh))) (eCE_ok (qxcalls_c hg hh))) (eCE_ok (xcalls_c hg hh))) (eExp_ok (qexpand_c hg hh))) (eExp_ok (expand_c hg hh))) some_ok) short_ok
theorem awake5_c : Contract Try.prog 13 [] (.cb true) := by
  refine contract Try.func13 (body := bodyOf Try.f13) rfl (by kernel_rfl) (by kernel_rfl) rfl ?_
  intro _ w0 S
  have ha : hm g [11, 11, 11, 11, 11, 11, 11, 11, 11, 11, 11, 11, 11, 11, 11, 11, 11, 11, 11, 11] [72, 105, 32, 84, 104, 101, 114, 101] = [176, 52, 76, 97, 216, 219, 56, 83, 92, 168, 175, 206, 175, 11, 241, 43, 136, 29, 194, 0, 201, 131, 61, 167, 38, 233, 55, 108, 46, 50, 207, 247] := by rw [hg]; exact hm_hi
  have he : eErr (-1) = 1 := rfl
  rcases Bool.eq_false_or_eq_true ((Go.Eng.B.hm g [(11 : Nat), (11 : Nat), (11 : Nat), (11 : Nat), (11 : Nat), (11 : Nat), (11 : Nat), (11 : Nat), (11 : Nat), (11 : Nat), (11 : Nat), (11 : Nat), (11 : Nat), (11 : Nat), (11 : Nat), (11 : Nat), (11 : Nat), (11 : Nat), (11 : Nat), (11 : Nat)] [(72 : Nat), (105 : Nat), (32 : Nat), (84 : Nat), (104 : Nat), (101 : Nat), (114 : Nat), (101 : Nat)]).length == (32 : Nat)) with hc0 | hc0
  · have hd0 := eq_of_beq hc0
    rcases Bool.eq_false_or_eq_true ((Go.Eng.B.hm g [(11 : Nat), (11 : Nat), (11 : Nat), (11 : Nat), (11 : Nat), (11 : Nat), (11 : Nat), (11 : Nat), (11 : Nat), (11 : Nat), (11 : Nat), (11 : Nat), (11 : Nat), (11 : Nat), (11 : Nat), (11 : Nat), (11 : Nat), (11 : Nat), (11 : Nat), (11 : Nat)] [(72 : Nat), (105 : Nat), (32 : Nat), (84 : Nat), (104 : Nat), (101 : Nat), (114 : Nat), (101 : Nat)]).getD (0 : Nat) (0 : Nat) == (176 : Nat)) with hc1 | hc1
    · have hd1 := eq_of_beq hc1
      rcases Bool.eq_false_or_eq_true ((Go.Eng.B.hm g [(11 : Nat), (11 : Nat), (11 : Nat), (11 : Nat), (11 : Nat), (11 : Nat), (11 : Nat), (11 : Nat), (11 : Nat), (11 : Nat), (11 : Nat), (11 : Nat), (11 : Nat), (11 : Nat), (11 : Nat), (11 : Nat), (11 : Nat), (11 : Nat), (11 : Nat), (11 : Nat)] [(72 : Nat), (105 : Nat), (32 : Nat), (84 : Nat), (104 : Nat), (101 : Nat), (114 : Nat), (101 : Nat)]).getD (1 : Nat) (0 : Nat) == (52 : Nat)) with hc2 | hc2
      · have hd2 := eq_of_beq hc2
        rcases Bool.eq_false_or_eq_true ((Go.Eng.B.hm g [(11 : Nat), (11 : Nat), (11 : Nat), (11 : Nat), (11 : Nat), (11 : Nat), (11 : Nat), (11 : Nat), (11 : Nat), (11 : Nat), (11 : Nat), (11 : Nat), (11 : Nat), (11 : Nat), (11 : Nat), (11 : Nat), (11 : Nat), (11 : Nat), (11 : Nat), (11 : Nat)] [(72 : Nat), (105 : Nat), (32 : Nat), (84 : Nat), (104 : Nat), (101 : Nat), (114 : Nat), (101 : Nat)]).getD (31 : Nat) (0 : Nat) == (247 : Nat)) with hc3 | hc3
        · have hd3 := eq_of_beq hc3
          refine hold_endw mixed (okKT5a hg hh) (unroll := true) (f := 200) (sc := [true, true, true, true]) (r := (Go.Eng.SV.b Bool.true)) (ob := [(20 : Nat) ≤ (900000 : Nat), (8 : Nat) ≤ (900000 : Nat), (Go.Eng.B.hm g [(11 : Nat), (11 : Nat), (11 : Nat), (11 : Nat), (11 : Nat), (11 : Nat), (11 : Nat), (11 : Nat), (11 : Nat), (11 : Nat), (11 : Nat), (11 : Nat), (11 : Nat), (11 : Nat), (11 : Nat), (11 : Nat), (11 : Nat), (11 : Nat), (11 : Nat), (11 : Nat)] [(72 : Nat), (105 : Nat), (32 : Nat), (84 : Nat), (104 : Nat), (101 : Nat), (114 : Nat), (101 : Nat)]).length ≤ (900000 : Nat), (0 : Nat) ≤ (800000 : Nat), ((Go.Eng.B.hm g [(11 : Nat), (11 : Nat), (11 : Nat), (11 : Nat), (11 : Nat), (11 : Nat), (11 : Nat), (11 : Nat), (11 : Nat), (11 : Nat), (11 : Nat), (11 : Nat), (11 : Nat), (11 : Nat), (11 : Nat), (11 : Nat), (11 : Nat), (11 : Nat), (11 : Nat), (11 : Nat)] [(72 : Nat), (105 : Nat), (32 : Nat), (84 : Nat), (104 : Nat), (101 : Nat), (114 : Nat), (101 : Nat)]).length == (32 : Nat)) = Bool.true, (0 : Nat) < (Go.Eng.B.hm g [(11 : Nat), (11 : Nat), (11 : Nat), (11 : Nat), (11 : Nat), (11 : Nat), (11 : Nat), (11 : Nat), (11 : Nat), (11 : Nat), (11 : Nat), (11 : Nat), (11 : Nat), (11 : Nat), (11 : Nat), (11 : Nat), (11 : Nat), (11 : Nat), (11 : Nat), (11 : Nat)] [(72 : Nat), (105 : Nat), (32 : Nat), (84 : Nat), (104 : Nat), (101 : Nat), (114 : Nat), (101 : Nat)]).length, ((Go.Eng.B.hm g [(11 : Nat), (11 : Nat), (11 : Nat), (11 : Nat), (11 : Nat), (11 : Nat), (11 : Nat), (11 : Nat), (11 : Nat), (11 : Nat), (11 : Nat), (11 : Nat), (11 : Nat), (11 : Nat), (11 : Nat), (11 : Nat), (11 : Nat), (11 : Nat), (11 : Nat), (11 : Nat)] [(72 : Nat), (105 : Nat), (32 : Nat), (84 : Nat), (104 : Nat), (101 : Nat), (114 : Nat), (101 : Nat)]).getD (0 : Nat) (0 : Nat) == (176 : Nat)) = Bool.true, (1 : Nat) < (Go.Eng.B.hm g [(11 : Nat), (11 : Nat), (11 : Nat), (11 : Nat), (11 : Nat), (11 : Nat), (11 : Nat), (11 : Nat), (11 : Nat), (11 : Nat), (11 : Nat), (11 : Nat), (11 : Nat), (11 : Nat), (11 : Nat), (11 : Nat), (11 : Nat), (11 : Nat), (11 : Nat), (11 : Nat)] [(72 : Nat), (105 : Nat), (32 : Nat), (84 : Nat), (104 : Nat), (101 : Nat), (114 : Nat), (101 : Nat)]).length, ((Go.Eng.B.hm g [(11 : Nat), (11 : Nat), (11 : Nat), (11 : Nat), (11 : Nat), (11 : Nat), (11 : Nat), (11 : Nat), (11 : Nat), (11 : Nat), (11 : Nat), (11 : Nat), (11 : Nat), (11 : Nat), (11 : Nat), (11 : Nat), (11 : Nat), (11 : Nat), (11 : Nat), (11 : Nat)] [(72 : Nat), (105 : Nat), (32 : Nat), (84 : Nat), (104 : Nat), (101 : Nat), (114 : Nat), (101 : Nat)]).getD (1 : Nat) (0 : Nat) == (52 : Nat)) = Bool.true, (31 : Nat) < (Go.Eng.B.hm g [(11 : Nat), (11 : Nat), (11 : Nat), (11 : Nat), (11 : Nat), (11 : Nat), (11 : Nat), (11 : Nat), (11 : Nat), (11 : Nat), (11 : Nat), (11 : Nat), (11 : Nat), (11 : Nat), (11 : Nat), (11 : Nat), (11 : Nat), (11 : Nat), (11 : Nat), (11 : Nat)] [(72 : Nat), (105 : Nat), (32 : Nat), (84 : Nat), (104 : Nat), (101 : Nat), (114 : Nat), (101 : Nat)]).length, ((Go.Eng.B.hm g [(11 : Nat), (11 : Nat), (11 : Nat), (11 : Nat), (11 : Nat), (11 : Nat), (11 : Nat), (11 : Nat), (11 : Nat), (11 : Nat), (11 : Nat), (11 : Nat), (11 : Nat), (11 : Nat), (11 : Nat), (11 : Nat), (11 : Nat), (11 : Nat), (11 : Nat), (11 : Nat)] [(72 : Nat), (105 : Nat), (32 : Nat), (84 : Nat), (104 : Nat), (101 : Nat), (114 : Nat), (101 : Nat)]).getD (31 : Nat) (0 : Nat) == (247 : Nat)) = Bool.true]) (sc' := []) (by kernel_rfl) ?_ ?_
          · exact ⟨(by first | trivial | omega | decide | (rw [ha]; decide)), (by first | trivial | omega | decide | (rw [ha]; decide)), (by first | trivial | omega | decide | (rw [ha]; decide)), (by first | trivial | omega | decide | (rw [ha]; decide)), hc0, (by first | trivial | omega | decide | (rw [ha]; decide)), hc1, (by first | trivial | omega | decide | (rw [ha]; decide)), hc2, (by first | trivial | omega | decide | (rw [ha]; decide)), hc3, trivial⟩
          · first | (exfalso; simp_all; done) | (simp_all [wkR, wk, wk0]; done)
        · have hd3 := ne_of_beq_false hc3
          refine hold_endw mixed (okKT5a hg hh) (unroll := true) (f := 200) (sc := [true, true, true, false]) (r := (Go.Eng.SV.cb Bool.false)) (ob := [(20 : Nat) ≤ (900000 : Nat), (8 : Nat) ≤ (900000 : Nat), (Go.Eng.B.hm g [(11 : Nat), (11 : Nat), (11 : Nat), (11 : Nat), (11 : Nat), (11 : Nat), (11 : Nat), (11 : Nat), (11 : Nat), (11 : Nat), (11 : Nat), (11 : Nat), (11 : Nat), (11 : Nat), (11 : Nat), (11 : Nat), (11 : Nat), (11 : Nat), (11 : Nat), (11 : Nat)] [(72 : Nat), (105 : Nat), (32 : Nat), (84 : Nat), (104 : Nat), (101 : Nat), (114 : Nat), (101 : Nat)]).length ≤ (900000 : Nat), (0 : Nat) ≤ (800000 : Nat), ((Go.Eng.B.hm g [(11 : Nat), (11 : Nat), (11 : Nat), (11 : Nat), (11 : Nat), (11 : Nat), (11 : Nat), (11 : Nat), (11 : Nat), (11 : Nat), (11 : Nat), (11 : Nat), (11 : Nat), (11 : Nat), (11 : Nat), (11 : Nat), (11 : Nat), (11 : Nat), (11 : Nat), (11 : Nat)] [(72 : Nat), (105 : Nat), (32 : Nat), (84 : Nat), (104 : Nat), (101 : Nat), (114 : Nat), (101 : Nat)]).length == (32 : Nat)) = Bool.true, (0 : Nat) < (Go.Eng.B.hm g [(11 : Nat), (11 : Nat), (11 : Nat), (11 : Nat), (11 : Nat), (11 : Nat), (11 : Nat), (11 : Nat), (11 : Nat), (11 : Nat), (11 : Nat), (11 : Nat), (11 : Nat), (11 : Nat), (11 : Nat), (11 : Nat), (11 : Nat), (11 : Nat), (11 : Nat), (11 : Nat)] [(72 : Nat), (105 : Nat), (32 : Nat), (84 : Nat), (104 : Nat), (101 : Nat), (114 : Nat), (101 : Nat)]).length, ((Go.Eng.B.hm g [(11 : Nat), (11 : Nat), (11 : Nat), (11 : Nat), (11 : Nat), (11 : Nat), (11 : Nat), (11 : Nat), (11 : Nat), (11 : Nat), (11 : Nat), (11 : Nat), (11 : Nat), (11 : Nat), (11 : Nat), (11 : Nat), (11 : Nat), (11 : Nat), (11 : Nat), (11 : Nat)] [(72 : Nat), (105 : Nat), (32 : Nat), (84 : Nat), (104 : Nat), (101 : Nat), (114 : Nat), (101 : Nat)]).getD (0 : Nat) (0 : Nat) == (176 : Nat)) = Bool.true, (1 : Nat) < (Go.Eng.B.hm g [(11 : Nat), (11 : Nat), (11 : Nat), (11 : Nat), (11 : Nat), (11 : Nat), (11 : Nat), (11 : Nat), (11 : Nat), (11 : Nat), (11 : Nat), (11 : Nat), (11 : Nat), (11 : Nat), (11 : Nat), (11 : Nat), (11 : Nat), (11 : Nat), (11 : Nat), (11 : Nat)] [(72 : Nat), (105 : Nat), (32 : Nat), (84 : Nat), (104 : Nat), (101 : Nat), (114 : Nat), (101 : Nat)]).length, ((Go.Eng.B.hm g [(11 : Nat), (11 : Nat), (11 : Nat), (11 : Nat), (11 : Nat), (11 : Nat), (11 : Nat), (11 : Nat), (11 : Nat), (11 : Nat), (11 : Nat), (11 : Nat), (11 : Nat), (11 : Nat), (11 : Nat), (11 : Nat), (11 : Nat), (11 : Nat), (11 : Nat), (11 : Nat)] [(72 : Nat), (105 : Nat), (32 : Nat), (84 : Nat), (104 : Nat), (101 : Nat), (114 : Nat), (101 : Nat)]).getD (1 : Nat) (0 : Nat) == (52 : Nat)) = Bool.true, (31 : Nat) < (Go.Eng.B.hm g [(11 : Nat), (11 : Nat), (11 : Nat), (11 : Nat), (11 : Nat), (11 : Nat), (11 : Nat), (11 : Nat), (11 : Nat), (11 : Nat), (11 : Nat), (11 : Nat), (11 : Nat), (11 : Nat), (11 : Nat), (11 : Nat), (11 : Nat), (11 : Nat), (11 : Nat), (11 : Nat)] [(72 : Nat), (105 : Nat), (32 : Nat), (84 : Nat), (104 : Nat), (101 : Nat), (114 : Nat), (101 : Nat)]).length, ((Go.Eng.B.hm g [(11 : Nat), (11 : Nat), (11 : Nat), (11 : Nat), (11 : Nat), (11 : Nat), (11 : Nat), (11 : Nat), (11 : Nat), (11 : Nat), (11 : Nat), (11 : Nat), (11 : Nat), (11 : Nat), (11 : Nat), (11 : Nat), (11 : Nat), (11 : Nat), (11 : Nat), (11 : Nat)] [(72 : Nat), (105 : Nat), (32 : Nat), (84 : Nat), (104 : Nat), (101 : Nat), (114 : Nat), (101 : Nat)]).getD (31 : Nat) (0 : Nat) == (247 : Nat)) = Bool.false]) (sc' := []) (by kernel_rfl) ?_ ?_
          · exact ⟨(by first | trivial | omega | decide | (rw [ha]; decide)), (by first | trivial | omega | decide | (rw [ha]; decide)), (by first | trivial | omega | decide | (rw [ha]; decide)), (by first | trivial | omega | decide | (rw [ha]; decide)), hc0, (by first | trivial | omega | decide | (rw [ha]; decide)), hc1, (by first | trivial | omega | decide | (rw [ha]; decide)), hc2, (by first | trivial | omega | decide | (rw [ha]; decide)), hc3, trivial⟩
          · first | (exfalso; simp_all; done) | (simp_all [wkR, wk, wk0]; done)
      · have hd2 := ne_of_beq_false hc2
        refine hold_endw mixed (okKT5a hg hh) (unroll := true) (f := 200) (sc := [true, true, false]) (r := (Go.Eng.SV.cb Bool.false)) (ob := [(20 : Nat) ≤ (900000 : Nat), (8 : Nat) ≤ (900000 : Nat), (Go.Eng.B.hm g [(11 : Nat), (11 : Nat), (11 : Nat), (11 : Nat), (11 : Nat), (11 : Nat), (11 : Nat), (11 : Nat), (11 : Nat), (11 : Nat), (11 : Nat), (11 : Nat), (11 : Nat), (11 : Nat), (11 : Nat), (11 : Nat), (11 : Nat), (11 : Nat), (11 : Nat), (11 : Nat)] [(72 : Nat), (105 : Nat), (32 : Nat), (84 : Nat), (104 : Nat), (101 : Nat), (114 : Nat), (101 : Nat)]).length ≤ (900000 : Nat), (0 : Nat) ≤ (800000 : Nat), ((Go.Eng.B.hm g [(11 : Nat), (11 : Nat), (11 : Nat), (11 : Nat), (11 : Nat), (11 : Nat), (11 : Nat), (11 : Nat), (11 : Nat), (11 : Nat), (11 : Nat), (11 : Nat), (11 : Nat), (11 : Nat), (11 : Nat), (11 : Nat), (11 : Nat), (11 : Nat), (11 : Nat), (11 : Nat)] [(72 : Nat), (105 : Nat), (32 : Nat), (84 : Nat), (104 : Nat), (101 : Nat), (114 : Nat), (101 : Nat)]).length == (32 : Nat)) = Bool.true, (0 : Nat) < (Go.Eng.B.hm g [(11 : Nat), (11 : Nat), (11 : Nat), (11 : Nat), (11 : Nat), (11 : Nat), (11 : Nat), (11 : Nat), (11 : Nat), (11 : Nat), (11 : Nat), (11 : Nat), (11 : Nat), (11 : Nat), (11 : Nat), (11 : Nat), (11 : Nat), (11 : Nat), (11 : Nat), (11 : Nat)] [(72 : Nat), (105 : Nat), (32 : Nat), (84 : Nat), (104 : Nat), (101 : Nat), (114 : Nat), (101 : Nat)]).length, ((Go.Eng.B.hm g [(11 : Nat), (11 : Nat), (11 : Nat), (11 : Nat), (11 : Nat), (11 : Nat), (11 : Nat), (11 : Nat), (11 : Nat), (11 : Nat), (11 : Nat), (11 : Nat), (11 : Nat), (11 : Nat), (11 : Nat), (11 : Nat), (11 : Nat), (11 : Nat), (11 : Nat), (11 : Nat)] [(72 : Nat), (105 : Nat), (32 : Nat), (84 : Nat), (104 : Nat), (101 : Nat), (114 : Nat), (101 : Nat)]).getD (0 : Nat) (0 : Nat) == (176 : Nat)) = Bool.true, (1 : Nat) < (Go.Eng.B.hm g [(11 : Nat), (11 : Nat), (11 : Nat), (11 : Nat), (11 : Nat), (11 : Nat), (11 : Nat), (11 : Nat), (11 : Nat), (11 : Nat), (11 : Nat), (11 : Nat), (11 : Nat), (11 : Nat), (11 : Nat), (11 : Nat), (11 : Nat), (11 : Nat), (11 : Nat), (11 : Nat)] [(72 : Nat), (105 : Nat), (32 : Nat), (84 : Nat), (104 : Nat), (101 : Nat), (114 : Nat), (101 : Nat)]).length, ((Go.Eng.B.hm g [(11 : Nat), (11 : Nat), (11 : Nat), (11 : Nat), (11 : Nat), (11 : Nat), (11 : Nat), (11 : Nat), (11 : Nat), (11 : Nat), (11 : Nat), (11 : Nat), (11 : Nat), (11 : Nat), (11 : Nat), (11 : Nat), (11 : Nat), (11 : Nat), (11 : Nat), (11 : Nat)] [(72 : Nat), (105 : Nat), (32 : Nat), (84 : Nat), (104 : Nat), (101 : Nat), (114 : Nat), (101 : Nat)]).getD (1 : Nat) (0 : Nat) == (52 : Nat)) = Bool.false]) (sc' := []) (by kernel_rfl) ?_ ?_
        · exact ⟨(by first | trivial | omega | decide | (rw [ha]; decide)), (by first | trivial | omega | decide | (rw [ha]; decide)), (by first | trivial | omega | decide | (rw [ha]; decide)), (by first | trivial | omega | decide | (rw [ha]; decide)), hc0, (by first | trivial | omega | decide | (rw [ha]; decide)), hc1, (by first | trivial | omega | decide | (rw [ha]; decide)), hc2, trivial⟩
        · first | (exfalso; simp_all; done) | (simp_all [wkR, wk, wk0]; done)
    · have hd1 := ne_of_beq_false hc1
      refine hold_endw mixed (okKT5a hg hh) (unroll := true) (f := 200) (sc := [true, false]) (r := (Go.Eng.SV.cb Bool.false)) (ob := [(20 : Nat) ≤ (900000 : Nat), (8 : Nat) ≤ (900000 : Nat), (Go.Eng.B.hm g [(11 : Nat), (11 : Nat), (11 : Nat), (11 : Nat), (11 : Nat), (11 : Nat), (11 : Nat), (11 : Nat), (11 : Nat), (11 : Nat), (11 : Nat), (11 : Nat), (11 : Nat), (11 : Nat), (11 : Nat), (11 : Nat), (11 : Nat), (11 : Nat), (11 : Nat), (11 : Nat)] [(72 : Nat), (105 : Nat), (32 : Nat), (84 : Nat), (104 : Nat), (101 : Nat), (114 : Nat), (101 : Nat)]).length ≤ (900000 : Nat), (0 : Nat) ≤ (800000 : Nat), ((Go.Eng.B.hm g [(11 : Nat), (11 : Nat), (11 : Nat), (11 : Nat), (11 : Nat), (11 : Nat), (11 : Nat), (11 : Nat), (11 : Nat), (11 : Nat), (11 : Nat), (11 : Nat), (11 : Nat), (11 : Nat), (11 : Nat), (11 : Nat), (11 : Nat), (11 : Nat), (11 : Nat), (11 : Nat)] [(72 : Nat), (105 : Nat), (32 : Nat), (84 : Nat), (104 : Nat), (101 : Nat), (114 : Nat), (101 : Nat)]).length == (32 : Nat)) = Bool.true, (0 : Nat) < (Go.Eng.B.hm g [(11 : Nat), (11 : Nat), (11 : Nat), (11 : Nat), (11 : Nat), (11 : Nat), (11 : Nat), (11 : Nat), (11 : Nat), (11 : Nat), (11 : Nat), (11 : Nat), (11 : Nat), (11 : Nat), (11 : Nat), (11 : Nat), (11 : Nat), (11 : Nat), (11 : Nat), (11 : Nat)] [(72 : Nat), (105 : Nat), (32 : Nat), (84 : Nat), (104 : Nat), (101 : Nat), (114 : Nat), (101 : Nat)]).length, ((Go.Eng.B.hm g [(11 : Nat), (11 : Nat), (11 : Nat), (11 : Nat), (11 : Nat), (11 : Nat), (11 : Nat), (11 : Nat), (11 : Nat), (11 : Nat), (11 : Nat), (11 : Nat), (11 : Nat), (11 : Nat), (11 : Nat), (11 : Nat), (11 : Nat), (11 : Nat), (11 : Nat), (11 : Nat)] [(72 : Nat), (105 : Nat), (32 : Nat), (84 : Nat), (104 : Nat), (101 : Nat), (114 : Nat), (101 : Nat)]).getD (0 : Nat) (0 : Nat) == (176 : Nat)) = Bool.false]) (sc' := []) (by kernel_rfl) ?_ ?_
      · exact ⟨(by first | trivial | omega | decide | (rw [ha]; decide)), (by first | trivial | omega | decide | (rw [ha]; decide)), (by first | trivial | omega | decide | (rw [ha]; decide)), (by first | trivial | omega | decide | (rw [ha]; decide)), hc0, (by first | trivial | omega | decide | (rw [ha]; decide)), hc1, trivial⟩
      · first | (exfalso; simp_all; done) | (simp_all [wkR, wk, wk0]; done)
  · have hd0 := ne_of_beq_false hc0
    refine hold_endw mixed (okKT5a hg hh) (unroll := true) (f := 200) (sc := [false]) (r := (Go.Eng.SV.cb Bool.false)) (ob := [(20 : Nat) ≤ (900000 : Nat), (8 : Nat) ≤ (900000 : Nat), (Go.Eng.B.hm g [(11 : Nat), (11 : Nat), (11 : Nat), (11 : Nat), (11 : Nat), (11 : Nat), (11 : Nat), (11 : Nat), (11 : Nat), (11 : Nat), (11 : Nat), (11 : Nat), (11 : Nat), (11 : Nat), (11 : Nat), (11 : Nat), (11 : Nat), (11 : Nat), (11 : Nat), (11 : Nat)] [(72 : Nat), (105 : Nat), (32 : Nat), (84 : Nat), (104 : Nat), (101 : Nat), (114 : Nat), (101 : Nat)]).length ≤ (900000 : Nat), (0 : Nat) ≤ (800000 : Nat), ((Go.Eng.B.hm g [(11 : Nat), (11 : Nat), (11 : Nat), (11 : Nat), (11 : Nat), (11 : Nat), (11 : Nat), (11 : Nat), (11 : Nat), (11 : Nat), (11 : Nat), (11 : Nat), (11 : Nat), (11 : Nat), (11 : Nat), (11 : Nat), (11 : Nat), (11 : Nat), (11 : Nat), (11 : Nat)] [(72 : Nat), (105 : Nat), (32 : Nat), (84 : Nat), (104 : Nat), (101 : Nat), (114 : Nat), (101 : Nat)]).length == (32 : Nat)) = Bool.false]) (sc' := []) (by kernel_rfl) ?_ ?_
    · exact ⟨(by first | trivial | omega | decide | (rw [ha]; decide)), (by first | trivial | omega | decide | (rw [ha]; decide)), (by first | trivial | omega | decide | (rw [ha]; decide)), (by first | trivial | omega | decide | (rw [ha]; decide)), hc0, trivial⟩
    · first | (exfalso; simp_all; done) | (simp_all [wkR, wk, wk0]; done)
theorem okKT5 : CtrOk Try.prog (KT5 g h) := addC_ok (okKT5a hg hh) (eT_ok (awake5_c hg hh))
end
end Go.Eng.B

