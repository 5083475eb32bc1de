import Derived.Test.YthaabhoopofnhaaGreatE13
set_option linter.unusedVariables false
set_option linter.unusedSimpArgs false
set_option linter.unusedSectionVars false
namespace Go.Eng.B
def xorL (m : Nat) (l : List Nat) : List Nat := l.map fun x => x ^^^ m
def kk (g : List Nat → List Nat) (key : List Nat) : List Nat := if 64 < key.length then g key else key
def zf (k : List Nat) : List Nat := k ++ List.replicate (64 - k.length) 0
def k64 (g : List Nat → List Nat) (key : List Nat) : List Nat := zf (kk g key)
def hm (g : List Nat → List Nat) (key b : List Nat) : List Nat := g (xorL 92 (k64 g key) ++ g (xorL 54 (k64 g key) ++ b))
def tE (g : List Nat → List Nat) (prk info : List Nat) : Nat → List Nat
  | 0 => []
  | i + 1 => hm g prk (tE g prk info i ++ info ++ [(i + 1) % 256])
def oE (g : List Nat → List Nat) (prk info : List Nat) : Nat → List Nat
  | 0 => []
  | i + 1 => oE g prk info i ++ tE g prk info (i + 1)
def okE (n : Int) : Bool := decide (0 ≤ n) && decide (n ≤ 8160)
def nE (n : Int) : Nat := (n.toNat + 31) / 32
def expE (g : List Nat → List Nat) (prk info : List Nat) (n : Int) : List Nat := if okE n = true then (oE g prk info (nE n)).take n.toNat else []
theorem xorL_len (m : Nat) (l : List Nat) : (xorL m l).length = l.length := by simp [xorL]
theorem xorL_snoc (m x : Nat) (l : List Nat) : xorL m (l ++ [x]) = xorL m l ++ [x ^^^ m] := by simp [xorL]
theorem xorL_take (m : Nat) (l : List Nat) (i : Nat) (h : i < l.length) : xorL m (l.take (i + 1)) = xorL m (l.take i) ++ [l.getD i 0 ^^^ m] := by
  rw [← xorL_snoc]; congr 1
  rw [List.take_add_one, List.getD_eq_getElem?_getD, List.getElem?_eq_getElem h]; rfl
theorem mix_get (m : Nat) (l : List Nat) (i : Nat) (h : i < l.length) : (xorL m (l.take i) ++ l.drop i).getD i 0 = l.getD i 0 := by
  rw [List.getD_eq_getElem?_getD, List.getElem?_append_right (by simp [xorL]; omega)]
  simp only [xorL_len, List.length_take, List.getElem?_drop, List.getD_eq_getElem?_getD]
  congr 2; omega
theorem mix_set (m : Nat) (l : List Nat) (i : Nat) (h : i < l.length) : (xorL m (l.take i) ++ l.drop i).set i (l.getD i 0 ^^^ m) = xorL m (l.take (i + 1)) ++ l.drop (i + 1) := by
  rw [xorL_take m l i h]
  rw [List.set_append_right _ _ (by simp [xorL]; omega)]
  rw [xorL_len, List.length_take, show i - min i l.length = 0 by omega, List.append_assoc]
  congr 1
  rw [List.drop_eq_getElem_cons h]; rfl
theorem kk_len {g : List Nat → List Nat} (hg : ∀ b, (g b).length = 32) (key : List Nat) : (kk g key).length ≤ 64 := by
  unfold kk; split
  · rw [hg]; omega
  · omega
theorem zf_len {k : List Nat} (h : k.length ≤ 64) : (zf k).length = 64 := by simp [zf]; omega
theorem k64_len {g : List Nat → List Nat} (hg : ∀ b, (g b).length = 32) (key : List Nat) : (k64 g key).length = 64 := zf_len (kk_len hg key)
theorem hm_len {g : List Nat → List Nat} (hg : ∀ b, (g b).length = 32) (key b : List Nat) : (hm g key b).length = 32 := hg _
theorem tE_len {g : List Nat → List Nat} (hg : ∀ b, (g b).length = 32) (prk info : List Nat) (i : Nat) : (tE g prk info (i + 1)).length = 32 := hg _
theorem oE_len {g : List Nat → List Nat} (hg : ∀ b, (g b).length = 32) (prk info : List Nat) : ∀ i, (oE g prk info i).length = 32 * i := by
  intro i
  induction i with
  | zero => rfl
  | succ i ih => simp only [oE, List.length_append, ih, tE_len hg]; omega
end Go.Eng.B

namespace Go.Eng.B
open Go Go.Eng Go.Proofs
set_option maxRecDepth 100000
def part? : SV → Option (List Nat)
  | .sl .u8 l => some l
  | .nil => some []
  | _ => none
def eJoin (args : List SV) : Option (SV × List Prop) :=
  match args with
  | [.slv 1 [x]] => match part? x with
    | some a => some (.sl .u8 a, [a.length ≤ 100000000])
    | _ => none
  | [.slv 1 [x, y]] => match part? x, part? y with
    | some a, some b => some (.sl .u8 (a ++ b), [a.length + b.length ≤ 100000000])
    | _, _ => none
  | [.slv 1 [x, y, z]] => match part? x, part? y, part? z with
    | some a, some b, some c => some (.sl .u8 (a ++ b ++ c), [a.length + b.length + c.length ≤ 100000000])
    | _, _, _ => none
  | [.slv 1 [x, y, z, v]] => match part? x, part? y, part? z, part? v with
    | some a, some b, some c, some d => some (.sl .u8 (a ++ b ++ c ++ d), [a.length + b.length + c.length + d.length ≤ 100000000])
    | _, _, _, _ => none
  | [.slv 1 [x, y, z, v, u]] => match part? x, part? y, part? z, part? v, part? u with
    | some a, some b, some c, some d, some e => some (.sl .u8 (a ++ b ++ c ++ d ++ e), [a.length + b.length + c.length + d.length + e.length ≤ 100000000])
    | _, _, _, _, _ => none
  | _ => none
theorem part_wk {x : SV} {a : List Nat} (h : part? x = some a) : wk0 x (.sl .u8 a) := by
  unfold part? at h
  split at h
  · cases h; exact wk0_refl _
  · cases h; rfl
  · cases h
theorem wk_of0 {s t : SV} (h : wk0 s t) : wk s t := by
  cases s <;> first | exact h | (cases t <;> first | exact h | (simp only [wk0, SV.ag.injEq] at h; subst h; exact wka_refl _) | (simp [wk0] at h))
theorem part_R {x : SV} {a : List Nat} (h : part? x = some a) {β : Nat → Nat} {ow : Own} {w : World} {v : Value} (hv : relV1 β ow w x v) : relV1 β ow w (.sl .u8 a) v := wk_ok1 (wk_of0 (part_wk h)) hv
theorem slv_args {P : Program} {f : FuncId} {l m : List SV} {r : SV} (hw : wka l m) (hs : ∀ s ∈ m, s.size = 1) (hl : m.length = l.length) (h : Contract P f [.slv 1 m] r) : Contract P f [.slv 1 l] r := by
  intro w S vs hlt hvs
  refine h w S vs hlt ?_
  obtain ⟨v, t, rfl, ⟨cs, hr, rfl⟩, rfl⟩ := hvs
  refine ⟨_, _, rfl, ⟨cs, ?_, rfl⟩, rfl⟩
  simp only [rel] at hr ⊢
  obtain ⟨h1, h2, v, vs, h3, h4, h5⟩ := hr
  exact ⟨hs, by rw [hl]; exact h2, v, vs, h3, by rw [hl]; exact h4, wka_rels hw h5⟩
theorem slv_argsF {P : Program} {f : FuncId} {l m : List SV} {r : SV} (h : Contract P f [.slv 1 m] r) (hw : wka l m) (hs : ∀ s ∈ m, s.size = 1) (hl : m.length = l.length) : Contract P f [.slv 1 l] r := slv_args hw hs hl h
theorem pj1_c (a : List Nat) (h : a.length ≤ 100000000) : Contract Tryz.prog 46 [.slv 1 [.sl .u8 a]] (.sl .u8 (a)) := by
  refine contract Tryz.func46 (body := bodyOf Tryz.f46) rfl (by kernel_rfl) (by kernel_rfl) rfl ?_
  intro _ w0 S
  exact hwF mixed ctr0_ok 300 [] (.sl .u8 a) [slenD (.sl .u8 a) * 1 ≤ 140737488355328] (by kernel_rfl) (by repeat' first | exact trivial | omega | (simp only [slenD, SV.slen, List.length_append, List.length_nil]; omega) | refine ⟨?_, ?_⟩) (wkR_of rfl)
theorem pj2_c (a b : List Nat) (h : a.length + b.length ≤ 100000000) : Contract Tryz.prog 46 [.slv 1 [.sl .u8 a, .sl .u8 b]] (.sl .u8 (a ++ b)) := by
  refine contract Tryz.func46 (body := bodyOf Tryz.f46) rfl (by kernel_rfl) (by kernel_rfl) rfl ?_
  intro _ w0 S
  exact hwF mixed ctr0_ok 300 [] (.sl .u8 (a ++ b)) [slenD (.sl .u8 a) * 1 ≤ 140737488355328, slenD (.sl .u8 (a ++ b)) * 1 ≤ 140737488355328] (by kernel_rfl) (by repeat' first | exact trivial | omega | (simp only [slenD, SV.slen, List.length_append, List.length_nil]; omega) | refine ⟨?_, ?_⟩) (wkR_of rfl)
theorem pj3_c (a b c : List Nat) (h : a.length + b.length + c.length ≤ 100000000) : Contract Tryz.prog 46 [.slv 1 [.sl .u8 a, .sl .u8 b, .sl .u8 c]] (.sl .u8 (a ++ b ++ c)) := by
  refine contract Tryz.func46 (body := bodyOf Tryz.f46) rfl (by kernel_rfl) (by kernel_rfl) rfl ?_
  intro _ w0 S
  exact hwF mixed ctr0_ok 300 [] (.sl .u8 (a ++ b ++ c)) [slenD (.sl .u8 a) * 1 ≤ 140737488355328, slenD (.sl .u8 (a ++ b)) * 1 ≤ 140737488355328, slenD (.sl .u8 (a ++ b ++ c)) * 1 ≤ 140737488355328] (by kernel_rfl) (by repeat' first | exact trivial | omega | (simp only [slenD, SV.slen, List.length_append, List.length_nil]; omega) | refine ⟨?_, ?_⟩) (wkR_of rfl)
theorem pj4_c (a b c d : List Nat) (h : a.length + b.length + c.length + d.length ≤ 100000000) : Contract Tryz.prog 46 [.slv 1 [.sl .u8 a, .sl .u8 b, .sl .u8 c, .sl .u8 d]] (.sl .u8 (a ++ b ++ c ++ d)) := by
  refine contract Tryz.func46 (body := bodyOf Tryz.f46) rfl (by kernel_rfl) (by kernel_rfl) rfl ?_
  intro _ w0 S
  exact hwF mixed ctr0_ok 300 [] (.sl .u8 (a ++ b ++ c ++ d)) [slenD (.sl .u8 a) * 1 ≤ 140737488355328, slenD (.sl .u8 (a ++ b)) * 1 ≤ 140737488355328, slenD (.sl .u8 (a ++ b ++ c)) * 1 ≤ 140737488355328, slenD (.sl .u8 (a ++ b ++ c ++ d)) * 1 ≤ 140737488355328] (by kernel_rfl) (by repeat' first | exact trivial | omega | (simp only [slenD, SV.slen, List.length_append, List.length_nil]; omega) | refine ⟨?_, ?_⟩) (wkR_of rfl)
theorem pj5_c (a b c d e : List Nat) (h : a.length + b.length + c.length + d.length + e.length ≤ 100000000) : Contract Tryz.prog 46 [.slv 1 [.sl .u8 a, .sl .u8 b, .sl .u8 c, .sl .u8 d, .sl .u8 e]] (.sl .u8 (a ++ b ++ c ++ d ++ e)) := by
  refine contract Tryz.func46 (body := bodyOf Tryz.f46) rfl (by kernel_rfl) (by kernel_rfl) rfl ?_
  intro _ w0 S
  exact hwF mixed ctr0_ok 300 [] (.sl .u8 (a ++ b ++ c ++ d ++ e)) [slenD (.sl .u8 a) * 1 ≤ 140737488355328, slenD (.sl .u8 (a ++ b)) * 1 ≤ 140737488355328, slenD (.sl .u8 (a ++ b ++ c)) * 1 ≤ 140737488355328, slenD (.sl .u8 (a ++ b ++ c ++ d)) * 1 ≤ 140737488355328, slenD (.sl .u8 (a ++ b ++ c ++ d ++ e)) * 1 ≤ 140737488355328] (by kernel_rfl) (by repeat' first | exact trivial | omega | (simp only [slenD, SV.slen, List.length_append, List.length_nil]; omega) | refine ⟨?_, ?_⟩) (wkR_of rfl)
theorem pj_ok : ∀ args res ob, eJoin args = some (res, ob) → All ob → Contract Tryz.prog 46 args res := by
  intro args res ob he hob
  unfold eJoin at he
  split at he
  · split at he
    · rename_i ha
      cases he
      exact slv_argsF (pj1_c _ hob.1) ⟨part_wk ha, rfl⟩ (by simp [SV.size]) rfl
    · cases he
  · split at he
    · rename_i ha hb
      cases he
      exact slv_argsF (pj2_c _ _ hob.1) ⟨part_wk ha, part_wk hb, rfl⟩ (by simp [SV.size]) rfl
    · cases he
  · split at he
    · rename_i ha hb hc
      cases he
      exact slv_argsF (pj3_c _ _ _ hob.1) ⟨part_wk ha, part_wk hb, part_wk hc, rfl⟩ (by simp [SV.size]) rfl
    · cases he
  · split at he
    · rename_i ha hb hc hd
      cases he
      exact slv_argsF (pj4_c _ _ _ _ hob.1) ⟨part_wk ha, part_wk hb, part_wk hc, part_wk hd, rfl⟩ (by simp [SV.size]) rfl
    · cases he
  · split at he
    · rename_i ha hb hc hd he
      cases he
      exact slv_argsF (pj5_c _ _ _ _ _ hob.1) ⟨part_wk ha, part_wk hb, part_wk hc, part_wk hd, part_wk he, rfl⟩ (by simp [SV.size]) rfl
    · cases he
  · cases he
theorem copyZ (s : List Nat) (h : s.length ≤ 64) : List.take 64 s ++ List.drop (min s.length 64) (List.replicate 64 0) = zf s := by
  rw [List.take_of_length_le h, Nat.min_eq_left h, List.drop_replicate]; rfl
def stM : List It := [.lp [0, 1, 0, 1, 1, 1, 1], .blk 0, .at [1, 1, 1, 1, 1]]
def sM (k : List Nat) (m i : Nat) : St := ⟨30, [(1, .u .u8 m), (5, .osl 0 64 1), (17, .c .i64 64), (18, .u .i64 i)], [(0, ⟨5, [.arr .u8 64 (xorL m (k.take i) ++ k.drop i)], false⟩)], 1, 0⟩
section
variable {g h : List Nat → List Nat} (hg : g = sum32) (hh : h = sum64) {w0 : World} {S : Own} {res : SV}
include hg hh
theorem masked_l (k : List Nat) (m : Nat) (hk : k.length = 64) (hr : res = .sl .u8 (xorL m k)) : ∀ d i, 64 - i = d → i ≤ 64 → Hold Tryz.prog (bodyOf Tryz.f62) (Fin Tryz.prog Tryz.f62 w0 S res) w0 S stM (sM k m i) := by
  have hl : ∀ b, (g b).length = 32 := by rw [hg]; exact sum32_len
  intro d
  induction d using Nat.strongRecOn with
  | _ d ih =>
  intro i hd hi
  refine hold_unroll (c := _) rfl ?_
  by_cases hlt : i < 64
  · have e := ih (64 - (i + 1)) (by omega) (i + 1) rfl (by omega)
    refine hwC mixed (okST hg hh) 300 [true] [1,5,17,18] [0] 1 [.lp [0, 1, 0, 1, 1, 1, 1], .blk 0, .at [1, 1, 1, 1, 1]] ⟨30, [(1, .u .u8 m), (5, .osl 0 64 1), (17, .c .i64 64), (18, .u .i64 (i + 1))], [(0, ⟨5, [.arr .u8 64 ((xorL m (List.take i k) ++ List.drop i k).set i ((xorL m (List.take i k) ++ List.drop i k).getD i 0 ^^^ m))], false⟩)], 1, 0⟩ [Decidable.decide (i < 64) = true, i < 64, i < 64, i < 64, i < 64, i + 1 < 9223372036854775808] (by kernel_rfl) (by repeat' first | exact trivial | exact decide_eq_true (by omega) | exact decide_eq_false (by omega) | omega | (simp only [decide_eq_true_eq, decide_eq_false_iff_not, slenD, SV.slen, Option.getD_some, List.length_append, List.length_cons, List.length_nil, List.length_replicate, List.length_take, List.length_drop, xorL_len, k64_len hl, hl, oE_len hl]; omega) | refine ⟨?_, ?_⟩) ?_
    rw [mix_get m k i (by omega), mix_set m k i (by omega)]
    exact e
  · have e : i = 64 := by omega
    subst e
    refine hold_end mixed (okST hg hh) (unroll := false) (f := 300) (sc := [false]) (r := (.sl .u8 (xorL m (List.take 64 k) ++ List.drop 64 k))) (ob := [false = false]) (sc' := []) (by kernel_rfl) (by repeat' first | exact trivial | exact decide_eq_true (by omega) | exact decide_eq_false (by omega) | omega | (simp only [decide_eq_true_eq, decide_eq_false_iff_not, slenD, SV.slen, Option.getD_some, List.length_append, List.length_cons, List.length_nil, List.length_replicate, List.length_take, List.length_drop, xorL_len, k64_len hl, hl, oE_len hl]; omega) | refine ⟨?_, ?_⟩) ?_
    rw [hr, List.take_of_length_le (by omega), List.drop_of_length_le (by omega), List.append_nil]
theorem masked_c (k : List Nat) (m : Nat) (hb : k.length ≤ 1000000) : Contract Tryz.prog 62 [.sl .u8 k, .u .u8 m] (.sl .u8 (xorL m (k64 g k))) := by
  have hl : ∀ b, (g b).length = 32 := by rw [hg]; exact sum32_len
  refine contract Tryz.func62 (body := bodyOf Tryz.f62) rfl (by kernel_rfl) (by kernel_rfl) rfl ?_
  intro _ w0 S
  by_cases h64 : 64 < k.length
  · refine hwC mixed (okST hg hh) 100 [true] [1,5,17,18] [0] 1 [.lp [0, 1, 0, 1, 1, 1, 1], .blk 0, .at [1, 1, 1, 1, 1]] ⟨30, [(1, .u .u8 m), (5, .osl 0 64 1), (17, .c .i64 64), (18, .c .i64 0)], [(0, ⟨5, [.arr .u8 64 (List.take 64 (g k) ++ List.drop (Min.min (g k).length 64) [0, 0, 0, 0, 0, 0, 0, 0, 0, 0, 0, 0, 0, 0, 0, 0, 0, 0, 0, 0, 0, 0, 0, 0, 0, 0, 0, 0, 0, 0, 0, 0, 0, 0, 0, 0, 0, 0, 0, 0, 0, 0, 0, 0, 0, 0, 0, 0, 0, 0, 0, 0, 0, 0, 0, 0, 0, 0, 0, 0, 0, 0, 0, 0])], false⟩)], 1, 0⟩ [Decidable.decide (64 < k.length) = true, k.length ≤ 1000000] (by kernel_rfl) (by repeat' first | exact trivial | exact decide_eq_true (by omega) | exact decide_eq_false (by omega) | omega | (simp only [decide_eq_true_eq, decide_eq_false_iff_not, slenD, SV.slen, Option.getD_some, List.length_append, List.length_cons, List.length_nil, List.length_replicate, List.length_take, List.length_drop, xorL_len, k64_len hl, hl, oE_len hl]; omega) | refine ⟨?_, ?_⟩) ?_
    refine Hold.cast (σ' := ⟨30, [(1, .u .u8 m), (5, .osl 0 64 1), (17, .c .i64 64), (18, .c .i64 0)], [(0, ⟨5, [.arr .u8 64 (zf (g k))], false⟩)], 1, 0⟩) ?_ (by rw [← copyZ (g k) (by rw [hl]; omega)]; kernel_rfl)
    refine Hold.weaken (masked_l hg hh (zf (g k)) m (zf_len (by rw [hl]; omega)) ?_ _ 0 rfl (by omega)) (by simp [wks, wk, wk0, lim, sM])
    unfold k64 kk; rw [if_pos h64]
  · refine hwC mixed (okST hg hh) 100 [false] [1,5,17,18] [0] 1 [.lp [0, 1, 0, 1, 1, 1, 1], .blk 0, .at [1, 1, 1, 1, 1]] ⟨30, [(1, .u .u8 m), (5, .osl 0 64 1), (17, .c .i64 64), (18, .c .i64 0)], [(0, ⟨5, [.arr .u8 64 (List.take 64 k ++ List.drop (Min.min k.length 64) [0, 0, 0, 0, 0, 0, 0, 0, 0, 0, 0, 0, 0, 0, 0, 0, 0, 0, 0, 0, 0, 0, 0, 0, 0, 0, 0, 0, 0, 0, 0, 0, 0, 0, 0, 0, 0, 0, 0, 0, 0, 0, 0, 0, 0, 0, 0, 0, 0, 0, 0, 0, 0, 0, 0, 0, 0, 0, 0, 0, 0, 0, 0, 0])], false⟩)], 1, 0⟩ [Decidable.decide (64 < k.length) = false] (by kernel_rfl) (by repeat' first | exact trivial | exact decide_eq_true (by omega) | exact decide_eq_false (by omega) | omega | (simp only [decide_eq_true_eq, decide_eq_false_iff_not, slenD, SV.slen, Option.getD_some, List.length_append, List.length_cons, List.length_nil, List.length_replicate, List.length_take, List.length_drop, xorL_len, k64_len hl, hl, oE_len hl]; omega) | refine ⟨?_, ?_⟩) ?_
    refine Hold.cast (σ' := ⟨30, [(1, .u .u8 m), (5, .osl 0 64 1), (17, .c .i64 64), (18, .c .i64 0)], [(0, ⟨5, [.arr .u8 64 (zf (k))], false⟩)], 1, 0⟩) ?_ (by rw [← copyZ k (by omega)]; kernel_rfl)
    refine Hold.weaken (masked_l hg hh (zf k) m (zf_len (by omega)) ?_ _ 0 rfl (by omega)) (by simp [wks, wk, wk0, lim, sM])
    unfold k64 kk; rw [if_neg h64]
def eMask (g : List Nat → List Nat) (args : List SV) : Option (SV × List Prop) :=
  match args with
  | [x, y] => match part? x, y.nat? with
    | some k, some (.u8, m) => some (.sl .u8 (xorL m (k64 g k)), [k.length ≤ 1000000])
    | _, _ => none
  | _ => none
def eHm (g : List Nat → List Nat) (args : List SV) : Option (SV × List Prop) :=
  match args with
  | [x, y] => match part? x, part? y with
    | some k, some b => some (.sl .u8 (hm g k b), [k.length ≤ 900000, b.length ≤ 900000])
    | _, _ => none
  | _ => none
noncomputable def KT1 (g h : List Nat → List Nat) : Ctr := addC 62 (eMask g) (addC 46 eJoin (ST g h))
theorem okKT1 : CtrOk Tryz.prog (KT1 g h) := by
  refine addC_ok (addC_ok (okST hg hh) pj_ok) ?_
  intro args res ob he hob
  unfold eMask at he
  split at he
  · split at he
    · rename_i hx hy
      cases he
      exact Contract.argsRF (masked_c hg hh _ _ hob.1) (fun ⟨v, t, e, h1, v2, t2, e2, h2, h3⟩ => ⟨v, t, e, part_R hx h1, v2, t2, e2, nat?_wk hy h2, h3⟩)
    · cases he
  · cases he
theorem hmac_c (k b : List Nat) (hk : k.length ≤ 900000) (hb : b.length ≤ 900000) : Contract Tryz.prog 44 [.sl .u8 k, .sl .u8 b] (.sl .u8 (hm g k b)) := by
  have hl : ∀ b, (g b).length = 32 := by rw [hg]; exact sum32_len
  refine contract Tryz.func44 (body := bodyOf Tryz.f44) rfl (by kernel_rfl) (by kernel_rfl) rfl ?_
  intro _ w0 S
  exact hwF mixed (okKT1 hg hh) 100 [] (.sl .u8 (g (xorL 92 (k64 g k) ++ g (xorL 54 (k64 g k) ++ b)))) [k.length ≤ 1000000, k.length ≤ 1000000, (xorL 54 (k64 g k)).length + b.length ≤ 100000000, (xorL 54 (k64 g k) ++ b).length ≤ 1000000, (xorL 92 (k64 g k)).length + (g (xorL 54 (k64 g k) ++ b)).length ≤ 100000000, (xorL 92 (k64 g k) ++ g (xorL 54 (k64 g k) ++ b)).length ≤ 1000000] (by kernel_rfl) (by repeat' first | exact trivial | exact decide_eq_true (by omega) | exact decide_eq_false (by omega) | omega | (simp only [decide_eq_true_eq, decide_eq_false_iff_not, slenD, SV.slen, Option.getD_some, List.length_append, List.length_cons, List.length_nil, List.length_replicate, List.length_take, List.length_drop, xorL_len, k64_len hl, hl, oE_len hl]; omega) | refine ⟨?_, ?_⟩) (wkR_of rfl)
end
theorem eHm_ok {P : Program} {f : FuncId} {g : List Nat → List Nat} (h : ∀ k b : List Nat, k.length ≤ 900000 → b.length ≤ 900000 → Contract P f [.sl .u8 k, .sl .u8 b] (.sl .u8 (hm g k b))) : ∀ args res ob, eHm g args = some (res, ob) → All ob → Contract P f args res := by
  intro args res ob he hob
  unfold eHm at he
  split at he
  · split at he
    · rename_i hx hy
      cases he
      exact Contract.argsF (h _ _ hob.1 hob.2.1) ⟨wk_of0 (part_wk hx), wk_of0 (part_wk hy), rfl⟩
    · cases he
  · cases he
end Go.Eng.B

namespace Go.Eng.B
open Go Go.Eng Go.Proofs
set_option maxRecDepth 100000
theorem qj1_c (a : List Nat) (h : a.length ≤ 100000000) : Contract Tryz.prog 47 [.slv 1 [.sl .u8 a]] (.sl .u8 (a)) := by
  refine contract Tryz.func47 (body := bodyOf Tryz.f47) rfl (by kernel_rfl) (by kernel_rfl) rfl ?_
  intro _ w0 S
  exact hwF mixed ctr0_ok 300 [] (.sl .u8 a) [slenD (.sl .u8 a) * 1 ≤ 140737488355328] (by kernel_rfl) (by repeat' first | exact trivial | omega | (simp only [slenD, SV.slen, List.length_append, List.length_nil]; omega) | refine ⟨?_, ?_⟩) (wkR_of rfl)
theorem qj2_c (a b : List Nat) (h : a.length + b.length ≤ 100000000) : Contract Tryz.prog 47 [.slv 1 [.sl .u8 a, .sl .u8 b]] (.sl .u8 (a ++ b)) := by
  refine contract Tryz.func47 (body := bodyOf Tryz.f47) rfl (by kernel_rfl) (by kernel_rfl) rfl ?_
  intro _ w0 S
  exact hwF mixed ctr0_ok 300 [] (.sl .u8 (a ++ b)) [slenD (.sl .u8 a) * 1 ≤ 140737488355328, slenD (.sl .u8 (a ++ b)) * 1 ≤ 140737488355328] (by kernel_rfl) (by repeat' first | exact trivial | omega | (simp only [slenD, SV.slen, List.length_append, List.length_nil]; omega) | refine ⟨?_, ?_⟩) (wkR_of rfl)
theorem qj3_c (a b c : List Nat) (h : a.length + b.length + c.length ≤ 100000000) : Contract Tryz.prog 47 [.slv 1 [.sl .u8 a, .sl .u8 b, .sl .u8 c]] (.sl .u8 (a ++ b ++ c)) := by
  refine contract Tryz.func47 (body := bodyOf Tryz.f47) rfl (by kernel_rfl) (by kernel_rfl) rfl ?_
  intro _ w0 S
  exact hwF mixed ctr0_ok 300 [] (.sl .u8 (a ++ b ++ c)) [slenD (.sl .u8 a) * 1 ≤ 140737488355328, slenD (.sl .u8 (a ++ b)) * 1 ≤ 140737488355328, slenD (.sl .u8 (a ++ b ++ c)) * 1 ≤ 140737488355328] (by kernel_rfl) (by repeat' first | exact trivial | omega | (simp only [slenD, SV.slen, List.length_append, List.length_nil]; omega) | refine ⟨?_, ?_⟩) (wkR_of rfl)
theorem qj4_c (a b c d : List Nat) (h : a.length + b.length + c.length + d.length ≤ 100000000) : Contract Tryz.prog 47 [.slv 1 [.sl .u8 a, .sl .u8 b, .sl .u8 c, .sl .u8 d]] (.sl .u8 (a ++ b ++ c ++ d)) := by
  refine contract Tryz.func47 (body := bodyOf Tryz.f47) rfl (by kernel_rfl) (by kernel_rfl) rfl ?_
  intro _ w0 S
  exact hwF mixed ctr0_ok 300 [] (.sl .u8 (a ++ b ++ c ++ d)) [slenD (.sl .u8 a) * 1 ≤ 140737488355328, slenD (.sl .u8 (a ++ b)) * 1 ≤ 140737488355328, slenD (.sl .u8 (a ++ b ++ c)) * 1 ≤ 140737488355328, slenD (.sl .u8 (a ++ b ++ c ++ d)) * 1 ≤ 140737488355328] (by kernel_rfl) (by repeat' first | exact trivial | omega | (simp only [slenD, SV.slen, List.length_append, List.length_nil]; omega) | refine ⟨?_, ?_⟩) (wkR_of rfl)
theorem qj5_c (a b c d e : List Nat) (h : a.length + b.length + c.length + d.length + e.length ≤ 100000000) : Contract Tryz.prog 47 [.slv 1 [.sl .u8 a, .sl .u8 b, .sl .u8 c, .sl .u8 d, .sl .u8 e]] (.sl .u8 (a ++ b ++ c ++ d ++ e)) := by
  refine contract Tryz.func47 (body := bodyOf Tryz.f47) rfl (by kernel_rfl) (by kernel_rfl) rfl ?_
  intro _ w0 S
  exact hwF mixed ctr0_ok 300 [] (.sl .u8 (a ++ b ++ c ++ d ++ e)) [slenD (.sl .u8 a) * 1 ≤ 140737488355328, slenD (.sl .u8 (a ++ b)) * 1 ≤ 140737488355328, slenD (.sl .u8 (a ++ b ++ c)) * 1 ≤ 140737488355328, slenD (.sl .u8 (a ++ b ++ c ++ d)) * 1 ≤ 140737488355328, slenD (.sl .u8 (a ++ b ++ c ++ d ++ e)) * 1 ≤ 140737488355328] (by kernel_rfl) (by repeat' first | exact trivial | omega | (simp only [slenD, SV.slen, List.length_append, List.length_nil]; omega) | refine ⟨?_, ?_⟩) (wkR_of rfl)
theorem qj_ok : ∀ args res ob, eJoin args = some (res, ob) → All ob → Contract Tryz.prog 47 args res := by
  intro args res ob he hob
  unfold eJoin at he
  split at he
  · split at he
    · rename_i ha
      cases he
      exact slv_argsF (qj1_c _ hob.1) ⟨part_wk ha, rfl⟩ (by simp [SV.size]) rfl
    · cases he
  · split at he
    · rename_i ha hb
      cases he
      exact slv_argsF (qj2_c _ _ hob.1) ⟨part_wk ha, part_wk hb, rfl⟩ (by simp [SV.size]) rfl
    · cases he
  · split at he
    · rename_i ha hb hc
      cases he
      exact slv_argsF (qj3_c _ _ _ hob.1) ⟨part_wk ha, part_wk hb, part_wk hc, rfl⟩ (by simp [SV.size]) rfl
    · cases he
  · split at he
    · rename_i ha hb hc hd
      cases he
      exact slv_argsF (qj4_c _ _ _ _ hob.1) ⟨part_wk ha, part_wk hb, part_wk hc, part_wk hd, rfl⟩ (by simp [SV.size]) rfl
    · cases he
  · split at he
    · rename_i ha hb hc hd he
      cases he
      exact slv_argsF (qj5_c _ _ _ _ _ hob.1) ⟨part_wk ha, part_wk hb, part_wk hc, part_wk hd, part_wk he, rfl⟩ (by simp [SV.size]) rfl
    · cases he
  · cases he
def sn : List It := [.lp [0, 0, 1, 1, 1], .blk 0, .at [1, 1, 1, 1]]
def sn2 : List It := [.lp [0, 1, 0, 1, 1, 1, 1, 1], .blk 2, .at [1, 1, 1, 1, 1, 1]]
def sH0 (b K : List Nat) (j : Nat) : St := ⟨47, [(1, .sl .u8 b), (5, .row 0 (.sl .u8 (K ++ List.replicate j 0)))], [(0, bY)], 3, 0⟩
def sI0 (b K : List Nat) (i : Nat) : St := ⟨47, [(1, .sl .u8 b), (6, .row 3 (.sl .u8 (xorL 54 (K.take i)))), (7, .row 6 (.sl .u8 (xorL 92 (K.take i)))), (23, .row 0 (.sl .u8 K)), (24, .u .i64 K.length), (25, .u .i64 i)], [(0, bY), (3, bY), (6, bY)], 9, 0⟩
def sH3 (b K : List Nat) (j : Nat) : St := ⟨47, [(1, .sl .u8 b), (5, .row 3 (.sl .u8 (K ++ List.replicate j 0)))], [(3, bY)], 6, 0⟩
def sI3 (b K : List Nat) (i : Nat) : St := ⟨47, [(1, .sl .u8 b), (6, .row 6 (.sl .u8 (xorL 54 (K.take i)))), (7, .row 9 (.sl .u8 (xorL 92 (K.take i)))), (23, .row 3 (.sl .u8 K)), (24, .u .i64 K.length), (25, .u .i64 i)], [(3, bY), (6, bY), (9, bY)], 12, 0⟩
section
variable {g h : List Nat → List Nat} (hg : g = sum32) (hh : h = sum64) {w0 : World} {S : Own} {res : SV}
theorem rep_succ (K : List Nat) (j : Nat) : K ++ List.replicate j 0 ++ [0] = K ++ List.replicate (j + 1) 0 := by
  rw [List.append_assoc, List.replicate_succ']
include hg hh
theorem qI0 (b K : List Nat) (hK : K.length = 64) (hb : b.length ≤ 900000) (hr : res = .sl .u8 (g (xorL 92 K ++ g (xorL 54 K ++ b)))) : ∀ d i, 64 - i = d → i ≤ 64 → Hold Tryz.prog (bodyOf Tryz.f45) (Fin Tryz.prog Tryz.f45 w0 S res) w0 S sn2 (sI0 b K i) := by
  have hl : ∀ b, (g b).length = 32 := by rw [hg]; exact sum32_len
  intro d
  induction d using Nat.strongRecOn with
  | _ d ih =>
  intro i hd hi
  refine hold_unroll (c := _) rfl ?_
  by_cases hlt : i < 64
  · have e := ih (64 - (i + 1)) (by omega) (i + 1) rfl (by omega)
    have e1 := xorL_take 54 K i (by omega)
    have e2 := xorL_take 92 K i (by omega)
    refine hwC mixed (okSR hg hh) 300 [true] [1,6,7,23,24,25] [0,3,6] 9 [.lp [0, 1, 0, 1, 1, 1, 1, 1], .blk 2, .at [1, 1, 1, 1, 1, 1]] ⟨47, [(1, .sl .u8 b), (6, .row 3 (.sl .u8 (xorL 54 (List.take i K) ++ [K.getD i 0 ^^^ 54]))), (7, .row 6 (.sl .u8 (xorL 92 (List.take i K) ++ [K.getD i 0 ^^^ 92]))), (23, .row 0 (.sl .u8 K)), (24, .u .i64 K.length), (25, .u .i64 (i + 1))], [(0, ⟨5, [], true⟩), (3, ⟨5, [], true⟩), (6, ⟨5, [], true⟩)], 9, 0⟩ [Decidable.decide (i < K.length) = true, i < K.length, slenD (.sl .u8 (xorL 54 (List.take i K) ++ [K.getD i 0 ^^^ 54])) * 1 ≤ 140737488355328, slenD (.sl .u8 (xorL 92 (List.take i K) ++ [K.getD i 0 ^^^ 92])) * 1 ≤ 140737488355328, i + 1 < 9223372036854775808] (by kernel_rfl) (by repeat' first | exact trivial | exact decide_eq_true (by omega) | exact decide_eq_false (by omega) | omega | (simp only [decide_eq_true_eq, decide_eq_false_iff_not, slenD, SV.slen, Option.getD_some, List.length_append, List.length_cons, List.length_nil, List.length_replicate, List.length_take, List.length_drop, xorL_len, k64_len hl, hl, oE_len hl]; omega) | refine ⟨?_, ?_⟩) ?_
    rw [← e1, ← e2]
    exact e
  · have e : i = 64 := by omega
    subst e
    refine hold_end mixed (okSR hg hh) (unroll := false) (f := 300) (sc := [false]) (r := (.sl .u8 (g (xorL 92 (List.take 64 K) ++ g (xorL 54 (List.take 64 K) ++ b))))) (ob := [Decidable.decide (64 < K.length) = false, slenD (.sl .u8 (xorL 54 (List.take 64 K) ++ b)) * 1 ≤ 140737488355328, (xorL 54 (List.take 64 K) ++ b).length ≤ 1000000, slenD (.sl .u8 (xorL 92 (List.take 64 K) ++ g (xorL 54 (List.take 64 K) ++ b))) * 1 ≤ 140737488355328, (xorL 92 (List.take 64 K) ++ g (xorL 54 (List.take 64 K) ++ b)).length ≤ 1000000]) (sc' := []) (by kernel_rfl) (by repeat' first | exact trivial | exact decide_eq_true (by omega) | exact decide_eq_false (by omega) | omega | (simp only [decide_eq_true_eq, decide_eq_false_iff_not, slenD, SV.slen, Option.getD_some, List.length_append, List.length_cons, List.length_nil, List.length_replicate, List.length_take, List.length_drop, xorL_len, k64_len hl, hl, oE_len hl]; omega) | refine ⟨?_, ?_⟩) ?_
    rw [hr, List.take_of_length_le (by omega)]
theorem qH0 (b K : List Nat) (hK : K.length ≤ 64) (hb : b.length ≤ 900000) (hr : res = .sl .u8 (g (xorL 92 (zf K) ++ g (xorL 54 (zf K) ++ b)))) : ∀ d j, 64 - K.length - j = d → j ≤ 64 - K.length → Hold Tryz.prog (bodyOf Tryz.f45) (Fin Tryz.prog Tryz.f45 w0 S res) w0 S sn (sH0 b K j) := by
  have hl : ∀ b, (g b).length = 32 := by rw [hg]; exact sum32_len
  intro d
  induction d using Nat.strongRecOn with
  | _ d ih =>
  intro j hd hj
  refine hold_unroll (c := _) rfl ?_
  by_cases hlt : j < 64 - K.length
  · have e := ih (64 - K.length - (j + 1)) (by omega) (j + 1) rfl (by omega)
    refine hwC mixed (okSR hg hh) 300 [true] [1,5] [0] 3 [.lp [0, 0, 1, 1, 1], .blk 0, .at [1, 1, 1, 1]] ⟨47, [(1, .sl .u8 b), (5, .row 0 (.sl .u8 (K ++ List.replicate j 0 ++ [0])))], [(0, ⟨5, [], true⟩)], 3, 0⟩ [Decidable.decide ((K ++ List.replicate j 0).length < 64) = true, slenD (.sl .u8 (K ++ List.replicate j 0 ++ [0])) * 1 ≤ 140737488355328] (by kernel_rfl) (by repeat' first | exact trivial | exact decide_eq_true (by omega) | exact decide_eq_false (by omega) | omega | (simp only [decide_eq_true_eq, decide_eq_false_iff_not, slenD, SV.slen, Option.getD_some, List.length_append, List.length_cons, List.length_nil, List.length_replicate, List.length_take, List.length_drop, xorL_len, k64_len hl, hl, oE_len hl]; omega) | refine ⟨?_, ?_⟩) ?_
    rw [rep_succ]
    exact e
  · have e : K ++ List.replicate j 0 = zf K := by unfold zf; congr 2; omega
    refine hwC mixed (okSR hg hh) 300 [false] [1,6,7,23,24,25] [0] 3 [.lp [0, 1, 0, 1, 1, 1, 1, 1], .blk 2, .at [1, 1, 1, 1, 1, 1]] ⟨47, [(1, .sl .u8 b), (6, .nil), (7, .nil), (23, .row 0 (.sl .u8 (K ++ List.replicate j 0))), (24, .u .i64 (K ++ List.replicate j 0).length), (25, .c .i64 0)], [(0, ⟨5, [], true⟩)], 3, 0⟩ [Decidable.decide ((K ++ List.replicate j 0).length < 64) = false] (by kernel_rfl) (by repeat' first | exact trivial | exact decide_eq_true (by omega) | exact decide_eq_false (by omega) | omega | (simp only [decide_eq_true_eq, decide_eq_false_iff_not, slenD, SV.slen, Option.getD_some, List.length_append, List.length_cons, List.length_nil, List.length_replicate, List.length_take, List.length_drop, xorL_len, k64_len hl, hl, oE_len hl]; omega) | refine ⟨?_, ?_⟩) ?_
    rw [e]
    refine hold_nil (t := 6) (e := 5) (s0 := .sl .u8 []) rfl ?_
    refine hold_nil (t := 7) (e := 5) (s0 := .sl .u8 []) rfl ?_
    refine hold_restrict (ks := [1,6,7,23,24,25]) (bs := [0,3,6]) (nx := 9) rfl ?_
    exact Hold.weaken (qI0 hg hh b (zf K) (zf_len hK) hb hr _ 0 rfl (by omega)) (by simp [wks, wk, wk0, lim, sI0, xorL, nilRow])
theorem qI3 (b K : List Nat) (hK : K.length = 64) (hb : b.length ≤ 900000) (hr : res = .sl .u8 (g (xorL 92 K ++ g (xorL 54 K ++ b)))) : ∀ d i, 64 - i = d → i ≤ 64 → Hold Tryz.prog (bodyOf Tryz.f45) (Fin Tryz.prog Tryz.f45 w0 S res) w0 S sn2 (sI3 b K i) := by
  have hl : ∀ b, (g b).length = 32 := by rw [hg]; exact sum32_len
  intro d
  induction d using Nat.strongRecOn with
  | _ d ih =>
  intro i hd hi
  refine hold_unroll (c := _) rfl ?_
  by_cases hlt : i < 64
  · have e := ih (64 - (i + 1)) (by omega) (i + 1) rfl (by omega)
    have e1 := xorL_take 54 K i (by omega)
    have e2 := xorL_take 92 K i (by omega)
    refine hwC mixed (okSR hg hh) 300 [true] [1,6,7,23,24,25] [3,6,9] 12 [.lp [0, 1, 0, 1, 1, 1, 1, 1], .blk 2, .at [1, 1, 1, 1, 1, 1]] ⟨47, [(1, .sl .u8 b), (6, .row 6 (.sl .u8 (xorL 54 (List.take i K) ++ [K.getD i 0 ^^^ 54]))), (7, .row 9 (.sl .u8 (xorL 92 (List.take i K) ++ [K.getD i 0 ^^^ 92]))), (23, .row 3 (.sl .u8 K)), (24, .u .i64 K.length), (25, .u .i64 (i + 1))], [(3, ⟨5, [], true⟩), (6, ⟨5, [], true⟩), (9, ⟨5, [], true⟩)], 12, 0⟩ [Decidable.decide (i < K.length) = true, i < K.length, slenD (.sl .u8 (xorL 54 (List.take i K) ++ [K.getD i 0 ^^^ 54])) * 1 ≤ 140737488355328, slenD (.sl .u8 (xorL 92 (List.take i K) ++ [K.getD i 0 ^^^ 92])) * 1 ≤ 140737488355328, i + 1 < 9223372036854775808] (by kernel_rfl) (by repeat' first | exact trivial | exact decide_eq_true (by omega) | exact decide_eq_false (by omega) | omega | (simp only [decide_eq_true_eq, decide_eq_false_iff_not, slenD, SV.slen, Option.getD_some, List.length_append, List.length_cons, List.length_nil, List.length_replicate, List.length_take, List.length_drop, xorL_len, k64_len hl, hl, oE_len hl]; omega) | refine ⟨?_, ?_⟩) ?_
    rw [← e1, ← e2]
    exact e
  · have e : i = 64 := by omega
    subst e
    refine hold_end mixed (okSR hg hh) (unroll := false) (f := 300) (sc := [false]) (r := (.sl .u8 (g (xorL 92 (List.take 64 K) ++ g (xorL 54 (List.take 64 K) ++ b))))) (ob := [Decidable.decide (64 < K.length) = false, slenD (.sl .u8 (xorL 54 (List.take 64 K) ++ b)) * 1 ≤ 140737488355328, (xorL 54 (List.take 64 K) ++ b).length ≤ 1000000, slenD (.sl .u8 (xorL 92 (List.take 64 K) ++ g (xorL 54 (List.take 64 K) ++ b))) * 1 ≤ 140737488355328, (xorL 92 (List.take 64 K) ++ g (xorL 54 (List.take 64 K) ++ b)).length ≤ 1000000]) (sc' := []) (by kernel_rfl) (by repeat' first | exact trivial | exact decide_eq_true (by omega) | exact decide_eq_false (by omega) | omega | (simp only [decide_eq_true_eq, decide_eq_false_iff_not, slenD, SV.slen, Option.getD_some, List.length_append, List.length_cons, List.length_nil, List.length_replicate, List.length_take, List.length_drop, xorL_len, k64_len hl, hl, oE_len hl]; omega) | refine ⟨?_, ?_⟩) ?_
    rw [hr, List.take_of_length_le (by omega)]
theorem qH3 (b K : List Nat) (hK : K.length ≤ 64) (hb : b.length ≤ 900000) (hr : res = .sl .u8 (g (xorL 92 (zf K) ++ g (xorL 54 (zf K) ++ b)))) : ∀ d j, 64 - K.length - j = d → j ≤ 64 - K.length → Hold Tryz.prog (bodyOf Tryz.f45) (Fin Tryz.prog Tryz.f45 w0 S res) w0 S sn (sH3 b K j) := by
  have hl : ∀ b, (g b).length = 32 := by rw [hg]; exact sum32_len
  intro d
  induction d using Nat.strongRecOn with
  | _ d ih =>
  intro j hd hj
  refine hold_unroll (c := _) rfl ?_
  by_cases hlt : j < 64 - K.length
  · have e := ih (64 - K.length - (j + 1)) (by omega) (j + 1) rfl (by omega)
    refine hwC mixed (okSR hg hh) 300 [true] [1,5] [3] 6 [.lp [0, 0, 1, 1, 1], .blk 0, .at [1, 1, 1, 1]] ⟨47, [(1, .sl .u8 b), (5, .row 3 (.sl .u8 (K ++ List.replicate j 0 ++ [0])))], [(3, ⟨5, [], true⟩)], 6, 0⟩ [Decidable.decide ((K ++ List.replicate j 0).length < 64) = true, slenD (.sl .u8 (K ++ List.replicate j 0 ++ [0])) * 1 ≤ 140737488355328] (by kernel_rfl) (by repeat' first | exact trivial | exact decide_eq_true (by omega) | exact decide_eq_false (by omega) | omega | (simp only [decide_eq_true_eq, decide_eq_false_iff_not, slenD, SV.slen, Option.getD_some, List.length_append, List.length_cons, List.length_nil, List.length_replicate, List.length_take, List.length_drop, xorL_len, k64_len hl, hl, oE_len hl]; omega) | refine ⟨?_, ?_⟩) ?_
    rw [rep_succ]
    exact e
  · have e : K ++ List.replicate j 0 = zf K := by unfold zf; congr 2; omega
    refine hwC mixed (okSR hg hh) 300 [false] [1,6,7,23,24,25] [3] 6 [.lp [0, 1, 0, 1, 1, 1, 1, 1], .blk 2, .at [1, 1, 1, 1, 1, 1]] ⟨47, [(1, .sl .u8 b), (6, .nil), (7, .nil), (23, .row 3 (.sl .u8 (K ++ List.replicate j 0))), (24, .u .i64 (K ++ List.replicate j 0).length), (25, .c .i64 0)], [(3, ⟨5, [], true⟩)], 6, 0⟩ [Decidable.decide ((K ++ List.replicate j 0).length < 64) = false] (by kernel_rfl) (by repeat' first | exact trivial | exact decide_eq_true (by omega) | exact decide_eq_false (by omega) | omega | (simp only [decide_eq_true_eq, decide_eq_false_iff_not, slenD, SV.slen, Option.getD_some, List.length_append, List.length_cons, List.length_nil, List.length_replicate, List.length_take, List.length_drop, xorL_len, k64_len hl, hl, oE_len hl]; omega) | refine ⟨?_, ?_⟩) ?_
    rw [e]
    refine hold_nil (t := 6) (e := 5) (s0 := .sl .u8 []) rfl ?_
    refine hold_nil (t := 7) (e := 5) (s0 := .sl .u8 []) rfl ?_
    refine hold_restrict (ks := [1,6,7,23,24,25]) (bs := [3,6,9]) (nx := 12) rfl ?_
    exact Hold.weaken (qI3 hg hh b (zf K) (zf_len hK) hb hr _ 0 rfl (by omega)) (by simp [wks, wk, wk0, lim, sI3, xorL, nilRow])
theorem qhmac_c (k b : List Nat) (hk : k.length ≤ 900000) (hb : b.length ≤ 900000) : Contract Tryz.prog 45 [.sl .u8 k, .sl .u8 b] (.sl .u8 (hm g k b)) := by
  have hl : ∀ b, (g b).length = 32 := by rw [hg]; exact sum32_len
  refine contract Tryz.func45 (body := bodyOf Tryz.f45) rfl (by kernel_rfl) (by kernel_rfl) rfl ?_
  intro _ w0 S
  by_cases h64 : 64 < k.length
  · refine hwC mixed (okSR hg hh) 100 [true] [1,5] [3] 6 [.lp [0, 0, 1, 1, 1], .blk 0, .at [1, 1, 1, 1]] ⟨47, [(1, .sl .u8 b), (5, .row (backM [] 3 0) (.sl .u8 (g k)))], [(3, ⟨5, [], true⟩)], 6, 0⟩ [slenD (.sl .u8 k) * 1 ≤ 140737488355328, Decidable.decide (64 < k.length) = true, k.length ≤ 1000000] (by kernel_rfl) (by repeat' first | exact trivial | exact decide_eq_true (by omega) | exact decide_eq_false (by omega) | omega | (simp only [decide_eq_true_eq, decide_eq_false_iff_not, slenD, SV.slen, Option.getD_some, List.length_append, List.length_cons, List.length_nil, List.length_replicate, List.length_take, List.length_drop, xorL_len, k64_len hl, hl, oE_len hl]; omega) | refine ⟨?_, ?_⟩) ?_
    have e := qH3 (res := .sl .u8 (hm g k b)) (w0 := w0) (S := S) hg hh b (g k) (by rw [hl]; omega) hb (by unfold hm k64 kk; rw [if_pos h64]) _ 0 rfl (by omega)
    exact e.cast (by first | (simp [sH3, bY, backM]; done) | rfl)
  · refine hwC mixed (okSR hg hh) 100 [false] [1,5] [0] 3 [.lp [0, 0, 1, 1, 1], .blk 0, .at [1, 1, 1, 1]] ⟨47, [(1, .sl .u8 b), (5, .row 0 (.sl .u8 k))], [(0, ⟨5, [], true⟩)], 3, 0⟩ [slenD (.sl .u8 k) * 1 ≤ 140737488355328, Decidable.decide (64 < k.length) = false] (by kernel_rfl) (by repeat' first | exact trivial | exact decide_eq_true (by omega) | exact decide_eq_false (by omega) | omega | (simp only [decide_eq_true_eq, decide_eq_false_iff_not, slenD, SV.slen, Option.getD_some, List.length_append, List.length_cons, List.length_nil, List.length_replicate, List.length_take, List.length_drop, xorL_len, k64_len hl, hl, oE_len hl]; omega) | refine ⟨?_, ?_⟩) ?_
    have e := qH0 (res := .sl .u8 (hm g k b)) (w0 := w0) (S := S) hg hh b k (by omega) hb (by unfold hm k64 kk; rw [if_neg h64]) _ 0 rfl (by omega)
    exact e.cast (by first | (simp [sH0, bY]; done) | rfl)
end
end Go.Eng.B

namespace Go.Eng.B
open Go Go.Eng Go.Proofs
set_option maxRecDepth 100000
def eErr (n : Int) : Nat := if okE n = true then 0 else 1
def sE (prk info : List Nat) (g : List Nat → List Nat) (n : Int) (i : Nat) (nt : Nat) : St := ⟨nt, [(0, .sl .u8 prk), (1, .sl .u8 info), (2, .i .i64 n), (8, .row 0 (.sl .u8 (oE g prk info i))), (9, .sl .u8 (tE g prk info i)), (10, .u .i64 (i + 1))], [(0, bY)], 3, 0⟩
def stE : List It := [.lp [0, 1, 0, 1, 1, 1], .blk 0, .at [1, 1, 1, 1]]
noncomputable def KT3 (g h : List Nat → List Nat) : Ctr := addC 44 (eHm g) (addC 45 (eHm g) (addC 25 (eHm g) (addC 26 (eHm g) (addC 46 eJoin (addC 47 eJoin (ST g h))))))
noncomputable def KT2a (g h : List Nat → List Nat) : Ctr := addC 44 (eHm g) (addC 45 (eHm g) (ST g h))
section
variable {g h : List Nat → List Nat} (hg : g = sum32) (hh : h = sum64) {w0 : World} {S : Own} {res : SV}
include hg hh
theorem okKT2a : CtrOk Tryz.prog (KT2a g h) := addC_ok (addC_ok (okST hg hh) (eHm_ok (qhmac_c hg hh))) (eHm_ok (hmac_c hg hh))
theorem extract_c (k b : List Nat) (hk : k.length ≤ 900000) (hb : b.length ≤ 900000) : Contract Tryz.prog 25 [.sl .u8 k, .sl .u8 b] (.sl .u8 (hm g k b)) := by
  refine contract Tryz.func25 (body := bodyOf Tryz.f25) rfl (by kernel_rfl) (by kernel_rfl) rfl ?_
  intro _ w0 S
  exact hwF mixed (okKT2a hg hh) 100 [] (.sl .u8 (hm g k b)) [k.length ≤ 900000, b.length ≤ 900000] (by kernel_rfl) (by repeat' first | exact trivial | omega | refine ⟨?_, ?_⟩) (wkR_of rfl)
theorem qextract_c (k b : List Nat) (hk : k.length ≤ 900000) (hb : b.length ≤ 900000) : Contract Tryz.prog 26 [.sl .u8 k, .sl .u8 b] (.sl .u8 (hm g k b)) := by
  refine contract Tryz.func26 (body := bodyOf Tryz.f26) rfl (by kernel_rfl) (by kernel_rfl) rfl ?_
  intro _ w0 S
  exact hwF mixed (okKT2a hg hh) 100 [] (.sl .u8 (hm g k b)) [k.length ≤ 900000, b.length ≤ 900000] (by kernel_rfl) (by repeat' first | exact trivial | omega | refine ⟨?_, ?_⟩) (wkR_of rfl)
theorem okKT3 : CtrOk Tryz.prog (KT3 g h) := addC_ok (addC_ok (addC_ok (addC_ok (addC_ok (addC_ok (okST hg hh) qj_ok) pj_ok) (eHm_ok (qextract_c hg hh))) (eHm_ok (extract_c hg hh))) (eHm_ok (qhmac_c hg hh))) (eHm_ok (hmac_c hg hh))
theorem expand_l (prk info : List Nat) (n : Int) (hn : okE n = true) (hp : prk.length ≤ 900000) (hi : info.length ≤ 800000) (hr : res = .tup [.sl .u8 (expE g prk info n), .u .i64 0]) : ∀ d i, nE n - i = d → i ≤ nE n → Hold Tryz.prog (bodyOf Tryz.f27) (Fin Tryz.prog Tryz.f27 w0 S res) w0 S stE (sE prk info g n i 39) := by
  have hl : ∀ b, (g b).length = 32 := by rw [hg]; exact sum32_len
  have hn' : 0 ≤ n ∧ n ≤ 8160 := by simpa [okE] using hn
  intro d
  induction d using Nat.strongRecOn with
  | _ d ih =>
  intro i hd hi'
  have ho := oE_len hl prk info i
  have ht : (tE g prk info i).length ≤ 32 := by cases i with | zero => simp [tE] | succ i => rw [tE_len hl]; omega
  have hx : nE n = (n.toNat + 31) / 32 := rfl
  refine hold_unroll (c := _) rfl ?_
  by_cases hlt : i < nE n
  · have e := ih (nE n - (i + 1)) (by omega) (i + 1) rfl (by omega)
    refine hwC mixed (okKT3 hg hh) 300 [true] [0,1,2,8,9,10] [0] 3 [.lp [0, 1, 0, 1, 1, 1], .blk 0, .at [1, 1, 1, 1]] ⟨39, [(0, .sl .u8 prk), (1, .sl .u8 info), (2, .i .i64 n), (8, .row 0 (.sl .u8 (oE g prk info i ++ hm g prk (tE g prk info i ++ info ++ [(i + 1) % 256])))), (9, .sl .u8 (hm g prk (tE g prk info i ++ info ++ [(i + 1) % 256]))), (10, .u .i64 (i + 1 + 1))], [(0, ⟨5, [], true⟩)], 3, 0⟩ [Decidable.decide ((↑(oE g prk info i).length : Int) < n) = true, (tE g prk info i).length + info.length + [(i + 1) % 256].length ≤ 100000000, prk.length ≤ 900000, (tE g prk info i ++ info ++ [(i + 1) % 256]).length ≤ 900000, slenD (.sl .u8 (oE g prk info i ++ hm g prk (tE g prk info i ++ info ++ [(i + 1) % 256]))) * 1 ≤ 140737488355328, i + 1 + 1 < 9223372036854775808] (by kernel_rfl) (by repeat' first | exact trivial | exact decide_eq_true (by omega) | exact decide_eq_false (by omega) | omega | (simp only [decide_eq_true_eq, decide_eq_false_iff_not, slenD, SV.slen, Option.getD_some, List.length_append, List.length_cons, List.length_nil, hm_len hl, ho]; omega) | refine ⟨?_, ?_⟩) ?_
    exact e
  · have e : i = nE n := by omega
    subst e
    refine hwE mixed (okKT3 hg hh) 300 [false] (.tup [.sl .u8 (List.drop 0 (List.take n.toNat (oE g prk info (nE n)))), .c .i64 0]) [Decidable.decide ((↑(oE g prk info (nE n)).length : Int) < n) = false, (0 : Int) ≤ n, (0 : Int) ≤ n, 0 ≤ n.toNat, n.toNat ≤ n.toNat, n.toNat ≤ (oE g prk info (nE n)).length] (by kernel_rfl) (by repeat' first | exact trivial | exact decide_eq_true (by omega) | exact decide_eq_false (by omega) | omega | (simp only [decide_eq_true_eq, decide_eq_false_iff_not, slenD, SV.slen, Option.getD_some, List.length_append, List.length_cons, List.length_nil, hm_len hl, ho]; omega) | refine ⟨?_, ?_⟩) ?_
    rw [hr]
    unfold expE
    rw [if_pos hn]
    simp [wkR, wkl, wk, wk0, lim]
theorem expand_c (prk info : List Nat) (n : Int) (hp : prk.length ≤ 900000) (hi : info.length ≤ 800000) : Contract Tryz.prog 27 [.sl .u8 prk, .sl .u8 info, .i .i64 n] (.tup [.sl .u8 (expE g prk info n), .u .i64 (eErr n)]) := by
  refine contract Tryz.func27 (body := bodyOf Tryz.f27) rfl (by kernel_rfl) (by kernel_rfl) rfl ?_
  intro _ w0 S
  by_cases h1 : n < 0
  · have hk : ¬ okE n = true := by simp [okE]; omega
    refine hwF mixed (okKT3 hg hh) 100 [true] (.tup [.sl .u8 [], .c .i64 1]) [Decidable.decide (n < (0 : Int)) = true] (by kernel_rfl) (by repeat' first | exact trivial | exact decide_eq_true (by omega) | refine ⟨?_, ?_⟩) ?_
    unfold expE eErr; rw [if_neg hk, if_neg hk]; simp [wkR, wkl, wk, wk0, lim]
  by_cases h2 : n > 8160
  · have hk : ¬ okE n = true := by simp [okE]; omega
    refine hwF mixed (okKT3 hg hh) 100 [false, true] (.tup [.sl .u8 [], .c .i64 1]) [Decidable.decide (n < (0 : Int)) = false, Decidable.decide ((8160 : Int) < n) = true] (by kernel_rfl) (by repeat' first | exact trivial | exact decide_eq_true (by omega) | exact decide_eq_false (by omega) | refine ⟨?_, ?_⟩) ?_
    unfold expE eErr; rw [if_neg hk, if_neg hk]; simp [wkR, wkl, wk, wk0, lim]
  · have hk : okE n = true := by simp [okE]; omega
    refine hwC mixed (okKT3 hg hh) 100 [false, false] [0,1,2,8,9,10] [] 0 [.lp [0, 1, 0, 1, 1, 1], .blk 0, .at [1, 1, 1, 1]] ⟨39, [(0, .sl .u8 prk), (1, .sl .u8 info), (2, .i .i64 n), (8, .nil), (9, .nil), (10, .c .i64 1)], [], 0, 0⟩ [Decidable.decide (n < (0 : Int)) = false, Decidable.decide ((8160 : Int) < n) = false] (by kernel_rfl) (by repeat' first | exact trivial | exact decide_eq_true (by omega) | exact decide_eq_false (by omega) | refine ⟨?_, ?_⟩) ?_
    refine hold_nil (t := 8) (e := 5) (s0 := .sl .u8 []) rfl ?_
    refine hold_restrict (ks := [0,1,2,8,9,10]) (bs := [0]) (nx := 3) rfl ?_
    exact Hold.weaken (expand_l hg hh prk info n hk hp hi (by unfold eErr; rw [if_pos hk]) _ 0 rfl (by omega)) (by simp [wks, wk, wk0, lim, sE, oE, tE])
theorem qexpand_l (prk info : List Nat) (n : Int) (hn : okE n = true) (hp : prk.length ≤ 900000) (hi : info.length ≤ 800000) (hr : res = .tup [.sl .u8 (expE g prk info n), .u .i64 0]) : ∀ d i, nE n - i = d → i ≤ nE n → Hold Tryz.prog (bodyOf Tryz.f28) (Fin Tryz.prog Tryz.f28 w0 S res) w0 S stE (sE prk info g n i 38) := by
  have hl : ∀ b, (g b).length = 32 := by rw [hg]; exact sum32_len
  have hn' : 0 ≤ n ∧ n ≤ 8160 := by simpa [okE] using hn
  intro d
  induction d using Nat.strongRecOn with
  | _ d ih =>
  intro i hd hi'
  have ho := oE_len hl prk info i
  have ht : (tE g prk info i).length ≤ 32 := by cases i with | zero => simp [tE] | succ i => rw [tE_len hl]; omega
  have hx : nE n = (n.toNat + 31) / 32 := rfl
  refine hold_unroll (c := _) rfl ?_
  by_cases hlt : i < nE n
  · have e := ih (nE n - (i + 1)) (by omega) (i + 1) rfl (by omega)
    refine hwC mixed (okKT3 hg hh) 300 [true] [0,1,2,8,9,10] [0] 3 [.lp [0, 1, 0, 1, 1, 1], .blk 0, .at [1, 1, 1, 1]] ⟨38, [(0, .sl .u8 prk), (1, .sl .u8 info), (2, .i .i64 n), (8, .row 0 (.sl .u8 (oE g prk info i ++ hm g prk (tE g prk info i ++ info ++ [(i + 1) % 256])))), (9, .sl .u8 (hm g prk (tE g prk info i ++ info ++ [(i + 1) % 256]))), (10, .u .i64 (i + 1 + 1))], [(0, ⟨5, [], true⟩)], 3, 0⟩ [Decidable.decide ((↑(oE g prk info i).length : Int) < n) = true, (tE g prk info i).length + info.length + [(i + 1) % 256].length ≤ 100000000, prk.length ≤ 900000, (tE g prk info i ++ info ++ [(i + 1) % 256]).length ≤ 900000, slenD (.sl .u8 (oE g prk info i ++ hm g prk (tE g prk info i ++ info ++ [(i + 1) % 256]))) * 1 ≤ 140737488355328, i + 1 + 1 < 9223372036854775808] (by kernel_rfl) (by repeat' first | exact trivial | exact decide_eq_true (by omega) | exact decide_eq_false (by omega) | omega | (simp only [decide_eq_true_eq, decide_eq_false_iff_not, slenD, SV.slen, Option.getD_some, List.length_append, List.length_cons, List.length_nil, hm_len hl, ho]; omega) | refine ⟨?_, ?_⟩) ?_
    exact e
  · have e : i = nE n := by omega
    subst e
    refine hwE mixed (okKT3 hg hh) 300 [false] (.tup [.sl .u8 (List.drop 0 (List.take n.toNat (oE g prk info (nE n)))), .c .i64 0]) [Decidable.decide ((↑(oE g prk info (nE n)).length : Int) < n) = false, (0 : Int) ≤ n, 0 ≤ n.toNat, n.toNat ≤ (oE g prk info (nE n)).length] (by kernel_rfl) (by repeat' first | exact trivial | exact decide_eq_true (by omega) | exact decide_eq_false (by omega) | omega | (simp only [decide_eq_true_eq, decide_eq_false_iff_not, slenD, SV.slen, Option.getD_some, List.length_append, List.length_cons, List.length_nil, hm_len hl, ho]; omega) | refine ⟨?_, ?_⟩) ?_
    rw [hr]
    unfold expE
    rw [if_pos hn]
    simp [wkR, wkl, wk, wk0, lim]
theorem qexpand_c (prk info : List Nat) (n : Int) (hp : prk.length ≤ 900000) (hi : info.length ≤ 800000) : Contract Tryz.prog 28 [.sl .u8 prk, .sl .u8 info, .i .i64 n] (.tup [.sl .u8 (expE g prk info n), .u .i64 (eErr n)]) := by
  refine contract Tryz.func28 (body := bodyOf Tryz.f28) rfl (by kernel_rfl) (by kernel_rfl) rfl ?_
  intro _ w0 S
  by_cases h1 : n < 0
  · have hk : ¬ okE n = true := by simp [okE]; omega
    refine hwF mixed (okKT3 hg hh) 100 [true] (.tup [.sl .u8 [], .c .i64 1]) [Decidable.decide (n < (0 : Int)) = true] (by kernel_rfl) (by repeat' first | exact trivial | exact decide_eq_true (by omega) | refine ⟨?_, ?_⟩) ?_
    unfold expE eErr; rw [if_neg hk, if_neg hk]; simp [wkR, wkl, wk, wk0, lim]
  by_cases h2 : n > 8160
  · have hk : ¬ okE n = true := by simp [okE]; omega
    refine hwF mixed (okKT3 hg hh) 100 [false, true] (.tup [.sl .u8 [], .c .i64 1]) [Decidable.decide (n < (0 : Int)) = false, Decidable.decide ((8160 : Int) < n) = true] (by kernel_rfl) (by repeat' first | exact trivial | exact decide_eq_true (by omega) | exact decide_eq_false (by omega) | refine ⟨?_, ?_⟩) ?_
    unfold expE eErr; rw [if_neg hk, if_neg hk]; simp [wkR, wkl, wk, wk0, lim]
  · have hk : okE n = true := by simp [okE]; omega
    refine hwC mixed (okKT3 hg hh) 100 [false, false] [0,1,2,8,9,10] [] 0 [.lp [0, 1, 0, 1, 1, 1], .blk 0, .at [1, 1, 1, 1]] ⟨38, [(0, .sl .u8 prk), (1, .sl .u8 info), (2, .i .i64 n), (8, .nil), (9, .nil), (10, .c .i64 1)], [], 0, 0⟩ [Decidable.decide (n < (0 : Int)) = false, Decidable.decide ((8160 : Int) < n) = false] (by kernel_rfl) (by repeat' first | exact trivial | exact decide_eq_true (by omega) | exact decide_eq_false (by omega) | refine ⟨?_, ?_⟩) ?_
    refine hold_nil (t := 8) (e := 5) (s0 := .sl .u8 []) rfl ?_
    refine hold_restrict (ks := [0,1,2,8,9,10]) (bs := [0]) (nx := 3) rfl ?_
    exact Hold.weaken (qexpand_l hg hh prk info n hk hp hi (by unfold eErr; rw [if_pos hk]) _ 0 rfl (by omega)) (by simp [wks, wk, wk0, lim, sE, oE, tE])
end
def eExp (g : List Nat → List Nat) (args : List SV) : Option (SV × List Prop) :=
  match args with
  | [x, y, z] => match part? x, part? y, z.int? with
    | some prk, some info, some (.i64, n) => some (.tup [.sl .u8 (expE g prk info n), .u .i64 (eErr n)], [prk.length ≤ 900000, info.length ≤ 800000])
    | _, _, _ => none
  | _ => none
theorem eExp_ok {P : Program} {f : FuncId} {g : List Nat → List Nat} (h : ∀ (prk info : List Nat) (n : Int), prk.length ≤ 900000 → info.length ≤ 800000 → Contract P f [.sl .u8 prk, .sl .u8 info, .i .i64 n] (.tup [.sl .u8 (expE g prk info n), .u .i64 (eErr n)])) : ∀ args res ob, eExp g args = some (res, ob) → All ob → Contract P f args res := by
  intro args res ob he hob
  unfold eExp at he
  split at he
  · split at he
    · rename_i hx hy hz
      cases he
      exact Contract.argsF (h _ _ _ hob.1 hob.2.1) ⟨wk_of0 (part_wk hx), wk_of0 (part_wk hy), int?_wk hz, rfl⟩
    · cases he
  · cases he
end Go.Eng.B

namespace Go.Eng.B
open Go Go.Eng Go.Proofs
def fiV (l : List Int) (n : Int) : Nat := l.findIdx fun x => n == x
def ixV (l : List Int) (n : Int) : Int := if fiV l n < l.length then (fiV l n : Int) else -1
def hasV (l : List Int) (n : Int) : Bool := decide (fiV l n < l.length)
def badAt (l : List Int) (i : Nat) : Bool := decide (l.getD i 0 < 0) || hasV (l.take i) (l.getD i 0)
def soundV (l : List Int) : Bool := decide (1 ≤ l.length) && decide (l.length ≤ 8) && (List.range l.length).all fun i => !badAt l i
theorem sound_bad {l : List Int} {i : Nat} (hi : i < l.length) (h : badAt l i = true) : soundV l = false := by
  unfold soundV
  rw [Bool.and_eq_false_iff]
  right
  rw [Bool.eq_false_iff]
  intro hall
  have := List.all_eq_true.1 hall i (by simpa using hi)
  rw [h] at this
  cases this
theorem sound_all {l : List Int} {i : Nat} (hi : ¬ i < l.length) (h : ∀ j, j < i → badAt l j = false) : soundV l = (decide (1 ≤ l.length) && decide (l.length ≤ 8)) := by
  unfold soundV
  rw [show ((List.range l.length).all fun i => !badAt l i) = true from List.all_eq_true.2 fun j hj => by rw [h j (by simp at hj; omega)]; rfl, Bool.and_true]
def nat2? (x : SV) : Option (List Int) :=
  match x with
  | .sli l => some l
  | .sl _ [] => some []
  | _ => none
theorem nat2_wk {x : SV} {l : List Int} (h : nat2? x = some l) : wk x (.sli l) := by
  unfold nat2? at h
  split at h
  · cases h; exact wk_refl _
  · cases h; simp [wk, wk0]
  · cases h
def eLN (g : List Int → Int → SV) (args : List SV) : Option (SV × List Prop) :=
  match args with
  | [x, y] => match nat2? x, y.int? with
    | some l, some (.i64, n) => some (g l n, [])
    | _, _ => none
  | _ => none
def eL (g : List Int → SV) (args : List SV) : Option (SV × List Prop) :=
  match args with
  | [x] => match nat2? x with
    | some l => some (g l, [])
    | none => none
  | _ => none
def eLL (g : List Int → List Int → SV) (args : List SV) : Option (SV × List Prop) :=
  match args with
  | [x, y] => match nat2? x, nat2? y with
    | some l, some m => some (g l m, [])
    | _, _ => none
  | _ => none
theorem eLN_ok {P : Program} {f : FuncId} {g : List Int → Int → SV} (h : ∀ l n, Contract P f [.sli l, .i .i64 n] (g l n)) : ∀ args res ob, eLN g args = some (res, ob) → All ob → Contract P f args res := by
  intro args res ob h0 _
  unfold eLN at h0
  split at h0
  · split at h0
    · rename_i hx hy; cases h0; exact Contract.args (args' := [.sli _, .i .i64 _]) ⟨nat2_wk hx, int?_wk hy, rfl⟩ (h _ _)
    · cases h0
  · cases h0
theorem eL_ok {P : Program} {f : FuncId} {g : List Int → SV} (h : ∀ l, Contract P f [.sli l] (g l)) : ∀ args res ob, eL g args = some (res, ob) → All ob → Contract P f args res := by
  intro args res ob h0 _
  unfold eL at h0
  split at h0
  · split at h0
    · rename_i hx; cases h0; exact Contract.args (args' := [.sli _]) ⟨nat2_wk hx, rfl⟩ (h _)
    · cases h0
  · cases h0
theorem eLL_ok {P : Program} {f : FuncId} {g : List Int → List Int → SV} (h : ∀ l m, Contract P f [.sli l, .sli m] (g l m)) : ∀ args res ob, eLL g args = some (res, ob) → All ob → Contract P f args res := by
  intro args res ob h0 _
  unfold eLL at h0
  split at h0
  · split at h0
    · rename_i hx hy; cases h0; exact Contract.args (args' := [.sli _, .sli _]) ⟨nat2_wk hx, nat2_wk hy, rfl⟩ (h _ _)
    · cases h0
  · cases h0
def pO (th : List Int) (x : Int) : Bool := th.length == 0 || hasV th x
def badO (own th : List Int) : Bool := !soundV own || (decide (0 < th.length) && !soundV th)
def offL (own th : List Int) : List Int := if badO own th = true then [] else if own.findIdx (pO th) < own.length then own.take (own.findIdx (pO th) + 1) else []
def offE (own th : List Int) : Int := if badO own th = true then 1 else if own.findIdx (pO th) < own.length then 0 else 18
def okS (list own : List Int) : Bool := decide ((list.take (list.length - 1)).findIdx (hasV own) = list.length - 1) && hasV own (list.getD (list.length - 1) 0)
def selV (list own : List Int) : Int := if soundV list = true ∧ soundV own = true ∧ okS list own = true then list.getD (list.length - 1) 0 else 0
def selE (list own : List Int) : Int := if soundV list = false then 4 else if soundV own = false then 1 else if okS list own = true then 0 else 18
theorem sound_len {l : List Int} (h : soundV l = true) : 1 ≤ l.length ∧ l.length ≤ 8 := by
  unfold soundV at h
  simp only [Bool.and_eq_true, decide_eq_true_eq] at h
  exact h.1
end Go.Eng.B

namespace Go.Eng.B
open Go Go.Eng Go.Proofs
set_option maxRecDepth 100000
section
variable {w0 : World} {S : Own} {res : SV}
def sIx (l : List Int) (n : Int) (i : Nat) : St := ⟨19, [(0, .sli l), (1, .i .i64 n), (7, .u .i64 l.length), (8, .u .i64 i)], [], 0, 0⟩
theorem ix_in (l : List Int) (n : Int) (hl : l.length < 9223372036854775808) (hr : res = .i .i64 (ixV l n)) : ∀ d i, l.length - i = d → i ≤ l.length → i ≤ fiV l n →
    Hold Tryz.prog (bodyOf Tryz.f56) (Fin Tryz.prog Tryz.f56 w0 S res) w0 S [.lp [0, 1, 0, 1], .blk 0, .at [1, 1]] (sIx l n i) := by
  intro d
  induction d using Nat.strongRecOn with
  | _ d ih =>
  intro i hd hi hf
  refine hold_unroll (c := _) rfl ?_
  rcases Bool.eq_false_or_eq_true (Decidable.decide (i < l.length)) with hc0 | hc0
  · have hd0 := of_decide_eq_true hc0
    rcases Bool.eq_false_or_eq_true (n == l.getD i (0 : Int)) with hc1 | hc1
    · have hd1 := eq_of_beq hc1
      refine hwE mixed okC1a 100 [true, true] (.u .i64 i) [Decidable.decide (i < l.length) = true, i < l.length, (n == l.getD i (0 : Int)) = true] (by kernel_rfl) ?_ ?_
      · exact ⟨hc0, (by first | omega | assumption), hc1, trivial⟩
      · subst hr
        first | (have e := fi_end (l := l) hf (by omega); have e1 : fiV l n = l.length := e; simp [wkR, wk, wk0, wka, ixV, e1]; done) | (have e : fiV l n = i := fi_hit hf (by omega) (by assumption); simp [wkR, wk, wk0, wka, ixV, e]; omega)
    · have hd1 := ne_of_beq_false hc1
      refine hwC mixed okC1a 100 [true, false] [0,1,7,8] [] 0 [.lp [0, 1, 0, 1], .blk 0, .at [1, 1]] ⟨19, [(0, .sli l), (1, .i .i64 n), (7, .u .i64 l.length), (8, .u .i64 (i + 1))], [], 0, 0⟩ [Decidable.decide (i < l.length) = true, i < l.length, (n == l.getD i (0 : Int)) = false, i + 1 < 9223372036854775808] (by kernel_rfl) ?_ ?_
      · exact ⟨hc0, (by first | omega | assumption), hc1, (by first | omega | assumption), trivial⟩
      · exact ih (l.length - (i + 1)) (by omega) (i + 1) rfl (by omega) (fi_miss hf (by omega) (by assumption))
  · have hd0 := of_decide_eq_false hc0
    refine hwE mixed okC1a 100 [false] (.c .i64 (-1 : Int)) [Decidable.decide (i < l.length) = false] (by kernel_rfl) ?_ ?_
    · exact ⟨hc0, trivial⟩
    · subst hr
      first | (have e := fi_end (l := l) hf (by omega); have e1 : fiV l n = l.length := e; simp [wkR, wk, wk0, wka, ixV, e1]; done) | (have e : fiV l n = i := fi_hit hf (by omega) (by assumption); simp [wkR, wk, wk0, wka, ixV, e]; omega)
theorem cIx (l : List Int) (n : Int) : Contract Tryz.prog 56 [.sli l, .i .i64 n] (.i .i64 (ixV l n)) := by
  refine contract Tryz.func56 (body := bodyOf Tryz.f56) rfl (by kernel_rfl) (by kernel_rfl) rfl ?_
  rintro ⟨hl, _⟩ w0 S
  refine hwC mixed okC1a 100 [] [0,1,7,8] [] 0 [.lp [0, 1, 0, 1], .blk 0, .at [1, 1]] ⟨19, [(0, .sli l), (1, .i .i64 n), (7, .u .i64 l.length), (8, .c .i64 0)], [], 0, 0⟩ [] (by kernel_rfl) trivial ?_
  exact Hold.weaken (ix_in l n hl.1 rfl _ 0 rfl (Nat.zero_le _) (Nat.zero_le _)) (by simp [wks, wk, wk0, wka, lim])
end
end Go.Eng.B

namespace Go.Eng.B
open Go Go.Eng Go.Proofs
set_option maxRecDepth 100000
def L2a : Ctr := addC 56 (eLN fun l n => .i .i64 (ixV l n)) C1a
theorem okL2a : CtrOk Tryz.prog L2a := addC_ok okC1a (eLN_ok cIx)
section
variable {w0 : World} {S : Own} {res : SV}
theorem cContains (l : List Int) (n : Int) : Contract Tryz.prog 35 [.sli l, .i .i64 n] (.b (hasV l n)) := by
  refine contract Tryz.func35 (body := bodyOf Tryz.f35) rfl (by kernel_rfl) (by kernel_rfl) rfl ?_
  rintro ⟨hl, _⟩ w0 S
  refine hwF mixed okL2a 100 [] (.b (Decidable.decide ((0 : Int) ≤ ixV l n))) [] (by kernel_rfl) trivial (wkR_of ?_)
  congr 1
  unfold ixV hasV
  split <;> simp_all
theorem cClone (l : List Int) (h0 : 0 < l.length) (h1 : l.length ≤ 1000) : Contract Tryz.prog 36 [.sli l] (.sli l) := by
  refine contract Tryz.func36 (body := bodyOf Tryz.f36) rfl (by kernel_rfl) (by kernel_rfl) rfl ?_
  rintro ⟨hl, _⟩ w0 S
  refine hwF mixed okL2a 100 [] (.sli l) [0 < l.length, slenD (.sli l) * 8 ≤ 140737488355328, 0 < slenD (.sli l)] (by kernel_rfl) ?_ (wkR_of ?_)
  · simp [All, slenD, SV.slen]; omega
  · rfl
def eClone (args : List SV) : Option (SV × List Prop) :=
  match args with
  | [.sli l] => some (.sli l, [0 < l.length, l.length ≤ 1000])
  | _ => none
def L2b : Ctr := addC 36 eClone (addC 35 (eLN fun l n => .b (hasV l n)) L2a)
theorem cClone' : ∀ args res ob, eClone args = some (res, ob) → All ob → Contract Tryz.prog 36 args res := by
  intro args res ob h hob
  unfold eClone at h
  split at h
  · cases h; exact cClone _ hob.1 hob.2.1
  · cases h
theorem okL2b : CtrOk Tryz.prog L2b := addC_ok (addC_ok okL2a (eLN_ok cContains)) cClone'
def sSo (l : List Int) (i : Nat) : St := ⟨30, [(0, .sli l), (5, .sli l), (6, .u .i64 l.length), (7, .u .i64 i)], [], 0, 0⟩
theorem so_in (l : List Int) (hl : l.length < 9223372036854775808) (hr : res = .b (soundV l)) : ∀ d i, l.length - i = d → i ≤ l.length → (∀ j, j < i → badAt l j = false) →
    Hold Tryz.prog (bodyOf Tryz.f34) (Fin Tryz.prog Tryz.f34 w0 S res) w0 S [.lp [0, 1, 0, 1], .blk 0, .at [1, 1]] (sSo l i) := by
  intro d
  induction d using Nat.strongRecOn with
  | _ d ih =>
  intro i hd hi hf
  have bad : badAt l i = true → i < l.length → soundV l = false := fun h h2 => sound_bad h2 h
  have hstep : badAt l i = false → ∀ j, j < i + 1 → badAt l j = false := fun h j hj => by
    rcases Nat.lt_or_ge j i with h1 | h1
    · exact hf j h1
    · rw [show j = i by omega]; exact h
  refine hold_unroll (c := _) rfl ?_
  rcases Bool.eq_false_or_eq_true (Decidable.decide (i < l.length)) with hc0 | hc0
  · have hd0 := of_decide_eq_true hc0
    rcases Bool.eq_false_or_eq_true (Decidable.decide (l.getD i (0 : Int) < (0 : Int))) with hc1 | hc1
    · have hd1 := of_decide_eq_true hc1
      refine hwE mixed okL2b 100 [true, true] (.cb false) [Decidable.decide (i < l.length) = true, i < l.length, Decidable.decide (l.getD i (0 : Int) < (0 : Int)) = true] (by kernel_rfl) ?_ ?_
      · exact ⟨hc0, (by first | omega | assumption), hc1, trivial⟩
      · subst hr
        first | (rw [bad (by simp_all [badAt]) (by omega)]; simp [wkR, wk, wk0, wka]; done) | (rw [sound_all (by omega) hf]; simp_all [wkR, wk, wk0, wka]; done)
    · have hd1 := of_decide_eq_false hc1
      rcases Bool.eq_false_or_eq_true (Go.Eng.B.hasV (List.drop (0 : Nat) (List.take i l)) (l.getD i (0 : Int))) with hc2 | hc2
      · refine hwE mixed okL2b 100 [true, false, true] (.cb false) [Decidable.decide (i < l.length) = true, i < l.length, Decidable.decide (l.getD i (0 : Int) < (0 : Int)) = false, 0 ≤ i, i ≤ l.length, hasV (List.drop 0 (List.take i l)) (l.getD i (0 : Int)) = true] (by kernel_rfl) ?_ ?_
        · exact ⟨hc0, (by first | omega | assumption), hc1, (by first | omega | assumption), (by first | omega | assumption), hc2, trivial⟩
        · subst hr
          first | (rw [bad (by simp_all [badAt]) (by omega)]; simp [wkR, wk, wk0, wka]; done) | (rw [sound_all (by omega) hf]; simp_all [wkR, wk, wk0, wka]; done)
      · refine hwC mixed okL2b 100 [true, false, false] [0,5,6,7] [] 0 [.lp [0, 1, 0, 1], .blk 0, .at [1, 1]] ⟨30, [(0, .sli l), (5, .sli l), (6, .u .i64 l.length), (7, .u .i64 (i + 1))], [], 0, 0⟩ [Decidable.decide (i < l.length) = true, i < l.length, Decidable.decide (l.getD i (0 : Int) < (0 : Int)) = false, 0 ≤ i, i ≤ l.length, hasV (List.drop 0 (List.take i l)) (l.getD i (0 : Int)) = false, i + 1 < 9223372036854775808] (by kernel_rfl) ?_ ?_
        · exact ⟨hc0, (by first | omega | assumption), hc1, (by first | omega | assumption), (by first | omega | assumption), hc2, (by first | omega | assumption), trivial⟩
        · exact ih (l.length - (i + 1)) (by omega) (i + 1) rfl (by omega) (hstep (by simp_all [badAt]))
  · have hd0 := of_decide_eq_false hc0
    rcases Bool.eq_false_or_eq_true (Decidable.decide ((1 : Nat) ≤ l.length)) with hc1 | hc1
    · have hd1 := of_decide_eq_true hc1
      refine hwE mixed okL2b 100 [false, true] (.b (Decidable.decide (l.length ≤ 8))) [Decidable.decide (i < l.length) = false, Decidable.decide (1 ≤ l.length) = true] (by kernel_rfl) ?_ ?_
      · exact ⟨hc0, hc1, trivial⟩
      · subst hr
        first | (rw [bad (by simp_all [badAt]) (by omega)]; simp [wkR, wk, wk0, wka]; done) | (rw [sound_all (by omega) hf]; simp_all [wkR, wk, wk0, wka]; done)
    · have hd1 := of_decide_eq_false hc1
      refine hwE mixed okL2b 100 [false, false] (.cb false) [Decidable.decide (i < l.length) = false, Decidable.decide (1 ≤ l.length) = false] (by kernel_rfl) ?_ ?_
      · exact ⟨hc0, hc1, trivial⟩
      · subst hr
        first | (rw [bad (by simp_all [badAt]) (by omega)]; simp [wkR, wk, wk0, wka]; done) | (rw [sound_all (by omega) hf]; simp_all [wkR, wk, wk0, wka]; done)
theorem cSound (l : List Int) : Contract Tryz.prog 34 [.sli l] (.b (soundV l)) := by
  refine contract Tryz.func34 (body := bodyOf Tryz.f34) rfl (by kernel_rfl) (by kernel_rfl) rfl ?_
  rintro ⟨hl, _⟩ w0 S
  refine hwC mixed okL2b 100 [] [0,5,6,7] [] 0 [.lp [0, 1, 0, 1], .blk 0, .at [1, 1]] ⟨30, [(0, .sli l), (5, .sli l), (6, .u .i64 l.length), (7, .c .i64 0)], [], 0, 0⟩ [] (by kernel_rfl) trivial ?_
  exact Hold.weaken (so_in l hl.1 rfl _ 0 rfl (Nat.zero_le _) (fun j hj => absurd hj (Nat.not_lt_zero j))) (by simp [wks, wk, wk0, wka, lim])
def L2 : Ctr := addC 34 (eL fun l => .b (soundV l)) L2b
theorem okL2 : CtrOk Tryz.prog L2 := addC_ok okL2b (eL_ok cSound)
end
end Go.Eng.B

namespace Go.Eng.B
open Go Go.Eng Go.Proofs
set_option maxRecDepth 100000
theorem sub1 {n : Nat} : ((n : Int) - 1).toNat = n - 1 := by omega
section
variable {w0 : World} {S : Own} {res : SV}
def sOf (a b : List Int) (i : Nat) : St := ⟨44, [(0, .sli a), (1, .sli b), (28, .sli a), (29, .u .i64 a.length), (30, .u .i64 i)], [], 0, 0⟩
theorem of_in (a b : List Int) (hb : badO a b = false) (hs : 1 ≤ a.length ∧ a.length ≤ 8) (hb0 : b.length ≠ 0) (hr : res = .tup [.sli (offL a b), .i .i64 (offE a b)]) : ∀ d i, a.length - i = d → i ≤ a.length → i ≤ a.findIdx (pO b) →
    Hold Tryz.prog (bodyOf Tryz.f18) (Fin Tryz.prog Tryz.f18 w0 S res) w0 S [.lp [0, 1, 0, 1, 1, 1], .blk 0, .at [1, 1, 1, 1]] (sOf a b i) := by
  intro d
  induction d using Nat.strongRecOn with
  | _ d ih =>
  intro i hd hi hf
  have hp : ∀ x, pO b x = hasV b x := fun x => by simp [pO]; intro h; exact absurd (by simp [h]) hb0
  refine hold_unroll (c := _) rfl ?_
  rcases Bool.eq_false_or_eq_true (Decidable.decide (i < a.length)) with hc0 | hc0
  · have hd0 := of_decide_eq_true hc0
    rcases Bool.eq_false_or_eq_true (Go.Eng.B.hasV b (a.getD i (0 : Int))) with hc1 | hc1
    · refine hwE mixed okL2 100 [true, true] (.tup [.sli (List.drop 0 (List.take (i + 1) a)), .c .i64 0]) [Decidable.decide (i < a.length) = true, i < a.length, hasV b (a.getD i (0 : Int)) = true, i + 1 < 9223372036854775808, 0 ≤ i + 1, i + 1 ≤ a.length, 0 < (List.drop 0 (List.take (i + 1) a)).length, (List.drop 0 (List.take (i + 1) a)).length ≤ 1000] (by kernel_rfl) ?_ ?_
      · exact ⟨hc0, (by first | omega | (simp; omega) | assumption), hc1, (by first | omega | (simp; omega) | assumption), (by first | omega | (simp; omega) | assumption), (by first | omega | (simp; omega) | assumption), (by first | omega | (simp; omega) | assumption), (by first | omega | (simp; omega) | assumption), trivial⟩
      · subst hr
        first | (have e : a.findIdx (pO b) = a.length := fi_end hf (by omega); simp [wkR, wkl, wk, wk0, wka, offL, offE, hb, e]; done) | (have e : a.findIdx (pO b) = i := fi_hit hf (by omega) (by rw [hp]; assumption); simp [wkR, wkl, wk, wk0, wka, offL, offE, hb, e]; omega)
    · refine hwC mixed okL2 100 [true, false] [0,1,28,29,30] [] 0 [.lp [0, 1, 0, 1, 1, 1], .blk 0, .at [1, 1, 1, 1]] ⟨44, [(0, .sli a), (1, .sli b), (28, .sli a), (29, .u .i64 a.length), (30, .u .i64 (i + 1))], [], 0, 0⟩ [Decidable.decide (i < a.length) = true, i < a.length, hasV b (a.getD i (0 : Int)) = false, i + 1 < 9223372036854775808] (by kernel_rfl) ?_ ?_
      · exact ⟨hc0, (by first | omega | (simp; omega) | assumption), hc1, (by first | omega | (simp; omega) | assumption), trivial⟩
      · exact ih (a.length - (i + 1)) (by omega) (i + 1) rfl (by omega) (fi_miss hf (by omega) (by rw [hp]; assumption))
  · have hd0 := of_decide_eq_false hc0
    refine hwE mixed okL2 100 [false] (.tup [.sl .u8 [], .c .i64 18]) [Decidable.decide (i < a.length) = false] (by kernel_rfl) ?_ ?_
    · exact ⟨hc0, trivial⟩
    · subst hr
      first | (have e : a.findIdx (pO b) = a.length := fi_end hf (by omega); simp [wkR, wkl, wk, wk0, wka, offL, offE, hb, e]; done) | (have e : a.findIdx (pO b) = i := fi_hit hf (by omega) (by rw [hp]; assumption); simp [wkR, wkl, wk, wk0, wka, offL, offE, hb, e]; omega)
theorem cOffer (a b : List Int) : Contract Tryz.prog 18 [.sli a, .sli b] (.tup [.sli (offL a b), .i .i64 (offE a b)]) := by
  refine contract Tryz.func18 (body := bodyOf Tryz.f18) rfl (by kernel_rfl) (by kernel_rfl) rfl ?_
  rintro ⟨hl, hl2, _⟩ w0 S
  have hlen : soundV a = true → 1 ≤ a.length ∧ a.length ≤ 8 := sound_len
  have h0 : b.length = 0 → soundV a = true → offL a b = [a.getD 0 0] ∧ offE a b = 0 := fun h1 h2 => by
    obtain ⟨h3, h4⟩ := hlen h2
    have hb : badO a b = false := by simp [badO, h1, h2]
    have hp : pO b = fun _ => true := by funext x; simp [pO, h1]
    have e : a.findIdx (pO b) = 0 := by
      rw [hp]
      cases a with
      | nil => simp at h3
      | cons x a => simp [List.findIdx_cons]
    cases a with
    | nil => simp at h3
    | cons x a => simp [offL, offE, hb, e]
  rcases Bool.eq_false_or_eq_true (!Go.Eng.B.soundV a) with hc0 | hc0
  · refine hwE mixed okL2 100 [true] (.tup [.sl .u8 [], .c .i64 1]) [(!soundV a) = true] (by kernel_rfl) ?_ ?_
    · exact ⟨hc0, trivial⟩
    · first | (simp_all [wkR, wkl, wk, wk0, wka, offL, offE, badO]; done) | (obtain ⟨e1, e2⟩ := h0 (by simp_all) (by simpa using hc0); rw [e1, e2]; simp [wkR, wkl, wk, wk0, wka]; done) | (exfalso; simp_all; done) | (exfalso; simp_all; omega)
  · rcases Bool.eq_false_or_eq_true (Decidable.decide ((0 : Nat) < b.length)) with hc1 | hc1
    · have hd1 := of_decide_eq_true hc1
      rcases Bool.eq_false_or_eq_true (!Go.Eng.B.soundV b) with hc2 | hc2
      · refine hwE mixed okL2 100 [false, true, true] (.tup [.sl .u8 [], .c .i64 1]) [(!soundV a) = false, Decidable.decide (0 < b.length) = true, (!soundV b) = true] (by kernel_rfl) ?_ ?_
        · exact ⟨hc0, hc1, hc2, trivial⟩
        · first | (simp_all [wkR, wkl, wk, wk0, wka, offL, offE, badO]; done) | (obtain ⟨e1, e2⟩ := h0 (by simp_all) (by simpa using hc0); rw [e1, e2]; simp [wkR, wkl, wk, wk0, wka]; done) | (exfalso; simp_all; done) | (exfalso; simp_all; omega)
      · rcases Bool.eq_false_or_eq_true (b.length == (0 : Nat)) with hc3 | hc3
        · have hd3 := eq_of_beq hc3
          refine hwE mixed okL2 100 [false, true, false, true] (.tup [.sli [a.getD 0 (0 : Int)], .c .i64 0]) [(!soundV a) = false, Decidable.decide (0 < b.length) = true, (!soundV b) = false, (b.length == 0) = true, 0 < a.length] (by kernel_rfl) ?_ ?_
          · exact ⟨hc0, hc1, hc2, hc3, (by first | omega | assumption | (simp_all; done) | (have := hlen (by simpa using hc0); simp; omega)), trivial⟩
          · first | (simp_all [wkR, wkl, wk, wk0, wka, offL, offE, badO]; done) | (obtain ⟨e1, e2⟩ := h0 (by simp_all) (by simpa using hc0); rw [e1, e2]; simp [wkR, wkl, wk, wk0, wka]; done) | (exfalso; simp_all; done) | (exfalso; simp_all; omega)
        · have hd3 := ne_of_beq_false hc3
          refine hwC mixed okL2 100 [false, true, false, false] [0,1,28,29,30] [] 0 [.lp [0, 1, 0, 1, 1, 1], .blk 0, .at [1, 1, 1, 1]] ⟨44, [(0, .sli a), (1, .sli b), (28, .sli a), (29, .u .i64 a.length), (30, .c .i64 0)], [], 0, 0⟩ [(!soundV a) = false, Decidable.decide (0 < b.length) = true, (!soundV b) = false, (b.length == 0) = false] (by kernel_rfl) ?_ ?_
          · exact ⟨hc0, hc1, hc2, hc3, trivial⟩
          · first | (exfalso; simp_all; done) | exact Hold.weaken (of_in a b (by simp_all [badO]) (hlen (by simpa using hc0)) (by first | omega | (simp at *; simp_all)) rfl _ 0 rfl (Nat.zero_le _) (Nat.zero_le _)) (by simp [wks, wk, wk0, wka, lim])
    · have hd1 := of_decide_eq_false hc1
      rcases Bool.eq_false_or_eq_true (b.length == (0 : Nat)) with hc2 | hc2
      · have hd2 := eq_of_beq hc2
        refine hwE mixed okL2 100 [false, false, true] (.tup [.sli [a.getD 0 (0 : Int)], .c .i64 0]) [(!soundV a) = false, Decidable.decide (0 < b.length) = false, (b.length == 0) = true, 0 < a.length] (by kernel_rfl) ?_ ?_
        · exact ⟨hc0, hc1, hc2, (by first | omega | assumption | (simp_all; done) | (have := hlen (by simpa using hc0); simp; omega)), trivial⟩
        · first | (simp_all [wkR, wkl, wk, wk0, wka, offL, offE, badO]; done) | (obtain ⟨e1, e2⟩ := h0 (by simp_all) (by simpa using hc0); rw [e1, e2]; simp [wkR, wkl, wk, wk0, wka]; done) | (exfalso; simp_all; done) | (exfalso; simp_all; omega)
      · have hd2 := ne_of_beq_false hc2
        refine hwC mixed okL2 100 [false, false, false] [0,1,28,29,30] [] 0 [.lp [0, 1, 0, 1, 1, 1], .blk 0, .at [1, 1, 1, 1]] ⟨44, [(0, .sli a), (1, .sli b), (28, .sli a), (29, .u .i64 a.length), (30, .c .i64 0)], [], 0, 0⟩ [(!soundV a) = false, Decidable.decide (0 < b.length) = false, (b.length == 0) = false] (by kernel_rfl) ?_ ?_
        · exact ⟨hc0, hc1, hc2, trivial⟩
        · first | (exfalso; simp_all; done) | exact Hold.weaken (of_in a b (by simp_all [badO]) (hlen (by simpa using hc0)) (by first | omega | (simp at *; simp_all)) rfl _ 0 rfl (Nat.zero_le _) (Nat.zero_le _)) (by simp [wks, wk, wk0, wka, lim])
def sSe (a b c : List Int) (m : Int) (i : Nat) : St := ⟨43, [(0, .sli a), (1, .sli b), (6, .i .i64 m), (22, .sli c), (23, .u .i64 c.length), (24, .u .i64 i)], [], 0, 0⟩
theorem se_in (a b c : List Int) (h1 : soundV a = true) (h2 : soundV b = true) (hc : c = a.take (a.length - 1)) (hr : res = .tup [.i .i64 (selV a b), .i .i64 (selE a b)]) : ∀ d i, c.length - i = d → i ≤ c.length → i ≤ c.findIdx (hasV b) →
    Hold Tryz.prog (bodyOf Tryz.f19) (Fin Tryz.prog Tryz.f19 w0 S res) w0 S [.lp [0, 1, 0, 1, 1, 1], .blk 1, .at [1, 1, 1, 1]] (sSe a b c ((a.length : Int) - 1) i) := by
  intro d
  induction d using Nat.strongRecOn with
  | _ d ih =>
  intro i hd hi hf
  have hl := sound_len h1
  have hcl : c.length = a.length - 1 := by rw [hc]; simp
  have hlast : ¬ i < c.length → c.findIdx (hasV b) = a.length - 1 := fun h => by rw [← hcl]; exact fi_end hf h
  have hmid : i < c.length → hasV b (c.getD i 0) = true → okS a b = false := fun h h3 => by
    have := fi_hit hf h h3
    unfold okS
    rw [← hc, this, show decide (i = a.length - 1) = false from decide_eq_false (by omega)]
    rfl
  refine hold_unroll (c := _) rfl ?_
  rcases Bool.eq_false_or_eq_true (Decidable.decide (i < c.length)) with hc0 | hc0
  · have hd0 := of_decide_eq_true hc0
    rcases Bool.eq_false_or_eq_true (Go.Eng.B.hasV b (c.getD i (0 : Int))) with hc1 | hc1
    · refine hwE mixed okL2 100 [true, true] (.tup [.c .i64 0, .c .i64 18]) [Decidable.decide (i < c.length) = true, i < c.length, hasV b (c.getD i (0 : Int)) = true] (by kernel_rfl) ?_ ?_
      · exact ⟨hc0, (by first | omega | assumption), hc1, trivial⟩
      · subst hr
        first | (have e := hmid (by omega) (by assumption); simp [wkR, wkl, wk, wk0, wka, selV, selE, h1, h2, e]; done) | (have e := hlast (by omega); rw [hc] at e; simp_all [wkR, wkl, wk, wk0, wka, selV, selE, okS, sub1]; done)
    · refine hwC mixed okL2 100 [true, false] [0,1,6,22,23,24] [] 0 [.lp [0, 1, 0, 1, 1, 1], .blk 1, .at [1, 1, 1, 1]] ⟨43, [(0, .sli a), (1, .sli b), (6, .i .i64 ((↑a.length : Int) - (1 : Int))), (22, .sli c), (23, .u .i64 c.length), (24, .u .i64 (i + 1))], [], 0, 0⟩ [Decidable.decide (i < c.length) = true, i < c.length, hasV b (c.getD i (0 : Int)) = false, i + 1 < 9223372036854775808] (by kernel_rfl) ?_ ?_
      · exact ⟨hc0, (by first | omega | assumption), hc1, (by first | omega | assumption), trivial⟩
      · exact ih (c.length - (i + 1)) (by omega) (i + 1) rfl (by omega) (fi_miss hf (by omega) (by assumption))
  · have hd0 := of_decide_eq_false hc0
    rcases Bool.eq_false_or_eq_true (!Go.Eng.B.hasV b (a.getD ((↑a.length : Int) - (1 : Int)).toNat (0 : Int))) with hc1 | hc1
    · refine hwE mixed okL2 100 [false, true] (.tup [.c .i64 0, .c .i64 18]) [Decidable.decide (i < c.length) = false, (0 : Int) ≤ (↑a.length : Int) - (1 : Int), ((↑a.length : Int) - (1 : Int)).toNat < a.length, (!hasV b (a.getD ((↑a.length : Int) - (1 : Int)).toNat (0 : Int))) = true] (by kernel_rfl) ?_ ?_
      · exact ⟨hc0, (by first | omega | assumption), (by first | omega | assumption), hc1, trivial⟩
      · subst hr
        first | (have e := hmid (by omega) (by assumption); simp [wkR, wkl, wk, wk0, wka, selV, selE, h1, h2, e]; done) | (have e := hlast (by omega); rw [hc] at e; simp_all [wkR, wkl, wk, wk0, wka, selV, selE, okS, sub1]; done)
    · refine hwE mixed okL2 100 [false, false] (.tup [.i .i64 (a.getD ((↑a.length : Int) - (1 : Int)).toNat (0 : Int)), .c .i64 0]) [Decidable.decide (i < c.length) = false, (0 : Int) ≤ (↑a.length : Int) - (1 : Int), ((↑a.length : Int) - (1 : Int)).toNat < a.length, (!hasV b (a.getD ((↑a.length : Int) - (1 : Int)).toNat (0 : Int))) = false, (0 : Int) ≤ (↑a.length : Int) - (1 : Int), ((↑a.length : Int) - (1 : Int)).toNat < a.length] (by kernel_rfl) ?_ ?_
      · exact ⟨hc0, (by first | omega | assumption), (by first | omega | assumption), hc1, (by first | omega | assumption), (by first | omega | assumption), trivial⟩
      · subst hr
        first | (have e := hmid (by omega) (by assumption); simp [wkR, wkl, wk, wk0, wka, selV, selE, h1, h2, e]; done) | (have e := hlast (by omega); rw [hc] at e; simp_all [wkR, wkl, wk, wk0, wka, selV, selE, okS, sub1]; done)
theorem cSelect (a b : List Int) : Contract Tryz.prog 19 [.sli a, .sli b] (.tup [.i .i64 (selV a b), .i .i64 (selE a b)]) := by
  refine contract Tryz.func19 (body := bodyOf Tryz.f19) rfl (by kernel_rfl) (by kernel_rfl) rfl ?_
  rintro ⟨hl, hl2, _⟩ w0 S
  have hlen : soundV a = true → 1 ≤ a.length ∧ a.length ≤ 8 := sound_len
  rcases Bool.eq_false_or_eq_true (!Go.Eng.B.soundV a) with hc0 | hc0
  · refine hwE mixed okL2 100 [true] (.tup [.c .i64 0, .c .i64 4]) [(!soundV a) = true] (by kernel_rfl) ?_ ?_
    · exact ⟨hc0, trivial⟩
    · first | (simp_all [wkR, wkl, wk, wk0, wka, selV, selE]; done)
  · rcases Bool.eq_false_or_eq_true (!Go.Eng.B.soundV b) with hc1 | hc1
    · refine hwE mixed okL2 100 [false, true] (.tup [.c .i64 0, .c .i64 1]) [(!soundV a) = false, (!soundV b) = true] (by kernel_rfl) ?_ ?_
      · exact ⟨hc0, hc1, trivial⟩
      · first | (simp_all [wkR, wkl, wk, wk0, wka, selV, selE]; done)
    · refine hwC mixed okL2 100 [false, false] [0,1,6,22,23,24] [] 0 [.lp [0, 1, 0, 1, 1, 1], .blk 1, .at [1, 1, 1, 1]] ⟨43, [(0, .sli a), (1, .sli b), (6, .i .i64 ((↑a.length : Int) - (1 : Int))), (22, .sli (List.drop 0 (List.take ((↑a.length : Int) - (1 : Int)).toNat a))), (23, .u .i64 (List.drop 0 (List.take ((↑a.length : Int) - (1 : Int)).toNat a)).length), (24, .c .i64 0)], [], 0, 0⟩ [(!soundV a) = false, (!soundV b) = false, (0 : Int) ≤ (↑a.length : Int) - (1 : Int), 0 ≤ ((↑a.length : Int) - (1 : Int)).toNat, ((↑a.length : Int) - (1 : Int)).toNat ≤ a.length] (by kernel_rfl) ?_ ?_
      · exact ⟨hc0, hc1, (by first | omega | assumption | (have := hlen (by simpa using hc0); omega)), (by first | omega | assumption | (have := hlen (by simpa using hc0); omega)), (by first | omega | assumption | (have := hlen (by simpa using hc0); omega)), trivial⟩
      · exact Hold.weaken (se_in a b ((a.take ((a.length : Int) - 1).toNat).drop 0) (by simpa using hc0) (by simpa using hc1) (by rw [sub1]; simp) rfl _ 0 rfl (Nat.zero_le _) (Nat.zero_le _)) (by simp [wks, wk, wk0, wka, lim])
def gOff (a b : List Int) : SV := .tup [.sli (offL a b), .i .i64 (offE a b)]
def gSel (a b : List Int) : SV := .tup [.i .i64 (selV a b), .i .i64 (selE a b)]
def L3a : Ctr := addC 19 (eLL gSel) (addC 18 (eLL gOff) L2)
theorem okL3a : CtrOk Tryz.prog L3a := addC_ok (addC_ok okL2 (eLL_ok cOffer)) (eLL_ok cSelect)
theorem cDown (a b : List Int) : Contract Tryz.prog 20 [.sli a, .sli b] (.b (selE a b == 0)) := by
  refine contract Tryz.func20 (body := bodyOf Tryz.f20) rfl (by kernel_rfl) (by kernel_rfl) rfl ?_
  rintro _ w0 S
  exact hwF mixed okL3a 100 [] (.b (selE a b == (0 : Int))) [] (by kernel_rfl) trivial (wkR_of rfl)
def L3 : Ctr := addC 20 (eLL fun a b => .b (selE a b == 0)) L3a
theorem okL3 : CtrOk Tryz.prog L3 := addC_ok okL3a (eLL_ok cDown)
end
end Go.Eng.B

namespace Go.Eng.B
open Go Go.Eng Go.Proofs
set_option maxRecDepth 100000
def inf (n a b : Int) : Int := if n = 0 then a else if n = 1 then b else 0
def infI (n : Int) : Int := if 0 ≤ n ∧ n ≤ 3 then n else 0
def gInfo (n : Int) : SV := .tup [.ag [.i .i64 (infI n), .i .i64 (inf n 10 30), .i .i64 (inf n 8 16), .i .i64 (inf n 8 16), .i .i64 (inf n 32 32), .i .i64 (inf n 16 16), .i .i64 (inf n 13 13), .i .i64 (inf n 10 10), .b (decide (n = 0 ∨ n = 1))], .b (decide (0 ≤ n ∧ n ≤ 3))]
section
variable {w0 : World} {S : Own} {res : SV}
theorem cInfo (n : Int) : Contract Tryz.prog 37 [.i .i64 n] (gInfo n) := by
  refine contract Tryz.func37 (body := bodyOf Tryz.f37) rfl (by kernel_rfl) (by kernel_rfl) rfl ?_
  rintro _ w0 S
  have h3 : n ≠ 0 → n ≠ 1 → n ≠ 2 → n ≠ 3 → ¬ (0 ≤ n ∧ n ≤ 3) := fun a b c d => by omega
  rcases Bool.eq_false_or_eq_true (n == (0 : Int)) with hc0 | hc0
  · have hd0 := eq_of_beq hc0
    refine hwF mixed okL3 100 [true] (.tup [.ag [.i .i64 n, .c .i64 10, .c .i64 8, .c .i64 8, .c .i64 32, .c .i64 16, .c .i64 13, .c .i64 10, .cb true], .cb true]) [(n == (0 : Int)) = true] (by kernel_rfl) ?_ ?_
    · exact ⟨hc0, trivial⟩
    · simp_all [wkR, wkl, wk, wk0, wka, gInfo, infI, inf]; try omega
  · have hd0 := ne_of_beq_false hc0
    rcases Bool.eq_false_or_eq_true (n == (1 : Int)) with hc1 | hc1
    · have hd1 := eq_of_beq hc1
      refine hwF mixed okL3 100 [false, true] (.tup [.ag [.i .i64 n, .c .i64 30, .c .i64 16, .c .i64 16, .c .i64 32, .c .i64 16, .c .i64 13, .c .i64 10, .cb true], .cb true]) [(n == (0 : Int)) = false, (n == (1 : Int)) = true] (by kernel_rfl) ?_ ?_
      · exact ⟨hc0, hc1, trivial⟩
      · simp_all [wkR, wkl, wk, wk0, wka, gInfo, infI, inf]; try omega
    · have hd1 := ne_of_beq_false hc1
      rcases Bool.eq_false_or_eq_true (n == (2 : Int)) with hc2 | hc2
      · have hd2 := eq_of_beq hc2
        rcases Bool.eq_false_or_eq_true (n == (2 : Int)) with hc3 | hc3
        · have hd3 := eq_of_beq hc3
          refine hwF mixed okL3 100 [false, false, true, true] (.tup [.ag [.i .i64 n, .c .i64 0, .c .i64 0, .c .i64 0, .c .i64 0, .c .i64 0, .c .i64 0, .c .i64 0, .cb false], .cb true]) [(n == (0 : Int)) = false, (n == (1 : Int)) = false, (n == (2 : Int)) = true, (n == (2 : Int)) = true] (by kernel_rfl) ?_ ?_
          · exact ⟨hc0, hc1, hc2, hc3, trivial⟩
          · simp_all [wkR, wkl, wk, wk0, wka, gInfo, infI, inf]; try omega
        · have hd3 := ne_of_beq_false hc3
          refine hwF mixed okL3 100 [false, false, true, false] (.tup [.ag [.c .i64 0, .c .i64 0, .c .i64 0, .c .i64 0, .c .i64 0, .c .i64 0, .c .i64 0, .c .i64 0, .cb false], .cb false]) [(n == (0 : Int)) = false, (n == (1 : Int)) = false, (n == (2 : Int)) = true, (n == (2 : Int)) = false] (by kernel_rfl) ?_ ?_
          · exact ⟨hc0, hc1, hc2, hc3, trivial⟩
          · simp_all [wkR, wkl, wk, wk0, wka, gInfo, infI, inf]; try omega
      · have hd2 := ne_of_beq_false hc2
        rcases Bool.eq_false_or_eq_true (n == (3 : Int)) with hc3 | hc3
        · have hd3 := eq_of_beq hc3
          refine hwF mixed okL3 100 [false, false, false, true] (.tup [.ag [.i .i64 n, .c .i64 0, .c .i64 0, .c .i64 0, .c .i64 0, .c .i64 0, .c .i64 0, .c .i64 0, .cb false], .cb true]) [(n == (0 : Int)) = false, (n == (1 : Int)) = false, (n == (2 : Int)) = false, (n == (3 : Int)) = true] (by kernel_rfl) ?_ ?_
          · exact ⟨hc0, hc1, hc2, hc3, trivial⟩
          · simp_all [wkR, wkl, wk, wk0, wka, gInfo, infI, inf]; try omega
        · have hd3 := ne_of_beq_false hc3
          refine hwF mixed okL3 100 [false, false, false, false] (.tup [.ag [.c .i64 0, .c .i64 0, .c .i64 0, .c .i64 0, .c .i64 0, .c .i64 0, .c .i64 0, .c .i64 0, .cb false], .cb false]) [(n == (0 : Int)) = false, (n == (1 : Int)) = false, (n == (2 : Int)) = false, (n == (3 : Int)) = false] (by kernel_rfl) ?_ ?_
          · exact ⟨hc0, hc1, hc2, hc3, trivial⟩
          · simp_all [wkR, wkl, wk, wk0, wka, gInfo, infI, inf]; try omega
theorem cAwake : Contract Tryz.prog 5 [] (.b true) := by
  refine contract Tryz.func5 (body := bodyOf Tryz.f5) rfl (by kernel_rfl) (by kernel_rfl) rfl ?_
  rintro _ w0 S
  refine hwF mixed okL3 200 [true, true, true, true, true, true] (.b true) [true = true, true = true, 1 < 2, true = true, true = true, true = true, true = true] (by kernel_rfl) ?_ ?_
  · exact ⟨rfl, rfl, by decide, rfl, rfl, rfl, rfl, trivial⟩
  · exact wkR_of rfl
end
end Go.Eng.B

namespace Go.Eng.B
open Go Go.Eng Go.Proofs
set_option maxRecDepth 100000
set_option maxHeartbeats 1000000
def onS {α : Type} (n : Int) (x d : α) : α := if n = 0 ∨ n = 1 then x else d
def suS (n : Int) (key nonce aad plain : List Nat) : List Nat := if n = 0 then sealL 8 key nonce aad plain else if n = 1 then sealL 16 key nonce aad plain else []
def suO (n : Int) (key nonce aad cipher : List Nat) : List Nat := if n = 0 then openL 8 key nonce aad cipher else if n = 1 then openL 16 key nonce aad cipher else []
def suE (n : Int) (key nonce aad cipher : List Nat) : Nat := if n = 0 then openE 8 key nonce aad cipher else if n = 1 then openE 16 key nonce aad cipher else 10
def gSp (n : Int) : SV := .tup [.ag [.i .i64 (infI n), .i .i64 (inf n 10 30), .i .i64 (inf n 8 16), .i .i64 (inf n 8 16), .i .i64 (inf n 32 32), .i .i64 (inf n 16 16), .i .i64 (inf n 13 13), .i .i64 (inf n 10 10), .b (decide (n = 0 ∨ n = 1))], .b (decide (n = 0 ∨ n = 1))]
def eI1 (r : Int → SV) (args : List SV) : Option (SV × List Prop) := match args with
  | [x] => match x.int? with | some (.i64, n) => some (r n, []) | _ => none
  | _ => none
def SPa : Ctr := addC 37 (eI1 gInfo) ctr0
def bSt (l : List SV) : Bk := ⟨45, l, false⟩
def sSup1 (l : List SV) : St := ⟨14, [(2, .ptr 0 0 (.c 0)), (4, .ptr 1 0 (.c 0))], [(0, bSt [.c .i64 0, .c .i64 0, .c .i64 0, .c .i64 0, .c .i64 0, .c .i64 0, .c .i64 0, .c .i64 0, .cb false]), (1, bSt l)], 2, 0⟩
def sSup2 (l : List SV) (x : SV) : St := ⟨14, [(2, .ptr 0 0 (.c 0)), (3, x)], [(0, bSt l)], 2, 0⟩
def eSp (args : List SV) : Option (SV × List Prop) := match args with
  | [.c .i64 n] => if n = 0 then some (.tup [.ag [.c .i64 0, .c .i64 10, .c .i64 8, .c .i64 8, .c .i64 32, .c .i64 16, .c .i64 13, .c .i64 10, .cb true], .cb true], []) else if n = 1 then some (.tup [.ag [.c .i64 1, .c .i64 30, .c .i64 16, .c .i64 16, .c .i64 32, .c .i64 16, .c .i64 13, .c .i64 10, .cb true], .cb true], []) else none
  | _ => none
noncomputable def SPi : Ctr := addC 37 (inl Tryz.prog ctr0 Tryz.f37 100) ctr0
def eHs (g : List Nat → List Nat) (args : List SV) : Option (SV × List Prop) := match args with
  | [x, .sl .u8 b] => match x.int? with | some (.i64, n) => some (.tup [.sl .u8 (onS n (g b) []), .u .i64 (onS n 0 10)], [b.length ≤ 900000]) | _ => none
  | _ => none
def eEx (g : List Nat → List Nat) (args : List SV) : Option (SV × List Prop) := match args with
  | [x, .sl .u8 a, .sl .u8 b] => match x.int? with | some (.i64, n) => some (.tup [.sl .u8 (onS n (hm g a b) []), .u .i64 (onS n 0 10)], [a.length ≤ 900000, b.length ≤ 900000]) | _ => none
  | _ => none
def eEp (g : List Nat → List Nat) (args : List SV) : Option (SV × List Prop) := match args with
  | [x, .sl .u8 a, .sl .u8 b, y] => match x.int?, y.int? with | some (.i64, n), some (.i64, m) => some (.tup [.sl .u8 (onS n (expE g a b m) []), .u .i64 (onS n (eErr m) 10)], [a.length ≤ 900000, b.length ≤ 800000]) | _, _ => none
  | _ => none
def eSS (args : List SV) : Option (SV × List Prop) := match args with
  | [x, .sl .u8 key, .sl .u8 nonce, .sl .u8 aad, .sl .u8 plain] => match x.int? with | some (.i64, n) => some (.tup [.sl .u8 (suS n key nonce aad plain), .u .i64 (onS n (vdE key nonce) 10)], [aad.length ≤ 4096, plain.length ≤ 4096]) | _ => none
  | _ => none
def eSO (args : List SV) : Option (SV × List Prop) := match args with
  | [x, .sl .u8 key, .sl .u8 nonce, .sl .u8 aad, .sl .u8 cipher] => match x.int? with | some (.i64, n) => some (.tup [.sl .u8 (suO n key nonce aad cipher), .u .i64 (suE n key nonce aad cipher)], [aad.length ≤ 4096, cipher.length ≤ 4096]) | _ => none
  | _ => none
noncomputable def SPh (g h : List Nat → List Nat) : Ctr := addC 21 (eI1 gSp) (addC 25 (eHm g) (addC 27 (eExp g) (ST g h)))
noncomputable def SQh (g h : List Nat → List Nat) : Ctr := addC 23 (eI1 fun n => .b (!decide (n = 0 ∨ n = 1))) (addC 26 (eHm g) (addC 28 (eExp g) (ST g h)))
def SPd : Ctr := addC 21 (eI1 gSp) ctr0
def SQd : Ctr := addC 23 (eI1 fun n => .b (!decide (n = 0 ∨ n = 1))) ctr0
noncomputable def SPc : Ctr := addC 29 eSe (addC 32 eOp (addC 21 eSp ctr0))
noncomputable def SQc : Ctr := addC 30 eSe (addC 33 eOp (addC 23 (inl Tryz.prog ctr0 Tryz.f23 100) (addC 31 (inl Tryz.prog ctr0 Tryz.f31 100) ctr0)))
theorem eI1_ok {P : Program} {f : FuncId} {r : Int → SV} (h : ∀ n, Contract P f [.i .i64 n] (r n)) : ∀ args res ob, eI1 r args = some (res, ob) → All ob → Contract P f args res := by
  intro args res ob he _
  unfold eI1 at he
  split at he
  · split at he
    · rename_i hx; cases he; exact Contract.argsF (h _) ⟨int?_wk hx, rfl⟩
    · cases he
  · cases he
theorem okSPa : CtrOk Tryz.prog SPa := addC_ok ctr0_ok (eI1_ok cInfo)
section
variable {w0 : World} {S : Own} {res : SV}
theorem sp_c (n : Int) : Contract Tryz.prog 21 [.i .i64 n] (gSp n) := by
  refine contract Tryz.func21 (body := bodyOf Tryz.f21) rfl (by kernel_rfl) (by kernel_rfl) rfl ?_
  intro _ w0 S
  refine hwD mixed okSPa 100 [] [2,4] [0,1] 2 [.at [0, 1, 1], .at [1, 1, 1]] ⟨14, [(2, .ptr 0 0 (.c 0)), (4, .ptr 1 0 (.c 0))], [(0, ⟨45, [.c .i64 0, .c .i64 0, .c .i64 0, .c .i64 0, .c .i64 0, .c .i64 0, .c .i64 0, .c .i64 0, .cb false], false⟩), (1, ⟨45, [.i .i64 (infI n), .i .i64 (inf n (10 : Int) (30 : Int)), .i .i64 (inf n (8 : Int) (16 : Int)), .i .i64 (inf n (8 : Int) (16 : Int)), .i .i64 (inf n (32 : Int) (32 : Int)), .i .i64 (inf n (16 : Int) (16 : Int)), .i .i64 (inf n (13 : Int) (13 : Int)), .i .i64 (inf n (10 : Int) (10 : Int)), .b (Decidable.decide (n = (0 : Int) ∨ n = (1 : Int)))], false⟩)], 2, 0⟩ [] (by kernel_rfl) trivial ?_
  refine hold_allX mixed okSPa (p := [0, 1, 1]) (r := [.at [1, 1, 1]]) (d := Ke.mk [2, 3] [0] 2) (σ := sSup1 [.i .i64 (infI n), .i .i64 (inf n 10 30), .i .i64 (inf n 8 16), .i .i64 (inf n 8 16), .i .i64 (inf n 32 32), .i .i64 (inf n 16 16), .i .i64 (inf n 13 13), .i .i64 (inf n 10 10), .b (decide (n = 0 ∨ n = 1))]) (sc := []) (st' := [.at [1, 1, 1]]) (σ' := (St.mk 14 [(2, .ptr 0 0 (.c 0)), (3, .b (Decidable.decide (n = (0 : Int) ∨ n = (1 : Int))))] [(0, Bk.mk 45 [.i .i64 (infI n), .i .i64 (inf n (10 : Int) (30 : Int)), .i .i64 (inf n (8 : Int) (16 : Int)), .i .i64 (inf n (8 : Int) (16 : Int)), .i .i64 (inf n (32 : Int) (32 : Int)), .i .i64 (inf n (16 : Int) (16 : Int)), .i .i64 (inf n (13 : Int) (13 : Int)), .i .i64 (inf n (10 : Int) (10 : Int)), .b (Decidable.decide (n = (0 : Int) ∨ n = (1 : Int)))] false)] 2 0)) (ob := [St.mk 14 [(2, .ptr 0 0 (.c 0)), (3, .b (Decidable.decide (n = (0 : Int) ∨ n = (1 : Int))))] [(0, Bk.mk 45 [.i .i64 (infI n), .i .i64 (inf n (10 : Int) (30 : Int)), .i .i64 (inf n (8 : Int) (16 : Int)), .i .i64 (inf n (8 : Int) (16 : Int)), .i .i64 (inf n (32 : Int) (32 : Int)), .i .i64 (inf n (16 : Int) (16 : Int)), .i .i64 (inf n (13 : Int) (13 : Int)), .i .i64 (inf n (10 : Int) (10 : Int)), .b (Decidable.decide (n = (0 : Int) ∨ n = (1 : Int)))] false)] 2 0 = St.mk 14 [(2, .ptr 0 0 (.c 0)), (3, .b (Decidable.decide (n = (0 : Int) ∨ n = (1 : Int))))] [(0, Bk.mk 45 [.i .i64 (infI n), .i .i64 (inf n (10 : Int) (30 : Int)), .i .i64 (inf n (8 : Int) (16 : Int)), .i .i64 (inf n (8 : Int) (16 : Int)), .i .i64 (inf n (32 : Int) (32 : Int)), .i .i64 (inf n (16 : Int) (16 : Int)), .i .i64 (inf n (13 : Int) (13 : Int)), .i .i64 (inf n (10 : Int) (10 : Int)), .b (Decidable.decide (n = (0 : Int) ∨ n = (1 : Int)))] false)] 2 0, St.mk 14 [(2, .ptr 0 0 (.c 0)), (3, .b (Decidable.decide (n = (0 : Int) ∨ n = (1 : Int))))] [(0, Bk.mk 45 [.i .i64 (infI n), .i .i64 (inf n (10 : Int) (30 : Int)), .i .i64 (inf n (8 : Int) (16 : Int)), .i .i64 (inf n (8 : Int) (16 : Int)), .i .i64 (inf n (32 : Int) (32 : Int)), .i .i64 (inf n (16 : Int) (16 : Int)), .i .i64 (inf n (13 : Int) (13 : Int)), .i .i64 (inf n (10 : Int) (10 : Int)), .b (Decidable.decide (n = (0 : Int) ∨ n = (1 : Int)))] false)] 2 0 = St.mk 14 [(2, .ptr 0 0 (.c 0)), (3, .b (Decidable.decide (n = (0 : Int) ∨ n = (1 : Int))))] [(0, Bk.mk 45 [.i .i64 (infI n), .i .i64 (inf n (10 : Int) (30 : Int)), .i .i64 (inf n (8 : Int) (16 : Int)), .i .i64 (inf n (8 : Int) (16 : Int)), .i .i64 (inf n (32 : Int) (32 : Int)), .i .i64 (inf n (16 : Int) (16 : Int)), .i .i64 (inf n (13 : Int) (13 : Int)), .i .i64 (inf n (10 : Int) (10 : Int)), .b (Decidable.decide (n = (0 : Int) ∨ n = (1 : Int)))] false)] 2 0]) (sc' := []) (by kernel_rfl) ?_ ?_
  · repeat' first | exact True.intro | exact rfl | refine ⟨?_, ?_⟩
  · refine Hold.cast (σ' := sSup2 [.i .i64 (infI n), .i .i64 (inf n 10 30), .i .i64 (inf n 8 16), .i .i64 (inf n 8 16), .i .i64 (inf n 32 32), .i .i64 (inf n 16 16), .i .i64 (inf n 13 13), .i .i64 (inf n 10 10), .b (decide (n = 0 ∨ n = 1))] (.b (decide (n = 0 ∨ n = 1)))) ?_ rfl
    refine hwF mixed okSPa 100 [] (.tup [.ag [.i .i64 (infI n), .i .i64 (inf n (10 : Int) (30 : Int)), .i .i64 (inf n (8 : Int) (16 : Int)), .i .i64 (inf n (8 : Int) (16 : Int)), .i .i64 (inf n (32 : Int) (32 : Int)), .i .i64 (inf n (16 : Int) (16 : Int)), .i .i64 (inf n (13 : Int) (13 : Int)), .i .i64 (inf n (10 : Int) (10 : Int)), .b (Decidable.decide (n = (0 : Int) ∨ n = (1 : Int)))], .b (Decidable.decide (n = (0 : Int) ∨ n = (1 : Int)))]) [] (by kernel_rfl) trivial ?_
    exact wkR_of rfl
theorem okSPi : CtrOk Tryz.prog SPi := addC_ok ctr0_ok (inl_ok mixed (by kernel_rfl) (by kernel_rfl) (by kernel_rfl) ctr0_ok)
theorem spc_0 : Contract Tryz.prog 21 [.c .i64 0] (.tup [.ag [.c .i64 0, .c .i64 10, .c .i64 8, .c .i64 8, .c .i64 32, .c .i64 16, .c .i64 13, .c .i64 10, .cb true], .cb true]) := by
  refine contract Tryz.func21 (body := bodyOf Tryz.f21) rfl (by kernel_rfl) (by kernel_rfl) rfl ?_
  intro _ w0 S
  refine hwD mixed okSPi 100 [] [2,4] [0,1] 2 [.at [0, 1, 1], .at [1, 1, 1]] ⟨14, [(2, .ptr 0 0 (.c 0)), (4, .ptr 1 0 (.c 0))], [(0, ⟨45, [.c .i64 0, .c .i64 0, .c .i64 0, .c .i64 0, .c .i64 0, .c .i64 0, .c .i64 0, .c .i64 0, .cb false], false⟩), (1, ⟨45, [.c .i64 0, .c .i64 10, .c .i64 8, .c .i64 8, .c .i64 32, .c .i64 16, .c .i64 13, .c .i64 10, .cb true], false⟩)], 2, 0⟩ [] (by kernel_rfl) trivial ?_
  refine hold_allX mixed okSPi (p := [0, 1, 1]) (r := [.at [1, 1, 1]]) (d := Ke.mk [2, 3] [0] 2) (σ := sSup1 [.c .i64 0, .c .i64 10, .c .i64 8, .c .i64 8, .c .i64 32, .c .i64 16, .c .i64 13, .c .i64 10, .cb true]) (sc := []) (st' := [.at [1, 1, 1]]) (σ' := (St.mk 14 [(2, .ptr 0 0 (.c 0)), (3, .cb true)] [(0, Bk.mk 45 [.c .i64 0, .c .i64 10, .c .i64 8, .c .i64 8, .c .i64 32, .c .i64 16, .c .i64 13, .c .i64 10, .cb true] false)] 2 0)) (ob := [St.mk 14 [(2, .ptr 0 0 (.c 0)), (3, .cb true)] [(0, Bk.mk 45 [.c .i64 0, .c .i64 10, .c .i64 8, .c .i64 8, .c .i64 32, .c .i64 16, .c .i64 13, .c .i64 10, .cb true] false)] 2 0 = St.mk 14 [(2, .ptr 0 0 (.c 0)), (3, .cb true)] [(0, Bk.mk 45 [.c .i64 0, .c .i64 10, .c .i64 8, .c .i64 8, .c .i64 32, .c .i64 16, .c .i64 13, .c .i64 10, .cb true] false)] 2 0, St.mk 14 [(2, .ptr 0 0 (.c 0)), (3, .cb true)] [(0, Bk.mk 45 [.c .i64 0, .c .i64 10, .c .i64 8, .c .i64 8, .c .i64 32, .c .i64 16, .c .i64 13, .c .i64 10, .cb true] false)] 2 0 = St.mk 14 [(2, .ptr 0 0 (.c 0)), (3, .cb true)] [(0, Bk.mk 45 [.c .i64 0, .c .i64 10, .c .i64 8, .c .i64 8, .c .i64 32, .c .i64 16, .c .i64 13, .c .i64 10, .cb true] false)] 2 0]) (sc' := []) (by kernel_rfl) ?_ ?_
  · repeat' first | exact True.intro | exact rfl | refine ⟨?_, ?_⟩
  · refine Hold.cast (σ' := sSup2 [.c .i64 0, .c .i64 10, .c .i64 8, .c .i64 8, .c .i64 32, .c .i64 16, .c .i64 13, .c .i64 10, .cb true] (.cb true)) ?_ rfl
    refine hwF mixed okSPi 100 [] (.tup [.ag [.c .i64 0, .c .i64 10, .c .i64 8, .c .i64 8, .c .i64 32, .c .i64 16, .c .i64 13, .c .i64 10, .cb true], .cb true]) [] (by kernel_rfl) trivial ?_
    exact wkR_of rfl
theorem spc_1 : Contract Tryz.prog 21 [.c .i64 1] (.tup [.ag [.c .i64 1, .c .i64 30, .c .i64 16, .c .i64 16, .c .i64 32, .c .i64 16, .c .i64 13, .c .i64 10, .cb true], .cb true]) := by
  refine contract Tryz.func21 (body := bodyOf Tryz.f21) rfl (by kernel_rfl) (by kernel_rfl) rfl ?_
  intro _ w0 S
  refine hwD mixed okSPi 100 [] [2,4] [0,1] 2 [.at [0, 1, 1], .at [1, 1, 1]] ⟨14, [(2, .ptr 0 0 (.c 0)), (4, .ptr 1 0 (.c 0))], [(0, ⟨45, [.c .i64 0, .c .i64 0, .c .i64 0, .c .i64 0, .c .i64 0, .c .i64 0, .c .i64 0, .c .i64 0, .cb false], false⟩), (1, ⟨45, [.c .i64 1, .c .i64 30, .c .i64 16, .c .i64 16, .c .i64 32, .c .i64 16, .c .i64 13, .c .i64 10, .cb true], false⟩)], 2, 0⟩ [] (by kernel_rfl) trivial ?_
  refine hold_allX mixed okSPi (p := [0, 1, 1]) (r := [.at [1, 1, 1]]) (d := Ke.mk [2, 3] [0] 2) (σ := sSup1 [.c .i64 1, .c .i64 30, .c .i64 16, .c .i64 16, .c .i64 32, .c .i64 16, .c .i64 13, .c .i64 10, .cb true]) (sc := []) (st' := [.at [1, 1, 1]]) (σ' := (St.mk 14 [(2, .ptr 0 0 (.c 0)), (3, .cb true)] [(0, Bk.mk 45 [.c .i64 1, .c .i64 30, .c .i64 16, .c .i64 16, .c .i64 32, .c .i64 16, .c .i64 13, .c .i64 10, .cb true] false)] 2 0)) (ob := [St.mk 14 [(2, .ptr 0 0 (.c 0)), (3, .cb true)] [(0, Bk.mk 45 [.c .i64 1, .c .i64 30, .c .i64 16, .c .i64 16, .c .i64 32, .c .i64 16, .c .i64 13, .c .i64 10, .cb true] false)] 2 0 = St.mk 14 [(2, .ptr 0 0 (.c 0)), (3, .cb true)] [(0, Bk.mk 45 [.c .i64 1, .c .i64 30, .c .i64 16, .c .i64 16, .c .i64 32, .c .i64 16, .c .i64 13, .c .i64 10, .cb true] false)] 2 0, St.mk 14 [(2, .ptr 0 0 (.c 0)), (3, .cb true)] [(0, Bk.mk 45 [.c .i64 1, .c .i64 30, .c .i64 16, .c .i64 16, .c .i64 32, .c .i64 16, .c .i64 13, .c .i64 10, .cb true] false)] 2 0 = St.mk 14 [(2, .ptr 0 0 (.c 0)), (3, .cb true)] [(0, Bk.mk 45 [.c .i64 1, .c .i64 30, .c .i64 16, .c .i64 16, .c .i64 32, .c .i64 16, .c .i64 13, .c .i64 10, .cb true] false)] 2 0]) (sc' := []) (by kernel_rfl) ?_ ?_
  · repeat' first | exact True.intro | exact rfl | refine ⟨?_, ?_⟩
  · refine Hold.cast (σ' := sSup2 [.c .i64 1, .c .i64 30, .c .i64 16, .c .i64 16, .c .i64 32, .c .i64 16, .c .i64 13, .c .i64 10, .cb true] (.cb true)) ?_ rfl
    refine hwF mixed okSPi 100 [] (.tup [.ag [.c .i64 1, .c .i64 30, .c .i64 16, .c .i64 16, .c .i64 32, .c .i64 16, .c .i64 13, .c .i64 10, .cb true], .cb true]) [] (by kernel_rfl) trivial ?_
    exact wkR_of rfl
theorem spc_ok : ∀ args res ob, eSp args = some (res, ob) → All ob → Contract Tryz.prog 21 args res := by
  intro args res ob he _
  unfold eSp at he
  split at he
  · split at he
    · rename_i e; cases he; subst e; exact spc_0
    · split at he
      · rename_i e; cases he; subst e; exact spc_1
      · cases he
  · cases he
theorem of_c (n : Int) : Contract Tryz.prog 23 [.i .i64 n] (.b (!decide (n = 0 ∨ n = 1))) := by
  refine contract Tryz.func23 (body := bodyOf Tryz.f23) rfl (by kernel_rfl) (by kernel_rfl) rfl ?_
  intro _ w0 S
  by_cases h : n = 0
  · rw [show (!decide (n = 0 ∨ n = 1)) = false by simp [h]]
    exact hwE mixed ctr0_ok 100 [false] (.cb false) [(n != (0 : Int)) = false] (by kernel_rfl) (by repeat' first | exact trivial | exact bne_eq_false_iff_eq.mpr h | refine ⟨?_, ?_⟩) (by simp [wkR, wk, wk0])
  · rw [show (!decide (n = 0 ∨ n = 1)) = (n != 1) by by_cases h1 : n = 1 <;> simp [h, h1]]
    exact hwE mixed ctr0_ok 100 [true] (.b (n != (1 : Int))) [(n != (0 : Int)) = true] (by kernel_rfl) (by repeat' first | exact trivial | exact bne_iff_ne.mpr h | refine ⟨?_, ?_⟩) (by simp [wkR, wk, wk0])
end
section
variable {g h : List Nat → List Nat} (hg : g = sum32) (hh : h = sum64) {w0 : World} {S : Own} {res : SV}
include hg hh
theorem okSPh : CtrOk Tryz.prog (SPh g h) := addC_ok (addC_ok (addC_ok (okST hg hh) (eExp_ok (expand_c hg hh))) (eHm_ok (extract_c hg hh))) (eI1_ok sp_c)
theorem okSQh : CtrOk Tryz.prog (SQh g h) := addC_ok (addC_ok (addC_ok (okST hg hh) (eExp_ok (qexpand_c hg hh))) (eHm_ok (qextract_c hg hh))) (eI1_ok of_c)
theorem hs_c (n : Int) (b : List Nat) (hb : b.length ≤ 900000) : Contract Tryz.prog 8 [.i .i64 n, .sl .u8 b] (.tup [.sl .u8 (onS n (g b) []), .u .i64 (onS n 0 10)]) := by
  refine contract Tryz.func8 (body := bodyOf Tryz.f8) rfl (by kernel_rfl) (by kernel_rfl) rfl ?_
  intro _ w0 S
  by_cases h1 : n = 0 ∨ n = 1
  · have hd : (!decide (n = 0 ∨ n = 1)) = false := by simp [h1]
    simp only [onS, if_pos h1]
    exact hwE mixed (okSPh hg hh) 100 [false] (.tup [.sl .u8 (g b), .c .i64 0]) [(!Decidable.decide (n = (0 : Int) ∨ n = (1 : Int))) = false, b.length ≤ 1000000] (by kernel_rfl) (by repeat' first | exact trivial | exact hd | omega | refine ⟨?_, ?_⟩) (by simp [wkR, wkl, wk, wk0, lim])
  · have hd : (!decide (n = 0 ∨ n = 1)) = true := by simp [h1]
    simp only [onS, if_neg h1]
    exact hwE mixed (okSPh hg hh) 100 [true] (.tup [.sl .u8 [], .c .i64 10]) [(!Decidable.decide (n = (0 : Int) ∨ n = (1 : Int))) = true] (by kernel_rfl) (by repeat' first | exact trivial | exact hd | omega | refine ⟨?_, ?_⟩) (by simp [wkR, wkl, wk, wk0, lim])
theorem ex_c (n : Int) (a b : List Nat) (ha : a.length ≤ 900000) (hb : b.length ≤ 900000) : Contract Tryz.prog 10 [.i .i64 n, .sl .u8 a, .sl .u8 b] (.tup [.sl .u8 (onS n (hm g a b) []), .u .i64 (onS n 0 10)]) := by
  refine contract Tryz.func10 (body := bodyOf Tryz.f10) rfl (by kernel_rfl) (by kernel_rfl) rfl ?_
  intro _ w0 S
  by_cases h1 : n = 0 ∨ n = 1
  · have hd : (!decide (n = 0 ∨ n = 1)) = false := by simp [h1]
    simp only [onS, if_pos h1]
    exact hwE mixed (okSPh hg hh) 100 [false] (.tup [.sl .u8 (hm g a b), .c .i64 0]) [(!Decidable.decide (n = (0 : Int) ∨ n = (1 : Int))) = false, a.length ≤ 900000, b.length ≤ 900000] (by kernel_rfl) (by repeat' first | exact trivial | exact hd | omega | refine ⟨?_, ?_⟩) (by simp [wkR, wkl, wk, wk0, lim])
  · have hd : (!decide (n = 0 ∨ n = 1)) = true := by simp [h1]
    simp only [onS, if_neg h1]
    exact hwE mixed (okSPh hg hh) 100 [true] (.tup [.sl .u8 [], .c .i64 10]) [(!Decidable.decide (n = (0 : Int) ∨ n = (1 : Int))) = true] (by kernel_rfl) (by repeat' first | exact trivial | exact hd | omega | refine ⟨?_, ?_⟩) (by simp [wkR, wkl, wk, wk0, lim])
theorem ep_c (n : Int) (a b : List Nat) (m : Int) (ha : a.length ≤ 900000) (hb : b.length ≤ 800000) : Contract Tryz.prog 12 [.i .i64 n, .sl .u8 a, .sl .u8 b, .i .i64 m] (.tup [.sl .u8 (onS n (expE g a b m) []), .u .i64 (onS n (eErr m) 10)]) := by
  refine contract Tryz.func12 (body := bodyOf Tryz.f12) rfl (by kernel_rfl) (by kernel_rfl) rfl ?_
  intro _ w0 S
  by_cases h1 : n = 0 ∨ n = 1
  · have hd : (!decide (n = 0 ∨ n = 1)) = false := by simp [h1]
    simp only [onS, if_pos h1]
    exact hwE mixed (okSPh hg hh) 100 [false] (.tup [.sl .u8 (expE g a b m), .u .i64 (eErr m)]) [(!Decidable.decide (n = (0 : Int) ∨ n = (1 : Int))) = false, a.length ≤ 900000, b.length ≤ 800000] (by kernel_rfl) (by repeat' first | exact trivial | exact hd | omega | refine ⟨?_, ?_⟩) (by simp [wkR, wkl, wk, wk0, lim])
  · have hd : (!decide (n = 0 ∨ n = 1)) = true := by simp [h1]
    simp only [onS, if_neg h1]
    exact hwE mixed (okSPh hg hh) 100 [true] (.tup [.sl .u8 [], .c .i64 10]) [(!Decidable.decide (n = (0 : Int) ∨ n = (1 : Int))) = true] (by kernel_rfl) (by repeat' first | exact trivial | exact hd | omega | refine ⟨?_, ?_⟩) (by simp [wkR, wkl, wk, wk0, lim])
theorem qhs_c (n : Int) (b : List Nat) (hb : b.length ≤ 900000) : Contract Tryz.prog 9 [.i .i64 n, .sl .u8 b] (.tup [.sl .u8 (onS n (g b) []), .u .i64 (onS n 0 10)]) := by
  refine contract Tryz.func9 (body := bodyOf Tryz.f9) rfl (by kernel_rfl) (by kernel_rfl) rfl ?_
  intro _ w0 S
  by_cases h1 : n = 0 ∨ n = 1
  · have hd : (!decide (n = 0 ∨ n = 1)) = false := by simp [h1]
    simp only [onS, if_pos h1]
    exact hwE mixed (okSQh hg hh) 100 [false] (.tup [.sl .u8 (g b), .c .i64 0]) [(!Decidable.decide (n = (0 : Int) ∨ n = (1 : Int))) = false, b.length ≤ 1000000] (by kernel_rfl) (by repeat' first | exact trivial | exact hd | omega | refine ⟨?_, ?_⟩) (by simp [wkR, wkl, wk, wk0, lim])
  · have hd : (!decide (n = 0 ∨ n = 1)) = true := by simp [h1]
    simp only [onS, if_neg h1]
    exact hwE mixed (okSQh hg hh) 100 [true] (.tup [.sl .u8 [], .c .i64 10]) [(!Decidable.decide (n = (0 : Int) ∨ n = (1 : Int))) = true] (by kernel_rfl) (by repeat' first | exact trivial | exact hd | omega | refine ⟨?_, ?_⟩) (by simp [wkR, wkl, wk, wk0, lim])
theorem qex_c (n : Int) (a b : List Nat) (ha : a.length ≤ 900000) (hb : b.length ≤ 900000) : Contract Tryz.prog 11 [.i .i64 n, .sl .u8 a, .sl .u8 b] (.tup [.sl .u8 (onS n (hm g a b) []), .u .i64 (onS n 0 10)]) := by
  refine contract Tryz.func11 (body := bodyOf Tryz.f11) rfl (by kernel_rfl) (by kernel_rfl) rfl ?_
  intro _ w0 S
  by_cases h1 : n = 0 ∨ n = 1
  · have hd : (!decide (n = 0 ∨ n = 1)) = false := by simp [h1]
    simp only [onS, if_pos h1]
    exact hwE mixed (okSQh hg hh) 100 [false] (.tup [.sl .u8 (hm g a b), .c .i64 0]) [(!Decidable.decide (n = (0 : Int) ∨ n = (1 : Int))) = false, a.length ≤ 900000, b.length ≤ 900000] (by kernel_rfl) (by repeat' first | exact trivial | exact hd | omega | refine ⟨?_, ?_⟩) (by simp [wkR, wkl, wk, wk0, lim])
  · have hd : (!decide (n = 0 ∨ n = 1)) = true := by simp [h1]
    simp only [onS, if_neg h1]
    exact hwE mixed (okSQh hg hh) 100 [true] (.tup [.sl .u8 [], .c .i64 10]) [(!Decidable.decide (n = (0 : Int) ∨ n = (1 : Int))) = true] (by kernel_rfl) (by repeat' first | exact trivial | exact hd | omega | refine ⟨?_, ?_⟩) (by simp [wkR, wkl, wk, wk0, lim])
theorem qep_c (n : Int) (a b : List Nat) (m : Int) (ha : a.length ≤ 900000) (hb : b.length ≤ 800000) : Contract Tryz.prog 13 [.i .i64 n, .sl .u8 a, .sl .u8 b, .i .i64 m] (.tup [.sl .u8 (onS n (expE g a b m) []), .u .i64 (onS n (eErr m) 10)]) := by
  refine contract Tryz.func13 (body := bodyOf Tryz.f13) rfl (by kernel_rfl) (by kernel_rfl) rfl ?_
  intro _ w0 S
  by_cases h1 : n = 0 ∨ n = 1
  · have hd : (!decide (n = 0 ∨ n = 1)) = false := by simp [h1]
    simp only [onS, if_pos h1]
    exact hwE mixed (okSQh hg hh) 100 [false] (.tup [.sl .u8 (expE g a b m), .u .i64 (eErr m)]) [(!Decidable.decide (n = (0 : Int) ∨ n = (1 : Int))) = false, a.length ≤ 900000, b.length ≤ 800000] (by kernel_rfl) (by repeat' first | exact trivial | exact hd | omega | refine ⟨?_, ?_⟩) (by simp [wkR, wkl, wk, wk0, lim])
  · have hd : (!decide (n = 0 ∨ n = 1)) = true := by simp [h1]
    simp only [onS, if_neg h1]
    exact hwE mixed (okSQh hg hh) 100 [true] (.tup [.sl .u8 [], .c .i64 10]) [(!Decidable.decide (n = (0 : Int) ∨ n = (1 : Int))) = true] (by kernel_rfl) (by repeat' first | exact trivial | exact hd | omega | refine ⟨?_, ?_⟩) (by simp [wkR, wkl, wk, wk0, lim])
end
theorem okSPc : CtrOk Tryz.prog SPc := addC_ok (addC_ok (addC_ok ctr0_ok spc_ok) op_ok) se_ok
theorem okSQc : CtrOk Tryz.prog SQc := addC_ok (addC_ok (addC_ok (addC_ok ctr0_ok (inl_ok mixed (by kernel_rfl) (by kernel_rfl) (by kernel_rfl) ctr0_ok)) (inl_ok mixed (by kernel_rfl) (by kernel_rfl) (by kernel_rfl) ctr0_ok)) qop_ok) qse_ok
theorem okSPd : CtrOk Tryz.prog SPd := addC_ok ctr0_ok (eI1_ok sp_c)
theorem okSQd : CtrOk Tryz.prog SQd := addC_ok ctr0_ok (eI1_ok of_c)
section
variable {w0 : World} {S : Own} {res : SV}
theorem sse_0 (key nonce aad x : List Nat) (ha : aad.length ≤ 4096) (hx : x.length ≤ 4096) : Contract Tryz.prog 14 [.c .i64 0, .sl .u8 key, .sl .u8 nonce, .sl .u8 aad, .sl .u8 x] (.tup [.sl .u8 (sealL 8 key nonce aad x), .u .i64 (vdE key nonce)]) := by
  refine contract Tryz.func14 (body := bodyOf Tryz.f14) rfl (by kernel_rfl) (by kernel_rfl) rfl ?_
  intro _ w0 S
  exact hwE mixed okSPc 100 [] (.tup [.sl .u8 (sealL 8 key nonce aad x), .u .i64 (vdE key nonce)]) [aad.length ≤ 4096, x.length ≤ 4096] (by kernel_rfl) (by repeat' first | exact trivial | exact ha | exact hx | refine ⟨?_, ?_⟩) (wkR_of rfl)
theorem sse_1 (key nonce aad x : List Nat) (ha : aad.length ≤ 4096) (hx : x.length ≤ 4096) : Contract Tryz.prog 14 [.c .i64 1, .sl .u8 key, .sl .u8 nonce, .sl .u8 aad, .sl .u8 x] (.tup [.sl .u8 (sealL 16 key nonce aad x), .u .i64 (vdE key nonce)]) := by
  refine contract Tryz.func14 (body := bodyOf Tryz.f14) rfl (by kernel_rfl) (by kernel_rfl) rfl ?_
  intro _ w0 S
  exact hwE mixed okSPc 100 [] (.tup [.sl .u8 (sealL 16 key nonce aad x), .u .i64 (vdE key nonce)]) [aad.length ≤ 4096, x.length ≤ 4096] (by kernel_rfl) (by repeat' first | exact trivial | exact ha | exact hx | refine ⟨?_, ?_⟩) (wkR_of rfl)
theorem sse_c (n : Int) (key nonce aad x : List Nat) (ha : aad.length ≤ 4096) (hx : x.length ≤ 4096) : Contract Tryz.prog 14 [.i .i64 n, .sl .u8 key, .sl .u8 nonce, .sl .u8 aad, .sl .u8 x] (.tup [.sl .u8 (suS n key nonce aad x), .u .i64 (onS n (vdE key nonce) 10)]) := by
  by_cases h0 : n = 0
  · subst h0
    exact Contract.argsF (sse_0 key nonce aad x ha hx) (by simp [wkl, wk, wk0])
  by_cases h1 : n = 1
  · subst h1
    exact Contract.argsF (sse_1 key nonce aad x ha hx) (by simp [wkl, wk, wk0])
  have hd : (!decide (n = 0 ∨ n = 1)) = true := by simp [h0, h1]
  simp only [onS, suS, suO, suE, if_neg h0, if_neg h1, h0, h1, or_self, if_false]
  refine contract Tryz.func14 (body := bodyOf Tryz.f14) rfl (by kernel_rfl) (by kernel_rfl) rfl ?_
  intro _ w0 S
  exact hwE mixed okSPd 100 [true] (.tup [.sl .u8 [], .c .i64 10]) [(!Decidable.decide (n = (0 : Int) ∨ n = (1 : Int))) = true] (by kernel_rfl) (by repeat' first | exact trivial | exact hd | refine ⟨?_, ?_⟩) (by simp [wkR, wkl, wk, wk0, lim])
theorem sop_0 (key nonce aad x : List Nat) (ha : aad.length ≤ 4096) (hx : x.length ≤ 4096) : Contract Tryz.prog 16 [.c .i64 0, .sl .u8 key, .sl .u8 nonce, .sl .u8 aad, .sl .u8 x] (.tup [.sl .u8 (openL 8 key nonce aad x), .u .i64 (openE 8 key nonce aad x)]) := by
  refine contract Tryz.func16 (body := bodyOf Tryz.f16) rfl (by kernel_rfl) (by kernel_rfl) rfl ?_
  intro _ w0 S
  exact hwE mixed okSPc 100 [] (.tup [.sl .u8 (openL 8 key nonce aad x), .u .i64 (openE 8 key nonce aad x)]) [aad.length ≤ 4096, x.length ≤ 4096] (by kernel_rfl) (by repeat' first | exact trivial | exact ha | exact hx | refine ⟨?_, ?_⟩) (wkR_of rfl)
theorem sop_1 (key nonce aad x : List Nat) (ha : aad.length ≤ 4096) (hx : x.length ≤ 4096) : Contract Tryz.prog 16 [.c .i64 1, .sl .u8 key, .sl .u8 nonce, .sl .u8 aad, .sl .u8 x] (.tup [.sl .u8 (openL 16 key nonce aad x), .u .i64 (openE 16 key nonce aad x)]) := by
  refine contract Tryz.func16 (body := bodyOf Tryz.f16) rfl (by kernel_rfl) (by kernel_rfl) rfl ?_
  intro _ w0 S
  exact hwE mixed okSPc 100 [] (.tup [.sl .u8 (openL 16 key nonce aad x), .u .i64 (openE 16 key nonce aad x)]) [aad.length ≤ 4096, x.length ≤ 4096] (by kernel_rfl) (by repeat' first | exact trivial | exact ha | exact hx | refine ⟨?_, ?_⟩) (wkR_of rfl)
theorem sop_c (n : Int) (key nonce aad x : List Nat) (ha : aad.length ≤ 4096) (hx : x.length ≤ 4096) : Contract Tryz.prog 16 [.i .i64 n, .sl .u8 key, .sl .u8 nonce, .sl .u8 aad, .sl .u8 x] (.tup [.sl .u8 (suO n key nonce aad x), .u .i64 (suE n key nonce aad x)]) := by
  by_cases h0 : n = 0
  · subst h0
    exact Contract.argsF (sop_0 key nonce aad x ha hx) (by simp [wkl, wk, wk0])
  by_cases h1 : n = 1
  · subst h1
    exact Contract.argsF (sop_1 key nonce aad x ha hx) (by simp [wkl, wk, wk0])
  have hd : (!decide (n = 0 ∨ n = 1)) = true := by simp [h0, h1]
  simp only [onS, suS, suO, suE, if_neg h0, if_neg h1, h0, h1, or_self, if_false]
  refine contract Tryz.func16 (body := bodyOf Tryz.f16) rfl (by kernel_rfl) (by kernel_rfl) rfl ?_
  intro _ w0 S
  exact hwE mixed okSPd 100 [true] (.tup [.sl .u8 [], .c .i64 10]) [(!Decidable.decide (n = (0 : Int) ∨ n = (1 : Int))) = true] (by kernel_rfl) (by repeat' first | exact trivial | exact hd | refine ⟨?_, ?_⟩) (by simp [wkR, wkl, wk, wk0, lim])
theorem sqse_0 (key nonce aad x : List Nat) (ha : aad.length ≤ 4096) (hx : x.length ≤ 4096) : Contract Tryz.prog 15 [.c .i64 0, .sl .u8 key, .sl .u8 nonce, .sl .u8 aad, .sl .u8 x] (.tup [.sl .u8 (sealL 8 key nonce aad x), .u .i64 (vdE key nonce)]) := by
  refine contract Tryz.func15 (body := bodyOf Tryz.f15) rfl (by kernel_rfl) (by kernel_rfl) rfl ?_
  intro _ w0 S
  exact hwE mixed okSQc 100 [] (.tup [.sl .u8 (sealL 8 key nonce aad x), .u .i64 (vdE key nonce)]) [aad.length ≤ 4096, x.length ≤ 4096] (by kernel_rfl) (by repeat' first | exact trivial | exact ha | exact hx | refine ⟨?_, ?_⟩) (wkR_of rfl)
theorem sqse_1 (key nonce aad x : List Nat) (ha : aad.length ≤ 4096) (hx : x.length ≤ 4096) : Contract Tryz.prog 15 [.c .i64 1, .sl .u8 key, .sl .u8 nonce, .sl .u8 aad, .sl .u8 x] (.tup [.sl .u8 (sealL 16 key nonce aad x), .u .i64 (vdE key nonce)]) := by
  refine contract Tryz.func15 (body := bodyOf Tryz.f15) rfl (by kernel_rfl) (by kernel_rfl) rfl ?_
  intro _ w0 S
  exact hwE mixed okSQc 100 [] (.tup [.sl .u8 (sealL 16 key nonce aad x), .u .i64 (vdE key nonce)]) [aad.length ≤ 4096, x.length ≤ 4096] (by kernel_rfl) (by repeat' first | exact trivial | exact ha | exact hx | refine ⟨?_, ?_⟩) (wkR_of rfl)
theorem sqse_c (n : Int) (key nonce aad x : List Nat) (ha : aad.length ≤ 4096) (hx : x.length ≤ 4096) : Contract Tryz.prog 15 [.i .i64 n, .sl .u8 key, .sl .u8 nonce, .sl .u8 aad, .sl .u8 x] (.tup [.sl .u8 (suS n key nonce aad x), .u .i64 (onS n (vdE key nonce) 10)]) := by
  by_cases h0 : n = 0
  · subst h0
    exact Contract.argsF (sqse_0 key nonce aad x ha hx) (by simp [wkl, wk, wk0])
  by_cases h1 : n = 1
  · subst h1
    exact Contract.argsF (sqse_1 key nonce aad x ha hx) (by simp [wkl, wk, wk0])
  have hd : (!decide (n = 0 ∨ n = 1)) = true := by simp [h0, h1]
  simp only [onS, suS, suO, suE, if_neg h0, if_neg h1, h0, h1, or_self, if_false]
  refine contract Tryz.func15 (body := bodyOf Tryz.f15) rfl (by kernel_rfl) (by kernel_rfl) rfl ?_
  intro _ w0 S
  exact hwE mixed okSQd 100 [true] (.tup [.sl .u8 [], .c .i64 10]) [(!Decidable.decide (n = (0 : Int) ∨ n = (1 : Int))) = true] (by kernel_rfl) (by repeat' first | exact trivial | exact hd | refine ⟨?_, ?_⟩) (by simp [wkR, wkl, wk, wk0, lim])
theorem sqop_0 (key nonce aad x : List Nat) (ha : aad.length ≤ 4096) (hx : x.length ≤ 4096) : Contract Tryz.prog 17 [.c .i64 0, .sl .u8 key, .sl .u8 nonce, .sl .u8 aad, .sl .u8 x] (.tup [.sl .u8 (openL 8 key nonce aad x), .u .i64 (openE 8 key nonce aad x)]) := by
  refine contract Tryz.func17 (body := bodyOf Tryz.f17) rfl (by kernel_rfl) (by kernel_rfl) rfl ?_
  intro _ w0 S
  exact hwE mixed okSQc 100 [] (.tup [.sl .u8 (openL 8 key nonce aad x), .u .i64 (openE 8 key nonce aad x)]) [aad.length ≤ 4096, x.length ≤ 4096] (by kernel_rfl) (by repeat' first | exact trivial | exact ha | exact hx | refine ⟨?_, ?_⟩) (wkR_of rfl)
theorem sqop_1 (key nonce aad x : List Nat) (ha : aad.length ≤ 4096) (hx : x.length ≤ 4096) : Contract Tryz.prog 17 [.c .i64 1, .sl .u8 key, .sl .u8 nonce, .sl .u8 aad, .sl .u8 x] (.tup [.sl .u8 (openL 16 key nonce aad x), .u .i64 (openE 16 key nonce aad x)]) := by
  refine contract Tryz.func17 (body := bodyOf Tryz.f17) rfl (by kernel_rfl) (by kernel_rfl) rfl ?_
  intro _ w0 S
  exact hwE mixed okSQc 100 [] (.tup [.sl .u8 (openL 16 key nonce aad x), .u .i64 (openE 16 key nonce aad x)]) [aad.length ≤ 4096, x.length ≤ 4096] (by kernel_rfl) (by repeat' first | exact trivial | exact ha | exact hx | refine ⟨?_, ?_⟩) (wkR_of rfl)
theorem sqop_c (n : Int) (key nonce aad x : List Nat) (ha : aad.length ≤ 4096) (hx : x.length ≤ 4096) : Contract Tryz.prog 17 [.i .i64 n, .sl .u8 key, .sl .u8 nonce, .sl .u8 aad, .sl .u8 x] (.tup [.sl .u8 (suO n key nonce aad x), .u .i64 (suE n key nonce aad x)]) := by
  by_cases h0 : n = 0
  · subst h0
    exact Contract.argsF (sqop_0 key nonce aad x ha hx) (by simp [wkl, wk, wk0])
  by_cases h1 : n = 1
  · subst h1
    exact Contract.argsF (sqop_1 key nonce aad x ha hx) (by simp [wkl, wk, wk0])
  have hd : (!decide (n = 0 ∨ n = 1)) = true := by simp [h0, h1]
  simp only [onS, suS, suO, suE, if_neg h0, if_neg h1, h0, h1, or_self, if_false]
  refine contract Tryz.func17 (body := bodyOf Tryz.f17) rfl (by kernel_rfl) (by kernel_rfl) rfl ?_
  intro _ w0 S
  exact hwE mixed okSQd 100 [true] (.tup [.sl .u8 [], .c .i64 10]) [(!Decidable.decide (n = (0 : Int) ∨ n = (1 : Int))) = true] (by kernel_rfl) (by repeat' first | exact trivial | exact hd | refine ⟨?_, ?_⟩) (by simp [wkR, wkl, wk, wk0, lim])
end
end Go.Eng.B

