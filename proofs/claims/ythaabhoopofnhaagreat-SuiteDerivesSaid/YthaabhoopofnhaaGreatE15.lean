import Derived.Test.YthaabhoopofnhaaGreatE14
import Derived.WideShapes
import Derived.OpenShut
import Derived.ChangeSlices
import Derived.RowKit
import Derived.Test.YthaabhoopofnhaaGreatRows
import Derived.ProofKit
import Derived.JoinedOf
import Derived.KernelRfl
set_option linter.unusedVariables false
set_option linter.unusedSimpArgs false
set_option linter.unusedSectionVars false
namespace Go.Eng.B
open Go Go.Eng Go.Proofs
set_option maxRecDepth 100000
def smB (k : Int) (i : Nat) : Nat := ((k % 18446744073709551616).toNat / 2 ^ (8 * (i % 8) % 18446744073709551616) % 256 + i / 8 % 256) % 256
def smL (k : Int) (i : Nat) : List Nat := itr (fun b j => b ++ [smB k j]) [] i
def stS : List It := [.lp [0, 1, 0, 1, 1], .blk 0, .at [1, 1, 1]]
def sS (k n : Int) (i : Nat) : St := ⟨28, [(0, .i .i64 k), (5, .row 0 (.sl .u8 (smL k i))), (7, .i .i64 n), (8, .u .i64 i)], [(0, bY)], 3, 0⟩
def eSome (args : List SV) : Option (SV × List Prop) :=
  match args with
  | [x, y] => match x.int?, y.int? with
    | some (.i64, k), some (.i64, n) => some (.sl .u8 (smL k n.toNat), [n ≤ 1000000])
    | _, _ => none
  | _ => none
theorem smL_len (k : Int) : ∀ i, (smL k i).length = i := by
  intro i
  induction i with
  | zero => rfl
  | succ i ih => show (smL k i ++ [smB k i]).length = _; simp [ih]
section
variable {w0 : World} {S : Own} {res : SV}
theorem some_l (k n : Int) (hn : n ≤ 1000000) (hr : res = .sl .u8 (smL k n.toNat)) : ∀ d i, n.toNat - i = d → i ≤ n.toNat → Hold Tryz.prog (bodyOf Tryz.f6) (Fin Tryz.prog Tryz.f6 w0 S res) w0 S stS (sS k n i) := by
  intro d
  induction d using Nat.strongRecOn with
  | _ d ih =>
  intro i hd hi
  have hl := smL_len k i
  refine hold_unroll (c := _) rfl ?_
  by_cases hlt : (i : Int) < n
  · have e := ih (n.toNat - (i + 1)) (by omega) (i + 1) rfl (by omega)
    rw [show sS k n (i + 1) = ⟨28, [(0, .i .i64 k), (5, .row 0 (.sl .u8 (smL k i ++ [smB k i]))), (7, .i .i64 n), (8, .u .i64 (i + 1))], [(0, bY)], 3, 0⟩ from rfl] at e
    unfold smB at e
    refine hwC mixed okC1a 300 [true] [0,5,7,8] [0] 3 [.lp [0, 1, 0, 1, 1], .blk 0, .at [1, 1, 1]] ⟨28, [(0, .i .i64 k), (5, .row 0 (.sl .u8 (smL k i ++ [((k % (18446744073709551616 : Int)).toNat / 2 ^ (8 * (i % 8) % 18446744073709551616) % 256 + i / 8 % 256) % 256]))), (7, .i .i64 n), (8, .u .i64 (i + 1))], [(0, ⟨5, [], true⟩)], 3, 0⟩ [Decidable.decide ((↑i : Int) < n) = true, 8 * (i % 8) % 18446744073709551616 < 64, slenD (.sl .u8 (smL k i ++ [((k % (18446744073709551616 : Int)).toNat / 2 ^ (8 * (i % 8) % 18446744073709551616) % 256 + i / 8 % 256) % 256])) * 1 ≤ 140737488355328, i + 1 < 9223372036854775808] (by kernel_rfl) (by repeat' first | exact trivial | exact decide_eq_true (by omega) | exact decide_eq_false (by omega) | omega | (simp only [slenD, SV.slen, List.length_append, List.length_cons, List.length_nil]; omega) | (simp only [inR, lo, lim]; omega) | refine ⟨?_, ?_⟩) ?_
    exact e
  · have e : i = n.toNat := by omega
    subst e
    refine hold_end mixed okC1a (unroll := false) (f := 300) (sc := [false]) (r := (.sl .u8 (smL k n.toNat))) (ob := [Decidable.decide ((↑n.toNat : Int) < n) = false]) (sc' := []) (by kernel_rfl) (by repeat' first | exact trivial | exact decide_eq_true (by omega) | exact decide_eq_false (by omega) | omega | (simp only [slenD, SV.slen, List.length_append, List.length_cons, List.length_nil]; omega) | (simp only [inR, lo, lim]; omega) | refine ⟨?_, ?_⟩) ?_
    exact hr.symm
theorem some_c (k n : Int) (hn : n ≤ 1000000) : Contract Tryz.prog 6 [.i .i64 k, .i .i64 n] (.sl .u8 (smL k n.toNat)) := by
  refine contract Tryz.func6 (body := bodyOf Tryz.f6) rfl (by kernel_rfl) (by kernel_rfl) rfl ?_
  intro _ w0 S
  refine hwC mixed okC1a 100 [] [0,5,7,8] [] 0 [.lp [0, 1, 0, 1, 1], .blk 0, .at [1, 1, 1]] ⟨28, [(0, .i .i64 k), (5, .nil), (7, .i .i64 n), (8, .c .i64 0)], [], 0, 0⟩ [] (by kernel_rfl) trivial ?_
  refine hold_nil (t := 5) (e := 5) (s0 := .sl .u8 []) rfl ?_
  refine hold_restrict (ks := [0,5,7,8]) (bs := [0]) (nx := 3) rfl ?_
  exact Hold.weaken (some_l k n hn rfl _ 0 rfl (by omega)) (by simp [wks, wk, wk0, lim, sS, smL, itr])
end
theorem some_ok : ∀ args res ob, eSome args = some (res, ob) → All ob → Contract Tryz.prog 6 args res := by
  intro args res ob he hob
  unfold eSome at he
  split at he
  · split at he
    · rename_i hx hy
      cases he
      exact Contract.argsF (some_c _ _ hob.1) ⟨int?_wk hx, int?_wk hy, rfl⟩
    · cases he
  · cases he
end Go.Eng.B

namespace Go.Eng.B
open Go Go.Eng Go.Proofs
set_option maxRecDepth 100000
set_option maxHeartbeats 1000000
def eSho (args : List SV) : Option (SV × List Prop) := match args with
  | [x] => match part? x with | some b => some (.b (decide (b.length ≤ 600)), []) | none => none
  | _ => none
def eAw (args : List SV) : Option (SV × List Prop) := match args with
  | [] => some (.b true, [])
  | _ => none
noncomputable def LWd (g : List Nat → List Nat) : Ctr := addC 4 eSho (addC 7 eMod (addC 6 eSome (addC 5 eAw
  (addC 8 (eHs g) (addC 10 (eEx g) (addC 12 (eEp g) (addC 14 eSS (addC 16 eSO
  (addC 9 (eHs g) (addC 11 (eEx g) (addC 13 (eEp g) (addC 15 eSS (addC 17 eSO ctr0)))))))))))))
section
variable {w0 : World} {S : Own} {res : SV}
theorem sho_c (b : List Nat) : Contract Tryz.prog 4 [.sl .u8 b] (.b (decide (b.length ≤ 600))) := by
  refine contract Tryz.func4 (body := bodyOf Tryz.f4) rfl (by kernel_rfl) (by kernel_rfl) rfl ?_
  intro _ w0 S
  exact hwF mixed ctr0_ok 100 [] (.b (Decidable.decide (b.length ≤ 600))) [] (by kernel_rfl) trivial (wkR_of rfl)
theorem sho_ok : ∀ args res ob, eSho args = some (res, ob) → All ob → Contract Tryz.prog 4 args res := by
  intro args res ob he _
  unfold eSho at he
  split at he
  · split at he
    · rename_i hx; cases he; exact Contract.argsF (sho_c _) ⟨wk_of0 (part_wk hx), rfl⟩
    · cases he
  · cases he
theorem aw_ok : ∀ args res ob, eAw args = some (res, ob) → All ob → Contract Tryz.prog 5 args res := by
  intro args res ob he _
  unfold eAw at he
  split at he
  · cases he; exact cAwake
  · cases he
theorem eHs_ok {P : Program} {f : FuncId} {g : List Nat → List Nat} (h : ∀ (n : Int) (b : List Nat), b.length ≤ 900000 → Contract P f [.i .i64 n, .sl .u8 b] (.tup [.sl .u8 (onS n (g b) []), .u .i64 (onS n 0 10)])) : ∀ args res ob, eHs g args = some (res, ob) → All ob → Contract P f args res := by
  intro args res ob he hob
  unfold eHs at he
  split at he
  · split at he
    · rename_i hx; cases he; exact Contract.argsF (h _ _ hob.1) ⟨int?_wk hx, wk_refl _, rfl⟩
    · cases he
  · cases he
theorem eEx_ok {P : Program} {f : FuncId} {g : List Nat → List Nat} (h : ∀ (n : Int) (a b : List Nat), a.length ≤ 900000 → b.length ≤ 900000 → Contract P f [.i .i64 n, .sl .u8 a, .sl .u8 b] (.tup [.sl .u8 (onS n (hm g a b) []), .u .i64 (onS n 0 10)])) : ∀ args res ob, eEx g args = some (res, ob) → All ob → Contract P f args res := by
  intro args res ob he hob
  unfold eEx at he
  split at he
  · split at he
    · rename_i hx; cases he; exact Contract.argsF (h _ _ _ hob.1 hob.2.1) ⟨int?_wk hx, wk_refl _, wk_refl _, rfl⟩
    · cases he
  · cases he
theorem eEp_ok {P : Program} {f : FuncId} {g : List Nat → List Nat} (h : ∀ (n : Int) (a b : List Nat) (m : Int), a.length ≤ 900000 → b.length ≤ 800000 → Contract P f [.i .i64 n, .sl .u8 a, .sl .u8 b, .i .i64 m] (.tup [.sl .u8 (onS n (expE g a b m) []), .u .i64 (onS n (eErr m) 10)])) : ∀ args res ob, eEp g args = some (res, ob) → All ob → Contract P f args res := by
  intro args res ob he hob
  unfold eEp at he
  split at he
  · split at he
    · rename_i hx hy; cases he; exact Contract.argsF (h _ _ _ _ hob.1 hob.2.1) ⟨int?_wk hx, wk_refl _, wk_refl _, int?_wk hy, rfl⟩
    · cases he
  · cases he
theorem eSS_ok {P : Program} {f : FuncId} (h : ∀ (n : Int) (key nonce aad x : List Nat), aad.length ≤ 4096 → x.length ≤ 4096 → Contract P f [.i .i64 n, .sl .u8 key, .sl .u8 nonce, .sl .u8 aad, .sl .u8 x] (.tup [.sl .u8 (suS n key nonce aad x), .u .i64 (onS n (vdE key nonce) 10)])) : ∀ args res ob, eSS args = some (res, ob) → All ob → Contract P f args res := by
  intro args res ob he hob
  unfold eSS at he
  split at he
  · split at he
    · rename_i hx; cases he; exact Contract.argsF (h _ _ _ _ _ hob.1 hob.2.1) ⟨int?_wk hx, wk_refl _, wk_refl _, wk_refl _, wk_refl _, rfl⟩
    · cases he
  · cases he
theorem eSO_ok {P : Program} {f : FuncId} (h : ∀ (n : Int) (key nonce aad x : List Nat), aad.length ≤ 4096 → x.length ≤ 4096 → Contract P f [.i .i64 n, .sl .u8 key, .sl .u8 nonce, .sl .u8 aad, .sl .u8 x] (.tup [.sl .u8 (suO n key nonce aad x), .u .i64 (suE n key nonce aad x)])) : ∀ args res ob, eSO args = some (res, ob) → All ob → Contract P f args res := by
  intro args res ob he hob
  unfold eSO at he
  split at he
  · split at he
    · rename_i hx; cases he; exact Contract.argsF (h _ _ _ _ _ hob.1 hob.2.1) ⟨int?_wk hx, wk_refl _, wk_refl _, wk_refl _, wk_refl _, rfl⟩
    · cases he
  · cases he
theorem okLWd {g h : List Nat → List Nat} (hg : g = sum32) (hh : h = sum64) : CtrOk Tryz.prog (LWd g) :=
  addC_ok (addC_ok (addC_ok (addC_ok (addC_ok (addC_ok (addC_ok (addC_ok (addC_ok (addC_ok (addC_ok (addC_ok (addC_ok (addC_ok ctr0_ok
    (eSO_ok sqop_c)) (eSS_ok sqse_c)) (eEp_ok (qep_c hg hh))) (eEx_ok (qex_c hg hh))) (eHs_ok (qhs_c hg hh)))
    (eSO_ok sop_c)) (eSS_ok sse_c)) (eEp_ok (ep_c hg hh))) (eEx_ok (ex_c hg hh))) (eHs_ok (hs_c hg hh))) aw_ok) some_ok) cMod) sho_ok
theorem sealL_len {nn : Nat} {key nonce aad plain : List Nat} : (sealL nn key nonce aad plain).length ≤ plain.length + nn := by
  unfold sealL
  split
  · rw [List.length_append, sL_len, List.length_take]; omega
  · simp
theorem suS_len {n : Int} {key nonce aad plain : List Nat} : (suS n key nonce aad plain).length ≤ plain.length + 16 := by
  unfold suS
  split
  · have := sealL_len (nn := 8) (key := key) (nonce := nonce) (aad := aad) (plain := plain); omega
  · split
    · exact sealL_len
    · simp
theorem tdiv3 {n : Int} (h : inR .i64 n) : inR .i64 (n.tdiv 3) := by
  simp only [inR, lo, lim] at h ⊢
  rcases Int.le_total 0 n with h0 | h0
  · rw [Int.tdiv_eq_ediv_of_nonneg h0]; omega
  · have e : n.tdiv 3 = -((-n).tdiv 3) := by rw [Int.neg_tdiv, Int.neg_neg]
    rw [e, Int.tdiv_eq_ediv_of_nonneg (by omega)]; omega
theorem SuiteDerives_c (a b c d : List Nat) (raw n len : Int) : Contract Tryz.prog 3 [.sl .u8 a, .sl .u8 b, .sl .u8 c, .sl .u8 d, .i .i64 raw, .i .i64 n, .i .i64 len] (.b true) := by
  obtain ⟨g, hg⟩ : ∃ g, g = sum32 := ⟨_, rfl⟩
  obtain ⟨h, hh⟩ : ∃ h, h = sum64 := ⟨_, rfl⟩
  refine contract Tryz.func3 (body := bodyOf Tryz.f3) rfl (by kernel_rfl) (by kernel_rfl) rfl ?_
  rintro ⟨_, _, _, _, _, hn, _, _⟩ w0 S
  have hn3 : inR .i64 (n.tdiv 3) := tdiv3 hn
  have hn4 : lo .i64 ≤ n.tdiv 3 := hn3.1
  have hn5 : n.tdiv 3 < lim .i64 := hn3.2
  by_cases h1 : a.length ≤ 600
  · have e1 : (!decide (a.length ≤ 600)) = false := by simp [h1]
    by_cases h2 : b.length ≤ 600
    · have e2 : (!decide (b.length ≤ 600)) = false := by simp [h2]
      by_cases h3 : c.length ≤ 600
      · have e3 : (!decide (c.length ≤ 600)) = false := by simp [h3]
        by_cases h4 : d.length ≤ 600
        · have e4 : (!decide (d.length ≤ 600)) = false := by simp [h4]
          have m0 := Int.emod_nonneg len (show (100 : Int) ≠ 0 by omega)
          have m1 := Int.emod_lt_of_pos len (show (0 : Int) < 100 by omega)
          have hS : ∀ n key nonce, (suS n key nonce c d).length ≤ 4096 := fun n key nonce => by have := suS_len (n := n) (key := key) (nonce := nonce) (aad := c) (plain := d); omega
          have c9 : c.length ≤ 4096 := by omega
          have d9 : d.length ≤ 4096 := by omega
          have a9 : a.length ≤ 900000 := by omega
          have b9 : b.length ≤ 900000 := by omega
          have b8 : b.length ≤ 800000 := by omega
          exact hwF mixed (okLWd hg hh) 2000 [false, false, false, false, false, false, false, false, false, false, false, false, false, false, false, false, false, false, false, false, false, false, false, false, false, false, false, false, false, false, false, false, false, false, false, false, false, false, false, false] (.b true) [(!Decidable.decide (a.length ≤ 600)) = false, (!Decidable.decide (b.length ≤ 600)) = false, (!Decidable.decide (c.length ≤ 600)) = false, (!Decidable.decide (d.length ≤ 600)) = false, (16 : Int) ≤ (1000000 : Int), (3 : Int) ≠ (0 : Int) ∧ inR .i64 (n.tdiv (3 : Int)), (13 : Int) ≤ (1000000 : Int), (0 : Int) < (4 : Int), a.length ≤ 900000, a.length ≤ 900000, a.length ≤ 900000, b.length ≤ 900000, a.length ≤ 900000, b.length ≤ 900000, (0 : Int) < (100 : Int), a.length ≤ 900000, b.length ≤ 800000, (0 : Int) < (100 : Int), a.length ≤ 900000, b.length ≤ 800000, (onS raw (g a) [] != onS raw (g a) []) = false, (onS raw 0 10 != onS raw 0 10) = false, (onS raw (hm g a b) [] != onS raw (hm g a b) []) = false, (onS raw 0 10 != onS raw 0 10) = false, (onS raw (expE g a b ((↑(len % (100 : Int)).toNat : Int) - (2 : Int))) [] != onS raw (expE g a b ((↑(len % (100 : Int)).toNat : Int) - (2 : Int))) []) = false, (onS raw (eErr ((↑(len % (100 : Int)).toNat : Int) - (2 : Int))) 10 != onS raw (eErr ((↑(len % (100 : Int)).toNat : Int) - (2 : Int))) 10) = false, c.length ≤ 4096, d.length ≤ 4096, c.length ≤ 4096, d.length ≤ 4096, c.length ≤ 4096, (suS raw (smL n 16) (smL (n.tdiv (3 : Int)) 13) c d).length ≤ 4096, c.length ≤ 4096, (suS raw (smL n 16) (smL (n.tdiv (3 : Int)) 13) c d).length ≤ 4096, c.length ≤ 4096, d.length ≤ 4096, c.length ≤ 4096, d.length ≤ 4096, (suS raw (smL n 16) (smL (n.tdiv (3 : Int)) 13) c d != suS raw (smL n 16) (smL (n.tdiv (3 : Int)) 13) c d) = false, (onS raw (vdE (smL n 16) (smL (n.tdiv (3 : Int)) 13)) 10 != onS raw (vdE (smL n 16) (smL (n.tdiv (3 : Int)) 13)) 10) = false, (suO raw (smL n 16) (smL (n.tdiv (3 : Int)) 13) c (suS raw (smL n 16) (smL (n.tdiv (3 : Int)) 13) c d) != suO raw (smL n 16) (smL (n.tdiv (3 : Int)) 13) c (suS raw (smL n 16) (smL (n.tdiv (3 : Int)) 13) c d)) = false, (suE raw (smL n 16) (smL (n.tdiv (3 : Int)) 13) c (suS raw (smL n 16) (smL (n.tdiv (3 : Int)) 13) c d) != suE raw (smL n 16) (smL (n.tdiv (3 : Int)) 13) c (suS raw (smL n 16) (smL (n.tdiv (3 : Int)) 13) c d)) = false, (suO raw (smL n 16) (smL (n.tdiv (3 : Int)) 13) c d != suO raw (smL n 16) (smL (n.tdiv (3 : Int)) 13) c d) = false, (suE raw (smL n 16) (smL (n.tdiv (3 : Int)) 13) c d != suE raw (smL n 16) (smL (n.tdiv (3 : Int)) 13) c d) = false, c.length ≤ 4096, d.length ≤ 4096, c.length ≤ 4096, d.length ≤ 4096, c.length ≤ 4096, (suS raw a b c d).length ≤ 4096, c.length ≤ 4096, (suS raw a b c d).length ≤ 4096, c.length ≤ 4096, d.length ≤ 4096, c.length ≤ 4096, d.length ≤ 4096, (suS raw a b c d != suS raw a b c d) = false, (onS raw (vdE a b) 10 != onS raw (vdE a b) 10) = false, (suO raw a b c (suS raw a b c d) != suO raw a b c (suS raw a b c d)) = false, (suE raw a b c (suS raw a b c d) != suE raw a b c (suS raw a b c d)) = false, (suO raw a b c d != suO raw a b c d) = false, (suE raw a b c d != suE raw a b c d) = false, a.length ≤ 900000, a.length ≤ 900000, a.length ≤ 900000, b.length ≤ 900000, a.length ≤ 900000, b.length ≤ 900000, (0 : Int) < (100 : Int), a.length ≤ 900000, b.length ≤ 800000, (0 : Int) < (100 : Int), a.length ≤ 900000, b.length ≤ 800000, (onS (↑(raw % (4 : Int)).toNat : Int) (g a) [] != onS (↑(raw % (4 : Int)).toNat : Int) (g a) []) = false, (onS (↑(raw % (4 : Int)).toNat : Int) 0 10 != onS (↑(raw % (4 : Int)).toNat : Int) 0 10) = false, (onS (↑(raw % (4 : Int)).toNat : Int) (hm g a b) [] != onS (↑(raw % (4 : Int)).toNat : Int) (hm g a b) []) = false, (onS (↑(raw % (4 : Int)).toNat : Int) 0 10 != onS (↑(raw % (4 : Int)).toNat : Int) 0 10) = false, (onS (↑(raw % (4 : Int)).toNat : Int) (expE g a b ((↑(len % (100 : Int)).toNat : Int) - (2 : Int))) [] != onS (↑(raw % (4 : Int)).toNat : Int) (expE g a b ((↑(len % (100 : Int)).toNat : Int) - (2 : Int))) []) = false, (onS (↑(raw % (4 : Int)).toNat : Int) (eErr ((↑(len % (100 : Int)).toNat : Int) - (2 : Int))) 10 != onS (↑(raw % (4 : Int)).toNat : Int) (eErr ((↑(len % (100 : Int)).toNat : Int) - (2 : Int))) 10) = false, c.length ≤ 4096, d.length ≤ 4096, c.length ≤ 4096, d.length ≤ 4096, c.length ≤ 4096, (suS (↑(raw % (4 : Int)).toNat : Int) (smL n 16) (smL (n.tdiv (3 : Int)) 13) c d).length ≤ 4096, c.length ≤ 4096, (suS (↑(raw % (4 : Int)).toNat : Int) (smL n 16) (smL (n.tdiv (3 : Int)) 13) c d).length ≤ 4096, c.length ≤ 4096, d.length ≤ 4096, c.length ≤ 4096, d.length ≤ 4096, (suS (↑(raw % (4 : Int)).toNat : Int) (smL n 16) (smL (n.tdiv (3 : Int)) 13) c d != suS (↑(raw % (4 : Int)).toNat : Int) (smL n 16) (smL (n.tdiv (3 : Int)) 13) c d) = false, (onS (↑(raw % (4 : Int)).toNat : Int) (vdE (smL n 16) (smL (n.tdiv (3 : Int)) 13)) 10 != onS (↑(raw % (4 : Int)).toNat : Int) (vdE (smL n 16) (smL (n.tdiv (3 : Int)) 13)) 10) = false, (suO (↑(raw % (4 : Int)).toNat : Int) (smL n 16) (smL (n.tdiv (3 : Int)) 13) c (suS (↑(raw % (4 : Int)).toNat : Int) (smL n 16) (smL (n.tdiv (3 : Int)) 13) c d) != suO (↑(raw % (4 : Int)).toNat : Int) (smL n 16) (smL (n.tdiv (3 : Int)) 13) c (suS (↑(raw % (4 : Int)).toNat : Int) (smL n 16) (smL (n.tdiv (3 : Int)) 13) c d)) = false, (suE (↑(raw % (4 : Int)).toNat : Int) (smL n 16) (smL (n.tdiv (3 : Int)) 13) c (suS (↑(raw % (4 : Int)).toNat : Int) (smL n 16) (smL (n.tdiv (3 : Int)) 13) c d) != suE (↑(raw % (4 : Int)).toNat : Int) (smL n 16) (smL (n.tdiv (3 : Int)) 13) c (suS (↑(raw % (4 : Int)).toNat : Int) (smL n 16) (smL (n.tdiv (3 : Int)) 13) c d)) = false, (suO (↑(raw % (4 : Int)).toNat : Int) (smL n 16) (smL (n.tdiv (3 : Int)) 13) c d != suO (↑(raw % (4 : Int)).toNat : Int) (smL n 16) (smL (n.tdiv (3 : Int)) 13) c d) = false, (suE (↑(raw % (4 : Int)).toNat : Int) (smL n 16) (smL (n.tdiv (3 : Int)) 13) c d != suE (↑(raw % (4 : Int)).toNat : Int) (smL n 16) (smL (n.tdiv (3 : Int)) 13) c d) = false, c.length ≤ 4096, d.length ≤ 4096, c.length ≤ 4096, d.length ≤ 4096, c.length ≤ 4096, (suS (↑(raw % (4 : Int)).toNat : Int) a b c d).length ≤ 4096, c.length ≤ 4096, (suS (↑(raw % (4 : Int)).toNat : Int) a b c d).length ≤ 4096, c.length ≤ 4096, d.length ≤ 4096, c.length ≤ 4096, d.length ≤ 4096, (suS (↑(raw % (4 : Int)).toNat : Int) a b c d != suS (↑(raw % (4 : Int)).toNat : Int) a b c d) = false, (onS (↑(raw % (4 : Int)).toNat : Int) (vdE a b) 10 != onS (↑(raw % (4 : Int)).toNat : Int) (vdE a b) 10) = false, (suO (↑(raw % (4 : Int)).toNat : Int) a b c (suS (↑(raw % (4 : Int)).toNat : Int) a b c d) != suO (↑(raw % (4 : Int)).toNat : Int) a b c (suS (↑(raw % (4 : Int)).toNat : Int) a b c d)) = false, (suE (↑(raw % (4 : Int)).toNat : Int) a b c (suS (↑(raw % (4 : Int)).toNat : Int) a b c d) != suE (↑(raw % (4 : Int)).toNat : Int) a b c (suS (↑(raw % (4 : Int)).toNat : Int) a b c d)) = false, (suO (↑(raw % (4 : Int)).toNat : Int) a b c d != suO (↑(raw % (4 : Int)).toNat : Int) a b c d) = false, (suE (↑(raw % (4 : Int)).toNat : Int) a b c d != suE (↑(raw % (4 : Int)).toNat : Int) a b c d) = false] (by kernel_rfl) (by repeat' first | with_reducible exact bne_self_eq_false _ | with_reducible exact trivial | with_reducible exact e1 | with_reducible exact e2 | with_reducible exact e3 | with_reducible exact e4 | with_reducible exact a9 | with_reducible exact b9 | with_reducible exact b8 | with_reducible exact c9 | with_reducible exact d9 | with_reducible exact hS _ _ _ | exact hn3 | exact hn4 | exact hn5 | omega | (simp only [inR, lo, lim]; omega) | decide | exact trivial | refine ⟨?_, ?_⟩) (wkR_of rfl)
        · have e4 : (!decide (d.length ≤ 600)) = true := by simp [h4]
          exact hwF mixed (okLWd hg hh) 200 [false, false, false, true] (.b true) [(!Decidable.decide (a.length ≤ 600)) = false, (!Decidable.decide (b.length ≤ 600)) = false, (!Decidable.decide (c.length ≤ 600)) = false, (!Decidable.decide (d.length ≤ 600)) = true] (by kernel_rfl) (by repeat' first | exact trivial | exact e1 | exact e2 | exact e3 | exact e4 | refine ⟨?_, ?_⟩) (wkR_of rfl)
      · have e3 : (!decide (c.length ≤ 600)) = true := by simp [h3]
        exact hwF mixed (okLWd hg hh) 200 [false, false, true] (.b true) [(!Decidable.decide (a.length ≤ 600)) = false, (!Decidable.decide (b.length ≤ 600)) = false, (!Decidable.decide (c.length ≤ 600)) = true] (by kernel_rfl) (by repeat' first | exact trivial | exact e1 | exact e2 | exact e3 | refine ⟨?_, ?_⟩) (wkR_of rfl)
    · have e2 : (!decide (b.length ≤ 600)) = true := by simp [h2]
      exact hwF mixed (okLWd hg hh) 200 [false, true] (.b true) [(!Decidable.decide (a.length ≤ 600)) = false, (!Decidable.decide (b.length ≤ 600)) = true] (by kernel_rfl) (by repeat' first | exact trivial | exact e1 | exact e2 | refine ⟨?_, ?_⟩) (wkR_of rfl)
  · have e1 : (!decide (a.length ≤ 600)) = true := by simp [h1]
    exact hwF mixed (okLWd hg hh) 200 [true] (.b true) [(!Decidable.decide (a.length ≤ 600)) = true] (by kernel_rfl) (by repeat' first | exact trivial | exact e1 | refine ⟨?_, ?_⟩) (wkR_of rfl)
end
end Go.Eng.B

namespace Go.Eng
open Go.RowKit
theorem has_inR {k : IntKind} {n : Int} (h : k.has n) : inR k n := by
  cases k <;> simp only [IntKind.has, IntKind.min, IntKind.max, IntKind.signed, IntKind.bits, inR, lo, lim] at * <;> simp at h ⊢ <;> omega
theorem int_of {P : Program} {w : World} {r : Reach} {base : Nat} {t : TypeId} {v : Value} {k : IntKind} (ht : P.underlying t = some (.int k)) (h : Value.okWide P w r base t v) : ∃ n, v = .int k n ∧ k.has n := by
  obtain ⟨n, rfl⟩ := WideShapes.okWide_int ht h
  refine ⟨n, rfl, ?_⟩
  simpa [Value.okWide, Cell.okWide, Cell.ok, ht] using h
theorem open_i {P : Program} {w : World} {r : Reach} {base : Nat} {t : TypeId} {v : Value} {k : IntKind} (ht : P.underlying t = some (.int k)) (h : Value.okWide P w r base t v) {β : Nat → Nat} {ow : Own} {w' : World} :
    ∃ n, relV1 β ow w' (.i k n) v := by
  obtain ⟨n, rfl, hn⟩ := int_of ht h
  exact ⟨n, _, rel_i (has_inR hn), rfl⟩
theorem Contract.calls {P : Program} {f : FuncId} {fn : Func} {body : Code} {args : List SV} {res : SV} (h : Contract P f args res) (hf : P.funcs[f]? = some fn) (hb : fn.body = some body) (hname : (fn.name == "runtime.NumGoroutine") = false)
    {w : World} {vs : List Value} (hv : relVs (fun _ => 0) (fun _ _ => False) w args vs) :
    Calls P f vs.toArray w fun e w' => ∃ v, e = .returned v ∧ Below w.heap.size w w' ∧ relV (fun _ => 0) (fun _ _ => False) w' res v := by
  have h1 := h w (fun _ _ => False) vs (fun _ _ h => h.elim) hv
  unfold Invokes at h1
  have hcall : (callFunc f vs.toArray).run P w = .ok (.enter f vs.toArray) w := by
    have hne : ¬ fn.name = "runtime.NumGoroutine" := by simpa using hname
    simp [callFunc, hf, hb, hne]
  rw [hcall] at h1
  exact h1
end Go.Eng

namespace Go.Eng
open Go.RowKit Go.ChangeShapes Go.WideShapes
section
variable {H : Type} {enc : TypeId × Value → H} {P : Program} {w : World} {sp : Nat → Bool} {held : Bool} {r : Reach} {b0 : Nat} {t e : TypeId} {v : Value} {d : DataW H} {ps : List MemPlace} {k : IntKind}
theorem wf_inR {n : Int} (h : (Lit.int k n).wf = true) : inR k n := by
  apply has_inR
  have h : k.min ≤ n ∧ n ≤ k.max := by simpa [Lit.wf] using h
  exact h
theorem open_zs (ht : P.underlying t = some (.slice e)) (he : P.underlying e = some (.int k)) (hc : P.cellsOf e = 1) (hval : Value.okWide P w r b0 t v) (hd : DataW.Trod enc P w 0 sp held t v d ps) :
    ∃ zs : List Int, ReadsAs (fun _ _ => False) w v (zs.map fun n : Int => Value.int k n) ∧ ∀ n ∈ zs, inR k n := by
  obtain ⟨a0, len, cap, rfl⟩ := okWide_slice ht hval
  obtain ⟨fuel, hf⟩ := hd
  rcases ChangeShapes.open_ints ht he hc hf with ⟨h1, _⟩ | ⟨a, len', cap', zs, h1, _, hl, hm, hz, _, hcell, hwf⟩
  · simp only [Value.cells, List.cons.injEq, and_true] at h1
    cases h1
    exact ⟨[], ⟨none, 0, 0, rfl, rfl, Nat.le_refl _, by omega, fun h => absurd h (by omega)⟩, by simp⟩
  · simp only [Value.cells, List.cons.injEq, and_true] at h1
    cases h1
    have hle : len ≤ zs.length := by rw [hz]; split <;> omega
    have hmax : cap < 9223372036854775808 := by simp only [maxLen] at hm; omega
    refine ⟨zs.take len, ⟨some a, len, cap, rfl, by simp; omega, hl, hmax, fun hp => ⟨a, rfl, ?_, fun _ _ h => h, fun j u hu => ?_⟩⟩, fun n hn => wf_inR (hwf n (List.mem_of_mem_take hn))⟩
    · have := hcell 0 (by omega)
      simp only [Addr.add, if_true] at this
      cases hs : a.spot with
      | none => rfl
      | some q => simp [World.cell?, hs] at this; split at this <;> cases this
    · have hj : j < len := by
        have := (List.getElem?_eq_some_iff.1 hu).1
        simp at this; omega
      have h0 := hcell 0 (by omega)
      have hs : a.spot = none := by
        simp only [Addr.add, if_true] at h0
        cases hs : a.spot with
        | none => rfl
        | some q => simp [World.cell?, hs] at h0; split at h0 <;> cases h0
      have := hcell j (by omega)
      rw [add_spot hs] at this
      rw [this]
      simp only [List.getElem?_map, List.getElem?_take_of_lt hj, Option.map_eq_some_iff] at hu
      obtain ⟨z, hz1, rfl⟩ := hu
      simp [List.getD_eq_getElem?_getD, hz1]
theorem nats_of (hk : k.signed = false) : ∀ (zs : List Int), (∀ n ∈ zs, inR k n) → ∃ l : List Nat, (zs.map fun n : Int => Value.int k n) = ints k l ∧ ∀ x ∈ l, x < lim k := by
  intro zs
  induction zs with
  | nil => intro _; exact ⟨[], rfl, by simp⟩
  | cons n zs ih =>
    intro h
    obtain ⟨l, h1, h2⟩ := ih fun m hm => h m (by simp [hm])
    have hr := h n (by simp)
    have h0 : 0 ≤ n := by cases k <;> simp [IntKind.signed] at hk <;> simp only [inR, lo] at hr <;> omega
    refine ⟨n.toNat :: l, by simp only [ints, List.map_cons, Int.toNat_of_nonneg h0, h1], ?_⟩
    intro x hx
    rcases List.mem_cons.1 hx with rfl | hx
    · have := hr.2; omega
    · exact h2 x hx
theorem open_bytes {β : Nat → Nat} (ht : P.underlying t = some (.slice e)) (he : P.underlying e = some (.int k)) (hk : k.signed = false) (hc : P.cellsOf e = 1) (hval : Value.okWide P w r b0 t v) (hd : DataW.Trod enc P w 0 sp held t v d ps) :
    ∃ l, relV1 β (fun _ _ => False) w (.sl k l) v := by
  obtain ⟨zs, h1, h2⟩ := open_zs ht he hc hval hd
  obtain ⟨l, h3, h4⟩ := nats_of hk zs h2
  rw [h3] at h1
  exact ⟨l, [v], by simp only [rel]; exact ⟨⟨v, rfl, h1⟩, h4⟩, rfl⟩
end
end Go.Eng

namespace Go.Proofs.YthaabhoopofnhaaGreat.Facts
open Go Go.Proofs
set_option maxRecDepth 100000
theorem words_word {r : List Char} : ∀ {l : List Char}, (∀ c ∈ l, c ≠ ' ') → wordsSigns (l ++ ' ' :: r) = l :: wordsSigns r := by
  intro l
  induction l with
  | nil => intro _; rfl
  | cons c l ih =>
    intro h
    have hc : c ≠ ' ' := h c (by simp)
    have e := ih fun x hx => h x (by simp [hx])
    show wordsSigns (c :: (l ++ ' ' :: r)) = _
    rw [wordsSigns, e]
    · intro hh; exact hc hh
theorem order_is : Tryz.pinned.checked.prog.initOrder = "harness d18eab929d523d73397b6470edee16715a9e8216cec9074760f3bc6fac7abd5f cut at coresec/coreseclaw22.SuiteDerives" := by kernel_rfl
theorem order_lit : ("harness d18eab929d523d73397b6470edee16715a9e8216cec9074760f3bc6fac7abd5f cut at coresec/coreseclaw22.SuiteDerives" : String) = String.ofList (['h', 'a', 'r', 'n', 'e', 's', 's'] ++ ' ' :: (['d', '1', '8', 'e', 'a', 'b', '9', '2', '9', 'd', '5', '2', '3', 'd', '7', '3', '3', '9', '7', 'b', '6', '4', '7', '0', 'e', 'd', 'e', 'e', '1', '6', '7', '1', '5', 'a', '9', 'e', '8', '2', '1', '6', 'c', 'e', 'c', '9', '0', '7', '4', '7', '6', '0', 'f', '3', 'b', 'c', '6', 'f', 'a', 'c', '7', 'a', 'b', 'd', '5', 'f'] ++ ' ' :: (['c', 'u', 't'] ++ ' ' :: ['a', 't', ' ', 'c', 'o', 'r', 'e', 's', 'e', 'c', '/', 'c', 'o', 'r', 'e', 's', 'e', 'c', 'l', 'a', 'w', '2', '2', '.', 'S', 'u', 'i', 't', 'e', 'D', 'e', 'r', 'i', 'v', 'e', 's']))) := by kernel_rfl
theorem order_words : ∃ R, behindMainWord (wordsSigns Tryz.pinned.checked.prog.initOrder.toList) = ['c', 'u', 't'] :: R := by
  rw [order_is, order_lit, String.toList_ofList, words_word (by decide), words_word (by decide), words_word (by decide)]
  generalize wordsSigns ['a', 't', ' ', 'c', 'o', 'r', 'e', 's', 'e', 'c', '/', 'c', 'o', 'r', 'e', 's', 'e', 'c', 'l', 'a', 'w', '2', '2', '.', 'S', 'u', 'i', 't', 'e', 'D', 'e', 'r', 'i', 'v', 'e', 's'] = R
  exact ⟨R, by kernel_rfl⟩
theorem c_gc : (['c', 'u', 't'] == "gc".toList) = false := by kernel_rfl
theorem c_spec : (['c', 'u', 't'] == "spec".toList) = false := by kernel_rfl
theorem c_cut : (['c', 'u', 't'] == "cut".toList) = true := by kernel_rfl
theorem c_carried : (['c', 'u', 't'] == "carried".toList) = false := by kernel_rfl
theorem c_strip (R : List (List Char)) : stripLifts liftWords (['c', 'u', 't'] :: R) = ([], ['c', 'u', 't'] :: R) := by kernel_rfl
theorem lifts_of {P : Program} {R : List (List Char)} (h : behindMainWord (wordsSigns P.initOrder.toList) = ['c', 'u', 't'] :: R) : P.liftsFinal = false := by
  unfold Program.liftsFinal Program.headLifts
  rw [h]
  kernel_rfl
theorem make_of {P : Program} {R : List (List Char)} (h : behindMainWord (wordsSigns P.initOrder.toList) = ['c', 'u', 't'] :: R) : P.make = some .cut := by
  unfold Program.make
  rw [h]
  simp only [c_gc, c_spec, c_cut, Bool.or_false, Bool.false_or, Bool.true_or, if_true, if_false, Bool.false_eq_true]
theorem enter_of {P : Program} {R : List (List Char)} (h : behindMainWord (wordsSigns P.initOrder.toList) = ['c', 'u', 't'] :: R) (h2 : P.laysLater = false) (h3 : P.bearsReflect = false) (h4 : P.doorFits [] = true) : P.mayEnter = true := by
  unfold Program.mayEnter
  rw [h]
  simp only [c_gc, c_spec, c_carried, c_strip, h2, h3, h4]
  kernel_rfl
theorem lays_is : Tryz.pinned.checked.prog.laysLater = false := by kernel_rfl
theorem reflect_is : Tryz.pinned.checked.prog.bearsReflect = false := by kernel_rfl
theorem door_is : Tryz.pinned.checked.prog.doorFits [] = true := by kernel_rfl
theorem lifts_is : Tryz.pinned.checked.prog.liftsFinal = false := by
  obtain ⟨R, h⟩ := order_words
  exact lifts_of h
theorem make_is : Tryz.pinned.checked.prog.make = some .cut := by
  obtain ⟨R, h⟩ := order_words
  exact make_of h
theorem enter_is : Tryz.pinned.checked.prog.mayEnter = true := by
  obtain ⟨R, h⟩ := order_words
  exact enter_of h lays_is reflect_is door_is
end Go.Proofs.YthaabhoopofnhaaGreat.Facts

