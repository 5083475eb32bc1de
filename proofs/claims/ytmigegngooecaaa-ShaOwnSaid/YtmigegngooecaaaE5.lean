import Derived.Test.YtmigegngooecaaaE4
import Derived.WideShapes
import Derived.OpenShut
import Derived.ChangeSlices
import Derived.RowKit
import Derived.Test.YtmigegngooecaaaRows
import Derived.ProofKit
import Derived.JoinedOf
import Derived.KernelRfl
set_option linter.unusedVariables false
set_option linter.unusedSimpArgs false
set_option linter.unusedSectionVars false
/- Arguments that are slices, pinned: stores into other slices do not change them. -/
namespace Go.Eng
open Go.RowKit
/-- arguments that are slices, pinned -/
def pinL : List SV → List Value → List SV
  | .sl k l :: r, v :: vs => .pin v (.sl k l) :: pinL r vs
  | s :: r, _ :: vs => s :: pinL r vs
  | _, _ => []
theorem pin_relVs {β : Nat → Nat} {ow : Own} {w : World} : ∀ {l : List SV} {vs : List Value}, relVs β ow w l vs → relVs β ow w (pinL l vs) vs := by
  intro l
  induction l with
  | nil => intro vs h; cases h; rfl
  | cons s r ih =>
    intro vs h
    obtain ⟨v, t, rfl, h1, h2⟩ := h
    have keep : ∀ s', pinL (s :: r) (v :: t) = s' :: pinL r t → relV1 β ow w s' v → relVs β ow w (pinL (s :: r) (v :: t)) (v :: t) := fun s' e h => by rw [e]; exact ⟨v, t, rfl, h, ih h2⟩
    cases s <;> try exact keep _ rfl h1
    rename_i k l
    refine keep _ rfl ?_
    obtain ⟨cs, h3, rfl⟩ := h1
    have h4 := h3
    simp only [rel] at h3
    obtain ⟨⟨v, rfl, _⟩, _⟩ := h3
    refine ⟨[v], ?_, rfl⟩
    simp only [rel]
    exact ⟨rfl, rfl, by simpa only [rel] using h4⟩
section
variable {P : Program} {fn : Func} {body : Code} {S : Own} {σ : St}
theorem contractP {f : FuncId} {args : List SV} {res : SV} (hf : P.funcs[f]? = some fn) (hb : fn.body = some body) (hname : (fn.name == "runtime.NumGoroutine") = false) (hn : Nat.ble args.length fn.ntmps = true) (hids : idss args = [])
    (h : pureF.pureFs args → ∀ (w0 : World) (S : Own) (vs : List Value), relVs (fun _ => 0) S w0 args vs → Hold P body (Fin P fn w0 S res) w0 S [.at []] (initSt (pinL args vs) fn.ntmps)) : Contract P f args res := by
  intro w S vs hSlt hvs
  have hlen : ∀ {l : List SV} {vs : List Value}, relVs (fun _ => 0) S w l vs → (pinL l vs).length = l.length ∧ (idss l = [] → idss (pinL l vs) = []) := by
    intro l
    induction l with
    | nil => intro vs h; cases h; exact ⟨rfl, fun h => h⟩
    | cons s r ih =>
      intro vs h
      obtain ⟨v, t, rfl, _, h2⟩ := h
      obtain ⟨h3, h4⟩ := ih h2
      cases s <;> (refine ⟨by simp [pinL, h3], fun h => ?_⟩; simp only [pinL, idss, SV.ids, List.append_eq_nil_iff, List.nil_append, true_and] at h ⊢; first | exact ⟨h.1, h4 h.2⟩ | exact h4 h | (simp_all; done))
  obtain ⟨l1, l2⟩ := hlen hvs
  exact contract_at hf hb hname (by rw [l1]; exact Nat.le_of_ble_eq_true hn) (l2 hids) hSlt (pin_relVs hvs) (h (pureFs_vs args vs hvs) w S vs hvs)
theorem hold_repin {w0 : World} {Q : Exit → Act → World → Prop} {st : List It} {σ' : St} {t : Nat} {k : IntKind} {l : List Nat} {v : Value} (h0 : relV1 (fun _ => 0) S w0 (.sl k l) v) (hg : getS σ.slots t = some (.raw v)) (hp : putS σ (some t) (.pin v (.sl k l)) = some σ')
    (hk : Hold P body Q (w0 : Fr) S st σ') : Hold P body Q (w0 : Fr) S st σ := by
  intro β a w hS
  have h1 := relV_scalar rfl rfl (hS.slot t _ (getS_mem hg))
  simp only [rel, List.cons.injEq, and_true] at h1
  have h2 := old_reads hS h0
  have hv : relV β (owS S σ.blks β) w (.pin v (.sl k l)) (a.tmps.getD t undef) := by
    rw [h1.1]
    refine relV_of1 rfl ?_
    simp only [rel]
    exact ⟨trivial, rfl, by have := relV_scalar (s := .sl k l) rfl rfl h2; simpa only [rel] using this⟩
  have := hS.put hp hv
  rw [put_same_self] at this
  exact hk _ _ _ this
end
end Go.Eng

/- SHA-512 of the program with a result that is a slice with room; the hash does not change when the caller changes the bytes. -/
namespace Go.Eng.B
open Go Go.Eng Go.Proofs
set_option maxRecDepth 100000
set_option maxHeartbeats 2000000
set_option linter.unusedSimpArgs false
section
variable {w0 : Fr} {S : Own} {res : SV}
theorem zm512_4 (h : List Nat) (hr : res = .sl .u8 (out64 h 8)) : ∀ d i, 8 - i = d → i ≤ 8 →
    Hold Try.prog (bodyOf Try.f50) (FinM Try.prog Try.f50 w0 S ⟨.row 0 res, [], [bY]⟩) w0 S y4 (z4 h i) := by
  intro d
  induction d using Nat.strongRecOn with
  | _ d ih =>
  intro i hd hi
  by_cases hlt : i < 8
  · have e := ih (8 - (i + 1)) (by omega) (i + 1) rfl (by omega)
    refine hold_cut mixed okM15a (unroll := true) (f := 600) (sc := [true]) (ks := [6,25,26,27]) (bs := [1]) (nx := 4) (st' := [Go.Eng.It.at [(0 : Nat), (1 : Nat), (0 : Nat), (0 : Nat), (1 : Nat), (0 : Nat), (1 : Nat), (1 : Nat), (1 : Nat), (1 : Nat)], Go.Eng.It.at [(1 : Nat), (1 : Nat), (0 : Nat), (0 : Nat), (1 : Nat), (0 : Nat), (1 : Nat), (1 : Nat), (1 : Nat), (1 : Nat)], Go.Eng.It.lp [(0 : Nat), (1 : Nat), (0 : Nat), (1 : Nat), (1 : Nat), (1 : Nat), (1 : Nat)], Go.Eng.It.blk (2 : Nat), Go.Eng.It.at [(1 : Nat), (1 : Nat), (1 : Nat), (1 : Nat), (1 : Nat)]]) (σ' := { nt := (42 : Nat), slots := [((6 : Nat), Go.Eng.SV.row (1 : Nat) (Go.Eng.SV.sl Go.IntKind.u8 (Go.Eng.B.out64 h i ++ [h.getD i (0 : Nat) / (72057594037927936 : Nat) % (256 : Nat)] ++ [h.getD i (0 : Nat) / (281474976710656 : Nat) % (256 : Nat)] ++ [h.getD i (0 : Nat) / (1099511627776 : Nat) % (256 : Nat)] ++ [h.getD i (0 : Nat) / (4294967296 : Nat) % (256 : Nat)] ++ [h.getD i (0 : Nat) / (16777216 : Nat) % (256 : Nat)] ++ [h.getD i (0 : Nat) / (65536 : Nat) % (256 : Nat)] ++ [h.getD i (0 : Nat) / (256 : Nat) % (256 : Nat)] ++ [h.getD i (0 : Nat) / (1 : Nat) % (256 : Nat)]))), ((25 : Nat), Go.Eng.SV.arr Go.IntKind.u64 (8 : Nat) h), ((26 : Nat), Go.Eng.SV.u Go.IntKind.i64 (i + (1 : Nat))), ((27 : Nat), Go.Eng.SV.b (Decidable.decide (i + (1 : Nat) < (8 : Nat))))], blks := [((1 : Nat), { ty := (5 : Nat), segs := [], row := Bool.true })], next := (4 : Nat) }) (ob := [Decidable.decide (i < (8 : Nat)) = Bool.true, i < (8 : Nat), Go.Eng.slenD (Go.Eng.SV.sl Go.IntKind.u8 (Go.Eng.B.out64 h i ++ [h.getD i (0 : Nat) / (72057594037927936 : Nat) % (256 : Nat)])) * (1 : Nat) ≤ (140737488355328 : Nat), Go.Eng.slenD (Go.Eng.SV.sl Go.IntKind.u8 (Go.Eng.B.out64 h i ++ [h.getD i (0 : Nat) / (72057594037927936 : Nat) % (256 : Nat)] ++ [h.getD i (0 : Nat) / (281474976710656 : Nat) % (256 : Nat)])) * (1 : Nat) ≤ (140737488355328 : Nat), Go.Eng.slenD (Go.Eng.SV.sl Go.IntKind.u8 (Go.Eng.B.out64 h i ++ [h.getD i (0 : Nat) / (72057594037927936 : Nat) % (256 : Nat)] ++ [h.getD i (0 : Nat) / (281474976710656 : Nat) % (256 : Nat)] ++ [h.getD i (0 : Nat) / (1099511627776 : Nat) % (256 : Nat)])) * (1 : Nat) ≤ (140737488355328 : Nat), Go.Eng.slenD (Go.Eng.SV.sl Go.IntKind.u8 (Go.Eng.B.out64 h i ++ [h.getD i (0 : Nat) / (72057594037927936 : Nat) % (256 : Nat)] ++ [h.getD i (0 : Nat) / (281474976710656 : Nat) % (256 : Nat)] ++ [h.getD i (0 : Nat) / (1099511627776 : Nat) % (256 : Nat)] ++ [h.getD i (0 : Nat) / (4294967296 : Nat) % (256 : Nat)])) * (1 : Nat) ≤ (140737488355328 : Nat), Go.Eng.slenD (Go.Eng.SV.sl Go.IntKind.u8 (Go.Eng.B.out64 h i ++ [h.getD i (0 : Nat) / (72057594037927936 : Nat) % (256 : Nat)] ++ [h.getD i (0 : Nat) / (281474976710656 : Nat) % (256 : Nat)] ++ [h.getD i (0 : Nat) / (1099511627776 : Nat) % (256 : Nat)] ++ [h.getD i (0 : Nat) / (4294967296 : Nat) % (256 : Nat)] ++ [h.getD i (0 : Nat) / (16777216 : Nat) % (256 : Nat)])) * (1 : Nat) ≤ (140737488355328 : Nat), Go.Eng.slenD (Go.Eng.SV.sl Go.IntKind.u8 (Go.Eng.B.out64 h i ++ [h.getD i (0 : Nat) / (72057594037927936 : Nat) % (256 : Nat)] ++ [h.getD i (0 : Nat) / (281474976710656 : Nat) % (256 : Nat)] ++ [h.getD i (0 : Nat) / (1099511627776 : Nat) % (256 : Nat)] ++ [h.getD i (0 : Nat) / (4294967296 : Nat) % (256 : Nat)] ++ [h.getD i (0 : Nat) / (16777216 : Nat) % (256 : Nat)] ++ [h.getD i (0 : Nat) / (65536 : Nat) % (256 : Nat)])) * (1 : Nat) ≤ (140737488355328 : Nat), Go.Eng.slenD (Go.Eng.SV.sl Go.IntKind.u8 (Go.Eng.B.out64 h i ++ [h.getD i (0 : Nat) / (72057594037927936 : Nat) % (256 : Nat)] ++ [h.getD i (0 : Nat) / (281474976710656 : Nat) % (256 : Nat)] ++ [h.getD i (0 : Nat) / (1099511627776 : Nat) % (256 : Nat)] ++ [h.getD i (0 : Nat) / (4294967296 : Nat) % (256 : Nat)] ++ [h.getD i (0 : Nat) / (16777216 : Nat) % (256 : Nat)] ++ [h.getD i (0 : Nat) / (65536 : Nat) % (256 : Nat)] ++ [h.getD i (0 : Nat) / (256 : Nat) % (256 : Nat)])) * (1 : Nat) ≤ (140737488355328 : Nat), Go.Eng.slenD (Go.Eng.SV.sl Go.IntKind.u8 (Go.Eng.B.out64 h i ++ [h.getD i (0 : Nat) / (72057594037927936 : Nat) % (256 : Nat)] ++ [h.getD i (0 : Nat) / (281474976710656 : Nat) % (256 : Nat)] ++ [h.getD i (0 : Nat) / (1099511627776 : Nat) % (256 : Nat)] ++ [h.getD i (0 : Nat) / (4294967296 : Nat) % (256 : Nat)] ++ [h.getD i (0 : Nat) / (16777216 : Nat) % (256 : Nat)] ++ [h.getD i (0 : Nat) / (65536 : Nat) % (256 : Nat)] ++ [h.getD i (0 : Nat) / (256 : Nat) % (256 : Nat)] ++ [h.getD i (0 : Nat) / (1 : Nat) % (256 : Nat)])) * (1 : Nat) ≤ (140737488355328 : Nat), i + (1 : Nat) < (9223372036854775808 : Nat)]) (sc' := []) (by kernel_rfl) (by repeat' first | exact trivial | exact decide_eq_true (by omega) | exact decide_eq_false (by omega) | exact Eq.refl kL | omega | (simp only [List.length_drop, List.length_take]; omega) | (simp only [decide_eq_true_eq, decide_eq_false_iff_not, List.length_drop, List.length_take]; omega) | (simp only [slenD, SV.slen, Option.getD_some, List.length_append, List.length_cons, List.length_nil, out64_len]; omega) | refine ⟨?_, ?_⟩) ?_
    exact e
  · have e : i = 8 := by omega
    subst e
    refine hold_endNw mixed okM15a (news := [1]) (unroll := true) (f := 300) (sc := [false]) (r := { res := Go.Eng.SV.row (0 : Nat) (Go.Eng.SV.sl Go.IntKind.u8 (Go.Eng.B.out64 h (8 : Nat))), upd := [], new := [{ ty := (5 : Nat), segs := [], row := Bool.true }] }) (ob := [Bool.false = Bool.false]) (sc' := []) (by kernel_rfl) (by repeat' first | exact trivial | exact decide_eq_true (by omega) | exact decide_eq_false (by omega) | exact Eq.refl kL | omega | (simp only [List.length_drop, List.length_take]; omega) | (simp only [decide_eq_true_eq, decide_eq_false_iff_not, List.length_drop, List.length_take]; omega) | (simp only [slenD, SV.slen, Option.getD_some, List.length_append, List.length_cons, List.length_nil, out64_len]; omega) | refine ⟨?_, ?_⟩) ?_
    exact wkM_of (by rw [hr]; rfl)
theorem zm512_h (h : List Nat) (hr : res = .sl .u8 (out64 h 8)) : Hold Try.prog (bodyOf Try.f50) (FinM Try.prog Try.f50 w0 S ⟨.row 0 res, [], [bY]⟩) w0 S y4h (z4h h) := by
  refine hold_unroll (c := _) rfl ?_
  refine hold_cut mixed okM15a (unroll := true) (f := 300) (sc := []) (ks := [6,25,26,27]) (bs := [1]) (nx := 4) (st' := [Go.Eng.It.at [(0 : Nat), (1 : Nat), (0 : Nat), (0 : Nat), (1 : Nat), (0 : Nat), (1 : Nat), (1 : Nat), (1 : Nat), (1 : Nat)], Go.Eng.It.at [(1 : Nat), (1 : Nat), (0 : Nat), (0 : Nat), (1 : Nat), (0 : Nat), (1 : Nat), (1 : Nat), (1 : Nat), (1 : Nat)], Go.Eng.It.lp [(0 : Nat), (1 : Nat), (0 : Nat), (1 : Nat), (1 : Nat), (1 : Nat), (1 : Nat)], Go.Eng.It.blk (2 : Nat), Go.Eng.It.at [(1 : Nat), (1 : Nat), (1 : Nat), (1 : Nat), (1 : Nat)]]) (σ' := { nt := (42 : Nat), slots := [((6 : Nat), Go.Eng.SV.row (1 : Nat) (Go.Eng.SV.sl Go.IntKind.u8 [])), ((25 : Nat), Go.Eng.SV.arr Go.IntKind.u64 (8 : Nat) h), ((26 : Nat), Go.Eng.SV.u Go.IntKind.i64 (0 : Nat)), ((27 : Nat), Go.Eng.SV.b Bool.true)], blks := [((1 : Nat), { ty := (5 : Nat), segs := [], row := Bool.true })], next := (4 : Nat) }) (ob := []) (sc' := []) (by kernel_rfl) trivial ?_
  exact zm512_4 h hr _ 0 rfl (by omega)
theorem zm512_3 (m h : List Nat) (n : Nat) (hn : m.length = 128 * n) (hr : res = .sl .u8 (out64 (cmp64 m h n) 8)) : ∀ d i, n - i = d → i ≤ n →
    Hold Try.prog (bodyOf Try.f50) (FinM Try.prog Try.f50 w0 S ⟨.row 0 res, [], [bY]⟩) w0 S y3 (z3 (m.drop (128 * i)) (cmp64 m h i)) := by
  intro d
  induction d using Nat.strongRecOn with
  | _ d ih =>
  intro i hd hi
  by_cases hlt : i < n
  · have e := ih (n - (i + 1)) (by omega) (i + 1) rfl (by omega)
    refine hold_unroll (c := _) rfl ?_
    refine hold_cut mixed okM15a (unroll := false) (f := 300) (sc := [true]) (ks := [3,4,5]) (bs := [0]) (nx := 1) (st' := [Go.Eng.It.lp [(0 : Nat), (1 : Nat), (0 : Nat), (1 : Nat), (1 : Nat)], Go.Eng.It.blk (0 : Nat), Go.Eng.It.at [(1 : Nat), (1 : Nat), (1 : Nat)]]) (σ' := { nt := (42 : Nat), slots := [((3 : Nat), Go.Eng.SV.sl Go.IntKind.u64 Go.Eng.B.kL), ((4 : Nat), Go.Eng.SV.ptr (0 : Nat) (0 : Nat) (Go.Eng.Ix.c (0 : Nat))), ((5 : Nat), Go.Eng.SV.sl Go.IntKind.u8 (List.drop (128 : Nat) (List.take (List.drop ((128 : Nat) * i) m).length (List.drop ((128 : Nat) * i) m))))], blks := [((0 : Nat), { ty := (125 : Nat), segs := [Go.Eng.SV.arr Go.IntKind.u64 (8 : Nat) (Go.Eng.B.A64 (List.drop (0 : Nat) (List.take (128 : Nat) (List.drop ((128 : Nat) * i) m))) (Go.Eng.B.cmp64 m h i) (8 : Nat))] })], next := (1 : Nat) }) (ob := [Decidable.decide ((0 : Nat) < (List.drop ((128 : Nat) * i) m).length) = Bool.true, (0 : Nat) ≤ (128 : Nat), (128 : Nat) ≤ (List.drop ((128 : Nat) * i) m).length, Go.Eng.B.kL = Go.Eng.B.kL, (List.drop (0 : Nat) (List.take (128 : Nat) (List.drop ((128 : Nat) * i) m))).length = (128 : Nat), (128 : Nat) ≤ (List.drop ((128 : Nat) * i) m).length, (List.drop ((128 : Nat) * i) m).length ≤ (List.drop ((128 : Nat) * i) m).length]) (sc' := []) (by kernel_rfl) (by repeat' first | exact trivial | exact decide_eq_true (by omega) | exact decide_eq_false (by omega) | exact Eq.refl kL | omega | (simp only [List.length_drop, List.length_take]; omega) | (simp only [decide_eq_true_eq, decide_eq_false_iff_not, List.length_drop, List.length_take]; omega) | (simp only [slenD, SV.slen, Option.getD_some, List.length_append, List.length_cons, List.length_nil, out64_len]; omega) | refine ⟨?_, ?_⟩) ?_
    rw [List.take_of_length_le (Nat.le_refl _), List.drop_drop, show 128 * i + 128 = 128 * (i + 1) by omega]
    exact e
  · have e : i = n := by omega
    subst e
    refine hold_unroll (c := _) rfl ?_
    refine hold_cut mixed okM15a (unroll := false) (f := 300) (sc := [false]) (ks := [6,25,26]) (bs := []) (nx := 1) (st' := [Go.Eng.It.lp [(0 : Nat), (1 : Nat), (0 : Nat), (1 : Nat), (1 : Nat), (1 : Nat), (1 : Nat)], Go.Eng.It.blk (2 : Nat), Go.Eng.It.at [(1 : Nat), (1 : Nat), (1 : Nat), (1 : Nat), (1 : Nat)]]) (σ' := { nt := (42 : Nat), slots := [((6 : Nat), Go.Eng.SV.nil), ((25 : Nat), Go.Eng.SV.arr Go.IntKind.u64 (8 : Nat) (Go.Eng.B.cmp64 m h i)), ((26 : Nat), Go.Eng.SV.c Go.IntKind.i64 (0 : Int))], blks := [], next := (1 : Nat) }) (ob := [Decidable.decide ((0 : Nat) < (List.drop ((128 : Nat) * i) m).length) = Bool.false]) (sc' := []) (by kernel_rfl) (by repeat' first | exact trivial | exact decide_eq_true (by omega) | exact decide_eq_false (by omega) | exact Eq.refl kL | omega | (simp only [List.length_drop, List.length_take]; omega) | (simp only [decide_eq_true_eq, decide_eq_false_iff_not, List.length_drop, List.length_take]; omega) | (simp only [slenD, SV.slen, Option.getD_some, List.length_append, List.length_cons, List.length_nil, out64_len]; omega) | refine ⟨?_, ?_⟩) ?_
    refine hold_nil (t := 6) (e := 5) (s0 := .sl .u8 []) rfl ?_
    refine hold_restrict (ks := [6,25,26]) (bs := [1]) (nx := 4) rfl ?_
    exact Hold.weaken (zm512_h _ hr) (by simp [wks, wk, wk0, lim, z4h])
theorem sum512_m (b : List Nat) (hb : b.length ≤ 1000000) : ContractM Try.prog 50 [] [.sl .u8 b] ⟨.row 0 (.sl .u8 (sum64 b)), [], [bY]⟩ := by
  refine contractM Try.func50 (body := bodyOf Try.f50) rfl (by kernel_rfl) (by kernel_rfl) rfl rfl ?_
  rintro _ _ w0 S _
  refine hold_cut mixed okM15a (unroll := false) (f := 100) (sc := []) (ks := [3,4,5]) (bs := [0]) (nx := 1) (st' := [Go.Eng.It.lp [(0 : Nat), (1 : Nat), (0 : Nat), (1 : Nat), (1 : Nat)], Go.Eng.It.blk (0 : Nat), Go.Eng.It.at [(1 : Nat), (1 : Nat), (1 : Nat)]]) (σ' := { nt := (42 : Nat), slots := [((3 : Nat), Go.Eng.SV.sl Go.IntKind.u64 Go.Eng.B.kL), ((4 : Nat), Go.Eng.SV.ptr (0 : Nat) (0 : Nat) (Go.Eng.Ix.c (0 : Nat))), ((5 : Nat), Go.Eng.SV.sl Go.IntKind.u8 (Go.Eng.B.pd (128 : Nat) (16 : Nat) b))], blks := [((0 : Nat), { ty := (125 : Nat), segs := [Go.Eng.SV.arr Go.IntKind.u64 (8 : Nat) Go.Eng.B.hL] })], next := (1 : Nat) }) (ob := [b.length ≤ (1000000 : Nat)]) (sc' := []) (by kernel_rfl) (by repeat' first | exact trivial | exact decide_eq_true (by omega) | exact decide_eq_false (by omega) | exact Eq.refl kL | omega | (simp only [List.length_drop, List.length_take]; omega) | (simp only [decide_eq_true_eq, decide_eq_false_iff_not, List.length_drop, List.length_take]; omega) | (simp only [slenD, SV.slen, Option.getD_some, List.length_append, List.length_cons, List.length_nil, out64_len]; omega) | refine ⟨?_, ?_⟩) ?_
  exact zm512_3 (pd 128 16 b) hL _ (pd64_mul b) rfl _ 0 rfl (by omega)
end
def noneO (_ : List SV) : Option (SV × List Prop) := none
noncomputable def ZR (g h : List Nat → List Nat) : Ctr := addC 49 eT (addM 46 (eSumM g) (addM 50 (eSumM h) (addC 50 noneO (SB h))))
def stO : List It := [.lp [0, 1, 0, 1, 1, 1, 1], .blk 0, .at [1, 1, 1, 1, 1]]
def stP : List It := [.at [0, 1, 1, 1, 1, 1, 1, 1], .at [1, 1, 1, 1, 1, 1, 1, 1]]
def sP (b : List Nat) (g h : List Nat → List Nat) (vb : Value) : St := ⟨89, [(0, .pin vb (.sl .u8 b)), (8, .row 3 (.sl .u8 (g b))), (9, .row 6 (.sl .u8 (h b)))], [(3, bY), (6, bY)], 12, 0⟩
def sO (b : List Nat) (g h : List Nat → List Nat) (vb : Value) (a y : Int) (i : Nat) : St := ⟨89, [(0, .pin vb (.sl .u8 b)), (1, .i .i64 a), (2, .i .i64 y), (7, .row 0 (.sl .u8 b)), (8, .row 3 (.sl .u8 (g b))), (9, .row 6 (.sl .u8 (h b))), (33, .u .i64 b.length), (34, .u .i64 i)], [(0, bY), (3, bY), (6, bY)], 9, 0⟩
theorem okZR {g h : List Nat → List Nat} (hg : g = sum32) (hh : h = sum64) : CtrOk Try.prog (ZR g h) := by
  have e := okSB hh
  subst hg; subst hh
  exact addC_ok (addM_ok (addM_ok (addC_ok e (fun _ _ _ he _ => by cases he)) (eSumM_ok sum512_m)) (eSumM_ok sum256_m)) (eT_ok awake_c)
section
variable {g h : List Nat → List Nat} (hg : g = sum32) (hh : h = sum64) {w0 : World} {S : Own} {res : SV}
include hg hh
theorem own_e (b : List Nat) (vb : Value) (h1 : b.length ≤ 600) (hr : res = .b true) : Hold Try.prog (bodyOf Try.f11) (Fin Try.prog Try.f11 w0 S res) w0 S stP (sP b g h vb) := by
  have g1 : (g b).length = 32 := by rw [hg]; exact sum32_len _
  have g2 : (h b).length = 64 := by rw [hh]; exact sum64_len _
  rw [hr]
  rcases Bool.eq_false_or_eq_true (g b == g b) with hc0 | hc0
  · rcases Bool.eq_false_or_eq_true (h b == h b) with hc1 | hc1
    · rcases Bool.eq_false_or_eq_true ((g b).length == (32 : Nat)) with hc2 | hc2
      · have hd2 := eq_of_beq hc2
        rcases Bool.eq_false_or_eq_true ((h b).length == (64 : Nat)) with hc3 | hc3
        · have hd3 := eq_of_beq hc3
          refine hold_endw mixed (okSW hg hh) (unroll := true) (f := 300) (sc := [true, true, true, true]) (r := (Go.Eng.SV.cb Bool.true)) (ob := [b.length ≤ (1000000 : Nat), (g b == g b) = Bool.true, b.length ≤ (1000000 : Nat), (h b == h b) = Bool.true, ((g b).length == (32 : Nat)) = Bool.true, ((h b).length == (64 : Nat)) = Bool.true]) (sc' := []) (by kernel_rfl) ?_ ?_
          · exact ⟨(by first | omega | with_reducible trivial | (simp only [slenD, SV.slen, Option.getD_some]; omega)), hc0, (by first | omega | with_reducible trivial | (simp only [slenD, SV.slen, Option.getD_some]; omega)), hc1, hc2, hc3, trivial⟩
          · first | (simp [wkR, wk, wk0]; done) | (exfalso; omega) | (exfalso; simp_all; done)
        · have hd3 := ne_of_beq_false hc3
          refine hold_endw mixed (okSW hg hh) (unroll := true) (f := 300) (sc := [true, true, true, false]) (r := (Go.Eng.SV.cb Bool.false)) (ob := [b.length ≤ (1000000 : Nat), (g b == g b) = Bool.true, b.length ≤ (1000000 : Nat), (h b == h b) = Bool.true, ((g b).length == (32 : Nat)) = Bool.true, ((h b).length == (64 : Nat)) = Bool.false]) (sc' := []) (by kernel_rfl) ?_ ?_
          · exact ⟨(by first | omega | with_reducible trivial | (simp only [slenD, SV.slen, Option.getD_some]; omega)), hc0, (by first | omega | with_reducible trivial | (simp only [slenD, SV.slen, Option.getD_some]; omega)), hc1, hc2, hc3, trivial⟩
          · first | (simp [wkR, wk, wk0]; done) | (exfalso; omega) | (exfalso; simp_all; done)
      · have hd2 := ne_of_beq_false hc2
        refine hold_endw mixed (okSW hg hh) (unroll := true) (f := 300) (sc := [true, true, false]) (r := (Go.Eng.SV.cb Bool.false)) (ob := [b.length ≤ (1000000 : Nat), (g b == g b) = Bool.true, b.length ≤ (1000000 : Nat), (h b == h b) = Bool.true, ((g b).length == (32 : Nat)) = Bool.false]) (sc' := []) (by kernel_rfl) ?_ ?_
        · exact ⟨(by first | omega | with_reducible trivial | (simp only [slenD, SV.slen, Option.getD_some]; omega)), hc0, (by first | omega | with_reducible trivial | (simp only [slenD, SV.slen, Option.getD_some]; omega)), hc1, hc2, trivial⟩
        · first | (simp [wkR, wk, wk0]; done) | (exfalso; omega) | (exfalso; simp_all; done)
    · exact Bool.noConfusion ((beq_self_eq_true _).symm.trans hc1)
  · exact Bool.noConfusion ((beq_self_eq_true _).symm.trans hc0)
theorem own_l (b : List Nat) (vb : Value) (a y : Int) (hv : relV1 (fun _ => 0) S w0 (.sl .u8 b) vb) (h1 : b.length ≤ 600) (h0 : b.length ≠ 0) (hr : res = .b true) : ∀ d i, b.length - i = d → i ≤ b.length → Hold Try.prog (bodyOf Try.f11) (Fin Try.prog Try.f11 w0 S res) w0 S stO (sO b g h vb a y i) := by
  intro d
  induction d using Nat.strongRecOn with
  | _ d ih =>
  intro i hd hi
  refine hold_unroll (c := _) rfl ?_
  by_cases hlt : i < b.length
  · have e := ih (b.length - (i + 1)) (by omega) (i + 1) rfl (by omega)
    refine hold_cut mixed (okZR hg hh) (unroll := false) (f := 300) (sc := [true, false]) (ks := [0,1,2,7,8,9,33,34]) (bs := [0,3,6]) (nx := 9) (st' := [Go.Eng.It.lp [(0 : Nat), (1 : Nat), (0 : Nat), (1 : Nat), (1 : Nat), (1 : Nat), (1 : Nat)], Go.Eng.It.blk (0 : Nat), Go.Eng.It.at [(1 : Nat), (1 : Nat), (1 : Nat), (1 : Nat), (1 : Nat)]]) (σ' := { nt := (89 : Nat), slots := [((0 : Nat), Go.Eng.SV.pin vb (Go.Eng.SV.sl Go.IntKind.u8 b)), ((1 : Nat), Go.Eng.SV.i Go.IntKind.i64 a), ((2 : Nat), Go.Eng.SV.i Go.IntKind.i64 y), ((7 : Nat), Go.Eng.SV.row (0 : Nat) (Go.Eng.SV.sl Go.IntKind.u8 b)), ((8 : Nat), Go.Eng.SV.row (3 : Nat) (Go.Eng.SV.sl Go.IntKind.u8 (g b))), ((9 : Nat), Go.Eng.SV.row (6 : Nat) (Go.Eng.SV.sl Go.IntKind.u8 (h b))), ((33 : Nat), Go.Eng.SV.u Go.IntKind.i64 b.length), ((34 : Nat), Go.Eng.SV.u Go.IntKind.i64 (i + (1 : Nat)))], blks := [((0 : Nat), { ty := (5 : Nat), segs := [], row := Bool.true }), ((3 : Nat), { ty := (5 : Nat), segs := [], row := Bool.true }), ((6 : Nat), { ty := (5 : Nat), segs := [], row := Bool.true })], next := (9 : Nat) }) (ob := [Decidable.decide (i < b.length) = Bool.true, i < b.length, i < b.length, (b.getD i (0 : Nat) != b.getD i (0 : Nat)) = Bool.false, i + (1 : Nat) < (9223372036854775808 : Nat)]) (sc' := []) (by kernel_rfl) (by repeat' first | exact bne_self_eq_false _ | exact trivial | exact decide_eq_true (by omega) | exact decide_eq_false (by omega) | exact bne_iff_ne.mpr (by omega) | exact bne_eq_false_iff_eq.mpr (by omega) | exact beq_eq_false_iff_ne.mpr (by omega) | omega | (simp only [slenD, SV.slen, Option.getD_some]; omega) | (simp only [List.length_set]; omega) | (simp only [inR, lo, lim]; omega) | with_reducible rfl | refine ⟨?_, ?_⟩) ?_
    exact e
  · have e : i = b.length := by omega
    subst e
    have m0 := Int.emod_nonneg a (show (b.length : Int) ≠ 0 by omega)
    have m1 := Int.emod_lt_of_pos a (show (0 : Int) < (b.length : Int) by omega)
    have m2 := Int.emod_nonneg y (show (255 : Int) ≠ 0 by omega)
    have m3 := Int.emod_lt_of_pos y (show (0 : Int) < 255 by omega)
    refine hold_cut mixed (okZR hg hh) (unroll := false) (f := 300) (sc := [false]) (ks := [0,8,9]) (bs := [3,6]) (nx := 12) (st' := [Go.Eng.It.at [(0 : Nat), (1 : Nat), (1 : Nat), (1 : Nat), (1 : Nat), (1 : Nat), (1 : Nat), (1 : Nat)], Go.Eng.It.at [(1 : Nat), (1 : Nat), (1 : Nat), (1 : Nat), (1 : Nat), (1 : Nat), (1 : Nat), (1 : Nat)]]) (σ' := { nt := (89 : Nat), slots := [((0 : Nat), Go.Eng.SV.raw vb), ((8 : Nat), Go.Eng.SV.row (3 : Nat) (Go.Eng.SV.sl Go.IntKind.u8 (g b))), ((9 : Nat), Go.Eng.SV.row (6 : Nat) (Go.Eng.SV.sl Go.IntKind.u8 (h b)))], blks := [((3 : Nat), { ty := (5 : Nat), segs := [], row := Bool.true }), ((6 : Nat), { ty := (5 : Nat), segs := [], row := Bool.true })], next := (12 : Nat) }) (ob := [Decidable.decide (b.length < b.length) = Bool.false, (0 : Int) < (↑b.length : Int), (a % (↑b.length : Int)).toNat < b.length, (0 : Int) < (255 : Int), (1 : Nat) + (y % (255 : Int)).toNat < (9223372036854775808 : Nat), (a % (↑b.length : Int)).toNat < b.length, (b.set (a % (↑b.length : Int)).toNat (b.getD (a % (↑b.length : Int)).toNat (0 : Nat) ^^^ ((1 : Nat) + (y % (255 : Int)).toNat) % (256 : Nat))).length ≤ (1000000 : Nat)]) (sc' := []) (by kernel_rfl) (by repeat' first | exact trivial | exact decide_eq_true (by omega) | exact decide_eq_false (by omega) | exact bne_iff_ne.mpr (by omega) | exact bne_eq_false_iff_eq.mpr (by omega) | exact beq_eq_false_iff_ne.mpr (by omega) | omega | (simp only [slenD, SV.slen, Option.getD_some]; omega) | (simp only [List.length_set]; omega) | (simp only [inR, lo, lim]; omega) | with_reducible rfl | refine ⟨?_, ?_⟩) ?_
    refine hold_repin (t := 0) hv rfl rfl ?_
    refine hold_restrict (ks := [0,8,9]) (bs := [3,6]) (nx := 12) rfl ?_
    exact Hold.cast (own_e hg hh b vb h1 hr) (by first | rfl | simp [sP, bY])
theorem own_0 (b : List Nat) (a y : Int) (h1 : b.length ≤ 600) (h0 : b.length ≠ 0) : Contract Try.prog 11 [.sl .u8 b, .i .i64 a, .i .i64 y] (.b true) := by
  refine contractP Try.func11 (body := bodyOf Try.f11) rfl (by kernel_rfl) (by kernel_rfl) rfl ?_
  intro hpf w0 S vs hvs
  obtain ⟨vb, _, rfl, v1, va, _, rfl, v2, vy, _, rfl, v3, rfl⟩ := hvs
  have m0 := Int.emod_nonneg y (show (200 : Int) ≠ 0 by omega)
  have m1 := Int.emod_lt_of_pos y (show (0 : Int) < 200 by omega)
  refine hold_cut mixed (okZR hg hh) (unroll := false) (f := 300) (sc := [false, false]) (ks := [0,1,2,7,8,9,33,34]) (bs := [0,3,6]) (nx := 9) (st' := [Go.Eng.It.lp [(0 : Nat), (1 : Nat), (0 : Nat), (1 : Nat), (1 : Nat), (1 : Nat), (1 : Nat)], Go.Eng.It.blk (0 : Nat), Go.Eng.It.at [(1 : Nat), (1 : Nat), (1 : Nat), (1 : Nat), (1 : Nat)]]) (σ' := { nt := (89 : Nat), slots := [((0 : Nat), Go.Eng.SV.pin vb (Go.Eng.SV.sl Go.IntKind.u8 b)), ((1 : Nat), Go.Eng.SV.i Go.IntKind.i64 a), ((2 : Nat), Go.Eng.SV.i Go.IntKind.i64 y), ((7 : Nat), Go.Eng.SV.row (0 : Nat) (Go.Eng.SV.sl Go.IntKind.u8 b)), ((8 : Nat), Go.Eng.SV.row (Go.Eng.backM [] (3 : Nat) (0 : Nat)) (Go.Eng.SV.sl Go.IntKind.u8 (g b))), ((9 : Nat), Go.Eng.SV.row (Go.Eng.backM [] (6 : Nat) (0 : Nat)) (Go.Eng.SV.sl Go.IntKind.u8 (h b))), ((33 : Nat), Go.Eng.SV.u Go.IntKind.i64 b.length), ((34 : Nat), Go.Eng.SV.c Go.IntKind.i64 (0 : Int))], blks := [((0 : Nat), { ty := (5 : Nat), segs := [], row := Bool.true }), ((3 : Nat), { ty := (5 : Nat), segs := [], row := Bool.true }), ((6 : Nat), { ty := (5 : Nat), segs := [], row := Bool.true })], next := (9 : Nat) }) (ob := [Decidable.decide ((600 : Nat) < b.length) = Bool.false, (b.length == (0 : Nat)) = Bool.false, (0 : Int) < (200 : Int), b.length + (y % (200 : Int)).toNat < (9223372036854775808 : Nat), (0 : Int) < (↑(b.length + (y % (200 : Int)).toNat) : Int), (↑(b.length + (y % (200 : Int)).toNat) : Int) ≤ (17592186044416 : Int), Go.Eng.slenD (Go.Eng.SV.sl Go.IntKind.u8 b) * (1 : Nat) ≤ (140737488355328 : Nat), b.length ≤ (1000000 : Nat), b.length ≤ (1000000 : Nat)]) (sc' := []) (by kernel_rfl) (by repeat' first | exact trivial | exact decide_eq_true (by omega) | exact decide_eq_false (by omega) | exact bne_iff_ne.mpr (by omega) | exact bne_eq_false_iff_eq.mpr (by omega) | exact beq_eq_false_iff_ne.mpr (by omega) | omega | (simp only [slenD, SV.slen, Option.getD_some]; omega) | (simp only [List.length_set]; omega) | (simp only [inR, lo, lim]; omega) | with_reducible rfl | refine ⟨?_, ?_⟩) ?_
  exact Hold.weaken (own_l hg hh b vb a y v1 h1 h0 rfl _ 0 rfl (by omega)) (by simp [wks, wk, wk0, lim, sO, backM])
end
theorem ShaOwn_c (b : List Nat) (a y : Int) : Contract Try.prog 11 [.sl .u8 b, .i .i64 a, .i .i64 y] (.b true) := by
  obtain ⟨g, hg⟩ : ∃ g, g = sum32 := ⟨_, rfl⟩
  obtain ⟨h, hh⟩ : ∃ h, h = sum64 := ⟨_, rfl⟩
  by_cases h1 : b.length ≤ 600
  · by_cases h0 : b.length = 0
    · refine contract Try.func11 (body := bodyOf Try.f11) rfl (by kernel_rfl) (by kernel_rfl) rfl ?_
      intro _ w0 S
      exact hold_endw mixed (okZR hg hh) (unroll := true) (f := 100) (sc := [false, true]) (r := (Go.Eng.SV.cb Bool.true)) (ob := [Decidable.decide ((600 : Nat) < b.length) = Bool.false, (b.length == (0 : Nat)) = Bool.true]) (sc' := []) (by kernel_rfl) (by repeat' first | exact beq_iff_eq.mpr h0 | exact trivial | exact decide_eq_true (by omega) | exact decide_eq_false (by omega) | exact bne_iff_ne.mpr (by omega) | exact bne_eq_false_iff_eq.mpr (by omega) | exact beq_eq_false_iff_ne.mpr (by omega) | omega | (simp only [slenD, SV.slen, Option.getD_some]; omega) | (simp only [List.length_set]; omega) | (simp only [inR, lo, lim]; omega) | with_reducible rfl | refine ⟨?_, ?_⟩) (by simp [wkR, wk, wk0])
    · exact own_0 hg hh b a y h1 h0
  · refine contract Try.func11 (body := bodyOf Try.f11) rfl (by kernel_rfl) (by kernel_rfl) rfl ?_
    intro _ w0 S
    exact hold_endw mixed (okZR hg hh) (unroll := true) (f := 100) (sc := [true]) (r := (Go.Eng.SV.cb Bool.true)) (ob := [Decidable.decide ((600 : Nat) < b.length) = Bool.true]) (sc' := []) (by kernel_rfl) (by repeat' first | exact trivial | exact decide_eq_true (by omega) | exact decide_eq_false (by omega) | exact bne_iff_ne.mpr (by omega) | exact bne_eq_false_iff_eq.mpr (by omega) | exact beq_eq_false_iff_ne.mpr (by omega) | omega | (simp only [slenD, SV.slen, Option.getD_some]; omega) | (simp only [List.length_set]; omega) | (simp only [inR, lo, lim]; omega) | with_reducible rfl | refine ⟨?_, ?_⟩) (by simp [wkR, wk, wk0])
end Go.Eng.B

/- From a contract to a row: the arguments as they come in. -/
namespace Go.Eng
open Go.RowKit

theorem has_inR {k : IntKind} {n : Int} (h : k.has n) : inR k n := by
  cases k <;> simp only [IntKind.has, IntKind.min, IntKind.max, IntKind.signed, IntKind.bits, inR, lo, lim] at * <;> simp at h ⊢ <;> omega

theorem int_of {P : Program} {w : World} {r : Reach} {base : Nat} {t : TypeId} {v : Value} {k : IntKind} (ht : P.underlying t = some (.int k)) (h : Value.okWide P w r base t v) : ∃ n, v = .int k n ∧ k.has n := by
  obtain ⟨n, rfl⟩ := WideShapes.okWide_int ht h
  refine ⟨n, rfl, ?_⟩
  simpa [Value.okWide, Cell.okWide, Cell.ok, ht] using h

theorem open_i {P : Program} {w : World} {r : Reach} {base : Nat} {t : TypeId} {v : Value} {k : IntKind} (ht : P.underlying t = some (.int k)) (h : Value.okWide P w r base t v) {β : Nat → Nat} {ow : Own} {w' : World} :
    ∃ n, relV1 β ow w' (.i k n) v := by
  obtain ⟨n, rfl, hn⟩ := int_of ht h
  exact ⟨n, _, rel_i (has_inR hn), rfl⟩

theorem ints_of {k : IntKind} (hk : k.signed = false) : ∀ (cs : List Value), (∀ v ∈ cs, ∃ n, v = .int k n ∧ k.has n) → ∃ l : List Nat, cs = ints k l ∧ l.length = cs.length ∧ ∀ x ∈ l, x < lim k := by
  intro cs
  induction cs with
  | nil => intro _; exact ⟨[], rfl, rfl, by simp⟩
  | cons v cs ih =>
    intro h
    obtain ⟨l, h1, h2, h3⟩ := ih fun u hu => h u (by simp [hu])
    obtain ⟨n, rfl, hn⟩ := h v (by simp)
    have hr := has_inR hn
    have h0 : 0 ≤ n := by cases k <;> simp [IntKind.signed] at hk <;> simp only [inR, lo] at hr <;> omega
    refine ⟨n.toNat :: l, ?_, by simp [h2], ?_⟩
    · simp only [ints, List.map_cons, Int.toNat_of_nonneg h0]
      rw [h1]; rfl
    · intro x hx
      rcases List.mem_cons.1 hx with rfl | hx
      · have := hr.2; omega
      · exact h3 x hx

theorem open_arr {P : Program} {w : World} {r : Reach} {base : Nat} {t e u : TypeId} {v : Value} {k : IntKind} {n : Nat} (ht : P.underlying t = some (.array n e)) (hct : P.cellTypes P.depth t = some (List.replicate n u)) (hsz : P.cellsOf t = n)
    (hu : P.underlying u = some (.int k)) (hk : k.signed = false) (h : Value.okWide P w r base t v) {β : Nat → Nat} {ow : Own} {w' : World} : ∃ l, relV1 β ow w' (.arr k n l) v := by
  simp only [Value.okWide, ht] at h
  obtain ⟨cs, rfl, hs, ts, hts, _, hc⟩ := h
  rw [hct] at hts
  cases hts
  obtain ⟨l, h1, h2, h3⟩ := ints_of hk cs.toList fun v hv => by
    obtain ⟨i, hi⟩ := List.getElem?_of_mem hv
    obtain ⟨u', hu', hok⟩ := hc i v (by simpa using hi)
    have : u' = u := by
      have := List.mem_of_getElem? hu'
      exact List.eq_of_mem_replicate this
    subst this
    exact int_of (w := w) (r := r) (base := base) hu (by simp only [Value.okWide, hu]; exact hok)
  refine ⟨l, ints k l, rel_arr ?_ h3, ?_⟩
  · rw [h2]; simp [hs, hsz]
  · simp only [SV.isAgg, toV, if_true]
    rw [← h1]

/-- the call, out of the contract -/
theorem Contract.calls {P : Program} {f : FuncId} {fn : Func} {body : Code} {args : List SV} {res : SV} (h : Contract P f args res) (hf : P.funcs[f]? = some fn) (hb : fn.body = some body) (hname : (fn.name == "runtime.NumGoroutine") = false)
    {w : World} {vs : List Value} (hv : relVs (fun _ => 0) (fun _ _ => False) w args vs) :
    Calls P f vs.toArray w fun e w' => ∃ v, e = .returned v ∧ Below w.heap.size w w' ∧ relV (fun _ => 0) (fun _ _ => False) w' res v := by
  have h1 := h w (fun _ _ => False) vs (fun _ _ h => h.elim) hv
  unfold Invokes at h1
  have hcall : (callFunc f vs.toArray).run P w = .ok (.enter f vs.toArray) w := by
    have hne : ¬ fn.name = "runtime.NumGoroutine" := by simpa using hname
    simp [callFunc, hf, hb, hne]
  rw [hcall] at h1
  exact h1
end Go.Eng

/- From a contract to a row: slices, strings and bools as they come in. -/
namespace Go.Eng
open Go.RowKit Go.ChangeShapes Go.WideShapes

section
variable {H : Type} {enc : TypeId × Value → H} {P : Program} {w : World} {sp : Nat → Bool} {held : Bool} {r : Reach} {b0 : Nat} {t e : TypeId} {v : Value} {d : DataW H} {ps : List MemPlace} {k : IntKind}

theorem wf_inR {n : Int} (h : (Lit.int k n).wf = true) : inR k n := by
  apply has_inR
  have h : k.min ≤ n ∧ n ≤ k.max := by simpa [Lit.wf] using h
  exact h

theorem open_zs (ht : P.underlying t = some (.slice e)) (he : P.underlying e = some (.int k)) (hc : P.cellsOf e = 1) (hval : Value.okWide P w r b0 t v) (hd : DataW.Trod enc P w 0 sp held t v d ps) :
    ∃ zs : List Int, ReadsAs (fun _ _ => False) w v (zs.map fun n : Int => Value.int k n) ∧ ∀ n ∈ zs, inR k n := by
  obtain ⟨a0, len, cap, rfl⟩ := okWide_slice ht hval
  obtain ⟨fuel, hf⟩ := hd
  rcases ChangeShapes.open_ints ht he hc hf with ⟨h1, _⟩ | ⟨a, len', cap', zs, h1, _, hl, hm, hz, _, hcell, hwf⟩
  · simp only [Value.cells, List.cons.injEq, and_true] at h1
    cases h1
    exact ⟨[], ⟨none, 0, 0, rfl, rfl, Nat.le_refl _, by omega, fun h => absurd h (by omega)⟩, by simp⟩
  · simp only [Value.cells, List.cons.injEq, and_true] at h1
    cases h1
    have hle : len ≤ zs.length := by rw [hz]; split <;> omega
    have hmax : cap < 9223372036854775808 := by simp only [maxLen] at hm; omega
    refine ⟨zs.take len, ⟨some a, len, cap, rfl, by simp; omega, hl, hmax, fun hp => ⟨a, rfl, ?_, fun _ _ h => h, fun j u hu => ?_⟩⟩, fun n hn => wf_inR (hwf n (List.mem_of_mem_take hn))⟩
    · have := hcell 0 (by omega)
      simp only [Addr.add, if_true] at this
      cases hs : a.spot with
      | none => rfl
      | some q => simp [World.cell?, hs] at this; split at this <;> cases this
    · have hj : j < len := by
        have := (List.getElem?_eq_some_iff.1 hu).1
        simp at this; omega
      have h0 := hcell 0 (by omega)
      have hs : a.spot = none := by
        simp only [Addr.add, if_true] at h0
        cases hs : a.spot with
        | none => rfl
        | some q => simp [World.cell?, hs] at h0; split at h0 <;> cases h0
      have := hcell j (by omega)
      rw [add_spot hs] at this
      rw [this]
      simp only [List.getElem?_map, List.getElem?_take_of_lt hj, Option.map_eq_some_iff] at hu
      obtain ⟨z, hz1, rfl⟩ := hu
      simp [List.getD_eq_getElem?_getD, hz1]

theorem nats_of (hk : k.signed = false) : ∀ (zs : List Int), (∀ n ∈ zs, inR k n) → ∃ l : List Nat, (zs.map fun n : Int => Value.int k n) = ints k l ∧ ∀ x ∈ l, x < lim k := by
  intro zs
  induction zs with
  | nil => intro _; exact ⟨[], rfl, by simp⟩
  | cons n zs ih =>
    intro h
    obtain ⟨l, h1, h2⟩ := ih fun m hm => h m (by simp [hm])
    have hr := h n (by simp)
    have h0 : 0 ≤ n := by cases k <;> simp [IntKind.signed] at hk <;> simp only [inR, lo] at hr <;> omega
    refine ⟨n.toNat :: l, by simp only [ints, List.map_cons, Int.toNat_of_nonneg h0, h1], ?_⟩
    intro x hx
    rcases List.mem_cons.1 hx with rfl | hx
    · have := hr.2; omega
    · exact h2 x hx

theorem open_bytes {β : Nat → Nat} (ht : P.underlying t = some (.slice e)) (he : P.underlying e = some (.int k)) (hk : k.signed = false) (hc : P.cellsOf e = 1) (hval : Value.okWide P w r b0 t v) (hd : DataW.Trod enc P w 0 sp held t v d ps) :
    ∃ l, relV1 β (fun _ _ => False) w (.sl k l) v := by
  obtain ⟨zs, h1, h2⟩ := open_zs ht he hc hval hd
  obtain ⟨l, h3, h4⟩ := nats_of hk zs h2
  rw [h3] at h1
  exact ⟨l, [v], by simp only [rel]; exact ⟨⟨v, rfl, h1⟩, h4⟩, rfl⟩
theorem open_intl {β : Nat → Nat} (ht : P.underlying t = some (.slice e)) (he : P.underlying e = some (.int .i64)) (hc : P.cellsOf e = 1) (hval : Value.okWide P w r b0 t v) (hd : DataW.Trod enc P w 0 sp held t v d ps) :
    ∃ l, relV1 β (fun _ _ => False) w (.sli l) v := by
  obtain ⟨zs, h1, h2⟩ := open_zs ht he hc hval hd
  exact ⟨zs, [v], by simp only [rel]; exact ⟨⟨v, rfl, h1⟩, h2⟩, rfl⟩
theorem open_b {β : Nat → Nat} {ow : Own} {w' : World} (ht : P.underlying t = some .bool) (hval : Value.okWide P w r b0 t v) : ∃ x, relV1 β ow w' (.b x) v := by
  obtain ⟨b, rfl⟩ := okWide_bool ht hval
  exact ⟨b, _, rel_b, rfl⟩
theorem open_str {β : Nat → Nat} {ow : Own} {w' : World} (ht : P.underlying t = some .string) (hval : Value.okWide P w r b0 t v) : ∃ l, relV1 β ow w' (.str l) v := by
  obtain ⟨s, rfl⟩ := okWide_string ht hval
  have := constSV_ok (β := β) (ow := ow) (w := w') (v := .string s) (s := .str (s.data.toList.map (·.toNat))) rfl
  exact ⟨_, _, this.1, rfl⟩
end
end Go.Eng

/- What the words of the program's start say. -/
namespace Go.Proofs.Ytmigegngooecaaa.Facts
open Go Go.Proofs
set_option maxRecDepth 100000
theorem words_word {r : List Char} : ∀ {l : List Char}, (∀ c ∈ l, c ≠ ' ') → wordsSigns (l ++ ' ' :: r) = l :: wordsSigns r := by
  intro l
  induction l with
  | nil => intro _; rfl
  | cons c l ih =>
    intro h
    have hc : c ≠ ' ' := h c (by simp)
    have e := ih fun x hx => h x (by simp [hx])
    show wordsSigns (c :: (l ++ ' ' :: r)) = _
    rw [wordsSigns, e]
    · intro hh; exact hc hh
theorem order_is : Try.pinned.checked.prog.initOrder = "harness cff2c2cd0cba015eafbf3452765c231f117729f8e64eaa2e98dff4d1c1310757 cut at coresec/coreseclaw26.ContextUnique coresec/coreseclaw05.KdfExpands coresec/coreseclaw05.KdfLongest coresec/coreseclaw05.KdfPrefix coresec/coreseclaw05.KdfMacs coresec/coreseclaw05.KdfInner coresec/coreseclaw04.ShaSums coresec/coreseclaw04.ShaConstants coresec/coreseclaw04.ShaOwn coresec/coreseclaw05.KdfCalls coresec/coreseclaw04.ShaEdges coresec/coreseclaw04.ShaBlocks coresec/coreseclaw38.EchoValues coresec/coreseclaw26.ContextDerives coresec/coreseclaw23.TranscriptConns coresec/coreseclaw23.TranscriptReads coresec/coreseclaw26.ContextNumbers coresec/coreseclaw38.EchoAdmits coresec/coreseclaw23.TranscriptContexts coresec/coreseclaw26.ContextNonces coresec/coreseclaw23.TranscriptKeys coresec/coreseclaw23.TranscriptHashes coresec/coreseclaw38.EchoFresh" := by kernel_rfl
theorem order_lit : ("harness cff2c2cd0cba015eafbf3452765c231f117729f8e64eaa2e98dff4d1c1310757 cut at coresec/coreseclaw26.ContextUnique coresec/coreseclaw05.KdfExpands coresec/coreseclaw05.KdfLongest coresec/coreseclaw05.KdfPrefix coresec/coreseclaw05.KdfMacs coresec/coreseclaw05.KdfInner coresec/coreseclaw04.ShaSums coresec/coreseclaw04.ShaConstants coresec/coreseclaw04.ShaOwn coresec/coreseclaw05.KdfCalls coresec/coreseclaw04.ShaEdges coresec/coreseclaw04.ShaBlocks coresec/coreseclaw38.EchoValues coresec/coreseclaw26.ContextDerives coresec/coreseclaw23.TranscriptConns coresec/coreseclaw23.TranscriptReads coresec/coreseclaw26.ContextNumbers coresec/coreseclaw38.EchoAdmits coresec/coreseclaw23.TranscriptContexts coresec/coreseclaw26.ContextNonces coresec/coreseclaw23.TranscriptKeys coresec/coreseclaw23.TranscriptHashes coresec/coreseclaw38.EchoFresh" : String) = String.ofList (['h', 'a', 'r', 'n', 'e', 's', 's'] ++ ' ' :: (['c', 'f', 'f', '2', 'c', '2', 'c', 'd', '0', 'c', 'b', 'a', '0', '1', '5', 'e', 'a', 'f', 'b', 'f', '3', '4', '5', '2', '7', '6', '5', 'c', '2', '3', '1', 'f', '1', '1', '7', '7', '2', '9', 'f', '8', 'e', '6', '4', 'e', 'a', 'a', '2', 'e', '9', '8', 'd', 'f', 'f', '4', 'd', '1', 'c', '1', '3', '1', '0', '7', '5', '7'] ++ ' ' :: (['c', 'u', 't'] ++ ' ' :: ['a', 't', ' ', 'c', 'o', 'r', 'e', 's', 'e', 'c', '/', 'c', 'o', 'r', 'e', 's', 'e', 'c', 'l', 'a', 'w', '2', '6', '.', 'C', 'o', 'n', 't', 'e', 'x', 't', 'U', 'n', 'i', 'q', 'u', 'e', ' ', 'c', 'o', 'r', 'e', 's', 'e', 'c', '/', 'c', 'o', 'r', 'e', 's', 'e', 'c', 'l', 'a', 'w', '0', '5', '.', 'K', 'd', 'f', 'E', 'x', 'p', 'a', 'n', 'd', 's', ' ', 'c', 'o', 'r', 'e', 's', 'e', 'c', '/', 'c', 'o', 'r', 'e', 's', 'e', 'c', 'l', 'a', 'w', '0', '5', '.', 'K', 'd', 'f', 'L', 'o', 'n', 'g', 'e', 's', 't', ' ', 'c', 'o', 'r', 'e', 's', 'e', 'c', '/', 'c', 'o', 'r', 'e', 's', 'e', 'c', 'l', 'a', 'w', '0', '5', '.', 'K', 'd', 'f', 'P', 'r', 'e', 'f', 'i', 'x', ' ', 'c', 'o', 'r', 'e', 's', 'e', 'c', '/', 'c', 'o', 'r', 'e', 's', 'e', 'c', 'l', 'a', 'w', '0', '5', '.', 'K', 'd', 'f', 'M', 'a', 'c', 's', ' ', 'c', 'o', 'r', 'e', 's', 'e', 'c', '/', 'c', 'o', 'r', 'e', 's', 'e', 'c', 'l', 'a', 'w', '0', '5', '.', 'K', 'd', 'f', 'I', 'n', 'n', 'e', 'r', ' ', 'c', 'o', 'r', 'e', 's', 'e', 'c', '/', 'c', 'o', 'r', 'e', 's', 'e', 'c', 'l', 'a', 'w', '0', '4', '.', 'S', 'h', 'a', 'S', 'u', 'm', 's', ' ', 'c', 'o', 'r', 'e', 's', 'e', 'c', '/', 'c', 'o', 'r', 'e', 's', 'e', 'c', 'l', 'a', 'w', '0', '4', '.', 'S', 'h', 'a', 'C', 'o', 'n', 's', 't', 'a', 'n', 't', 's', ' ', 'c', 'o', 'r', 'e', 's', 'e', 'c', '/', 'c', 'o', 'r', 'e', 's', 'e', 'c', 'l', 'a', 'w', '0', '4', '.', 'S', 'h', 'a', 'O', 'w', 'n', ' ', 'c', 'o', 'r', 'e', 's', 'e', 'c', '/', 'c', 'o', 'r', 'e', 's', 'e', 'c', 'l', 'a', 'w', '0', '5', '.', 'K', 'd', 'f', 'C', 'a', 'l', 'l', 's', ' ', 'c', 'o', 'r', 'e', 's', 'e', 'c', '/', 'c', 'o', 'r', 'e', 's', 'e', 'c', 'l', 'a', 'w', '0', '4', '.', 'S', 'h', 'a', 'E', 'd', 'g', 'e', 's', ' ', 'c', 'o', 'r', 'e', 's', 'e', 'c', '/', 'c', 'o', 'r', 'e', 's', 'e', 'c', 'l', 'a', 'w', '0', '4', '.', 'S', 'h', 'a', 'B', 'l', 'o', 'c', 'k', 's', ' ', 'c', 'o', 'r', 'e', 's', 'e', 'c', '/', 'c', 'o', 'r', 'e', 's', 'e', 'c', 'l', 'a', 'w', '3', '8', '.', 'E', 'c', 'h', 'o', 'V', 'a', 'l', 'u', 'e', 's', ' ', 'c', 'o', 'r', 'e', 's', 'e', 'c', '/', 'c', 'o', 'r', 'e', 's', 'e', 'c', 'l', 'a', 'w', '2', '6', '.', 'C', 'o', 'n', 't', 'e', 'x', 't', 'D', 'e', 'r', 'i', 'v', 'e', 's', ' ', 'c', 'o', 'r', 'e', 's', 'e', 'c', '/', 'c', 'o', 'r', 'e', 's', 'e', 'c', 'l', 'a', 'w', '2', '3', '.', 'T', 'r', 'a', 'n', 's', 'c', 'r', 'i', 'p', 't', 'C', 'o', 'n', 'n', 's', ' ', 'c', 'o', 'r', 'e', 's', 'e', 'c', '/', 'c', 'o', 'r', 'e', 's', 'e', 'c', 'l', 'a', 'w', '2', '3', '.', 'T', 'r', 'a', 'n', 's', 'c', 'r', 'i', 'p', 't', 'R', 'e', 'a', 'd', 's', ' ', 'c', 'o', 'r', 'e', 's', 'e', 'c', '/', 'c', 'o', 'r', 'e', 's', 'e', 'c', 'l', 'a', 'w', '2', '6', '.', 'C', 'o', 'n', 't', 'e', 'x', 't', 'N', 'u', 'm', 'b', 'e', 'r', 's', ' ', 'c', 'o', 'r', 'e', 's', 'e', 'c', '/', 'c', 'o', 'r', 'e', 's', 'e', 'c', 'l', 'a', 'w', '3', '8', '.', 'E', 'c', 'h', 'o', 'A', 'd', 'm', 'i', 't', 's', ' ', 'c', 'o', 'r', 'e', 's', 'e', 'c', '/', 'c', 'o', 'r', 'e', 's', 'e', 'c', 'l', 'a', 'w', '2', '3', '.', 'T', 'r', 'a', 'n', 's', 'c', 'r', 'i', 'p', 't', 'C', 'o', 'n', 't', 'e', 'x', 't', 's', ' ', 'c', 'o', 'r', 'e', 's', 'e', 'c', '/', 'c', 'o', 'r', 'e', 's', 'e', 'c', 'l', 'a', 'w', '2', '6', '.', 'C', 'o', 'n', 't', 'e', 'x', 't', 'N', 'o', 'n', 'c', 'e', 's', ' ', 'c', 'o', 'r', 'e', 's', 'e', 'c', '/', 'c', 'o', 'r', 'e', 's', 'e', 'c', 'l', 'a', 'w', '2', '3', '.', 'T', 'r', 'a', 'n', 's', 'c', 'r', 'i', 'p', 't', 'K', 'e', 'y', 's', ' ', 'c', 'o', 'r', 'e', 's', 'e', 'c', '/', 'c', 'o', 'r', 'e', 's', 'e', 'c', 'l', 'a', 'w', '2', '3', '.', 'T', 'r', 'a', 'n', 's', 'c', 'r', 'i', 'p', 't', 'H', 'a', 's', 'h', 'e', 's', ' ', 'c', 'o', 'r', 'e', 's', 'e', 'c', '/', 'c', 'o', 'r', 'e', 's', 'e', 'c', 'l', 'a', 'w', '3', '8', '.', 'E', 'c', 'h', 'o', 'F', 'r', 'e', 's', 'h']))) := by kernel_rfl
theorem order_words : ∃ R, behindMainWord (wordsSigns Try.pinned.checked.prog.initOrder.toList) = ['c', 'u', 't'] :: R := by
  rw [order_is, order_lit, String.toList_ofList, words_word (by decide), words_word (by decide), words_word (by decide)]
  generalize wordsSigns ['a', 't', ' ', 'c', 'o', 'r', 'e', 's', 'e', 'c', '/', 'c', 'o', 'r', 'e', 's', 'e', 'c', 'l', 'a', 'w', '2', '6', '.', 'C', 'o', 'n', 't', 'e', 'x', 't', 'U', 'n', 'i', 'q', 'u', 'e', ' ', 'c', 'o', 'r', 'e', 's', 'e', 'c', '/', 'c', 'o', 'r', 'e', 's', 'e', 'c', 'l', 'a', 'w', '0', '5', '.', 'K', 'd', 'f', 'E', 'x', 'p', 'a', 'n', 'd', 's', ' ', 'c', 'o', 'r', 'e', 's', 'e', 'c', '/', 'c', 'o', 'r', 'e', 's', 'e', 'c', 'l', 'a', 'w', '0', '5', '.', 'K', 'd', 'f', 'L', 'o', 'n', 'g', 'e', 's', 't', ' ', 'c', 'o', 'r', 'e', 's', 'e', 'c', '/', 'c', 'o', 'r', 'e', 's', 'e', 'c', 'l', 'a', 'w', '0', '5', '.', 'K', 'd', 'f', 'P', 'r', 'e', 'f', 'i', 'x', ' ', 'c', 'o', 'r', 'e', 's', 'e', 'c', '/', 'c', 'o', 'r', 'e', 's', 'e', 'c', 'l', 'a', 'w', '0', '5', '.', 'K', 'd', 'f', 'M', 'a', 'c', 's', ' ', 'c', 'o', 'r', 'e', 's', 'e', 'c', '/', 'c', 'o', 'r', 'e', 's', 'e', 'c', 'l', 'a', 'w', '0', '5', '.', 'K', 'd', 'f', 'I', 'n', 'n', 'e', 'r', ' ', 'c', 'o', 'r', 'e', 's', 'e', 'c', '/', 'c', 'o', 'r', 'e', 's', 'e', 'c', 'l', 'a', 'w', '0', '4', '.', 'S', 'h', 'a', 'S', 'u', 'm', 's', ' ', 'c', 'o', 'r', 'e', 's', 'e', 'c', '/', 'c', 'o', 'r', 'e', 's', 'e', 'c', 'l', 'a', 'w', '0', '4', '.', 'S', 'h', 'a', 'C', 'o', 'n', 's', 't', 'a', 'n', 't', 's', ' ', 'c', 'o', 'r', 'e', 's', 'e', 'c', '/', 'c', 'o', 'r', 'e', 's', 'e', 'c', 'l', 'a', 'w', '0', '4', '.', 'S', 'h', 'a', 'O', 'w', 'n', ' ', 'c', 'o', 'r', 'e', 's', 'e', 'c', '/', 'c', 'o', 'r', 'e', 's', 'e', 'c', 'l', 'a', 'w', '0', '5', '.', 'K', 'd', 'f', 'C', 'a', 'l', 'l', 's', ' ', 'c', 'o', 'r', 'e', 's', 'e', 'c', '/', 'c', 'o', 'r', 'e', 's', 'e', 'c', 'l', 'a', 'w', '0', '4', '.', 'S', 'h', 'a', 'E', 'd', 'g', 'e', 's', ' ', 'c', 'o', 'r', 'e', 's', 'e', 'c', '/', 'c', 'o', 'r', 'e', 's', 'e', 'c', 'l', 'a', 'w', '0', '4', '.', 'S', 'h', 'a', 'B', 'l', 'o', 'c', 'k', 's', ' ', 'c', 'o', 'r', 'e', 's', 'e', 'c', '/', 'c', 'o', 'r', 'e', 's', 'e', 'c', 'l', 'a', 'w', '3', '8', '.', 'E', 'c', 'h', 'o', 'V', 'a', 'l', 'u', 'e', 's', ' ', 'c', 'o', 'r', 'e', 's', 'e', 'c', '/', 'c', 'o', 'r', 'e', 's', 'e', 'c', 'l', 'a', 'w', '2', '6', '.', 'C', 'o', 'n', 't', 'e', 'x', 't', 'D', 'e', 'r', 'i', 'v', 'e', 's', ' ', 'c', 'o', 'r', 'e', 's', 'e', 'c', '/', 'c', 'o', 'r', 'e', 's', 'e', 'c', 'l', 'a', 'w', '2', '3', '.', 'T', 'r', 'a', 'n', 's', 'c', 'r', 'i', 'p', 't', 'C', 'o', 'n', 'n', 's', ' ', 'c', 'o', 'r', 'e', 's', 'e', 'c', '/', 'c', 'o', 'r', 'e', 's', 'e', 'c', 'l', 'a', 'w', '2', '3', '.', 'T', 'r', 'a', 'n', 's', 'c', 'r', 'i', 'p', 't', 'R', 'e', 'a', 'd', 's', ' ', 'c', 'o', 'r', 'e', 's', 'e', 'c', '/', 'c', 'o', 'r', 'e', 's', 'e', 'c', 'l', 'a', 'w', '2', '6', '.', 'C', 'o', 'n', 't', 'e', 'x', 't', 'N', 'u', 'm', 'b', 'e', 'r', 's', ' ', 'c', 'o', 'r', 'e', 's', 'e', 'c', '/', 'c', 'o', 'r', 'e', 's', 'e', 'c', 'l', 'a', 'w', '3', '8', '.', 'E', 'c', 'h', 'o', 'A', 'd', 'm', 'i', 't', 's', ' ', 'c', 'o', 'r', 'e', 's', 'e', 'c', '/', 'c', 'o', 'r', 'e', 's', 'e', 'c', 'l', 'a', 'w', '2', '3', '.', 'T', 'r', 'a', 'n', 's', 'c', 'r', 'i', 'p', 't', 'C', 'o', 'n', 't', 'e', 'x', 't', 's', ' ', 'c', 'o', 'r', 'e', 's', 'e', 'c', '/', 'c', 'o', 'r', 'e', 's', 'e', 'c', 'l', 'a', 'w', '2', '6', '.', 'C', 'o', 'n', 't', 'e', 'x', 't', 'N', 'o', 'n', 'c', 'e', 's', ' ', 'c', 'o', 'r', 'e', 's', 'e', 'c', '/', 'c', 'o', 'r', 'e', 's', 'e', 'c', 'l', 'a', 'w', '2', '3', '.', 'T', 'r', 'a', 'n', 's', 'c', 'r', 'i', 'p', 't', 'K', 'e', 'y', 's', ' ', 'c', 'o', 'r', 'e', 's', 'e', 'c', '/', 'c', 'o', 'r', 'e', 's', 'e', 'c', 'l', 'a', 'w', '2', '3', '.', 'T', 'r', 'a', 'n', 's', 'c', 'r', 'i', 'p', 't', 'H', 'a', 's', 'h', 'e', 's', ' ', 'c', 'o', 'r', 'e', 's', 'e', 'c', '/', 'c', 'o', 'r', 'e', 's', 'e', 'c', 'l', 'a', 'w', '3', '8', '.', 'E', 'c', 'h', 'o', 'F', 'r', 'e', 's', 'h'] = R
  exact ⟨R, by kernel_rfl⟩
theorem c_gc : (['c', 'u', 't'] == "gc".toList) = false := by kernel_rfl
theorem c_spec : (['c', 'u', 't'] == "spec".toList) = false := by kernel_rfl
theorem c_cut : (['c', 'u', 't'] == "cut".toList) = true := by kernel_rfl
theorem c_carried : (['c', 'u', 't'] == "carried".toList) = false := by kernel_rfl
theorem c_strip (R : List (List Char)) : stripLifts liftWords (['c', 'u', 't'] :: R) = ([], ['c', 'u', 't'] :: R) := by kernel_rfl
theorem lifts_of {P : Program} {R : List (List Char)} (h : behindMainWord (wordsSigns P.initOrder.toList) = ['c', 'u', 't'] :: R) : P.liftsFinal = false := by
  unfold Program.liftsFinal Program.headLifts
  rw [h]
  kernel_rfl
theorem make_of {P : Program} {R : List (List Char)} (h : behindMainWord (wordsSigns P.initOrder.toList) = ['c', 'u', 't'] :: R) : P.make = some .cut := by
  unfold Program.make
  rw [h]
  simp only [c_gc, c_spec, c_cut, Bool.or_false, Bool.false_or, Bool.true_or, if_true, if_false, Bool.false_eq_true]
theorem enter_of {P : Program} {R : List (List Char)} (h : behindMainWord (wordsSigns P.initOrder.toList) = ['c', 'u', 't'] :: R) (h2 : P.laysLater = false) (h3 : P.bearsReflect = false) (h4 : P.doorFits [] = true) : P.mayEnter = true := by
  unfold Program.mayEnter
  rw [h]
  simp only [c_gc, c_spec, c_carried, c_strip, h2, h3, h4]
  kernel_rfl
theorem lays_is : Try.pinned.checked.prog.laysLater = false := by kernel_rfl
theorem reflect_is : Try.pinned.checked.prog.bearsReflect = false := by kernel_rfl
theorem door_is : Try.pinned.checked.prog.doorFits [] = true := by kernel_rfl
theorem lifts_is : Try.pinned.checked.prog.liftsFinal = false := by
  obtain ⟨R, h⟩ := order_words
  exact lifts_of h
theorem make_is : Try.pinned.checked.prog.make = some .cut := by
  obtain ⟨R, h⟩ := order_words
  exact make_of h
theorem enter_is : Try.pinned.checked.prog.mayEnter = true := by
  obtain ⟨R, h⟩ := order_words
  exact enter_of h lays_is reflect_is door_is
end Go.Proofs.Ytmigegngooecaaa.Facts

