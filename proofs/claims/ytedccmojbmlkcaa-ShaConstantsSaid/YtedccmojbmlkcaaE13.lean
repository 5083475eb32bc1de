import Derived.Test.YtedccmojbmlkcaaE12
import Derived.WideShapes
import Derived.OpenShut
import Derived.ChangeSlices
import Derived.RowKit
import Derived.Test.YtedccmojbmlkcaaRows
import Derived.ProofKit
import Derived.JoinedOf
import Derived.KernelRfl
set_option linter.unusedVariables false
set_option linter.unusedSimpArgs false
set_option linter.unusedSectionVars false
namespace Go.Eng.B
open Go Go.Eng Go.Proofs
set_option maxRecDepth 100000
set_option maxHeartbeats 1000000
def eCst (args : List SV) : Option (SV × List Prop) := match args with
  | [x] => match x.nat? with | some (.i64, t) => some (.u .u64 (kL.getD t 0), [t < 80]) | _ => none
  | _ => none
noncomputable def Q2a (g h : List Nat → List Nat) : Ctr := addC 22 eCub (addC 23 eCst (SW g h))
def scanP (p : Nat) : Nat → Nat → Bool → Bool
  | 0, _, fl => fl
  | f + 1, d, fl => if d * d ≤ p then scanP p f (d + 1) (fl && (p % d != 0)) else fl
def srchP (t : Nat) : Nat → Nat → Nat → Option Nat
  | 0, _, _ => none
  | f + 1, k, p => if k < t then srchP t f (k + if scanP (p + 1) 40 2 true = true then 1 else 0) (p + 1) else some p
def wholeP (q : Nat) : Nat → Nat → Option Nat
  | 0, _ => none
  | f + 1, w => if (w + 1) * (w + 1) * (w + 1) ≤ q then wholeP q f (w + 1) else some w
def constOk (t : Nat) : Bool := match srchP t 500 0 2 with
  | some q => match wholeP q 20 1 with
    | some w => cubV w (kL.getD t 0) q && Nat.ble q 1000
    | none => false
  | none => false
def stIn : List It := [.lp [0, 1, 0, 1, 1, 0, 1, 0, 0, 1, 0, 1, 1, 1], .blk 2, .at [1, 1, 1, 0, 1, 0, 0, 1, 0, 1, 1, 1], .blk 1, .lp [0, 1, 0, 1, 1, 1], .blk 0, .at [1, 1, 1, 1]]
def stOut : List It := [.lp [0, 1, 0, 1, 1, 1], .blk 0, .at [1, 1, 1, 1]]
def stWh : List It := [.lp [0, 0, 1, 1, 1, 1, 1], .blk 4, .at [1, 1, 1, 1, 1, 1]]
def sIn (b : List Nat) (t p k : Nat) (fl : Bool) (d : Nat) : St := ⟨68, [(0, .u .i64 t), (1, .sl .u8 b), (5, .u .u64 p), (6, .u .i64 k), (7, .b fl), (8, .u .u64 d)], [], 0, 0⟩
def sOut (b : List Nat) (t p k : Nat) : St := ⟨68, [(0, .u .i64 t), (1, .sl .u8 b), (5, .u .u64 p), (6, .u .i64 k)], [], 0, 0⟩
def sWh (b : List Nat) (t p w : Nat) : St := ⟨68, [(0, .u .i64 t), (1, .sl .u8 b), (5, .u .u64 p), (9, .u .u64 w)], [], 0, 0⟩
theorem const_all : (List.range 80).all constOk = true := by kernel_rfl
theorem cst_c (t : Nat) (ht : t < 80) : Contract Try.prog 23 [.u .i64 t] (.u .u64 (kL.getD t 0)) := by
  refine contract Try.func23 (body := bodyOf Try.f23) rfl (by kernel_rfl) (by kernel_rfl) rfl ?_
  intro _ w0 S
  refine hold_endw mixed (addC_ok ctr0_ok (eNil_ok kref_c)) (unroll := true) (f := 100) (sc := []) (r := (Go.Eng.SV.u Go.IntKind.u64 (Go.Eng.B.kL.getD t (0 : Nat)))) (ob := [t < (80 : Nat)]) (sc' := []) (by kernel_rfl) ⟨ht, trivial⟩ ?_
  exact wkR_refl _
theorem cst_ok : ∀ args res ob, eCst args = some (res, ob) → All ob → Contract Try.prog 23 args res := by
  intro args res ob he hob
  unfold eCst at he
  split at he
  · split at he
    · rename_i hx
      cases he
      exact Contract.argsRF (cst_c _ hob.1) (fun ⟨v, t, e, h1, h2⟩ => ⟨v, t, e, nat?_wk hx h1, h2⟩)
    · cases he
  · cases he
section
variable {g h : List Nat → List Nat} (hg : g = sum32) (hh : h = sum64) {w0 : World} {S : Own} {res : SV}
include hg hh
theorem okQ2a : CtrOk Try.prog (Q2a g h) := addC_ok (addC_ok (okSW hg hh) cst_ok) cub_ok
theorem fin_l (b : List Nat) (t p w : Nat) (ht : t < 80) (hc : cubV w (kL.getD t 0) p = true) (hr : res = .b true) : Hold Try.prog (bodyOf Try.f5) (Fin Try.prog Try.f5 w0 S res) w0 S [.at [0, 1, 1, 1, 1, 1, 1], .at [1, 1, 1, 1, 1, 1, 1]] (sWh b t p w) := by
  rw [hr]
  by_cases hb : 111 < b.length
  · refine hold_allL mixed (okQ2a hg hh) (p := [0, 1, 1, 1, 1, 1, 1]) (r := [.at [1, 1, 1, 1, 1, 1, 1]]) (d := Ke.mk [4] [] 0) (σ := sWh b t p w) (sc := [true, true]) (st' := [Go.Eng.It.at [(1 : Nat), (1 : Nat), (1 : Nat), (1 : Nat), (1 : Nat), (1 : Nat), (1 : Nat)]]) (σ' := (Go.Eng.St.mk (68 : Nat) [((4 : Nat), Go.Eng.SV.cb Bool.true)] [] (0 : Nat) (0 : Nat))) (ob := [t < (80 : Nat), Go.Eng.B.cubV w (Go.Eng.B.kL.getD t (0 : Nat)) p = Bool.true, Decidable.decide ((111 : Nat) < b.length) = Bool.true]) (sc' := []) (by kernel_rfl) (by repeat' first | exact trivial | exact rfl | exact hc | exact ht | exact decide_eq_true hb | refine ⟨?_, ?_⟩) ?_
    exact hold_endw mixed (okQ2a hg hh) (unroll := false) (f := 100) (sc := []) (r := (Go.Eng.SV.cb Bool.true)) (ob := []) (sc' := []) (by kernel_rfl) (by trivial) (by simp [wkR, wk, wk0])
  · refine hold_allL mixed (okQ2a hg hh) (p := [0, 1, 1, 1, 1, 1, 1]) (r := [.at [1, 1, 1, 1, 1, 1, 1]]) (d := Ke.mk [4] [] 0) (σ := sWh b t p w) (sc := [true, false, true]) (st' := [Go.Eng.It.at [(1 : Nat), (1 : Nat), (1 : Nat), (1 : Nat), (1 : Nat), (1 : Nat), (1 : Nat)]]) (σ' := (Go.Eng.St.mk (68 : Nat) [((4 : Nat), Go.Eng.SV.cb Bool.true)] [] (0 : Nat) (0 : Nat))) (ob := [t < (80 : Nat), Go.Eng.B.cubV w (Go.Eng.B.kL.getD t (0 : Nat)) p = Bool.true, Decidable.decide ((111 : Nat) < b.length) = Bool.false, b.length ≤ (1000000 : Nat), b.length ≤ (1000000 : Nat), b.length ≤ (1000000 : Nat), Go.Eng.St.mk (68 : Nat) [(((((((((((((((((0 : Nat), Go.Eng.SV.u Go.IntKind.i64 t).fst, Go.Eng.SV.u Go.IntKind.i64 t).fst, Go.Eng.SV.u Go.IntKind.i64 t).fst, Go.Eng.SV.u Go.IntKind.i64 t).fst, Go.Eng.SV.u Go.IntKind.i64 t).fst, Go.Eng.SV.u Go.IntKind.i64 t).fst, Go.Eng.SV.u Go.IntKind.i64 t).fst, Go.Eng.SV.u Go.IntKind.i64 t).fst, Go.Eng.SV.u Go.IntKind.i64 t).fst, Go.Eng.SV.u Go.IntKind.i64 t).fst, Go.Eng.SV.u Go.IntKind.i64 t).fst, Go.Eng.SV.u Go.IntKind.i64 t).fst, Go.Eng.SV.u Go.IntKind.i64 t).fst, Go.Eng.SV.u Go.IntKind.i64 t).fst, Go.Eng.SV.u Go.IntKind.i64 t).fst, Go.Eng.SV.u Go.IntKind.i64 t), (((((((((((((((((1 : Nat), Go.Eng.SV.sl Go.IntKind.u8 b).fst, Go.Eng.SV.sl Go.IntKind.u8 b).fst, Go.Eng.SV.sl Go.IntKind.u8 b).fst, Go.Eng.SV.sl Go.IntKind.u8 b).fst, Go.Eng.SV.sl Go.IntKind.u8 b).fst, Go.Eng.SV.sl Go.IntKind.u8 b).fst, Go.Eng.SV.sl Go.IntKind.u8 b).fst, Go.Eng.SV.sl Go.IntKind.u8 b).fst, Go.Eng.SV.sl Go.IntKind.u8 b).fst, Go.Eng.SV.sl Go.IntKind.u8 b).fst, Go.Eng.SV.sl Go.IntKind.u8 b).fst, Go.Eng.SV.sl Go.IntKind.u8 b).fst, Go.Eng.SV.sl Go.IntKind.u8 b).fst, Go.Eng.SV.sl Go.IntKind.u8 b).fst, Go.Eng.SV.sl Go.IntKind.u8 b).fst, Go.Eng.SV.sl Go.IntKind.u8 b), (((((((((((((((((5 : Nat), Go.Eng.SV.u Go.IntKind.u64 p).fst, Go.Eng.SV.u Go.IntKind.u64 p).fst, Go.Eng.SV.u Go.IntKind.u64 p).fst, Go.Eng.SV.u Go.IntKind.u64 p).fst, Go.Eng.SV.u Go.IntKind.u64 p).fst, Go.Eng.SV.u Go.IntKind.u64 p).fst, Go.Eng.SV.u Go.IntKind.u64 p).fst, Go.Eng.SV.u Go.IntKind.u64 p).fst, Go.Eng.SV.u Go.IntKind.u64 p).fst, Go.Eng.SV.u Go.IntKind.u64 p).fst, Go.Eng.SV.u Go.IntKind.u64 p).fst, Go.Eng.SV.u Go.IntKind.u64 p).fst, Go.Eng.SV.u Go.IntKind.u64 p).fst, Go.Eng.SV.u Go.IntKind.u64 p).fst, Go.Eng.SV.u Go.IntKind.u64 p).fst, Go.Eng.SV.u Go.IntKind.u64 p), (((((((((((((((((9 : Nat), Go.Eng.SV.u Go.IntKind.u64 w).fst, Go.Eng.SV.u Go.IntKind.u64 w).fst, Go.Eng.SV.u Go.IntKind.u64 w).fst, Go.Eng.SV.u Go.IntKind.u64 w).fst, Go.Eng.SV.u Go.IntKind.u64 w).fst, Go.Eng.SV.u Go.IntKind.u64 w).fst, Go.Eng.SV.u Go.IntKind.u64 w).fst, Go.Eng.SV.u Go.IntKind.u64 w).fst, Go.Eng.SV.u Go.IntKind.u64 w).fst, Go.Eng.SV.u Go.IntKind.u64 w).fst, Go.Eng.SV.u Go.IntKind.u64 w).fst, Go.Eng.SV.u Go.IntKind.u64 w).fst, Go.Eng.SV.u Go.IntKind.u64 w).fst, Go.Eng.SV.u Go.IntKind.u64 w).fst, Go.Eng.SV.u Go.IntKind.u64 w).fst, Go.Eng.SV.u Go.IntKind.u64 w), (((((((((((((((((46 : Nat), Go.Eng.SV.u Go.IntKind.u64 w).fst, Go.Eng.SV.u Go.IntKind.u64 w).fst, Go.Eng.SV.u Go.IntKind.u64 w).fst, Go.Eng.SV.u Go.IntKind.u64 w).fst, Go.Eng.SV.u Go.IntKind.u64 w).fst, Go.Eng.SV.u Go.IntKind.u64 w).fst, Go.Eng.SV.u Go.IntKind.u64 w).fst, Go.Eng.SV.u Go.IntKind.u64 w).fst, Go.Eng.SV.u Go.IntKind.u64 w).fst, Go.Eng.SV.u Go.IntKind.u64 w).fst, Go.Eng.SV.u Go.IntKind.u64 w).fst, Go.Eng.SV.u Go.IntKind.u64 w).fst, Go.Eng.SV.u Go.IntKind.u64 w).fst, Go.Eng.SV.u Go.IntKind.u64 w).fst, Go.Eng.SV.u Go.IntKind.u64 w).fst, Go.Eng.SV.u Go.IntKind.u64 w), ((((((((((((((((47 : Nat), Go.Eng.SV.u Go.IntKind.i64 t).fst, Go.Eng.SV.u Go.IntKind.i64 t).fst, Go.Eng.SV.u Go.IntKind.i64 t).fst, Go.Eng.SV.u Go.IntKind.i64 t).fst, Go.Eng.SV.u Go.IntKind.i64 t).fst, Go.Eng.SV.u Go.IntKind.i64 t).fst, Go.Eng.SV.u Go.IntKind.i64 t).fst, Go.Eng.SV.u Go.IntKind.i64 t).fst, Go.Eng.SV.u Go.IntKind.i64 t).fst, Go.Eng.SV.u Go.IntKind.i64 t).fst, Go.Eng.SV.u Go.IntKind.i64 t).fst, Go.Eng.SV.u Go.IntKind.i64 t).fst, Go.Eng.SV.u Go.IntKind.i64 t).fst, Go.Eng.SV.u Go.IntKind.i64 t).fst, Go.Eng.SV.u Go.IntKind.i64 t), ((((((((((((((48 : Nat), Go.Eng.SV.u Go.IntKind.u64 (Go.Eng.B.kL.getD t (0 : Nat))).fst, Go.Eng.SV.u Go.IntKind.u64 (Go.Eng.B.kL.getD t (0 : Nat))).fst, Go.Eng.SV.u Go.IntKind.u64 (Go.Eng.B.kL.getD t (0 : Nat))).fst, Go.Eng.SV.u Go.IntKind.u64 (Go.Eng.B.kL.getD t (0 : Nat))).fst, Go.Eng.SV.u Go.IntKind.u64 (Go.Eng.B.kL.getD t (0 : Nat))).fst, Go.Eng.SV.u Go.IntKind.u64 (Go.Eng.B.kL.getD t (0 : Nat))).fst, Go.Eng.SV.u Go.IntKind.u64 (Go.Eng.B.kL.getD t (0 : Nat))).fst, Go.Eng.SV.u Go.IntKind.u64 (Go.Eng.B.kL.getD t (0 : Nat))).fst, Go.Eng.SV.u Go.IntKind.u64 (Go.Eng.B.kL.getD t (0 : Nat))).fst, Go.Eng.SV.u Go.IntKind.u64 (Go.Eng.B.kL.getD t (0 : Nat))).fst, Go.Eng.SV.u Go.IntKind.u64 (Go.Eng.B.kL.getD t (0 : Nat))).fst, Go.Eng.SV.u Go.IntKind.u64 (Go.Eng.B.kL.getD t (0 : Nat))).fst, Go.Eng.SV.u Go.IntKind.u64 (Go.Eng.B.kL.getD t (0 : Nat))), (((((((((((((((49 : Nat), Go.Eng.SV.u Go.IntKind.u64 p).fst, Go.Eng.SV.u Go.IntKind.u64 p).fst, Go.Eng.SV.u Go.IntKind.u64 p).fst, Go.Eng.SV.u Go.IntKind.u64 p).fst, Go.Eng.SV.u Go.IntKind.u64 p).fst, Go.Eng.SV.u Go.IntKind.u64 p).fst, Go.Eng.SV.u Go.IntKind.u64 p).fst, Go.Eng.SV.u Go.IntKind.u64 p).fst, Go.Eng.SV.u Go.IntKind.u64 p).fst, Go.Eng.SV.u Go.IntKind.u64 p).fst, Go.Eng.SV.u Go.IntKind.u64 p).fst, Go.Eng.SV.u Go.IntKind.u64 p).fst, Go.Eng.SV.u Go.IntKind.u64 p).fst, Go.Eng.SV.u Go.IntKind.u64 p), (((((((((((((50 : Nat), Go.Eng.SV.b (Go.Eng.B.cubV w (Go.Eng.B.kL.getD t (0 : Nat)) p)).fst, Go.Eng.SV.b (Go.Eng.B.cubV w (Go.Eng.B.kL.getD t (0 : Nat)) p)).fst, Go.Eng.SV.b (Go.Eng.B.cubV w (Go.Eng.B.kL.getD t (0 : Nat)) p)).fst, Go.Eng.SV.b (Go.Eng.B.cubV w (Go.Eng.B.kL.getD t (0 : Nat)) p)).fst, Go.Eng.SV.b (Go.Eng.B.cubV w (Go.Eng.B.kL.getD t (0 : Nat)) p)).fst, Go.Eng.SV.b (Go.Eng.B.cubV w (Go.Eng.B.kL.getD t (0 : Nat)) p)).fst, Go.Eng.SV.b (Go.Eng.B.cubV w (Go.Eng.B.kL.getD t (0 : Nat)) p)).fst, Go.Eng.SV.b (Go.Eng.B.cubV w (Go.Eng.B.kL.getD t (0 : Nat)) p)).fst, Go.Eng.SV.b (Go.Eng.B.cubV w (Go.Eng.B.kL.getD t (0 : Nat)) p)).fst, Go.Eng.SV.b (Go.Eng.B.cubV w (Go.Eng.B.kL.getD t (0 : Nat)) p)).fst, Go.Eng.SV.b (Go.Eng.B.cubV w (Go.Eng.B.kL.getD t (0 : Nat)) p)).fst, Go.Eng.SV.b (Go.Eng.B.cubV w (Go.Eng.B.kL.getD t (0 : Nat)) p)), ((51 : Nat), Go.Eng.SV.cb Bool.true), (((((((((((52 : Nat), Go.Eng.SV.sl Go.IntKind.u8 b).fst, Go.Eng.SV.sl Go.IntKind.u8 b).fst, Go.Eng.SV.sl Go.IntKind.u8 b).fst, Go.Eng.SV.sl Go.IntKind.u8 b).fst, Go.Eng.SV.sl Go.IntKind.u8 b).fst, Go.Eng.SV.sl Go.IntKind.u8 b).fst, Go.Eng.SV.sl Go.IntKind.u8 b).fst, Go.Eng.SV.sl Go.IntKind.u8 b).fst, Go.Eng.SV.sl Go.IntKind.u8 b).fst, Go.Eng.SV.sl Go.IntKind.u8 b), ((((((((((53 : Nat), Go.Eng.SV.u Go.IntKind.i64 b.length).fst, Go.Eng.SV.u Go.IntKind.i64 b.length).fst, Go.Eng.SV.u Go.IntKind.i64 b.length).fst, Go.Eng.SV.u Go.IntKind.i64 b.length).fst, Go.Eng.SV.u Go.IntKind.i64 b.length).fst, Go.Eng.SV.u Go.IntKind.i64 b.length).fst, Go.Eng.SV.u Go.IntKind.i64 b.length).fst, Go.Eng.SV.u Go.IntKind.i64 b.length).fst, Go.Eng.SV.u Go.IntKind.i64 b.length), (((((((((54 : Nat), Go.Eng.SV.b (Decidable.decide ((111 : Nat) < b.length))).fst, Go.Eng.SV.b (Decidable.decide ((111 : Nat) < b.length))).fst, Go.Eng.SV.b (Decidable.decide ((111 : Nat) < b.length))).fst, Go.Eng.SV.b (Decidable.decide ((111 : Nat) < b.length))).fst, Go.Eng.SV.b (Decidable.decide ((111 : Nat) < b.length))).fst, Go.Eng.SV.b (Decidable.decide ((111 : Nat) < b.length))).fst, Go.Eng.SV.b (Decidable.decide ((111 : Nat) < b.length))).fst, Go.Eng.SV.b (Decidable.decide ((111 : Nat) < b.length))), ((55 : Nat), Go.Eng.SV.cb Bool.false), (((((((56 : Nat), Go.Eng.SV.sl Go.IntKind.u8 b).fst, Go.Eng.SV.sl Go.IntKind.u8 b).fst, Go.Eng.SV.sl Go.IntKind.u8 b).fst, Go.Eng.SV.sl Go.IntKind.u8 b).fst, Go.Eng.SV.sl Go.IntKind.u8 b).fst, Go.Eng.SV.sl Go.IntKind.u8 b), (((((57 : Nat), Go.Eng.SV.sl Go.IntKind.u8 (h b)).fst, Go.Eng.SV.sl Go.IntKind.u8 (h b)).fst, Go.Eng.SV.sl Go.IntKind.u8 (h b)).fst, Go.Eng.SV.sl Go.IntKind.u8 (h b)), (((58 : Nat), Go.Eng.SV.str (h b)).fst, Go.Eng.SV.str (h b)), ((((((59 : Nat), Go.Eng.SV.sl Go.IntKind.u8 b).fst, Go.Eng.SV.sl Go.IntKind.u8 b).fst, Go.Eng.SV.sl Go.IntKind.u8 b).fst, Go.Eng.SV.sl Go.IntKind.u8 b).fst, Go.Eng.SV.sl Go.IntKind.u8 b), ((((60 : Nat), Go.Eng.SV.sl Go.IntKind.u8 (h b)).fst, Go.Eng.SV.sl Go.IntKind.u8 (h b)).fst, Go.Eng.SV.sl Go.IntKind.u8 (h b))] [] ((0 : Nat) + (4 : Nat) + (4 : Nat) + (4 : Nat) + (4 : Nat) + (4 : Nat) + (4 : Nat) + (4 : Nat) + (4 : Nat) + (4 : Nat) + (4 : Nat) + (4 : Nat) + (4 : Nat) + (4 : Nat) + (4 : Nat) + (4 : Nat)) (0 : Nat) = Go.Eng.St.mk (68 : Nat) [(((((((((((((((((0 : Nat), Go.Eng.SV.u Go.IntKind.i64 t).fst, Go.Eng.SV.u Go.IntKind.i64 t).fst, Go.Eng.SV.u Go.IntKind.i64 t).fst, Go.Eng.SV.u Go.IntKind.i64 t).fst, Go.Eng.SV.u Go.IntKind.i64 t).fst, Go.Eng.SV.u Go.IntKind.i64 t).fst, Go.Eng.SV.u Go.IntKind.i64 t).fst, Go.Eng.SV.u Go.IntKind.i64 t).fst, Go.Eng.SV.u Go.IntKind.i64 t).fst, Go.Eng.SV.u Go.IntKind.i64 t).fst, Go.Eng.SV.u Go.IntKind.i64 t).fst, Go.Eng.SV.u Go.IntKind.i64 t).fst, Go.Eng.SV.u Go.IntKind.i64 t).fst, Go.Eng.SV.u Go.IntKind.i64 t).fst, Go.Eng.SV.u Go.IntKind.i64 t).fst, Go.Eng.SV.u Go.IntKind.i64 t), (((((((((((((((((1 : Nat), Go.Eng.SV.sl Go.IntKind.u8 b).fst, Go.Eng.SV.sl Go.IntKind.u8 b).fst, Go.Eng.SV.sl Go.IntKind.u8 b).fst, Go.Eng.SV.sl Go.IntKind.u8 b).fst, Go.Eng.SV.sl Go.IntKind.u8 b).fst, Go.Eng.SV.sl Go.IntKind.u8 b).fst, Go.Eng.SV.sl Go.IntKind.u8 b).fst, Go.Eng.SV.sl Go.IntKind.u8 b).fst, Go.Eng.SV.sl Go.IntKind.u8 b).fst, Go.Eng.SV.sl Go.IntKind.u8 b).fst, Go.Eng.SV.sl Go.IntKind.u8 b).fst, Go.Eng.SV.sl Go.IntKind.u8 b).fst, Go.Eng.SV.sl Go.IntKind.u8 b).fst, Go.Eng.SV.sl Go.IntKind.u8 b).fst, Go.Eng.SV.sl Go.IntKind.u8 b).fst, Go.Eng.SV.sl Go.IntKind.u8 b), (((((((((((((((((5 : Nat), Go.Eng.SV.u Go.IntKind.u64 p).fst, Go.Eng.SV.u Go.IntKind.u64 p).fst, Go.Eng.SV.u Go.IntKind.u64 p).fst, Go.Eng.SV.u Go.IntKind.u64 p).fst, Go.Eng.SV.u Go.IntKind.u64 p).fst, Go.Eng.SV.u Go.IntKind.u64 p).fst, Go.Eng.SV.u Go.IntKind.u64 p).fst, Go.Eng.SV.u Go.IntKind.u64 p).fst, Go.Eng.SV.u Go.IntKind.u64 p).fst, Go.Eng.SV.u Go.IntKind.u64 p).fst, Go.Eng.SV.u Go.IntKind.u64 p).fst, Go.Eng.SV.u Go.IntKind.u64 p).fst, Go.Eng.SV.u Go.IntKind.u64 p).fst, Go.Eng.SV.u Go.IntKind.u64 p).fst, Go.Eng.SV.u Go.IntKind.u64 p).fst, Go.Eng.SV.u Go.IntKind.u64 p), (((((((((((((((((9 : Nat), Go.Eng.SV.u Go.IntKind.u64 w).fst, Go.Eng.SV.u Go.IntKind.u64 w).fst, Go.Eng.SV.u Go.IntKind.u64 w).fst, Go.Eng.SV.u Go.IntKind.u64 w).fst, Go.Eng.SV.u Go.IntKind.u64 w).fst, Go.Eng.SV.u Go.IntKind.u64 w).fst, Go.Eng.SV.u Go.IntKind.u64 w).fst, Go.Eng.SV.u Go.IntKind.u64 w).fst, Go.Eng.SV.u Go.IntKind.u64 w).fst, Go.Eng.SV.u Go.IntKind.u64 w).fst, Go.Eng.SV.u Go.IntKind.u64 w).fst, Go.Eng.SV.u Go.IntKind.u64 w).fst, Go.Eng.SV.u Go.IntKind.u64 w).fst, Go.Eng.SV.u Go.IntKind.u64 w).fst, Go.Eng.SV.u Go.IntKind.u64 w).fst, Go.Eng.SV.u Go.IntKind.u64 w), (((((((((((((((((46 : Nat), Go.Eng.SV.u Go.IntKind.u64 w).fst, Go.Eng.SV.u Go.IntKind.u64 w).fst, Go.Eng.SV.u Go.IntKind.u64 w).fst, Go.Eng.SV.u Go.IntKind.u64 w).fst, Go.Eng.SV.u Go.IntKind.u64 w).fst, Go.Eng.SV.u Go.IntKind.u64 w).fst, Go.Eng.SV.u Go.IntKind.u64 w).fst, Go.Eng.SV.u Go.IntKind.u64 w).fst, Go.Eng.SV.u Go.IntKind.u64 w).fst, Go.Eng.SV.u Go.IntKind.u64 w).fst, Go.Eng.SV.u Go.IntKind.u64 w).fst, Go.Eng.SV.u Go.IntKind.u64 w).fst, Go.Eng.SV.u Go.IntKind.u64 w).fst, Go.Eng.SV.u Go.IntKind.u64 w).fst, Go.Eng.SV.u Go.IntKind.u64 w).fst, Go.Eng.SV.u Go.IntKind.u64 w), ((((((((((((((((47 : Nat), Go.Eng.SV.u Go.IntKind.i64 t).fst, Go.Eng.SV.u Go.IntKind.i64 t).fst, Go.Eng.SV.u Go.IntKind.i64 t).fst, Go.Eng.SV.u Go.IntKind.i64 t).fst, Go.Eng.SV.u Go.IntKind.i64 t).fst, Go.Eng.SV.u Go.IntKind.i64 t).fst, Go.Eng.SV.u Go.IntKind.i64 t).fst, Go.Eng.SV.u Go.IntKind.i64 t).fst, Go.Eng.SV.u Go.IntKind.i64 t).fst, Go.Eng.SV.u Go.IntKind.i64 t).fst, Go.Eng.SV.u Go.IntKind.i64 t).fst, Go.Eng.SV.u Go.IntKind.i64 t).fst, Go.Eng.SV.u Go.IntKind.i64 t).fst, Go.Eng.SV.u Go.IntKind.i64 t).fst, Go.Eng.SV.u Go.IntKind.i64 t), ((((((((((((((48 : Nat), Go.Eng.SV.u Go.IntKind.u64 (Go.Eng.B.kL.getD t (0 : Nat))).fst, Go.Eng.SV.u Go.IntKind.u64 (Go.Eng.B.kL.getD t (0 : Nat))).fst, Go.Eng.SV.u Go.IntKind.u64 (Go.Eng.B.kL.getD t (0 : Nat))).fst, Go.Eng.SV.u Go.IntKind.u64 (Go.Eng.B.kL.getD t (0 : Nat))).fst, Go.Eng.SV.u Go.IntKind.u64 (Go.Eng.B.kL.getD t (0 : Nat))).fst, Go.Eng.SV.u Go.IntKind.u64 (Go.Eng.B.kL.getD t (0 : Nat))).fst, Go.Eng.SV.u Go.IntKind.u64 (Go.Eng.B.kL.getD t (0 : Nat))).fst, Go.Eng.SV.u Go.IntKind.u64 (Go.Eng.B.kL.getD t (0 : Nat))).fst, Go.Eng.SV.u Go.IntKind.u64 (Go.Eng.B.kL.getD t (0 : Nat))).fst, Go.Eng.SV.u Go.IntKind.u64 (Go.Eng.B.kL.getD t (0 : Nat))).fst, Go.Eng.SV.u Go.IntKind.u64 (Go.Eng.B.kL.getD t (0 : Nat))).fst, Go.Eng.SV.u Go.IntKind.u64 (Go.Eng.B.kL.getD t (0 : Nat))).fst, Go.Eng.SV.u Go.IntKind.u64 (Go.Eng.B.kL.getD t (0 : Nat))), (((((((((((((((49 : Nat), Go.Eng.SV.u Go.IntKind.u64 p).fst, Go.Eng.SV.u Go.IntKind.u64 p).fst, Go.Eng.SV.u Go.IntKind.u64 p).fst, Go.Eng.SV.u Go.IntKind.u64 p).fst, Go.Eng.SV.u Go.IntKind.u64 p).fst, Go.Eng.SV.u Go.IntKind.u64 p).fst, Go.Eng.SV.u Go.IntKind.u64 p).fst, Go.Eng.SV.u Go.IntKind.u64 p).fst, Go.Eng.SV.u Go.IntKind.u64 p).fst, Go.Eng.SV.u Go.IntKind.u64 p).fst, Go.Eng.SV.u Go.IntKind.u64 p).fst, Go.Eng.SV.u Go.IntKind.u64 p).fst, Go.Eng.SV.u Go.IntKind.u64 p).fst, Go.Eng.SV.u Go.IntKind.u64 p), (((((((((((((50 : Nat), Go.Eng.SV.b (Go.Eng.B.cubV w (Go.Eng.B.kL.getD t (0 : Nat)) p)).fst, Go.Eng.SV.b (Go.Eng.B.cubV w (Go.Eng.B.kL.getD t (0 : Nat)) p)).fst, Go.Eng.SV.b (Go.Eng.B.cubV w (Go.Eng.B.kL.getD t (0 : Nat)) p)).fst, Go.Eng.SV.b (Go.Eng.B.cubV w (Go.Eng.B.kL.getD t (0 : Nat)) p)).fst, Go.Eng.SV.b (Go.Eng.B.cubV w (Go.Eng.B.kL.getD t (0 : Nat)) p)).fst, Go.Eng.SV.b (Go.Eng.B.cubV w (Go.Eng.B.kL.getD t (0 : Nat)) p)).fst, Go.Eng.SV.b (Go.Eng.B.cubV w (Go.Eng.B.kL.getD t (0 : Nat)) p)).fst, Go.Eng.SV.b (Go.Eng.B.cubV w (Go.Eng.B.kL.getD t (0 : Nat)) p)).fst, Go.Eng.SV.b (Go.Eng.B.cubV w (Go.Eng.B.kL.getD t (0 : Nat)) p)).fst, Go.Eng.SV.b (Go.Eng.B.cubV w (Go.Eng.B.kL.getD t (0 : Nat)) p)).fst, Go.Eng.SV.b (Go.Eng.B.cubV w (Go.Eng.B.kL.getD t (0 : Nat)) p)).fst, Go.Eng.SV.b (Go.Eng.B.cubV w (Go.Eng.B.kL.getD t (0 : Nat)) p)), ((51 : Nat), Go.Eng.SV.cb Bool.true), (((((((((((52 : Nat), Go.Eng.SV.sl Go.IntKind.u8 b).fst, Go.Eng.SV.sl Go.IntKind.u8 b).fst, Go.Eng.SV.sl Go.IntKind.u8 b).fst, Go.Eng.SV.sl Go.IntKind.u8 b).fst, Go.Eng.SV.sl Go.IntKind.u8 b).fst, Go.Eng.SV.sl Go.IntKind.u8 b).fst, Go.Eng.SV.sl Go.IntKind.u8 b).fst, Go.Eng.SV.sl Go.IntKind.u8 b).fst, Go.Eng.SV.sl Go.IntKind.u8 b).fst, Go.Eng.SV.sl Go.IntKind.u8 b), ((((((((((53 : Nat), Go.Eng.SV.u Go.IntKind.i64 b.length).fst, Go.Eng.SV.u Go.IntKind.i64 b.length).fst, Go.Eng.SV.u Go.IntKind.i64 b.length).fst, Go.Eng.SV.u Go.IntKind.i64 b.length).fst, Go.Eng.SV.u Go.IntKind.i64 b.length).fst, Go.Eng.SV.u Go.IntKind.i64 b.length).fst, Go.Eng.SV.u Go.IntKind.i64 b.length).fst, Go.Eng.SV.u Go.IntKind.i64 b.length).fst, Go.Eng.SV.u Go.IntKind.i64 b.length), (((((((((54 : Nat), Go.Eng.SV.b (Decidable.decide ((111 : Nat) < b.length))).fst, Go.Eng.SV.b (Decidable.decide ((111 : Nat) < b.length))).fst, Go.Eng.SV.b (Decidable.decide ((111 : Nat) < b.length))).fst, Go.Eng.SV.b (Decidable.decide ((111 : Nat) < b.length))).fst, Go.Eng.SV.b (Decidable.decide ((111 : Nat) < b.length))).fst, Go.Eng.SV.b (Decidable.decide ((111 : Nat) < b.length))).fst, Go.Eng.SV.b (Decidable.decide ((111 : Nat) < b.length))).fst, Go.Eng.SV.b (Decidable.decide ((111 : Nat) < b.length))), ((55 : Nat), Go.Eng.SV.cb Bool.false), (((((((56 : Nat), Go.Eng.SV.sl Go.IntKind.u8 b).fst, Go.Eng.SV.sl Go.IntKind.u8 b).fst, Go.Eng.SV.sl Go.IntKind.u8 b).fst, Go.Eng.SV.sl Go.IntKind.u8 b).fst, Go.Eng.SV.sl Go.IntKind.u8 b).fst, Go.Eng.SV.sl Go.IntKind.u8 b), (((((57 : Nat), Go.Eng.SV.sl Go.IntKind.u8 (h b)).fst, Go.Eng.SV.sl Go.IntKind.u8 (h b)).fst, Go.Eng.SV.sl Go.IntKind.u8 (h b)).fst, Go.Eng.SV.sl Go.IntKind.u8 (h b)), ((((58 : Nat), Go.Eng.SV.str (h b)).fst, Go.Eng.SV.str (h b)).fst, Go.Eng.SV.str (h b)), ((((((59 : Nat), Go.Eng.SV.sl Go.IntKind.u8 b).fst, Go.Eng.SV.sl Go.IntKind.u8 b).fst, Go.Eng.SV.sl Go.IntKind.u8 b).fst, Go.Eng.SV.sl Go.IntKind.u8 b).fst, Go.Eng.SV.sl Go.IntKind.u8 b), (((60 : Nat), Go.Eng.SV.sl Go.IntKind.u8 (h b)).fst, Go.Eng.SV.sl Go.IntKind.u8 (h b))] [] ((0 : Nat) + (4 : Nat) + (4 : Nat) + (4 : Nat) + (4 : Nat) + (4 : Nat) + (4 : Nat) + (4 : Nat) + (4 : Nat) + (4 : Nat) + (4 : Nat) + (4 : Nat) + (4 : Nat) + (4 : Nat) + (4 : Nat) + (4 : Nat)) (0 : Nat), Go.Eng.St.mk (68 : Nat) [((((((((((((((((((0 : Nat), Go.Eng.SV.u Go.IntKind.i64 t).fst, Go.Eng.SV.u Go.IntKind.i64 t).fst, Go.Eng.SV.u Go.IntKind.i64 t).fst, Go.Eng.SV.u Go.IntKind.i64 t).fst, Go.Eng.SV.u Go.IntKind.i64 t).fst, Go.Eng.SV.u Go.IntKind.i64 t).fst, Go.Eng.SV.u Go.IntKind.i64 t).fst, Go.Eng.SV.u Go.IntKind.i64 t).fst, Go.Eng.SV.u Go.IntKind.i64 t).fst, Go.Eng.SV.u Go.IntKind.i64 t).fst, Go.Eng.SV.u Go.IntKind.i64 t).fst, Go.Eng.SV.u Go.IntKind.i64 t).fst, Go.Eng.SV.u Go.IntKind.i64 t).fst, Go.Eng.SV.u Go.IntKind.i64 t).fst, Go.Eng.SV.u Go.IntKind.i64 t).fst, Go.Eng.SV.u Go.IntKind.i64 t).fst, Go.Eng.SV.u Go.IntKind.i64 t), ((((((((((((((((((1 : Nat), Go.Eng.SV.sl Go.IntKind.u8 b).fst, Go.Eng.SV.sl Go.IntKind.u8 b).fst, Go.Eng.SV.sl Go.IntKind.u8 b).fst, Go.Eng.SV.sl Go.IntKind.u8 b).fst, Go.Eng.SV.sl Go.IntKind.u8 b).fst, Go.Eng.SV.sl Go.IntKind.u8 b).fst, Go.Eng.SV.sl Go.IntKind.u8 b).fst, Go.Eng.SV.sl Go.IntKind.u8 b).fst, Go.Eng.SV.sl Go.IntKind.u8 b).fst, Go.Eng.SV.sl Go.IntKind.u8 b).fst, Go.Eng.SV.sl Go.IntKind.u8 b).fst, Go.Eng.SV.sl Go.IntKind.u8 b).fst, Go.Eng.SV.sl Go.IntKind.u8 b).fst, Go.Eng.SV.sl Go.IntKind.u8 b).fst, Go.Eng.SV.sl Go.IntKind.u8 b).fst, Go.Eng.SV.sl Go.IntKind.u8 b).fst, Go.Eng.SV.sl Go.IntKind.u8 b), ((((((((((((((((((5 : Nat), Go.Eng.SV.u Go.IntKind.u64 p).fst, Go.Eng.SV.u Go.IntKind.u64 p).fst, Go.Eng.SV.u Go.IntKind.u64 p).fst, Go.Eng.SV.u Go.IntKind.u64 p).fst, Go.Eng.SV.u Go.IntKind.u64 p).fst, Go.Eng.SV.u Go.IntKind.u64 p).fst, Go.Eng.SV.u Go.IntKind.u64 p).fst, Go.Eng.SV.u Go.IntKind.u64 p).fst, Go.Eng.SV.u Go.IntKind.u64 p).fst, Go.Eng.SV.u Go.IntKind.u64 p).fst, Go.Eng.SV.u Go.IntKind.u64 p).fst, Go.Eng.SV.u Go.IntKind.u64 p).fst, Go.Eng.SV.u Go.IntKind.u64 p).fst, Go.Eng.SV.u Go.IntKind.u64 p).fst, Go.Eng.SV.u Go.IntKind.u64 p).fst, Go.Eng.SV.u Go.IntKind.u64 p).fst, Go.Eng.SV.u Go.IntKind.u64 p), ((((((((((((((((((9 : Nat), Go.Eng.SV.u Go.IntKind.u64 w).fst, Go.Eng.SV.u Go.IntKind.u64 w).fst, Go.Eng.SV.u Go.IntKind.u64 w).fst, Go.Eng.SV.u Go.IntKind.u64 w).fst, Go.Eng.SV.u Go.IntKind.u64 w).fst, Go.Eng.SV.u Go.IntKind.u64 w).fst, Go.Eng.SV.u Go.IntKind.u64 w).fst, Go.Eng.SV.u Go.IntKind.u64 w).fst, Go.Eng.SV.u Go.IntKind.u64 w).fst, Go.Eng.SV.u Go.IntKind.u64 w).fst, Go.Eng.SV.u Go.IntKind.u64 w).fst, Go.Eng.SV.u Go.IntKind.u64 w).fst, Go.Eng.SV.u Go.IntKind.u64 w).fst, Go.Eng.SV.u Go.IntKind.u64 w).fst, Go.Eng.SV.u Go.IntKind.u64 w).fst, Go.Eng.SV.u Go.IntKind.u64 w).fst, Go.Eng.SV.u Go.IntKind.u64 w), ((((((((((((((((((46 : Nat), Go.Eng.SV.u Go.IntKind.u64 w).fst, Go.Eng.SV.u Go.IntKind.u64 w).fst, Go.Eng.SV.u Go.IntKind.u64 w).fst, Go.Eng.SV.u Go.IntKind.u64 w).fst, Go.Eng.SV.u Go.IntKind.u64 w).fst, Go.Eng.SV.u Go.IntKind.u64 w).fst, Go.Eng.SV.u Go.IntKind.u64 w).fst, Go.Eng.SV.u Go.IntKind.u64 w).fst, Go.Eng.SV.u Go.IntKind.u64 w).fst, Go.Eng.SV.u Go.IntKind.u64 w).fst, Go.Eng.SV.u Go.IntKind.u64 w).fst, Go.Eng.SV.u Go.IntKind.u64 w).fst, Go.Eng.SV.u Go.IntKind.u64 w).fst, Go.Eng.SV.u Go.IntKind.u64 w).fst, Go.Eng.SV.u Go.IntKind.u64 w).fst, Go.Eng.SV.u Go.IntKind.u64 w).fst, Go.Eng.SV.u Go.IntKind.u64 w), (((((((((((((((((47 : Nat), Go.Eng.SV.u Go.IntKind.i64 t).fst, Go.Eng.SV.u Go.IntKind.i64 t).fst, Go.Eng.SV.u Go.IntKind.i64 t).fst, Go.Eng.SV.u Go.IntKind.i64 t).fst, Go.Eng.SV.u Go.IntKind.i64 t).fst, Go.Eng.SV.u Go.IntKind.i64 t).fst, Go.Eng.SV.u Go.IntKind.i64 t).fst, Go.Eng.SV.u Go.IntKind.i64 t).fst, Go.Eng.SV.u Go.IntKind.i64 t).fst, Go.Eng.SV.u Go.IntKind.i64 t).fst, Go.Eng.SV.u Go.IntKind.i64 t).fst, Go.Eng.SV.u Go.IntKind.i64 t).fst, Go.Eng.SV.u Go.IntKind.i64 t).fst, Go.Eng.SV.u Go.IntKind.i64 t).fst, Go.Eng.SV.u Go.IntKind.i64 t).fst, Go.Eng.SV.u Go.IntKind.i64 t), (((((((((((((((48 : Nat), Go.Eng.SV.u Go.IntKind.u64 (Go.Eng.B.kL.getD t (0 : Nat))).fst, Go.Eng.SV.u Go.IntKind.u64 (Go.Eng.B.kL.getD t (0 : Nat))).fst, Go.Eng.SV.u Go.IntKind.u64 (Go.Eng.B.kL.getD t (0 : Nat))).fst, Go.Eng.SV.u Go.IntKind.u64 (Go.Eng.B.kL.getD t (0 : Nat))).fst, Go.Eng.SV.u Go.IntKind.u64 (Go.Eng.B.kL.getD t (0 : Nat))).fst, Go.Eng.SV.u Go.IntKind.u64 (Go.Eng.B.kL.getD t (0 : Nat))).fst, Go.Eng.SV.u Go.IntKind.u64 (Go.Eng.B.kL.getD t (0 : Nat))).fst, Go.Eng.SV.u Go.IntKind.u64 (Go.Eng.B.kL.getD t (0 : Nat))).fst, Go.Eng.SV.u Go.IntKind.u64 (Go.Eng.B.kL.getD t (0 : Nat))).fst, Go.Eng.SV.u Go.IntKind.u64 (Go.Eng.B.kL.getD t (0 : Nat))).fst, Go.Eng.SV.u Go.IntKind.u64 (Go.Eng.B.kL.getD t (0 : Nat))).fst, Go.Eng.SV.u Go.IntKind.u64 (Go.Eng.B.kL.getD t (0 : Nat))).fst, Go.Eng.SV.u Go.IntKind.u64 (Go.Eng.B.kL.getD t (0 : Nat))).fst, Go.Eng.SV.u Go.IntKind.u64 (Go.Eng.B.kL.getD t (0 : Nat))), ((((((((((((((((49 : Nat), Go.Eng.SV.u Go.IntKind.u64 p).fst, Go.Eng.SV.u Go.IntKind.u64 p).fst, Go.Eng.SV.u Go.IntKind.u64 p).fst, Go.Eng.SV.u Go.IntKind.u64 p).fst, Go.Eng.SV.u Go.IntKind.u64 p).fst, Go.Eng.SV.u Go.IntKind.u64 p).fst, Go.Eng.SV.u Go.IntKind.u64 p).fst, Go.Eng.SV.u Go.IntKind.u64 p).fst, Go.Eng.SV.u Go.IntKind.u64 p).fst, Go.Eng.SV.u Go.IntKind.u64 p).fst, Go.Eng.SV.u Go.IntKind.u64 p).fst, Go.Eng.SV.u Go.IntKind.u64 p).fst, Go.Eng.SV.u Go.IntKind.u64 p).fst, Go.Eng.SV.u Go.IntKind.u64 p).fst, Go.Eng.SV.u Go.IntKind.u64 p), ((((((((((((((50 : Nat), Go.Eng.SV.b (Go.Eng.B.cubV w (Go.Eng.B.kL.getD t (0 : Nat)) p)).fst, Go.Eng.SV.b (Go.Eng.B.cubV w (Go.Eng.B.kL.getD t (0 : Nat)) p)).fst, Go.Eng.SV.b (Go.Eng.B.cubV w (Go.Eng.B.kL.getD t (0 : Nat)) p)).fst, Go.Eng.SV.b (Go.Eng.B.cubV w (Go.Eng.B.kL.getD t (0 : Nat)) p)).fst, Go.Eng.SV.b (Go.Eng.B.cubV w (Go.Eng.B.kL.getD t (0 : Nat)) p)).fst, Go.Eng.SV.b (Go.Eng.B.cubV w (Go.Eng.B.kL.getD t (0 : Nat)) p)).fst, Go.Eng.SV.b (Go.Eng.B.cubV w (Go.Eng.B.kL.getD t (0 : Nat)) p)).fst, Go.Eng.SV.b (Go.Eng.B.cubV w (Go.Eng.B.kL.getD t (0 : Nat)) p)).fst, Go.Eng.SV.b (Go.Eng.B.cubV w (Go.Eng.B.kL.getD t (0 : Nat)) p)).fst, Go.Eng.SV.b (Go.Eng.B.cubV w (Go.Eng.B.kL.getD t (0 : Nat)) p)).fst, Go.Eng.SV.b (Go.Eng.B.cubV w (Go.Eng.B.kL.getD t (0 : Nat)) p)).fst, Go.Eng.SV.b (Go.Eng.B.cubV w (Go.Eng.B.kL.getD t (0 : Nat)) p)).fst, Go.Eng.SV.b (Go.Eng.B.cubV w (Go.Eng.B.kL.getD t (0 : Nat)) p)), ((51 : Nat), Go.Eng.SV.cb Bool.true), ((((((((((((52 : Nat), Go.Eng.SV.sl Go.IntKind.u8 b).fst, Go.Eng.SV.sl Go.IntKind.u8 b).fst, Go.Eng.SV.sl Go.IntKind.u8 b).fst, Go.Eng.SV.sl Go.IntKind.u8 b).fst, Go.Eng.SV.sl Go.IntKind.u8 b).fst, Go.Eng.SV.sl Go.IntKind.u8 b).fst, Go.Eng.SV.sl Go.IntKind.u8 b).fst, Go.Eng.SV.sl Go.IntKind.u8 b).fst, Go.Eng.SV.sl Go.IntKind.u8 b).fst, Go.Eng.SV.sl Go.IntKind.u8 b).fst, Go.Eng.SV.sl Go.IntKind.u8 b), (((((((((((53 : Nat), Go.Eng.SV.u Go.IntKind.i64 b.length).fst, Go.Eng.SV.u Go.IntKind.i64 b.length).fst, Go.Eng.SV.u Go.IntKind.i64 b.length).fst, Go.Eng.SV.u Go.IntKind.i64 b.length).fst, Go.Eng.SV.u Go.IntKind.i64 b.length).fst, Go.Eng.SV.u Go.IntKind.i64 b.length).fst, Go.Eng.SV.u Go.IntKind.i64 b.length).fst, Go.Eng.SV.u Go.IntKind.i64 b.length).fst, Go.Eng.SV.u Go.IntKind.i64 b.length).fst, Go.Eng.SV.u Go.IntKind.i64 b.length), ((((((((((54 : Nat), Go.Eng.SV.b (Decidable.decide ((111 : Nat) < b.length))).fst, Go.Eng.SV.b (Decidable.decide ((111 : Nat) < b.length))).fst, Go.Eng.SV.b (Decidable.decide ((111 : Nat) < b.length))).fst, Go.Eng.SV.b (Decidable.decide ((111 : Nat) < b.length))).fst, Go.Eng.SV.b (Decidable.decide ((111 : Nat) < b.length))).fst, Go.Eng.SV.b (Decidable.decide ((111 : Nat) < b.length))).fst, Go.Eng.SV.b (Decidable.decide ((111 : Nat) < b.length))).fst, Go.Eng.SV.b (Decidable.decide ((111 : Nat) < b.length))).fst, Go.Eng.SV.b (Decidable.decide ((111 : Nat) < b.length))), ((55 : Nat), Go.Eng.SV.cb Bool.false), ((((((((56 : Nat), Go.Eng.SV.sl Go.IntKind.u8 b).fst, Go.Eng.SV.sl Go.IntKind.u8 b).fst, Go.Eng.SV.sl Go.IntKind.u8 b).fst, Go.Eng.SV.sl Go.IntKind.u8 b).fst, Go.Eng.SV.sl Go.IntKind.u8 b).fst, Go.Eng.SV.sl Go.IntKind.u8 b).fst, Go.Eng.SV.sl Go.IntKind.u8 b), ((((((57 : Nat), Go.Eng.SV.sl Go.IntKind.u8 (h b)).fst, Go.Eng.SV.sl Go.IntKind.u8 (h b)).fst, Go.Eng.SV.sl Go.IntKind.u8 (h b)).fst, Go.Eng.SV.sl Go.IntKind.u8 (h b)).fst, Go.Eng.SV.sl Go.IntKind.u8 (h b)), (((((58 : Nat), Go.Eng.SV.str (h b)).fst, Go.Eng.SV.str (h b)).fst, Go.Eng.SV.str (h b)).fst, Go.Eng.SV.str (h b)), (((((((59 : Nat), Go.Eng.SV.sl Go.IntKind.u8 b).fst, Go.Eng.SV.sl Go.IntKind.u8 b).fst, Go.Eng.SV.sl Go.IntKind.u8 b).fst, Go.Eng.SV.sl Go.IntKind.u8 b).fst, Go.Eng.SV.sl Go.IntKind.u8 b).fst, Go.Eng.SV.sl Go.IntKind.u8 b), ((((60 : Nat), Go.Eng.SV.sl Go.IntKind.u8 (h b)).fst, Go.Eng.SV.sl Go.IntKind.u8 (h b)).fst, Go.Eng.SV.sl Go.IntKind.u8 (h b)), (((61 : Nat), Go.Eng.SV.str (h b)).fst, Go.Eng.SV.str (h b))] [] ((0 : Nat) + (4 : Nat) + (4 : Nat) + (4 : Nat) + (4 : Nat) + (4 : Nat) + (4 : Nat) + (4 : Nat) + (4 : Nat) + (4 : Nat) + (4 : Nat) + (4 : Nat) + (4 : Nat) + (4 : Nat) + (4 : Nat) + (4 : Nat) + (4 : Nat)) (0 : Nat) = Go.Eng.St.mk (68 : Nat) [((((((((((((((((((0 : Nat), Go.Eng.SV.u Go.IntKind.i64 t).fst, Go.Eng.SV.u Go.IntKind.i64 t).fst, Go.Eng.SV.u Go.IntKind.i64 t).fst, Go.Eng.SV.u Go.IntKind.i64 t).fst, Go.Eng.SV.u Go.IntKind.i64 t).fst, Go.Eng.SV.u Go.IntKind.i64 t).fst, Go.Eng.SV.u Go.IntKind.i64 t).fst, Go.Eng.SV.u Go.IntKind.i64 t).fst, Go.Eng.SV.u Go.IntKind.i64 t).fst, Go.Eng.SV.u Go.IntKind.i64 t).fst, Go.Eng.SV.u Go.IntKind.i64 t).fst, Go.Eng.SV.u Go.IntKind.i64 t).fst, Go.Eng.SV.u Go.IntKind.i64 t).fst, Go.Eng.SV.u Go.IntKind.i64 t).fst, Go.Eng.SV.u Go.IntKind.i64 t).fst, Go.Eng.SV.u Go.IntKind.i64 t).fst, Go.Eng.SV.u Go.IntKind.i64 t), ((((((((((((((((((1 : Nat), Go.Eng.SV.sl Go.IntKind.u8 b).fst, Go.Eng.SV.sl Go.IntKind.u8 b).fst, Go.Eng.SV.sl Go.IntKind.u8 b).fst, Go.Eng.SV.sl Go.IntKind.u8 b).fst, Go.Eng.SV.sl Go.IntKind.u8 b).fst, Go.Eng.SV.sl Go.IntKind.u8 b).fst, Go.Eng.SV.sl Go.IntKind.u8 b).fst, Go.Eng.SV.sl Go.IntKind.u8 b).fst, Go.Eng.SV.sl Go.IntKind.u8 b).fst, Go.Eng.SV.sl Go.IntKind.u8 b).fst, Go.Eng.SV.sl Go.IntKind.u8 b).fst, Go.Eng.SV.sl Go.IntKind.u8 b).fst, Go.Eng.SV.sl Go.IntKind.u8 b).fst, Go.Eng.SV.sl Go.IntKind.u8 b).fst, Go.Eng.SV.sl Go.IntKind.u8 b).fst, Go.Eng.SV.sl Go.IntKind.u8 b).fst, Go.Eng.SV.sl Go.IntKind.u8 b), ((((((((((((((((((5 : Nat), Go.Eng.SV.u Go.IntKind.u64 p).fst, Go.Eng.SV.u Go.IntKind.u64 p).fst, Go.Eng.SV.u Go.IntKind.u64 p).fst, Go.Eng.SV.u Go.IntKind.u64 p).fst, Go.Eng.SV.u Go.IntKind.u64 p).fst, Go.Eng.SV.u Go.IntKind.u64 p).fst, Go.Eng.SV.u Go.IntKind.u64 p).fst, Go.Eng.SV.u Go.IntKind.u64 p).fst, Go.Eng.SV.u Go.IntKind.u64 p).fst, Go.Eng.SV.u Go.IntKind.u64 p).fst, Go.Eng.SV.u Go.IntKind.u64 p).fst, Go.Eng.SV.u Go.IntKind.u64 p).fst, Go.Eng.SV.u Go.IntKind.u64 p).fst, Go.Eng.SV.u Go.IntKind.u64 p).fst, Go.Eng.SV.u Go.IntKind.u64 p).fst, Go.Eng.SV.u Go.IntKind.u64 p).fst, Go.Eng.SV.u Go.IntKind.u64 p), ((((((((((((((((((9 : Nat), Go.Eng.SV.u Go.IntKind.u64 w).fst, Go.Eng.SV.u Go.IntKind.u64 w).fst, Go.Eng.SV.u Go.IntKind.u64 w).fst, Go.Eng.SV.u Go.IntKind.u64 w).fst, Go.Eng.SV.u Go.IntKind.u64 w).fst, Go.Eng.SV.u Go.IntKind.u64 w).fst, Go.Eng.SV.u Go.IntKind.u64 w).fst, Go.Eng.SV.u Go.IntKind.u64 w).fst, Go.Eng.SV.u Go.IntKind.u64 w).fst, Go.Eng.SV.u Go.IntKind.u64 w).fst, Go.Eng.SV.u Go.IntKind.u64 w).fst, Go.Eng.SV.u Go.IntKind.u64 w).fst, Go.Eng.SV.u Go.IntKind.u64 w).fst, Go.Eng.SV.u Go.IntKind.u64 w).fst, Go.Eng.SV.u Go.IntKind.u64 w).fst, Go.Eng.SV.u Go.IntKind.u64 w).fst, Go.Eng.SV.u Go.IntKind.u64 w), ((((((((((((((((((46 : Nat), Go.Eng.SV.u Go.IntKind.u64 w).fst, Go.Eng.SV.u Go.IntKind.u64 w).fst, Go.Eng.SV.u Go.IntKind.u64 w).fst, Go.Eng.SV.u Go.IntKind.u64 w).fst, Go.Eng.SV.u Go.IntKind.u64 w).fst, Go.Eng.SV.u Go.IntKind.u64 w).fst, Go.Eng.SV.u Go.IntKind.u64 w).fst, Go.Eng.SV.u Go.IntKind.u64 w).fst, Go.Eng.SV.u Go.IntKind.u64 w).fst, Go.Eng.SV.u Go.IntKind.u64 w).fst, Go.Eng.SV.u Go.IntKind.u64 w).fst, Go.Eng.SV.u Go.IntKind.u64 w).fst, Go.Eng.SV.u Go.IntKind.u64 w).fst, Go.Eng.SV.u Go.IntKind.u64 w).fst, Go.Eng.SV.u Go.IntKind.u64 w).fst, Go.Eng.SV.u Go.IntKind.u64 w).fst, Go.Eng.SV.u Go.IntKind.u64 w), (((((((((((((((((47 : Nat), Go.Eng.SV.u Go.IntKind.i64 t).fst, Go.Eng.SV.u Go.IntKind.i64 t).fst, Go.Eng.SV.u Go.IntKind.i64 t).fst, Go.Eng.SV.u Go.IntKind.i64 t).fst, Go.Eng.SV.u Go.IntKind.i64 t).fst, Go.Eng.SV.u Go.IntKind.i64 t).fst, Go.Eng.SV.u Go.IntKind.i64 t).fst, Go.Eng.SV.u Go.IntKind.i64 t).fst, Go.Eng.SV.u Go.IntKind.i64 t).fst, Go.Eng.SV.u Go.IntKind.i64 t).fst, Go.Eng.SV.u Go.IntKind.i64 t).fst, Go.Eng.SV.u Go.IntKind.i64 t).fst, Go.Eng.SV.u Go.IntKind.i64 t).fst, Go.Eng.SV.u Go.IntKind.i64 t).fst, Go.Eng.SV.u Go.IntKind.i64 t).fst, Go.Eng.SV.u Go.IntKind.i64 t), (((((((((((((((48 : Nat), Go.Eng.SV.u Go.IntKind.u64 (Go.Eng.B.kL.getD t (0 : Nat))).fst, Go.Eng.SV.u Go.IntKind.u64 (Go.Eng.B.kL.getD t (0 : Nat))).fst, Go.Eng.SV.u Go.IntKind.u64 (Go.Eng.B.kL.getD t (0 : Nat))).fst, Go.Eng.SV.u Go.IntKind.u64 (Go.Eng.B.kL.getD t (0 : Nat))).fst, Go.Eng.SV.u Go.IntKind.u64 (Go.Eng.B.kL.getD t (0 : Nat))).fst, Go.Eng.SV.u Go.IntKind.u64 (Go.Eng.B.kL.getD t (0 : Nat))).fst, Go.Eng.SV.u Go.IntKind.u64 (Go.Eng.B.kL.getD t (0 : Nat))).fst, Go.Eng.SV.u Go.IntKind.u64 (Go.Eng.B.kL.getD t (0 : Nat))).fst, Go.Eng.SV.u Go.IntKind.u64 (Go.Eng.B.kL.getD t (0 : Nat))).fst, Go.Eng.SV.u Go.IntKind.u64 (Go.Eng.B.kL.getD t (0 : Nat))).fst, Go.Eng.SV.u Go.IntKind.u64 (Go.Eng.B.kL.getD t (0 : Nat))).fst, Go.Eng.SV.u Go.IntKind.u64 (Go.Eng.B.kL.getD t (0 : Nat))).fst, Go.Eng.SV.u Go.IntKind.u64 (Go.Eng.B.kL.getD t (0 : Nat))).fst, Go.Eng.SV.u Go.IntKind.u64 (Go.Eng.B.kL.getD t (0 : Nat))), ((((((((((((((((49 : Nat), Go.Eng.SV.u Go.IntKind.u64 p).fst, Go.Eng.SV.u Go.IntKind.u64 p).fst, Go.Eng.SV.u Go.IntKind.u64 p).fst, Go.Eng.SV.u Go.IntKind.u64 p).fst, Go.Eng.SV.u Go.IntKind.u64 p).fst, Go.Eng.SV.u Go.IntKind.u64 p).fst, Go.Eng.SV.u Go.IntKind.u64 p).fst, Go.Eng.SV.u Go.IntKind.u64 p).fst, Go.Eng.SV.u Go.IntKind.u64 p).fst, Go.Eng.SV.u Go.IntKind.u64 p).fst, Go.Eng.SV.u Go.IntKind.u64 p).fst, Go.Eng.SV.u Go.IntKind.u64 p).fst, Go.Eng.SV.u Go.IntKind.u64 p).fst, Go.Eng.SV.u Go.IntKind.u64 p).fst, Go.Eng.SV.u Go.IntKind.u64 p), ((((((((((((((50 : Nat), Go.Eng.SV.b (Go.Eng.B.cubV w (Go.Eng.B.kL.getD t (0 : Nat)) p)).fst, Go.Eng.SV.b (Go.Eng.B.cubV w (Go.Eng.B.kL.getD t (0 : Nat)) p)).fst, Go.Eng.SV.b (Go.Eng.B.cubV w (Go.Eng.B.kL.getD t (0 : Nat)) p)).fst, Go.Eng.SV.b (Go.Eng.B.cubV w (Go.Eng.B.kL.getD t (0 : Nat)) p)).fst, Go.Eng.SV.b (Go.Eng.B.cubV w (Go.Eng.B.kL.getD t (0 : Nat)) p)).fst, Go.Eng.SV.b (Go.Eng.B.cubV w (Go.Eng.B.kL.getD t (0 : Nat)) p)).fst, Go.Eng.SV.b (Go.Eng.B.cubV w (Go.Eng.B.kL.getD t (0 : Nat)) p)).fst, Go.Eng.SV.b (Go.Eng.B.cubV w (Go.Eng.B.kL.getD t (0 : Nat)) p)).fst, Go.Eng.SV.b (Go.Eng.B.cubV w (Go.Eng.B.kL.getD t (0 : Nat)) p)).fst, Go.Eng.SV.b (Go.Eng.B.cubV w (Go.Eng.B.kL.getD t (0 : Nat)) p)).fst, Go.Eng.SV.b (Go.Eng.B.cubV w (Go.Eng.B.kL.getD t (0 : Nat)) p)).fst, Go.Eng.SV.b (Go.Eng.B.cubV w (Go.Eng.B.kL.getD t (0 : Nat)) p)).fst, Go.Eng.SV.b (Go.Eng.B.cubV w (Go.Eng.B.kL.getD t (0 : Nat)) p)), ((51 : Nat), Go.Eng.SV.cb Bool.true), ((((((((((((52 : Nat), Go.Eng.SV.sl Go.IntKind.u8 b).fst, Go.Eng.SV.sl Go.IntKind.u8 b).fst, Go.Eng.SV.sl Go.IntKind.u8 b).fst, Go.Eng.SV.sl Go.IntKind.u8 b).fst, Go.Eng.SV.sl Go.IntKind.u8 b).fst, Go.Eng.SV.sl Go.IntKind.u8 b).fst, Go.Eng.SV.sl Go.IntKind.u8 b).fst, Go.Eng.SV.sl Go.IntKind.u8 b).fst, Go.Eng.SV.sl Go.IntKind.u8 b).fst, Go.Eng.SV.sl Go.IntKind.u8 b).fst, Go.Eng.SV.sl Go.IntKind.u8 b), (((((((((((53 : Nat), Go.Eng.SV.u Go.IntKind.i64 b.length).fst, Go.Eng.SV.u Go.IntKind.i64 b.length).fst, Go.Eng.SV.u Go.IntKind.i64 b.length).fst, Go.Eng.SV.u Go.IntKind.i64 b.length).fst, Go.Eng.SV.u Go.IntKind.i64 b.length).fst, Go.Eng.SV.u Go.IntKind.i64 b.length).fst, Go.Eng.SV.u Go.IntKind.i64 b.length).fst, Go.Eng.SV.u Go.IntKind.i64 b.length).fst, Go.Eng.SV.u Go.IntKind.i64 b.length).fst, Go.Eng.SV.u Go.IntKind.i64 b.length), ((((((((((54 : Nat), Go.Eng.SV.b (Decidable.decide ((111 : Nat) < b.length))).fst, Go.Eng.SV.b (Decidable.decide ((111 : Nat) < b.length))).fst, Go.Eng.SV.b (Decidable.decide ((111 : Nat) < b.length))).fst, Go.Eng.SV.b (Decidable.decide ((111 : Nat) < b.length))).fst, Go.Eng.SV.b (Decidable.decide ((111 : Nat) < b.length))).fst, Go.Eng.SV.b (Decidable.decide ((111 : Nat) < b.length))).fst, Go.Eng.SV.b (Decidable.decide ((111 : Nat) < b.length))).fst, Go.Eng.SV.b (Decidable.decide ((111 : Nat) < b.length))).fst, Go.Eng.SV.b (Decidable.decide ((111 : Nat) < b.length))), ((55 : Nat), Go.Eng.SV.cb Bool.false), ((((((((56 : Nat), Go.Eng.SV.sl Go.IntKind.u8 b).fst, Go.Eng.SV.sl Go.IntKind.u8 b).fst, Go.Eng.SV.sl Go.IntKind.u8 b).fst, Go.Eng.SV.sl Go.IntKind.u8 b).fst, Go.Eng.SV.sl Go.IntKind.u8 b).fst, Go.Eng.SV.sl Go.IntKind.u8 b).fst, Go.Eng.SV.sl Go.IntKind.u8 b), ((((((57 : Nat), Go.Eng.SV.sl Go.IntKind.u8 (h b)).fst, Go.Eng.SV.sl Go.IntKind.u8 (h b)).fst, Go.Eng.SV.sl Go.IntKind.u8 (h b)).fst, Go.Eng.SV.sl Go.IntKind.u8 (h b)).fst, Go.Eng.SV.sl Go.IntKind.u8 (h b)), (((58 : Nat), Go.Eng.SV.str (h b)).fst, Go.Eng.SV.str (h b)), (((((((59 : Nat), Go.Eng.SV.sl Go.IntKind.u8 b).fst, Go.Eng.SV.sl Go.IntKind.u8 b).fst, Go.Eng.SV.sl Go.IntKind.u8 b).fst, Go.Eng.SV.sl Go.IntKind.u8 b).fst, Go.Eng.SV.sl Go.IntKind.u8 b).fst, Go.Eng.SV.sl Go.IntKind.u8 b), (((((60 : Nat), Go.Eng.SV.sl Go.IntKind.u8 (h b)).fst, Go.Eng.SV.sl Go.IntKind.u8 (h b)).fst, Go.Eng.SV.sl Go.IntKind.u8 (h b)).fst, Go.Eng.SV.sl Go.IntKind.u8 (h b)), ((((61 : Nat), Go.Eng.SV.str (h b)).fst, Go.Eng.SV.str (h b)).fst, Go.Eng.SV.str (h b))] [] ((0 : Nat) + (4 : Nat) + (4 : Nat) + (4 : Nat) + (4 : Nat) + (4 : Nat) + (4 : Nat) + (4 : Nat) + (4 : Nat) + (4 : Nat) + (4 : Nat) + (4 : Nat) + (4 : Nat) + (4 : Nat) + (4 : Nat) + (4 : Nat) + (4 : Nat)) (0 : Nat), (h b == h b) = Bool.true]) (sc' := []) (by kernel_rfl) (by repeat' first | exact trivial | exact rfl | exact hc | exact ht | exact decide_eq_false hb | exact beq_self_eq_true _ | omega | refine ⟨?_, ?_⟩) ?_
    exact hold_endw mixed (okQ2a hg hh) (unroll := false) (f := 100) (sc := []) (r := (Go.Eng.SV.cb Bool.true)) (ob := []) (sc' := []) (by kernel_rfl) (by trivial) (by simp [wkR, wk, wk0])
theorem wh_l (b : List Nat) (t p q : Nat) (ht : t < 80) (hp : p ≤ 1000) (hc : cubV q (kL.getD t 0) p = true) (hr : res = .b true) : ∀ f w, w + f ≤ 1000 → wholeP p f w = some q → Hold Try.prog (bodyOf Try.f5) (Fin Try.prog Try.f5 w0 S res) w0 S stWh (sWh b t p w) := by
  intro f
  induction f with
  | zero => intro w _ h; cases h
  | succ f ih =>
    intro w hw he
    have h1 : (w + 1) * (w + 1) ≤ 1000 * 1000 := Nat.mul_le_mul (by omega) (by omega)
    have h2 : (w + 1) * (w + 1) * (w + 1) ≤ 1000 * 1000 * 1000 := Nat.mul_le_mul h1 (by omega)
    have m0 : (w + 1) % 18446744073709551616 = w + 1 := by omega
    have m1 : (w + 1) * (w + 1) % 18446744073709551616 = (w + 1) * (w + 1) := by omega
    have m2 : (w + 1) * (w + 1) * (w + 1) % 18446744073709551616 = (w + 1) * (w + 1) * (w + 1) := by omega
    refine hold_unroll (c := _) rfl ?_
    unfold wholeP at he
    by_cases hlt : (w + 1) * (w + 1) * (w + 1) ≤ p
    · rw [if_pos hlt] at he
      refine hold_cut mixed (okQ2a hg hh) (unroll := false) (f := 300) (sc := [true]) (ks := [0,1,5,9]) (bs := []) (nx := 0) (st' := [Go.Eng.It.lp [(0 : Nat), (0 : Nat), (1 : Nat), (1 : Nat), (1 : Nat), (1 : Nat), (1 : Nat)], Go.Eng.It.blk (4 : Nat), Go.Eng.It.at [(1 : Nat), (1 : Nat), (1 : Nat), (1 : Nat), (1 : Nat), (1 : Nat)]]) (σ' := { nt := (68 : Nat), slots := [((0 : Nat), Go.Eng.SV.u Go.IntKind.i64 t), ((1 : Nat), Go.Eng.SV.sl Go.IntKind.u8 b), ((5 : Nat), Go.Eng.SV.u Go.IntKind.u64 p), ((9 : Nat), Go.Eng.SV.u Go.IntKind.u64 ((w + (1 : Nat)) % (18446744073709551616 : Nat)))], blks := [], next := (0 : Nat) }) (ob := [Decidable.decide ((w + (1 : Nat)) % (18446744073709551616 : Nat) * ((w + (1 : Nat)) % (18446744073709551616 : Nat)) % (18446744073709551616 : Nat) * ((w + (1 : Nat)) % (18446744073709551616 : Nat)) % (18446744073709551616 : Nat) ≤ p) = Bool.true]) (sc' := []) (by kernel_rfl) (by rw [m0, m1, m2]; exact ⟨decide_eq_true hlt, trivial⟩) ?_
      rw [m0]
      exact ih (w + 1) (by omega) he
    · rw [if_neg hlt] at he
      rw [← Option.some.inj he] at hc
      refine hold_cut mixed (okQ2a hg hh) (unroll := false) (f := 7) (sc := [false]) (ks := [0,1,5,9]) (bs := []) (nx := 0) (st' := [Go.Eng.It.at [(0 : Nat), (1 : Nat), (1 : Nat), (1 : Nat), (1 : Nat), (1 : Nat), (1 : Nat)], Go.Eng.It.at [(1 : Nat), (1 : Nat), (1 : Nat), (1 : Nat), (1 : Nat), (1 : Nat), (1 : Nat)]]) (σ' := { nt := (68 : Nat), slots := [((0 : Nat), Go.Eng.SV.u Go.IntKind.i64 t), ((1 : Nat), Go.Eng.SV.sl Go.IntKind.u8 b), ((5 : Nat), Go.Eng.SV.u Go.IntKind.u64 p), ((9 : Nat), Go.Eng.SV.u Go.IntKind.u64 w)], blks := [], next := (0 : Nat) }) (ob := [Decidable.decide ((w + (1 : Nat)) % (18446744073709551616 : Nat) * ((w + (1 : Nat)) % (18446744073709551616 : Nat)) % (18446744073709551616 : Nat) * ((w + (1 : Nat)) % (18446744073709551616 : Nat)) % (18446744073709551616 : Nat) ≤ p) = Bool.false]) (sc' := []) (by kernel_rfl) (by rw [m0, m1, m2]; exact ⟨decide_eq_false hlt, trivial⟩) ?_
      exact fin_l hg hh b t p w ht hc hr
theorem in_l (b : List Nat) (t p k : Nat) (hk : k < t) (ht : t < 80) (hp : p ≤ 1000) (hr : ∀ r, r = scanP p 40 2 true → Hold Try.prog (bodyOf Try.f5) (Fin Try.prog Try.f5 w0 S res) w0 S stOut (sOut b t p (k + if r = true then 1 else 0))) : ∀ f d fl, 2 ≤ d → d + f = 42 → scanP p f d fl = scanP p 40 2 true → Hold Try.prog (bodyOf Try.f5) (Fin Try.prog Try.f5 w0 S res) w0 S stIn (sIn b t p k fl d) := by
  intro f
  induction f with
  | zero =>
    intro d fl hd hf he
    obtain rfl : d = 42 := by omega
    have e := hr fl (by rw [← he]; rfl)
    refine hold_unroll (c := _) rfl ?_
    cases fl with
    | true =>
      refine hold_cut mixed (okQ2a hg hh) (unroll := false) (f := 300) (sc := [false, true]) (ks := [0,1,5,6]) (bs := []) (nx := 0) (st' := [Go.Eng.It.lp [(0 : Nat), (1 : Nat), (0 : Nat), (1 : Nat), (1 : Nat), (1 : Nat)], Go.Eng.It.blk (0 : Nat), Go.Eng.It.at [(1 : Nat), (1 : Nat), (1 : Nat), (1 : Nat)]]) (σ' := { nt := (68 : Nat), slots := [((0 : Nat), Go.Eng.SV.u Go.IntKind.i64 t), ((1 : Nat), Go.Eng.SV.sl Go.IntKind.u8 b), ((5 : Nat), Go.Eng.SV.u Go.IntKind.u64 p), ((6 : Nat), Go.Eng.SV.u Go.IntKind.i64 (k + (1 : Nat)))], blks := [], next := (0 : Nat) }) (ob := [Decidable.decide ((1764 : Nat) ≤ p) = Bool.false, Bool.true = Bool.true, k + (1 : Nat) < (9223372036854775808 : Nat)]) (sc' := []) (by kernel_rfl) (by repeat' first | exact trivial | exact rfl | exact decide_eq_false (by omega) | omega | refine ⟨?_, ?_⟩) ?_
      exact e
    | false =>
      refine hold_cut mixed (okQ2a hg hh) (unroll := false) (f := 300) (sc := [false, false]) (ks := [0,1,5,6]) (bs := []) (nx := 0) (st' := [Go.Eng.It.lp [(0 : Nat), (1 : Nat), (0 : Nat), (1 : Nat), (1 : Nat), (1 : Nat)], Go.Eng.It.blk (0 : Nat), Go.Eng.It.at [(1 : Nat), (1 : Nat), (1 : Nat), (1 : Nat)]]) (σ' := { nt := (68 : Nat), slots := [((0 : Nat), Go.Eng.SV.u Go.IntKind.i64 t), ((1 : Nat), Go.Eng.SV.sl Go.IntKind.u8 b), ((5 : Nat), Go.Eng.SV.u Go.IntKind.u64 p), ((6 : Nat), Go.Eng.SV.u Go.IntKind.i64 k)], blks := [], next := (0 : Nat) }) (ob := [Decidable.decide ((1764 : Nat) ≤ p) = Bool.false, Bool.false = Bool.false]) (sc' := []) (by kernel_rfl) (by repeat' first | exact trivial | exact rfl | exact decide_eq_false (by omega) | omega | refine ⟨?_, ?_⟩) ?_
      exact e
  | succ f ih =>
    intro d fl hd hf he
    have h1 : d * d ≤ 42 * 42 := Nat.mul_le_mul (by omega) (by omega)
    have m0 : d * d % 18446744073709551616 = d * d := by omega
    have m1 : (d + 1) % 18446744073709551616 = d + 1 := by omega
    unfold scanP at he
    refine hold_unroll (c := _) rfl ?_
    by_cases hlt : d * d ≤ p
    · rw [if_pos hlt] at he
      have e := ih (d + 1) _ (by omega) (by omega) he
      cases fl with
      | true =>
        refine hold_cut mixed (okQ2a hg hh) (unroll := false) (f := 300) (sc := [true, true]) (ks := [0,1,5,6,7,8]) (bs := []) (nx := 0) (st' := [Go.Eng.It.lp [(0 : Nat), (1 : Nat), (0 : Nat), (1 : Nat), (1 : Nat), (0 : Nat), (1 : Nat), (0 : Nat), (0 : Nat), (1 : Nat), (0 : Nat), (1 : Nat), (1 : Nat), (1 : Nat)], Go.Eng.It.blk (2 : Nat), Go.Eng.It.at [(1 : Nat), (1 : Nat), (1 : Nat), (0 : Nat), (1 : Nat), (0 : Nat), (0 : Nat), (1 : Nat), (0 : Nat), (1 : Nat), (1 : Nat), (1 : Nat)], Go.Eng.It.blk (1 : Nat), Go.Eng.It.lp [(0 : Nat), (1 : Nat), (0 : Nat), (1 : Nat), (1 : Nat), (1 : Nat)], Go.Eng.It.blk (0 : Nat), Go.Eng.It.at [(1 : Nat), (1 : Nat), (1 : Nat), (1 : Nat)]]) (σ' := { nt := (68 : Nat), slots := [((0 : Nat), Go.Eng.SV.u Go.IntKind.i64 t), ((1 : Nat), Go.Eng.SV.sl Go.IntKind.u8 b), ((5 : Nat), Go.Eng.SV.u Go.IntKind.u64 p), ((6 : Nat), Go.Eng.SV.u Go.IntKind.i64 k), ((7 : Nat), Go.Eng.SV.b (p % d != (0 : Nat))), ((8 : Nat), Go.Eng.SV.u Go.IntKind.u64 ((d + (1 : Nat)) % (18446744073709551616 : Nat)))], blks := [], next := (0 : Nat) }) (ob := [Decidable.decide (d * d % (18446744073709551616 : Nat) ≤ p) = Bool.true, Bool.true = Bool.true, d ≠ (0 : Nat)]) (sc' := []) (by kernel_rfl) (by repeat' first | exact trivial | exact rfl | (rw [m0]; exact decide_eq_true hlt) | omega | refine ⟨?_, ?_⟩) ?_
        rw [m1]
        exact e.cast (by rw [Bool.true_and]; rfl)
      | false =>
        refine hold_cut mixed (okQ2a hg hh) (unroll := false) (f := 300) (sc := [true, false]) (ks := [0,1,5,6,7,8]) (bs := []) (nx := 0) (st' := [Go.Eng.It.lp [(0 : Nat), (1 : Nat), (0 : Nat), (1 : Nat), (1 : Nat), (0 : Nat), (1 : Nat), (0 : Nat), (0 : Nat), (1 : Nat), (0 : Nat), (1 : Nat), (1 : Nat), (1 : Nat)], Go.Eng.It.blk (2 : Nat), Go.Eng.It.at [(1 : Nat), (1 : Nat), (1 : Nat), (0 : Nat), (1 : Nat), (0 : Nat), (0 : Nat), (1 : Nat), (0 : Nat), (1 : Nat), (1 : Nat), (1 : Nat)], Go.Eng.It.blk (1 : Nat), Go.Eng.It.lp [(0 : Nat), (1 : Nat), (0 : Nat), (1 : Nat), (1 : Nat), (1 : Nat)], Go.Eng.It.blk (0 : Nat), Go.Eng.It.at [(1 : Nat), (1 : Nat), (1 : Nat), (1 : Nat)]]) (σ' := { nt := (68 : Nat), slots := [((0 : Nat), Go.Eng.SV.u Go.IntKind.i64 t), ((1 : Nat), Go.Eng.SV.sl Go.IntKind.u8 b), ((5 : Nat), Go.Eng.SV.u Go.IntKind.u64 p), ((6 : Nat), Go.Eng.SV.u Go.IntKind.i64 k), ((7 : Nat), Go.Eng.SV.cb Bool.false), ((8 : Nat), Go.Eng.SV.u Go.IntKind.u64 ((d + (1 : Nat)) % (18446744073709551616 : Nat)))], blks := [], next := (0 : Nat) }) (ob := [Decidable.decide (d * d % (18446744073709551616 : Nat) ≤ p) = Bool.true, Bool.false = Bool.false]) (sc' := []) (by kernel_rfl) (by repeat' first | exact trivial | exact rfl | (rw [m0]; exact decide_eq_true hlt) | omega | refine ⟨?_, ?_⟩) ?_
        rw [m1]
        exact Hold.weaken e (by simp [wks, wk, wk0, lim, sIn])
    · rw [if_neg hlt] at he
      have e := hr fl he
      cases fl with
      | true =>
        refine hold_cut mixed (okQ2a hg hh) (unroll := false) (f := 300) (sc := [false, true]) (ks := [0,1,5,6]) (bs := []) (nx := 0) (st' := [Go.Eng.It.lp [(0 : Nat), (1 : Nat), (0 : Nat), (1 : Nat), (1 : Nat), (1 : Nat)], Go.Eng.It.blk (0 : Nat), Go.Eng.It.at [(1 : Nat), (1 : Nat), (1 : Nat), (1 : Nat)]]) (σ' := { nt := (68 : Nat), slots := [((0 : Nat), Go.Eng.SV.u Go.IntKind.i64 t), ((1 : Nat), Go.Eng.SV.sl Go.IntKind.u8 b), ((5 : Nat), Go.Eng.SV.u Go.IntKind.u64 p), ((6 : Nat), Go.Eng.SV.u Go.IntKind.i64 (k + (1 : Nat)))], blks := [], next := (0 : Nat) }) (ob := [Decidable.decide (d * d % (18446744073709551616 : Nat) ≤ p) = Bool.false, Bool.true = Bool.true, k + (1 : Nat) < (9223372036854775808 : Nat)]) (sc' := []) (by kernel_rfl) (by repeat' first | exact trivial | exact rfl | (rw [m0]; exact decide_eq_false hlt) | omega | refine ⟨?_, ?_⟩) ?_
        exact e
      | false =>
        refine hold_cut mixed (okQ2a hg hh) (unroll := false) (f := 300) (sc := [false, false]) (ks := [0,1,5,6]) (bs := []) (nx := 0) (st' := [Go.Eng.It.lp [(0 : Nat), (1 : Nat), (0 : Nat), (1 : Nat), (1 : Nat), (1 : Nat)], Go.Eng.It.blk (0 : Nat), Go.Eng.It.at [(1 : Nat), (1 : Nat), (1 : Nat), (1 : Nat)]]) (σ' := { nt := (68 : Nat), slots := [((0 : Nat), Go.Eng.SV.u Go.IntKind.i64 t), ((1 : Nat), Go.Eng.SV.sl Go.IntKind.u8 b), ((5 : Nat), Go.Eng.SV.u Go.IntKind.u64 p), ((6 : Nat), Go.Eng.SV.u Go.IntKind.i64 k)], blks := [], next := (0 : Nat) }) (ob := [Decidable.decide (d * d % (18446744073709551616 : Nat) ≤ p) = Bool.false, Bool.false = Bool.false]) (sc' := []) (by kernel_rfl) (by repeat' first | exact trivial | exact rfl | (rw [m0]; exact decide_eq_false hlt) | omega | refine ⟨?_, ?_⟩) ?_
        exact e
theorem out_l (b : List Nat) (t q w : Nat) (ht : t < 80) (hq : q ≤ 1000) (hw : wholeP q 20 1 = some w) (hc : cubV w (kL.getD t 0) q = true) (hr : res = .b true) : ∀ f k p, p + f ≤ 502 → srchP t f k p = some q → Hold Try.prog (bodyOf Try.f5) (Fin Try.prog Try.f5 w0 S res) w0 S stOut (sOut b t p k) := by
  intro f
  induction f with
  | zero => intro k p _ he; cases he
  | succ f ih =>
    intro k p hf he
    have m1 : (p + 1) % 18446744073709551616 = p + 1 := by omega
    unfold srchP at he
    refine hold_unroll (c := _) rfl ?_
    by_cases hlt : k < t
    · rw [if_pos hlt] at he
      refine hold_cut mixed (okQ2a hg hh) (unroll := false) (f := 300) (sc := [true]) (ks := [0,1,5,6,7,8]) (bs := []) (nx := 0) (st' := [Go.Eng.It.lp [(0 : Nat), (1 : Nat), (0 : Nat), (1 : Nat), (1 : Nat), (0 : Nat), (1 : Nat), (0 : Nat), (0 : Nat), (1 : Nat), (0 : Nat), (1 : Nat), (1 : Nat), (1 : Nat)], Go.Eng.It.blk (2 : Nat), Go.Eng.It.at [(1 : Nat), (1 : Nat), (1 : Nat), (0 : Nat), (1 : Nat), (0 : Nat), (0 : Nat), (1 : Nat), (0 : Nat), (1 : Nat), (1 : Nat), (1 : Nat)], Go.Eng.It.blk (1 : Nat), Go.Eng.It.lp [(0 : Nat), (1 : Nat), (0 : Nat), (1 : Nat), (1 : Nat), (1 : Nat)], Go.Eng.It.blk (0 : Nat), Go.Eng.It.at [(1 : Nat), (1 : Nat), (1 : Nat), (1 : Nat)]]) (σ' := { nt := (68 : Nat), slots := [((0 : Nat), Go.Eng.SV.u Go.IntKind.i64 t), ((1 : Nat), Go.Eng.SV.sl Go.IntKind.u8 b), ((5 : Nat), Go.Eng.SV.u Go.IntKind.u64 ((p + (1 : Nat)) % (18446744073709551616 : Nat))), ((6 : Nat), Go.Eng.SV.u Go.IntKind.i64 k), ((7 : Nat), Go.Eng.SV.cb Bool.true), ((8 : Nat), Go.Eng.SV.c Go.IntKind.u64 (2 : Int))], blks := [], next := (0 : Nat) }) (ob := [Decidable.decide (k < t) = Bool.true]) (sc' := []) (by kernel_rfl) ⟨decide_eq_true hlt, trivial⟩ ?_
      rw [m1]
      refine Hold.weaken (in_l hg hh b t (p + 1) k hlt ht (by omega) ?_ 40 2 true (by omega) (by omega) rfl) (by simp [wks, wk, wk0, lim, sIn])
      intro r hr1
      subst hr1
      exact ih _ (p + 1) (by omega) he
    · rw [if_neg hlt] at he
      have e := Option.some.inj he
      rw [← e] at hc hw hq
      refine hold_cut mixed (okQ2a hg hh) (unroll := false) (f := 300) (sc := [false]) (ks := [0,1,5,9]) (bs := []) (nx := 0) (st' := [Go.Eng.It.lp [(0 : Nat), (0 : Nat), (1 : Nat), (1 : Nat), (1 : Nat), (1 : Nat), (1 : Nat)], Go.Eng.It.blk (4 : Nat), Go.Eng.It.at [(1 : Nat), (1 : Nat), (1 : Nat), (1 : Nat), (1 : Nat), (1 : Nat)]]) (σ' := { nt := (68 : Nat), slots := [((0 : Nat), Go.Eng.SV.u Go.IntKind.i64 t), ((1 : Nat), Go.Eng.SV.sl Go.IntKind.u8 b), ((5 : Nat), Go.Eng.SV.u Go.IntKind.u64 p), ((9 : Nat), Go.Eng.SV.c Go.IntKind.u64 (1 : Int))], blks := [], next := (0 : Nat) }) (ob := [Decidable.decide (k < t) = Bool.false]) (sc' := []) (by kernel_rfl) ⟨decide_eq_false hlt, trivial⟩ ?_
      exact Hold.weaken (wh_l hg hh b t p w ht hq hc hr 20 1 (by omega) hw) (by simp [wks, wk, wk0, lim, sWh])
theorem ShaConstants_aux (n : Int) (b : List Nat) : Contract Try.prog 5 [.i .i64 n, .sl .u8 b] (.b true) := by
  refine contract Try.func5 (body := bodyOf Try.f5) rfl (by kernel_rfl) (by kernel_rfl) rfl ?_
  intro _ w0 S
  have n0 := Int.emod_nonneg n (show (80 : Int) ≠ 0 by omega)
  have n1 := Int.emod_lt_of_pos n (show (0 : Int) < 80 by omega)
  refine hold_cut mixed (okQ2a hg hh) (unroll := false) (f := 300) (sc := []) (ks := [0,1,5,6]) (bs := []) (nx := 0) (st' := [Go.Eng.It.lp [(0 : Nat), (1 : Nat), (0 : Nat), (1 : Nat), (1 : Nat), (1 : Nat)], Go.Eng.It.blk (0 : Nat), Go.Eng.It.at [(1 : Nat), (1 : Nat), (1 : Nat), (1 : Nat)]]) (σ' := { nt := (68 : Nat), slots := [((0 : Nat), Go.Eng.SV.u Go.IntKind.i64 (n % (80 : Int)).toNat), ((1 : Nat), Go.Eng.SV.sl Go.IntKind.u8 b), ((5 : Nat), Go.Eng.SV.c Go.IntKind.u64 (2 : Int)), ((6 : Nat), Go.Eng.SV.c Go.IntKind.i64 (0 : Int))], blks := [], next := (0 : Nat) }) (ob := [(0 : Int) < (80 : Int)]) (sc' := []) (by kernel_rfl) ⟨by omega, trivial⟩ ?_
  have ht : (n % 80).toNat < 80 := by omega
  generalize (n % 80).toNat = t at ht
  have ha := List.all_eq_true.1 const_all t (List.mem_range.2 ht)
  unfold constOk at ha
  split at ha
  · rename_i q hq
    split at ha
    · rename_i w hw
      obtain ⟨hc, hle⟩ := Bool.and_eq_true_iff.1 ha
      exact Hold.weaken (out_l hg hh b t q w ht (Nat.le_of_ble_eq_true hle) hw hc rfl 500 0 2 (by omega) hq) (by simp [wks, wk, wk0, lim, sOut])
    · cases ha
  · cases ha
end
theorem ShaConstants_c (n : Int) (b : List Nat) : Contract Try.prog 5 [.i .i64 n, .sl .u8 b] (.b true) := ShaConstants_aux rfl rfl n b
end Go.Eng.B

namespace Go.Eng
open Go.RowKit
theorem has_inR {k : IntKind} {n : Int} (h : k.has n) : inR k n := by
  cases k <;> simp only [IntKind.has, IntKind.min, IntKind.max, IntKind.signed, IntKind.bits, inR, lo, lim] at * <;> simp at h ⊢ <;> omega
theorem int_of {P : Program} {w : World} {r : Reach} {base : Nat} {t : TypeId} {v : Value} {k : IntKind} (ht : P.underlying t = some (.int k)) (h : Value.okWide P w r base t v) : ∃ n, v = .int k n ∧ k.has n := by
  obtain ⟨n, rfl⟩ := WideShapes.okWide_int ht h
  refine ⟨n, rfl, ?_⟩
  simpa [Value.okWide, Cell.okWide, Cell.ok, ht] using h
theorem open_i {P : Program} {w : World} {r : Reach} {base : Nat} {t : TypeId} {v : Value} {k : IntKind} (ht : P.underlying t = some (.int k)) (h : Value.okWide P w r base t v) {β : Nat → Nat} {ow : Own} {w' : World} :
    ∃ n, relV1 β ow w' (.i k n) v := by
  obtain ⟨n, rfl, hn⟩ := int_of ht h
  exact ⟨n, _, rel_i (has_inR hn), rfl⟩
theorem ints_of {k : IntKind} (hk : k.signed = false) : ∀ (cs : List Value), (∀ v ∈ cs, ∃ n, v = .int k n ∧ k.has n) → ∃ l : List Nat, cs = ints k l ∧ l.length = cs.length ∧ ∀ x ∈ l, x < lim k := by
  intro cs
  induction cs with
  | nil => intro _; exact ⟨[], rfl, rfl, by simp⟩
  | cons v cs ih =>
    intro h
    obtain ⟨l, h1, h2, h3⟩ := ih fun u hu => h u (by simp [hu])
    obtain ⟨n, rfl, hn⟩ := h v (by simp)
    have hr := has_inR hn
    have h0 : 0 ≤ n := by cases k <;> simp [IntKind.signed] at hk <;> simp only [inR, lo] at hr <;> omega
    refine ⟨n.toNat :: l, ?_, by simp [h2], ?_⟩
    · simp only [ints, List.map_cons, Int.toNat_of_nonneg h0]
      rw [h1]; rfl
    · intro x hx
      rcases List.mem_cons.1 hx with rfl | hx
      · have := hr.2; omega
      · exact h3 x hx
theorem open_arr {P : Program} {w : World} {r : Reach} {base : Nat} {t e u : TypeId} {v : Value} {k : IntKind} {n : Nat} (ht : P.underlying t = some (.array n e)) (hct : P.cellTypes P.depth t = some (List.replicate n u)) (hsz : P.cellsOf t = n)
    (hu : P.underlying u = some (.int k)) (hk : k.signed = false) (h : Value.okWide P w r base t v) {β : Nat → Nat} {ow : Own} {w' : World} : ∃ l, relV1 β ow w' (.arr k n l) v := by
  simp only [Value.okWide, ht] at h
  obtain ⟨cs, rfl, hs, ts, hts, _, hc⟩ := h
  rw [hct] at hts
  cases hts
  obtain ⟨l, h1, h2, h3⟩ := ints_of hk cs.toList fun v hv => by
    obtain ⟨i, hi⟩ := List.getElem?_of_mem hv
    obtain ⟨u', hu', hok⟩ := hc i v (by simpa using hi)
    have : u' = u := by
      have := List.mem_of_getElem? hu'
      exact List.eq_of_mem_replicate this
    subst this
    exact int_of (w := w) (r := r) (base := base) hu (by simp only [Value.okWide, hu]; exact hok)
  refine ⟨l, ints k l, rel_arr ?_ h3, ?_⟩
  · rw [h2]; simp [hs, hsz]
  · simp only [SV.isAgg, toV, if_true]
    rw [← h1]
theorem Contract.calls {P : Program} {f : FuncId} {fn : Func} {body : Code} {args : List SV} {res : SV} (h : Contract P f args res) (hf : P.funcs[f]? = some fn) (hb : fn.body = some body) (hname : (fn.name == "runtime.NumGoroutine") = false)
    {w : World} {vs : List Value} (hv : relVs (fun _ => 0) (fun _ _ => False) w args vs) :
    Calls P f vs.toArray w fun e w' => ∃ v, e = .returned v ∧ Below w.heap.size w w' ∧ relV (fun _ => 0) (fun _ _ => False) w' res v := by
  have h1 := h w (fun _ _ => False) vs (fun _ _ h => h.elim) hv
  unfold Invokes at h1
  have hcall : (callFunc f vs.toArray).run P w = .ok (.enter f vs.toArray) w := by
    have hne : ¬ fn.name = "runtime.NumGoroutine" := by simpa using hname
    simp [callFunc, hf, hb, hne]
  rw [hcall] at h1
  exact h1
end Go.Eng

namespace Go.Eng
open Go.RowKit Go.ChangeShapes Go.WideShapes
section
variable {H : Type} {enc : TypeId × Value → H} {P : Program} {w : World} {sp : Nat → Bool} {held : Bool} {r : Reach} {b0 : Nat} {t e : TypeId} {v : Value} {d : DataW H} {ps : List MemPlace} {k : IntKind}
theorem wf_inR {n : Int} (h : (Lit.int k n).wf = true) : inR k n := by
  apply has_inR
  have h : k.min ≤ n ∧ n ≤ k.max := by simpa [Lit.wf] using h
  exact h
theorem open_zs (ht : P.underlying t = some (.slice e)) (he : P.underlying e = some (.int k)) (hc : P.cellsOf e = 1) (hval : Value.okWide P w r b0 t v) (hd : DataW.Trod enc P w 0 sp held t v d ps) :
    ∃ zs : List Int, ReadsAs (fun _ _ => False) w v (zs.map fun n : Int => Value.int k n) ∧ ∀ n ∈ zs, inR k n := by
  obtain ⟨a0, len, cap, rfl⟩ := okWide_slice ht hval
  obtain ⟨fuel, hf⟩ := hd
  rcases ChangeShapes.open_ints ht he hc hf with ⟨h1, _⟩ | ⟨a, len', cap', zs, h1, _, hl, hm, hz, _, hcell, hwf⟩
  · simp only [Value.cells, List.cons.injEq, and_true] at h1
    cases h1
    exact ⟨[], ⟨none, 0, 0, rfl, rfl, Nat.le_refl _, by omega, fun h => absurd h (by omega)⟩, by simp⟩
  · simp only [Value.cells, List.cons.injEq, and_true] at h1
    cases h1
    have hle : len ≤ zs.length := by rw [hz]; split <;> omega
    have hmax : cap < 9223372036854775808 := by simp only [maxLen] at hm; omega
    refine ⟨zs.take len, ⟨some a, len, cap, rfl, by simp; omega, hl, hmax, fun hp => ⟨a, rfl, ?_, fun _ _ h => h, fun j u hu => ?_⟩⟩, fun n hn => wf_inR (hwf n (List.mem_of_mem_take hn))⟩
    · have := hcell 0 (by omega)
      simp only [Addr.add, if_true] at this
      cases hs : a.spot with
      | none => rfl
      | some q => simp [World.cell?, hs] at this; split at this <;> cases this
    · have hj : j < len := by
        have := (List.getElem?_eq_some_iff.1 hu).1
        simp at this; omega
      have h0 := hcell 0 (by omega)
      have hs : a.spot = none := by
        simp only [Addr.add, if_true] at h0
        cases hs : a.spot with
        | none => rfl
        | some q => simp [World.cell?, hs] at h0; split at h0 <;> cases h0
      have := hcell j (by omega)
      rw [add_spot hs] at this
      rw [this]
      simp only [List.getElem?_map, List.getElem?_take_of_lt hj, Option.map_eq_some_iff] at hu
      obtain ⟨z, hz1, rfl⟩ := hu
      simp [List.getD_eq_getElem?_getD, hz1]
theorem nats_of (hk : k.signed = false) : ∀ (zs : List Int), (∀ n ∈ zs, inR k n) → ∃ l : List Nat, (zs.map fun n : Int => Value.int k n) = ints k l ∧ ∀ x ∈ l, x < lim k := by
  intro zs
  induction zs with
  | nil => intro _; exact ⟨[], rfl, by simp⟩
  | cons n zs ih =>
    intro h
    obtain ⟨l, h1, h2⟩ := ih fun m hm => h m (by simp [hm])
    have hr := h n (by simp)
    have h0 : 0 ≤ n := by cases k <;> simp [IntKind.signed] at hk <;> simp only [inR, lo] at hr <;> omega
    refine ⟨n.toNat :: l, by simp only [ints, List.map_cons, Int.toNat_of_nonneg h0, h1], ?_⟩
    intro x hx
    rcases List.mem_cons.1 hx with rfl | hx
    · have := hr.2; omega
    · exact h2 x hx
theorem open_bytes {β : Nat → Nat} (ht : P.underlying t = some (.slice e)) (he : P.underlying e = some (.int k)) (hk : k.signed = false) (hc : P.cellsOf e = 1) (hval : Value.okWide P w r b0 t v) (hd : DataW.Trod enc P w 0 sp held t v d ps) :
    ∃ l, relV1 β (fun _ _ => False) w (.sl k l) v := by
  obtain ⟨zs, h1, h2⟩ := open_zs ht he hc hval hd
  obtain ⟨l, h3, h4⟩ := nats_of hk zs h2
  rw [h3] at h1
  exact ⟨l, [v], by simp only [rel]; exact ⟨⟨v, rfl, h1⟩, h4⟩, rfl⟩
theorem open_intl {β : Nat → Nat} (ht : P.underlying t = some (.slice e)) (he : P.underlying e = some (.int .i64)) (hc : P.cellsOf e = 1) (hval : Value.okWide P w r b0 t v) (hd : DataW.Trod enc P w 0 sp held t v d ps) :
    ∃ l, relV1 β (fun _ _ => False) w (.sli l) v := by
  obtain ⟨zs, h1, h2⟩ := open_zs ht he hc hval hd
  exact ⟨zs, [v], by simp only [rel]; exact ⟨⟨v, rfl, h1⟩, h2⟩, rfl⟩
theorem open_b {β : Nat → Nat} {ow : Own} {w' : World} (ht : P.underlying t = some .bool) (hval : Value.okWide P w r b0 t v) : ∃ x, relV1 β ow w' (.b x) v := by
  obtain ⟨b, rfl⟩ := okWide_bool ht hval
  exact ⟨b, _, rel_b, rfl⟩
theorem open_str {β : Nat → Nat} {ow : Own} {w' : World} (ht : P.underlying t = some .string) (hval : Value.okWide P w r b0 t v) : ∃ l, relV1 β ow w' (.str l) v := by
  obtain ⟨s, rfl⟩ := okWide_string ht hval
  have := constSV_ok (β := β) (ow := ow) (w := w') (v := .string s) (s := .str (s.data.toList.map (·.toNat))) rfl
  exact ⟨_, _, this.1, rfl⟩
end
end Go.Eng

namespace Go.Proofs.Ytedccmojbmlkcaa.Facts
open Go Go.Proofs
set_option maxRecDepth 100000
theorem words_word {r : List Char} : ∀ {l : List Char}, (∀ c ∈ l, c ≠ ' ') → wordsSigns (l ++ ' ' :: r) = l :: wordsSigns r := by
  intro l
  induction l with
  | nil => intro _; rfl
  | cons c l ih =>
    intro h
    have hc : c ≠ ' ' := h c (by simp)
    have e := ih fun x hx => h x (by simp [hx])
    show wordsSigns (c :: (l ++ ' ' :: r)) = _
    rw [wordsSigns, e]
    · intro hh; exact hc hh
theorem order_is : Try.pinned.checked.prog.initOrder = "harness fdf75883f3d4315cbaad1436e96b620cb7bd8f58ed2360185c1b7b47d97433d8 cut at coresec/coreseclaw05.KdfPrefix coresec/coreseclaw05.KdfCalls coresec/coreseclaw04.ShaConstants coresec/coreseclaw04.ShaBlocks coresec/coreseclaw26.ContextDerives coresec/coreseclaw26.ContextNonces coresec/coreseclaw26.ContextNumbers coresec/coreseclaw26.ContextUnique coresec/coreseclaw38.EchoValues" := by kernel_rfl
theorem order_lit : ("harness fdf75883f3d4315cbaad1436e96b620cb7bd8f58ed2360185c1b7b47d97433d8 cut at coresec/coreseclaw05.KdfPrefix coresec/coreseclaw05.KdfCalls coresec/coreseclaw04.ShaConstants coresec/coreseclaw04.ShaBlocks coresec/coreseclaw26.ContextDerives coresec/coreseclaw26.ContextNonces coresec/coreseclaw26.ContextNumbers coresec/coreseclaw26.ContextUnique coresec/coreseclaw38.EchoValues" : String) = String.ofList (['h', 'a', 'r', 'n', 'e', 's', 's'] ++ ' ' :: (['f', 'd', 'f', '7', '5', '8', '8', '3', 'f', '3', 'd', '4', '3', '1', '5', 'c', 'b', 'a', 'a', 'd', '1', '4', '3', '6', 'e', '9', '6', 'b', '6', '2', '0', 'c', 'b', '7', 'b', 'd', '8', 'f', '5', '8', 'e', 'd', '2', '3', '6', '0', '1', '8', '5', 'c', '1', 'b', '7', 'b', '4', '7', 'd', '9', '7', '4', '3', '3', 'd', '8'] ++ ' ' :: (['c', 'u', 't'] ++ ' ' :: ['a', 't', ' ', 'c', 'o', 'r', 'e', 's', 'e', 'c', '/', 'c', 'o', 'r', 'e', 's', 'e', 'c', 'l', 'a', 'w', '0', '5', '.', 'K', 'd', 'f', 'P', 'r', 'e', 'f', 'i', 'x', ' ', 'c', 'o', 'r', 'e', 's', 'e', 'c', '/', 'c', 'o', 'r', 'e', 's', 'e', 'c', 'l', 'a', 'w', '0', '5', '.', 'K', 'd', 'f', 'C', 'a', 'l', 'l', 's', ' ', 'c', 'o', 'r', 'e', 's', 'e', 'c', '/', 'c', 'o', 'r', 'e', 's', 'e', 'c', 'l', 'a', 'w', '0', '4', '.', 'S', 'h', 'a', 'C', 'o', 'n', 's', 't', 'a', 'n', 't', 's', ' ', 'c', 'o', 'r', 'e', 's', 'e', 'c', '/', 'c', 'o', 'r', 'e', 's', 'e', 'c', 'l', 'a', 'w', '0', '4', '.', 'S', 'h', 'a', 'B', 'l', 'o', 'c', 'k', 's', ' ', 'c', 'o', 'r', 'e', 's', 'e', 'c', '/', 'c', 'o', 'r', 'e', 's', 'e', 'c', 'l', 'a', 'w', '2', '6', '.', 'C', 'o', 'n', 't', 'e', 'x', 't', 'D', 'e', 'r', 'i', 'v', 'e', 's', ' ', 'c', 'o', 'r', 'e', 's', 'e', 'c', '/', 'c', 'o', 'r', 'e', 's', 'e', 'c', 'l', 'a', 'w', '2', '6', '.', 'C', 'o', 'n', 't', 'e', 'x', 't', 'N', 'o', 'n', 'c', 'e', 's', ' ', 'c', 'o', 'r', 'e', 's', 'e', 'c', '/', 'c', 'o', 'r', 'e', 's', 'e', 'c', 'l', 'a', 'w', '2', '6', '.', 'C', 'o', 'n', 't', 'e', 'x', 't', 'N', 'u', 'm', 'b', 'e', 'r', 's', ' ', 'c', 'o', 'r', 'e', 's', 'e', 'c', '/', 'c', 'o', 'r', 'e', 's', 'e', 'c', 'l', 'a', 'w', '2', '6', '.', 'C', 'o', 'n', 't', 'e', 'x', 't', 'U', 'n', 'i', 'q', 'u', 'e', ' ', 'c', 'o', 'r', 'e', 's', 'e', 'c', '/', 'c', 'o', 'r', 'e', 's', 'e', 'c', 'l', 'a', 'w', '3', '8', '.', 'E', 'c', 'h', 'o', 'V', 'a', 'l', 'u', 'e', 's']))) := by kernel_rfl
theorem order_words : ∃ R, behindMainWord (wordsSigns Try.pinned.checked.prog.initOrder.toList) = ['c', 'u', 't'] :: R := by
  rw [order_is, order_lit, String.toList_ofList, words_word (by decide), words_word (by decide), words_word (by decide)]
  generalize wordsSigns ['a', 't', ' ', 'c', 'o', 'r', 'e', 's', 'e', 'c', '/', 'c', 'o', 'r', 'e', 's', 'e', 'c', 'l', 'a', 'w', '0', '5', '.', 'K', 'd', 'f', 'P', 'r', 'e', 'f', 'i', 'x', ' ', 'c', 'o', 'r', 'e', 's', 'e', 'c', '/', 'c', 'o', 'r', 'e', 's', 'e', 'c', 'l', 'a', 'w', '0', '5', '.', 'K', 'd', 'f', 'C', 'a', 'l', 'l', 's', ' ', 'c', 'o', 'r', 'e', 's', 'e', 'c', '/', 'c', 'o', 'r', 'e', 's', 'e', 'c', 'l', 'a', 'w', '0', '4', '.', 'S', 'h', 'a', 'C', 'o', 'n', 's', 't', 'a', 'n', 't', 's', ' ', 'c', 'o', 'r', 'e', 's', 'e', 'c', '/', 'c', 'o', 'r', 'e', 's', 'e', 'c', 'l', 'a', 'w', '0', '4', '.', 'S', 'h', 'a', 'B', 'l', 'o', 'c', 'k', 's', ' ', 'c', 'o', 'r', 'e', 's', 'e', 'c', '/', 'c', 'o', 'r', 'e', 's', 'e', 'c', 'l', 'a', 'w', '2', '6', '.', 'C', 'o', 'n', 't', 'e', 'x', 't', 'D', 'e', 'r', 'i', 'v', 'e', 's', ' ', 'c', 'o', 'r', 'e', 's', 'e', 'c', '/', 'c', 'o', 'r', 'e', 's', 'e', 'c', 'l', 'a', 'w', '2', '6', '.', 'C', 'o', 'n', 't', 'e', 'x', 't', 'N', 'o', 'n', 'c', 'e', 's', ' ', 'c', 'o', 'r', 'e', 's', 'e', 'c', '/', 'c', 'o', 'r', 'e', 's', 'e', 'c', 'l', 'a', 'w', '2', '6', '.', 'C', 'o', 'n', 't', 'e', 'x', 't', 'N', 'u', 'm', 'b', 'e', 'r', 's', ' ', 'c', 'o', 'r', 'e', 's', 'e', 'c', '/', 'c', 'o', 'r', 'e', 's', 'e', 'c', 'l', 'a', 'w', '2', '6', '.', 'C', 'o', 'n', 't', 'e', 'x', 't', 'U', 'n', 'i', 'q', 'u', 'e', ' ', 'c', 'o', 'r', 'e', 's', 'e', 'c', '/', 'c', 'o', 'r', 'e', 's', 'e', 'c', 'l', 'a', 'w', '3', '8', '.', 'E', 'c', 'h', 'o', 'V', 'a', 'l', 'u', 'e', 's'] = R
  exact ⟨R, by kernel_rfl⟩
theorem c_gc : (['c', 'u', 't'] == "gc".toList) = false := by kernel_rfl
theorem c_spec : (['c', 'u', 't'] == "spec".toList) = false := by kernel_rfl
theorem c_cut : (['c', 'u', 't'] == "cut".toList) = true := by kernel_rfl
theorem c_carried : (['c', 'u', 't'] == "carried".toList) = false := by kernel_rfl
theorem c_strip (R : List (List Char)) : stripLifts liftWords (['c', 'u', 't'] :: R) = ([], ['c', 'u', 't'] :: R) := by kernel_rfl
theorem lifts_of {P : Program} {R : List (List Char)} (h : behindMainWord (wordsSigns P.initOrder.toList) = ['c', 'u', 't'] :: R) : P.liftsFinal = false := by
  unfold Program.liftsFinal Program.headLifts
  rw [h]
  kernel_rfl
theorem make_of {P : Program} {R : List (List Char)} (h : behindMainWord (wordsSigns P.initOrder.toList) = ['c', 'u', 't'] :: R) : P.make = some .cut := by
  unfold Program.make
  rw [h]
  simp only [c_gc, c_spec, c_cut, Bool.or_false, Bool.false_or, Bool.true_or, if_true, if_false, Bool.false_eq_true]
theorem enter_of {P : Program} {R : List (List Char)} (h : behindMainWord (wordsSigns P.initOrder.toList) = ['c', 'u', 't'] :: R) (h2 : P.laysLater = false) (h3 : P.bearsReflect = false) (h4 : P.doorFits [] = true) : P.mayEnter = true := by
  unfold Program.mayEnter
  rw [h]
  simp only [c_gc, c_spec, c_carried, c_strip, h2, h3, h4]
  kernel_rfl
theorem lays_is : Try.pinned.checked.prog.laysLater = false := by kernel_rfl
theorem reflect_is : Try.pinned.checked.prog.bearsReflect = false := by kernel_rfl
theorem door_is : Try.pinned.checked.prog.doorFits [] = true := by kernel_rfl
theorem lifts_is : Try.pinned.checked.prog.liftsFinal = false := by
  obtain ⟨R, h⟩ := order_words
  exact lifts_of h
theorem make_is : Try.pinned.checked.prog.make = some .cut := by
  obtain ⟨R, h⟩ := order_words
  exact make_of h
theorem enter_is : Try.pinned.checked.prog.mayEnter = true := by
  obtain ⟨R, h⟩ := order_words
  exact enter_of h lays_is reflect_is door_is
end Go.Proofs.Ytedccmojbmlkcaa.Facts

