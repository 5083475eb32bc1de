import Derived.Test.YtedccmojbmlkcaaE16
import Derived.WideShapes
import Derived.OpenShut
import Derived.ChangeSlices
import Derived.RowKit
import Derived.Test.YtedccmojbmlkcaaRows
import Derived.ProofKit
import Derived.JoinedOf
import Derived.KernelRfl
set_option linter.unusedVariables false
set_option linter.unusedSimpArgs false
set_option linter.unusedSectionVars false
namespace Go.Eng.B
open Go Go.Eng Go.Proofs
set_option maxRecDepth 100000
set_option maxHeartbeats 2000000
def sCd (s a : List Nat) (q : Bool) (c d r : List Nat) (s2 a2 : List Nat) (q2 : Bool) (c2 d2 r2 id : List Nat) (n : Int) : St := ⟨96, [(2, .sl .u8 id), (4, .i .i64 n), (6, .ptr 0 0 (.c 0)), (37, .osl 3 2 6), (38, .c .i64 2), (39, .c .i64 0)], [(0, ⟨44, [.sl .u8 s, .sl .u8 a, .b q, .sl .u8 c, .sl .u8 d, .sl .u8 r], false⟩), (3, ⟨44, [.sl .u8 s, .sl .u8 a, .b q, .sl .u8 c, .sl .u8 d, .sl .u8 r, .sl .u8 s2, .sl .u8 a2, .b q2, .sl .u8 c2, .sl .u8 d2, .sl .u8 r2], false⟩)], 4, 0⟩
theorem iv_le {v : Bool} {l : List Nat} {n : Nat} (h : v = true → l.length ≤ n) : (iv v l).length ≤ n := by
  cases v with
  | false => simp [iv]
  | true => simpa [iv] using h rfl
theorem iv_all {g : List Nat → List Nat} (hl : ∀ b, (g b).length = 32) (s a : List Nat) (q : Bool) (c d r : List Nat) : (iv (validB s a q c d r) s).length ≤ 64 ∧ (iv (validB s a q c d r) a).length ≤ 64 ∧ (iv (validB s a q c d r) c).length ≤ 16 ∧ (iv (validB s a q c d r) d).length ≤ 7 ∧ (iv (validB s a q c d r) r).length ≤ 7 ∧
    (iv (validB s a q c d r) (derK g s a d c q)).length ≤ 16 ∧ (iv (validB s a q c d r) (derK g s a r c q)).length ≤ 16 ∧ (iv (validB s a q c d r) (derI g s a c q)).length ≤ 13 :=
  ⟨iv_le fun h => (valid_len h).1, iv_le fun h => (valid_len h).2.1, iv_le fun h => (valid_len h).2.2.1, iv_le fun h => (valid_len h).2.2.2.1, iv_le fun h => (valid_len h).2.2.2.2, iv_le fun _ => by rw [derK_len hl]; omega, iv_le fun _ => by rw [derK_len hl]; omega, iv_le fun _ => by rw [derI_len hl]; omega⟩
theorem sam9_refl (s a : List Nat) (q : Bool) (c d r x y z : List Nat) : (!(sam6 s a q c d r s a q c d r && decide (x = x) && decide (y = y) && decide (z = z))) = false := by rw [sam6_refl]; simp
section
variable {g h : List Nat → List Nat} (hg : g = sum32) (hh : h = sum64) {w0 : World} {S : Own} {res : SV}
include hg hh
theorem cd1 (s a : List Nat) (q : Bool) (c d r : List Nat) (s2 a2 : List Nat) (q2 : Bool) (c2 d2 r2 id : List Nat) (n : Int) (hi : id.length ≤ 900) (hc : c.length ≤ 900) (hr : res = .b true) : Hold Try.prog (bodyOf Try.f7) (Fin Try.prog Try.f7 w0 S res) w0 S [.lp [0, 1, 0, 1, 1, 1], .blk 0, .at [1, 1, 1, 1]] (sCd s a q c d r s2 a2 q2 c2 d2 r2 id n) := by
  have hl : ∀ b, (g b).length = 32 := by rw [hg]; exact sum32_len
  rw [hr]
  obtain ⟨x1, x2, x3, x4, x5, x6, x7, x8⟩ := iv_all hl s a q c d r
  obtain ⟨y1, y2, y3, y4, y5, y6, y7, y8⟩ := iv_all hl s2 a2 q2 c2 d2 r2
  have k3 : ([75, 101, 121] : List Nat).length = 3 := rfl
  exact hold_endw mixed (okD5 hg hh) (unroll := true) (f := 3000) (sc := [false, false, false, false, false, false, false, false, true]) (r := (Go.Eng.SV.cb Bool.true)) (ob := [(Go.Eng.B.ivE (Go.Eng.B.validB s a q c d r) != Go.Eng.B.ivE (Go.Eng.B.validB s a q c d r)) = Bool.false, (!(Go.Eng.B.sam6 (Go.Eng.B.iv (Go.Eng.B.validB s a q c d r) s) (Go.Eng.B.iv (Go.Eng.B.validB s a q c d r) a) (Go.Eng.B.validB s a q c d r && q) (Go.Eng.B.iv (Go.Eng.B.validB s a q c d r) c) (Go.Eng.B.iv (Go.Eng.B.validB s a q c d r) d) (Go.Eng.B.iv (Go.Eng.B.validB s a q c d r) r) (Go.Eng.B.iv (Go.Eng.B.validB s a q c d r) s) (Go.Eng.B.iv (Go.Eng.B.validB s a q c d r) a) (Go.Eng.B.validB s a q c d r && q) (Go.Eng.B.iv (Go.Eng.B.validB s a q c d r) c) (Go.Eng.B.iv (Go.Eng.B.validB s a q c d r) d) (Go.Eng.B.iv (Go.Eng.B.validB s a q c d r) r) && Decidable.decide (Go.Eng.B.iv (Go.Eng.B.validB s a q c d r) (Go.Eng.B.derK g s a d c q) = Go.Eng.B.iv (Go.Eng.B.validB s a q c d r) (Go.Eng.B.derK g s a d c q)) && Decidable.decide (Go.Eng.B.iv (Go.Eng.B.validB s a q c d r) (Go.Eng.B.derK g s a r c q) = Go.Eng.B.iv (Go.Eng.B.validB s a q c d r) (Go.Eng.B.derK g s a r c q)) && Decidable.decide (Go.Eng.B.iv (Go.Eng.B.validB s a q c d r) (Go.Eng.B.derI g s a c q) = Go.Eng.B.iv (Go.Eng.B.validB s a q c d r) (Go.Eng.B.derI g s a c q)))) = Bool.false, (Go.Eng.B.validB s a q c d r != Go.Eng.B.validB s a q c d r) = Bool.false, (Go.Eng.B.iv (Go.Eng.B.validB s a q c d r) s).length ≤ (1000000 : Nat), (Go.Eng.B.iv (Go.Eng.B.validB s a q c d r) a).length ≤ (1000000 : Nat), (Go.Eng.B.iv (Go.Eng.B.validB s a q c d r) c).length ≤ (1000000 : Nat), (Go.Eng.B.iv (Go.Eng.B.validB s a q c d r) d).length ≤ (1000000 : Nat), (Go.Eng.B.iv (Go.Eng.B.validB s a q c d r) r).length ≤ (1000000 : Nat), (Go.Eng.B.iv (Go.Eng.B.validB s a q c d r) (Go.Eng.B.derK g s a d c q)).length ≤ (1000000 : Nat), (Go.Eng.B.iv (Go.Eng.B.validB s a q c d r) (Go.Eng.B.derK g s a r c q)).length ≤ (1000000 : Nat), (Go.Eng.B.iv (Go.Eng.B.validB s a q c d r) (Go.Eng.B.derI g s a c q)).length ≤ (1000000 : Nat), (Go.Eng.B.iv (Go.Eng.B.validB s a q c d r) s).length ≤ (1000000 : Nat), (Go.Eng.B.iv (Go.Eng.B.validB s a q c d r) a).length ≤ (1000000 : Nat), (Go.Eng.B.iv (Go.Eng.B.validB s a q c d r) c).length ≤ (1000000 : Nat), (Go.Eng.B.iv (Go.Eng.B.validB s a q c d r) d).length ≤ (1000000 : Nat), (Go.Eng.B.iv (Go.Eng.B.validB s a q c d r) r).length ≤ (1000000 : Nat), (Go.Eng.B.iv (Go.Eng.B.validB s a q c d r) (Go.Eng.B.derK g s a d c q)).length ≤ (1000000 : Nat), (Go.Eng.B.iv (Go.Eng.B.validB s a q c d r) (Go.Eng.B.derK g s a r c q)).length ≤ (1000000 : Nat), (Go.Eng.B.iv (Go.Eng.B.validB s a q c d r) (Go.Eng.B.derI g s a c q)).length ≤ (1000000 : Nat), (!(Go.Eng.B.sam6 (Go.Eng.B.iv (Go.Eng.B.validB s a q c d r) s) (Go.Eng.B.iv (Go.Eng.B.validB s a q c d r) a) (Go.Eng.B.validB s a q c d r && q) (Go.Eng.B.iv (Go.Eng.B.validB s a q c d r) c) (Go.Eng.B.iv (Go.Eng.B.validB s a q c d r) r) (Go.Eng.B.iv (Go.Eng.B.validB s a q c d r) d) (Go.Eng.B.iv (Go.Eng.B.validB s a q c d r) s) (Go.Eng.B.iv (Go.Eng.B.validB s a q c d r) a) (Go.Eng.B.validB s a q c d r && q) (Go.Eng.B.iv (Go.Eng.B.validB s a q c d r) c) (Go.Eng.B.iv (Go.Eng.B.validB s a q c d r) r) (Go.Eng.B.iv (Go.Eng.B.validB s a q c d r) d) && Decidable.decide (Go.Eng.B.iv (Go.Eng.B.validB s a q c d r) (Go.Eng.B.derK g s a r c q) = Go.Eng.B.iv (Go.Eng.B.validB s a q c d r) (Go.Eng.B.derK g s a r c q)) && Decidable.decide (Go.Eng.B.iv (Go.Eng.B.validB s a q c d r) (Go.Eng.B.derK g s a d c q) = Go.Eng.B.iv (Go.Eng.B.validB s a q c d r) (Go.Eng.B.derK g s a d c q)) && Decidable.decide (Go.Eng.B.iv (Go.Eng.B.validB s a q c d r) (Go.Eng.B.derI g s a c q) = Go.Eng.B.iv (Go.Eng.B.validB s a q c d r) (Go.Eng.B.derI g s a c q)))) = Bool.false, (Go.Eng.B.ivE (Go.Eng.B.validB s2 a2 q2 c2 d2 r2) != Go.Eng.B.ivE (Go.Eng.B.validB s2 a2 q2 c2 d2 r2)) = Bool.false, (!(Go.Eng.B.sam6 (Go.Eng.B.iv (Go.Eng.B.validB s2 a2 q2 c2 d2 r2) s2) (Go.Eng.B.iv (Go.Eng.B.validB s2 a2 q2 c2 d2 r2) a2) (Go.Eng.B.validB s2 a2 q2 c2 d2 r2 && q2) (Go.Eng.B.iv (Go.Eng.B.validB s2 a2 q2 c2 d2 r2) c2) (Go.Eng.B.iv (Go.Eng.B.validB s2 a2 q2 c2 d2 r2) d2) (Go.Eng.B.iv (Go.Eng.B.validB s2 a2 q2 c2 d2 r2) r2) (Go.Eng.B.iv (Go.Eng.B.validB s2 a2 q2 c2 d2 r2) s2) (Go.Eng.B.iv (Go.Eng.B.validB s2 a2 q2 c2 d2 r2) a2) (Go.Eng.B.validB s2 a2 q2 c2 d2 r2 && q2) (Go.Eng.B.iv (Go.Eng.B.validB s2 a2 q2 c2 d2 r2) c2) (Go.Eng.B.iv (Go.Eng.B.validB s2 a2 q2 c2 d2 r2) d2) (Go.Eng.B.iv (Go.Eng.B.validB s2 a2 q2 c2 d2 r2) r2) && Decidable.decide (Go.Eng.B.iv (Go.Eng.B.validB s2 a2 q2 c2 d2 r2) (Go.Eng.B.derK g s2 a2 d2 c2 q2) = Go.Eng.B.iv (Go.Eng.B.validB s2 a2 q2 c2 d2 r2) (Go.Eng.B.derK g s2 a2 d2 c2 q2)) && Decidable.decide (Go.Eng.B.iv (Go.Eng.B.validB s2 a2 q2 c2 d2 r2) (Go.Eng.B.derK g s2 a2 r2 c2 q2) = Go.Eng.B.iv (Go.Eng.B.validB s2 a2 q2 c2 d2 r2) (Go.Eng.B.derK g s2 a2 r2 c2 q2)) && Decidable.decide (Go.Eng.B.iv (Go.Eng.B.validB s2 a2 q2 c2 d2 r2) (Go.Eng.B.derI g s2 a2 c2 q2) = Go.Eng.B.iv (Go.Eng.B.validB s2 a2 q2 c2 d2 r2) (Go.Eng.B.derI g s2 a2 c2 q2)))) = Bool.false, (Go.Eng.B.validB s2 a2 q2 c2 d2 r2 != Go.Eng.B.validB s2 a2 q2 c2 d2 r2) = Bool.false, (Go.Eng.B.iv (Go.Eng.B.validB s2 a2 q2 c2 d2 r2) s2).length ≤ (1000000 : Nat), (Go.Eng.B.iv (Go.Eng.B.validB s2 a2 q2 c2 d2 r2) a2).length ≤ (1000000 : Nat), (Go.Eng.B.iv (Go.Eng.B.validB s2 a2 q2 c2 d2 r2) c2).length ≤ (1000000 : Nat), (Go.Eng.B.iv (Go.Eng.B.validB s2 a2 q2 c2 d2 r2) d2).length ≤ (1000000 : Nat), (Go.Eng.B.iv (Go.Eng.B.validB s2 a2 q2 c2 d2 r2) r2).length ≤ (1000000 : Nat), (Go.Eng.B.iv (Go.Eng.B.validB s2 a2 q2 c2 d2 r2) (Go.Eng.B.derK g s2 a2 d2 c2 q2)).length ≤ (1000000 : Nat), (Go.Eng.B.iv (Go.Eng.B.validB s2 a2 q2 c2 d2 r2) (Go.Eng.B.derK g s2 a2 r2 c2 q2)).length ≤ (1000000 : Nat), (Go.Eng.B.iv (Go.Eng.B.validB s2 a2 q2 c2 d2 r2) (Go.Eng.B.derI g s2 a2 c2 q2)).length ≤ (1000000 : Nat), (Go.Eng.B.iv (Go.Eng.B.validB s2 a2 q2 c2 d2 r2) s2).length ≤ (1000000 : Nat), (Go.Eng.B.iv (Go.Eng.B.validB s2 a2 q2 c2 d2 r2) a2).length ≤ (1000000 : Nat), (Go.Eng.B.iv (Go.Eng.B.validB s2 a2 q2 c2 d2 r2) c2).length ≤ (1000000 : Nat), (Go.Eng.B.iv (Go.Eng.B.validB s2 a2 q2 c2 d2 r2) d2).length ≤ (1000000 : Nat), (Go.Eng.B.iv (Go.Eng.B.validB s2 a2 q2 c2 d2 r2) r2).length ≤ (1000000 : Nat), (Go.Eng.B.iv (Go.Eng.B.validB s2 a2 q2 c2 d2 r2) (Go.Eng.B.derK g s2 a2 d2 c2 q2)).length ≤ (1000000 : Nat), (Go.Eng.B.iv (Go.Eng.B.validB s2 a2 q2 c2 d2 r2) (Go.Eng.B.derK g s2 a2 r2 c2 q2)).length ≤ (1000000 : Nat), (Go.Eng.B.iv (Go.Eng.B.validB s2 a2 q2 c2 d2 r2) (Go.Eng.B.derI g s2 a2 c2 q2)).length ≤ (1000000 : Nat), (!(Go.Eng.B.sam6 (Go.Eng.B.iv (Go.Eng.B.validB s2 a2 q2 c2 d2 r2) s2) (Go.Eng.B.iv (Go.Eng.B.validB s2 a2 q2 c2 d2 r2) a2) (Go.Eng.B.validB s2 a2 q2 c2 d2 r2 && q2) (Go.Eng.B.iv (Go.Eng.B.validB s2 a2 q2 c2 d2 r2) c2) (Go.Eng.B.iv (Go.Eng.B.validB s2 a2 q2 c2 d2 r2) r2) (Go.Eng.B.iv (Go.Eng.B.validB s2 a2 q2 c2 d2 r2) d2) (Go.Eng.B.iv (Go.Eng.B.validB s2 a2 q2 c2 d2 r2) s2) (Go.Eng.B.iv (Go.Eng.B.validB s2 a2 q2 c2 d2 r2) a2) (Go.Eng.B.validB s2 a2 q2 c2 d2 r2 && q2) (Go.Eng.B.iv (Go.Eng.B.validB s2 a2 q2 c2 d2 r2) c2) (Go.Eng.B.iv (Go.Eng.B.validB s2 a2 q2 c2 d2 r2) r2) (Go.Eng.B.iv (Go.Eng.B.validB s2 a2 q2 c2 d2 r2) d2) && Decidable.decide (Go.Eng.B.iv (Go.Eng.B.validB s2 a2 q2 c2 d2 r2) (Go.Eng.B.derK g s2 a2 r2 c2 q2) = Go.Eng.B.iv (Go.Eng.B.validB s2 a2 q2 c2 d2 r2) (Go.Eng.B.derK g s2 a2 r2 c2 q2)) && Decidable.decide (Go.Eng.B.iv (Go.Eng.B.validB s2 a2 q2 c2 d2 r2) (Go.Eng.B.derK g s2 a2 d2 c2 q2) = Go.Eng.B.iv (Go.Eng.B.validB s2 a2 q2 c2 d2 r2) (Go.Eng.B.derK g s2 a2 d2 c2 q2)) && Decidable.decide (Go.Eng.B.iv (Go.Eng.B.validB s2 a2 q2 c2 d2 r2) (Go.Eng.B.derI g s2 a2 c2 q2) = Go.Eng.B.iv (Go.Eng.B.validB s2 a2 q2 c2 d2 r2) (Go.Eng.B.derI g s2 a2 c2 q2)))) = Bool.false, id.length ≤ (10000000 : Nat), c.length ≤ (10000000 : Nat), (3 : Nat) ≤ (10000000 : Nat), id.length ≤ (1000000 : Nat), c.length ≤ (1000000 : Nat), (3 : Nat) ≤ (1000000 : Nat), Decidable.decide (Go.Eng.B.infoL id c q [(75 : Nat), (101 : Nat), (121 : Nat)] n = Go.Eng.B.infoL id c q [(75 : Nat), (101 : Nat), (121 : Nat)] n) = Bool.true]) (sc' := []) (by kernel_rfl) (by repeat' first | exact trivial | exact bne_self_eq_false _ | exact sam9_refl _ _ _ _ _ _ _ _ _ | exact decide_eq_true rfl | omega | (rw [k3]; omega) | refine ⟨?_, ?_⟩) (by simp [wkR, wk, wk0])
theorem ContextDerives_aux (l : List Int) (s a : List Nat) (q : Bool) (c d r id kd : List Nat) (n : Int) (hk : kd.length < 9223372036854775808) : Contract Try.prog 7 [.sli l, in6 s a q c d r, .sl .u8 id, .str kd, .i .i64 n] (.b true) := by
  refine contract Try.func7 (body := bodyOf Try.f7) rfl (by kernel_rfl) (by kernel_rfl) rfl ?_
  intro _ w0 S
  cases ha : allB [s, a, c, d, r] with
  | false =>
    exact hold_endw mixed (okD5 hg hh) (unroll := true) (f := 1000) (sc := [true]) (r := (Go.Eng.SV.cb Bool.true)) (ob := [(!Go.Eng.B.allB [s, a, c, d, r]) = Bool.true]) (sc' := []) (by kernel_rfl) ⟨by rw [ha]; rfl, trivial⟩ (by simp [wkR, wk, wk0])
  | true =>
    by_cases hi : id.length ≤ 900
    · by_cases hl : 300 < kd.length
      · exact hold_endw mixed (okD5 hg hh) (unroll := true) (f := 1000) (sc := [false, false, true]) (r := (Go.Eng.SV.cb Bool.true)) (ob := [(!Go.Eng.B.allB [s, a, c, d, r]) = Bool.false, (!Decidable.decide (id.length ≤ (900 : Nat))) = Bool.false, kd.length < (9223372036854775808 : Nat), Decidable.decide ((300 : Nat) < kd.length) = Bool.true]) (sc' := []) (by kernel_rfl) ⟨by rw [ha]; rfl, by rw [decide_eq_true hi]; rfl, hk, decide_eq_true hl, trivial⟩ (by simp [wkR, wk, wk0])
      · refine hold_cut mixed (okD5 hg hh) (unroll := false) (f := 1000) (sc := [false, false, false]) (ks := [2, 4, 6, 37, 38, 39]) (bs := [0, 3]) (nx := 4) (st' := [Go.Eng.It.lp [(0 : Nat), (1 : Nat), (0 : Nat), (1 : Nat), (1 : Nat), (1 : Nat)], Go.Eng.It.blk (0 : Nat), Go.Eng.It.at [(1 : Nat), (1 : Nat), (1 : Nat), (1 : Nat)]]) (σ' := { nt := (96 : Nat), slots := [((2 : Nat), Go.Eng.SV.sl Go.IntKind.u8 id), ((4 : Nat), Go.Eng.SV.i Go.IntKind.i64 n), ((6 : Nat), Go.Eng.SV.ptr (0 : Nat) (0 : Nat) (Go.Eng.Ix.c (0 : Nat))), ((37 : Nat), Go.Eng.SV.osl (3 : Nat) (2 : Nat) (6 : Nat)), ((38 : Nat), Go.Eng.SV.c Go.IntKind.i64 (2 : Int)), ((39 : Nat), Go.Eng.SV.c Go.IntKind.i64 (0 : Int))], blks := [((0 : Nat), { ty := (44 : Nat), segs := [Go.Eng.SV.sl Go.IntKind.u8 s, Go.Eng.SV.sl Go.IntKind.u8 a, Go.Eng.SV.b q, Go.Eng.SV.sl Go.IntKind.u8 c, Go.Eng.SV.sl Go.IntKind.u8 d, Go.Eng.SV.sl Go.IntKind.u8 r] }), ((3 : Nat), { ty := (44 : Nat), segs := [Go.Eng.SV.sl Go.IntKind.u8 s, Go.Eng.SV.sl Go.IntKind.u8 a, Go.Eng.SV.b q, Go.Eng.SV.sl Go.IntKind.u8 c, Go.Eng.SV.sl Go.IntKind.u8 d, Go.Eng.SV.sl Go.IntKind.u8 r, Go.Eng.SV.sl Go.IntKind.u8 (Go.Eng.B.iS l (0 : Nat)), Go.Eng.SV.sl Go.IntKind.u8 (Go.Eng.B.iA l (0 : Nat)), Go.Eng.SV.b (Go.Eng.B.iQ l (0 : Nat)), Go.Eng.SV.sl Go.IntKind.u8 (Go.Eng.B.iC l (0 : Nat)), Go.Eng.SV.sl Go.IntKind.u8 (Go.Eng.B.iD l (0 : Nat)), Go.Eng.SV.sl Go.IntKind.u8 (Go.Eng.B.iR l (0 : Nat))] })], next := (4 : Nat) }) (ob := [(!Go.Eng.B.allB [s, a, c, d, r]) = Bool.false, (!Decidable.decide (id.length ≤ (900 : Nat))) = Bool.false, kd.length < (9223372036854775808 : Nat), Decidable.decide ((300 : Nat) < kd.length) = Bool.false]) (sc' := []) (by kernel_rfl) ⟨by rw [ha]; rfl, by rw [decide_eq_true hi]; rfl, hk, decide_eq_false hl, trivial⟩ ?_
        have hc : c.length ≤ 900 := by simp only [allB, List.all_cons, List.all_nil, Bool.and_true, Bool.and_eq_true, decide_eq_true_eq] at ha; omega
        exact (cd1 hg hh s a q c d r (iS l 0) (iA l 0) (iQ l 0) (iC l 0) (iD l 0) (iR l 0) id n hi hc rfl).cast rfl
    · exact hold_endw mixed (okD5 hg hh) (unroll := true) (f := 1000) (sc := [false, true]) (r := (Go.Eng.SV.cb Bool.true)) (ob := [(!Go.Eng.B.allB [s, a, c, d, r]) = Bool.false, (!Decidable.decide (id.length ≤ (900 : Nat))) = Bool.true]) (sc' := []) (by kernel_rfl) ⟨by rw [ha]; rfl, by rw [decide_eq_false hi]; rfl, trivial⟩ (by simp [wkR, wk, wk0])
end
theorem ContextDerives_c (l : List Int) (s a : List Nat) (q : Bool) (c d r id kd : List Nat) (n : Int) (hk : kd.length < 9223372036854775808) : Contract Try.prog 7 [.sli l, in6 s a q c d r, .sl .u8 id, .str kd, .i .i64 n] (.b true) := ContextDerives_aux rfl rfl l s a q c d r id kd n hk
end Go.Eng.B

namespace Go.Eng
open Go.RowKit
theorem has_inR {k : IntKind} {n : Int} (h : k.has n) : inR k n := by
  cases k <;> simp only [IntKind.has, IntKind.min, IntKind.max, IntKind.signed, IntKind.bits, inR, lo, lim] at * <;> simp at h ⊢ <;> omega
theorem int_of {P : Program} {w : World} {r : Reach} {base : Nat} {t : TypeId} {v : Value} {k : IntKind} (ht : P.underlying t = some (.int k)) (h : Value.okWide P w r base t v) : ∃ n, v = .int k n ∧ k.has n := by
  obtain ⟨n, rfl⟩ := WideShapes.okWide_int ht h
  refine ⟨n, rfl, ?_⟩
  simpa [Value.okWide, Cell.okWide, Cell.ok, ht] using h
theorem open_i {P : Program} {w : World} {r : Reach} {base : Nat} {t : TypeId} {v : Value} {k : IntKind} (ht : P.underlying t = some (.int k)) (h : Value.okWide P w r base t v) {β : Nat → Nat} {ow : Own} {w' : World} :
    ∃ n, relV1 β ow w' (.i k n) v := by
  obtain ⟨n, rfl, hn⟩ := int_of ht h
  exact ⟨n, _, rel_i (has_inR hn), rfl⟩
theorem ints_of {k : IntKind} (hk : k.signed = false) : ∀ (cs : List Value), (∀ v ∈ cs, ∃ n, v = .int k n ∧ k.has n) → ∃ l : List Nat, cs = ints k l ∧ l.length = cs.length ∧ ∀ x ∈ l, x < lim k := by
  intro cs
  induction cs with
  | nil => intro _; exact ⟨[], rfl, rfl, by simp⟩
  | cons v cs ih =>
    intro h
    obtain ⟨l, h1, h2, h3⟩ := ih fun u hu => h u (by simp [hu])
    obtain ⟨n, rfl, hn⟩ := h v (by simp)
    have hr := has_inR hn
    have h0 : 0 ≤ n := by cases k <;> simp [IntKind.signed] at hk <;> simp only [inR, lo] at hr <;> omega
    refine ⟨n.toNat :: l, ?_, by simp [h2], ?_⟩
    · simp only [ints, List.map_cons, Int.toNat_of_nonneg h0]
      rw [h1]; rfl
    · intro x hx
      rcases List.mem_cons.1 hx with rfl | hx
      · have := hr.2; omega
      · exact h3 x hx
theorem open_arr {P : Program} {w : World} {r : Reach} {base : Nat} {t e u : TypeId} {v : Value} {k : IntKind} {n : Nat} (ht : P.underlying t = some (.array n e)) (hct : P.cellTypes P.depth t = some (List.replicate n u)) (hsz : P.cellsOf t = n)
    (hu : P.underlying u = some (.int k)) (hk : k.signed = false) (h : Value.okWide P w r base t v) {β : Nat → Nat} {ow : Own} {w' : World} : ∃ l, relV1 β ow w' (.arr k n l) v := by
  simp only [Value.okWide, ht] at h
  obtain ⟨cs, rfl, hs, ts, hts, _, hc⟩ := h
  rw [hct] at hts
  cases hts
  obtain ⟨l, h1, h2, h3⟩ := ints_of hk cs.toList fun v hv => by
    obtain ⟨i, hi⟩ := List.getElem?_of_mem hv
    obtain ⟨u', hu', hok⟩ := hc i v (by simpa using hi)
    have : u' = u := by
      have := List.mem_of_getElem? hu'
      exact List.eq_of_mem_replicate this
    subst this
    exact int_of (w := w) (r := r) (base := base) hu (by simp only [Value.okWide, hu]; exact hok)
  refine ⟨l, ints k l, rel_arr ?_ h3, ?_⟩
  · rw [h2]; simp [hs, hsz]
  · simp only [SV.isAgg, toV, if_true]
    rw [← h1]
theorem Contract.calls {P : Program} {f : FuncId} {fn : Func} {body : Code} {args : List SV} {res : SV} (h : Contract P f args res) (hf : P.funcs[f]? = some fn) (hb : fn.body = some body) (hname : (fn.name == "runtime.NumGoroutine") = false)
    {w : World} {vs : List Value} (hv : relVs (fun _ => 0) (fun _ _ => False) w args vs) :
    Calls P f vs.toArray w fun e w' => ∃ v, e = .returned v ∧ Below w.heap.size w w' ∧ relV (fun _ => 0) (fun _ _ => False) w' res v := by
  have h1 := h w (fun _ _ => False) vs (fun _ _ h => h.elim) hv
  unfold Invokes at h1
  have hcall : (callFunc f vs.toArray).run P w = .ok (.enter f vs.toArray) w := by
    have hne : ¬ fn.name = "runtime.NumGoroutine" := by simpa using hname
    simp [callFunc, hf, hb, hne]
  rw [hcall] at h1
  exact h1
end Go.Eng

namespace Go.Eng
open Go.RowKit Go.ChangeShapes Go.WideShapes
section
variable {H : Type} {enc : TypeId × Value → H} {P : Program} {w : World} {sp : Nat → Bool} {held : Bool} {r : Reach} {b0 : Nat} {t e : TypeId} {v : Value} {d : DataW H} {ps : List MemPlace} {k : IntKind}
theorem wf_inR {n : Int} (h : (Lit.int k n).wf = true) : inR k n := by
  apply has_inR
  have h : k.min ≤ n ∧ n ≤ k.max := by simpa [Lit.wf] using h
  exact h
theorem open_zs (ht : P.underlying t = some (.slice e)) (he : P.underlying e = some (.int k)) (hc : P.cellsOf e = 1) (hval : Value.okWide P w r b0 t v) (hd : DataW.Trod enc P w 0 sp held t v d ps) :
    ∃ zs : List Int, ReadsAs (fun _ _ => False) w v (zs.map fun n : Int => Value.int k n) ∧ ∀ n ∈ zs, inR k n := by
  obtain ⟨a0, len, cap, rfl⟩ := okWide_slice ht hval
  obtain ⟨fuel, hf⟩ := hd
  rcases ChangeShapes.open_ints ht he hc hf with ⟨h1, _⟩ | ⟨a, len', cap', zs, h1, _, hl, hm, hz, _, hcell, hwf⟩
  · simp only [Value.cells, List.cons.injEq, and_true] at h1
    cases h1
    exact ⟨[], ⟨none, 0, 0, rfl, rfl, Nat.le_refl _, by omega, fun h => absurd h (by omega)⟩, by simp⟩
  · simp only [Value.cells, List.cons.injEq, and_true] at h1
    cases h1
    have hle : len ≤ zs.length := by rw [hz]; split <;> omega
    have hmax : cap < 9223372036854775808 := by simp only [maxLen] at hm; omega
    refine ⟨zs.take len, ⟨some a, len, cap, rfl, by simp; omega, hl, hmax, fun hp => ⟨a, rfl, ?_, fun _ _ h => h, fun j u hu => ?_⟩⟩, fun n hn => wf_inR (hwf n (List.mem_of_mem_take hn))⟩
    · have := hcell 0 (by omega)
      simp only [Addr.add, if_true] at this
      cases hs : a.spot with
      | none => rfl
      | some q => simp [World.cell?, hs] at this; split at this <;> cases this
    · have hj : j < len := by
        have := (List.getElem?_eq_some_iff.1 hu).1
        simp at this; omega
      have h0 := hcell 0 (by omega)
      have hs : a.spot = none := by
        simp only [Addr.add, if_true] at h0
        cases hs : a.spot with
        | none => rfl
        | some q => simp [World.cell?, hs] at h0; split at h0 <;> cases h0
      have := hcell j (by omega)
      rw [add_spot hs] at this
      rw [this]
      simp only [List.getElem?_map, List.getElem?_take_of_lt hj, Option.map_eq_some_iff] at hu
      obtain ⟨z, hz1, rfl⟩ := hu
      simp [List.getD_eq_getElem?_getD, hz1]
theorem nats_of (hk : k.signed = false) : ∀ (zs : List Int), (∀ n ∈ zs, inR k n) → ∃ l : List Nat, (zs.map fun n : Int => Value.int k n) = ints k l ∧ ∀ x ∈ l, x < lim k := by
  intro zs
  induction zs with
  | nil => intro _; exact ⟨[], rfl, by simp⟩
  | cons n zs ih =>
    intro h
    obtain ⟨l, h1, h2⟩ := ih fun m hm => h m (by simp [hm])
    have hr := h n (by simp)
    have h0 : 0 ≤ n := by cases k <;> simp [IntKind.signed] at hk <;> simp only [inR, lo] at hr <;> omega
    refine ⟨n.toNat :: l, by simp only [ints, List.map_cons, Int.toNat_of_nonneg h0, h1], ?_⟩
    intro x hx
    rcases List.mem_cons.1 hx with rfl | hx
    · have := hr.2; omega
    · exact h2 x hx
theorem open_bytes {β : Nat → Nat} (ht : P.underlying t = some (.slice e)) (he : P.underlying e = some (.int k)) (hk : k.signed = false) (hc : P.cellsOf e = 1) (hval : Value.okWide P w r b0 t v) (hd : DataW.Trod enc P w 0 sp held t v d ps) :
    ∃ l, relV1 β (fun _ _ => False) w (.sl k l) v := by
  obtain ⟨zs, h1, h2⟩ := open_zs ht he hc hval hd
  obtain ⟨l, h3, h4⟩ := nats_of hk zs h2
  rw [h3] at h1
  exact ⟨l, [v], by simp only [rel]; exact ⟨⟨v, rfl, h1⟩, h4⟩, rfl⟩
theorem open_intl {β : Nat → Nat} (ht : P.underlying t = some (.slice e)) (he : P.underlying e = some (.int .i64)) (hc : P.cellsOf e = 1) (hval : Value.okWide P w r b0 t v) (hd : DataW.Trod enc P w 0 sp held t v d ps) :
    ∃ l, relV1 β (fun _ _ => False) w (.sli l) v := by
  obtain ⟨zs, h1, h2⟩ := open_zs ht he hc hval hd
  exact ⟨zs, [v], by simp only [rel]; exact ⟨⟨v, rfl, h1⟩, h2⟩, rfl⟩
theorem open_b {β : Nat → Nat} {ow : Own} {w' : World} (ht : P.underlying t = some .bool) (hval : Value.okWide P w r b0 t v) : ∃ x, relV1 β ow w' (.b x) v := by
  obtain ⟨b, rfl⟩ := okWide_bool ht hval
  exact ⟨b, _, rel_b, rfl⟩
theorem open_str {β : Nat → Nat} {ow : Own} {w' : World} (ht : P.underlying t = some .string) (hval : Value.okWide P w r b0 t v) : ∃ l, relV1 β ow w' (.str l) v := by
  obtain ⟨s, rfl⟩ := okWide_string ht hval
  have := constSV_ok (β := β) (ow := ow) (w := w') (v := .string s) (s := .str (s.data.toList.map (·.toNat))) rfl
  exact ⟨_, _, this.1, rfl⟩
end
end Go.Eng

namespace Go.Eng
open Go.RowKit Go.ChangeShapes Go.WideShapes
def structOf (P : Program) (t : TypeId) : Option (List (TypeId × Nat)) := match P.underlying t with
  | some (.struct fs) => some (fs.toList.map fun f => (f.type, f.offset))
  | _ => none
section
variable {H : Type} {enc : TypeId × Value → H} {P : Program} {w : World} {sp : Nat → Bool} {held : Bool} {r : Reach} {b0 : Nat} {t e : TypeId} {d : DataW H} {ps : List MemPlace} {k : IntKind}
theorem mapM_all {α β : Type} {f : α → Option β} : ∀ {l : List α} {ys : List β}, l.mapM f = some ys → ∀ x ∈ l, ∃ y, f x = some y := by
  intro l
  induction l with
  | nil => intro ys _ x hx; cases hx
  | cons a l ih =>
    intro ys h x hx
    rw [List.mapM_cons] at h
    cases ha : f a with
    | none => rw [ha] at h; cases h
    | some y =>
      rw [ha] at h
      cases hl : l.mapM f with
      | none => rw [hl] at h; cases h
      | some z =>
        rcases List.mem_cons.1 hx with rfl | hx
        · exact ⟨y, ha⟩
        · exact ih hl x hx
theorem open_bytesC {β : Nat → Nat} (ht : P.underlying t = some (.slice e)) (he : P.underlying e = some (.int k)) (hk : k.signed = false) (hc : P.cellsOf e = 1) {fuel : Nat} {cs : List Value} (hf : DataW.trod enc P w 0 sp held fuel t cs = some (d, ps)) :
    ∃ l, rel β (fun _ _ => False) w (.sl k l) cs := by
  rcases ChangeShapes.open_ints ht he hc hf with ⟨h1, _⟩ | ⟨a, len', cap', zs, h1, _, hl, hm, hz, _, hcell, hwf⟩
  · subst h1
    exact ⟨[], by simp only [rel]; exact ⟨⟨_, rfl, none, 0, 0, rfl, rfl, Nat.le_refl _, by omega, fun h => absurd h (by omega)⟩, by simp⟩⟩
  · subst h1
    have hle : len' ≤ zs.length := by rw [hz]; split <;> omega
    have hmax : cap' < 9223372036854775808 := by simp only [maxLen] at hm; omega
    have h2 : ReadsAs (fun _ _ => False) w (.slice (some a) len' cap') ((zs.take len').map fun n : Int => Value.int k n) := by
      refine ⟨some a, len', cap', rfl, by simp; omega, hl, hmax, fun hp => ⟨a, rfl, ?_, fun _ _ h => h, fun j u hu => ?_⟩⟩
      · have := hcell 0 (by omega)
        simp only [Addr.add, if_true] at this
        cases hs : a.spot with
        | none => rfl
        | some q => simp [World.cell?, hs] at this; split at this <;> cases this
      · have hj : j < len' := by
          have := (List.getElem?_eq_some_iff.1 hu).1
          simp at this; omega
        have h0 := hcell 0 (by omega)
        have hs : a.spot = none := by
          simp only [Addr.add, if_true] at h0
          cases hs : a.spot with
          | none => rfl
          | some q => simp [World.cell?, hs] at h0; split at h0 <;> cases h0
        have := hcell j (by omega)
        rw [add_spot hs] at this
        rw [this]
        simp only [List.getElem?_map, List.getElem?_take_of_lt hj, Option.map_eq_some_iff] at hu
        obtain ⟨z, hz1, rfl⟩ := hu
        simp [List.getD_eq_getElem?_getD, hz1]
    obtain ⟨l, h3, h4⟩ := nats_of hk (zs.take len') (fun n hn => wf_inR (hwf n (List.mem_of_mem_take hn)))
    rw [h3] at h2
    exact ⟨l, by simp only [rel]; exact ⟨⟨_, rfl, h2⟩, h4⟩⟩
theorem open_boolC {β : Nat → Nat} (ht : P.underlying t = some .bool) {fuel : Nat} {cs : List Value} (hf : DataW.trod enc P w 0 sp held fuel t cs = some (d, ps)) :
    ∃ b, rel β (fun _ _ => False) w (.b b) cs := by
  cases fuel with
  | zero => simp [DataW.trod] at hf
  | succ fuel =>
    simp only [DataW.trod, ht] at hf
    split at hf <;> first
      | exact ⟨_, rel_b⟩
      | (simp_all; done)
theorem open_in6 {β : Nat → Nat} {tB tO : TypeId} (ht : structOf P t = some [(tB, 0), (tB, 1), (tO, 2), (tB, 3), (tB, 4), (tB, 5)]) (hB : P.underlying tB = some (.slice e)) (he : P.underlying e = some (.int .u8)) (hc : P.cellsOf e = 1)
    (hO : P.underlying tO = some .bool) (cB : P.cellsOf tB = 1) (cO : P.cellsOf tO = 1) (cT : P.cellsOf t = 6) {v : Value} (hval : Value.okWide P w r b0 t v) (hd : DataW.Trod enc P w 0 sp held t v d ps) :
    ∃ (s a : List Nat) (q : Bool) (c g h : List Nat), relV1 β (fun _ _ => False) w (.ag [.sl .u8 s, .sl .u8 a, .b q, .sl .u8 c, .sl .u8 g, .sl .u8 h]) v := by
  unfold structOf at ht
  split at ht
  · rename_i fs hu
    simp only [Option.some.injEq] at ht
    unfold Value.okWide at hval
    rw [hu] at hval
    obtain ⟨cs, rfl, hsz, _⟩ := hval
    obtain ⟨fuel, hf⟩ := hd
    cases fuel with
    | zero => simp [DataW.trod] at hf
    | succ fuel =>
      simp only [DataW.trod, hu, Value.cells] at hf
      split at hf
      · rename_i hlen
        obtain ⟨xs, hx, _⟩ := Option.map_eq_some_iff.1 hf
        have fld : ∀ tt o, (tt, o) ∈ [(tB, 0), (tB, 1), (tO, 2), (tB, 3), (tB, 4), (tB, 5)] → ∃ y, DataW.trod enc P w 0 sp held fuel tt ((cs.toList.drop o).take (P.cellsOf tt)) = some y := by
          intro tt o hm
          rw [← ht] at hm
          obtain ⟨f, hf1, hf2⟩ := List.mem_map.1 hm
          cases hf2
          exact mapM_all hx f hf1
        rw [cT] at hlen
        obtain ⟨c0, c1, c2, c3, c4, c5, hcs⟩ : ∃ c0 c1 c2 c3 c4 c5, cs.toList = [c0, c1, c2, c3, c4, c5] := by
          match hl : cs.toList, hlen with
          | [c0, c1, c2, c3, c4, c5], _ => exact ⟨c0, c1, c2, c3, c4, c5, rfl⟩
        have f0 := fld tB 0 (by simp); have f1 := fld tB 1 (by simp); have f2 := fld tO 2 (by simp); have f3 := fld tB 3 (by simp); have f4 := fld tB 4 (by simp); have f5 := fld tB 5 (by simp)
        rw [hcs, cB] at f0 f1 f3 f4 f5
        rw [hcs, cO] at f2
        simp only [List.drop_zero, List.drop_succ_cons, List.take_succ_cons, List.take_zero] at f0 f1 f2 f3 f4 f5
        obtain ⟨⟨_, _⟩, f0⟩ := f0; obtain ⟨⟨_, _⟩, f1⟩ := f1; obtain ⟨⟨_, _⟩, f2⟩ := f2; obtain ⟨⟨_, _⟩, f3⟩ := f3; obtain ⟨⟨_, _⟩, f4⟩ := f4; obtain ⟨⟨_, _⟩, f5⟩ := f5
        obtain ⟨s, g0⟩ := open_bytesC (β := β) hB he rfl hc f0
        obtain ⟨a, g1⟩ := open_bytesC (β := β) hB he rfl hc f1
        obtain ⟨q, g2⟩ := open_boolC (β := β) hO f2
        obtain ⟨c, g3⟩ := open_bytesC (β := β) hB he rfl hc f3
        obtain ⟨g, g4⟩ := open_bytesC (β := β) hB he rfl hc f4
        obtain ⟨h, g5⟩ := open_bytesC (β := β) hB he rfl hc f5
        refine ⟨s, a, q, c, g, h, cs.toList, ?_, by simp [toV, SV.isAgg]⟩
        rw [hcs]
        simp only [rel, rels]
        simp only [rel] at g0 g1 g2 g3 g4 g5
        exact ⟨[c0], _, rfl, g0, [c1], _, rfl, g1, [c2], _, rfl, g2, [c3], _, rfl, g3, [c4], _, rfl, g4, [c5], _, rfl, g5, rfl⟩
      · cases hf
  · cases ht
theorem open_str2 {β : Nat → Nat} {ow : Own} {w' : World} {v : Value} {r : Reach} (ht : P.underlying t = some .string) (hval : Value.okWide P w r b0 t v) : ∃ l : List Nat, relV1 β ow w' (.str l) v ∧ l.length < 9223372036854775808 := by
  obtain ⟨s, rfl⟩ := okWide_string ht hval
  have h2 : IntKind.i64.max = 9223372036854775807 := rfl
  have h3 : (s.size : Int) ≤ IntKind.i64.max := by simp only [Value.okWide, ht, Cell.okWide, Cell.ok] at hval; exact hval
  have := constSV_ok (β := β) (ow := ow) (w := w') (v := .string s) (s := .str (s.data.toList.map (·.toNat))) rfl
  refine ⟨_, ⟨_, this.1, rfl⟩, ?_⟩
  have h4 : s.data.toList.length = s.size := Array.length_toList
  rw [List.length_map, h4]
  omega
end
end Go.Eng

namespace Go.Proofs.Ytedccmojbmlkcaa.Facts
open Go Go.Proofs
set_option maxRecDepth 100000
theorem words_word {r : List Char} : ∀ {l : List Char}, (∀ c ∈ l, c ≠ ' ') → wordsSigns (l ++ ' ' :: r) = l :: wordsSigns r := by
  intro l
  induction l with
  | nil => intro _; rfl
  | cons c l ih =>
    intro h
    have hc : c ≠ ' ' := h c (by simp)
    have e := ih fun x hx => h x (by simp [hx])
    show wordsSigns (c :: (l ++ ' ' :: r)) = _
    rw [wordsSigns, e]
    · intro hh; exact hc hh
theorem order_is : Try.pinned.checked.prog.initOrder = "harness fdf75883f3d4315cbaad1436e96b620cb7bd8f58ed2360185c1b7b47d97433d8 cut at coresec/coreseclaw05.KdfPrefix coresec/coreseclaw05.KdfCalls coresec/coreseclaw04.ShaConstants coresec/coreseclaw04.ShaBlocks coresec/coreseclaw26.ContextDerives coresec/coreseclaw26.ContextNonces coresec/coreseclaw26.ContextNumbers coresec/coreseclaw26.ContextUnique coresec/coreseclaw38.EchoValues" := by kernel_rfl
theorem order_lit : ("harness fdf75883f3d4315cbaad1436e96b620cb7bd8f58ed2360185c1b7b47d97433d8 cut at coresec/coreseclaw05.KdfPrefix coresec/coreseclaw05.KdfCalls coresec/coreseclaw04.ShaConstants coresec/coreseclaw04.ShaBlocks coresec/coreseclaw26.ContextDerives coresec/coreseclaw26.ContextNonces coresec/coreseclaw26.ContextNumbers coresec/coreseclaw26.ContextUnique coresec/coreseclaw38.EchoValues" : String) = String.ofList (['h', 'a', 'r', 'n', 'e', 's', 's'] ++ ' ' :: (['f', 'd', 'f', '7', '5', '8', '8', '3', 'f', '3', 'd', '4', '3', '1', '5', 'c', 'b', 'a', 'a', 'd', '1', '4', '3', '6', 'e', '9', '6', 'b', '6', '2', '0', 'c', 'b', '7', 'b', 'd', '8', 'f', '5', '8', 'e', 'd', '2', '3', '6', '0', '1', '8', '5', 'c', '1', 'b', '7', 'b', '4', '7', 'd', '9', '7', '4', '3', '3', 'd', '8'] ++ ' ' :: (['c', 'u', 't'] ++ ' ' :: ['a', 't', ' ', 'c', 'o', 'r', 'e', 's', 'e', 'c', '/', 'c', 'o', 'r', 'e', 's', 'e', 'c', 'l', 'a', 'w', '0', '5', '.', 'K', 'd', 'f', 'P', 'r', 'e', 'f', 'i', 'x', ' ', 'c', 'o', 'r', 'e', 's', 'e', 'c', '/', 'c', 'o', 'r', 'e', 's', 'e', 'c', 'l', 'a', 'w', '0', '5', '.', 'K', 'd', 'f', 'C', 'a', 'l', 'l', 's', ' ', 'c', 'o', 'r', 'e', 's', 'e', 'c', '/', 'c', 'o', 'r', 'e', 's', 'e', 'c', 'l', 'a', 'w', '0', '4', '.', 'S', 'h', 'a', 'C', 'o', 'n', 's', 't', 'a', 'n', 't', 's', ' ', 'c', 'o', 'r', 'e', 's', 'e', 'c', '/', 'c', 'o', 'r', 'e', 's', 'e', 'c', 'l', 'a', 'w', '0', '4', '.', 'S', 'h', 'a', 'B', 'l', 'o', 'c', 'k', 's', ' ', 'c', 'o', 'r', 'e', 's', 'e', 'c', '/', 'c', 'o', 'r', 'e', 's', 'e', 'c', 'l', 'a', 'w', '2', '6', '.', 'C', 'o', 'n', 't', 'e', 'x', 't', 'D', 'e', 'r', 'i', 'v', 'e', 's', ' ', 'c', 'o', 'r', 'e', 's', 'e', 'c', '/', 'c', 'o', 'r', 'e', 's', 'e', 'c', 'l', 'a', 'w', '2', '6', '.', 'C', 'o', 'n', 't', 'e', 'x', 't', 'N', 'o', 'n', 'c', 'e', 's', ' ', 'c', 'o', 'r', 'e', 's', 'e', 'c', '/', 'c', 'o', 'r', 'e', 's', 'e', 'c', 'l', 'a', 'w', '2', '6', '.', 'C', 'o', 'n', 't', 'e', 'x', 't', 'N', 'u', 'm', 'b', 'e', 'r', 's', ' ', 'c', 'o', 'r', 'e', 's', 'e', 'c', '/', 'c', 'o', 'r', 'e', 's', 'e', 'c', 'l', 'a', 'w', '2', '6', '.', 'C', 'o', 'n', 't', 'e', 'x', 't', 'U', 'n', 'i', 'q', 'u', 'e', ' ', 'c', 'o', 'r', 'e', 's', 'e', 'c', '/', 'c', 'o', 'r', 'e', 's', 'e', 'c', 'l', 'a', 'w', '3', '8', '.', 'E', 'c', 'h', 'o', 'V', 'a', 'l', 'u', 'e', 's']))) := by kernel_rfl
theorem order_words : ∃ R, behindMainWord (wordsSigns Try.pinned.checked.prog.initOrder.toList) = ['c', 'u', 't'] :: R := by
  rw [order_is, order_lit, String.toList_ofList, words_word (by decide), words_word (by decide), words_word (by decide)]
  generalize wordsSigns ['a', 't', ' ', 'c', 'o', 'r', 'e', 's', 'e', 'c', '/', 'c', 'o', 'r', 'e', 's', 'e', 'c', 'l', 'a', 'w', '0', '5', '.', 'K', 'd', 'f', 'P', 'r', 'e', 'f', 'i', 'x', ' ', 'c', 'o', 'r', 'e', 's', 'e', 'c', '/', 'c', 'o', 'r', 'e', 's', 'e', 'c', 'l', 'a', 'w', '0', '5', '.', 'K', 'd', 'f', 'C', 'a', 'l', 'l', 's', ' ', 'c', 'o', 'r', 'e', 's', 'e', 'c', '/', 'c', 'o', 'r', 'e', 's', 'e', 'c', 'l', 'a', 'w', '0', '4', '.', 'S', 'h', 'a', 'C', 'o', 'n', 's', 't', 'a', 'n', 't', 's', ' ', 'c', 'o', 'r', 'e', 's', 'e', 'c', '/', 'c', 'o', 'r', 'e', 's', 'e', 'c', 'l', 'a', 'w', '0', '4', '.', 'S', 'h', 'a', 'B', 'l', 'o', 'c', 'k', 's', ' ', 'c', 'o', 'r', 'e', 's', 'e', 'c', '/', 'c', 'o', 'r', 'e', 's', 'e', 'c', 'l', 'a', 'w', '2', '6', '.', 'C', 'o', 'n', 't', 'e', 'x', 't', 'D', 'e', 'r', 'i', 'v', 'e', 's', ' ', 'c', 'o', 'r', 'e', 's', 'e', 'c', '/', 'c', 'o', 'r', 'e', 's', 'e', 'c', 'l', 'a', 'w', '2', '6', '.', 'C', 'o', 'n', 't', 'e', 'x', 't', 'N', 'o', 'n', 'c', 'e', 's', ' ', 'c', 'o', 'r', 'e', 's', 'e', 'c', '/', 'c', 'o', 'r', 'e', 's', 'e', 'c', 'l', 'a', 'w', '2', '6', '.', 'C', 'o', 'n', 't', 'e', 'x', 't', 'N', 'u', 'm', 'b', 'e', 'r', 's', ' ', 'c', 'o', 'r', 'e', 's', 'e', 'c', '/', 'c', 'o', 'r', 'e', 's', 'e', 'c', 'l', 'a', 'w', '2', '6', '.', 'C', 'o', 'n', 't', 'e', 'x', 't', 'U', 'n', 'i', 'q', 'u', 'e', ' ', 'c', 'o', 'r', 'e', 's', 'e', 'c', '/', 'c', 'o', 'r', 'e', 's', 'e', 'c', 'l', 'a', 'w', '3', '8', '.', 'E', 'c', 'h', 'o', 'V', 'a', 'l', 'u', 'e', 's'] = R
  exact ⟨R, by kernel_rfl⟩
theorem c_gc : (['c', 'u', 't'] == "gc".toList) = false := by kernel_rfl
theorem c_spec : (['c', 'u', 't'] == "spec".toList) = false := by kernel_rfl
theorem c_cut : (['c', 'u', 't'] == "cut".toList) = true := by kernel_rfl
theorem c_carried : (['c', 'u', 't'] == "carried".toList) = false := by kernel_rfl
theorem c_strip (R : List (List Char)) : stripLifts liftWords (['c', 'u', 't'] :: R) = ([], ['c', 'u', 't'] :: R) := by kernel_rfl
theorem lifts_of {P : Program} {R : List (List Char)} (h : behindMainWord (wordsSigns P.initOrder.toList) = ['c', 'u', 't'] :: R) : P.liftsFinal = false := by
  unfold Program.liftsFinal Program.headLifts
  rw [h]
  kernel_rfl
theorem make_of {P : Program} {R : List (List Char)} (h : behindMainWord (wordsSigns P.initOrder.toList) = ['c', 'u', 't'] :: R) : P.make = some .cut := by
  unfold Program.make
  rw [h]
  simp only [c_gc, c_spec, c_cut, Bool.or_false, Bool.false_or, Bool.true_or, if_true, if_false, Bool.false_eq_true]
theorem enter_of {P : Program} {R : List (List Char)} (h : behindMainWord (wordsSigns P.initOrder.toList) = ['c', 'u', 't'] :: R) (h2 : P.laysLater = false) (h3 : P.bearsReflect = false) (h4 : P.doorFits [] = true) : P.mayEnter = true := by
  unfold Program.mayEnter
  rw [h]
  simp only [c_gc, c_spec, c_carried, c_strip, h2, h3, h4]
  kernel_rfl
theorem lays_is : Try.pinned.checked.prog.laysLater = false := by kernel_rfl
theorem reflect_is : Try.pinned.checked.prog.bearsReflect = false := by kernel_rfl
theorem door_is : Try.pinned.checked.prog.doorFits [] = true := by kernel_rfl
theorem lifts_is : Try.pinned.checked.prog.liftsFinal = false := by
  obtain ⟨R, h⟩ := order_words
  exact lifts_of h
theorem make_is : Try.pinned.checked.prog.make = some .cut := by
  obtain ⟨R, h⟩ := order_words
  exact make_of h
theorem enter_is : Try.pinned.checked.prog.mayEnter = true := by
  obtain ⟨R, h⟩ := order_words
  exact enter_of h lays_is reflect_is door_is
end Go.Proofs.Ytedccmojbmlkcaa.Facts

