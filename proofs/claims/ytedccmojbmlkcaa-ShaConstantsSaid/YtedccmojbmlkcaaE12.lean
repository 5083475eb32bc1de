import Derived.Test.YtedccmojbmlkcaaE11
set_option linter.unusedVariables false
set_option linter.unusedSimpArgs false
set_option linter.unusedSectionVars false
namespace Go.Eng.B
open Go Go.Eng Go.Proofs
set_option maxRecDepth 100000
set_option maxHeartbeats 1000000
def pB (p : Nat) : Bk := ⟨36, [.u .u64 p], false⟩
def cuq1 (l _h : Nat) : Nat := l * l % 18446744073709551616
def cuq2 (l h : Nat) : Nat := (l * l / 18446744073709551616 + 2 * h % 18446744073709551616 * l % 18446744073709551616 + 0) % 18446744073709551616
def cuq3 (l h : Nat) : Nat := ((h * h % 18446744073709551616 + 2 * h % 18446744073709551616 * l / 18446744073709551616) % 18446744073709551616 + (l * l / 18446744073709551616 + 2 * h % 18446744073709551616 * l % 18446744073709551616 + 0) / 18446744073709551616) % 18446744073709551616
def cur1 (s0 s1 l : Nat) : Nat := (s0 * l / 18446744073709551616 + s1 * l % 18446744073709551616 + 0)
def cur2 (s0 h R : Nat) : Nat := (R % 18446744073709551616 + s0 * h % 18446744073709551616 + 0)
def cuy1 (a d1 d2 : Nat) : Nat := (a + (d1 + d2) % 18446744073709551616 + 0)
def cuy2 (y b : Nat) : Nat := (y % 18446744073709551616 + b + 0)
def cuy3 (y s l : Nat) : Nat := (y % 18446744073709551616 + s * l % 18446744073709551616 + 0)
def cuzz (s2 h e1 f1 g0 g1 g2 g3 : Nat) : Nat := ((((((s2 * h % 18446744073709551616 + e1) % 18446744073709551616 + f1) % 18446744073709551616 + g0) % 18446744073709551616 + g1) % 18446744073709551616 + g2) % 18446744073709551616 + g3) % 18446744073709551616
def belD (z x y p : Nat) : Bool := decide (z < p) || ((z == p) && (x == 0) && (y == 0))
def belC (s1 s2 x a b d1 d2 l h p : Nat) : Bool :=
  belD (cuzz s2 h (s2 * l / 18446744073709551616) (s1 * h / 18446744073709551616) (cuy1 a d1 d2 / 18446744073709551616) (cuy2 (cuy1 a d1 d2) b / 18446744073709551616) (cuy3 (cuy2 (cuy1 a d1 d2) b) s2 l / 18446744073709551616) (cuy3 (cuy3 (cuy2 (cuy1 a d1 d2) b) s2 l) s1 h / 18446744073709551616)) x (cuy3 (cuy3 (cuy2 (cuy1 a d1 d2) b) s2 l) s1 h % 18446744073709551616) p
def belB (s0 s1 s2 l h p : Nat) : Bool :=
  belC s1 s2 (cur2 s0 h (cur1 s0 s1 l) % 18446744073709551616) (s1 * l / 18446744073709551616) (s0 * h / 18446744073709551616) (cur1 s0 s1 l / 18446744073709551616) (cur2 s0 h (cur1 s0 s1 l) / 18446744073709551616) l h p
def belV (l h p : Nat) : Bool := belB (cuq1 l h) (cuq2 l h) (cuq3 l h) l h p
def eBel (H : List Bk) (args : List SV) : Option (MRes × List Prop) := match H, args with
  | [⟨ty, [.u .u64 p], false⟩], [x, y, .ptr 0 0 (.c 0)] => if ty = 36 then match x.nat?, y.nat? with
    | some (.u64, l), some (.u64, h) => some (⟨.b (belV l h p), [pB p], []⟩, [])
    | _, _ => none else none
  | _, _ => none
def sB1 (l h p s0 s1 s2 : Nat) : St := ⟨157, [(0, .u .u64 l), (1, .u .u64 h), (2, .ptr 0 0 (.c 0)), (7, .u .u64 s0), (11, .u .u64 s1), (12, .u .u64 s2)], [(0, pB p)], 1, 1⟩
def sB2 (l h p s1 s2 a b x d1 d2 : Nat) : St := ⟨157, [(0, .u .u64 l), (1, .u .u64 h), (2, .ptr 0 0 (.c 0)), (11, .u .u64 s1), (12, .u .u64 s2), (15, .u .u64 a), (17, .u .u64 b), (19, .u .u64 x), (20, .u .u64 d1), (21, .u .u64 d2)], [(0, pB p)], 1, 1⟩
def sB3 (h p s2 x e1 f1 y g0 g1 g2 g3 : Nat) : St := ⟨157, [(1, .u .u64 h), (2, .ptr 0 0 (.c 0)), (12, .u .u64 s2), (19, .u .u64 x), (22, .u .u64 e1), (24, .u .u64 f1), (26, .u .u64 y), (27, .u .u64 g0), (28, .u .u64 g1), (29, .u .u64 g2), (30, .u .u64 g3)], [(0, pB p)], 1, 1⟩
def sB4 (z p x y : Nat) : St := ⟨157, [(2, .ptr 0 0 (.c 0)), (19, .u .u64 x), (26, .u .u64 y), (31, .u .u64 z)], [(0, pB p)], 1, 1⟩
section
variable {F : Fr} {S : Own} {res : MRes} {w0 : World}
theorem bel4 (z p x y : Nat) (hr : res = ⟨.b (belD z x y p), [pB p], []⟩) : Hold Try.prog (bodyOf Try.f71) (FinM Try.prog Try.f71 F S res) F S [.at [1,1,1,1,1,1,1,1,1,1,1,1,1,1,1,1,1,1]] (sB4 z p x y) := by
  rw [hr]
  rcases Bool.eq_false_or_eq_true (Decidable.decide (z < p)) with hc0 | hc0
  · have hd0 := of_decide_eq_true hc0
    refine hold_endMw mixed okM1a (news := []) (unroll := true) (f := 100) (sc := [true]) (r := { res := Go.Eng.SV.cb Bool.true, upd := [{ ty := (36 : Nat), segs := [Go.Eng.SV.u Go.IntKind.u64 p] }] }) (ob := [Decidable.decide (z < p) = Bool.true]) (sc' := []) (by kernel_rfl) ?_ ?_
    · exact ⟨hc0, trivial⟩
    · first | (simp_all [wkM, wkR, wk, wk0, wka, wkB, wkl, pB, belD, lim]; done) | (simp_all [wkM, wkR, wk, wk0, wka, wkB, wkl, pB, belD, lim]; omega)
  · have hd0 := of_decide_eq_false hc0
    rcases Bool.eq_false_or_eq_true (z == p) with hc1 | hc1
    · have hd1 := eq_of_beq hc1
      rcases Bool.eq_false_or_eq_true (x == (0 : Nat)) with hc2 | hc2
      · have hd2 := eq_of_beq hc2
        refine hold_endMw mixed okM1a (news := []) (unroll := true) (f := 100) (sc := [false, true, true]) (r := { res := Go.Eng.SV.b (y == (0 : Nat)), upd := [{ ty := (36 : Nat), segs := [Go.Eng.SV.u Go.IntKind.u64 p] }] }) (ob := [Decidable.decide (z < p) = Bool.false, (z == p) = Bool.true, (x == (0 : Nat)) = Bool.true]) (sc' := []) (by kernel_rfl) ?_ ?_
        · exact ⟨hc0, hc1, hc2, trivial⟩
        · first | (simp_all [wkM, wkR, wk, wk0, wka, wkB, wkl, pB, belD, lim]; done) | (simp_all [wkM, wkR, wk, wk0, wka, wkB, wkl, pB, belD, lim]; omega)
      · have hd2 := ne_of_beq_false hc2
        refine hold_endMw mixed okM1a (news := []) (unroll := true) (f := 100) (sc := [false, true, false]) (r := { res := Go.Eng.SV.cb Bool.false, upd := [{ ty := (36 : Nat), segs := [Go.Eng.SV.u Go.IntKind.u64 p] }] }) (ob := [Decidable.decide (z < p) = Bool.false, (z == p) = Bool.true, (x == (0 : Nat)) = Bool.false]) (sc' := []) (by kernel_rfl) ?_ ?_
        · exact ⟨hc0, hc1, hc2, trivial⟩
        · first | (simp_all [wkM, wkR, wk, wk0, wka, wkB, wkl, pB, belD, lim]; done) | (simp_all [wkM, wkR, wk, wk0, wka, wkB, wkl, pB, belD, lim]; omega)
    · have hd1 := ne_of_beq_false hc1
      refine hold_endMw mixed okM1a (news := []) (unroll := true) (f := 100) (sc := [false, false]) (r := { res := Go.Eng.SV.cb Bool.false, upd := [{ ty := (36 : Nat), segs := [Go.Eng.SV.u Go.IntKind.u64 p] }] }) (ob := [Decidable.decide (z < p) = Bool.false, (z == p) = Bool.false]) (sc' := []) (by kernel_rfl) ?_ ?_
      · exact ⟨hc0, hc1, trivial⟩
      · first | (simp_all [wkM, wkR, wk, wk0, wka, wkB, wkl, pB, belD, lim]; done) | (simp_all [wkM, wkR, wk, wk0, wka, wkB, wkl, pB, belD, lim]; omega)
theorem bel3 (h p s2 x e1 f1 y g0 g1 g2 g3 : Nat) (hr : res = ⟨.b (belD (cuzz s2 h e1 f1 g0 g1 g2 g3) x y p), [pB p], []⟩) : Hold Try.prog (bodyOf Try.f71) (FinM Try.prog Try.f71 F S res) F S [.at [1,1,1,1,1,1,1,1,1,1,1,1,1,1,1,1,1]] (sB3 h p s2 x e1 f1 y g0 g1 g2 g3) := by
  refine hold_cut mixed okM1a (unroll := false) (f := 2) (sc := []) (ks := [2,19,26,31]) (bs := [0]) (nx := 1) (st' := [Go.Eng.It.at [(1 : Nat), (1 : Nat), (1 : Nat), (1 : Nat), (1 : Nat), (1 : Nat), (1 : Nat), (1 : Nat), (1 : Nat), (1 : Nat), (1 : Nat), (1 : Nat), (1 : Nat), (1 : Nat), (1 : Nat), (1 : Nat), (1 : Nat), (1 : Nat)]]) (σ' := { nt := (157 : Nat), slots := [((2 : Nat), Go.Eng.SV.ptr (0 : Nat) (0 : Nat) (Go.Eng.Ix.c (0 : Nat))), ((19 : Nat), Go.Eng.SV.u Go.IntKind.u64 x), ((26 : Nat), Go.Eng.SV.u Go.IntKind.u64 y), ((31 : Nat), Go.Eng.SV.u Go.IntKind.u64 (((((((s2 * h % (18446744073709551616 : Nat) + e1) % (18446744073709551616 : Nat) + f1) % (18446744073709551616 : Nat) + g0) % (18446744073709551616 : Nat) + g1) % (18446744073709551616 : Nat) + g2) % (18446744073709551616 : Nat) + g3) % (18446744073709551616 : Nat)))], blks := [((0 : Nat), { ty := (36 : Nat), segs := [Go.Eng.SV.u Go.IntKind.u64 p] })], next := (1 : Nat), m := (1 : Nat) }) (ob := []) (sc' := []) (by kernel_rfl) (by repeat' first | exact trivial | omega | refine ⟨?_, ?_⟩) ?_
  exact (bel4 (cuzz s2 h e1 f1 g0 g1 g2 g3) p x y hr).cast rfl
theorem bel2 (l h p s1 s2 a b x d1 d2 : Nat) (hr : res = ⟨.b (belC s1 s2 x a b d1 d2 l h p), [pB p], []⟩) : Hold Try.prog (bodyOf Try.f71) (FinM Try.prog Try.f71 F S res) F S [.at [1,1,1,1,1,1,1,1,1,1,1]] (sB2 l h p s1 s2 a b x d1 d2) := by
  refine hold_cut mixed okM1a (unroll := false) (f := 12) (sc := []) (ks := [1,2,12,19,22,24,26,27,28,29,30]) (bs := [0]) (nx := 1) (st' := [Go.Eng.It.at [(1 : Nat), (1 : Nat), (1 : Nat), (1 : Nat), (1 : Nat), (1 : Nat), (1 : Nat), (1 : Nat), (1 : Nat), (1 : Nat), (1 : Nat), (1 : Nat), (1 : Nat), (1 : Nat), (1 : Nat), (1 : Nat), (1 : Nat)]]) (σ' := { nt := (157 : Nat), slots := [((1 : Nat), Go.Eng.SV.u Go.IntKind.u64 h), ((2 : Nat), Go.Eng.SV.ptr (0 : Nat) (0 : Nat) (Go.Eng.Ix.c (0 : Nat))), ((12 : Nat), Go.Eng.SV.u Go.IntKind.u64 s2), ((19 : Nat), Go.Eng.SV.u Go.IntKind.u64 x), ((22 : Nat), Go.Eng.SV.u Go.IntKind.u64 (s2 * l / (18446744073709551616 : Nat))), ((24 : Nat), Go.Eng.SV.u Go.IntKind.u64 (s1 * h / (18446744073709551616 : Nat))), ((26 : Nat), Go.Eng.SV.u Go.IntKind.u64 (((((a + (d1 + d2) % (18446744073709551616 : Nat) + (0 : Nat)) % (18446744073709551616 : Nat) + b + (0 : Nat)) % (18446744073709551616 : Nat) + s2 * l % (18446744073709551616 : Nat) + (0 : Nat)) % (18446744073709551616 : Nat) + s1 * h % (18446744073709551616 : Nat) + (0 : Nat)) % (18446744073709551616 : Nat))), ((27 : Nat), Go.Eng.SV.u Go.IntKind.u64 ((a + (d1 + d2) % (18446744073709551616 : Nat) + (0 : Nat)) / (18446744073709551616 : Nat))), ((28 : Nat), Go.Eng.SV.u Go.IntKind.u64 (((a + (d1 + d2) % (18446744073709551616 : Nat) + (0 : Nat)) % (18446744073709551616 : Nat) + b + (0 : Nat)) / (18446744073709551616 : Nat))), ((29 : Nat), Go.Eng.SV.u Go.IntKind.u64 ((((a + (d1 + d2) % (18446744073709551616 : Nat) + (0 : Nat)) % (18446744073709551616 : Nat) + b + (0 : Nat)) % (18446744073709551616 : Nat) + s2 * l % (18446744073709551616 : Nat) + (0 : Nat)) / (18446744073709551616 : Nat))), ((30 : Nat), Go.Eng.SV.u Go.IntKind.u64 (((((a + (d1 + d2) % (18446744073709551616 : Nat) + (0 : Nat)) % (18446744073709551616 : Nat) + b + (0 : Nat)) % (18446744073709551616 : Nat) + s2 * l % (18446744073709551616 : Nat) + (0 : Nat)) % (18446744073709551616 : Nat) + s1 * h % (18446744073709551616 : Nat) + (0 : Nat)) / (18446744073709551616 : Nat)))], blks := [((0 : Nat), { ty := (36 : Nat), segs := [Go.Eng.SV.u Go.IntKind.u64 p] })], next := (1 : Nat), m := (1 : Nat) }) (ob := [(0 : Nat) ≤ (1 : Nat), (0 : Nat) ≤ (1 : Nat), (0 : Nat) ≤ (1 : Nat), (0 : Nat) ≤ (1 : Nat)]) (sc' := []) (by kernel_rfl) (by repeat' first | exact trivial | omega | refine ⟨?_, ?_⟩) ?_
  exact (bel3 h p s2 x (s2 * l / 18446744073709551616) (s1 * h / 18446744073709551616) (cuy3 (cuy3 (cuy2 (cuy1 a d1 d2) b) s2 l) s1 h % 18446744073709551616) (cuy1 a d1 d2 / 18446744073709551616) (cuy2 (cuy1 a d1 d2) b / 18446744073709551616) (cuy3 (cuy2 (cuy1 a d1 d2) b) s2 l / 18446744073709551616) (cuy3 (cuy3 (cuy2 (cuy1 a d1 d2) b) s2 l) s1 h / 18446744073709551616) hr).cast rfl
theorem bel1 (l h p s0 s1 s2 : Nat) (hr : res = ⟨.b (belB s0 s1 s2 l h p), [pB p], []⟩) : Hold Try.prog (bodyOf Try.f71) (FinM Try.prog Try.f71 F S res) F S [.at [1,1,1,1,1,1]] (sB1 l h p s0 s1 s2) := by
  refine hold_cut mixed okM1a (unroll := false) (f := 10) (sc := []) (ks := [0,1,2,11,12,15,17,19,20,21]) (bs := [0]) (nx := 1) (st' := [Go.Eng.It.at [(1 : Nat), (1 : Nat), (1 : Nat), (1 : Nat), (1 : Nat), (1 : Nat), (1 : Nat), (1 : Nat), (1 : Nat), (1 : Nat), (1 : Nat)]]) (σ' := { nt := (157 : Nat), slots := [((0 : Nat), Go.Eng.SV.u Go.IntKind.u64 l), ((1 : Nat), Go.Eng.SV.u Go.IntKind.u64 h), ((2 : Nat), Go.Eng.SV.ptr (0 : Nat) (0 : Nat) (Go.Eng.Ix.c (0 : Nat))), ((11 : Nat), Go.Eng.SV.u Go.IntKind.u64 s1), ((12 : Nat), Go.Eng.SV.u Go.IntKind.u64 s2), ((15 : Nat), Go.Eng.SV.u Go.IntKind.u64 (s1 * l / (18446744073709551616 : Nat))), ((17 : Nat), Go.Eng.SV.u Go.IntKind.u64 (s0 * h / (18446744073709551616 : Nat))), ((19 : Nat), Go.Eng.SV.u Go.IntKind.u64 (((s0 * l / (18446744073709551616 : Nat) + s1 * l % (18446744073709551616 : Nat) + (0 : Nat)) % (18446744073709551616 : Nat) + s0 * h % (18446744073709551616 : Nat) + (0 : Nat)) % (18446744073709551616 : Nat))), ((20 : Nat), Go.Eng.SV.u Go.IntKind.u64 ((s0 * l / (18446744073709551616 : Nat) + s1 * l % (18446744073709551616 : Nat) + (0 : Nat)) / (18446744073709551616 : Nat))), ((21 : Nat), Go.Eng.SV.u Go.IntKind.u64 (((s0 * l / (18446744073709551616 : Nat) + s1 * l % (18446744073709551616 : Nat) + (0 : Nat)) % (18446744073709551616 : Nat) + s0 * h % (18446744073709551616 : Nat) + (0 : Nat)) / (18446744073709551616 : Nat)))], blks := [((0 : Nat), { ty := (36 : Nat), segs := [Go.Eng.SV.u Go.IntKind.u64 p] })], next := (1 : Nat), m := (1 : Nat) }) (ob := [(0 : Nat) ≤ (1 : Nat), (0 : Nat) ≤ (1 : Nat)]) (sc' := []) (by kernel_rfl) (by repeat' first | exact trivial | omega | refine ⟨?_, ?_⟩) ?_
  exact (bel2 l h p s1 s2 (s1 * l / 18446744073709551616) (s0 * h / 18446744073709551616) (cur2 s0 h (cur1 s0 s1 l) % 18446744073709551616) (cur1 s0 s1 l / 18446744073709551616) (cur2 s0 h (cur1 s0 s1 l) / 18446744073709551616) hr).cast rfl
theorem bel_m (l h p : Nat) : ContractM Try.prog 71 [pB p] [.u .u64 l, .u .u64 h, .ptr 0 0 (.c 0)] ⟨.b (belV l h p), [pB p], []⟩ := by
  refine contractM Try.func71 (body := bodyOf Try.f71) rfl (by kernel_rfl) (by kernel_rfl) rfl rfl ?_
  rintro _ _ F S hF
  refine hold_cut mixed okM1a (unroll := false) (f := 12) (sc := []) (ks := [0,1,2,7,11,12]) (bs := [0]) (nx := 1) (st' := [Go.Eng.It.at [(1 : Nat), (1 : Nat), (1 : Nat), (1 : Nat), (1 : Nat), (1 : Nat)]]) (σ' := { nt := (157 : Nat), slots := [((0 : Nat), Go.Eng.SV.u Go.IntKind.u64 l), ((1 : Nat), Go.Eng.SV.u Go.IntKind.u64 h), ((2 : Nat), Go.Eng.SV.ptr (0 : Nat) (0 : Nat) (Go.Eng.Ix.c (0 : Nat))), ((7 : Nat), Go.Eng.SV.u Go.IntKind.u64 (l * l % (18446744073709551616 : Nat))), ((11 : Nat), Go.Eng.SV.u Go.IntKind.u64 ((l * l / (18446744073709551616 : Nat) + (2 : Nat) * h % (18446744073709551616 : Nat) * l % (18446744073709551616 : Nat) + (0 : Nat)) % (18446744073709551616 : Nat))), ((12 : Nat), Go.Eng.SV.u Go.IntKind.u64 (((h * h % (18446744073709551616 : Nat) + (2 : Nat) * h % (18446744073709551616 : Nat) * l / (18446744073709551616 : Nat)) % (18446744073709551616 : Nat) + (l * l / (18446744073709551616 : Nat) + (2 : Nat) * h % (18446744073709551616 : Nat) * l % (18446744073709551616 : Nat) + (0 : Nat)) / (18446744073709551616 : Nat)) % (18446744073709551616 : Nat)))], blks := [((0 : Nat), { ty := (36 : Nat), segs := [Go.Eng.SV.u Go.IntKind.u64 p] })], next := (1 : Nat), m := (1 : Nat) }) (ob := [(0 : Nat) ≤ (1 : Nat)]) (sc' := []) (by kernel_rfl) (by repeat' first | exact trivial | omega | refine ⟨?_, ?_⟩) ?_
  exact (bel1 l h p (cuq1 l h) (cuq2 l h) (cuq3 l h) rfl).cast rfl
theorem bel_ok : ∀ H args r ob, eBel H args = some (r, ob) → All ob → ContractM Try.prog 71 H args r := by
  intro H args r ob he _
  unfold eBel at he
  split at he
  · split at he
    · rename_i hty
      subst hty
      split at he
      · rename_i hx hy
        cases he
        exact ContractM.argsRF (bel_m _ _ _) (fun ⟨v, t, e, h1, v2, t2, e2, h2, h3⟩ => ⟨v, t, e, nat?_wk hx h1, v2, t2, e2, nat?_wk hy h2, h3⟩)
      · cases he
    · cases he
  · cases he
def Q1a : Ctr := addM 71 eBel ctr0
def cubV (w f p : Nat) : Bool := if f = 18446744073709551615 then belV f w p && !belV 0 ((w + 1) % 18446744073709551616) p else belV f w p && !belV ((f + 1) % 18446744073709551616) w p
def eCub (args : List SV) : Option (SV × List Prop) := match args with
  | [x, y, z] => match x.nat?, y.nat?, z.nat? with
    | some (.u64, w), some (.u64, f), some (.u64, p) => some (.b (cubV w f p), [])
    | _, _, _ => none
  | _ => none
theorem okQ1a : CtrOk Try.prog Q1a := addM_ok ctr0_ok bel_ok
theorem cub_c (w f p : Nat) : Contract Try.prog 22 [.u .u64 w, .u .u64 f, .u .u64 p] (.b (cubV w f p)) := by
  refine contract Try.func22 (body := bodyOf Try.f22) rfl (by kernel_rfl) (by kernel_rfl) rfl ?_
  intro _ w0 S
  by_cases h1 : f = 18446744073709551615
  · unfold cubV
    rw [if_pos h1]
    refine Hold.cast (σ' := initSt [.u .u64 w, .u .u64 f, .u .u64 p] 34) ?_ rfl
    rcases Bool.eq_false_or_eq_true (f == (18446744073709551615 : Nat)) with hc0 | hc0
    · have hd0 := eq_of_beq hc0
      rcases Bool.eq_false_or_eq_true (belV f w p) with hc1 | hc1
      · refine hold_endw mixed okQ1a (unroll := true) (f := 100) (sc := [true, true]) (r := (Go.Eng.SV.b !belV (0 : Nat) ((w + (1 : Nat)) % (18446744073709551616 : Nat)) p)) (ob := [(f == (18446744073709551615 : Nat)) = Bool.true, belV f w p = Bool.true]) (sc' := []) (by kernel_rfl) ?_ ?_
        · exact ⟨hc0, hc1, trivial⟩
        · first | (simp_all [wkR, wk, wk0]; done) | (simp_all [wkR, wk, wk0]; omega)
      · refine hold_endw mixed okQ1a (unroll := true) (f := 100) (sc := [true, false]) (r := (Go.Eng.SV.cb Bool.false)) (ob := [(f == (18446744073709551615 : Nat)) = Bool.true, belV f w p = Bool.false]) (sc' := []) (by kernel_rfl) ?_ ?_
        · exact ⟨hc0, hc1, trivial⟩
        · first | (simp_all [wkR, wk, wk0]; done) | (simp_all [wkR, wk, wk0]; omega)
    · have hd0 := ne_of_beq_false hc0
      rcases Bool.eq_false_or_eq_true (belV f w p) with hc1 | hc1
      · refine hold_endw mixed okQ1a (unroll := true) (f := 100) (sc := [false, true]) (r := (Go.Eng.SV.b !belV ((f + (1 : Nat)) % (18446744073709551616 : Nat)) w p)) (ob := [(f == (18446744073709551615 : Nat)) = Bool.false, belV f w p = Bool.true]) (sc' := []) (by kernel_rfl) ?_ ?_
        · exact ⟨hc0, hc1, trivial⟩
        · first | (simp_all [wkR, wk, wk0]; done) | (simp_all [wkR, wk, wk0]; omega)
      · refine hold_endw mixed okQ1a (unroll := true) (f := 100) (sc := [false, false]) (r := (Go.Eng.SV.cb Bool.false)) (ob := [(f == (18446744073709551615 : Nat)) = Bool.false, belV f w p = Bool.false]) (sc' := []) (by kernel_rfl) ?_ ?_
        · exact ⟨hc0, hc1, trivial⟩
        · first | (simp_all [wkR, wk, wk0]; done) | (simp_all [wkR, wk, wk0]; omega)
  · unfold cubV
    rw [if_neg h1]
    rcases Bool.eq_false_or_eq_true (f == (18446744073709551615 : Nat)) with hc0 | hc0
    · have hd0 := eq_of_beq hc0
      rcases Bool.eq_false_or_eq_true (belV f w p) with hc1 | hc1
      · refine hold_endw mixed okQ1a (unroll := true) (f := 100) (sc := [true, true]) (r := (Go.Eng.SV.b !belV (0 : Nat) ((w + (1 : Nat)) % (18446744073709551616 : Nat)) p)) (ob := [(f == (18446744073709551615 : Nat)) = Bool.true, belV f w p = Bool.true]) (sc' := []) (by kernel_rfl) ?_ ?_
        · exact ⟨hc0, hc1, trivial⟩
        · first | (simp_all [wkR, wk, wk0]; done) | (simp_all [wkR, wk, wk0]; omega)
      · refine hold_endw mixed okQ1a (unroll := true) (f := 100) (sc := [true, false]) (r := (Go.Eng.SV.cb Bool.false)) (ob := [(f == (18446744073709551615 : Nat)) = Bool.true, belV f w p = Bool.false]) (sc' := []) (by kernel_rfl) ?_ ?_
        · exact ⟨hc0, hc1, trivial⟩
        · first | (simp_all [wkR, wk, wk0]; done) | (simp_all [wkR, wk, wk0]; omega)
    · have hd0 := ne_of_beq_false hc0
      rcases Bool.eq_false_or_eq_true (belV f w p) with hc1 | hc1
      · refine hold_endw mixed okQ1a (unroll := true) (f := 100) (sc := [false, true]) (r := (Go.Eng.SV.b !belV ((f + (1 : Nat)) % (18446744073709551616 : Nat)) w p)) (ob := [(f == (18446744073709551615 : Nat)) = Bool.false, belV f w p = Bool.true]) (sc' := []) (by kernel_rfl) ?_ ?_
        · exact ⟨hc0, hc1, trivial⟩
        · first | (simp_all [wkR, wk, wk0]; done) | (simp_all [wkR, wk, wk0]; omega)
      · refine hold_endw mixed okQ1a (unroll := true) (f := 100) (sc := [false, false]) (r := (Go.Eng.SV.cb Bool.false)) (ob := [(f == (18446744073709551615 : Nat)) = Bool.false, belV f w p = Bool.false]) (sc' := []) (by kernel_rfl) ?_ ?_
        · exact ⟨hc0, hc1, trivial⟩
        · first | (simp_all [wkR, wk, wk0]; done) | (simp_all [wkR, wk, wk0]; omega)
theorem cub_ok : ∀ args res ob, eCub args = some (res, ob) → All ob → Contract Try.prog 22 args res := by
  intro args res ob he _
  unfold eCub at he
  split at he
  · split at he
    · rename_i hx hy hz
      cases he
      exact Contract.argsRF (cub_c _ _ _) (fun ⟨v, t, e, h1, v2, t2, e2, h2, v3, t3, e3, h3, h4⟩ => ⟨v, t, e, nat?_wk hx h1, v2, t2, e2, nat?_wk hy h2, v3, t3, e3, nat?_wk hz h3, h4⟩)
    · cases he
  · cases he
end
end Go.Eng.B

namespace Go.Eng
open Go.RowKit
def unG (o : Oper) : Oper := { o with guard := none }
def pureStepG (P : Program) (ctr : Ctr) (ops : Array Oper) (σ : St) (i : Nat) (o : Oper) (sc : List Bool) : Option (St × List Prop × List Bool) :=
  match guardOf ops σ.slots o with
  | none => none
  | some false => match putS σ o.dst (.tup []) with | some σ' => some (σ', [], sc) | none => none
  | some true => match evalR P ctr σ.blks (lookρ σ.slots) (unG o) with
      | some (.val s, ob) => if pureOp (unG o) || slicePtr σ.slots (unG o) || sliceSl σ.slots (unG o) || (numOp σ.slots (unG o) && s.rigid) then
          match resolveB (isGuard ops i) s sc with
          | some (s', ob2, sc') => match putS σ o.dst s' with | some σ' => some (σ', ob ++ ob2, sc') | none => none
          | none => none
        else none
      | _ => none
def firstPureG (P : Program) (ctr : Ctr) (ops : Array Oper) (L : Array Bool) (σ : St) (sc : List Bool) : List Nat → Option (Nat × St × List Prop × List Bool)
  | [] => none
  | i :: r => if Region.free .any ops L i then (match ops[i]? with
      | some o => match pureStepG P ctr ops σ i o sc with
        | some (σ', ob, sc') => some (i, σ', ob, sc')
        | none => firstPureG P ctr ops L σ sc r
      | none => none) else firstPureG P ctr ops L σ sc r
abbrev RA := Nat × Nat × Bool × Nat
def stRA (R : RA) : St := ⟨R.1, [(R.2.1, .cb R.2.2.1)], [], 0, R.2.2.2⟩
def endRA (d : Nat) (σ : St) : Option RA :=
  match restrict [d] [] 0 σ with
  | some ⟨nt, [(e, .cb x)], [], 0, m⟩ => some (nt, e, x, m)
  | _ => none
def tryAll (step : Nat → Option (RA × List Prop × List Bool)) : List Nat → Option (RA × List Prop × List Bool)
  | [] => none
  | [i] => step i
  | i :: r => match step i, tryAll step r with
    | some (R, ob, sc), some (R', ob', sc') => if R = R' ∧ sc = sc' then some (R, ob ++ ob', sc) else none
    | _, _ => none
def execAll (P : Program) (ctr : Ctr) (ops : Array Oper) (d : Nat) : Nat → Array Bool → St → List Bool → Option (RA × List Prop × List Bool)
  | 0, _, _, _ => none
  | f + 1, L, σ, sc => match Region.ready .any ops L with
    | [] => match endRA d σ with
      | some R => some (R, [], sc)
      | none => none
    | r => match firstPureG P ctr ops L σ sc r with
      | some (i, σ1, ob1, sc1) => match execAll P ctr ops d f (L.setIfInBounds i true) σ1 sc1 with
        | some (R, ob2, sc2) => some (R, ob1 ++ ob2, sc2)
        | none => none
      | none => tryAll (fun i => match ops[i]? with
        | some o => match stepOp P ctr ops σ i o sc with
          | some (σ1, ob1, sc1) => match execAll P ctr ops d f (L.setIfInBounds i true) σ1 sc1 with
            | some (R, ob2, sc2) => some (R, ob1 ++ ob2, sc2)
            | none => none
          | none => none
        | none => none) r
def lastDst (ops : Array Oper) : Option Nat := match ops.back? with | some o => o.dst | none => none
def drawAll (P : Program) (ctr : Ctr) (ops : Array Oper) (σ : St) (sc : List Bool) : Option (St × List Prop × List Bool) :=
  match lastDst ops with
  | some d => if Region.noSelect ops then (match execAll P ctr ops d (ops.size + 1) (Array.replicate ops.size false) σ sc with
    | some (R, ob, sc') => some (stRA R, ob, sc')
    | none => none) else none
  | none => none
section
variable {P : Program} {ctr : Ctr} {w0 : Fr} {w : World} {S : Own} {σ σ' : St} {β : Nat → Nat} {a : Act} {ops : Array Oper}
theorem firstPureG_ok : ∀ {r : List Nat} {L : Array Bool} {sc sc' : List Bool} {i : Nat} {ob : List Prop}, firstPureG P ctr ops L σ sc r = some (i, σ', ob, sc') → i ∈ r ∧ Region.free .any ops L i = true ∧ ∃ o, ops[i]? = some o ∧ pureStepG P ctr ops σ i o sc = some (σ', ob, sc') := by
  intro r
  induction r with
  | nil => intro L sc sc' i ob h; simp [firstPureG] at h
  | cons j r ih =>
    intro L sc sc' i ob h
    simp only [firstPureG] at h
    split at h
    · rename_i hf
      split at h
      · rename_i o ho
        split at h
        · rename_i hp; cases h; exact ⟨by simp, hf, o, ho, hp⟩
        · obtain ⟨h1, h2⟩ := ih h; exact ⟨List.mem_cons_of_mem _ h1, h2⟩
      · cases h
    · obtain ⟨h1, h2⟩ := ih h; exact ⟨List.mem_cons_of_mem _ h1, h2⟩
theorem pureStepG_ok {i : Nat} {o : Oper} {sc sc' : List Bool} {ob : List Prop} (h : pureStepG P ctr ops σ i o sc = some (σ', ob, sc')) (hob : All ob) (hS : Sat w0 S σ β a w) :
    ∃ v, Yields P ops o v a ∧ Sat w0 S σ' β (a.put o.dst v) w := by
  unfold pureStepG at h
  split at h
  · cases h
  · rename_i hg
    split at h
    · rename_i σ1 hput
      cases h
      exact ⟨undef, .inr ⟨guard_ok hS.slot hg, rfl⟩, hS.put hput ⟨[], rfl, rfl⟩⟩
    · cases h
  · rename_i hg
    split at h
    · rename_i s ob1 hev
      split at h
      · rename_i hp
        split at h
        · rename_i s' ob2 sc1 hres
          split at h
          · rename_i σ1 hput
            cases h
            obtain ⟨ho1, ho2⟩ := All.append.1 hob
            have key : ∃ v, (∀ w', (execOp a.eval o).run P w' = .ok (.value v) w') ∧ relV β (owS S σ.blks β) w s v := by
              simp only [Bool.or_eq_true, Bool.and_eq_true] at hp
              rcases hp with ((hp | hp) | hp) | hp
              · exact pureR_yields (fun y s hy => hS.look hy) hp hev
              · exact slice_yields (fun y s hy => hS.look hy) hp hev
              · exact sliceSl_yields (fun y s hy => hS.look hy) hp hev ho1
              · exact num_yields (fun y s hy => hS.look hy) hp.1 hp.2 hev ho1
            obtain ⟨v, h1, h2⟩ := key
            exact ⟨v, .inl ⟨guard_ok hS.slot hg, h1⟩, hS.put hput (resolveB_ok hres ho2 h2)⟩
          · cases h
        · cases h
      · cases h
    · cases h
theorem tryAll_ok {step : Nat → Option (RA × List Prop × List Bool)} : ∀ {r : List Nat} {R : RA} {ob : List Prop} {sc : List Bool}, tryAll step r = some (R, ob, sc) → All ob → ∀ i ∈ r, ∃ ob' sc', step i = some (R, ob', sc') ∧ All ob' := by
  intro r
  induction r with
  | nil => intro R ob sc h; simp [tryAll] at h
  | cons i r ih =>
    intro R ob sc h hob j hj
    cases r with
    | nil =>
      simp only [tryAll] at h
      simp only [List.mem_singleton] at hj
      subst hj
      exact ⟨ob, sc, h, hob⟩
    | cons k r =>
      simp only [tryAll] at h
      split at h
      · rename_i R1 ob1 sc1 R2 ob2 sc2 h1 h2
        split at h
        · rename_i he
          obtain ⟨rfl, rfl⟩ := he
          cases h
          obtain ⟨ho1, ho2⟩ := All.append.1 hob
          rcases List.mem_cons.1 hj with rfl | hj
          · exact ⟨_, _, h1, ho1⟩
          · exact ih h2 ho2 j hj
        · cases h
      · cases h
theorem endRA_ok {d : Nat} {R : RA} (h : endRA d σ = some R) (hS : Sat w0 S σ β a w) : Sat w0 S (stRA R) β a w := by
  unfold endRA at h
  split at h
  · rename_i nt e x m hr
    cases h
    exact hS.restrict hr
  · cases h
theorem execAll_ok (hctr : CtrOk P ctr) (hs : Region.noSelect ops = true) {d : Nat} {Q : Exit → Act → World → Prop} (hQ : ∀ c a w, ¬ Q (.panic c) a w) : ∀ {f : Nat} {L : Array Bool} {σ : St} {R : RA} {sc sc' : List Bool} {ob : List Prop} {β : Nat → Nat} {a : Act} {w : World},
    execAll P ctr ops d f L σ sc = some (R, ob, sc') → All ob → Sat w0 S σ β a w → (∀ β' a' w', Sat w0 S (stRA R) β' a' w' → Q .normal a' w') → ∀ {g : Nat}, left L ≤ g → L.size = ops.size → wpAny P .any ops Q g L a w := by
  intro f
  induction f with
  | zero => intro L σ R sc sc' ob β a w h; simp [execAll] at h
  | succ f ih =>
    intro L σ R sc sc' ob β a w h hob hS hk g hl hsz
    simp only [execAll] at h
    split at h
    · rename_i hr
      split at h
      · rename_i R1 he
        cases h
        exact wpAny_done hr (hk β a w (endRA_ok he hS)) g
      · cases h
    · rename_i hr0
      have hstep : ∀ i, i ∈ Region.ready .any ops L → left L = left (L.setIfInBounds i true) + 1 := fun i hi => by
        obtain ⟨h1, o, ho, _⟩ := mem_ready.1 hi
        exact left_set (by rw [hsz]; exact (Array.getElem?_eq_some_iff.1 ho).1) h1
      have hpos : 0 < g := by
        cases hr : Region.ready .any ops L with
        | nil => exact absurd hr hr0
        | cons j t => have := hstep j (by rw [hr]; simp); omega
      obtain ⟨g, rfl⟩ : ∃ g', g = g' + 1 := ⟨g - 1, by omega⟩
      split at h
      · rename_i i σ1 ob1 sc1 hp
        split at h
        · rename_i R2 ob2 sc2 hx
          cases h
          obtain ⟨ho1, ho2⟩ := All.append.1 hob
          obtain ⟨hm, hf, o, ho, hst⟩ := firstPureG_ok hp
          obtain ⟨v, hy, hS1⟩ := pureStepG_ok hst ho1 hS
          refine wpAny_take ho hs hf (by simpa using hm) (fun c a w h => absurd h (hQ c _ w)) hy ?_
          exact ih hx ho2 hS1 hk (by have := hstep i hm; omega) (by simpa using hsz)
        · cases h
      · refine wpAny_all rfl hr0 ?_
        intro j hj
        obtain ⟨ob', sc2, h1, h2⟩ := tryAll_ok h hob j hj
        split at h1
        · rename_i o ho
          split at h1
          · rename_i σ1 ob1 sc1 hst
            split at h1
            · rename_i R2 ob2 sc3 hx
              cases h1
              obtain ⟨ho1, ho2⟩ := All.append.1 h2
              refine stepOp_ok hctr hst ho1 ho hS fun β' a' w' hS' => ?_
              exact ih hx ho2 hS' hk (by have := hstep j hj; omega) (by simpa using hsz)
            · cases h1
          · cases h1
        · cases h1
theorem drawAll_ok (hm : P.follows .mixedOrders = true) (hctr : CtrOk P ctr) {id : Nat} {sc sc' : List Bool} {ob : List Prop} (h : drawAll P ctr ops σ sc = some (σ', ob, sc')) (hob : All ob) (hS : Sat w0 S σ β a w)
    {Q : Exit → Act → World → Prop} (hQ : ∀ c a w, ¬ Q (.panic c) a w) (hk : ∀ β' a' w', Sat w0 S σ' β' a' w' → Q .normal a' w') : (Code.region id ops true).wp P Q a w := by
  unfold drawAll at h
  split at h
  · split at h
    · rename_i hs
      split at h
      · rename_i R ob1 sc1 hx
        cases h
        refine wp_region_any hm ?_
        have hxt : Ext w { w with drawn := w.drawn + 1 } := ⟨rfl, rfl, rfl, Nat.le_refl _, fun _ _ => rfl⟩
        refine execAll_ok hctr hs hQ hx hob (hS.extend hxt) hk ?_ (by simp)
        simp [left, List.countP_replicate]
      · cases h
    · cases h
  · cases h
end
end Go.Eng

namespace Go.Eng
open Go.RowKit
structure Ke where
  (ks bs : List Nat) (nx : Nat)
def tryS (step : Nat → Option (St × List Prop × List Bool)) : List Nat → Option (St × List Prop × List Bool)
  | [] => none
  | [i] => step i
  | i :: r => match step i, tryS step r with
    | some (R, ob, sc), some (R', ob', sc') => if sc = sc' then some (R, (R' = R) :: (ob ++ ob'), sc) else none
    | _, _ => none
def execS (P : Program) (ctr : Ctr) (ops : Array Oper) (d : Ke) : Nat → Array Bool → St → List Bool → Option (St × List Prop × List Bool)
  | 0, _, _, _ => none
  | f + 1, L, σ, sc => match Region.ready .any ops L with
    | [] => match restrict d.ks d.bs d.nx σ with
      | some R => some (R, [], sc)
      | none => none
    | r => match firstPureG P ctr ops L σ sc r with
      | some (i, σ1, ob1, sc1) => match execS P ctr ops d f (L.setIfInBounds i true) σ1 sc1 with
        | some (R, ob2, sc2) => some (R, ob1 ++ ob2, sc2)
        | none => none
      | none => tryS (fun i => match ops[i]? with
        | some o => match stepOp P ctr ops σ i o sc with
          | some (σ1, ob1, sc1) => match execS P ctr ops d f (L.setIfInBounds i true) σ1 sc1 with
            | some (R, ob2, sc2) => some (R, ob1 ++ ob2, sc2)
            | none => none
          | none => none
        | none => none) r
def drawS (P : Program) (ctr : Ctr) (ops : Array Oper) (d : Ke) (σ : St) (sc : List Bool) : Option (St × List Prop × List Bool) :=
  if Region.noSelect ops then execS P ctr ops d (ops.size + 1) (Array.replicate ops.size false) σ sc else none
section
variable {P : Program} {ctr : Ctr} {w0 : Fr} {w : World} {S : Own} {σ σ' : St} {β : Nat → Nat} {a : Act} {ops : Array Oper}
theorem tryS_ok {step : Nat → Option (St × List Prop × List Bool)} : ∀ {r : List Nat} {R : St} {ob : List Prop} {sc : List Bool}, tryS step r = some (R, ob, sc) → All ob → ∀ i ∈ r, ∃ ob' sc', step i = some (R, ob', sc') ∧ All ob' := by
  intro r
  induction r with
  | nil => intro R ob sc h; simp [tryS] at h
  | cons i r ih =>
    intro R ob sc h hob j hj
    cases r with
    | nil =>
      simp only [tryS] at h
      simp only [List.mem_singleton] at hj
      subst hj
      exact ⟨ob, sc, h, hob⟩
    | cons k r =>
      simp only [tryS] at h
      split at h
      · rename_i R1 ob1 sc1 R2 ob2 sc2 h1 h2
        split at h
        · cases h
          obtain ⟨he, hob⟩ := hob
          obtain ⟨ho1, ho2⟩ := All.append.1 hob
          rcases List.mem_cons.1 hj with rfl | hj
          · exact ⟨_, _, h1, ho1⟩
          · subst he
            exact ih h2 ho2 j hj
        · cases h
      · cases h
theorem execS_ok (hctr : CtrOk P ctr) (hs : Region.noSelect ops = true) {d : Ke} {Q : Exit → Act → World → Prop} (hQ : ∀ c a w, ¬ Q (.panic c) a w) : ∀ {f : Nat} {L : Array Bool} {σ : St} {R : St} {sc sc' : List Bool} {ob : List Prop} {β : Nat → Nat} {a : Act} {w : World},
    execS P ctr ops d f L σ sc = some (R, ob, sc') → All ob → Sat w0 S σ β a w → (∀ β' a' w', Sat w0 S R β' a' w' → Q .normal a' w') → ∀ {g : Nat}, left L ≤ g → L.size = ops.size → wpAny P .any ops Q g L a w := by
  intro f
  induction f with
  | zero => intro L σ R sc sc' ob β a w h; simp [execS] at h
  | succ f ih =>
    intro L σ R sc sc' ob β a w h hob hS hk g hl hsz
    simp only [execS] at h
    split at h
    · rename_i hr
      split at h
      · rename_i R1 he
        cases h
        exact wpAny_done hr (hk β a w (hS.restrict he)) g
      · cases h
    · rename_i hr0
      have hstep : ∀ i, i ∈ Region.ready .any ops L → left L = left (L.setIfInBounds i true) + 1 := fun i hi => by
        obtain ⟨h1, o, ho, _⟩ := mem_ready.1 hi
        exact left_set (by rw [hsz]; exact (Array.getElem?_eq_some_iff.1 ho).1) h1
      have hpos : 0 < g := by
        cases hr : Region.ready .any ops L with
        | nil => exact absurd hr hr0
        | cons j t => have := hstep j (by rw [hr]; simp); omega
      obtain ⟨g, rfl⟩ : ∃ g', g = g' + 1 := ⟨g - 1, by omega⟩
      split at h
      · rename_i i σ1 ob1 sc1 hp
        split at h
        · rename_i R2 ob2 sc2 hx
          cases h
          obtain ⟨ho1, ho2⟩ := All.append.1 hob
          obtain ⟨hm, hf, o, ho, hst⟩ := firstPureG_ok hp
          obtain ⟨v, hy, hS1⟩ := pureStepG_ok hst ho1 hS
          refine wpAny_take ho hs hf (by simpa using hm) (fun c a w h => absurd h (hQ c _ w)) hy ?_
          exact ih hx ho2 hS1 hk (by have := hstep i hm; omega) (by simpa using hsz)
        · cases h
      · refine wpAny_all rfl hr0 ?_
        intro j hj
        obtain ⟨ob', sc2, h1, h2⟩ := tryS_ok h hob j hj
        split at h1
        · rename_i o ho
          split at h1
          · rename_i σ1 ob1 sc1 hst
            split at h1
            · rename_i R2 ob2 sc3 hx
              cases h1
              obtain ⟨ho1, ho2⟩ := All.append.1 h2
              refine stepOp_ok hctr hst ho1 ho hS fun β' a' w' hS' => ?_
              exact ih hx ho2 hS' hk (by have := hstep j hj; omega) (by simpa using hsz)
            · cases h1
          · cases h1
        · cases h1
theorem drawS_ok (hm : P.follows .mixedOrders = true) (hctr : CtrOk P ctr) {id : Nat} {d : Ke} {sc sc' : List Bool} {ob : List Prop} (h : drawS P ctr ops d σ sc = some (σ', ob, sc')) (hob : All ob) (hS : Sat w0 S σ β a w)
    {Q : Exit → Act → World → Prop} (hQ : ∀ c a w, ¬ Q (.panic c) a w) (hk : ∀ β' a' w', Sat w0 S σ' β' a' w' → Q .normal a' w') : (Code.region id ops true).wp P Q a w := by
  unfold drawS at h
  split at h
  · rename_i hs
    refine wp_region_any hm ?_
    have hxt : Ext w { w with drawn := w.drawn + 1 } := ⟨rfl, rfl, rfl, Nat.le_refl _, fun _ _ => rfl⟩
    refine execS_ok hctr hs hQ h hob (hS.extend hxt) hk ?_ (by simp)
    simp [left, List.countP_replicate]
  · cases h
end
def regS (P : Program) (ctr : Ctr) (body : Code) (p : List Nat) (r : List It) (d : Ke) (σ : St) (sc : List Bool) : List It × Option St × List Prop × List Bool :=
  match nav body p with
  | some (.region _ ops true) => match drawS P ctr ops d σ sc with
    | some (σ', ob, sc') => (r, some σ', ob, sc')
    | none => ([], none, [], sc)
  | _ => ([], none, [], sc)
theorem hold_allS {P : Program} {body : Code} {w0 : Fr} {S : Own} (hm : P.follows .mixedOrders = true) {ctr : Ctr} (hctr : CtrOk P ctr) {Q : Exit → Act → World → Prop} [ExitOk Q] {p : List Nat} {r : List It} {d : Ke} {σ : St} {sc : List Bool} {st' : List It} {σ' : St} {ob : List Prop} {sc' : List Bool}
    (h : regS P ctr body p r d σ sc = (st', some σ', ob, sc')) (hob : All ob) (hk : Hold P body Q w0 S st' σ') : Hold P body Q w0 S (.at p :: r) σ := by
  unfold regS at h
  split at h
  · rename_i id ops hn
    split at h
    · rename_i σ1 ob1 sc1 hx
      cases h
      intro β a w hS
      simp only [contQ, hn]
      exact drawS_ok hm hctr hx hob hS (contQ_panic (ExitOk.panic (Q := Q)) _) hk
    · cases h
  · cases h
end Go.Eng

namespace Go.Eng
open Go.RowKit
def appendX (P : Program) (σ : St) (t t2 : TypeId) (x y : SV) : Option (St × SV × List Prop) :=
  match elemOf P t, appSrc P t t2 σ.blks y, x with
  | some (e, by'), some (sy, ob0), .osl id n es => match readSl σ.blks (.osl id n es) with
    | some sx => match joinSl sx sy with
      | some r => some (Eng.nilRow σ e, .row σ.next r, ob0 ++ [slenD r * by' ≤ 140737488355328, 0 < slenD sy])
      | none => none
    | none => none
  | _, _, _ => none
def stepX (P : Program) (ops : Array Oper) (σ : St) (o : Oper) (sc : List Bool) : Option (St × List Prop × List Bool) :=
  match guardOf ops σ.slots o with
  | some true => match o.op with
    | .call { callee := .builtin .append, args := ⟨[x, y]⟩, argTypes := ⟨[t, t']⟩ } => match lookρ σ.slots x, lookρ σ.slots y with
      | some sx, some sy => match appendX P σ t t' sx sy.rd with
        | some (σ1, r, ob) => match putS σ1 o.dst r with | some σ' => some (σ', ob, sc) | none => none
        | none => none
      | _, _ => none
    | _ => none
  | _ => none
def stepOpX (P : Program) (ctr : Ctr) (ops : Array Oper) (σ : St) (i : Nat) (o : Oper) (sc : List Bool) : Option (St × List Prop × List Bool) :=
  match stepX P ops σ o sc with
  | some r => some r
  | none => stepOpC P ctr ops σ i o sc
section
variable {P : Program} {ctr : Ctr} {w0 : Fr} {w : World} {S : Own} {σ σ' : St} {β : Nat → Nat} {a : Act} {ops : Array Oper}
theorem core_grow {id : Nat} {t t2 e ty : TypeId} {by' : Nat} (he : elemOf P t = some (e, by')) (hS : Sat w0 S σ β a w) (hR : RowStep σ σ' β S a w id e) {r : SV} {co news : List Value} (hc : slCells r = some (co ++ news)) (hg : slGood r)
    {x2 : Value} (hA : ∀ i z, P.info? e = some i → i.zero = some z → App P w t t2 ty e i z x2 news) (hb : (co.length + news.length) * by' ≤ 140737488355328) (h0 : 0 < news.length) (b : Addr)
    (holds : ∀ j u, co[j]? = some u → w.cell? (b.add j) = some u) :
    ∃ v w' β', (Builtin.append_ #[t, t2] ty #[.slice (some b) co.length co.length, x2]).run P w = .ok v w' ∧ Sat w0 S σ' β' a w' ∧ relV β' (owS S σ'.blks β') w' (.row id r) v := by
  obtain ⟨ht, i, z, hi, hz, hs1, hzs, hb0, hby⟩ := elemOf_ok he
  have hA := hA i z hi hz
  have hle : co.length + news.length ≤ 140737488355328 := Nat.le_trans (Nat.le_mul_of_pos_right _ hb0) hb
  have hr := hA.grow (b := b) (n := co.length) (cap := co.length) (olds := co) (by omega) rfl holds (by omega) (by omega) (by rw [hby]; exact hb) (growslice_fits (by omega) (by rw [hby]; exact hb))
  have hge := grownCap_ge w (co.length + news.length) co.length e
  have hcm2 := grownCap_le_maxLen w (co.length + news.length) co.length e (by simp only [maxLen]; omega)
  have hcore := core_new hS hR (rest := (Builtin.zeroCells z.cells (grownCap w (co.length + news.length) co.length e - (co.length + news.length))).toList) (cap := grownCap w (co.length + news.length) co.length e) hc hg (by
    have := size_zeroCells z.cells (grownCap w (co.length + news.length) co.length e - (co.length + news.length))
    rw [hzs] at this
    simp only [Array.length_toList, List.length_append]
    omega) (by omega) hcm2
  have e1 : (co ++ news ++ (Builtin.zeroCells z.cells (grownCap w (co.length + news.length) co.length e - (co.length + news.length))).toList).toArray = co.toArray ++ news.toArray ++ Builtin.zeroCells z.cells (grownCap w (co.length + news.length) co.length e - (co.length + news.length)) := by
    apply Array.ext'; simp
  rw [e1] at hcore
  simp only [List.length_append] at hcore
  exact ⟨_, _, _, hr, hcore.1, hcore.2⟩
theorem appendX_ok (hS : Sat w0 S σ β a w) {t t2 ty : TypeId} {x y r : SV} {ob : List Prop} (h : appendX P σ t t2 x y = some (σ', r, ob)) (hob : All ob) {v1 v2 : Value}
    (hx : relV β (owS S σ.blks β) w x v1) (hy : relV β (owS S σ.blks β) w y v2) :
    ∃ v w' β', (Builtin.append_ #[t, t2] ty #[v1, v2]).run P w = .ok v w' ∧ Sat w0 S σ' β' a w' ∧ relV β' (owS S σ'.blks β') w' r v := by
  unfold appendX at h
  split at h
  · rename_i e by' sy ob0 id n es he hry
    split at h
    · rename_i sx hrd
      split at h
      · rename_i r' hj
        cases h
        obtain ⟨ho0, hob⟩ := All.append.1 hob
        obtain ⟨gy, cy, hcy, hA⟩ := appSrc_ok (ty := ty) hS.blk he hry ho0 hy
        obtain ⟨gx, cx, A, c, hcx, hv, hcell⟩ := readSl_ok hS.blk hrd hx
        have h1 := relV_scalar rfl rfl hx
        simp only [rel, List.cons.injEq, and_true] at h1
        obtain ⟨hcr, hgr⟩ := joinSl_ok hj hcx hcy
        have hb : (cx.length + cy.length) * by' ≤ 140737488355328 := by have := hob.1; simpa [slenD, cells_slen hcr] using this
        have h0 : 0 < cy.length := by have := hob.2.1; simpa [slenD, cells_slen hcy] using this
        rw [h1] at hv
        cases hv
        rw [h1]
        refine core_grow (σ' := Eng.nilRow σ e) he hS (id := σ.next) ⟨rfl, ?_, ?_, hS.uniq_cons, by simp [Eng.nilRow], ⟨rfl, fun i bk hm _ => ⟨List.mem_cons_of_mem _ hm, .inl (hS.bndB i bk hm).1⟩⟩, by simp [Eng.nilRow]⟩ hcr (hgr gx gy) hA hb h0 ⟨β id, 0, none⟩ ?_
        · intro d s hm
          exact ⟨fun i hi => by have := hS.bnd d s hm i hi; simp only [Eng.nilRow]; omega, hS.slot d s hm⟩
        · intro i bk hm
          rcases List.mem_cons.1 hm with h | h
          · cases h; exact .inl ⟨rfl, rfl⟩
          · exact .inr ⟨h, hS.fresh i bk h⟩
        · intro j u hu
          obtain ⟨ad, e2, _, h3⟩ := hcell (by have := (List.getElem?_eq_some_iff.1 hu).1; omega)
          cases e2
          rw [add_plain]
          simpa using h3 j u hu
      · cases h
    · cases h
  · cases h
theorem wp_appendX {o : Oper} {x y : Operand} {t t2 : TypeId} (ho : o.op = .call { callee := .builtin .append, args := #[x, y], argTypes := #[t, t2] }) (hS : Sat w0 S σ β a w) {sx sy r : SV} {ob : List Prop}
    (h : appendX P σ t t2 sx sy = some (σ', r, ob)) (hob : All ob) (hx : relV β (owS S σ.blks β) w sx (a.eval x)) (hy : relV β (owS S σ.blks β) w sy (a.eval y))
    {K : Act → World → Prop} {Q : Exit → Act → World → Prop} (hk : ∀ v w' β', Sat w0 S σ' β' a w' → relV β' (owS S σ'.blks β') w' r v → K (a.put o.dst v) w') : o.wp P a w K Q := by
  obtain ⟨v, w', β', hr, h1, h2⟩ := appendX_ok (P := P) (ty := o.type) hS h hob hx hy
  unfold Oper.wp execOp
  simp only [ho, resolve, invoke, builtin, Sem.run_bind, Sem.run_pure, Result.andThen_ok, List.map_toArray, List.map_cons, List.map_nil, hr]
  exact hk v w' β' h1 h2
theorem stepOpX_ok (hctr : CtrOk P ctr) {σ' : St} {i : Nat} {o : Oper} {sc sc' : List Bool} {ob : List Prop} (h : stepOpX P ctr ops σ i o sc = some (σ', ob, sc')) (hob : All ob) (hi : ops[i]? = some o)
    (hS : Sat w0 S σ β a w) {K : Act → World → Prop} {Q : Exit → Act → World → Prop} (hk : ∀ β' a' w', Sat w0 S σ' β' a' w' → K a' w') : wpOp P ops Q i K a w := by
  unfold stepOpX at h
  split at h
  · rename_i hx
    cases h
    unfold stepX at hx
    split at hx
    · rename_i hg
      split at hx
      · rename_i x y t t' hop
        split at hx
        · rename_i sx sy hx1 hy1
          split at hx
          · rename_i σ1 r ob' happ
            split at hx
            · rename_i σ2 hput
              cases hx
              unfold wpOp
              simp only [hi]
              rw [guard_ok hS.slot hg]
              simp only [if_true]
              refine .inl ?_
              exact wp_appendX hop hS happ hob (hS.look hx1) (rd_ok (hS.look hy1)) fun v w' β' h1 h2 => hk β' _ _ (h1.put hput h2)
            · cases hx
          · cases hx
        · cases hx
      · cases hx
    · cases hx
  · exact stepOpC_ok hctr h hob hi hS hk
end
def execX (P : Program) (ctr : Ctr) (ops : Array Oper) (d : Ke) : Nat → Array Bool → St → List Bool → Option (St × List Prop × List Bool)
  | 0, _, _, _ => none
  | f + 1, L, σ, sc => match Region.ready .any ops L with
    | [] => match restrict d.ks d.bs d.nx σ with
      | some R => some (R, [], sc)
      | none => none
    | r => match firstPureG P ctr ops L σ sc r with
      | some (i, σ1, ob1, sc1) => match execX P ctr ops d f (L.setIfInBounds i true) σ1 sc1 with
        | some (R, ob2, sc2) => some (R, ob1 ++ ob2, sc2)
        | none => none
      | none => tryS (fun i => match ops[i]? with
        | some o => match stepOpX P ctr ops σ i o sc with
          | some (σ1, ob1, sc1) => match execX P ctr ops d f (L.setIfInBounds i true) σ1 sc1 with
            | some (R, ob2, sc2) => some (R, ob1 ++ ob2, sc2)
            | none => none
          | none => none
        | none => none) r
def drawX (P : Program) (ctr : Ctr) (ops : Array Oper) (d : Ke) (σ : St) (sc : List Bool) : Option (St × List Prop × List Bool) :=
  if Region.noSelect ops then execX P ctr ops d (ops.size + 1) (Array.replicate ops.size false) σ sc else none
section
variable {P : Program} {ctr : Ctr} {w0 : Fr} {w : World} {S : Own} {σ σ' : St} {β : Nat → Nat} {a : Act} {ops : Array Oper}
theorem execX_ok (hctr : CtrOk P ctr) (hs : Region.noSelect ops = true) {d : Ke} {Q : Exit → Act → World → Prop} (hQ : ∀ c a w, ¬ Q (.panic c) a w) : ∀ {f : Nat} {L : Array Bool} {σ : St} {R : St} {sc sc' : List Bool} {ob : List Prop} {β : Nat → Nat} {a : Act} {w : World},
    execX P ctr ops d f L σ sc = some (R, ob, sc') → All ob → Sat w0 S σ β a w → (∀ β' a' w', Sat w0 S R β' a' w' → Q .normal a' w') → ∀ {g : Nat}, left L ≤ g → L.size = ops.size → wpAny P .any ops Q g L a w := by
  intro f
  induction f with
  | zero => intro L σ R sc sc' ob β a w h; simp [execX] at h
  | succ f ih =>
    intro L σ R sc sc' ob β a w h hob hS hk g hl hsz
    simp only [execX] at h
    split at h
    · rename_i hr
      split at h
      · rename_i R1 he
        cases h
        exact wpAny_done hr (hk β a w (hS.restrict he)) g
      · cases h
    · rename_i hr0
      have hstep : ∀ i, i ∈ Region.ready .any ops L → left L = left (L.setIfInBounds i true) + 1 := fun i hi => by
        obtain ⟨h1, o, ho, _⟩ := mem_ready.1 hi
        exact left_set (by rw [hsz]; exact (Array.getElem?_eq_some_iff.1 ho).1) h1
      have hpos : 0 < g := by
        cases hr : Region.ready .any ops L with
        | nil => exact absurd hr hr0
        | cons j t => have := hstep j (by rw [hr]; simp); omega
      obtain ⟨g, rfl⟩ : ∃ g', g = g' + 1 := ⟨g - 1, by omega⟩
      split at h
      · rename_i i σ1 ob1 sc1 hp
        split at h
        · rename_i R2 ob2 sc2 hx
          cases h
          obtain ⟨ho1, ho2⟩ := All.append.1 hob
          obtain ⟨hm, hf, o, ho, hst⟩ := firstPureG_ok hp
          obtain ⟨v, hy, hS1⟩ := pureStepG_ok hst ho1 hS
          refine wpAny_take ho hs hf (by simpa using hm) (fun c a w h => absurd h (hQ c _ w)) hy ?_
          exact ih hx ho2 hS1 hk (by have := hstep i hm; omega) (by simpa using hsz)
        · cases h
      · refine wpAny_all rfl hr0 ?_
        intro j hj
        obtain ⟨ob', sc2, h1, h2⟩ := tryS_ok h hob j hj
        split at h1
        · rename_i o ho
          split at h1
          · rename_i σ1 ob1 sc1 hst
            split at h1
            · rename_i R2 ob2 sc3 hx
              cases h1
              obtain ⟨ho1, ho2⟩ := All.append.1 h2
              refine stepOpX_ok hctr hst ho1 ho hS fun β' a' w' hS' => ?_
              exact ih hx ho2 hS' hk (by have := hstep j hj; omega) (by simpa using hsz)
            · cases h1
          · cases h1
        · cases h1
theorem drawX_ok (hm : P.follows .mixedOrders = true) (hctr : CtrOk P ctr) {id : Nat} {d : Ke} {sc sc' : List Bool} {ob : List Prop} (h : drawX P ctr ops d σ sc = some (σ', ob, sc')) (hob : All ob) (hS : Sat w0 S σ β a w)
    {Q : Exit → Act → World → Prop} (hQ : ∀ c a w, ¬ Q (.panic c) a w) (hk : ∀ β' a' w', Sat w0 S σ' β' a' w' → Q .normal a' w') : (Code.region id ops true).wp P Q a w := by
  unfold drawX at h
  split at h
  · rename_i hs
    refine wp_region_any hm ?_
    have hxt : Ext w { w with drawn := w.drawn + 1 } := ⟨rfl, rfl, rfl, Nat.le_refl _, fun _ _ => rfl⟩
    refine execX_ok hctr hs hQ h hob (hS.extend hxt) hk ?_ (by simp)
    simp [left, List.countP_replicate]
  · cases h
end
def regX (P : Program) (ctr : Ctr) (body : Code) (p : List Nat) (r : List It) (d : Ke) (σ : St) (sc : List Bool) : List It × Option St × List Prop × List Bool :=
  match nav body p with
  | some (.region _ ops true) => match drawX P ctr ops d σ sc with
    | some (σ', ob, sc') => (r, some σ', ob, sc')
    | none => ([], none, [], sc)
  | _ => ([], none, [], sc)
theorem hold_allX {P : Program} {body : Code} {w0 : Fr} {S : Own} (hm : P.follows .mixedOrders = true) {ctr : Ctr} (hctr : CtrOk P ctr) {Q : Exit → Act → World → Prop} [ExitOk Q] {p : List Nat} {r : List It} {d : Ke} {σ : St} {sc : List Bool} {st' : List It} {σ' : St} {ob : List Prop} {sc' : List Bool}
    (h : regX P ctr body p r d σ sc = (st', some σ', ob, sc')) (hob : All ob) (hk : Hold P body Q w0 S st' σ') : Hold P body Q w0 S (.at p :: r) σ := by
  unfold regX at h
  split at h
  · rename_i id ops hn
    split at h
    · rename_i σ1 ob1 sc1 hx
      cases h
      intro β a w hS
      simp only [contQ, hn]
      exact drawX_ok hm hctr hx hob hS (contQ_panic (ExitOk.panic (Q := Q)) _) hk
    · cases h
  · cases h
end Go.Eng

namespace Go.Eng
open Go.RowKit
abbrev Nd := Array Bool × St × List Bool
def insK (x : Nat) : List Nat → List Nat
  | [] => [x]
  | y :: r => if x ≤ y then x :: y :: r else y :: insK x r
def sortK : List Nat → List Nat
  | [] => []
  | x :: r => insK x (sortK r)
def normS (nt m nx : Nat) (σ : St) : Option St := match restrict (sortK (σ.slots.map (·.1))) (sortK (σ.blks.map (·.1))) nx σ with
  | some ⟨nt', sl, bl, nx', m'⟩ => if nt' = nt ∧ m' = m ∧ nx' = nx then some ⟨nt, sl, bl, nx, m⟩ else none
  | none => none
def looks (L : Array Bool) (σ : St) (sc : List Bool) : (List Bool × List Bool) × List (Nat × List Nat) × List (Nat × Bool) :=
  ((L.toList, sc), σ.slots.map (fun p => (p.1, p.2.ids)), σ.blks.map (fun p => (p.1, p.2.row)))
def addNd (L : Array Bool) (σ : St) (sc : List Bool) : List Nd → List Nd × List Prop
  | [] => ([(L, σ, sc)], [])
  | (L', σ', sc') :: r => if looks L σ sc = looks L' σ' sc' then ((L', σ', sc') :: r, [σ = σ']) else match addNd L σ sc r with | (r', ob) => ((L', σ', sc') :: r', ob)
def mergeNd : List Nd → List Nd × List Prop
  | [] => ([], [])
  | (L, σ, sc) :: r => match mergeNd r with | (l, ob) => match addNd L σ sc l with | (l', ob') => (l', ob' ++ ob)
def mapO (f : Nat → Option (Nd × List Prop)) : List Nat → Option (List Nd × List Prop)
  | [] => some ([], [])
  | i :: r => match f i, mapO f r with
    | some (n, ob), some (l, ob') => some (n :: l, ob ++ ob')
    | _, _ => none
def nextNd (P : Program) (ctr : Ctr) (ops : Array Oper) (nt m nx : Nat) : Nd → Option (List Nd × List Prop)
  | (L, σ, sc) => match Region.ready .any ops L with
    | [] => some ([(L, σ, sc)], [])
    | r => match firstPureG P ctr ops L σ sc r with
      | some (i, σ1, ob1, sc1) => match normS nt m nx σ1 with | some σ2 => some ([(L.setIfInBounds i true, σ2, sc1)], ob1) | none => none
      | none => mapO (fun i => match ops[i]? with
        | some o => match stepOpX P ctr ops σ i o sc with
          | some (σ1, ob1, sc1) => match normS nt m nx σ1 with | some σ2 => some ((L.setIfInBounds i true, σ2, sc1), ob1) | none => none
          | none => none
        | none => none) r
def nextAll (P : Program) (ctr : Ctr) (ops : Array Oper) (nt m nx : Nat) : List Nd → Option (List Nd × List Prop)
  | [] => some ([], [])
  | n :: r => match nextNd P ctr ops nt m nx n, nextAll P ctr ops nt m nx r with
    | some (l, ob), some (l', ob') => some (l ++ l', ob ++ ob')
    | _, _ => none
def allDone (ops : Array Oper) (ns : List Nd) : Bool := ns.all fun n => (Region.ready .any ops n.1).isEmpty
def rdSt (σ : St) : St := { σ with slots := σ.slots.map fun p => (p.1, p.2.rd) }
def endSt (d : Ke) (σ : St) : Option St := restrict d.ks d.bs d.nx (if d.bs.isEmpty = true then rdSt σ else σ)
def endAll (d : Ke) : List Nd → Option (St × List Prop × List Bool)
  | [] => none
  | [(_, σ, sc)] => match endSt d σ with
    | some R => some (R, [], sc)
    | none => none
  | (_, σ, sc) :: r => match endSt d σ, endAll d r with
    | some R, some (R', ob, sc') => if sc = sc' then some (R', (R = R') :: ob, sc') else none
    | _, _ => none
def execL (P : Program) (ctr : Ctr) (ops : Array Oper) (d : Ke) (nt m : Nat) : Nat → Nat → List Nd → Option (St × List Prop × List Bool)
  | 0, _, _ => none
  | f + 1, nx, ns => if allDone ops ns = true then endAll d ns else match nextAll P ctr ops nt m nx ns with
    | some (l, ob) => match mergeNd l with
      | (l', ob') => match execL P ctr ops d nt m f (nx + 4) l' with
        | some (R, ob2, sc) => some (R, ob ++ (ob' ++ ob2), sc)
        | none => none
    | none => none
def drawL2 (P : Program) (ctr : Ctr) (ops : Array Oper) (d : Ke) (σ : St) (sc : List Bool) : Option (St × List Prop × List Bool) :=
  if Region.noSelect ops then execL P ctr ops d σ.nt σ.m (ops.size + 1) (σ.next + 4) [(Array.replicate ops.size false, σ, sc)] else none
section
variable {P : Program} {ctr : Ctr} {w0 : Fr} {w : World} {S : Own} {σ σ' : St} {β : Nat → Nat} {a : Act} {ops : Array Oper}
theorem Sat.norm {nt m nx : Nat} (h : normS nt m nx σ = some σ') (hS : Sat w0 S σ β a w) : Sat w0 S σ' β a w := by
  unfold normS at h
  split at h
  · rename_i nt' sl bl nx' m' hr
    split at h
    · rename_i hc
      obtain ⟨rfl, rfl, rfl⟩ := hc
      cases h
      exact hS.restrict hr
    · cases h
  · cases h
theorem rd_ids (s : SV) : ∀ i ∈ s.rd.ids, i ∈ s.ids := by
  cases s <;> intro i hi <;> simp_all [SV.rd, SV.ids]
theorem Sat.rd (hS : Sat w0 S σ β a w) : Sat w0 S (rdSt σ) β a w := by
  refine ⟨hS.defs, hS.size, ?_, hS.blk, hS.low, hS.inj, hS.uniq, ?_, hS.bndB, hS.ext, hS.lowS, hS.pins⟩
  · intro d s hd
    obtain ⟨⟨d', s'⟩, h1, h2⟩ := List.mem_map.1 hd
    cases h2
    exact rd_ok (hS.slot _ _ h1)
  · intro d s hd i hi
    obtain ⟨⟨d', s'⟩, h1, h2⟩ := List.mem_map.1 hd
    cases h2
    exact hS.bnd _ _ h1 i (rd_ids s' i hi)
theorem Sat.ends {d : Ke} (h : endSt d σ = some σ') (hS : Sat w0 S σ β a w) : Sat w0 S σ' β a w := by
  unfold endSt at h
  split at h
  · exact hS.rd.restrict h
  · exact hS.restrict h
theorem addNd_ok {L : Array Bool} {σ : St} {sc : List Bool} : ∀ {l l' : List Nd} {ob : List Prop}, addNd L σ sc l = (l', ob) → All ob → (L, σ, sc) ∈ l' ∧ ∀ m ∈ l, m ∈ l' := by
  intro l
  induction l with
  | nil => intro l' ob h _; simp only [addNd] at h; cases h; exact ⟨by simp, by simp⟩
  | cons m r ih =>
    obtain ⟨L', σ', sc'⟩ := m
    intro l' ob h hob
    simp only [addNd] at h
    split at h
    · rename_i hlk
      cases h
      obtain ⟨h1, _⟩ := hob
      have e1 : L = L' := Array.ext' (congrArg (fun x => x.1.1) hlk)
      have e2 : sc = sc' := congrArg (fun x => x.1.2) hlk
      subst e1 e2 h1
      exact ⟨by simp, fun _ h => h⟩
    · cases hq : addNd L σ sc r with
      | mk r' ob' =>
        rw [hq] at h
        cases h
        obtain ⟨h1, h2⟩ := ih hq hob
        refine ⟨List.mem_cons_of_mem _ h1, fun x hx => ?_⟩
        rcases List.mem_cons.1 hx with rfl | hx
        · simp
        · exact List.mem_cons_of_mem _ (h2 x hx)
theorem mergeNd_ok : ∀ {l l' : List Nd} {ob : List Prop}, mergeNd l = (l', ob) → All ob → ∀ n ∈ l, n ∈ l' := by
  intro l
  induction l with
  | nil => intro l' ob _ _ n hn; cases hn
  | cons n r ih =>
    obtain ⟨L, σ, sc⟩ := n
    intro l' ob h hob m hm
    simp only [mergeNd] at h
    cases hq : mergeNd r with
    | mk l1 ob1 =>
      rw [hq] at h
      dsimp only at h
      cases hq2 : addNd L σ sc l1 with
      | mk l2 ob2 =>
        rw [hq2] at h
        cases h
        obtain ⟨h1, h2⟩ := All.append.1 hob
        obtain ⟨h3, h4⟩ := addNd_ok hq2 h1
        rcases List.mem_cons.1 hm with rfl | hm
        · exact h3
        · exact h4 _ (ih hq h2 _ hm)
theorem mapO_ok {f : Nat → Option (Nd × List Prop)} : ∀ {r : List Nat} {l : List Nd} {ob : List Prop}, mapO f r = some (l, ob) → All ob → ∀ i ∈ r, ∃ n ob', f i = some (n, ob') ∧ All ob' ∧ n ∈ l := by
  intro r
  induction r with
  | nil => intro l ob _ _ i hi; cases hi
  | cons j r ih =>
    intro l ob h hob i hi
    simp only [mapO] at h
    split at h
    · rename_i n ob1 l1 ob2 h1 h2
      cases h
      obtain ⟨ho1, ho2⟩ := All.append.1 hob
      rcases List.mem_cons.1 hi with rfl | hi
      · exact ⟨n, ob1, h1, ho1, by simp⟩
      · obtain ⟨m, ob', h3, h4, h5⟩ := ih h2 ho2 i hi
        exact ⟨m, ob', h3, h4, List.mem_cons_of_mem _ h5⟩
    · cases h
theorem endAll_ok {d : Ke} : ∀ {ns : List Nd} {R : St} {ob : List Prop} {sc : List Bool}, endAll d ns = some (R, ob, sc) → All ob → ∀ n ∈ ns, endSt d n.2.1 = some R := by
  intro ns
  induction ns with
  | nil => intro R ob sc _ _ n hn; cases hn
  | cons n r ih =>
    obtain ⟨L, σ, sc0⟩ := n
    intro R ob sc h hob m hm
    cases r with
    | nil =>
      simp only [endAll] at h
      split at h
      · rename_i R1 h1
        cases h
        rcases List.mem_cons.1 hm with rfl | hm
        · exact h1
        · cases hm
      · cases h
    | cons k r =>
      simp only [endAll] at h
      split at h
      · rename_i R1 R2 ob1 sc1 h1 h2
        split at h
        · cases h
          obtain ⟨ho1, ho2⟩ := hob
          rcases List.mem_cons.1 hm with rfl | hm
          · rw [← ho1]; exact h1
          · exact ih h2 ho2 _ hm
        · cases h
      · cases h
theorem nextAll_ok {nt m nx : Nat} : ∀ {ns l : List Nd} {ob : List Prop}, nextAll P ctr ops nt m nx ns = some (l, ob) → All ob → ∀ n ∈ ns, ∃ l1 ob1, nextNd P ctr ops nt m nx n = some (l1, ob1) ∧ All ob1 ∧ ∀ m ∈ l1, m ∈ l := by
  intro ns
  induction ns with
  | nil => intro l ob _ _ n hn; cases hn
  | cons n r ih =>
    intro l ob h hob m hm
    simp only [nextAll] at h
    split at h
    · rename_i l1 ob1 l2 ob2 h1 h2
      cases h
      obtain ⟨ho1, ho2⟩ := All.append.1 hob
      rcases List.mem_cons.1 hm with rfl | hm
      · exact ⟨l1, ob1, h1, ho1, fun x hx => List.mem_append_left _ hx⟩
      · obtain ⟨l3, ob3, h3, h4, h5⟩ := ih h2 ho2 m hm
        exact ⟨l3, ob3, h3, h4, fun x hx => List.mem_append_right _ (h5 x hx)⟩
    · cases h
theorem execL_ok (hctr : CtrOk P ctr) (hs : Region.noSelect ops = true) {d : Ke} {nt m : Nat} {Q : Exit → Act → World → Prop} (hQ : ∀ c a w, ¬ Q (.panic c) a w) : ∀ {f nx : Nat} {ns : List Nd} {R : St} {sc' : List Bool} {ob : List Prop},
    execL P ctr ops d nt m f nx ns = some (R, ob, sc') → All ob → (∀ β' a' w', Sat w0 S R β' a' w' → Q .normal a' w') → ∀ n ∈ ns, ∀ {β : Nat → Nat} {a : Act} {w : World}, Sat w0 S n.2.1 β a w → ∀ {g : Nat}, left n.1 ≤ g → n.1.size = ops.size → wpAny P .any ops Q g n.1 a w := by
  intro f
  induction f with
  | zero => intro nx ns R sc' ob h; simp [execL] at h
  | succ f ih =>
    intro nx ns R sc' ob h hob hk n hn β a w hS g hl hsz
    simp only [execL] at h
    split at h
    · rename_i hd
      have hr : Region.ready .any ops n.1 = [] := by
        have := List.all_eq_true.1 hd n hn
        simpa using this
      exact wpAny_done hr (hk β a w (hS.ends (endAll_ok h hob n hn))) g
    · split at h
      · rename_i l ob1 hnx
        cases hq : mergeNd l with
        | mk l' ob2 =>
          rw [hq] at h
          dsimp only at h
          split at h
          · rename_i R1 ob3 sc1 hx
            cases h
            obtain ⟨ho1, ho⟩ := All.append.1 hob
            obtain ⟨ho2, ho3⟩ := All.append.1 ho
            obtain ⟨l1, obn, h1, h2, h3⟩ := nextAll_ok hnx ho1 n hn
            have hgo : ∀ m ∈ l1, ∀ {β : Nat → Nat} {a : Act} {w : World}, Sat w0 S m.2.1 β a w → ∀ {g : Nat}, left m.1 ≤ g → m.1.size = ops.size → wpAny P .any ops Q g m.1 a w :=
              fun m hm => ih hx ho3 hk m (mergeNd_ok hq ho2 m (h3 m hm))
            obtain ⟨L, σ, sc⟩ := n
            simp only [nextNd] at h1
            dsimp only at hS hl hsz
            split at h1
            · cases h1
              exact hgo (L, σ, sc) (by simp) hS hl hsz
            · rename_i hr0
              have hstep : ∀ i, i ∈ Region.ready .any ops L → left L = left (L.setIfInBounds i true) + 1 := fun i hi => by
                obtain ⟨h1, o, ho, _⟩ := mem_ready.1 hi
                exact left_set (by rw [hsz]; exact (Array.getElem?_eq_some_iff.1 ho).1) h1
              have hpos : 0 < g := by
                cases hr : Region.ready .any ops L with
                | nil => exact absurd hr hr0
                | cons j t => have := hstep j (by rw [hr]; simp); omega
              obtain ⟨g, rfl⟩ : ∃ g', g = g' + 1 := ⟨g - 1, by omega⟩
              split at h1
              · rename_i i σ1 ob1 sc1 hp
                split at h1
                · rename_i σ2 hno
                  cases h1
                  obtain ⟨hm, hf, o, ho, hst⟩ := firstPureG_ok hp
                  obtain ⟨v, hy, hS1⟩ := pureStepG_ok hst h2 hS
                  refine wpAny_take ho hs hf (by simpa using hm) (fun c a w h => absurd h (hQ c _ w)) hy ?_
                  exact hgo _ (List.mem_singleton.2 rfl) (hS1.norm hno) (by have := hstep i hm; dsimp only; omega) (by simpa using hsz)
                · cases h1
              · refine wpAny_all rfl hr0 ?_
                intro j hj
                obtain ⟨m, obj, h4, h5, h6⟩ := mapO_ok h1 h2 j hj
                split at h4
                · rename_i o ho
                  split at h4
                  · rename_i σ1 ob1 sc1 hst
                    split at h4
                    · rename_i σ2 hno
                      cases h4
                      refine stepOpX_ok hctr hst h5 ho hS fun β' a' w' hS' => ?_
                      exact hgo _ h6 (hS'.norm hno) (by have := hstep j hj; dsimp only; omega) (by simpa using hsz)
                    · cases h4
                  · cases h4
                · cases h4
          · cases h
      · cases h
theorem drawL2_ok (hm : P.follows .mixedOrders = true) (hctr : CtrOk P ctr) {id : Nat} {d : Ke} {sc sc' : List Bool} {ob : List Prop} (h : drawL2 P ctr ops d σ sc = some (σ', ob, sc')) (hob : All ob) (hS : Sat w0 S σ β a w)
    {Q : Exit → Act → World → Prop} (hQ : ∀ c a w, ¬ Q (.panic c) a w) (hk : ∀ β' a' w', Sat w0 S σ' β' a' w' → Q .normal a' w') : (Code.region id ops true).wp P Q a w := by
  unfold drawL2 at h
  split at h
  · rename_i hs
    refine wp_region_any hm ?_
    have hxt : Ext w { w with drawn := w.drawn + 1 } := ⟨rfl, rfl, rfl, Nat.le_refl _, fun _ _ => rfl⟩
    refine execL_ok hctr hs hQ h hob hk _ (List.mem_singleton.2 rfl) (hS.extend hxt) ?_ (by simp)
    simp [left, List.countP_replicate]
  · cases h
end
def regL (P : Program) (ctr : Ctr) (body : Code) (p : List Nat) (r : List It) (d : Ke) (σ : St) (sc : List Bool) : List It × Option St × List Prop × List Bool :=
  match nav body p with
  | some (.region _ ops true) => match drawL2 P ctr ops d σ sc with
    | some (σ', ob, sc') => (r, some σ', ob, sc')
    | none => ([], none, [], sc)
  | _ => ([], none, [], sc)
theorem hold_allL {P : Program} {body : Code} {w0 : Fr} {S : Own} (hm : P.follows .mixedOrders = true) {ctr : Ctr} (hctr : CtrOk P ctr) {Q : Exit → Act → World → Prop} [ExitOk Q] {p : List Nat} {r : List It} {d : Ke} {σ : St} {sc : List Bool} {st' : List It} {σ' : St} {ob : List Prop} {sc' : List Bool}
    (h : regL P ctr body p r d σ sc = (st', some σ', ob, sc')) (hob : All ob) (hk : Hold P body Q w0 S st' σ') : Hold P body Q w0 S (.at p :: r) σ := by
  unfold regL at h
  split at h
  · rename_i id ops hn
    split at h
    · rename_i σ1 ob1 sc1 hx
      cases h
      intro β a w hS
      simp only [contQ, hn]
      exact drawL2_ok hm hctr hx hob hS (contQ_panic (ExitOk.panic (Q := Q)) _) hk
    · cases h
  · cases h
end Go.Eng

