import Derived.Test.YtedccmojbmlkcaaE14
set_option linter.unusedVariables false
set_option linter.unusedSimpArgs false
set_option linter.unusedSectionVars false
namespace Go.Eng.B
open Go Go.Eng Go.Proofs
set_option maxRecDepth 100000
set_option maxHeartbeats 2000000
def empS : SV → Bool
  | .nil => true
  | .sl .u8 [] => true
  | _ => false
def orE (e f : List SV → Option (SV × List Prop)) (args : List SV) : Option (SV × List Prop) := match e args with
  | some r => some r
  | none => f args
def eCp1 (args : List SV) : Option (SV × List Prop) := match args with
  | [.ag [.c .i64 4, .c .u64 0, z, .slv 4 [.ag [.u .i64 k1, .u .u64 n1, .sl .u8 b1, .sl .u8 []]]]] => if empS z = true then some (.ag [.c .i64 4, .c .u64 0, .sl .u8 [], .slv 4 [.ag [.u .i64 k1, .u .u64 n1, .sl .u8 b1, .sl .u8 []]]], [b1.length ≤ 100000000]) else none
  | _ => none
def eLs1 (args : List SV) : Option (SV × List Prop) := match args with
  | [.slv 4 [.ag [.u .i64 k1, .u .u64 n1, .sl .u8 b1, .sl .u8 []]]] => some (.ag [.c .i64 4, .c .u64 0, .sl .u8 [], .slv 4 [.ag [.u .i64 k1, .u .u64 n1, .sl .u8 b1, .sl .u8 []]]], [b1.length ≤ 100000000])
  | _ => none
def eCp3 (args : List SV) : Option (SV × List Prop) := match args with
  | [.ag [.c .i64 4, .c .u64 0, z, .slv 4 [.ag [.u .i64 k1, .u .u64 n1, .sl .u8 b1, .sl .u8 []], .ag [.u .i64 k2, .u .u64 n2, .sl .u8 b2, .sl .u8 []], .ag [.u .i64 k3, .u .u64 n3, .sl .u8 b3, .sl .u8 []]]]] => if empS z = true then some (.ag [.c .i64 4, .c .u64 0, .sl .u8 [], .slv 4 [.ag [.u .i64 k1, .u .u64 n1, .sl .u8 b1, .sl .u8 []], .ag [.u .i64 k2, .u .u64 n2, .sl .u8 b2, .sl .u8 []], .ag [.u .i64 k3, .u .u64 n3, .sl .u8 b3, .sl .u8 []]]], [b1.length ≤ 100000000, b2.length ≤ 100000000, b3.length ≤ 100000000]) else none
  | _ => none
def eLs3 (args : List SV) : Option (SV × List Prop) := match args with
  | [.slv 4 [.ag [.u .i64 k1, .u .u64 n1, .sl .u8 b1, .sl .u8 []], .ag [.u .i64 k2, .u .u64 n2, .sl .u8 b2, .sl .u8 []], .ag [.u .i64 k3, .u .u64 n3, .sl .u8 b3, .sl .u8 []]]] => some (.ag [.c .i64 4, .c .u64 0, .sl .u8 [], .slv 4 [.ag [.u .i64 k1, .u .u64 n1, .sl .u8 b1, .sl .u8 []], .ag [.u .i64 k2, .u .u64 n2, .sl .u8 b2, .sl .u8 []], .ag [.u .i64 k3, .u .u64 n3, .sl .u8 b3, .sl .u8 []]]], [b1.length ≤ 100000000, b2.length ≤ 100000000, b3.length ≤ 100000000])
  | _ => none
def eCp5 (args : List SV) : Option (SV × List Prop) := match args with
  | [.ag [.c .i64 4, .c .u64 0, z, .slv 4 [.ag [.u .i64 k1, .u .u64 n1, .sl .u8 b1, .sl .u8 []], .ag [.u .i64 k2, .u .u64 n2, .sl .u8 b2, .sl .u8 []], .ag [.u .i64 k3, .u .u64 n3, .sl .u8 b3, .sl .u8 []], .ag [.u .i64 k4, .u .u64 n4, .sl .u8 b4, .sl .u8 []], .ag [.u .i64 k5, .u .u64 n5, .sl .u8 b5, .sl .u8 []]]]] => if empS z = true then some (.ag [.c .i64 4, .c .u64 0, .sl .u8 [], .slv 4 [.ag [.u .i64 k1, .u .u64 n1, .sl .u8 b1, .sl .u8 []], .ag [.u .i64 k2, .u .u64 n2, .sl .u8 b2, .sl .u8 []], .ag [.u .i64 k3, .u .u64 n3, .sl .u8 b3, .sl .u8 []], .ag [.u .i64 k4, .u .u64 n4, .sl .u8 b4, .sl .u8 []], .ag [.u .i64 k5, .u .u64 n5, .sl .u8 b5, .sl .u8 []]]], [b1.length ≤ 100000000, b2.length ≤ 100000000, b3.length ≤ 100000000, b4.length ≤ 100000000, b5.length ≤ 100000000]) else none
  | _ => none
def eLs5 (args : List SV) : Option (SV × List Prop) := match args with
  | [.slv 4 [.ag [.u .i64 k1, .u .u64 n1, .sl .u8 b1, .sl .u8 []], .ag [.u .i64 k2, .u .u64 n2, .sl .u8 b2, .sl .u8 []], .ag [.u .i64 k3, .u .u64 n3, .sl .u8 b3, .sl .u8 []], .ag [.u .i64 k4, .u .u64 n4, .sl .u8 b4, .sl .u8 []], .ag [.u .i64 k5, .u .u64 n5, .sl .u8 b5, .sl .u8 []]]] => some (.ag [.c .i64 4, .c .u64 0, .sl .u8 [], .slv 4 [.ag [.u .i64 k1, .u .u64 n1, .sl .u8 b1, .sl .u8 []], .ag [.u .i64 k2, .u .u64 n2, .sl .u8 b2, .sl .u8 []], .ag [.u .i64 k3, .u .u64 n3, .sl .u8 b3, .sl .u8 []], .ag [.u .i64 k4, .u .u64 n4, .sl .u8 b4, .sl .u8 []], .ag [.u .i64 k5, .u .u64 n5, .sl .u8 b5, .sl .u8 []]]], [b1.length ≤ 100000000, b2.length ≤ 100000000, b3.length ≤ 100000000, b4.length ≤ 100000000, b5.length ≤ 100000000])
  | _ => none
def eCpn (args : List SV) : Option (SV × List Prop) := match args with
  | [.ag [.c .i64 4, .c .u64 0, z, .slv 4 [.ag [.u .i64 k1, .u .u64 n1, .sl .u8 b1, .sl .u8 []], .ag [.c .i64 4, .c .u64 0, .sl .u8 [], .slv 4 [.ag [.u .i64 k2, .u .u64 n2, .sl .u8 b2, .sl .u8 []]]], .ag [.u .i64 k3, .u .u64 n3, .sl .u8 b3, .sl .u8 []], .ag [.u .i64 k4, .u .u64 n4, .sl .u8 b4, .sl .u8 []], .ag [.u .i64 k5, .u .u64 n5, .sl .u8 b5, .sl .u8 []]]]] => if empS z = true then some (.ag [.c .i64 4, .c .u64 0, .sl .u8 [], .slv 4 [.ag [.u .i64 k1, .u .u64 n1, .sl .u8 b1, .sl .u8 []], .ag [.c .i64 4, .c .u64 0, .sl .u8 [], .slv 4 [.ag [.u .i64 k2, .u .u64 n2, .sl .u8 b2, .sl .u8 []]]], .ag [.u .i64 k3, .u .u64 n3, .sl .u8 b3, .sl .u8 []], .ag [.u .i64 k4, .u .u64 n4, .sl .u8 b4, .sl .u8 []], .ag [.u .i64 k5, .u .u64 n5, .sl .u8 b5, .sl .u8 []]]], [b1.length ≤ 100000000, b2.length ≤ 100000000, b3.length ≤ 100000000, b4.length ≤ 100000000, b5.length ≤ 100000000]) else none
  | _ => none
def eLsn (args : List SV) : Option (SV × List Prop) := match args with
  | [.slv 4 [.ag [.u .i64 k1, .u .u64 n1, .sl .u8 b1, .sl .u8 []], .ag [.c .i64 4, .c .u64 0, .sl .u8 [], .slv 4 [.ag [.u .i64 k2, .u .u64 n2, .sl .u8 b2, .sl .u8 []]]], .ag [.u .i64 k3, .u .u64 n3, .sl .u8 b3, .sl .u8 []], .ag [.u .i64 k4, .u .u64 n4, .sl .u8 b4, .sl .u8 []], .ag [.u .i64 k5, .u .u64 n5, .sl .u8 b5, .sl .u8 []]]] => some (.ag [.c .i64 4, .c .u64 0, .sl .u8 [], .slv 4 [.ag [.u .i64 k1, .u .u64 n1, .sl .u8 b1, .sl .u8 []], .ag [.c .i64 4, .c .u64 0, .sl .u8 [], .slv 4 [.ag [.u .i64 k2, .u .u64 n2, .sl .u8 b2, .sl .u8 []]]], .ag [.u .i64 k3, .u .u64 n3, .sl .u8 b3, .sl .u8 []], .ag [.u .i64 k4, .u .u64 n4, .sl .u8 b4, .sl .u8 []], .ag [.u .i64 k5, .u .u64 n5, .sl .u8 b5, .sl .u8 []]]], [b1.length ≤ 100000000, b2.length ≤ 100000000, b3.length ≤ 100000000, b4.length ≤ 100000000, b5.length ≤ 100000000])
  | _ => none
def CP1 : Ctr := addC 110 (orE eCp0 eCp1) ctr0
def CPL : Ctr := addC 110 (orE eCp1 (orE eCp3 (orE eCp5 eCpn))) ctr0
def eLs (args : List SV) : Option (SV × List Prop) := orE eLs1 (orE eLs3 (orE eLs5 eLsn)) args
theorem emp_wk {z : SV} (h : empS z = true) : wk0 z (.sl .u8 []) := by
  unfold empS at h
  split at h
  · rfl
  · exact wk0_refl _
  · cases h
theorem orE_ok {P : Program} {f : FuncId} {e g : List SV → Option (SV × List Prop)} (h1 : ∀ args res ob, e args = some (res, ob) → All ob → Contract P f args res) (h2 : ∀ args res ob, g args = some (res, ob) → All ob → Contract P f args res) : ∀ args res ob, orE e g args = some (res, ob) → All ob → Contract P f args res := by
  intro args res ob he hob
  unfold orE at he
  split at he
  · rename_i r hr; cases he; exact h1 _ _ _ hr hob
  · exact h2 _ _ _ he hob
section
variable {w0 : World} {S : Own} {res : SV}
theorem okCP1p (h : ∀ args res ob, eCp1 args = some (res, ob) → All ob → Contract Try.prog 110 args res) : CtrOk Try.prog CP1 := addC_ok ctr0_ok (orE_ok cp0_ok h)
theorem cp1_c (k1 n1 : Nat) (b1 : List Nat) (h1 : b1.length ≤ 100000000) : Contract Try.prog 110 [.ag [.c .i64 4, .c .u64 0, .sl .u8 [], .slv 4 [.ag [.u .i64 k1, .u .u64 n1, .sl .u8 b1, .sl .u8 []]]]] (.ag [.c .i64 4, .c .u64 0, .sl .u8 [], .slv 4 [.ag [.u .i64 k1, .u .u64 n1, .sl .u8 b1, .sl .u8 []]]]) := by
  refine contract Try.func110 (body := bodyOf Try.f110) rfl (by kernel_rfl) (by kernel_rfl) rfl ?_
  intro _ w0 S
  refine hold_cut mixed okCP0 (unroll := true) (f := 3) (sc := []) (ks := [1,2]) (bs := [0,1]) (nx := 2) (st' := [Go.Eng.It.at [(0 : Nat), (1 : Nat)], Go.Eng.It.at [(1 : Nat), (1 : Nat)]]) (σ' := { nt := (31 : Nat), slots := [((1 : Nat), Go.Eng.SV.ptr (0 : Nat) (0 : Nat) (Go.Eng.Ix.c (0 : Nat))), ((2 : Nat), Go.Eng.SV.ptr (1 : Nat) (0 : Nat) (Go.Eng.Ix.c (0 : Nat)))], blks := [((0 : Nat), { ty := (103 : Nat), segs := [Go.Eng.SV.c Go.IntKind.i64 (4 : Int), Go.Eng.SV.c Go.IntKind.u64 (0 : Int), Go.Eng.SV.sl Go.IntKind.u8 [], Go.Eng.SV.slv (4 : Nat) [Go.Eng.SV.ag [Go.Eng.SV.u Go.IntKind.i64 k1, Go.Eng.SV.u Go.IntKind.u64 n1, Go.Eng.SV.sl Go.IntKind.u8 b1, Go.Eng.SV.sl Go.IntKind.u8 []]]] }), ((1 : Nat), { ty := (103 : Nat), segs := [Go.Eng.SV.c Go.IntKind.i64 (0 : Int), Go.Eng.SV.c Go.IntKind.u64 (0 : Int), Go.Eng.SV.nil, Go.Eng.SV.nil] })], next := (2 : Nat) }) (ob := []) (sc' := []) (by kernel_rfl) trivial ?_
  refine Hold.cast (σ' := sCp [.c .i64 4, .c .u64 0, .sl .u8 [], .slv 4 [.ag [.u .i64 k1, .u .u64 n1, .sl .u8 b1, .sl .u8 []]]]) ?_ rfl
  refine hold_allM mixed okCP0 [(0, 0, 0), (1, 1, 1), (2, 0, 0), (3, 4, 4), (4, 0, 0), (5, 16, 16), (6, 32, 32), (7, 74, 74), (8, 0, 0), (9, 511, 384)] (p := [0, 1]) (r := [.at [1, 1]]) (d := Ke.mk [1, 2, 3] [0, 1, 130] 200) (σ := sCp [.c .i64 4, .c .u64 0, .sl .u8 [], .slv 4 [.ag [.u .i64 k1, .u .u64 n1, .sl .u8 b1, .sl .u8 []]]]) (sc := []) (st' := [Go.Eng.It.at [(1 : Nat), (1 : Nat)]]) (σ' := (Go.Eng.St.mk (31 : Nat) [((1 : Nat), Go.Eng.SV.ptr (0 : Nat) (0 : Nat) (Go.Eng.Ix.c (0 : Nat))), ((2 : Nat), Go.Eng.SV.ptr (1 : Nat) (0 : Nat) (Go.Eng.Ix.c (0 : Nat))), ((3 : Nat), Go.Eng.SV.ptr (130 : Nat) (0 : Nat) (Go.Eng.Ix.c (0 : Nat)))] [((0 : Nat), Go.Eng.Bk.mk (103 : Nat) [Go.Eng.SV.c Go.IntKind.i64 (4 : Int), Go.Eng.SV.c Go.IntKind.u64 (0 : Int), Go.Eng.SV.sl Go.IntKind.u8 [], Go.Eng.SV.slv (4 : Nat) [Go.Eng.SV.ag [Go.Eng.SV.u Go.IntKind.i64 k1, Go.Eng.SV.u Go.IntKind.u64 n1, Go.Eng.SV.sl Go.IntKind.u8 b1, Go.Eng.SV.sl Go.IntKind.u8 []]]] Bool.false), ((1 : Nat), Go.Eng.Bk.mk (103 : Nat) [Go.Eng.SV.c Go.IntKind.i64 (0 : Int), Go.Eng.SV.c Go.IntKind.u64 (0 : Int), Go.Eng.SV.nil, Go.Eng.SV.nil] Bool.false), ((130 : Nat), Go.Eng.Bk.mk (103 : Nat) [Go.Eng.SV.c Go.IntKind.i64 (4 : Int), Go.Eng.SV.c Go.IntKind.u64 (0 : Int), Go.Eng.SV.sl Go.IntKind.u8 [], Go.Eng.SV.nil] Bool.false)] (200 : Nat) (0 : Nat))) (ob := [(0 : Nat) ≤ (140737488355328 : Nat), (0 : Nat) ≤ (140737488355328 : Nat), (0 : Nat) ≤ (140737488355328 : Nat), (0 : Nat) ≤ (140737488355328 : Nat), (0 : Nat) ≤ (140737488355328 : Nat), (0 : Nat) ≤ (140737488355328 : Nat), (0 : Nat) ≤ (140737488355328 : Nat), (0 : Nat) ≤ (140737488355328 : Nat)]) (sc' := []) (by kernel_rfl) (by kernel_rfl) (by kernel_rfl) (by repeat' first | exact trivial | exact rfl | assumption | (simp only [slenD, SV.slen, Option.getD_some, List.length_nil]; omega) | omega | refine ⟨?_, ?_⟩) ?_
  refine hold_endw mixed okCP0 (unroll := true) (f := 400) (sc := []) (r := (Go.Eng.SV.ag [Go.Eng.SV.c Go.IntKind.i64 (4 : Int), Go.Eng.SV.c Go.IntKind.u64 (0 : Int), Go.Eng.SV.sl Go.IntKind.u8 [], Go.Eng.SV.slv (4 : Nat) [Go.Eng.SV.ag [Go.Eng.SV.u Go.IntKind.i64 k1, Go.Eng.SV.u Go.IntKind.u64 n1, Go.Eng.SV.sl Go.IntKind.u8 b1, Go.Eng.SV.sl Go.IntKind.u8 []]]])) (ob := [b1.length ≤ (100000000 : Nat), (1 : Nat) * (64 : Nat) ≤ (140737488355328 : Nat)]) (sc' := []) (by kernel_rfl) (by repeat' first | exact trivial | exact rfl | assumption | (simp only [slenD, SV.slen, Option.getD_some, List.length_nil]; omega) | omega | refine ⟨?_, ?_⟩) ?_
  exact wkR_refl _
theorem cp1_ok : ∀ args res ob, eCp1 args = some (res, ob) → All ob → Contract Try.prog 110 args res := by
  intro args res ob he hob
  unfold eCp1 at he
  split at he
  · split at he
    · rename_i hz
      cases he
      obtain ⟨h1, _⟩ := hob
      exact Contract.argsF (cp1_c _ _ _ h1) ⟨(show wka _ _ from ⟨wk0_refl _, wk0_refl _, emp_wk hz, wk0_refl _, rfl⟩), rfl⟩
    · cases he
  · cases he
theorem okCP1 : CtrOk Try.prog CP1 := okCP1p cp1_ok
theorem cp3_c (k1 n1 k2 n2 k3 n3 : Nat) (b1 b2 b3 : List Nat) (h1 : b1.length ≤ 100000000) (h2 : b2.length ≤ 100000000) (h3 : b3.length ≤ 100000000) : Contract Try.prog 110 [.ag [.c .i64 4, .c .u64 0, .sl .u8 [], .slv 4 [.ag [.u .i64 k1, .u .u64 n1, .sl .u8 b1, .sl .u8 []], .ag [.u .i64 k2, .u .u64 n2, .sl .u8 b2, .sl .u8 []], .ag [.u .i64 k3, .u .u64 n3, .sl .u8 b3, .sl .u8 []]]]] (.ag [.c .i64 4, .c .u64 0, .sl .u8 [], .slv 4 [.ag [.u .i64 k1, .u .u64 n1, .sl .u8 b1, .sl .u8 []], .ag [.u .i64 k2, .u .u64 n2, .sl .u8 b2, .sl .u8 []], .ag [.u .i64 k3, .u .u64 n3, .sl .u8 b3, .sl .u8 []]]]) := by
  refine contract Try.func110 (body := bodyOf Try.f110) rfl (by kernel_rfl) (by kernel_rfl) rfl ?_
  intro _ w0 S
  refine hold_cut mixed okCP0 (unroll := true) (f := 3) (sc := []) (ks := [1,2]) (bs := [0,1]) (nx := 2) (st' := [Go.Eng.It.at [(0 : Nat), (1 : Nat)], Go.Eng.It.at [(1 : Nat), (1 : Nat)]]) (σ' := { nt := (31 : Nat), slots := [((1 : Nat), Go.Eng.SV.ptr (0 : Nat) (0 : Nat) (Go.Eng.Ix.c (0 : Nat))), ((2 : Nat), Go.Eng.SV.ptr (1 : Nat) (0 : Nat) (Go.Eng.Ix.c (0 : Nat)))], blks := [((0 : Nat), { ty := (103 : Nat), segs := [Go.Eng.SV.c Go.IntKind.i64 (4 : Int), Go.Eng.SV.c Go.IntKind.u64 (0 : Int), Go.Eng.SV.sl Go.IntKind.u8 [], Go.Eng.SV.slv (4 : Nat) [Go.Eng.SV.ag [Go.Eng.SV.u Go.IntKind.i64 k1, Go.Eng.SV.u Go.IntKind.u64 n1, Go.Eng.SV.sl Go.IntKind.u8 b1, Go.Eng.SV.sl Go.IntKind.u8 []], Go.Eng.SV.ag [Go.Eng.SV.u Go.IntKind.i64 k2, Go.Eng.SV.u Go.IntKind.u64 n2, Go.Eng.SV.sl Go.IntKind.u8 b2, Go.Eng.SV.sl Go.IntKind.u8 []], Go.Eng.SV.ag [Go.Eng.SV.u Go.IntKind.i64 k3, Go.Eng.SV.u Go.IntKind.u64 n3, Go.Eng.SV.sl Go.IntKind.u8 b3, Go.Eng.SV.sl Go.IntKind.u8 []]]] }), ((1 : Nat), { ty := (103 : Nat), segs := [Go.Eng.SV.c Go.IntKind.i64 (0 : Int), Go.Eng.SV.c Go.IntKind.u64 (0 : Int), Go.Eng.SV.nil, Go.Eng.SV.nil] })], next := (2 : Nat) }) (ob := []) (sc' := []) (by kernel_rfl) trivial ?_
  refine Hold.cast (σ' := sCp [.c .i64 4, .c .u64 0, .sl .u8 [], .slv 4 [.ag [.u .i64 k1, .u .u64 n1, .sl .u8 b1, .sl .u8 []], .ag [.u .i64 k2, .u .u64 n2, .sl .u8 b2, .sl .u8 []], .ag [.u .i64 k3, .u .u64 n3, .sl .u8 b3, .sl .u8 []]]]) ?_ rfl
  refine hold_allM mixed okCP0 [(0, 0, 0), (1, 1, 1), (2, 0, 0), (3, 4, 4), (4, 0, 0), (5, 16, 16), (6, 32, 32), (7, 74, 74), (8, 0, 0), (9, 511, 384)] (p := [0, 1]) (r := [.at [1, 1]]) (d := Ke.mk [1, 2, 3] [0, 1, 130] 200) (σ := sCp [.c .i64 4, .c .u64 0, .sl .u8 [], .slv 4 [.ag [.u .i64 k1, .u .u64 n1, .sl .u8 b1, .sl .u8 []], .ag [.u .i64 k2, .u .u64 n2, .sl .u8 b2, .sl .u8 []], .ag [.u .i64 k3, .u .u64 n3, .sl .u8 b3, .sl .u8 []]]]) (sc := []) (st' := [Go.Eng.It.at [(1 : Nat), (1 : Nat)]]) (σ' := (Go.Eng.St.mk (31 : Nat) [((1 : Nat), Go.Eng.SV.ptr (0 : Nat) (0 : Nat) (Go.Eng.Ix.c (0 : Nat))), ((2 : Nat), Go.Eng.SV.ptr (1 : Nat) (0 : Nat) (Go.Eng.Ix.c (0 : Nat))), ((3 : Nat), Go.Eng.SV.ptr (130 : Nat) (0 : Nat) (Go.Eng.Ix.c (0 : Nat)))] [((0 : Nat), Go.Eng.Bk.mk (103 : Nat) [Go.Eng.SV.c Go.IntKind.i64 (4 : Int), Go.Eng.SV.c Go.IntKind.u64 (0 : Int), Go.Eng.SV.sl Go.IntKind.u8 [], Go.Eng.SV.slv (4 : Nat) [Go.Eng.SV.ag [Go.Eng.SV.u Go.IntKind.i64 k1, Go.Eng.SV.u Go.IntKind.u64 n1, Go.Eng.SV.sl Go.IntKind.u8 b1, Go.Eng.SV.sl Go.IntKind.u8 []], Go.Eng.SV.ag [Go.Eng.SV.u Go.IntKind.i64 k2, Go.Eng.SV.u Go.IntKind.u64 n2, Go.Eng.SV.sl Go.IntKind.u8 b2, Go.Eng.SV.sl Go.IntKind.u8 []], Go.Eng.SV.ag [Go.Eng.SV.u Go.IntKind.i64 k3, Go.Eng.SV.u Go.IntKind.u64 n3, Go.Eng.SV.sl Go.IntKind.u8 b3, Go.Eng.SV.sl Go.IntKind.u8 []]]] Bool.false), ((1 : Nat), Go.Eng.Bk.mk (103 : Nat) [Go.Eng.SV.c Go.IntKind.i64 (0 : Int), Go.Eng.SV.c Go.IntKind.u64 (0 : Int), Go.Eng.SV.nil, Go.Eng.SV.nil] Bool.false), ((130 : Nat), Go.Eng.Bk.mk (103 : Nat) [Go.Eng.SV.c Go.IntKind.i64 (4 : Int), Go.Eng.SV.c Go.IntKind.u64 (0 : Int), Go.Eng.SV.sl Go.IntKind.u8 [], Go.Eng.SV.nil] Bool.false)] (200 : Nat) (0 : Nat))) (ob := [(0 : Nat) ≤ (140737488355328 : Nat), (0 : Nat) ≤ (140737488355328 : Nat), (0 : Nat) ≤ (140737488355328 : Nat), (0 : Nat) ≤ (140737488355328 : Nat), (0 : Nat) ≤ (140737488355328 : Nat), (0 : Nat) ≤ (140737488355328 : Nat), (0 : Nat) ≤ (140737488355328 : Nat), (0 : Nat) ≤ (140737488355328 : Nat)]) (sc' := []) (by kernel_rfl) (by kernel_rfl) (by kernel_rfl) (by repeat' first | exact trivial | exact rfl | assumption | (simp only [slenD, SV.slen, Option.getD_some, List.length_nil]; omega) | omega | refine ⟨?_, ?_⟩) ?_
  refine hold_endw mixed okCP0 (unroll := true) (f := 400) (sc := []) (r := (Go.Eng.SV.ag [Go.Eng.SV.c Go.IntKind.i64 (4 : Int), Go.Eng.SV.c Go.IntKind.u64 (0 : Int), Go.Eng.SV.sl Go.IntKind.u8 [], Go.Eng.SV.slv (4 : Nat) [Go.Eng.SV.ag [Go.Eng.SV.u Go.IntKind.i64 k1, Go.Eng.SV.u Go.IntKind.u64 n1, Go.Eng.SV.sl Go.IntKind.u8 b1, Go.Eng.SV.sl Go.IntKind.u8 []], Go.Eng.SV.ag [Go.Eng.SV.u Go.IntKind.i64 k2, Go.Eng.SV.u Go.IntKind.u64 n2, Go.Eng.SV.sl Go.IntKind.u8 b2, Go.Eng.SV.sl Go.IntKind.u8 []], Go.Eng.SV.ag [Go.Eng.SV.u Go.IntKind.i64 k3, Go.Eng.SV.u Go.IntKind.u64 n3, Go.Eng.SV.sl Go.IntKind.u8 b3, Go.Eng.SV.sl Go.IntKind.u8 []]]])) (ob := [b1.length ≤ (100000000 : Nat), (1 : Nat) * (64 : Nat) ≤ (140737488355328 : Nat), b2.length ≤ (100000000 : Nat), ((1 : Nat) + (1 : Nat)) * (64 : Nat) ≤ (140737488355328 : Nat), b3.length ≤ (100000000 : Nat), ((2 : Nat) + (1 : Nat)) * (64 : Nat) ≤ (140737488355328 : Nat)]) (sc' := []) (by kernel_rfl) (by repeat' first | exact trivial | exact rfl | assumption | (simp only [slenD, SV.slen, Option.getD_some, List.length_nil]; omega) | omega | refine ⟨?_, ?_⟩) ?_
  exact wkR_refl _
theorem cp3_ok : ∀ args res ob, eCp3 args = some (res, ob) → All ob → Contract Try.prog 110 args res := by
  intro args res ob he hob
  unfold eCp3 at he
  split at he
  · split at he
    · rename_i hz
      cases he
      obtain ⟨h1, h2, h3, _⟩ := hob
      exact Contract.argsF (cp3_c _ _ _ _ _ _ _ _ _ h1 h2 h3) ⟨(show wka _ _ from ⟨wk0_refl _, wk0_refl _, emp_wk hz, wk0_refl _, rfl⟩), rfl⟩
    · cases he
  · cases he
theorem cp5_c (k1 n1 k2 n2 k3 n3 k4 n4 k5 n5 : Nat) (b1 b2 b3 b4 b5 : List Nat) (h1 : b1.length ≤ 100000000) (h2 : b2.length ≤ 100000000) (h3 : b3.length ≤ 100000000) (h4 : b4.length ≤ 100000000) (h5 : b5.length ≤ 100000000) : Contract Try.prog 110 [.ag [.c .i64 4, .c .u64 0, .sl .u8 [], .slv 4 [.ag [.u .i64 k1, .u .u64 n1, .sl .u8 b1, .sl .u8 []], .ag [.u .i64 k2, .u .u64 n2, .sl .u8 b2, .sl .u8 []], .ag [.u .i64 k3, .u .u64 n3, .sl .u8 b3, .sl .u8 []], .ag [.u .i64 k4, .u .u64 n4, .sl .u8 b4, .sl .u8 []], .ag [.u .i64 k5, .u .u64 n5, .sl .u8 b5, .sl .u8 []]]]] (.ag [.c .i64 4, .c .u64 0, .sl .u8 [], .slv 4 [.ag [.u .i64 k1, .u .u64 n1, .sl .u8 b1, .sl .u8 []], .ag [.u .i64 k2, .u .u64 n2, .sl .u8 b2, .sl .u8 []], .ag [.u .i64 k3, .u .u64 n3, .sl .u8 b3, .sl .u8 []], .ag [.u .i64 k4, .u .u64 n4, .sl .u8 b4, .sl .u8 []], .ag [.u .i64 k5, .u .u64 n5, .sl .u8 b5, .sl .u8 []]]]) := by
  refine contract Try.func110 (body := bodyOf Try.f110) rfl (by kernel_rfl) (by kernel_rfl) rfl ?_
  intro _ w0 S
  refine hold_cut mixed okCP0 (unroll := true) (f := 3) (sc := []) (ks := [1,2]) (bs := [0,1]) (nx := 2) (st' := [Go.Eng.It.at [(0 : Nat), (1 : Nat)], Go.Eng.It.at [(1 : Nat), (1 : Nat)]]) (σ' := { nt := (31 : Nat), slots := [((1 : Nat), Go.Eng.SV.ptr (0 : Nat) (0 : Nat) (Go.Eng.Ix.c (0 : Nat))), ((2 : Nat), Go.Eng.SV.ptr (1 : Nat) (0 : Nat) (Go.Eng.Ix.c (0 : Nat)))], blks := [((0 : Nat), { ty := (103 : Nat), segs := [Go.Eng.SV.c Go.IntKind.i64 (4 : Int), Go.Eng.SV.c Go.IntKind.u64 (0 : Int), Go.Eng.SV.sl Go.IntKind.u8 [], Go.Eng.SV.slv (4 : Nat) [Go.Eng.SV.ag [Go.Eng.SV.u Go.IntKind.i64 k1, Go.Eng.SV.u Go.IntKind.u64 n1, Go.Eng.SV.sl Go.IntKind.u8 b1, Go.Eng.SV.sl Go.IntKind.u8 []], Go.Eng.SV.ag [Go.Eng.SV.u Go.IntKind.i64 k2, Go.Eng.SV.u Go.IntKind.u64 n2, Go.Eng.SV.sl Go.IntKind.u8 b2, Go.Eng.SV.sl Go.IntKind.u8 []], Go.Eng.SV.ag [Go.Eng.SV.u Go.IntKind.i64 k3, Go.Eng.SV.u Go.IntKind.u64 n3, Go.Eng.SV.sl Go.IntKind.u8 b3, Go.Eng.SV.sl Go.IntKind.u8 []], Go.Eng.SV.ag [Go.Eng.SV.u Go.IntKind.i64 k4, Go.Eng.SV.u Go.IntKind.u64 n4, Go.Eng.SV.sl Go.IntKind.u8 b4, Go.Eng.SV.sl Go.IntKind.u8 []], Go.Eng.SV.ag [Go.Eng.SV.u Go.IntKind.i64 k5, Go.Eng.SV.u Go.IntKind.u64 n5, Go.Eng.SV.sl Go.IntKind.u8 b5, Go.Eng.SV.sl Go.IntKind.u8 []]]] }), ((1 : Nat), { ty := (103 : Nat), segs := [Go.Eng.SV.c Go.IntKind.i64 (0 : Int), Go.Eng.SV.c Go.IntKind.u64 (0 : Int), Go.Eng.SV.nil, Go.Eng.SV.nil] })], next := (2 : Nat) }) (ob := []) (sc' := []) (by kernel_rfl) trivial ?_
  refine Hold.cast (σ' := sCp [.c .i64 4, .c .u64 0, .sl .u8 [], .slv 4 [.ag [.u .i64 k1, .u .u64 n1, .sl .u8 b1, .sl .u8 []], .ag [.u .i64 k2, .u .u64 n2, .sl .u8 b2, .sl .u8 []], .ag [.u .i64 k3, .u .u64 n3, .sl .u8 b3, .sl .u8 []], .ag [.u .i64 k4, .u .u64 n4, .sl .u8 b4, .sl .u8 []], .ag [.u .i64 k5, .u .u64 n5, .sl .u8 b5, .sl .u8 []]]]) ?_ rfl
  refine hold_allM mixed okCP0 [(0, 0, 0), (1, 1, 1), (2, 0, 0), (3, 4, 4), (4, 0, 0), (5, 16, 16), (6, 32, 32), (7, 74, 74), (8, 0, 0), (9, 511, 384)] (p := [0, 1]) (r := [.at [1, 1]]) (d := Ke.mk [1, 2, 3] [0, 1, 130] 200) (σ := sCp [.c .i64 4, .c .u64 0, .sl .u8 [], .slv 4 [.ag [.u .i64 k1, .u .u64 n1, .sl .u8 b1, .sl .u8 []], .ag [.u .i64 k2, .u .u64 n2, .sl .u8 b2, .sl .u8 []], .ag [.u .i64 k3, .u .u64 n3, .sl .u8 b3, .sl .u8 []], .ag [.u .i64 k4, .u .u64 n4, .sl .u8 b4, .sl .u8 []], .ag [.u .i64 k5, .u .u64 n5, .sl .u8 b5, .sl .u8 []]]]) (sc := []) (st' := [Go.Eng.It.at [(1 : Nat), (1 : Nat)]]) (σ' := (Go.Eng.St.mk (31 : Nat) [((1 : Nat), Go.Eng.SV.ptr (0 : Nat) (0 : Nat) (Go.Eng.Ix.c (0 : Nat))), ((2 : Nat), Go.Eng.SV.ptr (1 : Nat) (0 : Nat) (Go.Eng.Ix.c (0 : Nat))), ((3 : Nat), Go.Eng.SV.ptr (130 : Nat) (0 : Nat) (Go.Eng.Ix.c (0 : Nat)))] [((0 : Nat), Go.Eng.Bk.mk (103 : Nat) [Go.Eng.SV.c Go.IntKind.i64 (4 : Int), Go.Eng.SV.c Go.IntKind.u64 (0 : Int), Go.Eng.SV.sl Go.IntKind.u8 [], Go.Eng.SV.slv (4 : Nat) [Go.Eng.SV.ag [Go.Eng.SV.u Go.IntKind.i64 k1, Go.Eng.SV.u Go.IntKind.u64 n1, Go.Eng.SV.sl Go.IntKind.u8 b1, Go.Eng.SV.sl Go.IntKind.u8 []], Go.Eng.SV.ag [Go.Eng.SV.u Go.IntKind.i64 k2, Go.Eng.SV.u Go.IntKind.u64 n2, Go.Eng.SV.sl Go.IntKind.u8 b2, Go.Eng.SV.sl Go.IntKind.u8 []], Go.Eng.SV.ag [Go.Eng.SV.u Go.IntKind.i64 k3, Go.Eng.SV.u Go.IntKind.u64 n3, Go.Eng.SV.sl Go.IntKind.u8 b3, Go.Eng.SV.sl Go.IntKind.u8 []], Go.Eng.SV.ag [Go.Eng.SV.u Go.IntKind.i64 k4, Go.Eng.SV.u Go.IntKind.u64 n4, Go.Eng.SV.sl Go.IntKind.u8 b4, Go.Eng.SV.sl Go.IntKind.u8 []], Go.Eng.SV.ag [Go.Eng.SV.u Go.IntKind.i64 k5, Go.Eng.SV.u Go.IntKind.u64 n5, Go.Eng.SV.sl Go.IntKind.u8 b5, Go.Eng.SV.sl Go.IntKind.u8 []]]] Bool.false), ((1 : Nat), Go.Eng.Bk.mk (103 : Nat) [Go.Eng.SV.c Go.IntKind.i64 (0 : Int), Go.Eng.SV.c Go.IntKind.u64 (0 : Int), Go.Eng.SV.nil, Go.Eng.SV.nil] Bool.false), ((130 : Nat), Go.Eng.Bk.mk (103 : Nat) [Go.Eng.SV.c Go.IntKind.i64 (4 : Int), Go.Eng.SV.c Go.IntKind.u64 (0 : Int), Go.Eng.SV.sl Go.IntKind.u8 [], Go.Eng.SV.nil] Bool.false)] (200 : Nat) (0 : Nat))) (ob := [(0 : Nat) ≤ (140737488355328 : Nat), (0 : Nat) ≤ (140737488355328 : Nat), (0 : Nat) ≤ (140737488355328 : Nat), (0 : Nat) ≤ (140737488355328 : Nat), (0 : Nat) ≤ (140737488355328 : Nat), (0 : Nat) ≤ (140737488355328 : Nat), (0 : Nat) ≤ (140737488355328 : Nat), (0 : Nat) ≤ (140737488355328 : Nat)]) (sc' := []) (by kernel_rfl) (by kernel_rfl) (by kernel_rfl) (by repeat' first | exact trivial | exact rfl | assumption | (simp only [slenD, SV.slen, Option.getD_some, List.length_nil]; omega) | omega | refine ⟨?_, ?_⟩) ?_
  refine hold_endw mixed okCP0 (unroll := true) (f := 400) (sc := []) (r := (Go.Eng.SV.ag [Go.Eng.SV.c Go.IntKind.i64 (4 : Int), Go.Eng.SV.c Go.IntKind.u64 (0 : Int), Go.Eng.SV.sl Go.IntKind.u8 [], Go.Eng.SV.slv (4 : Nat) [Go.Eng.SV.ag [Go.Eng.SV.u Go.IntKind.i64 k1, Go.Eng.SV.u Go.IntKind.u64 n1, Go.Eng.SV.sl Go.IntKind.u8 b1, Go.Eng.SV.sl Go.IntKind.u8 []], Go.Eng.SV.ag [Go.Eng.SV.u Go.IntKind.i64 k2, Go.Eng.SV.u Go.IntKind.u64 n2, Go.Eng.SV.sl Go.IntKind.u8 b2, Go.Eng.SV.sl Go.IntKind.u8 []], Go.Eng.SV.ag [Go.Eng.SV.u Go.IntKind.i64 k3, Go.Eng.SV.u Go.IntKind.u64 n3, Go.Eng.SV.sl Go.IntKind.u8 b3, Go.Eng.SV.sl Go.IntKind.u8 []], Go.Eng.SV.ag [Go.Eng.SV.u Go.IntKind.i64 k4, Go.Eng.SV.u Go.IntKind.u64 n4, Go.Eng.SV.sl Go.IntKind.u8 b4, Go.Eng.SV.sl Go.IntKind.u8 []], Go.Eng.SV.ag [Go.Eng.SV.u Go.IntKind.i64 k5, Go.Eng.SV.u Go.IntKind.u64 n5, Go.Eng.SV.sl Go.IntKind.u8 b5, Go.Eng.SV.sl Go.IntKind.u8 []]]])) (ob := [b1.length ≤ (100000000 : Nat), (1 : Nat) * (64 : Nat) ≤ (140737488355328 : Nat), b2.length ≤ (100000000 : Nat), ((1 : Nat) + (1 : Nat)) * (64 : Nat) ≤ (140737488355328 : Nat), b3.length ≤ (100000000 : Nat), ((2 : Nat) + (1 : Nat)) * (64 : Nat) ≤ (140737488355328 : Nat), b4.length ≤ (100000000 : Nat), ((3 : Nat) + (1 : Nat)) * (64 : Nat) ≤ (140737488355328 : Nat), b5.length ≤ (100000000 : Nat), ((4 : Nat) + (1 : Nat)) * (64 : Nat) ≤ (140737488355328 : Nat)]) (sc' := []) (by kernel_rfl) (by repeat' first | exact trivial | exact rfl | assumption | (simp only [slenD, SV.slen, Option.getD_some, List.length_nil]; omega) | omega | refine ⟨?_, ?_⟩) ?_
  exact wkR_refl _
theorem cp5_ok : ∀ args res ob, eCp5 args = some (res, ob) → All ob → Contract Try.prog 110 args res := by
  intro args res ob he hob
  unfold eCp5 at he
  split at he
  · split at he
    · rename_i hz
      cases he
      obtain ⟨h1, h2, h3, h4, h5, _⟩ := hob
      exact Contract.argsF (cp5_c _ _ _ _ _ _ _ _ _ _ _ _ _ _ _ h1 h2 h3 h4 h5) ⟨(show wka _ _ from ⟨wk0_refl _, wk0_refl _, emp_wk hz, wk0_refl _, rfl⟩), rfl⟩
    · cases he
  · cases he
theorem cpn_c (k1 n1 k2 n2 k3 n3 k4 n4 k5 n5 : Nat) (b1 b2 b3 b4 b5 : List Nat) (h1 : b1.length ≤ 100000000) (h2 : b2.length ≤ 100000000) (h3 : b3.length ≤ 100000000) (h4 : b4.length ≤ 100000000) (h5 : b5.length ≤ 100000000) : Contract Try.prog 110 [.ag [.c .i64 4, .c .u64 0, .sl .u8 [], .slv 4 [.ag [.u .i64 k1, .u .u64 n1, .sl .u8 b1, .sl .u8 []], .ag [.c .i64 4, .c .u64 0, .sl .u8 [], .slv 4 [.ag [.u .i64 k2, .u .u64 n2, .sl .u8 b2, .sl .u8 []]]], .ag [.u .i64 k3, .u .u64 n3, .sl .u8 b3, .sl .u8 []], .ag [.u .i64 k4, .u .u64 n4, .sl .u8 b4, .sl .u8 []], .ag [.u .i64 k5, .u .u64 n5, .sl .u8 b5, .sl .u8 []]]]] (.ag [.c .i64 4, .c .u64 0, .sl .u8 [], .slv 4 [.ag [.u .i64 k1, .u .u64 n1, .sl .u8 b1, .sl .u8 []], .ag [.c .i64 4, .c .u64 0, .sl .u8 [], .slv 4 [.ag [.u .i64 k2, .u .u64 n2, .sl .u8 b2, .sl .u8 []]]], .ag [.u .i64 k3, .u .u64 n3, .sl .u8 b3, .sl .u8 []], .ag [.u .i64 k4, .u .u64 n4, .sl .u8 b4, .sl .u8 []], .ag [.u .i64 k5, .u .u64 n5, .sl .u8 b5, .sl .u8 []]]]) := by
  refine contract Try.func110 (body := bodyOf Try.f110) rfl (by kernel_rfl) (by kernel_rfl) rfl ?_
  intro _ w0 S
  refine hold_cut mixed okCP1 (unroll := true) (f := 3) (sc := []) (ks := [1,2]) (bs := [0,1]) (nx := 2) (st' := [Go.Eng.It.at [(0 : Nat), (1 : Nat)], Go.Eng.It.at [(1 : Nat), (1 : Nat)]]) (σ' := { nt := (31 : Nat), slots := [((1 : Nat), Go.Eng.SV.ptr (0 : Nat) (0 : Nat) (Go.Eng.Ix.c (0 : Nat))), ((2 : Nat), Go.Eng.SV.ptr (1 : Nat) (0 : Nat) (Go.Eng.Ix.c (0 : Nat)))], blks := [((0 : Nat), { ty := (103 : Nat), segs := [Go.Eng.SV.c Go.IntKind.i64 (4 : Int), Go.Eng.SV.c Go.IntKind.u64 (0 : Int), Go.Eng.SV.sl Go.IntKind.u8 [], Go.Eng.SV.slv (4 : Nat) [Go.Eng.SV.ag [Go.Eng.SV.u Go.IntKind.i64 k1, Go.Eng.SV.u Go.IntKind.u64 n1, Go.Eng.SV.sl Go.IntKind.u8 b1, Go.Eng.SV.sl Go.IntKind.u8 []], Go.Eng.SV.ag [Go.Eng.SV.c Go.IntKind.i64 (4 : Int), Go.Eng.SV.c Go.IntKind.u64 (0 : Int), Go.Eng.SV.sl Go.IntKind.u8 [], Go.Eng.SV.slv (4 : Nat) [Go.Eng.SV.ag [Go.Eng.SV.u Go.IntKind.i64 k2, Go.Eng.SV.u Go.IntKind.u64 n2, Go.Eng.SV.sl Go.IntKind.u8 b2, Go.Eng.SV.sl Go.IntKind.u8 []]]], Go.Eng.SV.ag [Go.Eng.SV.u Go.IntKind.i64 k3, Go.Eng.SV.u Go.IntKind.u64 n3, Go.Eng.SV.sl Go.IntKind.u8 b3, Go.Eng.SV.sl Go.IntKind.u8 []], Go.Eng.SV.ag [Go.Eng.SV.u Go.IntKind.i64 k4, Go.Eng.SV.u Go.IntKind.u64 n4, Go.Eng.SV.sl Go.IntKind.u8 b4, Go.Eng.SV.sl Go.IntKind.u8 []], Go.Eng.SV.ag [Go.Eng.SV.u Go.IntKind.i64 k5, Go.Eng.SV.u Go.IntKind.u64 n5, Go.Eng.SV.sl Go.IntKind.u8 b5, Go.Eng.SV.sl Go.IntKind.u8 []]]] }), ((1 : Nat), { ty := (103 : Nat), segs := [Go.Eng.SV.c Go.IntKind.i64 (0 : Int), Go.Eng.SV.c Go.IntKind.u64 (0 : Int), Go.Eng.SV.nil, Go.Eng.SV.nil] })], next := (2 : Nat) }) (ob := []) (sc' := []) (by kernel_rfl) trivial ?_
  refine Hold.cast (σ' := sCp [.c .i64 4, .c .u64 0, .sl .u8 [], .slv 4 [.ag [.u .i64 k1, .u .u64 n1, .sl .u8 b1, .sl .u8 []], .ag [.c .i64 4, .c .u64 0, .sl .u8 [], .slv 4 [.ag [.u .i64 k2, .u .u64 n2, .sl .u8 b2, .sl .u8 []]]], .ag [.u .i64 k3, .u .u64 n3, .sl .u8 b3, .sl .u8 []], .ag [.u .i64 k4, .u .u64 n4, .sl .u8 b4, .sl .u8 []], .ag [.u .i64 k5, .u .u64 n5, .sl .u8 b5, .sl .u8 []]]]) ?_ rfl
  refine hold_allM mixed okCP1 [(0, 0, 0), (1, 1, 1), (2, 0, 0), (3, 4, 4), (4, 0, 0), (5, 16, 16), (6, 32, 32), (7, 74, 74), (8, 0, 0), (9, 511, 384)] (p := [0, 1]) (r := [.at [1, 1]]) (d := Ke.mk [1, 2, 3] [0, 1, 130] 200) (σ := sCp [.c .i64 4, .c .u64 0, .sl .u8 [], .slv 4 [.ag [.u .i64 k1, .u .u64 n1, .sl .u8 b1, .sl .u8 []], .ag [.c .i64 4, .c .u64 0, .sl .u8 [], .slv 4 [.ag [.u .i64 k2, .u .u64 n2, .sl .u8 b2, .sl .u8 []]]], .ag [.u .i64 k3, .u .u64 n3, .sl .u8 b3, .sl .u8 []], .ag [.u .i64 k4, .u .u64 n4, .sl .u8 b4, .sl .u8 []], .ag [.u .i64 k5, .u .u64 n5, .sl .u8 b5, .sl .u8 []]]]) (sc := []) (st' := [Go.Eng.It.at [(1 : Nat), (1 : Nat)]]) (σ' := (Go.Eng.St.mk (31 : Nat) [((1 : Nat), Go.Eng.SV.ptr (0 : Nat) (0 : Nat) (Go.Eng.Ix.c (0 : Nat))), ((2 : Nat), Go.Eng.SV.ptr (1 : Nat) (0 : Nat) (Go.Eng.Ix.c (0 : Nat))), ((3 : Nat), Go.Eng.SV.ptr (130 : Nat) (0 : Nat) (Go.Eng.Ix.c (0 : Nat)))] [((0 : Nat), Go.Eng.Bk.mk (103 : Nat) [Go.Eng.SV.c Go.IntKind.i64 (4 : Int), Go.Eng.SV.c Go.IntKind.u64 (0 : Int), Go.Eng.SV.sl Go.IntKind.u8 [], Go.Eng.SV.slv (4 : Nat) [Go.Eng.SV.ag [Go.Eng.SV.u Go.IntKind.i64 k1, Go.Eng.SV.u Go.IntKind.u64 n1, Go.Eng.SV.sl Go.IntKind.u8 b1, Go.Eng.SV.sl Go.IntKind.u8 []], Go.Eng.SV.ag [Go.Eng.SV.c Go.IntKind.i64 (4 : Int), Go.Eng.SV.c Go.IntKind.u64 (0 : Int), Go.Eng.SV.sl Go.IntKind.u8 [], Go.Eng.SV.slv (4 : Nat) [Go.Eng.SV.ag [Go.Eng.SV.u Go.IntKind.i64 k2, Go.Eng.SV.u Go.IntKind.u64 n2, Go.Eng.SV.sl Go.IntKind.u8 b2, Go.Eng.SV.sl Go.IntKind.u8 []]]], Go.Eng.SV.ag [Go.Eng.SV.u Go.IntKind.i64 k3, Go.Eng.SV.u Go.IntKind.u64 n3, Go.Eng.SV.sl Go.IntKind.u8 b3, Go.Eng.SV.sl Go.IntKind.u8 []], Go.Eng.SV.ag [Go.Eng.SV.u Go.IntKind.i64 k4, Go.Eng.SV.u Go.IntKind.u64 n4, Go.Eng.SV.sl Go.IntKind.u8 b4, Go.Eng.SV.sl Go.IntKind.u8 []], Go.Eng.SV.ag [Go.Eng.SV.u Go.IntKind.i64 k5, Go.Eng.SV.u Go.IntKind.u64 n5, Go.Eng.SV.sl Go.IntKind.u8 b5, Go.Eng.SV.sl Go.IntKind.u8 []]]] Bool.false), ((1 : Nat), Go.Eng.Bk.mk (103 : Nat) [Go.Eng.SV.c Go.IntKind.i64 (0 : Int), Go.Eng.SV.c Go.IntKind.u64 (0 : Int), Go.Eng.SV.nil, Go.Eng.SV.nil] Bool.false), ((130 : Nat), Go.Eng.Bk.mk (103 : Nat) [Go.Eng.SV.c Go.IntKind.i64 (4 : Int), Go.Eng.SV.c Go.IntKind.u64 (0 : Int), Go.Eng.SV.sl Go.IntKind.u8 [], Go.Eng.SV.nil] Bool.false)] (200 : Nat) (0 : Nat))) (ob := [(0 : Nat) ≤ (140737488355328 : Nat), (0 : Nat) ≤ (140737488355328 : Nat), (0 : Nat) ≤ (140737488355328 : Nat), (0 : Nat) ≤ (140737488355328 : Nat), (0 : Nat) ≤ (140737488355328 : Nat), (0 : Nat) ≤ (140737488355328 : Nat), (0 : Nat) ≤ (140737488355328 : Nat), (0 : Nat) ≤ (140737488355328 : Nat)]) (sc' := []) (by kernel_rfl) (by kernel_rfl) (by kernel_rfl) (by repeat' first | exact trivial | exact rfl | assumption | (simp only [slenD, SV.slen, Option.getD_some, List.length_nil]; omega) | omega | refine ⟨?_, ?_⟩) ?_
  refine hold_endw mixed okCP1 (unroll := true) (f := 400) (sc := []) (r := (Go.Eng.SV.ag [Go.Eng.SV.c Go.IntKind.i64 (4 : Int), Go.Eng.SV.c Go.IntKind.u64 (0 : Int), Go.Eng.SV.sl Go.IntKind.u8 [], Go.Eng.SV.slv (4 : Nat) [Go.Eng.SV.ag [Go.Eng.SV.u Go.IntKind.i64 k1, Go.Eng.SV.u Go.IntKind.u64 n1, Go.Eng.SV.sl Go.IntKind.u8 b1, Go.Eng.SV.sl Go.IntKind.u8 []], Go.Eng.SV.ag [Go.Eng.SV.c Go.IntKind.i64 (4 : Int), Go.Eng.SV.c Go.IntKind.u64 (0 : Int), Go.Eng.SV.sl Go.IntKind.u8 [], Go.Eng.SV.slv (4 : Nat) [Go.Eng.SV.ag [Go.Eng.SV.u Go.IntKind.i64 k2, Go.Eng.SV.u Go.IntKind.u64 n2, Go.Eng.SV.sl Go.IntKind.u8 b2, Go.Eng.SV.sl Go.IntKind.u8 []]]], Go.Eng.SV.ag [Go.Eng.SV.u Go.IntKind.i64 k3, Go.Eng.SV.u Go.IntKind.u64 n3, Go.Eng.SV.sl Go.IntKind.u8 b3, Go.Eng.SV.sl Go.IntKind.u8 []], Go.Eng.SV.ag [Go.Eng.SV.u Go.IntKind.i64 k4, Go.Eng.SV.u Go.IntKind.u64 n4, Go.Eng.SV.sl Go.IntKind.u8 b4, Go.Eng.SV.sl Go.IntKind.u8 []], Go.Eng.SV.ag [Go.Eng.SV.u Go.IntKind.i64 k5, Go.Eng.SV.u Go.IntKind.u64 n5, Go.Eng.SV.sl Go.IntKind.u8 b5, Go.Eng.SV.sl Go.IntKind.u8 []]]])) (ob := [b1.length ≤ (100000000 : Nat), (1 : Nat) * (64 : Nat) ≤ (140737488355328 : Nat), b2.length ≤ (100000000 : Nat), ((1 : Nat) + (1 : Nat)) * (64 : Nat) ≤ (140737488355328 : Nat), b3.length ≤ (100000000 : Nat), ((2 : Nat) + (1 : Nat)) * (64 : Nat) ≤ (140737488355328 : Nat), b4.length ≤ (100000000 : Nat), ((3 : Nat) + (1 : Nat)) * (64 : Nat) ≤ (140737488355328 : Nat), b5.length ≤ (100000000 : Nat), ((4 : Nat) + (1 : Nat)) * (64 : Nat) ≤ (140737488355328 : Nat)]) (sc' := []) (by kernel_rfl) (by repeat' first | exact trivial | exact rfl | assumption | (simp only [slenD, SV.slen, Option.getD_some, List.length_nil]; omega) | omega | refine ⟨?_, ?_⟩) ?_
  exact wkR_refl _
theorem cpn_ok : ∀ args res ob, eCpn args = some (res, ob) → All ob → Contract Try.prog 110 args res := by
  intro args res ob he hob
  unfold eCpn at he
  split at he
  · split at he
    · rename_i hz
      cases he
      obtain ⟨h1, h2, h3, h4, h5, _⟩ := hob
      exact Contract.argsF (cpn_c _ _ _ _ _ _ _ _ _ _ _ _ _ _ _ h1 h2 h3 h4 h5) ⟨(show wka _ _ from ⟨wk0_refl _, wk0_refl _, emp_wk hz, wk0_refl _, rfl⟩), rfl⟩
    · cases he
  · cases he
theorem okCPL : CtrOk Try.prog CPL := addC_ok ctr0_ok (orE_ok cp1_ok (orE_ok cp3_ok (orE_ok cp5_ok cpn_ok)))
theorem ls1_ok : ∀ args res ob, eLs1 args = some (res, ob) → All ob → Contract Try.prog 92 args res := by
  intro args res ob he hob
  unfold eLs1 at he
  split at he
  · rename_i k1 n1 b1
    cases he
    obtain ⟨h1, _⟩ := hob
    refine contract Try.func92 (body := bodyOf Try.f92) rfl (by kernel_rfl) (by kernel_rfl) rfl ?_
    intro _ w0 S
    refine hold_endw mixed okCPL (unroll := true) (f := 100) (sc := []) (r := (Go.Eng.SV.ag [Go.Eng.SV.c Go.IntKind.i64 (4 : Int), Go.Eng.SV.c Go.IntKind.u64 (0 : Int), Go.Eng.SV.sl Go.IntKind.u8 [], Go.Eng.SV.slv (4 : Nat) [Go.Eng.SV.ag [Go.Eng.SV.u Go.IntKind.i64 k1, Go.Eng.SV.u Go.IntKind.u64 n1, Go.Eng.SV.sl Go.IntKind.u8 b1, Go.Eng.SV.sl Go.IntKind.u8 []]]])) (ob := [b1.length ≤ (100000000 : Nat)]) (sc' := []) (by kernel_rfl) (by repeat' first | exact trivial | exact rfl | assumption | (simp only [slenD, SV.slen, Option.getD_some, List.length_nil]; omega) | omega | refine ⟨?_, ?_⟩) ?_
    exact wkR_refl _
  · cases he
theorem ls3_ok : ∀ args res ob, eLs3 args = some (res, ob) → All ob → Contract Try.prog 92 args res := by
  intro args res ob he hob
  unfold eLs3 at he
  split at he
  · rename_i k1 n1 b1 k2 n2 b2 k3 n3 b3
    cases he
    obtain ⟨h1, h2, h3, _⟩ := hob
    refine contract Try.func92 (body := bodyOf Try.f92) rfl (by kernel_rfl) (by kernel_rfl) rfl ?_
    intro _ w0 S
    refine hold_endw mixed okCPL (unroll := true) (f := 100) (sc := []) (r := (Go.Eng.SV.ag [Go.Eng.SV.c Go.IntKind.i64 (4 : Int), Go.Eng.SV.c Go.IntKind.u64 (0 : Int), Go.Eng.SV.sl Go.IntKind.u8 [], Go.Eng.SV.slv (4 : Nat) [Go.Eng.SV.ag [Go.Eng.SV.u Go.IntKind.i64 k1, Go.Eng.SV.u Go.IntKind.u64 n1, Go.Eng.SV.sl Go.IntKind.u8 b1, Go.Eng.SV.sl Go.IntKind.u8 []], Go.Eng.SV.ag [Go.Eng.SV.u Go.IntKind.i64 k2, Go.Eng.SV.u Go.IntKind.u64 n2, Go.Eng.SV.sl Go.IntKind.u8 b2, Go.Eng.SV.sl Go.IntKind.u8 []], Go.Eng.SV.ag [Go.Eng.SV.u Go.IntKind.i64 k3, Go.Eng.SV.u Go.IntKind.u64 n3, Go.Eng.SV.sl Go.IntKind.u8 b3, Go.Eng.SV.sl Go.IntKind.u8 []]]])) (ob := [b1.length ≤ (100000000 : Nat), b2.length ≤ (100000000 : Nat), b3.length ≤ (100000000 : Nat)]) (sc' := []) (by kernel_rfl) (by repeat' first | exact trivial | exact rfl | assumption | (simp only [slenD, SV.slen, Option.getD_some, List.length_nil]; omega) | omega | refine ⟨?_, ?_⟩) ?_
    exact wkR_refl _
  · cases he
theorem ls5_ok : ∀ args res ob, eLs5 args = some (res, ob) → All ob → Contract Try.prog 92 args res := by
  intro args res ob he hob
  unfold eLs5 at he
  split at he
  · rename_i k1 n1 b1 k2 n2 b2 k3 n3 b3 k4 n4 b4 k5 n5 b5
    cases he
    obtain ⟨h1, h2, h3, h4, h5, _⟩ := hob
    refine contract Try.func92 (body := bodyOf Try.f92) rfl (by kernel_rfl) (by kernel_rfl) rfl ?_
    intro _ w0 S
    refine hold_endw mixed okCPL (unroll := true) (f := 100) (sc := []) (r := (Go.Eng.SV.ag [Go.Eng.SV.c Go.IntKind.i64 (4 : Int), Go.Eng.SV.c Go.IntKind.u64 (0 : Int), Go.Eng.SV.sl Go.IntKind.u8 [], Go.Eng.SV.slv (4 : Nat) [Go.Eng.SV.ag [Go.Eng.SV.u Go.IntKind.i64 k1, Go.Eng.SV.u Go.IntKind.u64 n1, Go.Eng.SV.sl Go.IntKind.u8 b1, Go.Eng.SV.sl Go.IntKind.u8 []], Go.Eng.SV.ag [Go.Eng.SV.u Go.IntKind.i64 k2, Go.Eng.SV.u Go.IntKind.u64 n2, Go.Eng.SV.sl Go.IntKind.u8 b2, Go.Eng.SV.sl Go.IntKind.u8 []], Go.Eng.SV.ag [Go.Eng.SV.u Go.IntKind.i64 k3, Go.Eng.SV.u Go.IntKind.u64 n3, Go.Eng.SV.sl Go.IntKind.u8 b3, Go.Eng.SV.sl Go.IntKind.u8 []], Go.Eng.SV.ag [Go.Eng.SV.u Go.IntKind.i64 k4, Go.Eng.SV.u Go.IntKind.u64 n4, Go.Eng.SV.sl Go.IntKind.u8 b4, Go.Eng.SV.sl Go.IntKind.u8 []], Go.Eng.SV.ag [Go.Eng.SV.u Go.IntKind.i64 k5, Go.Eng.SV.u Go.IntKind.u64 n5, Go.Eng.SV.sl Go.IntKind.u8 b5, Go.Eng.SV.sl Go.IntKind.u8 []]]])) (ob := [b1.length ≤ (100000000 : Nat), b2.length ≤ (100000000 : Nat), b3.length ≤ (100000000 : Nat), b4.length ≤ (100000000 : Nat), b5.length ≤ (100000000 : Nat)]) (sc' := []) (by kernel_rfl) (by repeat' first | exact trivial | exact rfl | assumption | (simp only [slenD, SV.slen, Option.getD_some, List.length_nil]; omega) | omega | refine ⟨?_, ?_⟩) ?_
    exact wkR_refl _
  · cases he
theorem lsn_ok : ∀ args res ob, eLsn args = some (res, ob) → All ob → Contract Try.prog 92 args res := by
  intro args res ob he hob
  unfold eLsn at he
  split at he
  · rename_i k1 n1 b1 k2 n2 b2 k3 n3 b3 k4 n4 b4 k5 n5 b5
    cases he
    obtain ⟨h1, h2, h3, h4, h5, _⟩ := hob
    refine contract Try.func92 (body := bodyOf Try.f92) rfl (by kernel_rfl) (by kernel_rfl) rfl ?_
    intro _ w0 S
    refine hold_endw mixed okCPL (unroll := true) (f := 100) (sc := []) (r := (Go.Eng.SV.ag [Go.Eng.SV.c Go.IntKind.i64 (4 : Int), Go.Eng.SV.c Go.IntKind.u64 (0 : Int), Go.Eng.SV.sl Go.IntKind.u8 [], Go.Eng.SV.slv (4 : Nat) [Go.Eng.SV.ag [Go.Eng.SV.u Go.IntKind.i64 k1, Go.Eng.SV.u Go.IntKind.u64 n1, Go.Eng.SV.sl Go.IntKind.u8 b1, Go.Eng.SV.sl Go.IntKind.u8 []], Go.Eng.SV.ag [Go.Eng.SV.c Go.IntKind.i64 (4 : Int), Go.Eng.SV.c Go.IntKind.u64 (0 : Int), Go.Eng.SV.sl Go.IntKind.u8 [], Go.Eng.SV.slv (4 : Nat) [Go.Eng.SV.ag [Go.Eng.SV.u Go.IntKind.i64 k2, Go.Eng.SV.u Go.IntKind.u64 n2, Go.Eng.SV.sl Go.IntKind.u8 b2, Go.Eng.SV.sl Go.IntKind.u8 []]]], Go.Eng.SV.ag [Go.Eng.SV.u Go.IntKind.i64 k3, Go.Eng.SV.u Go.IntKind.u64 n3, Go.Eng.SV.sl Go.IntKind.u8 b3, Go.Eng.SV.sl Go.IntKind.u8 []], Go.Eng.SV.ag [Go.Eng.SV.u Go.IntKind.i64 k4, Go.Eng.SV.u Go.IntKind.u64 n4, Go.Eng.SV.sl Go.IntKind.u8 b4, Go.Eng.SV.sl Go.IntKind.u8 []], Go.Eng.SV.ag [Go.Eng.SV.u Go.IntKind.i64 k5, Go.Eng.SV.u Go.IntKind.u64 n5, Go.Eng.SV.sl Go.IntKind.u8 b5, Go.Eng.SV.sl Go.IntKind.u8 []]]])) (ob := [b1.length ≤ (100000000 : Nat), b2.length ≤ (100000000 : Nat), b3.length ≤ (100000000 : Nat), b4.length ≤ (100000000 : Nat), b5.length ≤ (100000000 : Nat)]) (sc' := []) (by kernel_rfl) (by repeat' first | exact trivial | exact rfl | assumption | (simp only [slenD, SV.slen, Option.getD_some, List.length_nil]; omega) | omega | refine ⟨?_, ?_⟩) ?_
    exact wkR_refl _
  · cases he
theorem ls_ok : ∀ args res ob, eLs args = some (res, ob) → All ob → Contract Try.prog 92 args res := orE_ok ls1_ok (orE_ok ls3_ok (orE_ok ls5_ok lsn_ok))
end
end Go.Eng.B

namespace Go.Eng.B
open Go Go.Eng Go.Proofs
set_option maxRecDepth 100000
set_option maxHeartbeats 2000000
def rawV (k n : Nat) (b : List Nat) : List Nat := if k = 0 ∨ k = 1 then hd k n else if k = 2 ∨ k = 3 then hd k b.length ++ b else [224 + n]
def rawB (k n : Nat) : Bool := decide (k ≤ 3) || (decide (k = 7) && decide (n < 24))
def eRaw0 (args : List SV) : Option (SV × List Prop) := match args with
  | [.ag [.u .i64 k, .u .u64 n, .sl .u8 b, .sl .u8 []]] => some (.sl .u8 (rawV k n b), [b.length ≤ 1000000, rawB k n = true])
  | _ => none
def eRaw1 (args : List SV) : Option (SV × List Prop) := match args with
  | [.ag [.c .i64 4, .c .u64 0, .sl .u8 [], .slv 4 [.ag [.u .i64 k1, .u .u64 n1, .sl .u8 b1, .sl .u8 []]]]] => some (.sl .u8 (hd 4 1 ++ rawV k1 n1 b1), [b1.length ≤ 1000000, rawB k1 n1 = true])
  | _ => none
def eRaw3 (args : List SV) : Option (SV × List Prop) := match args with
  | [.ag [.c .i64 4, .c .u64 0, .sl .u8 [], .slv 4 [.ag [.u .i64 k1, .u .u64 n1, .sl .u8 b1, .sl .u8 []], .ag [.u .i64 k2, .u .u64 n2, .sl .u8 b2, .sl .u8 []], .ag [.u .i64 k3, .u .u64 n3, .sl .u8 b3, .sl .u8 []]]]] => some (.sl .u8 (hd 4 3 ++ rawV k1 n1 b1 ++ rawV k2 n2 b2 ++ rawV k3 n3 b3), [b1.length ≤ 1000000, rawB k1 n1 = true, b2.length ≤ 1000000, rawB k2 n2 = true, b3.length ≤ 1000000, rawB k3 n3 = true])
  | _ => none
def eRaw5 (args : List SV) : Option (SV × List Prop) := match args with
  | [.ag [.c .i64 4, .c .u64 0, .sl .u8 [], .slv 4 [.ag [.u .i64 k1, .u .u64 n1, .sl .u8 b1, .sl .u8 []], .ag [.u .i64 k2, .u .u64 n2, .sl .u8 b2, .sl .u8 []], .ag [.u .i64 k3, .u .u64 n3, .sl .u8 b3, .sl .u8 []], .ag [.u .i64 k4, .u .u64 n4, .sl .u8 b4, .sl .u8 []], .ag [.u .i64 k5, .u .u64 n5, .sl .u8 b5, .sl .u8 []]]]] => some (.sl .u8 (hd 4 5 ++ rawV k1 n1 b1 ++ rawV k2 n2 b2 ++ rawV k3 n3 b3 ++ rawV k4 n4 b4 ++ rawV k5 n5 b5), [b1.length ≤ 1000000, rawB k1 n1 = true, b2.length ≤ 1000000, rawB k2 n2 = true, b3.length ≤ 1000000, rawB k3 n3 = true, b4.length ≤ 1000000, rawB k4 n4 = true, b5.length ≤ 1000000, rawB k5 n5 = true])
  | _ => none
def eRawn (args : List SV) : Option (SV × List Prop) := match args with
  | [.ag [.c .i64 4, .c .u64 0, .sl .u8 [], .slv 4 [.ag [.u .i64 k1, .u .u64 n1, .sl .u8 b1, .sl .u8 []], .ag [.c .i64 4, .c .u64 0, .sl .u8 [], .slv 4 [.ag [.u .i64 k2, .u .u64 n2, .sl .u8 b2, .sl .u8 []]]], .ag [.u .i64 k3, .u .u64 n3, .sl .u8 b3, .sl .u8 []], .ag [.u .i64 k4, .u .u64 n4, .sl .u8 b4, .sl .u8 []], .ag [.u .i64 k5, .u .u64 n5, .sl .u8 b5, .sl .u8 []]]]] => some (.sl .u8 (hd 4 5 ++ rawV k1 n1 b1 ++ (hd 4 1 ++ rawV k2 n2 b2) ++ rawV k3 n3 b3 ++ rawV k4 n4 b4 ++ rawV k5 n5 b5), [b1.length ≤ 1000000, rawB k1 n1 = true, b2.length ≤ 1000000, rawB k2 n2 = true, b3.length ≤ 1000000, rawB k3 n3 = true, b4.length ≤ 1000000, rawB k4 n4 = true, b5.length ≤ 1000000, rawB k5 n5 = true])
  | _ => none
def RWH : Ctr := addM 108 (eHead .i64) ctr0
def RW0 : Ctr := addC 91 eRaw0 RWH
def RW1 : Ctr := addC 91 (orE eRaw0 eRaw1) RWH
def eRaw (args : List SV) : Option (SV × List Prop) := orE eRaw1 (orE eRaw3 (orE eRaw5 eRawn)) args
def sRw (k n : Nat) (b : List Nat) : St := ⟨79, [(1, .ptr 0 0 (.c 0))], [(0, bIt [.u .i64 k, .u .u64 n, .sl .u8 b, .sl .u8 []])], 9, 0⟩
theorem rawV_len (k n : Nat) (b : List Nat) : (rawV k n b).length ≤ b.length + 9 := by
  have h1 := hd_len k n
  have h2 := hd_len k b.length
  unfold rawV
  split
  · omega
  · split
    · rw [List.length_append]; omega
    · simp
section
variable {w0 : World} {S : Own} {res : SV}
theorem okRWH : CtrOk Try.prog RWH := addM_ok ctr0_ok (eHead_ok qhead_m)
theorem raw0_c (k n : Nat) (b : List Nat) (hb : b.length ≤ 1000000) (hk : rawB k n = true) : Contract Try.prog 91 [.ag [.u .i64 k, .u .u64 n, .sl .u8 b, .sl .u8 []]] (.sl .u8 (rawV k n b)) := by
  simp only [rawB, Bool.or_eq_true, Bool.and_eq_true, decide_eq_true_eq] at hk
  have hl := hd_len k b.length
  refine contract Try.func91 (body := bodyOf Try.f91) rfl (by kernel_rfl) (by kernel_rfl) rfl ?_
  intro _ w0 S
  by_cases h0 : k = 0
  · refine hold_endw mixed okRWH (unroll := true) (f := 100) (sc := [true, true]) (r := (Go.Eng.SV.sl Go.IntKind.u8 (Go.Eng.B.hd k n))) (ob := [(k == (0 : Nat)) = Bool.true, (k == (0 : Nat)) = Bool.true, k < (8 : Nat)]) (sc' := []) (by kernel_rfl) (by repeat' first | exact trivial | exact beq_iff_eq.mpr (by omega) | exact beq_eq_false_iff_ne.mpr (by omega) | exact decide_eq_true (by omega) | omega | refine ⟨?_, ?_⟩) ?_
    unfold rawV; rw [if_pos (by omega)]; exact wkR_of rfl
  by_cases h1 : k = 1
  · refine hold_endw mixed okRWH (unroll := true) (f := 100) (sc := [false, true]) (r := (Go.Eng.SV.sl Go.IntKind.u8 (Go.Eng.B.hd k n))) (ob := [(k == (0 : Nat)) = Bool.false, (k == (1 : Nat)) = Bool.true, k < (8 : Nat)]) (sc' := []) (by kernel_rfl) (by repeat' first | exact trivial | exact beq_iff_eq.mpr (by omega) | exact beq_eq_false_iff_ne.mpr (by omega) | exact decide_eq_true (by omega) | omega | refine ⟨?_, ?_⟩) ?_
    unfold rawV; rw [if_pos (by omega)]; exact wkR_of rfl
  by_cases h2 : k = 2
  · refine hold_cut mixed okRWH (unroll := true) (f := 100) (sc := [false, false, true, true]) (ks := [1]) (bs := [0]) (nx := 9) (st' := [Go.Eng.It.at [(0 : Nat), (0 : Nat), (1 : Nat), (1 : Nat), (1 : Nat), (0 : Nat), (1 : Nat), (0 : Nat), (1 : Nat), (1 : Nat)], Go.Eng.It.at [(1 : Nat), (0 : Nat), (1 : Nat), (1 : Nat), (1 : Nat), (0 : Nat), (1 : Nat), (0 : Nat), (1 : Nat), (1 : Nat)], Go.Eng.It.blk (0 : Nat), Go.Eng.It.at [(1 : Nat), (1 : Nat), (1 : Nat)]]) (σ' := { nt := (79 : Nat), slots := [((1 : Nat), Go.Eng.SV.ptr (0 : Nat) (0 : Nat) (Go.Eng.Ix.c (0 : Nat)))], blks := [((0 : Nat), { ty := (103 : Nat), segs := [Go.Eng.SV.u Go.IntKind.i64 k, Go.Eng.SV.u Go.IntKind.u64 n, Go.Eng.SV.sl Go.IntKind.u8 b, Go.Eng.SV.sl Go.IntKind.u8 []] })], next := (9 : Nat) }) (ob := [(k == (0 : Nat)) = Bool.false, (k == (1 : Nat)) = Bool.false, (k == (2 : Nat)) = Bool.true, (k == (2 : Nat)) = Bool.true]) (sc' := []) (by kernel_rfl) (by repeat' first | exact trivial | exact beq_iff_eq.mpr (by omega) | exact beq_eq_false_iff_ne.mpr (by omega) | exact decide_eq_true (by omega) | omega | refine ⟨?_, ?_⟩) ?_
    refine Hold.cast (σ' := sRw k n b) ?_ rfl
    refine hold_allM mixed okRWH [(0, 0, 0), (1, 1, 1), (2, 0, 0), (3, 4, 4), (4, 8, 8), (5, 16, 16), (6, 34, 34), (7, 0, 0), (8, 128, 128), (9, 320, 320), (10, 1023, 512)] (p := [0, 0, 1, 1, 1, 0, 1, 0, 1, 1]) (r := [.at [1, 0, 1, 1, 1, 0, 1, 0, 1, 1], .blk 0, .at [1, 1, 1]]) (d := Ke.mk [2] [] 0) (σ := sRw k n b) (sc := []) (st' := [Go.Eng.It.at [(1 : Nat), (0 : Nat), (1 : Nat), (1 : Nat), (1 : Nat), (0 : Nat), (1 : Nat), (0 : Nat), (1 : Nat), (1 : Nat)], Go.Eng.It.blk (0 : Nat), Go.Eng.It.at [(1 : Nat), (1 : Nat), (1 : Nat)]]) (σ' := (Go.Eng.St.mk (79 : Nat) [((2 : Nat), Go.Eng.SV.sl Go.IntKind.u8 (Go.Eng.B.hd k b.length ++ b))] [] (0 : Nat) (0 : Nat))) (ob := [k < (8 : Nat), k < (8 : Nat), Go.Eng.slenD (Go.Eng.SV.sl Go.IntKind.u8 (Go.Eng.B.hd k b.length ++ b)) * (1 : Nat) ≤ (140737488355328 : Nat)]) (sc' := []) (by kernel_rfl) (by kernel_rfl) (by kernel_rfl) (by repeat' first | exact trivial | (simp only [slenD, SV.slen, Option.getD_some, List.length_append]; omega) | omega | refine ⟨?_, ?_⟩) ?_
    refine Hold.cast (σ' := (⟨79, [(2, .sl .u8 (hd k b.length ++ b))], [], 0, 0⟩ : St)) ?_ rfl
    refine hold_endw mixed okRWH (unroll := true) (f := 100) (sc := []) (r := (Go.Eng.SV.sl Go.IntKind.u8 (Go.Eng.B.hd k b.length ++ b))) (ob := []) (sc' := []) (by kernel_rfl) trivial ?_
    unfold rawV; rw [if_neg (by omega), if_pos (by omega)]; exact wkR_of rfl
  by_cases h3 : k = 3
  · refine hold_cut mixed okRWH (unroll := true) (f := 100) (sc := [false, false, false, true]) (ks := [1]) (bs := [0]) (nx := 9) (st' := [Go.Eng.It.at [(0 : Nat), (0 : Nat), (1 : Nat), (1 : Nat), (1 : Nat), (0 : Nat), (1 : Nat), (0 : Nat), (1 : Nat), (1 : Nat)], Go.Eng.It.at [(1 : Nat), (0 : Nat), (1 : Nat), (1 : Nat), (1 : Nat), (0 : Nat), (1 : Nat), (0 : Nat), (1 : Nat), (1 : Nat)], Go.Eng.It.blk (0 : Nat), Go.Eng.It.at [(1 : Nat), (1 : Nat), (1 : Nat)]]) (σ' := { nt := (79 : Nat), slots := [((1 : Nat), Go.Eng.SV.ptr (0 : Nat) (0 : Nat) (Go.Eng.Ix.c (0 : Nat)))], blks := [((0 : Nat), { ty := (103 : Nat), segs := [Go.Eng.SV.u Go.IntKind.i64 k, Go.Eng.SV.u Go.IntKind.u64 n, Go.Eng.SV.sl Go.IntKind.u8 b, Go.Eng.SV.sl Go.IntKind.u8 []] })], next := (9 : Nat) }) (ob := [(k == (0 : Nat)) = Bool.false, (k == (1 : Nat)) = Bool.false, (k == (2 : Nat)) = Bool.false, (k == (3 : Nat)) = Bool.true]) (sc' := []) (by kernel_rfl) (by repeat' first | exact trivial | exact beq_iff_eq.mpr (by omega) | exact beq_eq_false_iff_ne.mpr (by omega) | exact decide_eq_true (by omega) | omega | refine ⟨?_, ?_⟩) ?_
    refine Hold.cast (σ' := sRw k n b) ?_ rfl
    refine hold_allM mixed okRWH [(0, 0, 0), (1, 1, 1), (2, 0, 0), (3, 4, 4), (4, 8, 8), (5, 16, 16), (6, 34, 34), (7, 0, 0), (8, 128, 128), (9, 320, 320), (10, 1023, 512)] (p := [0, 0, 1, 1, 1, 0, 1, 0, 1, 1]) (r := [.at [1, 0, 1, 1, 1, 0, 1, 0, 1, 1], .blk 0, .at [1, 1, 1]]) (d := Ke.mk [2] [] 0) (σ := sRw k n b) (sc := []) (st' := [Go.Eng.It.at [(1 : Nat), (0 : Nat), (1 : Nat), (1 : Nat), (1 : Nat), (0 : Nat), (1 : Nat), (0 : Nat), (1 : Nat), (1 : Nat)], Go.Eng.It.blk (0 : Nat), Go.Eng.It.at [(1 : Nat), (1 : Nat), (1 : Nat)]]) (σ' := (Go.Eng.St.mk (79 : Nat) [((2 : Nat), Go.Eng.SV.sl Go.IntKind.u8 (Go.Eng.B.hd k b.length ++ b))] [] (0 : Nat) (0 : Nat))) (ob := [k < (8 : Nat), k < (8 : Nat), Go.Eng.slenD (Go.Eng.SV.sl Go.IntKind.u8 (Go.Eng.B.hd k b.length ++ b)) * (1 : Nat) ≤ (140737488355328 : Nat)]) (sc' := []) (by kernel_rfl) (by kernel_rfl) (by kernel_rfl) (by repeat' first | exact trivial | (simp only [slenD, SV.slen, Option.getD_some, List.length_append]; omega) | omega | refine ⟨?_, ?_⟩) ?_
    refine Hold.cast (σ' := (⟨79, [(2, .sl .u8 (hd k b.length ++ b))], [], 0, 0⟩ : St)) ?_ rfl
    refine hold_endw mixed okRWH (unroll := true) (f := 100) (sc := []) (r := (Go.Eng.SV.sl Go.IntKind.u8 (Go.Eng.B.hd k b.length ++ b))) (ob := []) (sc' := []) (by kernel_rfl) trivial ?_
    unfold rawV; rw [if_neg (by omega), if_pos (by omega)]; exact wkR_of rfl
  · refine hold_endw mixed okRWH (unroll := true) (f := 100) (sc := [false, false, false, false, false, false, false, true, true]) (r := (Go.Eng.SV.sl Go.IntKind.u8 [((224 : Nat) + n) % (18446744073709551616 : Nat) % (256 : Nat)])) (ob := [(k == (0 : Nat)) = Bool.false, (k == (1 : Nat)) = Bool.false, (k == (2 : Nat)) = Bool.false, (k == (3 : Nat)) = Bool.false, (k == (4 : Nat)) = Bool.false, (k == (5 : Nat)) = Bool.false, (k == (6 : Nat)) = Bool.false, (k == (7 : Nat)) = Bool.true, Decidable.decide (n < (24 : Nat)) = Bool.true]) (sc' := []) (by kernel_rfl) (by repeat' first | exact trivial | exact beq_iff_eq.mpr (by omega) | exact beq_eq_false_iff_ne.mpr (by omega) | exact decide_eq_true (by omega) | omega | refine ⟨?_, ?_⟩) ?_
    unfold rawV; rw [if_neg (by omega), if_neg (by omega)]
    rw [show (224 + n) % 18446744073709551616 % 256 = 224 + n by omega]
    exact wkR_of rfl
theorem raw0_ok : ∀ args res ob, eRaw0 args = some (res, ob) → All ob → Contract Try.prog 91 args res := by
  intro args res ob he hob
  unfold eRaw0 at he
  split at he
  · cases he; exact raw0_c _ _ _ hob.1 hob.2.1
  · cases he
theorem okRW0 : CtrOk Try.prog RW0 := addC_ok okRWH raw0_ok
theorem raw1_ok : ∀ args res ob, eRaw1 args = some (res, ob) → All ob → Contract Try.prog 91 args res := by
  intro args res ob he hob
  unfold eRaw1 at he
  split at he
  · rename_i k1 n1 b1
    cases he
    obtain ⟨h1, c1, _⟩ := hob
    have g0 := hd_len 4 (IntKind.u64.wrap ((1 : Nat) : Int)).toNat
    have g1 := rawV_len k1 n1 b1
    refine contract Try.func91 (body := bodyOf Try.f91) rfl (by kernel_rfl) (by kernel_rfl) rfl ?_
    intro _ w0 S
    refine hold_endw mixed okRW0 (unroll := true) (f := 400) (sc := []) (r := (Go.Eng.SV.sl Go.IntKind.u8 (Go.Eng.B.hd (4 : Nat) (Go.IntKind.u64.wrap (↑(1 : Nat) : Int)).toNat ++ rawV k1 n1 b1))) (ob := [(4 : Nat) < (8 : Nat), b1.length ≤ (1000000 : Nat), rawB k1 n1 = Bool.true, Go.Eng.slenD (Go.Eng.SV.sl Go.IntKind.u8 (Go.Eng.B.hd (4 : Nat) (Go.IntKind.u64.wrap (↑(1 : Nat) : Int)).toNat ++ rawV k1 n1 b1)) * (1 : Nat) ≤ (140737488355328 : Nat)]) (sc' := []) (by kernel_rfl) (by repeat' first | exact trivial | exact rfl | assumption | omega | (simp only [slenD, SV.slen, Option.getD_some, List.length_nil, List.length_append]; omega) | refine ⟨?_, ?_⟩) ?_
    exact wkR_of rfl
  · cases he
theorem okRW1 : CtrOk Try.prog RW1 := addC_ok okRWH (orE_ok raw0_ok raw1_ok)
theorem raw3_ok : ∀ args res ob, eRaw3 args = some (res, ob) → All ob → Contract Try.prog 91 args res := by
  intro args res ob he hob
  unfold eRaw3 at he
  split at he
  · rename_i k1 n1 b1 k2 n2 b2 k3 n3 b3
    cases he
    obtain ⟨h1, c1, h2, c2, h3, c3, _⟩ := hob
    have g0 := hd_len 4 (IntKind.u64.wrap ((3 : Nat) : Int)).toNat
    have g1 := rawV_len k1 n1 b1
    have g2 := rawV_len k2 n2 b2
    have g3 := rawV_len k3 n3 b3
    refine contract Try.func91 (body := bodyOf Try.f91) rfl (by kernel_rfl) (by kernel_rfl) rfl ?_
    intro _ w0 S
    refine hold_endw mixed okRW0 (unroll := true) (f := 400) (sc := []) (r := (Go.Eng.SV.sl Go.IntKind.u8 (Go.Eng.B.hd (4 : Nat) (Go.IntKind.u64.wrap (↑(3 : Nat) : Int)).toNat ++ rawV k1 n1 b1 ++ rawV k2 n2 b2 ++ rawV k3 n3 b3))) (ob := [(4 : Nat) < (8 : Nat), b1.length ≤ (1000000 : Nat), rawB k1 n1 = Bool.true, Go.Eng.slenD (Go.Eng.SV.sl Go.IntKind.u8 (Go.Eng.B.hd (4 : Nat) (Go.IntKind.u64.wrap (↑(3 : Nat) : Int)).toNat ++ rawV k1 n1 b1)) * (1 : Nat) ≤ (140737488355328 : Nat), b2.length ≤ (1000000 : Nat), rawB k2 n2 = Bool.true, Go.Eng.slenD (Go.Eng.SV.sl Go.IntKind.u8 (Go.Eng.B.hd (4 : Nat) (Go.IntKind.u64.wrap (↑(3 : Nat) : Int)).toNat ++ rawV k1 n1 b1 ++ rawV k2 n2 b2)) * (1 : Nat) ≤ (140737488355328 : Nat), b3.length ≤ (1000000 : Nat), rawB k3 n3 = Bool.true, Go.Eng.slenD (Go.Eng.SV.sl Go.IntKind.u8 (Go.Eng.B.hd (4 : Nat) (Go.IntKind.u64.wrap (↑(3 : Nat) : Int)).toNat ++ rawV k1 n1 b1 ++ rawV k2 n2 b2 ++ rawV k3 n3 b3)) * (1 : Nat) ≤ (140737488355328 : Nat)]) (sc' := []) (by kernel_rfl) (by repeat' first | exact trivial | exact rfl | assumption | omega | (simp only [slenD, SV.slen, Option.getD_some, List.length_nil, List.length_append]; omega) | refine ⟨?_, ?_⟩) ?_
    exact wkR_of rfl
  · cases he
theorem raw5_ok : ∀ args res ob, eRaw5 args = some (res, ob) → All ob → Contract Try.prog 91 args res := by
  intro args res ob he hob
  unfold eRaw5 at he
  split at he
  · rename_i k1 n1 b1 k2 n2 b2 k3 n3 b3 k4 n4 b4 k5 n5 b5
    cases he
    obtain ⟨h1, c1, h2, c2, h3, c3, h4, c4, h5, c5, _⟩ := hob
    have g0 := hd_len 4 (IntKind.u64.wrap ((5 : Nat) : Int)).toNat
    have g1 := rawV_len k1 n1 b1
    have g2 := rawV_len k2 n2 b2
    have g3 := rawV_len k3 n3 b3
    have g4 := rawV_len k4 n4 b4
    have g5 := rawV_len k5 n5 b5
    refine contract Try.func91 (body := bodyOf Try.f91) rfl (by kernel_rfl) (by kernel_rfl) rfl ?_
    intro _ w0 S
    refine hold_endw mixed okRW0 (unroll := true) (f := 400) (sc := []) (r := (Go.Eng.SV.sl Go.IntKind.u8 (Go.Eng.B.hd (4 : Nat) (Go.IntKind.u64.wrap (↑(5 : Nat) : Int)).toNat ++ rawV k1 n1 b1 ++ rawV k2 n2 b2 ++ rawV k3 n3 b3 ++ rawV k4 n4 b4 ++ rawV k5 n5 b5))) (ob := [(4 : Nat) < (8 : Nat), b1.length ≤ (1000000 : Nat), rawB k1 n1 = Bool.true, Go.Eng.slenD (Go.Eng.SV.sl Go.IntKind.u8 (Go.Eng.B.hd (4 : Nat) (Go.IntKind.u64.wrap (↑(5 : Nat) : Int)).toNat ++ rawV k1 n1 b1)) * (1 : Nat) ≤ (140737488355328 : Nat), b2.length ≤ (1000000 : Nat), rawB k2 n2 = Bool.true, Go.Eng.slenD (Go.Eng.SV.sl Go.IntKind.u8 (Go.Eng.B.hd (4 : Nat) (Go.IntKind.u64.wrap (↑(5 : Nat) : Int)).toNat ++ rawV k1 n1 b1 ++ rawV k2 n2 b2)) * (1 : Nat) ≤ (140737488355328 : Nat), b3.length ≤ (1000000 : Nat), rawB k3 n3 = Bool.true, Go.Eng.slenD (Go.Eng.SV.sl Go.IntKind.u8 (Go.Eng.B.hd (4 : Nat) (Go.IntKind.u64.wrap (↑(5 : Nat) : Int)).toNat ++ rawV k1 n1 b1 ++ rawV k2 n2 b2 ++ rawV k3 n3 b3)) * (1 : Nat) ≤ (140737488355328 : Nat), b4.length ≤ (1000000 : Nat), rawB k4 n4 = Bool.true, Go.Eng.slenD (Go.Eng.SV.sl Go.IntKind.u8 (Go.Eng.B.hd (4 : Nat) (Go.IntKind.u64.wrap (↑(5 : Nat) : Int)).toNat ++ rawV k1 n1 b1 ++ rawV k2 n2 b2 ++ rawV k3 n3 b3 ++ rawV k4 n4 b4)) * (1 : Nat) ≤ (140737488355328 : Nat), b5.length ≤ (1000000 : Nat), rawB k5 n5 = Bool.true, Go.Eng.slenD (Go.Eng.SV.sl Go.IntKind.u8 (Go.Eng.B.hd (4 : Nat) (Go.IntKind.u64.wrap (↑(5 : Nat) : Int)).toNat ++ rawV k1 n1 b1 ++ rawV k2 n2 b2 ++ rawV k3 n3 b3 ++ rawV k4 n4 b4 ++ rawV k5 n5 b5)) * (1 : Nat) ≤ (140737488355328 : Nat)]) (sc' := []) (by kernel_rfl) (by repeat' first | exact trivial | exact rfl | assumption | omega | (simp only [slenD, SV.slen, Option.getD_some, List.length_nil, List.length_append]; omega) | refine ⟨?_, ?_⟩) ?_
    exact wkR_of rfl
  · cases he
theorem rawn_ok : ∀ args res ob, eRawn args = some (res, ob) → All ob → Contract Try.prog 91 args res := by
  intro args res ob he hob
  unfold eRawn at he
  split at he
  · rename_i k1 n1 b1 k2 n2 b2 k3 n3 b3 k4 n4 b4 k5 n5 b5
    cases he
    obtain ⟨h1, c1, h2, c2, h3, c3, h4, c4, h5, c5, _⟩ := hob
    have g0 := hd_len 4 (IntKind.u64.wrap ((5 : Nat) : Int)).toNat
    have g1 := rawV_len k1 n1 b1
    have g2 := rawV_len k2 n2 b2
    have g3 := rawV_len k3 n3 b3
    have g4 := rawV_len k4 n4 b4
    have g5 := rawV_len k5 n5 b5
    have g9 := hd_len 4 1
    refine contract Try.func91 (body := bodyOf Try.f91) rfl (by kernel_rfl) (by kernel_rfl) rfl ?_
    intro _ w0 S
    refine hold_endw mixed okRW1 (unroll := true) (f := 400) (sc := []) (r := (Go.Eng.SV.sl Go.IntKind.u8 (Go.Eng.B.hd (4 : Nat) (Go.IntKind.u64.wrap (↑(5 : Nat) : Int)).toNat ++ rawV k1 n1 b1 ++ (Go.Eng.B.hd (4 : Nat) (1 : Nat) ++ rawV k2 n2 b2) ++ rawV k3 n3 b3 ++ rawV k4 n4 b4 ++ rawV k5 n5 b5))) (ob := [(4 : Nat) < (8 : Nat), b1.length ≤ (1000000 : Nat), rawB k1 n1 = Bool.true, Go.Eng.slenD (Go.Eng.SV.sl Go.IntKind.u8 (Go.Eng.B.hd (4 : Nat) (Go.IntKind.u64.wrap (↑(5 : Nat) : Int)).toNat ++ rawV k1 n1 b1)) * (1 : Nat) ≤ (140737488355328 : Nat), b2.length ≤ (1000000 : Nat), rawB k2 n2 = Bool.true, Go.Eng.slenD (Go.Eng.SV.sl Go.IntKind.u8 (Go.Eng.B.hd (4 : Nat) (Go.IntKind.u64.wrap (↑(5 : Nat) : Int)).toNat ++ rawV k1 n1 b1 ++ (Go.Eng.B.hd (4 : Nat) (1 : Nat) ++ rawV k2 n2 b2))) * (1 : Nat) ≤ (140737488355328 : Nat), b3.length ≤ (1000000 : Nat), rawB k3 n3 = Bool.true, Go.Eng.slenD (Go.Eng.SV.sl Go.IntKind.u8 (Go.Eng.B.hd (4 : Nat) (Go.IntKind.u64.wrap (↑(5 : Nat) : Int)).toNat ++ rawV k1 n1 b1 ++ (Go.Eng.B.hd (4 : Nat) (1 : Nat) ++ rawV k2 n2 b2) ++ rawV k3 n3 b3)) * (1 : Nat) ≤ (140737488355328 : Nat), b4.length ≤ (1000000 : Nat), rawB k4 n4 = Bool.true, Go.Eng.slenD (Go.Eng.SV.sl Go.IntKind.u8 (Go.Eng.B.hd (4 : Nat) (Go.IntKind.u64.wrap (↑(5 : Nat) : Int)).toNat ++ rawV k1 n1 b1 ++ (Go.Eng.B.hd (4 : Nat) (1 : Nat) ++ rawV k2 n2 b2) ++ rawV k3 n3 b3 ++ rawV k4 n4 b4)) * (1 : Nat) ≤ (140737488355328 : Nat), b5.length ≤ (1000000 : Nat), rawB k5 n5 = Bool.true, Go.Eng.slenD (Go.Eng.SV.sl Go.IntKind.u8 (Go.Eng.B.hd (4 : Nat) (Go.IntKind.u64.wrap (↑(5 : Nat) : Int)).toNat ++ rawV k1 n1 b1 ++ (Go.Eng.B.hd (4 : Nat) (1 : Nat) ++ rawV k2 n2 b2) ++ rawV k3 n3 b3 ++ rawV k4 n4 b4 ++ rawV k5 n5 b5)) * (1 : Nat) ≤ (140737488355328 : Nat)]) (sc' := []) (by kernel_rfl) (by repeat' first | exact trivial | exact rfl | assumption | omega | (simp only [slenD, SV.slen, Option.getD_some, List.length_nil, List.length_append]; omega) | refine ⟨?_, ?_⟩) ?_
    exact wkR_of rfl
  · cases he
theorem raw_ok : ∀ args res ob, eRaw args = some (res, ob) → All ob → Contract Try.prog 91 args res := orE_ok raw1_ok (orE_ok raw3_ok (orE_ok raw5_ok rawn_ok))
end
end Go.Eng.B

namespace Go.Eng.B
open Go Go.Eng Go.Proofs
set_option maxRecDepth 100000
noncomputable def N4b (g h : List Nat → List Nat) : Ctr := addC 93 eIntI (addC 90 (eBytI 2) (addC 94 eTxtI (addC 92 eLs (addC 91 eRaw (T9 g h)))))
theorem okN4b {g h : List Nat → List Nat} (hg : g = sum32) (hh : h = sum64) : CtrOk Try.prog (N4b g h) := addC_ok (addC_ok (addC_ok (addC_ok (addC_ok (okT9 hg hh) raw_ok) ls_ok) txtI_ok) bytI_ok) intI_ok
theorem raw_int (n : Int) : rawV (intK n) (intN n) [] = intL n := by
  by_cases h : n < 0 <;> simp [rawV, intK, intN, intL, h]
theorem raw_str (b : List Nat) : rawV 2 0 b = strL b := by unfold rawV strL; rw [if_neg (by omega), if_pos (by omega)]
theorem raw_txt (b : List Nat) : rawV 3 0 b = txtL b := by unfold rawV txtL; rw [if_neg (by omega), if_pos (by omega)]
theorem nextV_lt (l : List Int) (a : Nat) (n : Int) (hn : 0 < n) : nextV l a n < n.toNat := by
  unfold nextV
  split
  · have := Int.emod_lt_of_pos (l.getD a 0) hn; have := Int.emod_nonneg (l.getD a 0) (show n ≠ 0 by omega); omega
  · omega
end Go.Eng.B

namespace Go.Eng
open Go.RowKit
def demBk (id : Nat) (bk : Bk) : Bk := { bk with segs := bk.segs.map (demS id) }
def demBlk (id : Nat) (σ : St) : St := { σ with blks := σ.blks.map fun p => (p.1, demBk id p.2) }
def stepOpZ (P : Program) (ctr : Ctr) (ops : Array Oper) (σ : St) (i : Nat) (o : Oper) (sc : List Bool) : Option (St × List Prop × List Bool) :=
  match guardOf ops σ.slots o with
  | some true => match o.op with
    | .build _ _ => match evalH P ctr σ.blks (lookρ σ.slots) o with
      | some (.val s, ob) => match putS σ o.dst s with | some σ' => some (σ', ob, sc) | none => none
      | _ => none
    | .call { callee := .builtin .append, args := ⟨[x, _]⟩, argTypes := ⟨[_, _]⟩ } => match lookρ σ.slots x with
      | some (.row id _) => stepOpY P ctr ops (demBlk id σ) i o sc
      | _ => stepOpY P ctr ops σ i o sc
    | _ => stepOpY P ctr ops σ i o sc
  | _ => stepOpY P ctr ops σ i o sc
def execSeqZ (P : Program) (ctr : Ctr) (ops : Array Oper) : List Oper → Nat → St → List Bool → Option (St × List Prop × List Bool)
  | [], _, σ, sc => some (σ, [], sc)
  | o :: r, i, σ, sc => match stepOpZ P ctr ops σ i o sc with
    | some (σ1, ob1, sc1) => match execSeqZ P ctr ops r (i + 1) σ1 sc1 with
      | some (σ2, ob2, sc2) => some (σ2, ob1 ++ ob2, sc2)
      | none => none
    | none => none
section
variable {P : Program} {ctr : Ctr} {w0 : Fr} {w : World} {S : Own} {σ σ' : St} {β : Nat → Nat} {a : Act} {ops : Array Oper}
theorem demS_rel {ow : Own} {id : Nat} {s : SV} {cs : List Value} (h : rel β ow w s cs) : rel β ow w (demS id s) cs := by
  cases s <;> try exact h
  · rename_i i s
    simp only [demS]
    split
    · simp only [rel] at h; exact h.1
    · exact h
  · rename_i i es l
    simp only [demS]
    split
    · simp only [rel] at h ⊢
      obtain ⟨h1, h2, _, cap, vs, h3, h4, h5, _⟩ := h
      exact ⟨h1, h2, _, vs, h3, h4, h5⟩
    · exact h
theorem demS_rels {ow : Own} {id : Nat} : ∀ {l : List SV} {cs : List Value}, rels β ow w l cs → rels β ow w (l.map (demS id)) cs
  | [], _, h => h
  | _ :: _, _, h => by
    simp only [rels] at h ⊢
    obtain ⟨c1, c2, e, h1, h2⟩ := h
    exact ⟨c1, c2, e, demS_rel h1, demS_rels h2⟩
theorem idss_dem {id : Nat} : ∀ {l : List SV}, ∀ i ∈ idss (l.map (demS id)), i ∈ idss l
  | [], _, h => h
  | _ :: _, i, h => by
    simp only [List.map_cons, idss, List.mem_append] at h ⊢
    rcases h with h | h
    · exact .inl (demS_ids i h)
    · exact .inr (idss_dem i h)
theorem demBlk_mem {id i : Nat} {b : Bk} (h : (i, b) ∈ (demBlk id σ).blks) : ∃ b0, (i, b0) ∈ σ.blks ∧ b = demBk id b0 := by
  obtain ⟨⟨j, b0⟩, h1, h2⟩ := List.mem_map.1 h
  cases h2
  exact ⟨b0, h1, rfl⟩
theorem Sat.demBlk (id : Nat) (hS : Sat w0 S σ β a w) : Sat w0 S (demBlk id σ) β a w := by
  have ho : ∀ b j, owS S (Eng.demBlk id σ).blks β b j → owS S σ.blks β b j := by
    rintro b j (h | ⟨i, bk, hm, h1, h2⟩)
    · exact .inl h
    · obtain ⟨b0, h3, rfl⟩ := demBlk_mem hm
      exact .inr ⟨i, b0, h3, h1, h2⟩
  refine ⟨hS.defs, hS.size, fun d s hm => relV_mono (fun b j _ => ho b j) (Keep.refl _ _) (fun _ _ => rfl) (hS.slot d s hm), fun i bk hm => ?_, fun i bk hm hl => ?_, fun i j bi bj hi hj li lj e => ?_, ?_, hS.bnd, fun i bk hm => ?_, hS.ext, hS.lowS, hS.pins.1, fun i hi => ?_⟩
  · obtain ⟨b0, h3, rfl⟩ := demBlk_mem hm
    obtain ⟨h1, h2⟩ := hS.blk i b0 h3
    refine ⟨fun hr => ?_, h2⟩
    obtain ⟨cs, h4, h5⟩ := h1 hr
    exact ⟨cs, demS_rels (rels_mono (fun b j _ => ho b j) (Keep.refl _ _) _ _ (fun _ _ => rfl) h4), h5⟩
  · obtain ⟨b0, h3, rfl⟩ := demBlk_mem hm
    exact hS.low i b0 h3 hl
  · obtain ⟨b0, h3, rfl⟩ := demBlk_mem hi
    obtain ⟨b1, h4, rfl⟩ := demBlk_mem hj
    exact hS.inj i j b0 b1 h3 h4 li lj e
  · have e : (Eng.demBlk id σ).blks.map (·.1) = σ.blks.map (·.1) := by simp [Eng.demBlk, Function.comp_def]
    rw [e]; exact hS.uniq
  · obtain ⟨b0, h3, rfl⟩ := demBlk_mem hm
    obtain ⟨h1, h2, h4⟩ := hS.bndB i b0 h3
    exact ⟨h1, fun j hj => h2 j (idss_dem j hj), h4⟩
  · obtain ⟨h1, bk, h2, h3⟩ := hS.pins.2 i hi
    exact ⟨h1, demBk id bk, List.mem_map.2 ⟨(i, bk), h2, rfl⟩, h3⟩
theorem stepOpZ_ok (hctr : CtrOk P ctr) {σ' : St} {i : Nat} {o : Oper} {sc sc' : List Bool} {ob : List Prop} (h : stepOpZ P ctr ops σ i o sc = some (σ', ob, sc')) (hob : All ob) (hi : ops[i]? = some o)
    (hS : Sat w0 S σ β a w) {K : Act → World → Prop} {Q : Exit → Act → World → Prop} (hk : ∀ β' a' w', Sat w0 S σ' β' a' w' → K a' w') : wpOp P ops Q i K a w := by
  unfold stepOpZ at h
  split at h
  · rename_i hg
    split at h
    · rename_i t ps hop
      split at h
      · rename_i s ob1 hev
        split at h
        · rename_i σ1 hput
          cases h
          unfold wpOp
          simp only [hi]
          rw [guard_ok hS.slot hg]
          simp only [if_true]
          refine .inl ?_
          refine evalH_ok hctr hev hob (fun x s hx => hS.look hx) hS.blk hS.own fun v w' hx hv => ?_
          obtain ⟨rfl, hv⟩ := hv
          exact hk β _ _ (hS.put hput hv)
        · cases h
      · cases h
    · split at h
      · rename_i id s hx
        exact stepOpY_ok hctr h hob hi (hS.demBlk id) hk
      · exact stepOpY_ok hctr h hob hi hS hk
    · exact stepOpY_ok hctr h hob hi hS hk
  · exact stepOpY_ok hctr h hob hi hS hk
theorem execSeqZ_ok (hctr : CtrOk P ctr) {Q : Exit → Act → World → Prop} : ∀ {l : List Oper} {i : Nat} {σ σ' : St} {sc sc' : List Bool} {ob : List Prop} {β : Nat → Nat} {a : Act} {w : World}, (∀ j, l[j]? = ops[i + j]?) → execSeqZ P ctr ops l i σ sc = some (σ', ob, sc') → All ob →
    Sat w0 S σ β a w → (∀ β' a' w', Sat w0 S σ' β' a' w' → Q .normal a' w') → wpOps P ops Q (List.range' i l.length) a w := by
  intro l
  induction l with
  | nil =>
    intro i σ σ' sc sc' ob β a w _ h _ hS hk
    simp only [execSeqZ] at h
    cases h
    simp only [List.length_nil, List.range'_zero, wpOps]
    exact hk β a w hS
  | cons o r ih =>
    intro i σ σ' sc sc' ob β a w hl h hob hS hk
    simp only [execSeqZ] at h
    split at h
    · rename_i σ1 ob1 sc1 hst
      split at h
      · rename_i σ2 ob2 sc2 hr
        cases h
        obtain ⟨ho1, ho2⟩ := All.append.1 hob
        rw [List.length_cons, List.range'_succ, wpOps_cons]
        refine stepOpZ_ok hctr hst ho1 (by simpa using (hl 0).symm) hS fun β' a' w' hS' => ?_
        exact ih (fun j => by have := hl (j + 1); simpa [Nat.add_assoc, Nat.add_comm 1 j] using this) hr ho2 hS' hk
      · cases h
    · cases h
end
def regZ (P : Program) (ctr : Ctr) (body : Code) (p : List Nat) (r : List It) (d : Ke) (σ : St) (sc : List Bool) : List It × Option St × List Prop × List Bool :=
  match nav body p with
  | some (.region _ ops false) => match execSeqZ P ctr ops ops.toList 0 σ sc with
    | some (σ', ob, sc') => match restrict d.ks d.bs d.nx σ' with
      | some σ2 => (r, some σ2, ob, sc')
      | none => ([], none, [], sc)
    | none => ([], none, [], sc)
  | _ => ([], none, [], sc)
theorem hold_allZ {P : Program} {body : Code} {w0 : Fr} {S : Own} (_hm : P.follows .mixedOrders = true) {ctr : Ctr} (hctr : CtrOk P ctr) {Q : Exit → Act → World → Prop} [ExitOk Q] {p : List Nat} {r : List It} {d : Ke} {σ : St} {sc : List Bool} {st' : List It} {σ' : St} {ob : List Prop} {sc' : List Bool}
    (h : regZ P ctr body p r d σ sc = (st', some σ', ob, sc')) (hob : All ob) (hk : Hold P body Q w0 S st' σ') : Hold P body Q w0 S (.at p :: r) σ := by
  unfold regZ at h
  split at h
  · rename_i id ops hn
    split at h
    · rename_i σ1 ob1 sc1 hx
      split at h
      · rename_i σ2 hre
        cases h
        intro β a w hS
        simp only [contQ, hn]
        refine wp_region ?_
        have := execSeqZ_ok (Q := contQ P body Q _) hctr (l := ops.toList) (i := 0) (by simp) hx hob hS (fun β' a' w' hS' => hk β' a' w' (hS'.restrict hre))
        rw [List.range_eq_range']
        simpa using this
      · cases h
    · cases h
  · cases h
end Go.Eng

namespace Go.Eng.B
open Go Go.Eng Go.Proofs
set_option maxRecDepth 100000
set_option maxHeartbeats 1000000
def iK2 (l : List Int) (k : Nat) : Nat := nextA l (nextA l k)
def iK3 (l : List Int) (k : Nat) : Nat := bysA l (iK2 l k) 8
def iK4 (l : List Int) (k : Nat) : Nat := bysA l (iK3 l k) 3
def iK5 (l : List Int) (k : Nat) : Nat := bysA l (iK4 l k) 3
def iS (l : List Int) (k : Nat) : List Nat := smL ((nextV l k 1000 : Nat) : Int) ((1 + nextV l (nextA l k) 32 : Nat) : Int).toNat
def iA (l : List Int) (k : Nat) : List Nat := bysL l (iK2 l k) 8
def iD (l : List Int) (k : Nat) : List Nat := bysL l (iK3 l k) 3
def iR0 (l : List Int) (k : Nat) : List Nat := bysL l (iK4 l k) 3
def iR (l : List Int) (k : Nat) : List Nat := if iD l k = iR0 l k then iR0 l k ++ [9] else iR0 l k
def iQ (l : List Int) (k : Nat) : Bool := nextV l (iK5 l k) 3 == 0
def iC (l : List Int) (k : Nat) : List Nat := if iQ l k = true then bysL l (nextA l (iK5 l k)) 5 else []
def iK (l : List Int) (k : Nat) : Nat := if iQ l k = true then bysA l (nextA l (iK5 l k)) 5 else nextA l (iK5 l k)
def in6 (s a : List Nat) (q : Bool) (c d r : List Nat) : SV := .ag [.sl .u8 s, .sl .u8 a, .b q, .sl .u8 c, .sl .u8 d, .sl .u8 r]
def eInp (H : List Bk) (args : List SV) : Option (MRes × List Prop) :=
  match H, args with
  | [⟨ty, [.sli l, a], false⟩], [.ptr 0 0 (.c 0), .cb true] => if ty = 96 then (match a.nat? with
    | some (.i64, k) => some (⟨in6 (iS l k) (iA l k) (iQ l k) (iC l k) (iD l k) (iR l k), [deckB l (iK l k)], []⟩, [])
    | _ => none) else none
  | _, _ => none
def sIn (l : List Int) (k n : Nat) (s a d : List Nat) (r : SV) : St := ⟨40, [(0, .ptr 0 0 (.c 0)), (1, .cb true), (4, .ptr 1 0 (.c 0)), (5, .ptr 11 0 (.c 0))], [(0, deckB l k), (1, ⟨44, [.nil, .nil, .cb false, .nil, .nil, .nil], false⟩), (8, ⟨5, [], true⟩), (11, ⟨44, [.sl .u8 s, .sl .u8 a, .cb false, .nil, .sl .u8 d, r], false⟩)], n, 1⟩
noncomputable def D2a (g h : List Nat → List Nat) : Ctr := addC 47 eSome (T9 g h)
theorem hold_dem {P : Program} {body : Code} {Q : Exit → Act → World → Prop} {w0 : Fr} {S : Own} {st : List It} {σ : St} (id : Nat) (h : Hold P body Q w0 S st (demBlk id σ)) : Hold P body Q w0 S st σ := fun β a w hS => h β a w (hS.demBlk id)
section
variable {g h : List Nat → List Nat} (hg : g = sum32) (hh : h = sum64) {F : Fr} {S : Own} {res : MRes}
include hg hh
theorem okD2a : CtrOk Try.prog (D2a g h) := addC_ok (okT9 hg hh) some_ok
theorem inp_b30 (l : List Int) (k : Nat) (s a d r : List Nat) (hr : res = ⟨in6 s a (nextV l k 3 == 0) (if (nextV l k 3 == 0) = true then bysL l (nextA l k) 5 else []) d r, [deckB l (if (nextV l k 3 == 0) = true then bysA l (nextA l k) 5 else nextA l k)], []⟩) : Hold Try.prog (bodyOf Try.f34) (FinM Try.prog Try.f34 F S res) F S [.at [1, 1, 1]] (sIn l k 30 s a d (.sl .u8 r)) := by
  cases hq : (nextV l k 3 == 0) with
  | true =>
    rw [hq] at hr
    refine hold_endMw mixed (okD2a hg hh) (news := []) (unroll := true) (f := 100) (sc := [true]) (r := { res := Go.Eng.SV.ag [Go.Eng.SV.sl Go.IntKind.u8 s, Go.Eng.SV.sl Go.IntKind.u8 a, Go.Eng.SV.cb Bool.true, Go.Eng.SV.sl Go.IntKind.u8 (Go.Eng.B.bysL l (Go.Eng.B.nextA l k) (5 : Int)), Go.Eng.SV.sl Go.IntKind.u8 d, Go.Eng.SV.sl Go.IntKind.u8 r], upd := [{ ty := (96 : Nat), segs := [Go.Eng.SV.sli l, Go.Eng.SV.u Go.IntKind.i64 (Go.Eng.B.bysA l (Go.Eng.B.nextA l k) (5 : Int))] }] }) (ob := [(0 : Int) < (3 : Int), (Go.Eng.B.nextV l k (3 : Int) == (0 : Nat)) = Bool.true, (0 : Int) ≤ (5 : Int), (5 : Int) ≤ (100000 : Int)]) (sc' := []) (by kernel_rfl) ⟨by omega, hq, by omega, by omega, trivial⟩ ?_
    rw [hr]
    simp [wkM, wkR, wk, wk0, wka, wkB, wkl, in6, deckB]
  | false =>
    rw [hq] at hr
    refine hold_endMw mixed (okD2a hg hh) (news := []) (unroll := true) (f := 100) (sc := [false]) (r := { res := Go.Eng.SV.ag [Go.Eng.SV.sl Go.IntKind.u8 s, Go.Eng.SV.sl Go.IntKind.u8 a, Go.Eng.SV.cb Bool.false, Go.Eng.SV.nil, Go.Eng.SV.sl Go.IntKind.u8 d, Go.Eng.SV.sl Go.IntKind.u8 r], upd := [{ ty := (96 : Nat), segs := [Go.Eng.SV.sli l, Go.Eng.SV.u Go.IntKind.i64 (Go.Eng.B.nextA l k)] }] }) (ob := [(0 : Int) < (3 : Int), (Go.Eng.B.nextV l k (3 : Int) == (0 : Nat)) = Bool.false]) (sc' := []) (by kernel_rfl) ⟨by omega, hq, trivial⟩ ?_
    rw [hr]
    simp [wkM, wkR, wk, wk0, wka, wkB, wkl, in6, deckB]
theorem inp_b50 (l : List Int) (k : Nat) (s a d r : List Nat) (hr : res = ⟨in6 s a (nextV l k 3 == 0) (if (nextV l k 3 == 0) = true then bysL l (nextA l k) 5 else []) d r, [deckB l (if (nextV l k 3 == 0) = true then bysA l (nextA l k) 5 else nextA l k)], []⟩) : Hold Try.prog (bodyOf Try.f34) (FinM Try.prog Try.f34 F S res) F S [.at [1, 1, 1]] (sIn l k 50 s a d (.sl .u8 r)) := by
  cases hq : (nextV l k 3 == 0) with
  | true =>
    rw [hq] at hr
    refine hold_endMw mixed (okD2a hg hh) (news := []) (unroll := true) (f := 100) (sc := [true]) (r := { res := Go.Eng.SV.ag [Go.Eng.SV.sl Go.IntKind.u8 s, Go.Eng.SV.sl Go.IntKind.u8 a, Go.Eng.SV.cb Bool.true, Go.Eng.SV.sl Go.IntKind.u8 (Go.Eng.B.bysL l (Go.Eng.B.nextA l k) (5 : Int)), Go.Eng.SV.sl Go.IntKind.u8 d, Go.Eng.SV.sl Go.IntKind.u8 r], upd := [{ ty := (96 : Nat), segs := [Go.Eng.SV.sli l, Go.Eng.SV.u Go.IntKind.i64 (Go.Eng.B.bysA l (Go.Eng.B.nextA l k) (5 : Int))] }] }) (ob := [(0 : Int) < (3 : Int), (Go.Eng.B.nextV l k (3 : Int) == (0 : Nat)) = Bool.true, (0 : Int) ≤ (5 : Int), (5 : Int) ≤ (100000 : Int)]) (sc' := []) (by kernel_rfl) ⟨by omega, hq, by omega, by omega, trivial⟩ ?_
    rw [hr]
    simp [wkM, wkR, wk, wk0, wka, wkB, wkl, in6, deckB]
  | false =>
    rw [hq] at hr
    refine hold_endMw mixed (okD2a hg hh) (news := []) (unroll := true) (f := 100) (sc := [false]) (r := { res := Go.Eng.SV.ag [Go.Eng.SV.sl Go.IntKind.u8 s, Go.Eng.SV.sl Go.IntKind.u8 a, Go.Eng.SV.cb Bool.false, Go.Eng.SV.nil, Go.Eng.SV.sl Go.IntKind.u8 d, Go.Eng.SV.sl Go.IntKind.u8 r], upd := [{ ty := (96 : Nat), segs := [Go.Eng.SV.sli l, Go.Eng.SV.u Go.IntKind.i64 (Go.Eng.B.nextA l k)] }] }) (ob := [(0 : Int) < (3 : Int), (Go.Eng.B.nextV l k (3 : Int) == (0 : Nat)) = Bool.false]) (sc' := []) (by kernel_rfl) ⟨by omega, hq, trivial⟩ ?_
    rw [hr]
    simp [wkM, wkR, wk, wk0, wka, wkB, wkl, in6, deckB]
theorem inp_a (l : List Int) (k : Nat) (s a d r : List Nat) (hrl : r.length ≤ 1000) (hr : res = ⟨in6 s a (nextV l k 3 == 0) (if (nextV l k 3 == 0) = true then bysL l (nextA l k) 5 else []) d (if d = r then r ++ [9] else r), [deckB l (if (nextV l k 3 == 0) = true then bysA l (nextA l k) 5 else nextA l k)], []⟩) : Hold Try.prog (bodyOf Try.f34) (FinM Try.prog Try.f34 F S res) F S [.at [1, 1]] (sIn l k 30 s a d (.row 8 (.sl .u8 r))) := by
  by_cases hdr : d = r
  · rw [if_pos hdr] at hr
    refine hold_cut mixed (okD2a hg hh) (unroll := true) (f := 100) (sc := [true]) (ks := [0,1,4,5]) (bs := [0,1,8,11]) (nx := 30) (st' := [Go.Eng.It.at [(0 : Nat), (1 : Nat), (0 : Nat), (1 : Nat), (1 : Nat)], Go.Eng.It.at [(1 : Nat), (1 : Nat), (1 : Nat)]]) (σ' := { nt := (40 : Nat), slots := [((0 : Nat), Go.Eng.SV.ptr (0 : Nat) (0 : Nat) (Go.Eng.Ix.c (0 : Nat))), ((1 : Nat), Go.Eng.SV.cb Bool.true), ((4 : Nat), Go.Eng.SV.ptr (1 : Nat) (0 : Nat) (Go.Eng.Ix.c (0 : Nat))), ((5 : Nat), Go.Eng.SV.ptr (11 : Nat) (0 : Nat) (Go.Eng.Ix.c (0 : Nat)))], blks := [((0 : Nat), { ty := (96 : Nat), segs := [Go.Eng.SV.sli l, Go.Eng.SV.u Go.IntKind.i64 k] }), ((1 : Nat), { ty := (44 : Nat), segs := [Go.Eng.SV.nil, Go.Eng.SV.nil, Go.Eng.SV.cb Bool.false, Go.Eng.SV.nil, Go.Eng.SV.nil, Go.Eng.SV.nil] }), ((8 : Nat), { ty := (5 : Nat), segs := [], row := Bool.true }), ((11 : Nat), { ty := (44 : Nat), segs := [Go.Eng.SV.sl Go.IntKind.u8 s, Go.Eng.SV.sl Go.IntKind.u8 a, Go.Eng.SV.cb Bool.false, Go.Eng.SV.nil, Go.Eng.SV.sl Go.IntKind.u8 d, Go.Eng.SV.row (8 : Nat) (Go.Eng.SV.sl Go.IntKind.u8 r)] })], next := (30 : Nat), m := (1 : Nat) }) (ob := [Decidable.decide (d = r) = Bool.true]) (sc' := []) (by kernel_rfl) ⟨decide_eq_true hdr, trivial⟩ ?_
    refine Hold.cast (σ' := sIn l k 30 s a d (.row 8 (.sl .u8 r))) ?_ rfl
    refine hold_allZ mixed (okD2a hg hh) (p := [0, 1, 0, 1, 1]) (r := [.at [1, 1, 1]]) (d := Ke.mk [0,1,4,5] [0,1,8,11] 50) (σ := sIn l k 30 s a d (.row 8 (.sl .u8 r))) (sc := []) (st' := [Go.Eng.It.at [(1 : Nat), (1 : Nat), (1 : Nat)]]) (σ' := (Go.Eng.St.mk (40 : Nat) [((0 : Nat), Go.Eng.SV.ptr (0 : Nat) (0 : Nat) (Go.Eng.Ix.c (0 : Nat))), ((1 : Nat), Go.Eng.SV.cb Bool.true), ((4 : Nat), Go.Eng.SV.ptr (1 : Nat) (0 : Nat) (Go.Eng.Ix.c (0 : Nat))), ((5 : Nat), Go.Eng.SV.ptr (11 : Nat) (0 : Nat) (Go.Eng.Ix.c (0 : Nat)))] [((0 : Nat), Go.Eng.Bk.mk (96 : Nat) [Go.Eng.SV.sli l, Go.Eng.SV.u Go.IntKind.i64 k] (Go.Eng.Bk.mk (96 : Nat) [Go.Eng.SV.sli l, Go.Eng.SV.u Go.IntKind.i64 k] Bool.false).row), ((1 : Nat), Go.Eng.Bk.mk (44 : Nat) [Go.Eng.SV.nil, Go.Eng.SV.nil, Go.Eng.SV.cb Bool.false, Go.Eng.SV.nil, Go.Eng.SV.nil, Go.Eng.SV.nil] Bool.false), ((8 : Nat), Go.Eng.Bk.mk (5 : Nat) [] Bool.true), ((11 : Nat), Go.Eng.Bk.mk (44 : Nat) [Go.Eng.SV.sl Go.IntKind.u8 s, Go.Eng.SV.sl Go.IntKind.u8 a, Go.Eng.SV.cb Bool.false, Go.Eng.SV.nil, Go.Eng.SV.sl Go.IntKind.u8 d, Go.Eng.SV.sl Go.IntKind.u8 (r ++ [(9 : Nat)])] Bool.false)] (50 : Nat) (1 : Nat))) (ob := [Go.Eng.slenD (Go.Eng.SV.sl Go.IntKind.u8 (r ++ [(9 : Nat)])) * (1 : Nat) ≤ (140737488355328 : Nat)]) (sc' := []) (by kernel_rfl) (by repeat' first | exact trivial | (simp only [slenD, SV.slen, Option.getD_some, List.length_append, List.length_cons, List.length_nil]; omega) | refine ⟨?_, ?_⟩) ?_
    exact (inp_b50 hg hh l k s a d (r ++ [9]) hr).cast rfl
  · rw [if_neg hdr] at hr
    refine hold_cut mixed (okD2a hg hh) (unroll := true) (f := 5) (sc := [false]) (ks := [0,1,4,5]) (bs := [0,1,8,11]) (nx := 30) (st' := [Go.Eng.It.at [(1 : Nat), (1 : Nat), (1 : Nat)]]) (σ' := { nt := (40 : Nat), slots := [((0 : Nat), Go.Eng.SV.ptr (0 : Nat) (0 : Nat) (Go.Eng.Ix.c (0 : Nat))), ((1 : Nat), Go.Eng.SV.cb Bool.true), ((4 : Nat), Go.Eng.SV.ptr (1 : Nat) (0 : Nat) (Go.Eng.Ix.c (0 : Nat))), ((5 : Nat), Go.Eng.SV.ptr (11 : Nat) (0 : Nat) (Go.Eng.Ix.c (0 : Nat)))], blks := [((0 : Nat), { ty := (96 : Nat), segs := [Go.Eng.SV.sli l, Go.Eng.SV.u Go.IntKind.i64 k] }), ((1 : Nat), { ty := (44 : Nat), segs := [Go.Eng.SV.nil, Go.Eng.SV.nil, Go.Eng.SV.cb Bool.false, Go.Eng.SV.nil, Go.Eng.SV.nil, Go.Eng.SV.nil] }), ((8 : Nat), { ty := (5 : Nat), segs := [], row := Bool.true }), ((11 : Nat), { ty := (44 : Nat), segs := [Go.Eng.SV.sl Go.IntKind.u8 s, Go.Eng.SV.sl Go.IntKind.u8 a, Go.Eng.SV.cb Bool.false, Go.Eng.SV.nil, Go.Eng.SV.sl Go.IntKind.u8 d, Go.Eng.SV.row (8 : Nat) (Go.Eng.SV.sl Go.IntKind.u8 r)] })], next := (30 : Nat), m := (1 : Nat) }) (ob := [Decidable.decide (d = r) = Bool.false]) (sc' := []) (by kernel_rfl) ⟨decide_eq_false hdr, trivial⟩ ?_
    refine hold_dem 8 ?_
    exact (inp_b30 hg hh l k s a d r hr).cast rfl
theorem inp_m (l : List Int) (k : Nat) : ContractM Try.prog 34 [deckB l k] [.ptr 0 0 (.c 0), .cb true] ⟨in6 (iS l k) (iA l k) (iQ l k) (iC l k) (iD l k) (iR l k), [deckB l (iK l k)], []⟩ := by
  refine contractM Try.func34 (body := bodyOf Try.f34) rfl (by kernel_rfl) (by kernel_rfl) rfl rfl ?_
  rintro _ _ F S hF
  have hn : nextV l (nextA l k) 32 < 32 := by
    have := nextV_lt l (nextA l k) 32 (by omega); omega
  have hb : (iR0 l k).length ≤ 1000 := by
    have := bysL_len l (iK4 l k) 3 (by omega); unfold iR0; omega
  refine hold_cut mixed (okD2a hg hh) (unroll := true) (f := 3) (sc := []) (ks := [0,1,4]) (bs := [0,1]) (nx := 2) (st' := [Go.Eng.It.at [(0 : Nat), (1 : Nat)], Go.Eng.It.at [(1 : Nat), (1 : Nat)]]) (σ' := { nt := (40 : Nat), slots := [((0 : Nat), Go.Eng.SV.ptr (0 : Nat) (0 : Nat) (Go.Eng.Ix.c (0 : Nat))), ((1 : Nat), Go.Eng.SV.cb Bool.true), ((4 : Nat), Go.Eng.SV.ptr (1 : Nat) (0 : Nat) (Go.Eng.Ix.c (0 : Nat)))], blks := [((0 : Nat), { ty := (96 : Nat), segs := [Go.Eng.SV.sli l, Go.Eng.SV.u Go.IntKind.i64 k] }), ((1 : Nat), { ty := (44 : Nat), segs := [Go.Eng.SV.nil, Go.Eng.SV.nil, Go.Eng.SV.cb Bool.false, Go.Eng.SV.nil, Go.Eng.SV.nil, Go.Eng.SV.nil] })], next := (2 : Nat), m := (1 : Nat) }) (ob := []) (sc' := []) (by kernel_rfl) trivial ?_
  refine Hold.cast (σ' := (⟨40, [(0, .ptr 0 0 (.c 0)), (1, .cb true), (4, .ptr 1 0 (.c 0))], [(0, deckB l k), (1, ⟨44, [.nil, .nil, .cb false, .nil, .nil, .nil], false⟩)], 2, 1⟩ : St)) ?_ rfl
  refine hold_allZ mixed (okD2a hg hh) (p := [0, 1]) (r := [.at [1, 1]]) (d := Ke.mk [0,1,4,5] [0,1,8,11] 30) (σ := (⟨40, [(0, .ptr 0 0 (.c 0)), (1, .cb true), (4, .ptr 1 0 (.c 0))], [(0, deckB l k), (1, ⟨44, [.nil, .nil, .cb false, .nil, .nil, .nil], false⟩)], 2, 1⟩ : St)) (sc := []) (st' := [Go.Eng.It.at [(1 : Nat), (1 : Nat)]]) (σ' := (Go.Eng.St.mk (40 : Nat) [((0 : Nat), Go.Eng.SV.ptr (0 : Nat) (0 : Nat) (Go.Eng.Ix.c (0 : Nat))), ((1 : Nat), Go.Eng.SV.cb Bool.true), ((4 : Nat), Go.Eng.SV.ptr (1 : Nat) (0 : Nat) (Go.Eng.Ix.c (0 : Nat))), ((5 : Nat), Go.Eng.SV.ptr (11 : Nat) (0 : Nat) (Go.Eng.Ix.c (0 : Nat)))] [((0 : Nat), Go.Eng.Bk.mk (96 : Nat) [Go.Eng.SV.sli l, Go.Eng.SV.u Go.IntKind.i64 (Go.Eng.B.bysA l (Go.Eng.B.bysA l (Go.Eng.B.bysA l (Go.Eng.B.nextA l (Go.Eng.B.nextA l k)) (8 : Int)) (3 : Int)) (3 : Int))] Bool.false), ((1 : Nat), Go.Eng.Bk.mk (44 : Nat) [Go.Eng.SV.nil, Go.Eng.SV.nil, Go.Eng.SV.cb Bool.false, Go.Eng.SV.nil, Go.Eng.SV.nil, Go.Eng.SV.nil] Bool.false), ((8 : Nat), Go.Eng.Bk.mk (5 : Nat) [] Bool.true), ((11 : Nat), Go.Eng.Bk.mk (44 : Nat) [Go.Eng.SV.sl Go.IntKind.u8 (Go.Eng.B.smL (↑(Go.Eng.B.nextV l k (1000 : Int)) : Int) (↑((1 : Nat) + Go.Eng.B.nextV l (Go.Eng.B.nextA l k) (32 : Int)) : Int).toNat), Go.Eng.SV.row (Go.Eng.backM [(0 : Nat)] (2 : Nat) (1 : Nat)) (Go.Eng.SV.sl Go.IntKind.u8 (Go.Eng.B.bysL l (Go.Eng.B.nextA l (Go.Eng.B.nextA l k)) (8 : Int))), Go.Eng.SV.cb Bool.false, Go.Eng.SV.nil, Go.Eng.SV.row (Go.Eng.backM [(0 : Nat)] (5 : Nat) (1 : Nat)) (Go.Eng.SV.sl Go.IntKind.u8 (Go.Eng.B.bysL l (Go.Eng.B.bysA l (Go.Eng.B.nextA l (Go.Eng.B.nextA l k)) (8 : Int)) (3 : Int))), Go.Eng.SV.row (Go.Eng.backM [(0 : Nat)] (8 : Nat) (1 : Nat)) (Go.Eng.SV.sl Go.IntKind.u8 (Go.Eng.B.bysL l (Go.Eng.B.bysA l (Go.Eng.B.bysA l (Go.Eng.B.nextA l (Go.Eng.B.nextA l k)) (8 : Int)) (3 : Int)) (3 : Int)))] Bool.false)] (30 : Nat) (1 : Nat))) (ob := [(0 : Int) < (1000 : Int), (0 : Int) < (32 : Int), (1 : Nat) + Go.Eng.B.nextV l (Go.Eng.B.nextA l k) (32 : Int) < (9223372036854775808 : Nat), (↑((1 : Nat) + Go.Eng.B.nextV l (Go.Eng.B.nextA l k) (32 : Int)) : Int) ≤ (1000000 : Int), (0 : Int) ≤ (8 : Int), (8 : Int) ≤ (100000 : Int), (0 : Int) ≤ (3 : Int), (3 : Int) ≤ (100000 : Int), (0 : Int) ≤ (3 : Int), (3 : Int) ≤ (100000 : Int)]) (sc' := []) (by kernel_rfl) (by repeat' first | exact trivial | omega | refine ⟨?_, ?_⟩) ?_
  refine hold_dem 2 ?_
  refine hold_dem 5 ?_
  exact (inp_a hg hh l (iK5 l k) (iS l k) (iA l k) (iD l k) (iR0 l k) hb rfl).cast rfl
theorem inp_ok : ∀ H args r ob, eInp H args = some (r, ob) → All ob → ContractM Try.prog 34 H args r := by
  intro H args r ob he _
  unfold eInp at he
  split at he
  · rename_i l a
    split at he
    · rename_i hty
      subst hty
      split at he
      · rename_i k ha
        cases he
        exact deck_hand ha (inp_m hg hh l k)
      · cases he
    · cases he
  · cases he
end
end Go.Eng.B

