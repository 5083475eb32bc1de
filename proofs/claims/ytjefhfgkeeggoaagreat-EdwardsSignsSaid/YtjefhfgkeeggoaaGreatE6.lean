import Derived.Test.YtjefhfgkeeggoaaGreatE5
import Derived.Laws.Externs
set_option linter.unusedVariables false
set_option linter.unusedSimpArgs false
set_option linter.unusedSectionVars false
namespace Go.Eng.B
open Go Go.Eng Go.Proofs
set_option maxRecDepth 100000
theorem mul64_math (x y : Nat) (hx : x < 18446744073709551616) (hy : y < 18446744073709551616) :
    ((x / 2 ^ 32) * (y / 2 ^ 32) % 18446744073709551616 + (((x / 2 ^ 32) * (y &&& 4294967295) % 18446744073709551616 + (x &&& 4294967295) * (y &&& 4294967295) % 18446744073709551616 / 2 ^ 32) % 18446744073709551616) / 2 ^ 32) % 18446744073709551616 +
      (((((x / 2 ^ 32) * (y &&& 4294967295) % 18446744073709551616 + (x &&& 4294967295) * (y &&& 4294967295) % 18446744073709551616 / 2 ^ 32) % 18446744073709551616) &&& 4294967295) + (x &&& 4294967295) * (y / 2 ^ 32) % 18446744073709551616) % 18446744073709551616 / 2 ^ 32 = x * y / 18446744073709551616 ∧ x * y / 18446744073709551616 < 18446744073709551616 := by
  have ex : ∀ z : Nat, z &&& 4294967295 = z % 4294967296 := fun z => Nat.and_two_pow_sub_one_eq_mod z 32
  simp only [ex]
  have hp : x * y = (x % 4294967296) * (y % 4294967296) + 4294967296 * ((x % 4294967296) * (y / 4294967296)) + 4294967296 * ((x / 4294967296) * (y % 4294967296)) + 18446744073709551616 * ((x / 4294967296) * (y / 4294967296)) := by
    have h1 : x = x % 4294967296 + 4294967296 * (x / 4294967296) := by omega
    have h2 : y = y % 4294967296 + 4294967296 * (y / 4294967296) := by omega
    generalize x % 4294967296 = a at *
    generalize x / 4294967296 = b at *
    generalize y % 4294967296 = c at *
    generalize y / 4294967296 = d at *
    subst h1 h2
    grind
  rw [hp]
  have b1 : x % 4294967296 ≤ 4294967295 := by omega
  have b2 : x / 4294967296 ≤ 4294967295 := by omega
  have b3 : y % 4294967296 ≤ 4294967295 := by omega
  have b4 : y / 4294967296 ≤ 4294967295 := by omega
  have m1 := Nat.mul_le_mul b1 b3
  have m2 := Nat.mul_le_mul b1 b4
  have m3 := Nat.mul_le_mul b2 b3
  have m4 := Nat.mul_le_mul b2 b4
  simp only [Nat.reducePow, Nat.reduceMul] at *
  generalize (x % 4294967296) * (y % 4294967296) = p at *
  generalize (x % 4294967296) * (y / 4294967296) = q at *
  generalize (x / 4294967296) * (y % 4294967296) = r at *
  generalize (x / 4294967296) * (y / 4294967296) = s at *
  omega
theorem mul64_c (x' y' : Nat) : Contract Tryz.prog 122 [.u .u64 x', .u .u64 y'] (.tup [.u .u64 (x' * y' / 18446744073709551616), .u .u64 (x' * y' % 18446744073709551616)]) := by
  refine contract Tryz.func122 (body := bodyOf Tryz.f122) rfl (by kernel_rfl) (by kernel_rfl) rfl ?_
  rintro ⟨hx', hy', _⟩ w0 S
  have hm := mul64_math x' y' hx' hy'
  refine hold_end mixed ctr0_ok (unroll := true) (f := 60) (sc := []) (r := (Go.Eng.SV.tup [Go.Eng.SV.u Go.IntKind.u64 (((x' / (4294967296 : Nat) * (y' / (4294967296 : Nat)) % (18446744073709551616 : Nat) + (x' / (4294967296 : Nat) * (y' &&& (4294967295 : Nat)) % (18446744073709551616 : Nat) + (x' &&& (4294967295 : Nat)) * (y' &&& (4294967295 : Nat)) % (18446744073709551616 : Nat) / (4294967296 : Nat)) % (18446744073709551616 : Nat) / (4294967296 : Nat)) % (18446744073709551616 : Nat) + (((x' / (4294967296 : Nat) * (y' &&& (4294967295 : Nat)) % (18446744073709551616 : Nat) + (x' &&& (4294967295 : Nat)) * (y' &&& (4294967295 : Nat)) % (18446744073709551616 : Nat) / (4294967296 : Nat)) % (18446744073709551616 : Nat) &&& (4294967295 : Nat)) + (x' &&& (4294967295 : Nat)) * (y' / (4294967296 : Nat)) % (18446744073709551616 : Nat)) % (18446744073709551616 : Nat) / (4294967296 : Nat)) % (18446744073709551616 : Nat)), Go.Eng.SV.u Go.IntKind.u64 (x' * y' % (18446744073709551616 : Nat))])) (ob := []) (sc' := []) (by kernel_rfl) trivial ?_
  simp only [SV.tup.injEq, List.cons.injEq, SV.u.injEq, and_true, true_and]
  simp only [Nat.reducePow] at *
  omega
theorem nat2_args {P : Program} {f : FuncId} {x y res : SV} {k1 k2 : IntKind} {a b : Nat} (hx : x.nat? = some (k1, a)) (hy : y.nat? = some (k2, b)) (h : Contract P f [.u k1 a, .u k2 b] res) : Contract P f [x, y] res := by
  intro w S vs hlt hvs
  obtain ⟨v1, t1, rfl, r1, v2, t2, rfl, r2, rfl⟩ := hvs
  exact h w S _ hlt ⟨_, _, rfl, nat?_wk hx r1, _, _, rfl, nat?_wk hy r2, rfl⟩
theorem cMul64 : ∀ args res ob, tMul64 args = some (res, ob) → All ob → Contract Tryz.prog 122 args res := by
  intro args res ob h _
  unfold tMul64 at h
  split at h
  · split at h
    · rename_i hx hy; cases h; exact nat2_args hx hy (mul64_c _ _)
    · cases h
  · cases h
theorem cAdd64 : ∀ args res ob, tAdd64 args = some (res, ob) → All ob → Contract Tryz.prog 104 args res :=
  add64_c Tryz.func104 (by kernel_rfl) (by kernel_rfl) (by kernel_rfl) (by kernel_rfl)
theorem cSub64 : ∀ args res ob, tSub64 args = some (res, ob) → All ob → Contract Tryz.prog 131 args res :=
  sub64_c Tryz.func131 (by kernel_rfl) (by kernel_rfl) (by kernel_rfl) (by kernel_rfl)
def eFl (g : Nat → Option Nat) (args : List SV) : Option (SV × List Prop) :=
  match args with
  | [.fl b] => match g b with
    | some r => some (.fl r, [])
    | none => none
  | _ => none
def eBits (args : List SV) : Option (SV × List Prop) :=
  match args with
  | [.fl b] => if b < 18446744073709551616 then some (.c .u64 b, []) else none
  | _ => none
def eFrom (args : List SV) : Option (SV × List Prop) :=
  match args with
  | [x] => match x.nat? with
    | some (.u64, b) => some (.fl b, [])
    | _ => none
  | _ => none
def flr (b : Nat) : Option Nat := match FloatKind.decode .f64 b with
  | .nan _ _ => none
  | d => some (FloatKind.encode .f64 (d.integral .down))
def sqr (b : Nat) : Option Nat := Ieee.Format.sqrt (FloatKind.format .f64) b
theorem ext_c {P : Program} {f : FuncId} {fn : Func} {g : Array Value → Sem Value} (hf : P.funcs[f]? = some fn) (hname : (fn.name == "runtime.NumGoroutine") = false) (hb : fn.body.isNone = true) (hn : Extern.findNext fn = none) (he : Extern.find fn = some g)
    {args : List SV} {res : SV} (hg : ∀ (w : World) (S : Own) (vs : List Value), relVs (fun _ => 0) S w args vs → ∃ v, (g vs.toArray).run P w = .ok v w ∧ relV (fun _ => 0) S w res v) : Contract P f args res := by
  intro w S vs _ hvs
  unfold Invokes
  rw [run_callFunc_extern hf hname hb hn he]
  obtain ⟨v, h1, h2⟩ := hg w S vs hvs
  rw [h1]
  simp only [Result.andThen_ok]
  exact ⟨Ext.refl w, h2⟩
theorem fl_arg {ow : Own} {w : World} {b : Nat} {vs : List Value} (h : relVs (fun _ => 0) ow w [.fl b] vs) : vs = [.float .f64 b] := by
  obtain ⟨v, t, rfl, ⟨cs, h1, rfl⟩, rfl⟩ := h
  simp only [rel] at h1
  subst h1
  rfl
theorem cSqrt : ∀ args res ob, eFl sqr args = some (res, ob) → All ob → Contract Tryz.prog 148 args res := by
  intro args res ob h _
  unfold eFl at h
  split at h
  · rename_i b
    split at h
    · rename_i r hr
      cases h
      refine ext_c Tryz.func148 (g := Extern.MathSqrt.sqrt) (by kernel_rfl) (by kernel_rfl) (by kernel_rfl) (by kernel_rfl) fun w S vs hvs => ?_
      rw [fl_arg hvs]
      unfold sqr at hr
      refine ⟨.float .f64 r, ?_, relV_of1 rfl rel_fl⟩
      have e : Extern.MathSqrt.sqrt #[.float .f64 b] = (match Ieee.Format.sqrt (FloatKind.format .f64) b with
        | some r => pure (.float .f64 r)
        | none => do pure (.float .f64 (← choose (.nanBits .f64 b b)))) := rfl
      show (Extern.MathSqrt.sqrt #[.float .f64 b]).run Tryz.prog w = _
      rw [e, hr]
      rfl
    · cases h
  · cases h
theorem cFloorA : ∀ args res ob, eFl flr args = some (res, ob) → All ob → Contract Tryz.prog 151 args res := by
  intro args res ob h _
  unfold eFl at h
  split at h
  · rename_i b
    split at h
    · rename_i r hr
      cases h
      refine ext_c Tryz.func151 (g := Extern.MathFloor.toIntegral "math.archFloor" .down) (by kernel_rfl) (by kernel_rfl) (by kernel_rfl) (by kernel_rfl) fun w S vs hvs => ?_
      rw [fl_arg hvs]
      unfold flr at hr
      refine ⟨.float .f64 r, ?_, relV_of1 rfl rel_fl⟩
      show (Extern.MathFloor.toIntegral "math.archFloor" .down #[.float .f64 b]).run Tryz.prog w = _
      have e : Extern.MathFloor.toIntegral "math.archFloor" .down #[.float .f64 b] = (match FloatKind.f64.decode b with
        | .nan s t => if FloatKind.f64.format.quiet t = t then pure (.float .f64 b) else do
          let kept ← choose (.extern "math.Floor,Ceil,Trunc,RoundToEven.signallingNaN kept" 2)
          pure (.float .f64 (if kept == 1 then b else FloatKind.f64.encode (.nan s (FloatKind.f64.format.quiet t))))
        | d => pure (.float .f64 (FloatKind.f64.encode (d.integral .down)))) := rfl
      rw [e]
      cases hd : FloatKind.decode .f64 b <;> rw [hd] at hr <;> first | (cases hr; done) | (cases hr; rfl)
    · cases h
  · cases h
theorem cBits : ∀ args res ob, eBits args = some (res, ob) → All ob → Contract Tryz.prog 157 args res := by
  intro args res ob h _
  unfold eBits at h
  split at h
  · rename_i b
    split at h
    · rename_i hb
      cases h
      refine ext_c Tryz.func157 (g := Extern.MathFloatBits.float64bits) (by kernel_rfl) (by kernel_rfl) (by kernel_rfl) (by kernel_rfl) fun w S vs hvs => ?_
      rw [fl_arg hvs]
      exact ⟨.int .u64 b, rfl, relV_of1 rfl (rel_c (by simp only [inR, lo, lim]; omega))⟩
    · cases h
  · cases h
theorem cFrom : ∀ args res ob, eFrom args = some (res, ob) → All ob → Contract Tryz.prog 156 args res := by
  intro args res ob h _
  unfold eFrom at h
  split at h
  · rename_i x
    split at h
    · rename_i b hx
      cases h
      refine ext_c Tryz.func156 (g := Extern.MathFloatBits.float64frombits) (by kernel_rfl) (by kernel_rfl) (by kernel_rfl) (by kernel_rfl) fun w S vs hvs => ?_
      obtain ⟨v, t, rfl, ⟨cs, h1, rfl⟩, rfl⟩ := hvs
      obtain ⟨rfl, _⟩ := nat?_ok hx h1
      rw [(nat?_sc hx).2]
      exact ⟨.float .f64 b, rfl, relV_of1 rfl rel_fl⟩
    · cases h
  · cases h
def M1a : Ctr := addC 156 eFrom (addC 157 eBits (addC 151 (eFl flr) (addC 148 (eFl sqr) (addC 131 tSub64 (addC 104 tAdd64 (addC 122 tMul64 ctr0))))))
theorem okM1a : CtrOk Tryz.prog M1a := addC_ok (addC_ok (addC_ok (addC_ok (addC_ok (addC_ok (addC_ok ctr0_ok cMul64) cAdd64) cSub64) cSqrt) cFloorA) cBits) cFrom
end Go.Eng.B

namespace Go.Eng.B
open Go Go.Eng Go.Proofs
set_option maxRecDepth 100000
def W4 : TypeId := 152
def stTo : List It := [.lp [0, 1, 0, 1, 1], .blk 0, .at [1, 1, 1]]
def stTi : List It := [.lp [0, 1, 1, 1, 0, 0, 1, 1, 0, 0, 1, 0, 1, 1], .blk 2, .blk 1, .at [1, 1, 1, 0, 0, 1, 0, 1, 1], .lp [0, 1, 0, 1, 1], .blk 0, .at [1, 1, 1]]
def bTi (a b z : List Nat) : List (Nat × Bk) := [(0, ⟨W4, [.arr .u64 4 a], false⟩), (1, ⟨W4, [.arr .u64 4 b], false⟩), (2, ⟨W4, [.arr .u64 4 [0,0,0,0]], false⟩), (3, ⟨W4, [.arr .u64 4 z], false⟩)]
def sTo (a b z : List Nat) (i : Nat) : St := ⟨59, [(2, .ptr 0 0 (.c 0)), (3, .ptr 1 0 (.c 0)), (4, .ptr 2 0 (.c 0)), (5, .ptr 3 0 (.c 0)), (12, .u .i64 i)], bTi a b z, 4, 0⟩
def sTi (a b z : List Nat) (i c j : Nat) : St := ⟨59, [(2, .ptr 0 0 (.c 0)), (3, .ptr 1 0 (.c 0)), (4, .ptr 2 0 (.c 0)), (5, .ptr 3 0 (.c 0)), (6, .u .i64 i), (7, .u .u64 c), (8, .u .i64 j), (12, .u .i64 i)], bTi a b z, 4, 0⟩
theorem times_step {x y q c : Nat} (hx : x < 18446744073709551616) (hy : y < 18446744073709551616) (hq : q < 18446744073709551616) (hc : c < 18446744073709551616) :
    (q + (x * y % 18446744073709551616 + c + 0) % 18446744073709551616 + 0) % 18446744073709551616 +
      18446744073709551616 * (((x * y / 18446744073709551616 + (x * y % 18446744073709551616 + c + 0) / 18446744073709551616) % 18446744073709551616 +
        (q + (x * y % 18446744073709551616 + c + 0) % 18446744073709551616 + 0) / 18446744073709551616) % 18446744073709551616) = x * y + q + c := by
  have hp : x * y ≤ 18446744073709551615 * 18446744073709551615 := Nat.mul_le_mul (by omega) (by omega)
  generalize x * y = p at *
  omega
theorem times_in {V V' R U W d q c c2 x y B t s : Nat} (hst : d + W * c2 = x * y + q + c) (hset : V' + U * q = V + U * d) (hinv : V + U * c = R + t * x * B) (hU : U = t * s) : V' + U * W * c2 = R + t * x * (B + s * y) := by
  subst hU
  have : t * s * (d + W * c2) = t * s * (x * y + q + c) := by rw [hst]
  grind
section
variable {w0 : World} {S : Own} {res : SV}
theorem ti_in (a b z0 : List Nat) (i : Nat) (ha : a.length = 4) (ha2 : ∀ x ∈ a, x < 18446744073709551616) (hb : b.length = 4) (hb2 : ∀ x ∈ b, x < 18446744073709551616) (hi : i < 4)
    (hk : ∀ (z : List Nat) (c : Nat), z.length = 4 → (∀ x ∈ z, x < 18446744073709551616) → vl 18446744073709551616 z + 18446744073709551616 ^ 4 * c = vl 18446744073709551616 z0 + 18446744073709551616 ^ i * a.getD i 0 * vl 18446744073709551616 (b.take (4 - i)) →
      Hold Tryz.prog (bodyOf Tryz.f153) (Fin Tryz.prog Tryz.f153 w0 S res) w0 S stTo (sTo a b z (i + 1))) :
    ∀ d j, 4 - (i + j) = d → i + j ≤ 4 → ∀ (z : List Nat) (c : Nat), z.length = 4 → (∀ x ∈ z, x < 18446744073709551616) → c < 18446744073709551616 →
      vl 18446744073709551616 z + 18446744073709551616 ^ (i + j) * c = vl 18446744073709551616 z0 + 18446744073709551616 ^ i * a.getD i 0 * vl 18446744073709551616 (b.take j) →
      Hold Tryz.prog (bodyOf Tryz.f153) (Fin Tryz.prog Tryz.f153 w0 S res) w0 S stTi (sTi a b z i c j) := by
  intro d
  induction d using Nat.strongRecOn with
  | _ d ih =>
  intro j hd hj z c hz hz2 hc hv
  have hx := getD_lt (by decide) ha2 i
  have hy := getD_lt (by decide) hb2 j
  have hq := getD_lt (by decide) hz2 (i + j)
  have hst := times_step hx hy hq hc
  refine hold_unroll (c := _) rfl ?_
  rcases Bool.eq_false_or_eq_true (Decidable.decide (i + j < (4 : Nat))) with hc0 | hc0
  · have hd0 := of_decide_eq_true hc0
    refine hold_cut mixed okM1a (unroll := false) (f := 300) (sc := [true]) (ks := [2,3,4,5,6,7,8,12]) (bs := [0,1,2,3]) (nx := 4) (st' := [Go.Eng.It.lp [(0 : Nat), (1 : Nat), (1 : Nat), (1 : Nat), (0 : Nat), (0 : Nat), (1 : Nat), (1 : Nat), (0 : Nat), (0 : Nat), (1 : Nat), (0 : Nat), (1 : Nat), (1 : Nat)], Go.Eng.It.blk (2 : Nat), Go.Eng.It.blk (1 : Nat), Go.Eng.It.at [(1 : Nat), (1 : Nat), (1 : Nat), (0 : Nat), (0 : Nat), (1 : Nat), (0 : Nat), (1 : Nat), (1 : Nat)], Go.Eng.It.lp [(0 : Nat), (1 : Nat), (0 : Nat), (1 : Nat), (1 : Nat)], Go.Eng.It.blk (0 : Nat), Go.Eng.It.at [(1 : Nat), (1 : Nat), (1 : Nat)]]) (σ' := { nt := (59 : Nat), slots := [((2 : Nat), Go.Eng.SV.ptr (0 : Nat) (0 : Nat) (Go.Eng.Ix.c (0 : Nat))), ((3 : Nat), Go.Eng.SV.ptr (1 : Nat) (0 : Nat) (Go.Eng.Ix.c (0 : Nat))), ((4 : Nat), Go.Eng.SV.ptr (2 : Nat) (0 : Nat) (Go.Eng.Ix.c (0 : Nat))), ((5 : Nat), Go.Eng.SV.ptr (3 : Nat) (0 : Nat) (Go.Eng.Ix.c (0 : Nat))), ((6 : Nat), Go.Eng.SV.u Go.IntKind.i64 i), ((7 : Nat), Go.Eng.SV.u Go.IntKind.u64 (((a.getD i (0 : Nat) * b.getD j (0 : Nat) / (18446744073709551616 : Nat) + (a.getD i (0 : Nat) * b.getD j (0 : Nat) % (18446744073709551616 : Nat) + c + (0 : Nat)) / (18446744073709551616 : Nat)) % (18446744073709551616 : Nat) + (z.getD (i + j) (0 : Nat) + (a.getD i (0 : Nat) * b.getD j (0 : Nat) % (18446744073709551616 : Nat) + c + (0 : Nat)) % (18446744073709551616 : Nat) + (0 : Nat)) / (18446744073709551616 : Nat)) % (18446744073709551616 : Nat))), ((8 : Nat), Go.Eng.SV.u Go.IntKind.i64 (j + (1 : Nat))), ((12 : Nat), Go.Eng.SV.u Go.IntKind.i64 i)], blks := [((0 : Nat), { ty := W4, segs := [Go.Eng.SV.arr Go.IntKind.u64 (4 : Nat) a] }), ((1 : Nat), { ty := W4, segs := [Go.Eng.SV.arr Go.IntKind.u64 (4 : Nat) b] }), ((2 : Nat), { ty := W4, segs := [Go.Eng.SV.arr Go.IntKind.u64 (4 : Nat) [(0 : Nat), (0 : Nat), (0 : Nat), (0 : Nat)]] }), ((3 : Nat), { ty := (152 : Nat), segs := [Go.Eng.SV.arr Go.IntKind.u64 (4 : Nat) (z.set (i + j) ((z.getD (i + j) (0 : Nat) + (a.getD i (0 : Nat) * b.getD j (0 : Nat) % (18446744073709551616 : Nat) + c + (0 : Nat)) % (18446744073709551616 : Nat) + (0 : Nat)) % (18446744073709551616 : Nat)))] })], next := (4 : Nat) }) (ob := [i + j < (9223372036854775808 : Nat), Decidable.decide (i + j < (4 : Nat)) = Bool.true, i < (4 : Nat), i < (4 : Nat), j < (4 : Nat), j < (4 : Nat), (0 : Nat) ≤ (1 : Nat), i + j < (9223372036854775808 : Nat), i + j < (9223372036854775808 : Nat), i + j < (4 : Nat), i + j < (4 : Nat), (0 : Nat) ≤ (1 : Nat), i + j < (4 : Nat), i + j < (4 : Nat), j + (1 : Nat) < (9223372036854775808 : Nat)]) (sc' := []) (by kernel_rfl) ?_ ?_
    · exact ⟨(by first | assumption | omega | (simp; omega)), hc0, (by first | assumption | omega | (simp; omega)), (by first | assumption | omega | (simp; omega)), (by first | assumption | omega | (simp; omega)), (by first | assumption | omega | (simp; omega)), (by first | assumption | omega | (simp; omega)), (by first | assumption | omega | (simp; omega)), (by first | assumption | omega | (simp; omega)), (by first | assumption | omega | (simp; omega)), (by first | assumption | omega | (simp; omega)), (by first | assumption | omega | (simp; omega)), (by first | assumption | omega | (simp; omega)), (by first | assumption | omega | (simp; omega)), (by first | assumption | omega | (simp; omega)), trivial⟩
    · first | (refine ih (4 - (i + (j + 1))) (by omega) (j + 1) rfl (by omega) _ _ (by simpa using hz) (mem_set hz2 (Nat.mod_lt _ (by decide))) (Nat.mod_lt _ (by decide)) ?_; have hset := vl_set 18446744073709551616 z (i + j) ((z.getD (i + j) 0 + (a.getD i 0 * b.getD j 0 % 18446744073709551616 + c + 0) % 18446744073709551616 + 0) % 18446744073709551616) (by omega); rw [vl_take _ b j (by omega), show i + (j + 1) = i + j + 1 by omega, Nat.pow_succ]; exact times_in hst hset hv (Nat.pow_add _ _ _)) | (refine hold_restrict (ks := [2,3,4,5,12]) (bs := [0,1,2,3]) (nx := 4) rfl ?_; exact Hold.weaken (hk z c hz hz2 (by have e : i + j = 4 := (by omega); rw [e] at hv; have e2 : 4 - i = j := (by omega); rw [e2]; exact hv)) (by simp [wks, wk, wk0, lim]))
  · have hd0 := of_decide_eq_false hc0
    refine hold_cut mixed okM1a (unroll := false) (f := 300) (sc := [false]) (ks := [2,3,4,5,6,7,8,12]) (bs := [0,1,2,3]) (nx := 4) (st' := [Go.Eng.It.lp [(0 : Nat), (1 : Nat), (0 : Nat), (1 : Nat), (1 : Nat)], Go.Eng.It.blk (0 : Nat), Go.Eng.It.at [(1 : Nat), (1 : Nat), (1 : Nat)]]) (σ' := { nt := (59 : Nat), slots := [((2 : Nat), Go.Eng.SV.ptr (0 : Nat) (0 : Nat) (Go.Eng.Ix.c (0 : Nat))), ((3 : Nat), Go.Eng.SV.ptr (1 : Nat) (0 : Nat) (Go.Eng.Ix.c (0 : Nat))), ((4 : Nat), Go.Eng.SV.ptr (2 : Nat) (0 : Nat) (Go.Eng.Ix.c (0 : Nat))), ((5 : Nat), Go.Eng.SV.ptr (3 : Nat) (0 : Nat) (Go.Eng.Ix.c (0 : Nat))), ((6 : Nat), Go.Eng.SV.u Go.IntKind.i64 i), ((7 : Nat), Go.Eng.SV.u Go.IntKind.u64 c), ((8 : Nat), Go.Eng.SV.u Go.IntKind.i64 j), ((12 : Nat), Go.Eng.SV.u Go.IntKind.i64 (i + (1 : Nat)))], blks := [((0 : Nat), { ty := W4, segs := [Go.Eng.SV.arr Go.IntKind.u64 (4 : Nat) a] }), ((1 : Nat), { ty := W4, segs := [Go.Eng.SV.arr Go.IntKind.u64 (4 : Nat) b] }), ((2 : Nat), { ty := W4, segs := [Go.Eng.SV.arr Go.IntKind.u64 (4 : Nat) [(0 : Nat), (0 : Nat), (0 : Nat), (0 : Nat)]] }), ((3 : Nat), { ty := W4, segs := [Go.Eng.SV.arr Go.IntKind.u64 (4 : Nat) z] })], next := (4 : Nat) }) (ob := [i + j < (9223372036854775808 : Nat), Decidable.decide (i + j < (4 : Nat)) = Bool.false, i + (1 : Nat) < (9223372036854775808 : Nat)]) (sc' := []) (by kernel_rfl) ?_ ?_
    · exact ⟨(by first | assumption | omega | (simp; omega)), hc0, (by first | assumption | omega | (simp; omega)), trivial⟩
    · first | (refine ih (4 - (i + (j + 1))) (by omega) (j + 1) rfl (by omega) _ _ (by simpa using hz) (mem_set hz2 (Nat.mod_lt _ (by decide))) (Nat.mod_lt _ (by decide)) ?_; have hset := vl_set 18446744073709551616 z (i + j) ((z.getD (i + j) 0 + (a.getD i 0 * b.getD j 0 % 18446744073709551616 + c + 0) % 18446744073709551616 + 0) % 18446744073709551616) (by omega); rw [vl_take _ b j (by omega), show i + (j + 1) = i + j + 1 by omega, Nat.pow_succ]; exact times_in hst hset hv (Nat.pow_add _ _ _)) | (refine hold_restrict (ks := [2,3,4,5,12]) (bs := [0,1,2,3]) (nx := 4) rfl ?_; exact Hold.weaken (hk z c hz hz2 (by have e : i + j = 4 := (by omega); rw [e] at hv; have e2 : 4 - i = j := (by omega); rw [e2]; exact hv)) (by simp [wks, wk, wk0, lim]))
theorem vl_split (W : Nat) (b : List Nat) (n : Nat) (h : n ≤ b.length) : vl W b = vl W (b.take n) + W ^ n * vl W (b.drop n) := by
  conv => lhs; rw [← List.take_append_drop n b]
  have key : ∀ x y : List Nat, vl W (x ++ y) = vl W x + W ^ x.length * vl W y := by
    intro x
    induction x with
    | nil => intro y; simp [vl]
    | cons a x ih => intro y; simp only [List.cons_append, vl, ih, List.length_cons, Nat.pow_succ, Nat.mul_add]; rw [Nat.mul_comm (W ^ x.length) W, Nat.mul_assoc]; omega
  rw [key, List.length_take, Nat.min_eq_left h]
theorem row_mod {W Z Z0 c x B A i : Nat} {b : List Nat} (hi : i < 4) (hb : b.length = 4) (h : Z + W ^ 4 * c = Z0 + W ^ i * x * vl W (b.take (4 - i))) (hB : vl W b = B) (h0 : Z0 % W ^ 4 = A * B % W ^ 4) : Z % W ^ 4 = (A + W ^ i * x) * B % W ^ 4 := by
  have h1 : Z % W ^ 4 = (Z + W ^ 4 * c) % W ^ 4 := by rw [Nat.add_mul_mod_self_left]
  have h2 : W ^ i * x * vl W b = W ^ i * x * vl W (b.take (4 - i)) + W ^ 4 * (x * vl W (b.drop (4 - i))) := by
    rw [vl_split W b (4 - i) (by omega), Nat.mul_add]
    have e : W ^ 4 = W ^ i * W ^ (4 - i) := by rw [← Nat.pow_add]; congr 1; omega
    rw [e]
    congr 1
    rw [Nat.mul_assoc, Nat.mul_assoc, Nat.mul_left_comm x]
  rw [h1, h, Nat.add_mul, ← hB, h2, ← Nat.add_assoc, Nat.add_mul_mod_self_left, Nat.add_mod, h0, ← hB, ← Nat.add_mod]
theorem to_in (a b : List Nat) (ha : a.length = 4) (ha2 : ∀ x ∈ a, x < 18446744073709551616) (hb : b.length = 4) (hb2 : ∀ x ∈ b, x < 18446744073709551616) (hr : res = fe (vF a * vF b)) :
    ∀ d i, 4 - i = d → i ≤ 4 → ∀ z : List Nat, z.length = 4 → (∀ x ∈ z, x < 18446744073709551616) → vl 18446744073709551616 z % 18446744073709551616 ^ 4 = vl 18446744073709551616 (a.take i) * vF b % 18446744073709551616 ^ 4 →
      Hold Tryz.prog (bodyOf Tryz.f153) (Fin Tryz.prog Tryz.f153 w0 S res) w0 S stTo (sTo a b z i) := by
  intro d
  induction d using Nat.strongRecOn with
  | _ d ih =>
  intro i hd hi z hz hz2 hv
  have hend : ¬ i < 4 → SV.arr .u64 4 z = fe (vF a * vF b) := fun h => by
    rw [show i = 4 by omega, List.take_of_length_le (by omega)] at hv
    unfold fe
    rw [← dF_vF ⟨hz, hz2⟩]
    exact congrArg (SV.arr .u64 4) (dF_congr hv)
  refine hold_unroll (c := _) rfl ?_
  rcases Bool.eq_false_or_eq_true (Decidable.decide (i < (4 : Nat))) with hc0 | hc0
  · have hd0 := of_decide_eq_true hc0
    refine hold_cut mixed okM1a (unroll := false) (f := 300) (sc := [true]) (ks := [2,3,4,5,6,7,8,12]) (bs := [0,1,2,3]) (nx := 4) (st' := [Go.Eng.It.lp [(0 : Nat), (1 : Nat), (1 : Nat), (1 : Nat), (0 : Nat), (0 : Nat), (1 : Nat), (1 : Nat), (0 : Nat), (0 : Nat), (1 : Nat), (0 : Nat), (1 : Nat), (1 : Nat)], Go.Eng.It.blk (2 : Nat), Go.Eng.It.blk (1 : Nat), Go.Eng.It.at [(1 : Nat), (1 : Nat), (1 : Nat), (0 : Nat), (0 : Nat), (1 : Nat), (0 : Nat), (1 : Nat), (1 : Nat)], Go.Eng.It.lp [(0 : Nat), (1 : Nat), (0 : Nat), (1 : Nat), (1 : Nat)], Go.Eng.It.blk (0 : Nat), Go.Eng.It.at [(1 : Nat), (1 : Nat), (1 : Nat)]]) (σ' := { nt := (59 : Nat), slots := [((2 : Nat), Go.Eng.SV.ptr (0 : Nat) (0 : Nat) (Go.Eng.Ix.c (0 : Nat))), ((3 : Nat), Go.Eng.SV.ptr (1 : Nat) (0 : Nat) (Go.Eng.Ix.c (0 : Nat))), ((4 : Nat), Go.Eng.SV.ptr (2 : Nat) (0 : Nat) (Go.Eng.Ix.c (0 : Nat))), ((5 : Nat), Go.Eng.SV.ptr (3 : Nat) (0 : Nat) (Go.Eng.Ix.c (0 : Nat))), ((6 : Nat), Go.Eng.SV.u Go.IntKind.i64 i), ((7 : Nat), Go.Eng.SV.c Go.IntKind.u64 (0 : Int)), ((8 : Nat), Go.Eng.SV.c Go.IntKind.i64 (0 : Int)), ((12 : Nat), Go.Eng.SV.u Go.IntKind.i64 i)], blks := [((0 : Nat), { ty := W4, segs := [Go.Eng.SV.arr Go.IntKind.u64 (4 : Nat) a] }), ((1 : Nat), { ty := W4, segs := [Go.Eng.SV.arr Go.IntKind.u64 (4 : Nat) b] }), ((2 : Nat), { ty := W4, segs := [Go.Eng.SV.arr Go.IntKind.u64 (4 : Nat) [(0 : Nat), (0 : Nat), (0 : Nat), (0 : Nat)]] }), ((3 : Nat), { ty := W4, segs := [Go.Eng.SV.arr Go.IntKind.u64 (4 : Nat) z] })], next := (4 : Nat) }) (ob := [Decidable.decide (i < (4 : Nat)) = Bool.true]) (sc' := []) (by kernel_rfl) ?_ ?_
    · exact ⟨hc0, trivial⟩
    · exact Hold.weaken (ti_in a b z i ha ha2 hb hb2 (by assumption) (fun z' c h1 h2 h3 => ih (4 - (i + 1)) (by omega) (i + 1) rfl (by omega) z' h1 h2 (by rw [vl_take _ a i (by omega)]; exact row_mod (by assumption) hb h3 rfl hv)) _ 0 rfl (by omega) z 0 hz hz2 (by decide) (by simp [vl])) (by simp [wks, wk, wk0, lim, sTi])
  · have hd0 := of_decide_eq_false hc0
    refine hold_endw mixed okM1a (unroll := false) (f := 300) (sc := [false]) (r := (Go.Eng.SV.arr Go.IntKind.u64 (4 : Nat) z)) (ob := [Decidable.decide (i < (4 : Nat)) = Bool.false]) (sc' := []) (by kernel_rfl) ?_ ?_
    · exact ⟨hc0, trivial⟩
    · rw [hr, hend (by assumption)]; exact wkR_of rfl
theorem times_c (a b : List Nat) : Contract Tryz.prog 153 [.arr .u64 4 a, .arr .u64 4 b] (fe (vF a * vF b)) := by
  refine contract Tryz.func153 (body := bodyOf Tryz.f153) rfl (by kernel_rfl) (by kernel_rfl) rfl ?_
  rintro ⟨ha, hb, _⟩ w0 S
  refine hold_cut mixed okM1a (unroll := false) (f := 100) (sc := []) (ks := [2,3,4,5,12]) (bs := [0,1,2,3]) (nx := 4) (st' := [Go.Eng.It.lp [(0 : Nat), (1 : Nat), (0 : Nat), (1 : Nat), (1 : Nat)], Go.Eng.It.blk (0 : Nat), Go.Eng.It.at [(1 : Nat), (1 : Nat), (1 : Nat)]]) (σ' := { nt := (59 : Nat), slots := [((2 : Nat), Go.Eng.SV.ptr (0 : Nat) (0 : Nat) (Go.Eng.Ix.c (0 : Nat))), ((3 : Nat), Go.Eng.SV.ptr (1 : Nat) (0 : Nat) (Go.Eng.Ix.c (0 : Nat))), ((4 : Nat), Go.Eng.SV.ptr (2 : Nat) (0 : Nat) (Go.Eng.Ix.c (0 : Nat))), ((5 : Nat), Go.Eng.SV.ptr (3 : Nat) (0 : Nat) (Go.Eng.Ix.c (0 : Nat))), ((12 : Nat), Go.Eng.SV.c Go.IntKind.i64 (0 : Int))], blks := [((0 : Nat), { ty := (152 : Nat), segs := [Go.Eng.SV.arr Go.IntKind.u64 (4 : Nat) a] }), ((1 : Nat), { ty := (152 : Nat), segs := [Go.Eng.SV.arr Go.IntKind.u64 (4 : Nat) b] }), ((2 : Nat), { ty := (152 : Nat), segs := [Go.Eng.SV.arr Go.IntKind.u64 (4 : Nat) [(0 : Nat), (0 : Nat), (0 : Nat), (0 : Nat)]] }), ((3 : Nat), { ty := (152 : Nat), segs := [Go.Eng.SV.arr Go.IntKind.u64 (4 : Nat) [(0 : Nat), (0 : Nat), (0 : Nat), (0 : Nat)]] })], next := (4 : Nat) }) (ob := []) (sc' := []) (by kernel_rfl) trivial ?_
  exact Hold.weaken (to_in a b ha.1 ha.2 hb.1 hb.2 rfl _ 0 rfl (Nat.zero_le _) [0,0,0,0] rfl (by decide) (by simp [vl])) (by simp [wks, wk, wk0, lim, sTo])
end
def eTimes (args : List SV) : Option (SV × List Prop) :=
  match args with
  | [.arr .u64 4 a, .arr .u64 4 b] => some (fe (vF a * vF b), [])
  | _ => none
theorem cTimes : ∀ args res ob, eTimes args = some (res, ob) → All ob → Contract Tryz.prog 153 args res := by
  intro args res ob h _
  unfold eTimes at h
  split at h
  · cases h; exact times_c _ _
  · cases h
end Go.Eng.B

namespace Go.Eng
open Go.RowKit
def inl (P : Program) (T : Ctr) (fn : Func) (fuel : Nat) (args : List SV) : Option (SV × List Prop) :=
  if (idss args).isEmpty && Nat.ble args.length fn.ntmps then
    match runR P T (bodyOf fn) fn.results true fuel [.at []] (initSt args fn.ntmps) [] with
    | ([], some r, ob, _) => some (r, ob)
    | _ => none
  else none
theorem inl_ok {P : Program} {T : Ctr} {f : FuncId} {fn : Func} {fuel : Nat} (hm : P.follows .mixedOrders = true) (hf : P.funcs[f]? = some fn) (hb : fn.body.isSome = true) (hname : (fn.name == "runtime.NumGoroutine") = false) (hT : CtrOk P T) :
    ∀ args res ob, inl P T fn fuel args = some (res, ob) → All ob → Contract P f args res := by
  intro args res ob h hob
  unfold inl at h
  split at h
  · rename_i hc
    simp only [Bool.and_eq_true, List.isEmpty_iff] at hc
    split at h
    · rename_i r ob' sc' hr
      cases h
      refine contract (body := bodyOf fn) hf ?_ hname hc.2 hc.1 fun _ w0 S => hold_end hm hT hr hob rfl
      unfold bodyOf
      cases hbd : fn.body with
      | none => rw [hbd] at hb; cases hb
      | some b => rfl
    · cases h
  · cases h
end Go.Eng

namespace Go.Eng.B
open Go Go.Eng Go.Proofs
set_option maxRecDepth 100000
set_option linter.unusedSimpArgs false
def lessL (a b : List Nat) : Bool := if a.getD 3 0 ≠ b.getD 3 0 then decide (a.getD 3 0 < b.getD 3 0) else if a.getD 2 0 ≠ b.getD 2 0 then decide (a.getD 2 0 < b.getD 2 0) else if a.getD 1 0 ≠ b.getD 1 0 then decide (a.getD 1 0 < b.getD 1 0) else decide (a.getD 0 0 < b.getD 0 0)
theorem less_c (a b : List Nat) : Contract Tryz.prog 144 [.arr .u64 4 a, .arr .u64 4 b] (.b (lessL a b)) := by
  refine contract Tryz.func144 (body := bodyOf Tryz.f144) rfl (by kernel_rfl) (by kernel_rfl) rfl ?_
  rintro ⟨ha, hb, _⟩ w0 S
  rcases Bool.eq_false_or_eq_true (a.getD (3 : Nat) (0 : Nat) != b.getD (3 : Nat) (0 : Nat)) with hc0 | hc0
  · have hd0 := bne_iff_ne.mp hc0
    refine hold_endw mixed okM1a (unroll := true) (f := 300) (sc := [true]) (r := (Go.Eng.SV.b (Decidable.decide (a.getD (3 : Nat) (0 : Nat) < b.getD (3 : Nat) (0 : Nat))))) (ob := [(a.getD (3 : Nat) (0 : Nat) != b.getD (3 : Nat) (0 : Nat)) = Bool.true]) (sc' := []) (by kernel_rfl) ?_ ?_
    · exact ⟨hc0, trivial⟩
    · (simp_all [lessL, wkR, wkl, wk, wk0, wka]; try omega)
  · have hd0 := bne_eq_false_iff_eq.mp hc0
    rcases Bool.eq_false_or_eq_true (a.getD (2 : Nat) (0 : Nat) != b.getD (2 : Nat) (0 : Nat)) with hc1 | hc1
    · have hd1 := bne_iff_ne.mp hc1
      refine hold_endw mixed okM1a (unroll := true) (f := 300) (sc := [false, true]) (r := (Go.Eng.SV.b (Decidable.decide (a.getD (2 : Nat) (0 : Nat) < b.getD (2 : Nat) (0 : Nat))))) (ob := [(a.getD (3 : Nat) (0 : Nat) != b.getD (3 : Nat) (0 : Nat)) = Bool.false, (a.getD (2 : Nat) (0 : Nat) != b.getD (2 : Nat) (0 : Nat)) = Bool.true]) (sc' := []) (by kernel_rfl) ?_ ?_
      · exact ⟨hc0, hc1, trivial⟩
      · (simp_all [lessL, wkR, wkl, wk, wk0, wka]; try omega)
    · have hd1 := bne_eq_false_iff_eq.mp hc1
      rcases Bool.eq_false_or_eq_true (a.getD (1 : Nat) (0 : Nat) != b.getD (1 : Nat) (0 : Nat)) with hc2 | hc2
      · have hd2 := bne_iff_ne.mp hc2
        refine hold_endw mixed okM1a (unroll := true) (f := 300) (sc := [false, false, true]) (r := (Go.Eng.SV.b (Decidable.decide (a.getD (1 : Nat) (0 : Nat) < b.getD (1 : Nat) (0 : Nat))))) (ob := [(a.getD (3 : Nat) (0 : Nat) != b.getD (3 : Nat) (0 : Nat)) = Bool.false, (a.getD (2 : Nat) (0 : Nat) != b.getD (2 : Nat) (0 : Nat)) = Bool.false, (a.getD (1 : Nat) (0 : Nat) != b.getD (1 : Nat) (0 : Nat)) = Bool.true]) (sc' := []) (by kernel_rfl) ?_ ?_
        · exact ⟨hc0, hc1, hc2, trivial⟩
        · (simp_all [lessL, wkR, wkl, wk, wk0, wka]; try omega)
      · have hd2 := bne_eq_false_iff_eq.mp hc2
        rcases Bool.eq_false_or_eq_true (a.getD (0 : Nat) (0 : Nat) != b.getD (0 : Nat) (0 : Nat)) with hc3 | hc3
        · have hd3 := bne_iff_ne.mp hc3
          refine hold_endw mixed okM1a (unroll := true) (f := 300) (sc := [false, false, false, true]) (r := (Go.Eng.SV.b (Decidable.decide (a.getD (0 : Nat) (0 : Nat) < b.getD (0 : Nat) (0 : Nat))))) (ob := [(a.getD (3 : Nat) (0 : Nat) != b.getD (3 : Nat) (0 : Nat)) = Bool.false, (a.getD (2 : Nat) (0 : Nat) != b.getD (2 : Nat) (0 : Nat)) = Bool.false, (a.getD (1 : Nat) (0 : Nat) != b.getD (1 : Nat) (0 : Nat)) = Bool.false, (a.getD (0 : Nat) (0 : Nat) != b.getD (0 : Nat) (0 : Nat)) = Bool.true]) (sc' := []) (by kernel_rfl) ?_ ?_
          · exact ⟨hc0, hc1, hc2, hc3, trivial⟩
          · (simp_all [lessL, wkR, wkl, wk, wk0, wka]; try omega)
        · have hd3 := bne_eq_false_iff_eq.mp hc3
          refine hold_endw mixed okM1a (unroll := true) (f := 300) (sc := [false, false, false, false]) (r := (Go.Eng.SV.cb Bool.false)) (ob := [(a.getD (3 : Nat) (0 : Nat) != b.getD (3 : Nat) (0 : Nat)) = Bool.false, (a.getD (2 : Nat) (0 : Nat) != b.getD (2 : Nat) (0 : Nat)) = Bool.false, (a.getD (1 : Nat) (0 : Nat) != b.getD (1 : Nat) (0 : Nat)) = Bool.false, (a.getD (0 : Nat) (0 : Nat) != b.getD (0 : Nat) (0 : Nat)) = Bool.false]) (sc' := []) (by kernel_rfl) ?_ ?_
          · exact ⟨hc0, hc1, hc2, hc3, trivial⟩
          · (simp_all [lessL, wkR, wkl, wk, wk0, wka]; try omega)
def eLess (args : List SV) : Option (SV × List Prop) :=
  match args with
  | [.arr .u64 4 a, .arr .u64 4 b] => some (if lessL a b then .cb true else .cb false, [])
  | _ => none
theorem Contract.weak {P : Program} {f : FuncId} {args : List SV} {r r' : SV} (h : Contract P f args r) (hw : wk r r') : Contract P f args r' :=
  fun w S vs hlt hvs => by
    have h := h w S vs hlt hvs
    unfold Invokes at h ⊢
    split at h
    · exact ⟨h.1, wk_ok hw h.2⟩
    · exact h.mono fun _ _ ⟨v, h1, h2, h3⟩ => ⟨v, h1, h2, wk_ok hw h3⟩
    · exact h
theorem cLess : ∀ args res ob, eLess args = some (res, ob) → All ob → Contract Tryz.prog 144 args res := by
  intro args res ob h _
  unfold eLess at h
  split at h
  · cases h
    refine Contract.weak (less_c _ _) ?_
    cases lessL _ _ <;> simp [wk, wk0, wka]
  · cases h
def eCar (t : List SV → Option (SV × List Prop)) (args : List SV) : Option (SV × List Prop) :=
  match args with
  | [x, y, c] => match c.nat? with
    | some (.u64, n) => if Nat.ble n 1 then match t [x, y, c] with
      | some (r, _) => some (r, [])
      | none => none
      else none
    | _ => none
  | _ => none
theorem cAddC : ∀ args res ob, eCar tAdd64 args = some (res, ob) → All ob → Contract Tryz.prog 104 args res := by
  intro args res ob h _
  unfold eCar at h
  split at h
  · split at h
    · rename_i x y c n hn
      split at h
      · rename_i hle
        split at h
        · rename_i r ob' ht
          cases h
          refine cAdd64 _ _ _ ht ?_
          unfold tAdd64 at ht
          simp only [hn] at ht
          split at ht
          · rename_i hc; cases ht; cases hc; exact ⟨Nat.le_of_ble_eq_true hle, trivial⟩
          · cases ht
        · cases h
      · cases h
    · cases h
  · cases h
theorem cSubC : ∀ args res ob, eCar tSub64 args = some (res, ob) → All ob → Contract Tryz.prog 131 args res := by
  intro args res ob h _
  unfold eCar at h
  split at h
  · split at h
    · rename_i x y c n hn
      split at h
      · rename_i hle
        split at h
        · rename_i r ob' ht
          cases h
          refine cSub64 _ _ _ ht ?_
          unfold tSub64 at ht
          simp only [hn] at ht
          split at ht
          · rename_i hc; cases ht; cases hc; exact ⟨Nat.le_of_ble_eq_true hle, trivial⟩
          · cases ht
        · cases h
      · cases h
    · cases h
  · cases h
def K0 : Ctr := addC 131 (eCar tSub64) (addC 104 (eCar tAdd64) (addC 144 eLess (addC 153 eTimes M1a)))
def K1 (P : Program) (sq fl nan ab : Func) : Ctr := addC 139 (inl P K0 sq 50) (addC 141 (inl P K0 fl 50) (addC 154 (inl P K0 nan 50) (addC 159 (inl P K0 ab 50) K0)))
def K2 (P : Program) (sq fl nan ab inf : Func) : Ctr := addC 155 (inl P (K1 P sq fl nan ab) inf 50) (K1 P sq fl nan ab)
def K3 (P : Program) (sq fl nan ab inf cb : Func) : Ctr := addC 150 (inl P (K2 P sq fl nan ab inf) cb 400) (K2 P sq fl nan ab inf)
def K4 (P : Program) (sq fl nan ab inf cb cbt : Func) : Ctr := addC 140 (inl P (K3 P sq fl nan ab inf cb) cbt 50) (K3 P sq fl nan ab inf cb)
def K5 (P : Program) (flo min rai low : Func) (T : Ctr) : Ctr := addC 142 (inl P T flo 400) (addC 146 (inl P T min 400) (addC 147 (inl P T rai 100) (addC 145 (inl P T low 100) T)))
def K6 (P : Program) (pow : Func) (T : Ctr) : Ctr := addC 143 (inl P T pow 400) T
def frOk (P : Program) (sq fl nan ab inf cb cbt flo min rai low pow fr : Func) (p n r : Nat) : Bool :=
  match inl P (K6 P pow (K5 P flo min rai low (K4 P sq fl nan ab inf cb cbt))) fr 2000 [.c .u64 p, .c .i64 n] with
  | some (.u .u64 v, []) => Nat.beq v r
  | _ => false
noncomputable def T6 : Ctr := K6 Tryz.prog Tryz.f143 (K5 Tryz.prog Tryz.f142  Tryz.f146 Tryz.f147 Tryz.f145 (K4 Tryz.prog Tryz.f139 Tryz.f141 Tryz.f154 Tryz.f159 Tryz.f155 Tryz.f150 Tryz.f140))
noncomputable def frT (p n r : Nat) : Bool := frOk Tryz.prog Tryz.f139 Tryz.f141 Tryz.f154 Tryz.f159 Tryz.f155 Tryz.f150 Tryz.f140 Tryz.f142 Tryz.f146 Tryz.f147 Tryz.f145 Tryz.f143 Tryz.f136 p n r
end Go.Eng.B

namespace Go.Eng.B
open Go Go.Eng Go.Proofs
set_option maxRecDepth 100000
set_option linter.unusedSimpArgs false
def pL : List Nat := [2, 3, 5, 7, 11, 13, 17, 19, 23, 29, 31, 37, 41, 43, 47, 53, 59, 61, 67, 71, 73, 79, 83, 89, 97, 101, 103, 107, 109, 113, 127, 131, 137, 139, 149, 151, 157, 163, 167, 173, 179, 181, 191, 193, 197, 199, 211, 223, 227, 229, 233, 239, 241, 251, 257, 263, 269, 271, 277, 281, 283, 293, 307, 311, 313, 317, 331, 337, 347, 349, 353, 359, 367, 373, 379, 383, 389, 397, 401, 409]
def primS (l : List Nat) (p : Nat) : List Nat := if l.all (fun q => decide (p % q ≠ 0)) then l ++ [p] else l
def prim : Nat → Nat → List Nat → Nat → List Nat
  | 0, _, l, _ => l
  | f + 1, n, l, p => if l.length < n then prim f n (primS l p) (p + 1) else l
def primN (n : Nat) : List Nat := prim 500 n [] 2
def stPo : List It := [.lp [0, 1, 0, 1, 1], .blk 0, .at [1, 1, 1]]
def stPi : List It := .lp [0, 1, 0, 1, 0, 0, 1, 0, 0, 1, 0, 1, 1] :: .blk 2 :: .at [1, 1, 0, 0, 1, 0, 0, 1, 0, 1, 1] :: .blk 1 :: .at [1, 1, 0, 0, 1, 0, 1, 1] :: stPo
def sPo (l : List Nat) (p n : Nat) : St := ⟨34, [(0, .u .i64 n), (3, .row 0 (.sl .u64 l)), (4, .u .u64 p)], [(0, ⟨53, [], true⟩)], 3, 0⟩
def sPi (l : List Nat) (p n i : Nat) (x : Bool) : St := ⟨34, [(0, .u .i64 n), (3, .row 0 (.sl .u64 l)), (4, .u .u64 p), (5, .b x), (14, .row 0 (.sl .u64 l)), (15, .u .i64 l.length), (16, .u .i64 i)], [(0, ⟨53, [], true⟩)], 3, 0⟩
theorem primS_pos {l : List Nat} {p : Nat} (hp : p ≠ 0) (h : ∀ q ∈ l, q ≠ 0) : ∀ q ∈ primS l p, q ≠ 0 := by
  intro q hq
  unfold primS at hq
  split at hq
  · rcases List.mem_append.1 hq with hq | hq
    · exact h q hq
    · simp only [List.mem_singleton] at hq; omega
  · exact h q hq
theorem all_take {l : List Nat} {f : Nat → Bool} {i : Nat} (h : i < l.length) : (l.take (i + 1)).all f = ((l.take i).all f && f (l.getD i 0)) := by
  rw [List.take_add_one, List.all_append, List.getD_eq_getElem?_getD, List.getElem?_eq_getElem h]
  simp
theorem ne_dec (a : Nat) : (a != 0) = (true && decide (a ≠ 0)) := by
  by_cases h : a = 0 <;> simp [h]
section
variable {w0 : World} {S : Own} {res : SV}
theorem pr_in (l : List Nat) (p n : Nat) (hn : n ≤ 80) (hp : p < 1000) (hl : l.length < n) (h0 : ∀ q ∈ l, q ≠ 0)
    (hk : Hold Tryz.prog (bodyOf Tryz.f135) (Fin Tryz.prog Tryz.f135 w0 S res) w0 S stPo (sPo (primS l p) (p + 1) n)) :
    ∀ d i, l.length - i = d → i ≤ l.length → ∀ x : Bool, x = (l.take i).all (fun q => decide (p % q ≠ 0)) →
    Hold Tryz.prog (bodyOf Tryz.f135) (Fin Tryz.prog Tryz.f135 w0 S res) w0 S stPi (sPi l p n i x) := by
  intro d
  induction d using Nat.strongRecOn with
  | _ d ih =>
  intro i hd hi x hx
  have hq : i < l.length → l.getD i 0 ≠ 0 := fun h => by
    rw [List.getD_eq_getElem?_getD, List.getElem?_eq_getElem h]
    exact h0 _ (List.getElem_mem h)
  have hend : ¬ i < l.length → x = l.all (fun q => decide (p % q ≠ 0)) := fun h => by rw [hx, List.take_of_length_le (by omega)]
  have hmod : (p + 1) % 18446744073709551616 = p + 1 := Nat.mod_eq_of_lt (by omega)
  refine hold_unroll (c := _) rfl ?_
  rcases Bool.eq_false_or_eq_true (Decidable.decide (i < l.length)) with hc0 | hc0
  · have hd0 := of_decide_eq_true hc0
    rcases Bool.eq_false_or_eq_true (x) with hc1 | hc1
    · refine hold_cut mixed ctr0_ok (unroll := false) (f := 200) (sc := [true, true]) (ks := [0,3,4,5,14,15,16]) (bs := [0]) (nx := 3) (st' := [Go.Eng.It.lp [(0 : Nat), (1 : Nat), (0 : Nat), (1 : Nat), (0 : Nat), (0 : Nat), (1 : Nat), (0 : Nat), (0 : Nat), (1 : Nat), (0 : Nat), (1 : Nat), (1 : Nat)], Go.Eng.It.blk (2 : Nat), Go.Eng.It.at [(1 : Nat), (1 : Nat), (0 : Nat), (0 : Nat), (1 : Nat), (0 : Nat), (0 : Nat), (1 : Nat), (0 : Nat), (1 : Nat), (1 : Nat)], Go.Eng.It.blk (1 : Nat), Go.Eng.It.at [(1 : Nat), (1 : Nat), (0 : Nat), (0 : Nat), (1 : Nat), (0 : Nat), (1 : Nat), (1 : Nat)], Go.Eng.It.lp [(0 : Nat), (1 : Nat), (0 : Nat), (1 : Nat), (1 : Nat)], Go.Eng.It.blk (0 : Nat), Go.Eng.It.at [(1 : Nat), (1 : Nat), (1 : Nat)]]) (σ' := { nt := (34 : Nat), slots := [((0 : Nat), Go.Eng.SV.u Go.IntKind.i64 n), ((3 : Nat), Go.Eng.SV.row (0 : Nat) (Go.Eng.SV.sl Go.IntKind.u64 l)), ((4 : Nat), Go.Eng.SV.u Go.IntKind.u64 p), ((5 : Nat), Go.Eng.SV.b (p % l.getD i (0 : Nat) != (0 : Nat))), ((14 : Nat), Go.Eng.SV.row (0 : Nat) (Go.Eng.SV.sl Go.IntKind.u64 l)), ((15 : Nat), Go.Eng.SV.u Go.IntKind.i64 l.length), ((16 : Nat), Go.Eng.SV.u Go.IntKind.i64 (i + (1 : Nat)))], blks := [((0 : Nat), { ty := (53 : Nat), segs := [], row := Bool.true })], next := (3 : Nat) }) (ob := [Decidable.decide (i < l.length) = Bool.true, i < l.length, x = Bool.true, l.getD i (0 : Nat) ≠ (0 : Nat), i + (1 : Nat) < (9223372036854775808 : Nat)]) (sc' := []) (by kernel_rfl) ?_ ?_
      · exact ⟨hc0, (by first | trivial | omega | assumption | (simp [slenD, SV.slen]; omega)), hc1, (by first | trivial | omega | assumption | (simp [slenD, SV.slen]; omega)), (by first | trivial | omega | assumption | (simp [slenD, SV.slen]; omega)), trivial⟩
      · first | exact Hold.weaken (ih (l.length - (i + 1)) (by omega) (i + 1) rfl (by omega) (p % l.getD i 0 != 0) (by rw [all_take (by omega), ← hx, hc1]; exact ne_dec _)) (by simp [wks, wk, wk0, lim, sPi]) | exact Hold.weaken (ih (l.length - (i + 1)) (by omega) (i + 1) rfl (by omega) false (by rw [all_take (by omega), ← hx, hc1]; rfl)) (by simp [wks, wk, wk0, lim, sPi]) | (rw [hmod]; refine hold_restrict (ks := [0,3,4]) (bs := [0]) (nx := 3) rfl ?_; have e : primS l p = l ++ [p] := (by unfold primS; rw [← hend (by omega), hc1]; rfl); rw [e] at hk; exact Hold.weaken hk (by simp [wks, wk, wk0, lim, sPo])) | (rw [hmod]; refine hold_restrict (ks := [0,3,4]) (bs := [0]) (nx := 3) rfl ?_; have e : primS l p = l := (by unfold primS; rw [← hend (by omega), hc1]; rfl); rw [e] at hk; exact Hold.weaken hk (by simp [wks, wk, wk0, lim, sPo]))
    · refine hold_cut mixed ctr0_ok (unroll := false) (f := 200) (sc := [true, false]) (ks := [0,3,4,5,14,15,16]) (bs := [0]) (nx := 3) (st' := [Go.Eng.It.lp [(0 : Nat), (1 : Nat), (0 : Nat), (1 : Nat), (0 : Nat), (0 : Nat), (1 : Nat), (0 : Nat), (0 : Nat), (1 : Nat), (0 : Nat), (1 : Nat), (1 : Nat)], Go.Eng.It.blk (2 : Nat), Go.Eng.It.at [(1 : Nat), (1 : Nat), (0 : Nat), (0 : Nat), (1 : Nat), (0 : Nat), (0 : Nat), (1 : Nat), (0 : Nat), (1 : Nat), (1 : Nat)], Go.Eng.It.blk (1 : Nat), Go.Eng.It.at [(1 : Nat), (1 : Nat), (0 : Nat), (0 : Nat), (1 : Nat), (0 : Nat), (1 : Nat), (1 : Nat)], Go.Eng.It.lp [(0 : Nat), (1 : Nat), (0 : Nat), (1 : Nat), (1 : Nat)], Go.Eng.It.blk (0 : Nat), Go.Eng.It.at [(1 : Nat), (1 : Nat), (1 : Nat)]]) (σ' := { nt := (34 : Nat), slots := [((0 : Nat), Go.Eng.SV.u Go.IntKind.i64 n), ((3 : Nat), Go.Eng.SV.row (0 : Nat) (Go.Eng.SV.sl Go.IntKind.u64 l)), ((4 : Nat), Go.Eng.SV.u Go.IntKind.u64 p), ((5 : Nat), Go.Eng.SV.cb Bool.false), ((14 : Nat), Go.Eng.SV.row (0 : Nat) (Go.Eng.SV.sl Go.IntKind.u64 l)), ((15 : Nat), Go.Eng.SV.u Go.IntKind.i64 l.length), ((16 : Nat), Go.Eng.SV.u Go.IntKind.i64 (i + (1 : Nat)))], blks := [((0 : Nat), { ty := (53 : Nat), segs := [], row := Bool.true })], next := (3 : Nat) }) (ob := [Decidable.decide (i < l.length) = Bool.true, i < l.length, x = Bool.false, i + (1 : Nat) < (9223372036854775808 : Nat)]) (sc' := []) (by kernel_rfl) ?_ ?_
      · exact ⟨hc0, (by first | trivial | omega | assumption | (simp [slenD, SV.slen]; omega)), hc1, (by first | trivial | omega | assumption | (simp [slenD, SV.slen]; omega)), trivial⟩
      · first | exact Hold.weaken (ih (l.length - (i + 1)) (by omega) (i + 1) rfl (by omega) (p % l.getD i 0 != 0) (by rw [all_take (by omega), ← hx, hc1]; exact ne_dec _)) (by simp [wks, wk, wk0, lim, sPi]) | exact Hold.weaken (ih (l.length - (i + 1)) (by omega) (i + 1) rfl (by omega) false (by rw [all_take (by omega), ← hx, hc1]; rfl)) (by simp [wks, wk, wk0, lim, sPi]) | (rw [hmod]; refine hold_restrict (ks := [0,3,4]) (bs := [0]) (nx := 3) rfl ?_; have e : primS l p = l ++ [p] := (by unfold primS; rw [← hend (by omega), hc1]; rfl); rw [e] at hk; exact Hold.weaken hk (by simp [wks, wk, wk0, lim, sPo])) | (rw [hmod]; refine hold_restrict (ks := [0,3,4]) (bs := [0]) (nx := 3) rfl ?_; have e : primS l p = l := (by unfold primS; rw [← hend (by omega), hc1]; rfl); rw [e] at hk; exact Hold.weaken hk (by simp [wks, wk, wk0, lim, sPo]))
  · have hd0 := of_decide_eq_false hc0
    rcases Bool.eq_false_or_eq_true (x) with hc1 | hc1
    · refine hold_cut mixed ctr0_ok (unroll := false) (f := 200) (sc := [false, true]) (ks := [0,3,4,5,14,15,16]) (bs := [0]) (nx := 3) (st' := [Go.Eng.It.lp [(0 : Nat), (1 : Nat), (0 : Nat), (1 : Nat), (1 : Nat)], Go.Eng.It.blk (0 : Nat), Go.Eng.It.at [(1 : Nat), (1 : Nat), (1 : Nat)]]) (σ' := { nt := (34 : Nat), slots := [((0 : Nat), Go.Eng.SV.u Go.IntKind.i64 n), ((3 : Nat), Go.Eng.SV.row (0 : Nat) (Go.Eng.SV.sl Go.IntKind.u64 (l ++ [p]))), ((4 : Nat), Go.Eng.SV.u Go.IntKind.u64 ((p + (1 : Nat)) % (18446744073709551616 : Nat))), ((5 : Nat), Go.Eng.SV.b x), ((14 : Nat), Go.Eng.SV.sl Go.IntKind.u64 l), ((15 : Nat), Go.Eng.SV.u Go.IntKind.i64 l.length), ((16 : Nat), Go.Eng.SV.u Go.IntKind.i64 i)], blks := [((0 : Nat), { ty := (53 : Nat), segs := [], row := Bool.true })], next := (3 : Nat) }) (ob := [Decidable.decide (i < l.length) = Bool.false, x = Bool.true, Go.Eng.slenD (Go.Eng.SV.sl Go.IntKind.u64 (l ++ [p])) * (8 : Nat) ≤ (140737488355328 : Nat)]) (sc' := []) (by kernel_rfl) ?_ ?_
      · exact ⟨hc0, hc1, (by first | trivial | omega | assumption | (simp [slenD, SV.slen]; omega)), trivial⟩
      · first | exact Hold.weaken (ih (l.length - (i + 1)) (by omega) (i + 1) rfl (by omega) (p % l.getD i 0 != 0) (by rw [all_take (by omega), ← hx, hc1]; exact ne_dec _)) (by simp [wks, wk, wk0, lim, sPi]) | exact Hold.weaken (ih (l.length - (i + 1)) (by omega) (i + 1) rfl (by omega) false (by rw [all_take (by omega), ← hx, hc1]; rfl)) (by simp [wks, wk, wk0, lim, sPi]) | (rw [hmod]; refine hold_restrict (ks := [0,3,4]) (bs := [0]) (nx := 3) rfl ?_; have e : primS l p = l ++ [p] := (by unfold primS; rw [← hend (by omega), hc1]; rfl); rw [e] at hk; exact Hold.weaken hk (by simp [wks, wk, wk0, lim, sPo])) | (rw [hmod]; refine hold_restrict (ks := [0,3,4]) (bs := [0]) (nx := 3) rfl ?_; have e : primS l p = l := (by unfold primS; rw [← hend (by omega), hc1]; rfl); rw [e] at hk; exact Hold.weaken hk (by simp [wks, wk, wk0, lim, sPo]))
    · refine hold_cut mixed ctr0_ok (unroll := false) (f := 200) (sc := [false, false]) (ks := [0,3,4,5,14,15,16]) (bs := [0]) (nx := 3) (st' := [Go.Eng.It.lp [(0 : Nat), (1 : Nat), (0 : Nat), (1 : Nat), (1 : Nat)], Go.Eng.It.blk (0 : Nat), Go.Eng.It.at [(1 : Nat), (1 : Nat), (1 : Nat)]]) (σ' := { nt := (34 : Nat), slots := [((0 : Nat), Go.Eng.SV.u Go.IntKind.i64 n), ((3 : Nat), Go.Eng.SV.row (0 : Nat) (Go.Eng.SV.sl Go.IntKind.u64 l)), ((4 : Nat), Go.Eng.SV.u Go.IntKind.u64 ((p + (1 : Nat)) % (18446744073709551616 : Nat))), ((5 : Nat), Go.Eng.SV.b x), ((14 : Nat), Go.Eng.SV.row (0 : Nat) (Go.Eng.SV.sl Go.IntKind.u64 l)), ((15 : Nat), Go.Eng.SV.u Go.IntKind.i64 l.length), ((16 : Nat), Go.Eng.SV.u Go.IntKind.i64 i)], blks := [((0 : Nat), { ty := (53 : Nat), segs := [], row := Bool.true })], next := (3 : Nat) }) (ob := [Decidable.decide (i < l.length) = Bool.false, x = Bool.false]) (sc' := []) (by kernel_rfl) ?_ ?_
      · exact ⟨hc0, hc1, trivial⟩
      · first | exact Hold.weaken (ih (l.length - (i + 1)) (by omega) (i + 1) rfl (by omega) (p % l.getD i 0 != 0) (by rw [all_take (by omega), ← hx, hc1]; exact ne_dec _)) (by simp [wks, wk, wk0, lim, sPi]) | exact Hold.weaken (ih (l.length - (i + 1)) (by omega) (i + 1) rfl (by omega) false (by rw [all_take (by omega), ← hx, hc1]; rfl)) (by simp [wks, wk, wk0, lim, sPi]) | (rw [hmod]; refine hold_restrict (ks := [0,3,4]) (bs := [0]) (nx := 3) rfl ?_; have e : primS l p = l ++ [p] := (by unfold primS; rw [← hend (by omega), hc1]; rfl); rw [e] at hk; exact Hold.weaken hk (by simp [wks, wk, wk0, lim, sPo])) | (rw [hmod]; refine hold_restrict (ks := [0,3,4]) (bs := [0]) (nx := 3) rfl ?_; have e : primS l p = l := (by unfold primS; rw [← hend (by omega), hc1]; rfl); rw [e] at hk; exact Hold.weaken hk (by simp [wks, wk, wk0, lim, sPo]))
theorem pr_out : ∀ f (l : List Nat) (p n : Nat), n ≤ 80 → p + f < 600 → 1 ≤ p → (∀ q ∈ l, q ≠ 0) → n ≤ (prim f n l p).length → res = .sl .u64 (prim f n l p) →
    Hold Tryz.prog (bodyOf Tryz.f135) (Fin Tryz.prog Tryz.f135 w0 S res) w0 S stPo (sPo l p n) := by
  intro f
  induction f with
  | zero =>
    intro l p n hn hp hp1 h0 hlen hr
    simp only [prim] at hlen hr
    refine hold_unroll (c := _) rfl ?_
    rcases Bool.eq_false_or_eq_true (Decidable.decide (l.length < n)) with hc0 | hc0
    · have hd0 := of_decide_eq_true hc0
      refine hold_cut mixed ctr0_ok (unroll := false) (f := 200) (sc := [true]) (ks := [0,3,4,5,14,15,16]) (bs := [0]) (nx := 3) (st' := [Go.Eng.It.lp [(0 : Nat), (1 : Nat), (0 : Nat), (1 : Nat), (0 : Nat), (0 : Nat), (1 : Nat), (0 : Nat), (0 : Nat), (1 : Nat), (0 : Nat), (1 : Nat), (1 : Nat)], Go.Eng.It.blk (2 : Nat), Go.Eng.It.at [(1 : Nat), (1 : Nat), (0 : Nat), (0 : Nat), (1 : Nat), (0 : Nat), (0 : Nat), (1 : Nat), (0 : Nat), (1 : Nat), (1 : Nat)], Go.Eng.It.blk (1 : Nat), Go.Eng.It.at [(1 : Nat), (1 : Nat), (0 : Nat), (0 : Nat), (1 : Nat), (0 : Nat), (1 : Nat), (1 : Nat)], Go.Eng.It.lp [(0 : Nat), (1 : Nat), (0 : Nat), (1 : Nat), (1 : Nat)], Go.Eng.It.blk (0 : Nat), Go.Eng.It.at [(1 : Nat), (1 : Nat), (1 : Nat)]]) (σ' := { nt := (34 : Nat), slots := [((0 : Nat), Go.Eng.SV.u Go.IntKind.i64 n), ((3 : Nat), Go.Eng.SV.row (0 : Nat) (Go.Eng.SV.sl Go.IntKind.u64 l)), ((4 : Nat), Go.Eng.SV.u Go.IntKind.u64 p), ((5 : Nat), Go.Eng.SV.cb Bool.true), ((14 : Nat), Go.Eng.SV.row (0 : Nat) (Go.Eng.SV.sl Go.IntKind.u64 l)), ((15 : Nat), Go.Eng.SV.u Go.IntKind.i64 l.length), ((16 : Nat), Go.Eng.SV.c Go.IntKind.i64 (0 : Int))], blks := [((0 : Nat), { ty := (53 : Nat), segs := [], row := Bool.true })], next := (3 : Nat) }) (ob := [Decidable.decide (l.length < n) = Bool.true]) (sc' := []) (by kernel_rfl) ?_ ?_
      · exact ⟨hc0, trivial⟩
      · exact absurd hlen (by omega)
    · have hd0 := of_decide_eq_false hc0
      refine hold_endw mixed ctr0_ok (unroll := false) (f := 200) (sc := [false]) (r := (Go.Eng.SV.sl Go.IntKind.u64 l)) (ob := [Decidable.decide (l.length < n) = Bool.false]) (sc' := []) (by kernel_rfl) ?_ ?_
      · exact ⟨hc0, trivial⟩
      · (subst hr; simp [wkR, wk, wk0])
  | succ f ih =>
    intro l p n hn hp hp1 h0 hlen hr
    simp only [prim] at hlen hr
    have hk : l.length < n → Hold Tryz.prog (bodyOf Tryz.f135) (Fin Tryz.prog Tryz.f135 w0 S res) w0 S stPo (sPo (primS l p) (p + 1) n) := fun h => by
      rw [if_pos h] at hlen hr
      exact ih (primS l p) (p + 1) n hn (by omega) (by omega) (primS_pos (by omega) h0) hlen hr
    refine hold_unroll (c := _) rfl ?_
    rcases Bool.eq_false_or_eq_true (Decidable.decide (l.length < n)) with hc0 | hc0
    · have hd0 := of_decide_eq_true hc0
      refine hold_cut mixed ctr0_ok (unroll := false) (f := 200) (sc := [true]) (ks := [0,3,4,5,14,15,16]) (bs := [0]) (nx := 3) (st' := [Go.Eng.It.lp [(0 : Nat), (1 : Nat), (0 : Nat), (1 : Nat), (0 : Nat), (0 : Nat), (1 : Nat), (0 : Nat), (0 : Nat), (1 : Nat), (0 : Nat), (1 : Nat), (1 : Nat)], Go.Eng.It.blk (2 : Nat), Go.Eng.It.at [(1 : Nat), (1 : Nat), (0 : Nat), (0 : Nat), (1 : Nat), (0 : Nat), (0 : Nat), (1 : Nat), (0 : Nat), (1 : Nat), (1 : Nat)], Go.Eng.It.blk (1 : Nat), Go.Eng.It.at [(1 : Nat), (1 : Nat), (0 : Nat), (0 : Nat), (1 : Nat), (0 : Nat), (1 : Nat), (1 : Nat)], Go.Eng.It.lp [(0 : Nat), (1 : Nat), (0 : Nat), (1 : Nat), (1 : Nat)], Go.Eng.It.blk (0 : Nat), Go.Eng.It.at [(1 : Nat), (1 : Nat), (1 : Nat)]]) (σ' := { nt := (34 : Nat), slots := [((0 : Nat), Go.Eng.SV.u Go.IntKind.i64 n), ((3 : Nat), Go.Eng.SV.row (0 : Nat) (Go.Eng.SV.sl Go.IntKind.u64 l)), ((4 : Nat), Go.Eng.SV.u Go.IntKind.u64 p), ((5 : Nat), Go.Eng.SV.cb Bool.true), ((14 : Nat), Go.Eng.SV.row (0 : Nat) (Go.Eng.SV.sl Go.IntKind.u64 l)), ((15 : Nat), Go.Eng.SV.u Go.IntKind.i64 l.length), ((16 : Nat), Go.Eng.SV.c Go.IntKind.i64 (0 : Int))], blks := [((0 : Nat), { ty := (53 : Nat), segs := [], row := Bool.true })], next := (3 : Nat) }) (ob := [Decidable.decide (l.length < n) = Bool.true]) (sc' := []) (by kernel_rfl) ?_ ?_
      · exact ⟨hc0, trivial⟩
      · exact Hold.weaken (pr_in l p n hn (by omega) (by omega) h0 (hk (by omega)) _ 0 rfl (Nat.zero_le _) true rfl) (by simp [wks, wk, wk0, lim, sPi])
    · have hd0 := of_decide_eq_false hc0
      refine hold_endw mixed ctr0_ok (unroll := false) (f := 200) (sc := [false]) (r := (Go.Eng.SV.sl Go.IntKind.u64 l)) (ob := [Decidable.decide (l.length < n) = Bool.false]) (sc' := []) (by kernel_rfl) ?_ ?_
      · exact ⟨hc0, trivial⟩
      · (rw [if_neg (by omega)] at hr; subst hr; simp [wkR, wk, wk0])
theorem primes_c (n : Nat) (hn : n ≤ 80) (hlen : n ≤ (primN n).length) : Contract Tryz.prog 135 [.u .i64 n] (.sl .u64 (primN n)) := by
  refine contract Tryz.func135 (body := bodyOf Tryz.f135) rfl (by kernel_rfl) (by kernel_rfl) rfl ?_
  rintro ⟨_, _⟩ w0 S
  refine hold_cut mixed ctr0_ok (unroll := false) (f := 100) (sc := []) (ks := [0,3,4]) (bs := []) (nx := 0) (st' := [Go.Eng.It.lp [(0 : Nat), (1 : Nat), (0 : Nat), (1 : Nat), (1 : Nat)], Go.Eng.It.blk (0 : Nat), Go.Eng.It.at [(1 : Nat), (1 : Nat), (1 : Nat)]]) (σ' := { nt := (34 : Nat), slots := [((0 : Nat), Go.Eng.SV.u Go.IntKind.i64 n), ((3 : Nat), Go.Eng.SV.nil), ((4 : Nat), Go.Eng.SV.c Go.IntKind.u64 (2 : Int))], blks := [], next := (0 : Nat) }) (ob := []) (sc' := []) (by kernel_rfl) trivial ?_
  refine hold_nil (t := 3) (e := 53) (s0 := .sl .u64 []) rfl ?_
  refine hold_restrict (ks := [0,3,4]) (bs := [0]) (nx := 3) rfl ?_
  exact Hold.weaken (pr_out 500 [] 2 n hn (by omega) (by omega) nofun hlen rfl) (by simp [wks, wk, wk0, lim, sPo])
theorem prim64 : primN 64 = pL.take 64 := by kernel_rfl
theorem prim80 : primN 80 = pL := by kernel_rfl
end
end Go.Eng.B

namespace Go.Eng.B
open Go Go.Eng Go.Proofs
set_option maxRecDepth 100000
theorem x3_2 : frT 2 3 4794697086780616226 = true := by kernel_rfl
theorem x3_3 : frT 3 3 8158064640168781261 = true := by kernel_rfl
theorem x3_5 : frT 5 3 13096744586834688815 = true := by kernel_rfl
theorem x3_7 : frT 7 3 16840607885511220156 = true := by kernel_rfl
theorem x3_11 : frT 11 3 4131703408338449720 = true := by kernel_rfl
theorem x3_13 : frT 13 3 6480981068601479193 = true := by kernel_rfl
theorem x3_17 : frT 17 3 10538285296894168987 = true := by kernel_rfl
theorem x3_19 : frT 19 3 12329834152419229976 = true := by kernel_rfl
theorem x3_23 : frT 23 3 15566598209576043074 = true := by kernel_rfl
theorem x3_29 : frT 29 3 1334009975649890238 = true := by kernel_rfl
theorem x3_31 : frT 31 3 2608012711638119052 = true := by kernel_rfl
theorem x3_37 : frT 37 3 6128411473006802146 = true := by kernel_rfl
theorem x3_41 : frT 41 3 8268148722764581231 = true := by kernel_rfl
theorem x3_43 : frT 43 3 9286055187155687089 = true := by kernel_rfl
theorem x3_47 : frT 47 3 11230858885718282805 = true := by kernel_rfl
theorem x3_53 : frT 53 3 13951009754708518548 = true := by kernel_rfl
theorem x3_59 : frT 59 3 16472876342353939154 = true := by kernel_rfl
theorem x3_61 : frT 61 3 17275323862435702243 = true := by kernel_rfl
theorem x3_67 : frT 67 3 1135362057144423861 = true := by kernel_rfl
theorem x3_71 : frT 71 3 2597628984639134821 = true := by kernel_rfl
theorem x2_2 : frT 2 2 7640891576956012808 = true := by kernel_rfl
theorem x2_3 : frT 3 2 13503953896175478587 = true := by kernel_rfl
def t3a : List (Nat × Nat) := [(2, 4794697086780616226), (3, 8158064640168781261), (5, 13096744586834688815), (7, 16840607885511220156), (11, 4131703408338449720), (13, 6480981068601479193), (17, 10538285296894168987), (19, 12329834152419229976), (23, 15566598209576043074), (29, 1334009975649890238), (31, 2608012711638119052), (37, 6128411473006802146), (41, 8268148722764581231), (43, 9286055187155687089), (47, 11230858885718282805), (53, 13951009754708518548), (59, 16472876342353939154), (61, 17275323862435702243), (67, 1135362057144423861), (71, 2597628984639134821)]
theorem t3a_ok : ∀ q ∈ t3a, frT q.1 3 q.2 = true := by
  unfold t3a
  simp only [List.forall_mem_cons]
  exact ⟨x3_2, x3_3, x3_5, x3_7, x3_11, x3_13, x3_17, x3_19, x3_23, x3_29, x3_31, x3_37, x3_41, x3_43, x3_47, x3_53, x3_59, x3_61, x3_67, x3_71, nofun⟩
def t2a : List (Nat × Nat) := [(2, 7640891576956012808), (3, 13503953896175478587)]
theorem t2a_ok : ∀ q ∈ t2a, frT q.1 2 q.2 = true := by
  unfold t2a
  simp only [List.forall_mem_cons]
  exact ⟨x2_2, x2_3, nofun⟩
end Go.Eng.B

namespace Go.Eng.B
open Go Go.Eng Go.Proofs
set_option maxRecDepth 100000
theorem x3_73 : frT 73 3 3308224258029322869 = true := by kernel_rfl
theorem x3_79 : frT 79 3 5365058923640841347 = true := by kernel_rfl
theorem x3_83 : frT 83 3 6679025012923562964 = true := by kernel_rfl
theorem x3_89 : frT 89 3 8573033837759648693 = true := by kernel_rfl
theorem x3_97 : frT 97 3 10970295158949994411 = true := by kernel_rfl
theorem x3_101 : frT 101 3 12119686244451234320 = true := by kernel_rfl
theorem x3_103 : frT 103 3 12683024718118986047 = true := by kernel_rfl
theorem x3_107 : frT 107 3 13788192230050041572 = true := by kernel_rfl
theorem x3_109 : frT 109 3 14330467153632333762 = true := by kernel_rfl
theorem x3_113 : frT 113 3 15395433587784984357 = true := by kernel_rfl
theorem x3_127 : frT 127 3 489312712824947311 = true := by kernel_rfl
theorem x3_131 : frT 131 3 1452737877330783856 = true := by kernel_rfl
theorem x3_137 : frT 137 3 2861767655752347644 = true := by kernel_rfl
theorem x3_139 : frT 139 3 3322285676063803686 = true := by kernel_rfl
theorem x3_149 : frT 149 3 5560940570517711597 = true := by kernel_rfl
theorem x3_151 : frT 151 3 5996557281743188959 = true := by kernel_rfl
theorem x3_157 : frT 157 3 7280758554555802590 = true := by kernel_rfl
theorem x3_163 : frT 163 3 8532644243296465576 = true := by kernel_rfl
theorem x3_167 : frT 167 3 9350256976987008742 = true := by kernel_rfl
theorem x3_173 : frT 173 3 10552545826968843579 = true := by kernel_rfl
theorem x2_5 : frT 5 2 4354685564936845355 = true := by kernel_rfl
theorem x2_7 : frT 7 2 11912009170470909681 = true := by kernel_rfl
def t3b : List (Nat × Nat) := [(73, 3308224258029322869), (79, 5365058923640841347), (83, 6679025012923562964), (89, 8573033837759648693), (97, 10970295158949994411), (101, 12119686244451234320), (103, 12683024718118986047), (107, 13788192230050041572), (109, 14330467153632333762), (113, 15395433587784984357), (127, 489312712824947311), (131, 1452737877330783856), (137, 2861767655752347644), (139, 3322285676063803686), (149, 5560940570517711597), (151, 5996557281743188959), (157, 7280758554555802590), (163, 8532644243296465576), (167, 9350256976987008742), (173, 10552545826968843579)]
theorem t3b_ok : ∀ q ∈ t3b, frT q.1 3 q.2 = true := by
  unfold t3b
  simp only [List.forall_mem_cons]
  exact ⟨x3_73, x3_79, x3_83, x3_89, x3_97, x3_101, x3_103, x3_107, x3_109, x3_113, x3_127, x3_131, x3_137, x3_139, x3_149, x3_151, x3_157, x3_163, x3_167, x3_173, nofun⟩
def t2b : List (Nat × Nat) := [(5, 4354685564936845355), (7, 11912009170470909681)]
theorem t2b_ok : ∀ q ∈ t2b, frT q.1 2 q.2 = true := by
  unfold t2b
  simp only [List.forall_mem_cons]
  exact ⟨x2_5, x2_7, nofun⟩
end Go.Eng.B

namespace Go.Eng.B
open Go Go.Eng Go.Proofs
set_option maxRecDepth 100000
theorem x3_179 : frT 179 3 11727347734174303076 = true := by kernel_rfl
theorem x3_181 : frT 181 3 12113106623233404929 = true := by kernel_rfl
theorem x3_191 : frT 191 3 14000437183269869457 = true := by kernel_rfl
theorem x3_193 : frT 193 3 14369950271660146224 = true := by kernel_rfl
theorem x3_197 : frT 197 3 15101387698204529176 = true := by kernel_rfl
theorem x3_199 : frT 199 3 15463397548674623760 = true := by kernel_rfl
theorem x3_211 : frT 211 3 17586052441742319658 = true := by kernel_rfl
theorem x3_223 : frT 223 3 1182934255886127544 = true := by kernel_rfl
theorem x3_227 : frT 227 3 1847814050463011016 = true := by kernel_rfl
theorem x3_229 : frT 229 3 2177327727835720531 = true := by kernel_rfl
theorem x3_233 : frT 233 3 2830643537854262169 = true := by kernel_rfl
theorem x3_239 : frT 239 3 3796741975233480872 = true := by kernel_rfl
theorem x3_241 : frT 241 3 4115178125766777443 = true := by kernel_rfl
theorem x3_251 : frT 251 3 5681478168544905931 = true := by kernel_rfl
theorem x3_257 : frT 257 3 6601373596472566643 = true := by kernel_rfl
theorem x3_263 : frT 263 3 7507060721942968483 = true := by kernel_rfl
theorem x3_269 : frT 269 3 8399075790359081724 = true := by kernel_rfl
theorem x3_271 : frT 271 3 8693463985226723168 = true := by kernel_rfl
theorem x3_277 : frT 277 3 9568029438360202098 = true := by kernel_rfl
theorem x3_281 : frT 281 3 10144078919501101548 = true := by kernel_rfl
theorem x2_11 : frT 11 2 5840696475078001361 = true := by kernel_rfl
theorem x2_13 : frT 13 2 11170449401992604703 = true := by kernel_rfl
def t3c : List (Nat × Nat) := [(179, 11727347734174303076), (181, 12113106623233404929), (191, 14000437183269869457), (193, 14369950271660146224), (197, 15101387698204529176), (199, 15463397548674623760), (211, 17586052441742319658), (223, 1182934255886127544), (227, 1847814050463011016), (229, 2177327727835720531), (233, 2830643537854262169), (239, 3796741975233480872), (241, 4115178125766777443), (251, 5681478168544905931), (257, 6601373596472566643), (263, 7507060721942968483), (269, 8399075790359081724), (271, 8693463985226723168), (277, 9568029438360202098), (281, 10144078919501101548)]
theorem t3c_ok : ∀ q ∈ t3c, frT q.1 3 q.2 = true := by
  unfold t3c
  simp only [List.forall_mem_cons]
  exact ⟨x3_179, x3_181, x3_191, x3_193, x3_197, x3_199, x3_211, x3_223, x3_227, x3_229, x3_233, x3_239, x3_241, x3_251, x3_257, x3_263, x3_269, x3_271, x3_277, x3_281, nofun⟩
def t2c : List (Nat × Nat) := [(11, 5840696475078001361), (13, 11170449401992604703)]
theorem t2c_ok : ∀ q ∈ t2c, frT q.1 2 q.2 = true := by
  unfold t2c
  simp only [List.forall_mem_cons]
  exact ⟨x2_11, x2_13, nofun⟩
end Go.Eng.B

namespace Go.Eng.B
open Go Go.Eng Go.Proofs
set_option maxRecDepth 100000
theorem x3_283 : frT 283 3 10430055236837252648 = true := by kernel_rfl
theorem x3_293 : frT 293 3 11840083180663258601 = true := by kernel_rfl
theorem x3_307 : frT 307 3 13761210420658862357 = true := by kernel_rfl
theorem x3_311 : frT 311 3 14299343276471374635 = true := by kernel_rfl
theorem x3_313 : frT 313 3 14566680578165727644 = true := by kernel_rfl
theorem x3_317 : frT 317 3 15097957966210449927 = true := by kernel_rfl
theorem x3_331 : frT 331 3 16922976911328602910 = true := by kernel_rfl
theorem x3_337 : frT 337 3 17689382322260857208 = true := by kernel_rfl
theorem x3_347 : frT 347 3 500013540394364858 = true := by kernel_rfl
theorem x3_349 : frT 349 3 748580250866718886 = true := by kernel_rfl
theorem x3_353 : frT 353 3 1242879168328830382 = true := by kernel_rfl
theorem x3_359 : frT 359 3 1977374033974150939 = true := by kernel_rfl
theorem x3_367 : frT 367 3 2944078676154940804 = true := by kernel_rfl
theorem x3_373 : frT 373 3 3659926193048069267 = true := by kernel_rfl
theorem x3_379 : frT 379 3 4368137639120453308 = true := by kernel_rfl
theorem x3_383 : frT 383 3 4836135668995329356 = true := by kernel_rfl
theorem x3_389 : frT 389 3 5532061633213252278 = true := by kernel_rfl
theorem x3_397 : frT 397 3 6448918945643986474 = true := by kernel_rfl
theorem x3_401 : frT 401 3 6902733635092675308 = true := by kernel_rfl
theorem x3_409 : frT 409 3 7801388544844847127 = true := by kernel_rfl
theorem x2_17 : frT 17 2 2270897969802886507 = true := by kernel_rfl
theorem x2_19 : frT 19 2 6620516959819538809 = true := by kernel_rfl
def t3d : List (Nat × Nat) := [(283, 10430055236837252648), (293, 11840083180663258601), (307, 13761210420658862357), (311, 14299343276471374635), (313, 14566680578165727644), (317, 15097957966210449927), (331, 16922976911328602910), (337, 17689382322260857208), (347, 500013540394364858), (349, 748580250866718886), (353, 1242879168328830382), (359, 1977374033974150939), (367, 2944078676154940804), (373, 3659926193048069267), (379, 4368137639120453308), (383, 4836135668995329356), (389, 5532061633213252278), (397, 6448918945643986474), (401, 6902733635092675308), (409, 7801388544844847127)]
theorem t3d_ok : ∀ q ∈ t3d, frT q.1 3 q.2 = true := by
  unfold t3d
  simp only [List.forall_mem_cons]
  exact ⟨x3_283, x3_293, x3_307, x3_311, x3_313, x3_317, x3_331, x3_337, x3_347, x3_349, x3_353, x3_359, x3_367, x3_373, x3_379, x3_383, x3_389, x3_397, x3_401, x3_409, nofun⟩
def t2d : List (Nat × Nat) := [(17, 2270897969802886507), (19, 6620516959819538809)]
theorem t2d_ok : ∀ q ∈ t2d, frT q.1 2 q.2 = true := by
  unfold t2d
  simp only [List.forall_mem_cons]
  exact ⟨x2_17, x2_19, nofun⟩
end Go.Eng.B

namespace Go.Eng.B
open Go Go.Eng Go.Proofs
set_option maxRecDepth 100000
set_option linter.unusedSimpArgs false
def kL : List Nat := [4794697086780616226, 8158064640168781261, 13096744586834688815, 16840607885511220156, 4131703408338449720, 6480981068601479193, 10538285296894168987, 12329834152419229976, 15566598209576043074, 1334009975649890238, 2608012711638119052, 6128411473006802146, 8268148722764581231, 9286055187155687089, 11230858885718282805, 13951009754708518548, 16472876342353939154, 17275323862435702243, 1135362057144423861, 2597628984639134821, 3308224258029322869, 5365058923640841347, 6679025012923562964, 8573033837759648693, 10970295158949994411, 12119686244451234320, 12683024718118986047, 13788192230050041572, 14330467153632333762, 15395433587784984357, 489312712824947311, 1452737877330783856, 2861767655752347644, 3322285676063803686, 5560940570517711597, 5996557281743188959, 7280758554555802590, 8532644243296465576, 9350256976987008742, 10552545826968843579, 11727347734174303076, 12113106623233404929, 14000437183269869457, 14369950271660146224, 15101387698204529176, 15463397548674623760, 17586052441742319658, 1182934255886127544, 1847814050463011016, 2177327727835720531, 2830643537854262169, 3796741975233480872, 4115178125766777443, 5681478168544905931, 6601373596472566643, 7507060721942968483, 8399075790359081724, 8693463985226723168, 9568029438360202098, 10144078919501101548, 10430055236837252648, 11840083180663258601, 13761210420658862357, 14299343276471374635, 14566680578165727644, 15097957966210449927, 16922976911328602910, 17689382322260857208, 500013540394364858, 748580250866718886, 1242879168328830382, 1977374033974150939, 2944078676154940804, 3659926193048069267, 4368137639120453308, 4836135668995329356, 5532061633213252278, 6448918945643986474, 6902733635092675308, 7801388544844847127]
def hL : List Nat := [7640891576956012808, 13503953896175478587, 4354685564936845355, 11912009170470909681, 5840696475078001361, 11170449401992604703, 2270897969802886507, 6620516959819538809]
def lk : List Nat → List Nat → Nat → Option Nat
  | p :: ps, r :: rs, x => if Nat.beq p x then some r else lk ps rs x
  | _, _, _ => none
def tabN (n : Nat) : List Nat := if Nat.beq n 3 then kL else if Nat.beq n 2 then hL else []
def eFrac (args : List SV) : Option (SV × List Prop) :=
  match args with
  | [x, y] => match x.nat?, y.nat? with
    | some (.u64, p), some (.i64, n) => match lk pL (tabN n) p with
      | some r => some (.u .u64 r, [])
      | none => none
    | _, _ => none
  | _ => none
def rt (n p : Nat) : Nat := (lk pL (tabN n) p).getD 0
def eFrac2 (args : List SV) : Option (SV × List Prop) :=
  match args with
  | [x, y] => match x.nat?, y.nat? with
    | some (.u64, p), some (.i64, n) => some (.u .u64 (rt n p), [(lk pL (tabN n) p).isSome = true])
    | _, _ => none
  | _ => none
theorem lk_mem : ∀ {ps rs : List Nat} {x r : Nat}, lk ps rs x = some r → (x, r) ∈ ps.zip rs := by
  intro ps
  induction ps with
  | nil => intro rs x r h; cases rs <;> simp [lk] at h
  | cons p ps ih =>
    intro rs x r h
    cases rs with
    | nil => simp [lk] at h
    | cons q rs =>
      simp only [lk] at h
      split at h
      · rename_i e
        cases h
        rw [Nat.eq_of_beq_eq_true e]
        simp
      · simp only [List.zip_cons_cons]
        exact List.mem_cons_of_mem _ (ih h)
theorem zip3 : pL.zip kL = t3a ++ (t3b ++ (t3c ++ t3d)) := by kernel_rfl
theorem zip2 : pL.zip hL = t2a ++ (t2b ++ (t2c ++ t2d)) := by kernel_rfl
theorem tab3_ok : ∀ q ∈ pL.zip kL, frT q.1 3 q.2 = true := by
  rw [zip3]
  intro q h
  rcases List.mem_append.1 h with h | h
  · exact t3a_ok q h
  · rcases List.mem_append.1 h with h | h
    · exact t3b_ok q h
    · rcases List.mem_append.1 h with h | h
      · exact t3c_ok q h
      · exact t3d_ok q h
theorem tab2_ok : ∀ q ∈ pL.zip hL, frT q.1 2 q.2 = true := by
  rw [zip2]
  intro q h
  rcases List.mem_append.1 h with h | h
  · exact t2a_ok q h
  · rcases List.mem_append.1 h with h | h
    · exact t2b_ok q h
    · rcases List.mem_append.1 h with h | h
      · exact t2c_ok q h
      · exact t2d_ok q h
theorem okT6 : CtrOk Tryz.prog T6 := by
  have h0 : CtrOk Tryz.prog K0 := addC_ok (addC_ok (addC_ok (addC_ok okM1a cTimes) cLess) cAddC) cSubC
  have h1 : CtrOk Tryz.prog (K1 Tryz.prog Tryz.f139 Tryz.f141 Tryz.f154 Tryz.f159) := addC_ok (addC_ok (addC_ok (addC_ok h0 (inl_ok mixed (by kernel_rfl) (by kernel_rfl) (by kernel_rfl) h0)) (inl_ok mixed (by kernel_rfl) (by kernel_rfl) (by kernel_rfl) h0)) (inl_ok mixed (by kernel_rfl) (by kernel_rfl) (by kernel_rfl) h0)) (inl_ok mixed (by kernel_rfl) (by kernel_rfl) (by kernel_rfl) h0)
  have h2 := addC_ok h1 (inl_ok (f := 155) (fn := Tryz.f155) (fuel := 50) mixed (by kernel_rfl) (by kernel_rfl) (by kernel_rfl) h1)
  have h3 := addC_ok h2 (inl_ok (f := 150) (fn := Tryz.f150) (fuel := 400) mixed (by kernel_rfl) (by kernel_rfl) (by kernel_rfl) h2)
  have h4 := addC_ok h3 (inl_ok (f := 140) (fn := Tryz.f140) (fuel := 50) mixed (by kernel_rfl) (by kernel_rfl) (by kernel_rfl) h3)
  have h5 := addC_ok (addC_ok (addC_ok (addC_ok h4 (inl_ok (f := 145) (fn := Tryz.f145) (fuel := 100) mixed (by kernel_rfl) (by kernel_rfl) (by kernel_rfl) h4)) (inl_ok (f := 147) (fn := Tryz.f147) (fuel := 100) mixed (by kernel_rfl) (by kernel_rfl) (by kernel_rfl) h4)) (inl_ok (f := 146) (fn := Tryz.f146) (fuel := 400) mixed (by kernel_rfl) (by kernel_rfl) (by kernel_rfl) h4)) (inl_ok (f := 142) (fn := Tryz.f142) (fuel := 400) mixed (by kernel_rfl) (by kernel_rfl) (by kernel_rfl) h4)
  exact addC_ok h5 (inl_ok (f := 143) (fn := Tryz.f143) (fuel := 400) mixed (by kernel_rfl) (by kernel_rfl) (by kernel_rfl) h5)
theorem frac_c {p n r : Nat} (h : frT p n r = true) : Contract Tryz.prog 136 [.c .u64 p, .c .i64 n] (.u .u64 r) := by
  have hi := inl_ok (f := 136) (fn := Tryz.f136) (fuel := 2000) mixed (by kernel_rfl) (by kernel_rfl) (by kernel_rfl) okT6 [.c .u64 p, .c .i64 n]
  unfold frT frOk at h
  split at h
  · rename_i v he
    rw [← Nat.eq_of_beq_eq_true h]
    exact hi _ _ he trivial
  · cases h
theorem frT_ok {p n r : Nat} (h : (p, r) ∈ pL.zip (tabN n)) : frT p n r = true := by
  by_cases h3 : n = 3
  · have e : tabN n = kL := by subst h3; rfl
    rw [e] at h
    subst h3
    exact tab3_ok (p, r) h
  · by_cases h2 : n = 2
    · have e : tabN n = hL := by subst h2; rfl
      rw [e] at h
      subst h2
      exact tab2_ok (p, r) h
    · have e : tabN n = [] := by
        unfold tabN
        rw [if_neg (fun h => h3 (Nat.eq_of_beq_eq_true h)), if_neg (fun h => h2 (Nat.eq_of_beq_eq_true h))]
      rw [e, List.zip_nil_right] at h
      cases h
theorem frac_lk {p n r : Nat} (h : lk pL (tabN n) p = some r) : Contract Tryz.prog 136 [.c .u64 p, .c .i64 n] (.u .u64 r) := frac_c (frT_ok (lk_mem h))
theorem cFrac : ∀ args res ob, eFrac args = some (res, ob) → All ob → Contract Tryz.prog 136 args res := by
  intro args res ob h _
  unfold eFrac at h
  split at h
  · split at h
    · rename_i x y p n hx hy
      generalize hl : lk pL (tabN n) p = o at h
      cases o with
      | none => cases h
      | some r =>
        cases h
        exact nat2_args hx hy (Contract.args (args' := [.c .u64 p, .c .i64 n]) ⟨by simp [wk, wk0], by simp [wk, wk0], rfl⟩ (frac_lk hl))
    · cases h
  · cases h
theorem cFrac2 : ∀ args res ob, eFrac2 args = some (res, ob) → All ob → Contract Tryz.prog 136 args res := by
  intro args res ob h hob
  unfold eFrac2 at h
  split at h
  · split at h
    · rename_i x y p n hx hy
      cases h
      have h1 := hob.1
      unfold rt
      generalize hl : lk pL (tabN n) p = o at h1
      cases o with
      | none => cases h1
      | some r => exact nat2_args hx hy (Contract.args (args' := [.c .u64 p, .c .i64 n]) ⟨by simp [wk, wk0], by simp [wk, wk0], rfl⟩ (frac_lk hl))
    · cases h
  · cases h
def ePrimes (args : List SV) : Option (SV × List Prop) :=
  match args with
  | [.c .i64 64] => some (.sl .u64 (pL.take 64), [])
  | [.c .i64 80] => some (.sl .u64 pL, [])
  | _ => none
def M5a : Ctr := addC 136 eFrac2 (addC 135 ePrimes M1a)
theorem cPrimes : ∀ args res ob, ePrimes args = some (res, ob) → All ob → Contract Tryz.prog 135 args res := by
  intro args res ob h _
  unfold ePrimes at h
  split at h
  · cases h
    rw [← prim64]
    exact Contract.args (args' := [.u .i64 64]) (by simp [wkl, wk, wk0, lim]) (primes_c 64 (by decide) (by rw [prim64]; decide))
  · cases h
    rw [← prim80]
    exact Contract.args (args' := [.u .i64 80]) (by simp [wkl, wk, wk0, lim]) (primes_c 80 (by decide) (by rw [prim80]; decide))
  · cases h
theorem okM5a : CtrOk Tryz.prog M5a := addC_ok (addC_ok okM1a cPrimes) cFrac2
end Go.Eng.B

namespace Go.Eng.B
open Go Go.Eng Go.Proofs
set_option maxRecDepth 100000
def hP (i : Nat) : List Nat := hL.take i ++ List.replicate (8 - i) 0
def stCo : List It := [.lp [0, 1, 0, 1], .blk 0, .at [1, 1]]
def sCo (n : Nat) (i : Nat) : St := ⟨28, [(0, .u .i64 n), (2, .row 1 (.sl .u64 (kL.take i))), (3, .ptr 0 0 (.c 0)), (7, .sl .u64 (pL.take n)), (8, .u .i64 n), (9, .u .i64 i)], [(1, ⟨53, [], true⟩), (0, ⟨117, [.arr .u64 8 (hP i)], false⟩)], 4, 0⟩
theorem co_facts : ((List.range 80).all fun i => (lk pL (tabN 3) (pL.getD i 0)).isSome && (kL.take i ++ [rt 3 (pL.getD i 0)] == kL.take (i + 1)) && (decide (8 ≤ i) || (lk pL (tabN 2) (pL.getD i 0)).isSome && ((hP i).set i (rt 2 (pL.getD i 0)) == hP (i + 1))) && (decide (i < 8) || hP (i + 1) == hP i)) = true := by kernel_rfl
theorem co_fact {i : Nat} (h : i < 80) : (lk pL (tabN 3) (pL.getD i 0)).isSome = true ∧ kL.take i ++ [rt 3 (pL.getD i 0)] = kL.take (i + 1) ∧ (i < 8 → (lk pL (tabN 2) (pL.getD i 0)).isSome = true ∧ (hP i).set i (rt 2 (pL.getD i 0)) = hP (i + 1)) ∧ (¬ i < 8 → hP (i + 1) = hP i) := by
  have := List.all_eq_true.1 co_facts i (List.mem_range.2 h)
  simp only [Bool.and_eq_true, Bool.or_eq_true, decide_eq_true_eq, beq_iff_eq] at this
  obtain ⟨⟨⟨h1, h2⟩, h3⟩, h4⟩ := this
  refine ⟨h1, h2, fun h => ?_, fun h => ?_⟩
  · rcases h3 with h3 | h3
    · omega
    · exact h3
  · rcases h4 with h4 | h4
    · omega
    · exact h4
section
variable {w0 : World} {S : Own} {res : SV}
theorem co_loop (n : Nat) (hn : n ≤ 80) (h8 : 8 ≤ n) (hr : res = .tup [.sl .u64 (kL.take n), .arr .u64 8 hL]) : ∀ d i, n - i = d → i ≤ n →
    Hold Tryz.prog (bodyOf Tryz.f125) (Fin Tryz.prog Tryz.f125 w0 S res) w0 S stCo (sCo n i) := by
  intro d
  induction d using Nat.strongRecOn with
  | _ d ih =>
  intro i hd hi
  have hg : i < n → (pL.take n).getD i 0 = pL.getD i 0 := fun h => by
    rw [List.getD_eq_getElem?_getD, List.getD_eq_getElem?_getD, List.getElem?_take_of_lt h]
  have hl : (pL.take n).length = n := by rw [List.length_take]; exact Nat.min_eq_left hn
  have hf := fun h : i < n => co_fact (i := i) (by omega)
  have hend : ¬ i < n → hP i = hL := fun h => by
    have : hP i = hL.take i ++ List.replicate (8 - i) 0 := rfl
    rw [this, List.take_of_length_le (show hL.length ≤ i by show 8 ≤ i; omega), show 8 - i = 0 by omega]
    exact List.append_nil _
  have hf1 := fun h : i < n => show (lk pL (tabN 3) ((pL.take n).getD i 0)).isSome = true by rw [hg h]; exact (hf h).1
  have hf2 := fun (h : i < n) (h8 : i < 8) => show (lk pL (tabN 2) ((pL.take n).getD i 0)).isSome = true by rw [hg h]; exact ((hf h).2.2.1 h8).1
  refine hold_unroll (c := _) rfl ?_
  rcases Bool.eq_false_or_eq_true (Decidable.decide (i < n)) with hc0 | hc0
  · have hd0 := of_decide_eq_true hc0
    rcases Bool.eq_false_or_eq_true (Decidable.decide (i < (8 : Nat))) with hc1 | hc1
    · have hd1 := of_decide_eq_true hc1
      refine hold_cut mixed okM5a (unroll := false) (f := 200) (sc := [true, true]) (ks := [0,2,3,7,8,9]) (bs := [1,0]) (nx := 4) (st' := [Go.Eng.It.lp [(0 : Nat), (1 : Nat), (0 : Nat), (1 : Nat)], Go.Eng.It.blk (0 : Nat), Go.Eng.It.at [(1 : Nat), (1 : Nat)]]) (σ' := { nt := (28 : Nat), slots := [((0 : Nat), Go.Eng.SV.u Go.IntKind.i64 n), ((2 : Nat), Go.Eng.SV.row (1 : Nat) (Go.Eng.SV.sl Go.IntKind.u64 (List.take i Go.Eng.B.kL ++ [Go.Eng.B.rt (3 : Nat) ((List.take n Go.Eng.B.pL).getD i (0 : Nat))]))), ((3 : Nat), Go.Eng.SV.ptr (0 : Nat) (0 : Nat) (Go.Eng.Ix.c (0 : Nat))), ((7 : Nat), Go.Eng.SV.sl Go.IntKind.u64 (List.take n Go.Eng.B.pL)), ((8 : Nat), Go.Eng.SV.u Go.IntKind.i64 n), ((9 : Nat), Go.Eng.SV.u Go.IntKind.i64 (i + (1 : Nat)))], blks := [((1 : Nat), { ty := (53 : Nat), segs := [], row := Bool.true }), ((0 : Nat), { ty := (117 : Nat), segs := [Go.Eng.SV.arr Go.IntKind.u64 (8 : Nat) ((hP i).set i (Go.Eng.B.rt (2 : Nat) ((List.take n Go.Eng.B.pL).getD i (0 : Nat))))] })], next := (4 : Nat) }) (ob := [Decidable.decide (i < n) = Bool.true, i < (List.take n Go.Eng.B.pL).length, (Go.Eng.B.lk Go.Eng.B.pL (Go.Eng.B.tabN (Int.toNat (3 : Int))) ((List.take n Go.Eng.B.pL).getD (Go.Eng.Ix.s i).n (0 : Nat))).isSome = Bool.true, Go.Eng.slenD (Go.Eng.SV.sl Go.IntKind.u64 (List.take i Go.Eng.B.kL ++ [Go.Eng.B.rt (3 : Nat) ((List.take n Go.Eng.B.pL).getD i (0 : Nat))])) * (8 : Nat) ≤ (140737488355328 : Nat), Decidable.decide (i < (8 : Nat)) = Bool.true, (Go.Eng.B.lk Go.Eng.B.pL (Go.Eng.B.tabN (Int.toNat (2 : Int))) ((List.take n Go.Eng.B.pL).getD (Go.Eng.Ix.s i).n (0 : Nat))).isSome = Bool.true, i < (8 : Nat), i < (8 : Nat), i + (1 : Nat) < (9223372036854775808 : Nat)]) (sc' := []) (by kernel_rfl) ?_ ?_
      · exact ⟨hc0, (by first | trivial | omega | (rw [hl]; omega) | exact hf1 (by omega) | exact hf2 (by omega) (by omega) | (simp only [slenD, SV.slen, List.length_append, List.length_take, List.length_cons, List.length_nil, Option.getD_some]; omega)), (by first | trivial | omega | (rw [hl]; omega) | exact hf1 (by omega) | exact hf2 (by omega) (by omega) | (simp only [slenD, SV.slen, List.length_append, List.length_take, List.length_cons, List.length_nil, Option.getD_some]; omega)), (by first | trivial | omega | (rw [hl]; omega) | exact hf1 (by omega) | exact hf2 (by omega) (by omega) | (simp only [slenD, SV.slen, List.length_append, List.length_take, List.length_cons, List.length_nil, Option.getD_some]; omega)), hc1, (by first | trivial | omega | (rw [hl]; omega) | exact hf1 (by omega) | exact hf2 (by omega) (by omega) | (simp only [slenD, SV.slen, List.length_append, List.length_take, List.length_cons, List.length_nil, Option.getD_some]; omega)), (by first | trivial | omega | (rw [hl]; omega) | exact hf1 (by omega) | exact hf2 (by omega) (by omega) | (simp only [slenD, SV.slen, List.length_append, List.length_take, List.length_cons, List.length_nil, Option.getD_some]; omega)), (by first | trivial | omega | (rw [hl]; omega) | exact hf1 (by omega) | exact hf2 (by omega) (by omega) | (simp only [slenD, SV.slen, List.length_append, List.length_take, List.length_cons, List.length_nil, Option.getD_some]; omega)), (by first | trivial | omega | (rw [hl]; omega) | exact hf1 (by omega) | exact hf2 (by omega) (by omega) | (simp only [slenD, SV.slen, List.length_append, List.length_take, List.length_cons, List.length_nil, Option.getD_some]; omega)), trivial⟩
      · first | (rw [hg hd0, (hf hd0).2.1, ((hf hd0).2.2.1 hd1).2]; exact ih (n - (i + 1)) (by omega) (i + 1) rfl (by omega)) | (rw [hg hd0, (hf hd0).2.1]; have e := (hf hd0).2.2.2 hd1; have h := ih (n - (i + 1)) (by omega) (i + 1) rfl (by omega); unfold sCo at h; rw [e] at h; exact h)
    · have hd1 := of_decide_eq_false hc1
      refine hold_cut mixed okM5a (unroll := false) (f := 200) (sc := [true, false]) (ks := [0,2,3,7,8,9]) (bs := [1,0]) (nx := 4) (st' := [Go.Eng.It.lp [(0 : Nat), (1 : Nat), (0 : Nat), (1 : Nat)], Go.Eng.It.blk (0 : Nat), Go.Eng.It.at [(1 : Nat), (1 : Nat)]]) (σ' := { nt := (28 : Nat), slots := [((0 : Nat), Go.Eng.SV.u Go.IntKind.i64 n), ((2 : Nat), Go.Eng.SV.row (1 : Nat) (Go.Eng.SV.sl Go.IntKind.u64 (List.take i Go.Eng.B.kL ++ [Go.Eng.B.rt (3 : Nat) ((List.take n Go.Eng.B.pL).getD i (0 : Nat))]))), ((3 : Nat), Go.Eng.SV.ptr (0 : Nat) (0 : Nat) (Go.Eng.Ix.c (0 : Nat))), ((7 : Nat), Go.Eng.SV.sl Go.IntKind.u64 (List.take n Go.Eng.B.pL)), ((8 : Nat), Go.Eng.SV.u Go.IntKind.i64 n), ((9 : Nat), Go.Eng.SV.u Go.IntKind.i64 (i + (1 : Nat)))], blks := [((1 : Nat), { ty := (53 : Nat), segs := [], row := Bool.true }), ((0 : Nat), { ty := (117 : Nat), segs := [Go.Eng.SV.arr Go.IntKind.u64 (8 : Nat) (hP i)] })], next := (4 : Nat) }) (ob := [Decidable.decide (i < n) = Bool.true, i < (List.take n Go.Eng.B.pL).length, (Go.Eng.B.lk Go.Eng.B.pL (Go.Eng.B.tabN (Int.toNat (3 : Int))) ((List.take n Go.Eng.B.pL).getD (Go.Eng.Ix.s i).n (0 : Nat))).isSome = Bool.true, Go.Eng.slenD (Go.Eng.SV.sl Go.IntKind.u64 (List.take i Go.Eng.B.kL ++ [Go.Eng.B.rt (3 : Nat) ((List.take n Go.Eng.B.pL).getD i (0 : Nat))])) * (8 : Nat) ≤ (140737488355328 : Nat), Decidable.decide (i < (8 : Nat)) = Bool.false, i + (1 : Nat) < (9223372036854775808 : Nat)]) (sc' := []) (by kernel_rfl) ?_ ?_
      · exact ⟨hc0, (by first | trivial | omega | (rw [hl]; omega) | exact hf1 (by omega) | exact hf2 (by omega) (by omega) | (simp only [slenD, SV.slen, List.length_append, List.length_take, List.length_cons, List.length_nil, Option.getD_some]; omega)), (by first | trivial | omega | (rw [hl]; omega) | exact hf1 (by omega) | exact hf2 (by omega) (by omega) | (simp only [slenD, SV.slen, List.length_append, List.length_take, List.length_cons, List.length_nil, Option.getD_some]; omega)), (by first | trivial | omega | (rw [hl]; omega) | exact hf1 (by omega) | exact hf2 (by omega) (by omega) | (simp only [slenD, SV.slen, List.length_append, List.length_take, List.length_cons, List.length_nil, Option.getD_some]; omega)), hc1, (by first | trivial | omega | (rw [hl]; omega) | exact hf1 (by omega) | exact hf2 (by omega) (by omega) | (simp only [slenD, SV.slen, List.length_append, List.length_take, List.length_cons, List.length_nil, Option.getD_some]; omega)), trivial⟩
      · first | (rw [hg hd0, (hf hd0).2.1, ((hf hd0).2.2.1 hd1).2]; exact ih (n - (i + 1)) (by omega) (i + 1) rfl (by omega)) | (rw [hg hd0, (hf hd0).2.1]; have e := (hf hd0).2.2.2 hd1; have h := ih (n - (i + 1)) (by omega) (i + 1) rfl (by omega); unfold sCo at h; rw [e] at h; exact h)
  · have hd0 := of_decide_eq_false hc0
    refine hold_endw mixed okM5a (unroll := false) (f := 200) (sc := [false]) (r := (Go.Eng.SV.tup [Go.Eng.SV.sl Go.IntKind.u64 (List.take i Go.Eng.B.kL), Go.Eng.SV.arr Go.IntKind.u64 (8 : Nat) (hP i)])) (ob := [Decidable.decide (i < n) = Bool.false]) (sc' := []) (by kernel_rfl) ?_ ?_
    · exact ⟨hc0, trivial⟩
    · (have e : i = n := (by omega); subst e; rw [hr, hend (by omega)]; exact wkR_of rfl)
theorem const_c (n : Nat) (hn : n = 64 ∨ n = 80) : Contract Tryz.prog 125 [.c .i64 n] (.tup [.sl .u64 (kL.take n), .arr .u64 8 hL]) := by
  refine contract Tryz.func125 (body := bodyOf Tryz.f125) rfl (by kernel_rfl) (by kernel_rfl) rfl ?_
  rintro ⟨_, _⟩ w0 S
  rcases hn with rfl | rfl
  · refine hold_cut mixed okM5a (unroll := false) (f := 100) (sc := []) (ks := [0,2,3,7,8,9]) (bs := [0]) (nx := 1) (st' := [Go.Eng.It.lp [(0 : Nat), (1 : Nat), (0 : Nat), (1 : Nat)], Go.Eng.It.blk (0 : Nat), Go.Eng.It.at [(1 : Nat), (1 : Nat)]]) (σ' := { nt := (28 : Nat), slots := [((0 : Nat), Go.Eng.SV.c Go.IntKind.i64 (64 : Int)), ((2 : Nat), Go.Eng.SV.nil), ((3 : Nat), Go.Eng.SV.ptr (0 : Nat) (0 : Nat) (Go.Eng.Ix.c (0 : Nat))), ((7 : Nat), Go.Eng.SV.sl Go.IntKind.u64 (List.take (64 : Nat) Go.Eng.B.pL)), ((8 : Nat), Go.Eng.SV.u Go.IntKind.i64 (64 : Nat)), ((9 : Nat), Go.Eng.SV.c Go.IntKind.i64 (0 : Int))], blks := [((0 : Nat), { ty := (117 : Nat), segs := [Go.Eng.SV.arr Go.IntKind.u64 (8 : Nat) [(0 : Nat), (0 : Nat), (0 : Nat), (0 : Nat), (0 : Nat), (0 : Nat), (0 : Nat), (0 : Nat)]] })], next := (1 : Nat) }) (ob := []) (sc' := []) (by kernel_rfl) trivial ?_
    refine hold_nil (t := 2) (e := 53) (s0 := .sl .u64 []) rfl ?_
    refine hold_restrict (ks := [0,2,3,7,8,9]) (bs := [1,0]) (nx := 4) rfl ?_
    exact Hold.weaken (co_loop 64 (by omega) (by omega) rfl _ 0 rfl (by omega)) (by simp [wks, wk, wk0, lim, sCo])
  · refine hold_cut mixed okM5a (unroll := false) (f := 100) (sc := []) (ks := [0,2,3,7,8,9]) (bs := [0]) (nx := 1) (st' := [Go.Eng.It.lp [(0 : Nat), (1 : Nat), (0 : Nat), (1 : Nat)], Go.Eng.It.blk (0 : Nat), Go.Eng.It.at [(1 : Nat), (1 : Nat)]]) (σ' := { nt := (28 : Nat), slots := [((0 : Nat), Go.Eng.SV.c Go.IntKind.i64 (80 : Int)), ((2 : Nat), Go.Eng.SV.nil), ((3 : Nat), Go.Eng.SV.ptr (0 : Nat) (0 : Nat) (Go.Eng.Ix.c (0 : Nat))), ((7 : Nat), Go.Eng.SV.sl Go.IntKind.u64 Go.Eng.B.pL), ((8 : Nat), Go.Eng.SV.u Go.IntKind.i64 (80 : Nat)), ((9 : Nat), Go.Eng.SV.c Go.IntKind.i64 (0 : Int))], blks := [((0 : Nat), { ty := (117 : Nat), segs := [Go.Eng.SV.arr Go.IntKind.u64 (8 : Nat) [(0 : Nat), (0 : Nat), (0 : Nat), (0 : Nat), (0 : Nat), (0 : Nat), (0 : Nat), (0 : Nat)]] })], next := (1 : Nat) }) (ob := []) (sc' := []) (by kernel_rfl) trivial ?_
    refine hold_nil (t := 2) (e := 53) (s0 := .sl .u64 []) rfl ?_
    refine hold_restrict (ks := [0,2,3,7,8,9]) (bs := [1,0]) (nx := 4) rfl ?_
    exact Hold.weaken (co_loop 80 (by omega) (by omega) rfl _ 0 rfl (by omega)) (by simp [wks, wk, wk0, lim, sCo]; rfl)
def eConst (args : List SV) : Option (SV × List Prop) :=
  match args with
  | [.c .i64 64] => some (.tup [.sl .u64 (kL.take 64), .arr .u64 8 hL], [])
  | [.c .i64 80] => some (.tup [.sl .u64 kL, .arr .u64 8 hL], [])
  | _ => none
theorem cConst : ∀ args res ob, eConst args = some (res, ob) → All ob → Contract Tryz.prog 125 args res := by
  intro args res ob h _
  unfold eConst at h
  split at h
  · cases h; exact const_c 64 (.inl rfl)
  · cases h; exact const_c 80 (.inr rfl)
  · cases h
end
end Go.Eng.B

namespace Go.Eng.B
open Go Go.Eng Go.Proofs
set_option maxRecDepth 100000
set_option linter.unusedSimpArgs false
def rotT (P : Program) (r64 : Func) : Ctr := addC 138 (inl P ctr0 r64 40) ctr0
def rotU (P : Program) (r64 : Func) (b d : Func) : Ctr := addC 137 (inl P (rotT P r64) b 40) (addC 130 (inl P (rotT P r64) d 40) ctr0)
noncomputable def M8a : Ctr := rotU Tryz.prog Tryz.f138 Tryz.f137 Tryz.f130
theorem okM8a : CtrOk Tryz.prog M8a := by
  have h : CtrOk Tryz.prog (rotT Tryz.prog Tryz.f138) := addC_ok ctr0_ok (inl_ok mixed (by kernel_rfl) (by kernel_rfl) (by kernel_rfl) ctr0_ok)
  exact addC_ok (addC_ok ctr0_ok (inl_ok mixed (by kernel_rfl) (by kernel_rfl) (by kernel_rfl) h)) (inl_ok mixed (by kernel_rfl) (by kernel_rfl) (by kernel_rfl) h)
def itr {α : Type} (f : α → Nat → α) (a : α) : Nat → α
  | 0 => a
  | n + 1 => f (itr f a n) n
def gd (l : List Nat) (i : Nat) : Nat := l.getD i 0
def bY : Bk := ⟨5, [], true⟩
end Go.Eng.B

namespace Go.Eng.B
open Go Go.Eng Go.Proofs
set_option maxRecDepth 100000
set_option linter.unusedSimpArgs false
theorem kref_c : Contract Tryz.prog 129 [] (.arr .u64 80 kL) := by
  refine contract Tryz.func129 (body := bodyOf Tryz.f129) rfl (by kernel_rfl) (by kernel_rfl) rfl ?_
  intro _ w0 S
  exact hold_end mixed okM8a (unroll := true) (f := 50) (sc := []) (r := (Go.Eng.SV.arr Go.IntKind.u64 (80 : Nat) [(4794697086780616226 : Nat), (8158064640168781261 : Nat), (13096744586834688815 : Nat), (16840607885511220156 : Nat), (4131703408338449720 : Nat), (6480981068601479193 : Nat), (10538285296894168987 : Nat), (12329834152419229976 : Nat), (15566598209576043074 : Nat), (1334009975649890238 : Nat), (2608012711638119052 : Nat), (6128411473006802146 : Nat), (8268148722764581231 : Nat), (9286055187155687089 : Nat), (11230858885718282805 : Nat), (13951009754708518548 : Nat), (16472876342353939154 : Nat), (17275323862435702243 : Nat), (1135362057144423861 : Nat), (2597628984639134821 : Nat), (3308224258029322869 : Nat), (5365058923640841347 : Nat), (6679025012923562964 : Nat), (8573033837759648693 : Nat), (10970295158949994411 : Nat), (12119686244451234320 : Nat), (12683024718118986047 : Nat), (13788192230050041572 : Nat), (14330467153632333762 : Nat), (15395433587784984357 : Nat), (489312712824947311 : Nat), (1452737877330783856 : Nat), (2861767655752347644 : Nat), (3322285676063803686 : Nat), (5560940570517711597 : Nat), (5996557281743188959 : Nat), (7280758554555802590 : Nat), (8532644243296465576 : Nat), (9350256976987008742 : Nat), (10552545826968843579 : Nat), (11727347734174303076 : Nat), (12113106623233404929 : Nat), (14000437183269869457 : Nat), (14369950271660146224 : Nat), (15101387698204529176 : Nat), (15463397548674623760 : Nat), (17586052441742319658 : Nat), (1182934255886127544 : Nat), (1847814050463011016 : Nat), (2177327727835720531 : Nat), (2830643537854262169 : Nat), (3796741975233480872 : Nat), (4115178125766777443 : Nat), (5681478168544905931 : Nat), (6601373596472566643 : Nat), (7507060721942968483 : Nat), (8399075790359081724 : Nat), (8693463985226723168 : Nat), (9568029438360202098 : Nat), (10144078919501101548 : Nat), (10430055236837252648 : Nat), (11840083180663258601 : Nat), (13761210420658862357 : Nat), (14299343276471374635 : Nat), (14566680578165727644 : Nat), (15097957966210449927 : Nat), (16922976911328602910 : Nat), (17689382322260857208 : Nat), (500013540394364858 : Nat), (748580250866718886 : Nat), (1242879168328830382 : Nat), (1977374033974150939 : Nat), (2944078676154940804 : Nat), (3659926193048069267 : Nat), (4368137639120453308 : Nat), (4836135668995329356 : Nat), (5532061633213252278 : Nat), (6448918945643986474 : Nat), (6902733635092675308 : Nat), (7801388544844847127 : Nat)])) (ob := []) (sc' := []) (by kernel_rfl) trivial rfl
theorem href_c : Contract Tryz.prog 106 [] (.arr .u64 8 hL) := by
  refine contract Tryz.func106 (body := bodyOf Tryz.f106) rfl (by kernel_rfl) (by kernel_rfl) rfl ?_
  intro _ w0 S
  exact hold_end mixed okM8a (unroll := true) (f := 50) (sc := []) (r := (Go.Eng.SV.arr Go.IntKind.u64 (8 : Nat) [(7640891576956012808 : Nat), (13503953896175478587 : Nat), (4354685564936845355 : Nat), (11912009170470909681 : Nat), (5840696475078001361 : Nat), (11170449401992604703 : Nat), (2270897969802886507 : Nat), (6620516959819538809 : Nat)])) (ob := []) (sc' := []) (by kernel_rfl) trivial rfl
def eNil (r : SV) (args : List SV) : Option (SV × List Prop) :=
  match args with
  | [] => some (r, [])
  | _ => none
noncomputable def M10a : Ctr := addC 106 (eNil (.arr .u64 8 hL)) (addC 129 (eNil (.arr .u64 80 kL)) M8a)
theorem eNil_ok {P : Program} {f : FuncId} {r : SV} (h : Contract P f [] r) : ∀ args res ob, eNil r args = some (res, ob) → All ob → Contract P f args res := by
  intro args res ob he _
  unfold eNil at he
  split at he
  · cases he; exact h
  · cases he
theorem okM10a : CtrOk Tryz.prog M10a := addC_ok (addC_ok okM8a (eNil_ok kref_c)) (eNil_ok href_c)
end Go.Eng.B

namespace Go.Eng.B
open Go Go.Eng Go.Proofs
set_option maxRecDepth 100000
set_option linter.unusedSimpArgs false
def pdM (b : List Nat) (j : Nat) : List Nat := b ++ [128] ++ List.replicate j 0
def zP (B L n : Nat) : Nat := (B - (n + 1 + L) % B) % B
def beL (x : Nat) (m : List Nat) : List Nat := m ++ [x / 72057594037927936 % 256] ++ [x / 281474976710656 % 256] ++ [x / 1099511627776 % 256] ++ [x / 4294967296 % 256] ++ [x / 16777216 % 256] ++ [x / 65536 % 256] ++ [x / 256 % 256] ++ [x / 1 % 256]
def pd (B L : Nat) (b : List Nat) : List Nat := beL (b.length * 8 % 18446744073709551616) (pdM b (zP B L b.length + (L - 8)))
def stPd : List It := [.lp [0, 0, 1, 1], .blk 0, .at [1, 1, 1]]
def sPd (B L : Int) (b : List Nat) (j : Nat) : St := ⟨64, [(0, .sl .u8 b), (1, .c .i64 B), (2, .c .i64 L), (7, .row 0 (.sl .u8 (pdM b j)))], [(0, ⟨5, [], true⟩)], 3, 0⟩
def sPr (B : Int) (b : List Nat) (j : Nat) : St := ⟨52, [(0, .sl .u8 b), (1, .c .i64 B), (5, .row 0 (.sl .u8 (pdM b j)))], [(0, ⟨5, [], true⟩)], 3, 0⟩
def stPq : List It := [.lp [0, 0, 1, 1, 1], .blk 2, .at [1, 1, 1, 1]]
theorem pdM_len (b : List Nat) (j : Nat) : (pdM b j).length = b.length + 1 + j := by simp [pdM]; omega
theorem pdM_app (b : List Nat) (j : Nat) : pdM b j ++ [0] = pdM b (j + 1) := by simp [pdM, List.replicate_succ']
section
variable {w0 : World} {S : Own} {res : SV}
theorem pd64_in (b : List Nat) (hb : b.length ≤ 1000000) (hr : res = .sl .u8 (pd 64 8 b)) : ∀ d j, zP 64 8 b.length - j = d → j ≤ zP 64 8 b.length →
    Hold Tryz.prog (bodyOf Tryz.f126) (Fin Tryz.prog Tryz.f126 w0 S res) w0 S stPd (sPd 64 8 b j) := by
  intro d
  induction d using Nat.strongRecOn with
  | _ d ih =>
  intro j hd hj
  have hz : zP 64 8 b.length = (64 - (b.length + 1 + 8) % 64) % 64 := rfl
  by_cases hlt : j < zP 64 8 b.length
  · have e := ih (zP 64 8 b.length - (j + 1)) (by omega) (j + 1) rfl (by omega)
    refine hold_unroll (c := _) rfl ?_
    refine hold_cut mixed ctr0_ok (unroll := false) (f := 300) (sc := [true]) (ks := [0,1,2,7]) (bs := [0]) (nx := 3) (st' := [It.lp [0, 0, 1, 1], It.blk 0, It.at [1, 1, 1]]) (σ' := { nt := 64, slots := [(0, SV.sl IntKind.u8 b), (1, SV.c IntKind.i64 (64 : Int)), (2, SV.c IntKind.i64 (8 : Int)), (7, SV.row 0 (SV.sl IntKind.u8 (pdM b j ++ [0])))], blks := [(0, { ty := 5, segs := [], row := Bool.true })], next := 3 }) (ob := [(pdM b j).length + 8 < 9223372036854775808, (((pdM b j).length + 8) % 64 != 0) = Bool.true, Go.Eng.slenD (SV.sl IntKind.u8 (pdM b j ++ [0])) * 1 ≤ 140737488355328]) (sc' := []) (by kernel_rfl) (by repeat' first | exact trivial | omega | (simp only [slenD, SV.slen, Option.getD_some, List.length_append, List.length_cons, List.length_nil, pdM_len]; omega) | (simp only [bne_iff_ne, bne_eq_false_iff_eq, List.length_append, List.length_cons, List.length_nil, pdM_len]; omega) | refine ⟨?_, ?_⟩) ?_
    unfold sPd at e
    rw [← pdM_app] at e
    exact e
  · have e : j = zP 64 8 b.length := by omega
    have hx : b.length * 8 % 18446744073709551616 = b.length * 8 := by omega
    have h61 : b.length / 2305843009213693952 % 256 = 0 := by omega
    refine hold_unroll (c := _) rfl ?_
    refine hold_end mixed ctr0_ok (unroll := true) (f := 600) (sc := [false]) (r := (SV.sl IntKind.u8 (pdM b j ++ [b.length * 8 % 18446744073709551616 / 72057594037927936 % 256] ++ [b.length * 8 % 18446744073709551616 / 281474976710656 % 256] ++ [b.length * 8 % 18446744073709551616 / 1099511627776 % 256] ++ [b.length * 8 % 18446744073709551616 / 4294967296 % 256] ++ [b.length * 8 % 18446744073709551616 / 16777216 % 256] ++ [b.length * 8 % 18446744073709551616 / 65536 % 256] ++ [b.length * 8 % 18446744073709551616 / 256 % 256] ++ [b.length * 8 % 18446744073709551616 / 1 % 256]))) (ob := [(pdM b j).length + 8 < 9223372036854775808, (((pdM b j).length + 8) % 64 != 0) = Bool.false, Go.Eng.slenD (SV.sl IntKind.u8 (pdM b j ++ [b.length * 8 % 18446744073709551616 / 72057594037927936 % 256])) * 1 ≤ 140737488355328, Go.Eng.slenD (SV.sl IntKind.u8 (pdM b j ++ [b.length * 8 % 18446744073709551616 / 72057594037927936 % 256] ++ [b.length * 8 % 18446744073709551616 / 281474976710656 % 256])) * 1 ≤ 140737488355328, Go.Eng.slenD (SV.sl IntKind.u8 (pdM b j ++ [b.length * 8 % 18446744073709551616 / 72057594037927936 % 256] ++ [b.length * 8 % 18446744073709551616 / 281474976710656 % 256] ++ [b.length * 8 % 18446744073709551616 / 1099511627776 % 256])) * 1 ≤ 140737488355328, Go.Eng.slenD (SV.sl IntKind.u8 (pdM b j ++ [b.length * 8 % 18446744073709551616 / 72057594037927936 % 256] ++ [b.length * 8 % 18446744073709551616 / 281474976710656 % 256] ++ [b.length * 8 % 18446744073709551616 / 1099511627776 % 256] ++ [b.length * 8 % 18446744073709551616 / 4294967296 % 256])) * 1 ≤ 140737488355328, Go.Eng.slenD (SV.sl IntKind.u8 (pdM b j ++ [b.length * 8 % 18446744073709551616 / 72057594037927936 % 256] ++ [b.length * 8 % 18446744073709551616 / 281474976710656 % 256] ++ [b.length * 8 % 18446744073709551616 / 1099511627776 % 256] ++ [b.length * 8 % 18446744073709551616 / 4294967296 % 256] ++ [b.length * 8 % 18446744073709551616 / 16777216 % 256])) * 1 ≤ 140737488355328, Go.Eng.slenD (SV.sl IntKind.u8 (pdM b j ++ [b.length * 8 % 18446744073709551616 / 72057594037927936 % 256] ++ [b.length * 8 % 18446744073709551616 / 281474976710656 % 256] ++ [b.length * 8 % 18446744073709551616 / 1099511627776 % 256] ++ [b.length * 8 % 18446744073709551616 / 4294967296 % 256] ++ [b.length * 8 % 18446744073709551616 / 16777216 % 256] ++ [b.length * 8 % 18446744073709551616 / 65536 % 256])) * 1 ≤ 140737488355328, Go.Eng.slenD (SV.sl IntKind.u8 (pdM b j ++ [b.length * 8 % 18446744073709551616 / 72057594037927936 % 256] ++ [b.length * 8 % 18446744073709551616 / 281474976710656 % 256] ++ [b.length * 8 % 18446744073709551616 / 1099511627776 % 256] ++ [b.length * 8 % 18446744073709551616 / 4294967296 % 256] ++ [b.length * 8 % 18446744073709551616 / 16777216 % 256] ++ [b.length * 8 % 18446744073709551616 / 65536 % 256] ++ [b.length * 8 % 18446744073709551616 / 256 % 256])) * 1 ≤ 140737488355328, Go.Eng.slenD (SV.sl IntKind.u8 (pdM b j ++ [b.length * 8 % 18446744073709551616 / 72057594037927936 % 256] ++ [b.length * 8 % 18446744073709551616 / 281474976710656 % 256] ++ [b.length * 8 % 18446744073709551616 / 1099511627776 % 256] ++ [b.length * 8 % 18446744073709551616 / 4294967296 % 256] ++ [b.length * 8 % 18446744073709551616 / 16777216 % 256] ++ [b.length * 8 % 18446744073709551616 / 65536 % 256] ++ [b.length * 8 % 18446744073709551616 / 256 % 256] ++ [b.length * 8 % 18446744073709551616 / 1 % 256])) * 1 ≤ 140737488355328]) (sc' := []) (by kernel_rfl) (by repeat' first | exact trivial | omega | (simp only [slenD, SV.slen, Option.getD_some, List.length_append, List.length_cons, List.length_nil, pdM_len]; omega) | (simp only [bne_iff_ne, bne_eq_false_iff_eq, List.length_append, List.length_cons, List.length_nil, pdM_len]; omega) | refine ⟨?_, ?_⟩) ?_
    rw [hr]
    rw [e]; rfl
theorem padded64_c (b : List Nat) (hb : b.length ≤ 1000000) : Contract Tryz.prog 126 [.sl .u8 b, .c .i64 64, .c .i64 8] (.sl .u8 (pd 64 8 b)) := by
  refine contract Tryz.func126 (body := bodyOf Tryz.f126) rfl (by kernel_rfl) (by kernel_rfl) rfl ?_
  rintro _ w0 S
  refine hold_cut mixed ctr0_ok (unroll := false) (f := 100) (sc := []) (ks := [0,1,2,7]) (bs := [0]) (nx := 3) (st' := [It.lp [0, 0, 1, 1], It.blk 0, It.at [1, 1, 1]]) (σ' := { nt := 64, slots := [(0, SV.sl IntKind.u8 b), (1, SV.c IntKind.i64 (64 : Int)), (2, SV.c IntKind.i64 (8 : Int)), (7, SV.row 0 (SV.sl IntKind.u8 (b ++ [128])))], blks := [(0, { ty := 5, segs := [], row := Bool.true })], next := 3 }) (ob := [b.length + 128 < 9223372036854775808, (0 : Int) < (↑(b.length + 128) : Int), (↑(b.length + 128) : Int) ≤ (17592186044416 : Int), Go.Eng.slenD (SV.sl IntKind.u8 b) * 1 ≤ 140737488355328, Go.Eng.slenD (SV.sl IntKind.u8 (b ++ [128])) * 1 ≤ 140737488355328]) (sc' := []) (by kernel_rfl) (by repeat' first | exact trivial | omega | (simp only [slenD, SV.slen, Option.getD_some, List.length_append, List.length_cons, List.length_nil, pdM_len]; omega) | (simp only [bne_iff_ne, bne_eq_false_iff_eq, List.length_append, List.length_cons, List.length_nil, pdM_len]; omega) | refine ⟨?_, ?_⟩) ?_
  exact Hold.weaken (pd64_in b hb rfl _ 0 rfl (by omega)) (by simp [wks, wk, wk0, lim, sPd, pdM])
theorem pq64_in (b : List Nat) (hb : b.length ≤ 1000000) (hr : res = .sl .u8 (pd 64 8 b)) : ∀ d j, zP 64 8 b.length + (8 - 8) - j = d → zP 64 8 b.length ≤ j → j ≤ zP 64 8 b.length + (8 - 8) →
    Hold Tryz.prog (bodyOf Tryz.f107) (Fin Tryz.prog Tryz.f107 w0 S res) w0 S stPq (sPr 64 b j) := by
  intro d
  induction d using Nat.strongRecOn with
  | _ d ih =>
  intro j hd h2 hj
  have hz : zP 64 8 b.length = (64 - (b.length + 1 + 8) % 64) % 64 := rfl
  by_cases hlt : j < zP 64 8 b.length + (8 - 8)
  · have e := ih (zP 64 8 b.length + (8 - 8) - (j + 1)) (by omega) (j + 1) rfl (by omega) (by omega)
    refine hold_unroll (c := _) rfl ?_
    refine hold_cut mixed ctr0_ok (unroll := false) (f := 300) (sc := [true]) (ks := [0,1,5]) (bs := [0]) (nx := 3) (st' := [It.lp [0, 0, 1, 1, 1], It.blk 2, It.at [1, 1, 1, 1]]) (σ' := { nt := 52, slots := [(0, SV.sl IntKind.u8 b), (1, SV.c IntKind.i64 (64 : Int)), (5, SV.row 0 (SV.sl IntKind.u8 (pdM b j ++ [0])))], blks := [(0, { ty := 5, segs := [], row := Bool.true })], next := 3 }) (ob := [((pdM b j).length % 64 != 56) = Bool.true, Go.Eng.slenD (SV.sl IntKind.u8 (pdM b j ++ [0])) * 1 ≤ 140737488355328]) (sc' := []) (by kernel_rfl) (by repeat' first | exact trivial | omega | (simp only [slenD, SV.slen, Option.getD_some, List.length_append, List.length_cons, List.length_nil, pdM_len]; omega) | (simp only [bne_iff_ne, bne_eq_false_iff_eq, List.length_append, List.length_cons, List.length_nil, pdM_len]; omega) | refine ⟨?_, ?_⟩) ?_
    unfold sPr at e
    rw [← pdM_app] at e
    exact e
  · have e : j = zP 64 8 b.length + (8 - 8) := by omega
    refine hold_unroll (c := _) rfl ?_
    refine hold_end mixed ctr0_ok (unroll := true) (f := 600) (sc := [false]) (r := (SV.sl IntKind.u8 (pdM b j ++ [b.length * 8 % 18446744073709551616 / 72057594037927936 % 256] ++ [b.length * 8 % 18446744073709551616 / 281474976710656 % 256] ++ [b.length * 8 % 18446744073709551616 / 1099511627776 % 256] ++ [b.length * 8 % 18446744073709551616 / 4294967296 % 256] ++ [b.length * 8 % 18446744073709551616 / 16777216 % 256] ++ [b.length * 8 % 18446744073709551616 / 65536 % 256] ++ [b.length * 8 % 18446744073709551616 / 256 % 256] ++ [b.length * 8 % 18446744073709551616 / 1 % 256]))) (ob := [((pdM b j).length % 64 != 56) = Bool.false, Go.Eng.slenD (SV.sl IntKind.u8 (pdM b j ++ [b.length * 8 % 18446744073709551616 / 72057594037927936 % 256])) * 1 ≤ 140737488355328, Go.Eng.slenD (SV.sl IntKind.u8 (pdM b j ++ [b.length * 8 % 18446744073709551616 / 72057594037927936 % 256] ++ [b.length * 8 % 18446744073709551616 / 281474976710656 % 256])) * 1 ≤ 140737488355328, Go.Eng.slenD (SV.sl IntKind.u8 (pdM b j ++ [b.length * 8 % 18446744073709551616 / 72057594037927936 % 256] ++ [b.length * 8 % 18446744073709551616 / 281474976710656 % 256] ++ [b.length * 8 % 18446744073709551616 / 1099511627776 % 256])) * 1 ≤ 140737488355328, Go.Eng.slenD (SV.sl IntKind.u8 (pdM b j ++ [b.length * 8 % 18446744073709551616 / 72057594037927936 % 256] ++ [b.length * 8 % 18446744073709551616 / 281474976710656 % 256] ++ [b.length * 8 % 18446744073709551616 / 1099511627776 % 256] ++ [b.length * 8 % 18446744073709551616 / 4294967296 % 256])) * 1 ≤ 140737488355328, Go.Eng.slenD (SV.sl IntKind.u8 (pdM b j ++ [b.length * 8 % 18446744073709551616 / 72057594037927936 % 256] ++ [b.length * 8 % 18446744073709551616 / 281474976710656 % 256] ++ [b.length * 8 % 18446744073709551616 / 1099511627776 % 256] ++ [b.length * 8 % 18446744073709551616 / 4294967296 % 256] ++ [b.length * 8 % 18446744073709551616 / 16777216 % 256])) * 1 ≤ 140737488355328, Go.Eng.slenD (SV.sl IntKind.u8 (pdM b j ++ [b.length * 8 % 18446744073709551616 / 72057594037927936 % 256] ++ [b.length * 8 % 18446744073709551616 / 281474976710656 % 256] ++ [b.length * 8 % 18446744073709551616 / 1099511627776 % 256] ++ [b.length * 8 % 18446744073709551616 / 4294967296 % 256] ++ [b.length * 8 % 18446744073709551616 / 16777216 % 256] ++ [b.length * 8 % 18446744073709551616 / 65536 % 256])) * 1 ≤ 140737488355328, Go.Eng.slenD (SV.sl IntKind.u8 (pdM b j ++ [b.length * 8 % 18446744073709551616 / 72057594037927936 % 256] ++ [b.length * 8 % 18446744073709551616 / 281474976710656 % 256] ++ [b.length * 8 % 18446744073709551616 / 1099511627776 % 256] ++ [b.length * 8 % 18446744073709551616 / 4294967296 % 256] ++ [b.length * 8 % 18446744073709551616 / 16777216 % 256] ++ [b.length * 8 % 18446744073709551616 / 65536 % 256] ++ [b.length * 8 % 18446744073709551616 / 256 % 256])) * 1 ≤ 140737488355328, Go.Eng.slenD (SV.sl IntKind.u8 (pdM b j ++ [b.length * 8 % 18446744073709551616 / 72057594037927936 % 256] ++ [b.length * 8 % 18446744073709551616 / 281474976710656 % 256] ++ [b.length * 8 % 18446744073709551616 / 1099511627776 % 256] ++ [b.length * 8 % 18446744073709551616 / 4294967296 % 256] ++ [b.length * 8 % 18446744073709551616 / 16777216 % 256] ++ [b.length * 8 % 18446744073709551616 / 65536 % 256] ++ [b.length * 8 % 18446744073709551616 / 256 % 256] ++ [b.length * 8 % 18446744073709551616 / 1 % 256])) * 1 ≤ 140737488355328]) (sc' := []) (by kernel_rfl) (by repeat' first | exact trivial | omega | (simp only [slenD, SV.slen, Option.getD_some, List.length_append, List.length_cons, List.length_nil, pdM_len]; omega) | (simp only [bne_iff_ne, bne_eq_false_iff_eq, List.length_append, List.length_cons, List.length_nil, pdM_len]; omega) | refine ⟨?_, ?_⟩) ?_
    rw [hr, e]
    rfl
theorem pr64_in (b : List Nat) (hb : b.length ≤ 1000000) (hr : res = .sl .u8 (pd 64 8 b)) : ∀ d j, zP 64 8 b.length - j = d → j ≤ zP 64 8 b.length →
    Hold Tryz.prog (bodyOf Tryz.f107) (Fin Tryz.prog Tryz.f107 w0 S res) w0 S stPd (sPr 64 b j) := by
  intro d
  induction d using Nat.strongRecOn with
  | _ d ih =>
  intro j hd hj
  have hz : zP 64 8 b.length = (64 - (b.length + 1 + 8) % 64) % 64 := rfl
  by_cases hlt : j < zP 64 8 b.length
  · have e := ih (zP 64 8 b.length - (j + 1)) (by omega) (j + 1) rfl (by omega)
    refine hold_unroll (c := _) rfl ?_
    refine hold_cut mixed ctr0_ok (unroll := false) (f := 300) (sc := [true]) (ks := [0,1,5]) (bs := [0]) (nx := 3) (st' := [It.lp [0, 0, 1, 1], It.blk 0, It.at [1, 1, 1]]) (σ' := { nt := 52, slots := [(0, SV.sl IntKind.u8 b), (1, SV.c IntKind.i64 (64 : Int)), (5, SV.row 0 (SV.sl IntKind.u8 (pdM b j ++ [0])))], blks := [(0, { ty := 5, segs := [], row := Bool.true })], next := 3 }) (ob := [((pdM b j).length % 64 != 56) = Bool.true, Go.Eng.slenD (SV.sl IntKind.u8 (pdM b j ++ [0])) * 1 ≤ 140737488355328]) (sc' := []) (by kernel_rfl) (by repeat' first | exact trivial | omega | (simp only [slenD, SV.slen, Option.getD_some, List.length_append, List.length_cons, List.length_nil, pdM_len]; omega) | (simp only [bne_iff_ne, bne_eq_false_iff_eq, List.length_append, List.length_cons, List.length_nil, pdM_len]; omega) | refine ⟨?_, ?_⟩) ?_
    unfold sPr at e
    rw [← pdM_app] at e
    exact e
  · refine hold_unroll (c := _) rfl ?_
    refine hold_cut mixed ctr0_ok (unroll := false) (f := 300) (sc := [false]) (ks := [0,1,5]) (bs := [0]) (nx := 3) (st' := [It.lp [0, 0, 1, 1, 1], It.blk 2, It.at [1, 1, 1, 1]]) (σ' := { nt := 52, slots := [(0, SV.sl IntKind.u8 b), (1, SV.c IntKind.i64 (64 : Int)), (5, SV.row 0 (SV.sl IntKind.u8 (pdM b j)))], blks := [(0, { ty := 5, segs := [], row := Bool.true })], next := 3 }) (ob := [((pdM b j).length % 64 != 56) = Bool.false]) (sc' := []) (by kernel_rfl) (by repeat' first | exact trivial | omega | (simp only [slenD, SV.slen, Option.getD_some, List.length_append, List.length_cons, List.length_nil, pdM_len]; omega) | (simp only [bne_iff_ne, bne_eq_false_iff_eq, List.length_append, List.length_cons, List.length_nil, pdM_len]; omega) | refine ⟨?_, ?_⟩) ?_
    exact pq64_in b hb hr _ j rfl (by omega) (by omega)
theorem pad64_c (b : List Nat) (hb : b.length ≤ 1000000) : Contract Tryz.prog 107 [.sl .u8 b, .c .i64 64] (.sl .u8 (pd 64 8 b)) := by
  refine contract Tryz.func107 (body := bodyOf Tryz.f107) rfl (by kernel_rfl) (by kernel_rfl) rfl ?_
  rintro _ w0 S
  refine hold_cut mixed ctr0_ok (unroll := false) (f := 100) (sc := []) (ks := [0,1,5]) (bs := [0]) (nx := 3) (st' := [It.lp [0, 0, 1, 1], It.blk 0, It.at [1, 1, 1]]) (σ' := { nt := 52, slots := [(0, SV.sl IntKind.u8 b), (1, SV.c IntKind.i64 (64 : Int)), (5, SV.row 0 (SV.sl IntKind.u8 (b ++ [128])))], blks := [(0, { ty := 5, segs := [], row := Bool.true })], next := 3 }) (ob := [Go.Eng.slenD (SV.sl IntKind.u8 b) * 1 ≤ 140737488355328, Go.Eng.slenD (SV.sl IntKind.u8 (b ++ [128])) * 1 ≤ 140737488355328]) (sc' := []) (by kernel_rfl) (by repeat' first | exact trivial | omega | (simp only [slenD, SV.slen, Option.getD_some, List.length_append, List.length_cons, List.length_nil, pdM_len]; omega) | (simp only [bne_iff_ne, bne_eq_false_iff_eq, List.length_append, List.length_cons, List.length_nil, pdM_len]; omega) | refine ⟨?_, ?_⟩) ?_
  exact Hold.weaken (pr64_in b hb rfl _ 0 rfl (by omega)) (by simp [wks, wk, wk0, lim, sPr, pdM])
theorem pd128_in (b : List Nat) (hb : b.length ≤ 1000000) (hr : res = .sl .u8 (pd 128 16 b)) : ∀ d j, zP 128 16 b.length - j = d → j ≤ zP 128 16 b.length →
    Hold Tryz.prog (bodyOf Tryz.f126) (Fin Tryz.prog Tryz.f126 w0 S res) w0 S stPd (sPd 128 16 b j) := by
  intro d
  induction d using Nat.strongRecOn with
  | _ d ih =>
  intro j hd hj
  have hz : zP 128 16 b.length = (128 - (b.length + 1 + 16) % 128) % 128 := rfl
  by_cases hlt : j < zP 128 16 b.length
  · have e := ih (zP 128 16 b.length - (j + 1)) (by omega) (j + 1) rfl (by omega)
    refine hold_unroll (c := _) rfl ?_
    refine hold_cut mixed ctr0_ok (unroll := false) (f := 300) (sc := [true]) (ks := [0,1,2,7]) (bs := [0]) (nx := 3) (st' := [It.lp [0, 0, 1, 1], It.blk 0, It.at [1, 1, 1]]) (σ' := { nt := 64, slots := [(0, SV.sl IntKind.u8 b), (1, SV.c IntKind.i64 (128 : Int)), (2, SV.c IntKind.i64 (16 : Int)), (7, SV.row 0 (SV.sl IntKind.u8 (pdM b j ++ [0])))], blks := [(0, { ty := 5, segs := [], row := Bool.true })], next := 3 }) (ob := [(pdM b j).length + 16 < 9223372036854775808, (((pdM b j).length + 16) % 128 != 0) = Bool.true, Go.Eng.slenD (SV.sl IntKind.u8 (pdM b j ++ [0])) * 1 ≤ 140737488355328]) (sc' := []) (by kernel_rfl) (by repeat' first | exact trivial | omega | (simp only [slenD, SV.slen, Option.getD_some, List.length_append, List.length_cons, List.length_nil, pdM_len]; omega) | (simp only [bne_iff_ne, bne_eq_false_iff_eq, List.length_append, List.length_cons, List.length_nil, pdM_len]; omega) | refine ⟨?_, ?_⟩) ?_
    unfold sPd at e
    rw [← pdM_app] at e
    exact e
  · have e : j = zP 128 16 b.length := by omega
    have hx : b.length * 8 % 18446744073709551616 = b.length * 8 := by omega
    have h61 : b.length / 2305843009213693952 % 256 = 0 := by omega
    refine hold_unroll (c := _) rfl ?_
    refine hold_end mixed ctr0_ok (unroll := true) (f := 600) (sc := [false]) (r := (SV.sl IntKind.u8 (pdM b j ++ [0] ++ [0] ++ [0] ++ [0] ++ [0] ++ [0] ++ [0] ++ [b.length / 2305843009213693952 % 256] ++ [b.length * 8 % 18446744073709551616 / 72057594037927936 % 256] ++ [b.length * 8 % 18446744073709551616 / 281474976710656 % 256] ++ [b.length * 8 % 18446744073709551616 / 1099511627776 % 256] ++ [b.length * 8 % 18446744073709551616 / 4294967296 % 256] ++ [b.length * 8 % 18446744073709551616 / 16777216 % 256] ++ [b.length * 8 % 18446744073709551616 / 65536 % 256] ++ [b.length * 8 % 18446744073709551616 / 256 % 256] ++ [b.length * 8 % 18446744073709551616 / 1 % 256]))) (ob := [(pdM b j).length + 16 < 9223372036854775808, (((pdM b j).length + 16) % 128 != 0) = Bool.false, Go.Eng.slenD (SV.sl IntKind.u8 (pdM b j ++ [0])) * 1 ≤ 140737488355328, Go.Eng.slenD (SV.sl IntKind.u8 (pdM b j ++ [0] ++ [0])) * 1 ≤ 140737488355328, Go.Eng.slenD (SV.sl IntKind.u8 (pdM b j ++ [0] ++ [0] ++ [0])) * 1 ≤ 140737488355328, Go.Eng.slenD (SV.sl IntKind.u8 (pdM b j ++ [0] ++ [0] ++ [0] ++ [0])) * 1 ≤ 140737488355328, Go.Eng.slenD (SV.sl IntKind.u8 (pdM b j ++ [0] ++ [0] ++ [0] ++ [0] ++ [0])) * 1 ≤ 140737488355328, Go.Eng.slenD (SV.sl IntKind.u8 (pdM b j ++ [0] ++ [0] ++ [0] ++ [0] ++ [0] ++ [0])) * 1 ≤ 140737488355328, Go.Eng.slenD (SV.sl IntKind.u8 (pdM b j ++ [0] ++ [0] ++ [0] ++ [0] ++ [0] ++ [0] ++ [0])) * 1 ≤ 140737488355328, Go.Eng.slenD (SV.sl IntKind.u8 (pdM b j ++ [0] ++ [0] ++ [0] ++ [0] ++ [0] ++ [0] ++ [0] ++ [b.length / 2305843009213693952 % 256])) * 1 ≤ 140737488355328, Go.Eng.slenD (SV.sl IntKind.u8 (pdM b j ++ [0] ++ [0] ++ [0] ++ [0] ++ [0] ++ [0] ++ [0] ++ [b.length / 2305843009213693952 % 256] ++ [b.length * 8 % 18446744073709551616 / 72057594037927936 % 256])) * 1 ≤ 140737488355328, Go.Eng.slenD (SV.sl IntKind.u8 (pdM b j ++ [0] ++ [0] ++ [0] ++ [0] ++ [0] ++ [0] ++ [0] ++ [b.length / 2305843009213693952 % 256] ++ [b.length * 8 % 18446744073709551616 / 72057594037927936 % 256] ++ [b.length * 8 % 18446744073709551616 / 281474976710656 % 256])) * 1 ≤ 140737488355328, Go.Eng.slenD (SV.sl IntKind.u8 (pdM b j ++ [0] ++ [0] ++ [0] ++ [0] ++ [0] ++ [0] ++ [0] ++ [b.length / 2305843009213693952 % 256] ++ [b.length * 8 % 18446744073709551616 / 72057594037927936 % 256] ++ [b.length * 8 % 18446744073709551616 / 281474976710656 % 256] ++ [b.length * 8 % 18446744073709551616 / 1099511627776 % 256])) * 1 ≤ 140737488355328, Go.Eng.slenD (SV.sl IntKind.u8 (pdM b j ++ [0] ++ [0] ++ [0] ++ [0] ++ [0] ++ [0] ++ [0] ++ [b.length / 2305843009213693952 % 256] ++ [b.length * 8 % 18446744073709551616 / 72057594037927936 % 256] ++ [b.length * 8 % 18446744073709551616 / 281474976710656 % 256] ++ [b.length * 8 % 18446744073709551616 / 1099511627776 % 256] ++ [b.length * 8 % 18446744073709551616 / 4294967296 % 256])) * 1 ≤ 140737488355328, Go.Eng.slenD (SV.sl IntKind.u8 (pdM b j ++ [0] ++ [0] ++ [0] ++ [0] ++ [0] ++ [0] ++ [0] ++ [b.length / 2305843009213693952 % 256] ++ [b.length * 8 % 18446744073709551616 / 72057594037927936 % 256] ++ [b.length * 8 % 18446744073709551616 / 281474976710656 % 256] ++ [b.length * 8 % 18446744073709551616 / 1099511627776 % 256] ++ [b.length * 8 % 18446744073709551616 / 4294967296 % 256] ++ [b.length * 8 % 18446744073709551616 / 16777216 % 256])) * 1 ≤ 140737488355328, Go.Eng.slenD (SV.sl IntKind.u8 (pdM b j ++ [0] ++ [0] ++ [0] ++ [0] ++ [0] ++ [0] ++ [0] ++ [b.length / 2305843009213693952 % 256] ++ [b.length * 8 % 18446744073709551616 / 72057594037927936 % 256] ++ [b.length * 8 % 18446744073709551616 / 281474976710656 % 256] ++ [b.length * 8 % 18446744073709551616 / 1099511627776 % 256] ++ [b.length * 8 % 18446744073709551616 / 4294967296 % 256] ++ [b.length * 8 % 18446744073709551616 / 16777216 % 256] ++ [b.length * 8 % 18446744073709551616 / 65536 % 256])) * 1 ≤ 140737488355328, Go.Eng.slenD (SV.sl IntKind.u8 (pdM b j ++ [0] ++ [0] ++ [0] ++ [0] ++ [0] ++ [0] ++ [0] ++ [b.length / 2305843009213693952 % 256] ++ [b.length * 8 % 18446744073709551616 / 72057594037927936 % 256] ++ [b.length * 8 % 18446744073709551616 / 281474976710656 % 256] ++ [b.length * 8 % 18446744073709551616 / 1099511627776 % 256] ++ [b.length * 8 % 18446744073709551616 / 4294967296 % 256] ++ [b.length * 8 % 18446744073709551616 / 16777216 % 256] ++ [b.length * 8 % 18446744073709551616 / 65536 % 256] ++ [b.length * 8 % 18446744073709551616 / 256 % 256])) * 1 ≤ 140737488355328, Go.Eng.slenD (SV.sl IntKind.u8 (pdM b j ++ [0] ++ [0] ++ [0] ++ [0] ++ [0] ++ [0] ++ [0] ++ [b.length / 2305843009213693952 % 256] ++ [b.length * 8 % 18446744073709551616 / 72057594037927936 % 256] ++ [b.length * 8 % 18446744073709551616 / 281474976710656 % 256] ++ [b.length * 8 % 18446744073709551616 / 1099511627776 % 256] ++ [b.length * 8 % 18446744073709551616 / 4294967296 % 256] ++ [b.length * 8 % 18446744073709551616 / 16777216 % 256] ++ [b.length * 8 % 18446744073709551616 / 65536 % 256] ++ [b.length * 8 % 18446744073709551616 / 256 % 256] ++ [b.length * 8 % 18446744073709551616 / 1 % 256])) * 1 ≤ 140737488355328]) (sc' := []) (by kernel_rfl) (by repeat' first | exact trivial | omega | (simp only [slenD, SV.slen, Option.getD_some, List.length_append, List.length_cons, List.length_nil, pdM_len]; omega) | (simp only [bne_iff_ne, bne_eq_false_iff_eq, List.length_append, List.length_cons, List.length_nil, pdM_len]; omega) | refine ⟨?_, ?_⟩) ?_
    rw [hr]
    rw [show pd 128 16 b = beL (b.length * 8 % 18446744073709551616) (pdM b j ++ [0] ++ [0] ++ [0] ++ [0] ++ [0] ++ [0] ++ [0] ++ [b.length / 2305843009213693952 % 256]) from by rw [h61, pdM_app, pdM_app, pdM_app, pdM_app, pdM_app, pdM_app, pdM_app, pdM_app, e]; rfl]; rfl
theorem padded128_c (b : List Nat) (hb : b.length ≤ 1000000) : Contract Tryz.prog 126 [.sl .u8 b, .c .i64 128, .c .i64 16] (.sl .u8 (pd 128 16 b)) := by
  refine contract Tryz.func126 (body := bodyOf Tryz.f126) rfl (by kernel_rfl) (by kernel_rfl) rfl ?_
  rintro _ w0 S
  refine hold_cut mixed ctr0_ok (unroll := false) (f := 100) (sc := []) (ks := [0,1,2,7]) (bs := [0]) (nx := 3) (st' := [It.lp [0, 0, 1, 1], It.blk 0, It.at [1, 1, 1]]) (σ' := { nt := 64, slots := [(0, SV.sl IntKind.u8 b), (1, SV.c IntKind.i64 (128 : Int)), (2, SV.c IntKind.i64 (16 : Int)), (7, SV.row 0 (SV.sl IntKind.u8 (b ++ [128])))], blks := [(0, { ty := 5, segs := [], row := Bool.true })], next := 3 }) (ob := [b.length + 256 < 9223372036854775808, (0 : Int) < (↑(b.length + 256) : Int), (↑(b.length + 256) : Int) ≤ (17592186044416 : Int), Go.Eng.slenD (SV.sl IntKind.u8 b) * 1 ≤ 140737488355328, Go.Eng.slenD (SV.sl IntKind.u8 (b ++ [128])) * 1 ≤ 140737488355328]) (sc' := []) (by kernel_rfl) (by repeat' first | exact trivial | omega | (simp only [slenD, SV.slen, Option.getD_some, List.length_append, List.length_cons, List.length_nil, pdM_len]; omega) | (simp only [bne_iff_ne, bne_eq_false_iff_eq, List.length_append, List.length_cons, List.length_nil, pdM_len]; omega) | refine ⟨?_, ?_⟩) ?_
  exact Hold.weaken (pd128_in b hb rfl _ 0 rfl (by omega)) (by simp [wks, wk, wk0, lim, sPd, pdM])
theorem pq128_in (b : List Nat) (hb : b.length ≤ 1000000) (hr : res = .sl .u8 (pd 128 16 b)) : ∀ d j, zP 128 16 b.length + (16 - 8) - j = d → zP 128 16 b.length ≤ j → j ≤ zP 128 16 b.length + (16 - 8) →
    Hold Tryz.prog (bodyOf Tryz.f107) (Fin Tryz.prog Tryz.f107 w0 S res) w0 S stPq (sPr 128 b j) := by
  intro d
  induction d using Nat.strongRecOn with
  | _ d ih =>
  intro j hd h2 hj
  have hz : zP 128 16 b.length = (128 - (b.length + 1 + 16) % 128) % 128 := rfl
  by_cases hlt : j < zP 128 16 b.length + (16 - 8)
  · have e := ih (zP 128 16 b.length + (16 - 8) - (j + 1)) (by omega) (j + 1) rfl (by omega) (by omega)
    refine hold_unroll (c := _) rfl ?_
    refine hold_cut mixed ctr0_ok (unroll := false) (f := 300) (sc := [true]) (ks := [0,1,5]) (bs := [0]) (nx := 3) (st' := [It.lp [0, 0, 1, 1, 1], It.blk 2, It.at [1, 1, 1, 1]]) (σ' := { nt := 52, slots := [(0, SV.sl IntKind.u8 b), (1, SV.c IntKind.i64 (128 : Int)), (5, SV.row 0 (SV.sl IntKind.u8 (pdM b j ++ [0])))], blks := [(0, { ty := 5, segs := [], row := Bool.true })], next := 3 }) (ob := [((pdM b j).length % 128 != 120) = Bool.true, Go.Eng.slenD (SV.sl IntKind.u8 (pdM b j ++ [0])) * 1 ≤ 140737488355328]) (sc' := []) (by kernel_rfl) (by repeat' first | exact trivial | omega | (simp only [slenD, SV.slen, Option.getD_some, List.length_append, List.length_cons, List.length_nil, pdM_len]; omega) | (simp only [bne_iff_ne, bne_eq_false_iff_eq, List.length_append, List.length_cons, List.length_nil, pdM_len]; omega) | refine ⟨?_, ?_⟩) ?_
    unfold sPr at e
    rw [← pdM_app] at e
    exact e
  · have e : j = zP 128 16 b.length + (16 - 8) := by omega
    refine hold_unroll (c := _) rfl ?_
    refine hold_end mixed ctr0_ok (unroll := true) (f := 600) (sc := [false]) (r := (SV.sl IntKind.u8 (pdM b j ++ [b.length * 8 % 18446744073709551616 / 72057594037927936 % 256] ++ [b.length * 8 % 18446744073709551616 / 281474976710656 % 256] ++ [b.length * 8 % 18446744073709551616 / 1099511627776 % 256] ++ [b.length * 8 % 18446744073709551616 / 4294967296 % 256] ++ [b.length * 8 % 18446744073709551616 / 16777216 % 256] ++ [b.length * 8 % 18446744073709551616 / 65536 % 256] ++ [b.length * 8 % 18446744073709551616 / 256 % 256] ++ [b.length * 8 % 18446744073709551616 / 1 % 256]))) (ob := [((pdM b j).length % 128 != 120) = Bool.false, Go.Eng.slenD (SV.sl IntKind.u8 (pdM b j ++ [b.length * 8 % 18446744073709551616 / 72057594037927936 % 256])) * 1 ≤ 140737488355328, Go.Eng.slenD (SV.sl IntKind.u8 (pdM b j ++ [b.length * 8 % 18446744073709551616 / 72057594037927936 % 256] ++ [b.length * 8 % 18446744073709551616 / 281474976710656 % 256])) * 1 ≤ 140737488355328, Go.Eng.slenD (SV.sl IntKind.u8 (pdM b j ++ [b.length * 8 % 18446744073709551616 / 72057594037927936 % 256] ++ [b.length * 8 % 18446744073709551616 / 281474976710656 % 256] ++ [b.length * 8 % 18446744073709551616 / 1099511627776 % 256])) * 1 ≤ 140737488355328, Go.Eng.slenD (SV.sl IntKind.u8 (pdM b j ++ [b.length * 8 % 18446744073709551616 / 72057594037927936 % 256] ++ [b.length * 8 % 18446744073709551616 / 281474976710656 % 256] ++ [b.length * 8 % 18446744073709551616 / 1099511627776 % 256] ++ [b.length * 8 % 18446744073709551616 / 4294967296 % 256])) * 1 ≤ 140737488355328, Go.Eng.slenD (SV.sl IntKind.u8 (pdM b j ++ [b.length * 8 % 18446744073709551616 / 72057594037927936 % 256] ++ [b.length * 8 % 18446744073709551616 / 281474976710656 % 256] ++ [b.length * 8 % 18446744073709551616 / 1099511627776 % 256] ++ [b.length * 8 % 18446744073709551616 / 4294967296 % 256] ++ [b.length * 8 % 18446744073709551616 / 16777216 % 256])) * 1 ≤ 140737488355328, Go.Eng.slenD (SV.sl IntKind.u8 (pdM b j ++ [b.length * 8 % 18446744073709551616 / 72057594037927936 % 256] ++ [b.length * 8 % 18446744073709551616 / 281474976710656 % 256] ++ [b.length * 8 % 18446744073709551616 / 1099511627776 % 256] ++ [b.length * 8 % 18446744073709551616 / 4294967296 % 256] ++ [b.length * 8 % 18446744073709551616 / 16777216 % 256] ++ [b.length * 8 % 18446744073709551616 / 65536 % 256])) * 1 ≤ 140737488355328, Go.Eng.slenD (SV.sl IntKind.u8 (pdM b j ++ [b.length * 8 % 18446744073709551616 / 72057594037927936 % 256] ++ [b.length * 8 % 18446744073709551616 / 281474976710656 % 256] ++ [b.length * 8 % 18446744073709551616 / 1099511627776 % 256] ++ [b.length * 8 % 18446744073709551616 / 4294967296 % 256] ++ [b.length * 8 % 18446744073709551616 / 16777216 % 256] ++ [b.length * 8 % 18446744073709551616 / 65536 % 256] ++ [b.length * 8 % 18446744073709551616 / 256 % 256])) * 1 ≤ 140737488355328, Go.Eng.slenD (SV.sl IntKind.u8 (pdM b j ++ [b.length * 8 % 18446744073709551616 / 72057594037927936 % 256] ++ [b.length * 8 % 18446744073709551616 / 281474976710656 % 256] ++ [b.length * 8 % 18446744073709551616 / 1099511627776 % 256] ++ [b.length * 8 % 18446744073709551616 / 4294967296 % 256] ++ [b.length * 8 % 18446744073709551616 / 16777216 % 256] ++ [b.length * 8 % 18446744073709551616 / 65536 % 256] ++ [b.length * 8 % 18446744073709551616 / 256 % 256] ++ [b.length * 8 % 18446744073709551616 / 1 % 256])) * 1 ≤ 140737488355328]) (sc' := []) (by kernel_rfl) (by repeat' first | exact trivial | omega | (simp only [slenD, SV.slen, Option.getD_some, List.length_append, List.length_cons, List.length_nil, pdM_len]; omega) | (simp only [bne_iff_ne, bne_eq_false_iff_eq, List.length_append, List.length_cons, List.length_nil, pdM_len]; omega) | refine ⟨?_, ?_⟩) ?_
    rw [hr, e]
    rfl
theorem pr128_in (b : List Nat) (hb : b.length ≤ 1000000) (hr : res = .sl .u8 (pd 128 16 b)) : ∀ d j, zP 128 16 b.length - j = d → j ≤ zP 128 16 b.length →
    Hold Tryz.prog (bodyOf Tryz.f107) (Fin Tryz.prog Tryz.f107 w0 S res) w0 S stPd (sPr 128 b j) := by
  intro d
  induction d using Nat.strongRecOn with
  | _ d ih =>
  intro j hd hj
  have hz : zP 128 16 b.length = (128 - (b.length + 1 + 16) % 128) % 128 := rfl
  by_cases hlt : j < zP 128 16 b.length
  · have e := ih (zP 128 16 b.length - (j + 1)) (by omega) (j + 1) rfl (by omega)
    refine hold_unroll (c := _) rfl ?_
    refine hold_cut mixed ctr0_ok (unroll := false) (f := 300) (sc := [true]) (ks := [0,1,5]) (bs := [0]) (nx := 3) (st' := [It.lp [0, 0, 1, 1], It.blk 0, It.at [1, 1, 1]]) (σ' := { nt := 52, slots := [(0, SV.sl IntKind.u8 b), (1, SV.c IntKind.i64 (128 : Int)), (5, SV.row 0 (SV.sl IntKind.u8 (pdM b j ++ [0])))], blks := [(0, { ty := 5, segs := [], row := Bool.true })], next := 3 }) (ob := [((pdM b j).length % 128 != 112) = Bool.true, Go.Eng.slenD (SV.sl IntKind.u8 (pdM b j ++ [0])) * 1 ≤ 140737488355328]) (sc' := []) (by kernel_rfl) (by repeat' first | exact trivial | omega | (simp only [slenD, SV.slen, Option.getD_some, List.length_append, List.length_cons, List.length_nil, pdM_len]; omega) | (simp only [bne_iff_ne, bne_eq_false_iff_eq, List.length_append, List.length_cons, List.length_nil, pdM_len]; omega) | refine ⟨?_, ?_⟩) ?_
    unfold sPr at e
    rw [← pdM_app] at e
    exact e
  · refine hold_unroll (c := _) rfl ?_
    refine hold_cut mixed ctr0_ok (unroll := false) (f := 300) (sc := [false]) (ks := [0,1,5]) (bs := [0]) (nx := 3) (st' := [It.lp [0, 0, 1, 1, 1], It.blk 2, It.at [1, 1, 1, 1]]) (σ' := { nt := 52, slots := [(0, SV.sl IntKind.u8 b), (1, SV.c IntKind.i64 (128 : Int)), (5, SV.row 0 (SV.sl IntKind.u8 (pdM b j)))], blks := [(0, { ty := 5, segs := [], row := Bool.true })], next := 3 }) (ob := [((pdM b j).length % 128 != 112) = Bool.false]) (sc' := []) (by kernel_rfl) (by repeat' first | exact trivial | omega | (simp only [slenD, SV.slen, Option.getD_some, List.length_append, List.length_cons, List.length_nil, pdM_len]; omega) | (simp only [bne_iff_ne, bne_eq_false_iff_eq, List.length_append, List.length_cons, List.length_nil, pdM_len]; omega) | refine ⟨?_, ?_⟩) ?_
    exact pq128_in b hb hr _ j rfl (by omega) (by omega)
theorem pad128_c (b : List Nat) (hb : b.length ≤ 1000000) : Contract Tryz.prog 107 [.sl .u8 b, .c .i64 128] (.sl .u8 (pd 128 16 b)) := by
  refine contract Tryz.func107 (body := bodyOf Tryz.f107) rfl (by kernel_rfl) (by kernel_rfl) rfl ?_
  rintro _ w0 S
  refine hold_cut mixed ctr0_ok (unroll := false) (f := 100) (sc := []) (ks := [0,1,5]) (bs := [0]) (nx := 3) (st' := [It.lp [0, 0, 1, 1], It.blk 0, It.at [1, 1, 1]]) (σ' := { nt := 52, slots := [(0, SV.sl IntKind.u8 b), (1, SV.c IntKind.i64 (128 : Int)), (5, SV.row 0 (SV.sl IntKind.u8 (b ++ [128])))], blks := [(0, { ty := 5, segs := [], row := Bool.true })], next := 3 }) (ob := [Go.Eng.slenD (SV.sl IntKind.u8 b) * 1 ≤ 140737488355328, Go.Eng.slenD (SV.sl IntKind.u8 (b ++ [128])) * 1 ≤ 140737488355328]) (sc' := []) (by kernel_rfl) (by repeat' first | exact trivial | omega | (simp only [slenD, SV.slen, Option.getD_some, List.length_append, List.length_cons, List.length_nil, pdM_len]; omega) | (simp only [bne_iff_ne, bne_eq_false_iff_eq, List.length_append, List.length_cons, List.length_nil, pdM_len]; omega) | refine ⟨?_, ?_⟩) ?_
  exact Hold.weaken (pr128_in b hb rfl _ 0 rfl (by omega)) (by simp [wks, wk, wk0, lim, sPr, pdM])
end
end Go.Eng.B

namespace Go.Eng.B
open Go Go.Eng Go.Proofs
set_option maxRecDepth 100000
set_option linter.unusedSimpArgs false
def ePadded (args : List SV) : Option (SV × List Prop) :=
  match args with
  | [.sl .u8 b, .c .i64 64, .c .i64 8] => some (.sl .u8 (pd 64 8 b), [b.length ≤ 1000000])
  | [.sl .u8 b, .c .i64 128, .c .i64 16] => some (.sl .u8 (pd 128 16 b), [b.length ≤ 1000000])
  | _ => none
def ePad (args : List SV) : Option (SV × List Prop) :=
  match args with
  | [.sl .u8 b, .c .i64 64] => some (.sl .u8 (pd 64 8 b), [b.length ≤ 1000000])
  | [.sl .u8 b, .c .i64 128] => some (.sl .u8 (pd 128 16 b), [b.length ≤ 1000000])
  | _ => none
noncomputable def M12a : Ctr := addC 126 ePadded (addC 107 ePad (addC 125 eConst M10a))
theorem cPadded : ∀ args res ob, ePadded args = some (res, ob) → All ob → Contract Tryz.prog 126 args res := by
  intro args res ob h hob
  unfold ePadded at h
  split at h
  · cases h; exact padded64_c _ hob.1
  · cases h; exact padded128_c _ hob.1
  · cases h
theorem cPad : ∀ args res ob, ePad args = some (res, ob) → All ob → Contract Tryz.prog 107 args res := by
  intro args res ob h hob
  unfold ePad at h
  split at h
  · cases h; exact pad64_c _ hob.1
  · cases h; exact pad128_c _ hob.1
  · cases h
theorem okM12a : CtrOk Tryz.prog M12a := addC_ok (addC_ok (addC_ok okM10a cConst) cPad) cPadded
end Go.Eng.B

namespace Go.Eng.B
open Go Go.Eng Go.Proofs
set_option maxRecDepth 100000
set_option linter.unusedSimpArgs false
def q64 (a b x : Nat) : Nat := x * a % 18446744073709551616 ||| x / b
def wB64 (w : List Nat) (i : Nat) : Nat :=
  ((((q64 35184372088832 524288 (w.getD ((i : Int) - 2).toNat 0) ^^^ q64 8 2305843009213693952 (w.getD ((i : Int) - 2).toNat 0) ^^^ w.getD ((i : Int) - 2).toNat 0 / 64) + w.getD ((i : Int) - 7).toNat 0) % 18446744073709551616 + (q64 9223372036854775808 2 (w.getD ((i : Int) - 15).toNat 0) ^^^ q64 72057594037927936 256 (w.getD ((i : Int) - 15).toNat 0) ^^^ w.getD ((i : Int) - 15).toNat 0 / 128)) % 18446744073709551616 + w.getD ((i : Int) - 16).toNat 0) % 18446744073709551616
def stepI64 (m : List Nat) (i : Nat) (w : List Nat) (j : Nat) : List Nat := w.set i (w.getD i 0 * 256 % 18446744073709551616 ||| m.getD (8 * i + j) 0)
def I64 (m : List Nat) (i : Nat) (w : List Nat) (j : Nat) : List Nat := itr (stepI64 m i) w j
def stepW64 (m w : List Nat) (i : Nat) : List Nat := if i < 16 then I64 m i w 8 else w.set i (wB64 w i)
def t64 (k : Nat → Nat) (w s : List Nat) (i : Nat) : Nat :=
  ((((s.getD 7 0 + (q64 1125899906842624 16384 (s.getD 4 0) ^^^ q64 70368744177664 262144 (s.getD 4 0) ^^^ q64 8388608 2199023255552 (s.getD 4 0))) % 18446744073709551616 + (s.getD 4 0 &&& s.getD 5 0 ^^^ 18446744073709551615 - s.getD 4 0 &&& s.getD 6 0)) % 18446744073709551616 + k i) % 18446744073709551616 + w.getD i 0) % 18446744073709551616
def u64 (s : List Nat) : Nat := ((q64 68719476736 268435456 (s.getD 0 0) ^^^ q64 1073741824 17179869184 (s.getD 0 0) ^^^ q64 33554432 549755813888 (s.getD 0 0)) + (s.getD 0 0 &&& s.getD 1 0 ^^^ s.getD 0 0 &&& s.getD 2 0 ^^^ s.getD 1 0 &&& s.getD 2 0)) % 18446744073709551616
def stepR64 (k : Nat → Nat) (w s : List Nat) (i : Nat) : List Nat := [(t64 k w s i + u64 s) % 18446744073709551616, s.getD 0 0, s.getD 1 0, s.getD 2 0, (s.getD 3 0 + t64 k w s i) % 18446744073709551616, s.getD 4 0, s.getD 5 0, s.getD 6 0]
def stepA64 (s h : List Nat) (i : Nat) : List Nat := h.set i ((h.getD i 0 + s.getD i 0) % 18446744073709551616)
def W64 (m : List Nat) (i : Nat) : List Nat := itr (stepW64 m) (List.replicate 80 0) i
def R64 (m h : List Nat) (i : Nat) : List Nat := itr (stepR64 (gd kL) (W64 m 80)) h i
def A64 (m h : List Nat) (i : Nat) : List Nat := itr (stepA64 (R64 m h 80)) h i
def b64 (h : List Nat) : Bk := ⟨117, [.arr .u64 8 h], false⟩
def bw64 (h : List Nat) : Bk := ⟨143, [.arr .u64 80 h], false⟩
def pW : List It := [.lp [0, 1, 0, 1], .blk 0, .at [1, 1]]
def pI : List It := [.lp [0, 1, 0, 0, 1, 0, 1, 0, 0, 1, 1, 0, 0, 1, 0, 1], .blk 2, .at [1, 0, 1, 0, 1, 0, 0, 1, 1, 0, 0, 1, 0, 1], .at [1, 1, 0, 0, 1, 1, 0, 0, 1, 0, 1], .blk 1, .at [1, 1, 1, 0, 0, 1, 0, 1]] ++ pW
def pR : List It := [.lp [0, 1, 0, 1, 1, 1], .blk 4, .at [1, 1, 1, 1]]
def pA : List It := [.lp [0, 1, 1, 1, 1, 1], .blk 6]
def uW (h m w : List Nat) (i : Nat) : St := ⟨183, [(0, .ptr 0 0 (.c 0)), (1, .sl .u64 kL), (2, .sl .u8 m), (6, .ptr 1 0 (.c 0)), (19, .u .i64 i)], [(0, b64 h), (1, bw64 w)], 2, 1⟩
def uI (h m w : List Nat) (i j : Nat) : St := ⟨183, [(0, .ptr 0 0 (.c 0)), (1, .sl .u64 kL), (2, .sl .u8 m), (6, .ptr 1 0 (.c 0)), (7, .u .i64 i), (19, .u .i64 i), (30, .sl .u8 ((m.take (8 * i + 8)).drop (8 * i))), (31, .u .i64 8), (32, .u .i64 j)], [(0, b64 h), (1, bw64 w)], 2, 1⟩
def uR (h m w s : List Nat) (i : Nat) : St := ⟨183, [(0, .ptr 0 0 (.c 0)), (1, .sl .u64 kL), (2, .sl .u8 m), (6, .ptr 1 0 (.c 0)), (12, .ptr 2 0 (.c 0)), (87, .u .i64 i)], [(0, b64 h), (1, bw64 w), (2, b64 s)], 3, 1⟩
def uA (h s : List Nat) (i : Nat) : St := ⟨183, [(0, .ptr 0 0 (.c 0)), (12, .ptr 2 0 (.c 0)), (168, .u .i64 i)], [(0, b64 h), (2, b64 s)], 3, 1⟩
def vW : List It := [.lp [0, 1, 0, 1, 1, 1], .blk 0, .at [1, 1, 1, 1]]
def vI : List It := [.lp [0, 1, 0, 0, 1, 0, 1, 0, 0, 1, 1, 0, 0, 1, 0, 1, 1, 1], .blk 2, .at [1, 0, 1, 0, 1, 0, 0, 1, 1, 0, 0, 1, 0, 1, 1, 1], .at [1, 1, 0, 0, 1, 1, 0, 0, 1, 0, 1, 1, 1], .blk 1, .at [1, 1, 1, 0, 0, 1, 0, 1, 1, 1]] ++ vW
def vR : List It := [.lp [0, 1, 0, 1, 1, 1, 1, 1], .blk 4, .at [1, 1, 1, 1, 1, 1]]
def vA : List It := [.lp [0, 1, 0, 1, 1, 1, 1, 1, 1], .blk 6, .at [1, 1, 1, 1, 1, 1, 1]]
def xW (h m w : List Nat) (i : Nat) : St := ⟨175, [(1, .sl .u8 m), (2, .ptr 0 0 (.c 0)), (4, .ptr 1 0 (.c 0)), (5, .ptr 2 0 (.c 0)), (6, .ptr 3 0 (.c 0)), (19, .u .i64 i)], [(0, b64 h), (1, b64 (List.replicate 8 0)), (2, bw64 kL), (3, bw64 w)], 4, 0⟩
def xI (h m w : List Nat) (i j : Nat) : St := ⟨175, [(1, .sl .u8 m), (2, .ptr 0 0 (.c 0)), (4, .ptr 1 0 (.c 0)), (5, .ptr 2 0 (.c 0)), (6, .ptr 3 0 (.c 0)), (7, .u .i64 i), (19, .u .i64 i), (24, .u .i64 j)], [(0, b64 h), (1, b64 (List.replicate 8 0)), (2, bw64 kL), (3, bw64 w)], 4, 0⟩
def xR (h m w s : List Nat) (i : Nat) : St := ⟨175, [(1, .sl .u8 m), (2, .ptr 0 0 (.c 0)), (4, .ptr 1 0 (.c 0)), (5, .ptr 2 0 (.c 0)), (6, .ptr 3 0 (.c 0)), (11, .ptr 4 0 (.c 0)), (82, .u .i64 i)], [(0, b64 h), (1, b64 (List.replicate 8 0)), (2, bw64 kL), (3, bw64 w), (4, b64 s)], 5, 0⟩
def xA (h s : List Nat) (i : Nat) : St := ⟨175, [(2, .ptr 0 0 (.c 0)), (4, .ptr 1 0 (.c 0)), (11, .ptr 4 0 (.c 0)), (162, .u .i64 i)], [(0, b64 h), (1, b64 (List.replicate 8 0)), (4, b64 s)], 5, 0⟩
theorem kL_len : kL.length = 80 := by kernel_rfl
theorem cut_get (m : List Nat) (i j : Nat) (h : j < 8) : ((m.take (8 * i + 8)).drop (8 * i)).getD j 0 = m.getD (8 * i + j) 0 := by
  rw [List.getD_eq_getElem?_getD, List.getD_eq_getElem?_getD, List.getElem?_drop, List.getElem?_take_of_lt (by omega)]
section
variable {F : Fr} {S : Own} {r : MRes}
theorem p64_A (h m : List Nat) (hr : r = ⟨.tup [], [b64 (A64 m h 8)], []⟩) : ∀ d i, 8 - i = d → i ≤ 8 → Hold Tryz.prog (bodyOf Tryz.f127) (FinM Tryz.prog Tryz.f127 F S r) F S pA (uA (A64 m h i) (R64 m h 80) i) := by
  intro d
  induction d using Nat.strongRecOn with
  | _ d ih =>
  intro i hd hi
  by_cases hlt : i < 8
  · refine hold_unroll (c := _) rfl ?_
    refine hold_cut mixed okM12a (unroll := false) (f := 300) (sc := [true]) (ks := [0,12,168]) (bs := [0,2]) (nx := 3) (st' := [It.lp [0, 1, 1, 1, 1, 1], It.blk 6]) (σ' := { nt := 183, slots := [(0, SV.ptr 0 0 (Ix.c 0)), (12, SV.ptr 2 0 (Ix.c 0)), (168, SV.u IntKind.i64 (i + 1))], blks := [(0, { ty := 117, segs := [SV.arr IntKind.u64 8 ((A64 m h i).set i (((A64 m h i).getD i 0 + (R64 m h 80).getD i 0) % 18446744073709551616))] }), (2, { ty := 117, segs := [SV.arr IntKind.u64 8 (R64 m h 80)] })], next := 3, m := 1 }) (ob := [Decidable.decide (i < 8) = Bool.true, i < 8, i < 8, i < 8, i < 8, i < 8, i < 8, i + 1 < 9223372036854775808]) (sc' := []) (by kernel_rfl) (by repeat' first | exact trivial | exact decide_eq_true (by omega) | exact decide_eq_false (by omega) | omega | (simp only [List.length_drop, List.length_take]; omega) | (simp only [decide_eq_true_eq, decide_eq_false_iff_not, List.length_drop, List.length_take]; omega) | refine ⟨?_, ?_⟩) ?_
    exact ih (8 - (i + 1)) (by omega) (i + 1) rfl (by omega)
  · have e : i = 8 := by omega
    subst e
    refine hold_unroll (c := _) rfl ?_
    exact hold_endMw mixed okM12a (news := []) (unroll := false) (f := 300) (sc := [false]) (r := { res := SV.tup [], upd := [{ ty := 117, segs := [SV.arr IntKind.u64 8 (A64 m h 8)] }] }) (ob := [Bool.false = Bool.false]) (sc' := []) (by kernel_rfl) (by repeat' first | exact trivial | exact decide_eq_true (by omega) | exact decide_eq_false (by omega) | omega | (simp only [List.length_drop, List.length_take]; omega) | (simp only [decide_eq_true_eq, decide_eq_false_iff_not, List.length_drop, List.length_take]; omega) | refine ⟨?_, ?_⟩) (wkM_of hr.symm)
theorem p64_R (h m : List Nat) (hr : r = ⟨.tup [], [b64 (A64 m h 8)], []⟩) : ∀ d i, 80 - i = d → i ≤ 80 → Hold Tryz.prog (bodyOf Tryz.f127) (FinM Tryz.prog Tryz.f127 F S r) F S pR (uR h m (W64 m 80) (R64 m h i) i) := by
  intro d
  induction d using Nat.strongRecOn with
  | _ d ih =>
  intro i hd hi
  have hkl := kL_len
  by_cases hlt : i < 80
  · refine hold_unroll (c := _) rfl ?_
    refine hold_cut mixed okM12a (unroll := false) (f := 300) (sc := [true]) (ks := [0,1,2,6,12,87]) (bs := [0,1,2]) (nx := 3) (st' := [It.lp [0, 1, 0, 1, 1, 1], It.blk 4, It.at [1, 1, 1, 1]]) (σ' := { nt := 183, slots := [(0, SV.ptr 0 0 (Ix.c 0)), (1, SV.sl IntKind.u64 Go.Eng.B.kL), (2, SV.sl IntKind.u8 m), (6, SV.ptr 1 0 (Ix.c 0)), (12, SV.ptr 2 0 (Ix.c 0)), (87, SV.u IntKind.i64 (i + 1))], blks := [(0, { ty := 117, segs := [SV.arr IntKind.u64 8 h] }), (1, { ty := 143, segs := [SV.arr IntKind.u64 80 (W64 m 80)] }), (2, { ty := 117, segs := [SV.arr IntKind.u64 8 [((((((R64 m h i).getD 7 0 + (((R64 m h i).getD 4 0 * 1125899906842624 % 18446744073709551616 ||| (R64 m h i).getD 4 0 / 16384) ^^^ ((R64 m h i).getD 4 0 * 70368744177664 % 18446744073709551616 ||| (R64 m h i).getD 4 0 / 262144) ^^^ ((R64 m h i).getD 4 0 * 8388608 % 18446744073709551616 ||| (R64 m h i).getD 4 0 / 2199023255552))) % 18446744073709551616 + ((R64 m h i).getD 4 0 &&& (R64 m h i).getD 5 0 ^^^ 18446744073709551615 - (R64 m h i).getD 4 0 &&& (R64 m h i).getD 6 0)) % 18446744073709551616 + Go.Eng.B.kL.getD i 0) % 18446744073709551616 + (W64 m 80).getD i 0) % 18446744073709551616 + ((((R64 m h i).getD 0 0 * 68719476736 % 18446744073709551616 ||| (R64 m h i).getD 0 0 / 268435456) ^^^ ((R64 m h i).getD 0 0 * 1073741824 % 18446744073709551616 ||| (R64 m h i).getD 0 0 / 17179869184) ^^^ ((R64 m h i).getD 0 0 * 33554432 % 18446744073709551616 ||| (R64 m h i).getD 0 0 / 549755813888)) + ((R64 m h i).getD 0 0 &&& (R64 m h i).getD 1 0 ^^^ (R64 m h i).getD 0 0 &&& (R64 m h i).getD 2 0 ^^^ (R64 m h i).getD 1 0 &&& (R64 m h i).getD 2 0)) % 18446744073709551616) % 18446744073709551616, (R64 m h i).getD 0 0, (R64 m h i).getD 1 0, (R64 m h i).getD 2 0, ((R64 m h i).getD 3 0 + (((((R64 m h i).getD 7 0 + (((R64 m h i).getD 4 0 * 1125899906842624 % 18446744073709551616 ||| (R64 m h i).getD 4 0 / 16384) ^^^ ((R64 m h i).getD 4 0 * 70368744177664 % 18446744073709551616 ||| (R64 m h i).getD 4 0 / 262144) ^^^ ((R64 m h i).getD 4 0 * 8388608 % 18446744073709551616 ||| (R64 m h i).getD 4 0 / 2199023255552))) % 18446744073709551616 + ((R64 m h i).getD 4 0 &&& (R64 m h i).getD 5 0 ^^^ 18446744073709551615 - (R64 m h i).getD 4 0 &&& (R64 m h i).getD 6 0)) % 18446744073709551616 + Go.Eng.B.kL.getD i 0) % 18446744073709551616 + (W64 m 80).getD i 0) % 18446744073709551616) % 18446744073709551616, (R64 m h i).getD 4 0, (R64 m h i).getD 5 0, (R64 m h i).getD 6 0]] })], next := 3, m := 1 }) (ob := [Decidable.decide (i < 80) = Bool.true, i < 80, i < 80, i < 80, i + 1 < 9223372036854775808]) (sc' := []) (by kernel_rfl) (by repeat' first | exact trivial | exact decide_eq_true (by omega) | exact decide_eq_false (by omega) | omega | (simp only [List.length_drop, List.length_take]; omega) | (simp only [decide_eq_true_eq, decide_eq_false_iff_not, List.length_drop, List.length_take]; omega) | refine ⟨?_, ?_⟩) ?_
    exact ih (80 - (i + 1)) (by omega) (i + 1) rfl (by omega)
  · have e : i = 80 := by omega
    subst e
    refine hold_unroll (c := _) rfl ?_
    refine hold_cut mixed okM12a (unroll := false) (f := 300) (sc := [false]) (ks := [0,12,168]) (bs := [0,2]) (nx := 3) (st' := [It.lp [0, 1, 1, 1, 1, 1], It.blk 6]) (σ' := { nt := 183, slots := [(0, SV.ptr 0 0 (Ix.c 0)), (12, SV.ptr 2 0 (Ix.c 0)), (168, SV.c IntKind.i64 (0 : Int))], blks := [(0, { ty := 117, segs := [SV.arr IntKind.u64 8 h] }), (2, { ty := 117, segs := [SV.arr IntKind.u64 8 (R64 m h 80)] })], next := 3, m := 1 }) (ob := [Bool.false = Bool.false]) (sc' := []) (by kernel_rfl) (by repeat' first | exact trivial | exact decide_eq_true (by omega) | exact decide_eq_false (by omega) | omega | (simp only [List.length_drop, List.length_take]; omega) | (simp only [decide_eq_true_eq, decide_eq_false_iff_not, List.length_drop, List.length_take]; omega) | refine ⟨?_, ?_⟩) ?_
    exact Hold.weaken (p64_A h m hr _ 0 rfl (by omega)) (by simp [wks, wk, wk0, lim, uA])
theorem p64_I (h m w : List Nat) (i : Nat) (hm : m.length = 128) (hi : i < 16) (hk : Hold Tryz.prog (bodyOf Tryz.f127) (FinM Tryz.prog Tryz.f127 F S r) F S pW (uW h m (I64 m i w 8) (i + 1))) : ∀ d j, 8 - j = d → j ≤ 8 → Hold Tryz.prog (bodyOf Tryz.f127) (FinM Tryz.prog Tryz.f127 F S r) F S pI (uI h m (I64 m i w j) i j) := by
  intro d
  induction d using Nat.strongRecOn with
  | _ d ih =>
  intro j hd hj
  by_cases hlt : j < 8
  · refine hold_unroll (c := _) rfl ?_
    refine hold_cut mixed okM12a (unroll := false) (f := 300) (sc := [true]) (ks := [0,1,2,6,7,19,30,31,32]) (bs := [0,1]) (nx := 2) (st' := [It.lp [0, 1, 0, 0, 1, 0, 1, 0, 0, 1, 1, 0, 0, 1, 0, 1], It.blk 2, It.at [1, 0, 1, 0, 1, 0, 0, 1, 1, 0, 0, 1, 0, 1], It.at [1, 1, 0, 0, 1, 1, 0, 0, 1, 0, 1], It.blk 1, It.at [1, 1, 1, 0, 0, 1, 0, 1], It.lp [0, 1, 0, 1], It.blk 0, It.at [1, 1]]) (σ' := { nt := 183, slots := [(0, SV.ptr 0 0 (Ix.c 0)), (1, SV.sl IntKind.u64 Go.Eng.B.kL), (2, SV.sl IntKind.u8 m), (6, SV.ptr 1 0 (Ix.c 0)), (7, SV.u IntKind.i64 i), (19, SV.u IntKind.i64 i), (30, SV.sl IntKind.u8 (List.drop (8 * i) (List.take (8 * i + 8) m))), (31, SV.u IntKind.i64 8), (32, SV.u IntKind.i64 (j + 1))], blks := [(0, { ty := 117, segs := [SV.arr IntKind.u64 8 h] }), (1, { ty := 143, segs := [SV.arr IntKind.u64 80 ((I64 m i w j).set i ((I64 m i w j).getD i 0 * 256 % 18446744073709551616 ||| (List.drop (8 * i) (List.take (8 * i + 8) m)).getD j 0))] })], next := 2, m := 1 }) (ob := [Decidable.decide (j < 8) = Bool.true, j < (List.drop (8 * i) (List.take (8 * i + 8) m)).length, i < 80, i < 80, i < 80, i < 80, j + 1 < 9223372036854775808]) (sc' := []) (by kernel_rfl) (by repeat' first | exact trivial | exact decide_eq_true (by omega) | exact decide_eq_false (by omega) | omega | (simp only [List.length_drop, List.length_take]; omega) | (simp only [decide_eq_true_eq, decide_eq_false_iff_not, List.length_drop, List.length_take]; omega) | refine ⟨?_, ?_⟩) ?_
    rw [cut_get m i j hlt]
    exact ih (8 - (j + 1)) (by omega) (j + 1) rfl (by omega)
  · have e : j = 8 := by omega
    subst e
    refine hold_unroll (c := _) rfl ?_
    refine hold_cut mixed okM12a (unroll := false) (f := 300) (sc := [false]) (ks := [0,1,2,6,19]) (bs := [0,1]) (nx := 2) (st' := [It.lp [0, 1, 0, 1], It.blk 0, It.at [1, 1]]) (σ' := { nt := 183, slots := [(0, SV.ptr 0 0 (Ix.c 0)), (1, SV.sl IntKind.u64 Go.Eng.B.kL), (2, SV.sl IntKind.u8 m), (6, SV.ptr 1 0 (Ix.c 0)), (19, SV.u IntKind.i64 (i + 1))], blks := [(0, { ty := 117, segs := [SV.arr IntKind.u64 8 h] }), (1, { ty := 143, segs := [SV.arr IntKind.u64 80 (I64 m i w 8)] })], next := 2, m := 1 }) (ob := [Bool.false = Bool.false, i + 1 < 9223372036854775808]) (sc' := []) (by kernel_rfl) (by repeat' first | exact trivial | exact decide_eq_true (by omega) | exact decide_eq_false (by omega) | omega | (simp only [List.length_drop, List.length_take]; omega) | (simp only [decide_eq_true_eq, decide_eq_false_iff_not, List.length_drop, List.length_take]; omega) | refine ⟨?_, ?_⟩) ?_
    exact hk
theorem p64_W (h m : List Nat) (hm : m.length = 128) (hr : r = ⟨.tup [], [b64 (A64 m h 8)], []⟩) : ∀ d i, 80 - i = d → i ≤ 80 → Hold Tryz.prog (bodyOf Tryz.f127) (FinM Tryz.prog Tryz.f127 F S r) F S pW (uW h m (W64 m i) i) := by
  intro d
  induction d using Nat.strongRecOn with
  | _ d ih =>
  intro i hd hi
  have hs : W64 m (i + 1) = if i < 16 then I64 m i (W64 m i) 8 else (W64 m i).set i (wB64 (W64 m i) i) := rfl
  by_cases hlt : i < 80
  · have e := ih (80 - (i + 1)) (by omega) (i + 1) rfl (by omega)
    refine hold_unroll (c := _) rfl ?_
    by_cases hl2 : i < 16
    · rw [hs, if_pos hl2] at e
      have hcl : (List.drop (8 * i) (List.take (8 * i + 8) m)).length = 8 := by rw [List.length_drop, List.length_take]; omega
      refine hold_cut mixed okM12a (unroll := false) (f := 300) (sc := [true, true]) (ks := [0,1,2,6,7,19,30,31,32]) (bs := [0,1]) (nx := 2) (st' := [It.lp [0, 1, 0, 0, 1, 0, 1, 0, 0, 1, 1, 0, 0, 1, 0, 1], It.blk 2, It.at [1, 0, 1, 0, 1, 0, 0, 1, 1, 0, 0, 1, 0, 1], It.at [1, 1, 0, 0, 1, 1, 0, 0, 1, 0, 1], It.blk 1, It.at [1, 1, 1, 0, 0, 1, 0, 1], It.lp [0, 1, 0, 1], It.blk 0, It.at [1, 1]]) (σ' := { nt := 183, slots := [(0, SV.ptr 0 0 (Ix.c 0)), (1, SV.sl IntKind.u64 Go.Eng.B.kL), (2, SV.sl IntKind.u8 m), (6, SV.ptr 1 0 (Ix.c 0)), (7, SV.u IntKind.i64 i), (19, SV.u IntKind.i64 i), (30, SV.sl IntKind.u8 (List.drop (8 * i) (List.take (8 * i + 8) m))), (31, SV.u IntKind.i64 (List.drop (8 * i) (List.take (8 * i + 8) m)).length), (32, SV.c IntKind.i64 (0 : Int))], blks := [(0, { ty := 117, segs := [SV.arr IntKind.u64 8 h] }), (1, { ty := 143, segs := [SV.arr IntKind.u64 80 (W64 m i)] })], next := 2, m := 1 }) (ob := [Decidable.decide (i < 80) = Bool.true, Decidable.decide (i < 16) = Bool.true, 8 * i < 9223372036854775808, 8 * i < 9223372036854775808, 8 * i + 8 < 9223372036854775808, 8 * i ≤ 8 * i + 8, 8 * i + 8 ≤ m.length]) (sc' := []) (by kernel_rfl) (by repeat' first | exact trivial | exact decide_eq_true (by omega) | exact decide_eq_false (by omega) | omega | (simp only [List.length_drop, List.length_take]; omega) | (simp only [decide_eq_true_eq, decide_eq_false_iff_not, List.length_drop, List.length_take]; omega) | refine ⟨?_, ?_⟩) ?_
      exact Hold.weaken (p64_I h m (W64 m i) i hm hl2 e _ 0 rfl (by omega)) (by simp [wks, wk, wk0, lim, uI]; try omega)
    · rw [hs, if_neg hl2] at e
      refine hold_cut mixed okM12a (unroll := false) (f := 300) (sc := [true, false]) (ks := [0,1,2,6,19]) (bs := [0,1]) (nx := 2) (st' := [It.lp [0, 1, 0, 1], It.blk 0, It.at [1, 1]]) (σ' := { nt := 183, slots := [(0, SV.ptr 0 0 (Ix.c 0)), (1, SV.sl IntKind.u64 Go.Eng.B.kL), (2, SV.sl IntKind.u8 m), (6, SV.ptr 1 0 (Ix.c 0)), (19, SV.u IntKind.i64 (i + 1))], blks := [(0, { ty := 117, segs := [SV.arr IntKind.u64 8 h] }), (1, { ty := 143, segs := [SV.arr IntKind.u64 80 ((W64 m i).set i (((((((W64 m i).getD ((↑i : Int) - (2 : Int)).toNat 0 * 35184372088832 % 18446744073709551616 ||| (W64 m i).getD ((↑i : Int) - (2 : Int)).toNat 0 / 524288) ^^^ ((W64 m i).getD ((↑i : Int) - (2 : Int)).toNat 0 * 8 % 18446744073709551616 ||| (W64 m i).getD ((↑i : Int) - (2 : Int)).toNat 0 / 2305843009213693952) ^^^ (W64 m i).getD ((↑i : Int) - (2 : Int)).toNat 0 / 64) + (W64 m i).getD ((↑i : Int) - (7 : Int)).toNat 0) % 18446744073709551616 + (((W64 m i).getD ((↑i : Int) - (15 : Int)).toNat 0 * 9223372036854775808 % 18446744073709551616 ||| (W64 m i).getD ((↑i : Int) - (15 : Int)).toNat 0 / 2) ^^^ ((W64 m i).getD ((↑i : Int) - (15 : Int)).toNat 0 * 72057594037927936 % 18446744073709551616 ||| (W64 m i).getD ((↑i : Int) - (15 : Int)).toNat 0 / 256) ^^^ (W64 m i).getD ((↑i : Int) - (15 : Int)).toNat 0 / 128)) % 18446744073709551616 + (W64 m i).getD ((↑i : Int) - (16 : Int)).toNat 0) % 18446744073709551616))] })], next := 2, m := 1 }) (ob := [Decidable.decide (i < 80) = Bool.true, Decidable.decide (i < 16) = Bool.false, (0 : Int) ≤ (↑i : Int) - (15 : Int), ((↑i : Int) - (15 : Int)).toNat < 80, ((↑i : Int) - (15 : Int)).toNat < 80, (0 : Int) ≤ (↑i : Int) - (2 : Int), ((↑i : Int) - (2 : Int)).toNat < 80, ((↑i : Int) - (2 : Int)).toNat < 80, (0 : Int) ≤ (↑i : Int) - (7 : Int), ((↑i : Int) - (7 : Int)).toNat < 80, ((↑i : Int) - (7 : Int)).toNat < 80, (0 : Int) ≤ (↑i : Int) - (16 : Int), ((↑i : Int) - (16 : Int)).toNat < 80, ((↑i : Int) - (16 : Int)).toNat < 80, i < 80, i < 80, i + 1 < 9223372036854775808]) (sc' := []) (by kernel_rfl) (by repeat' first | exact trivial | exact decide_eq_true (by omega) | exact decide_eq_false (by omega) | omega | (simp only [List.length_drop, List.length_take]; omega) | (simp only [decide_eq_true_eq, decide_eq_false_iff_not, List.length_drop, List.length_take]; omega) | refine ⟨?_, ?_⟩) ?_
      exact e
  · have e : i = 80 := by omega
    subst e
    refine hold_unroll (c := _) rfl ?_
    refine hold_cut mixed okM12a (unroll := false) (f := 300) (sc := [false]) (ks := [0,1,2,6,12,87]) (bs := [0,1,2]) (nx := 3) (st' := [It.lp [0, 1, 0, 1, 1, 1], It.blk 4, It.at [1, 1, 1, 1]]) (σ' := { nt := 183, slots := [(0, SV.ptr 0 0 (Ix.c 0)), (1, SV.sl IntKind.u64 Go.Eng.B.kL), (2, SV.sl IntKind.u8 m), (6, SV.ptr 1 0 (Ix.c 0)), (12, SV.ptr 2 0 (Ix.c 0)), (87, SV.c IntKind.i64 (0 : Int))], blks := [(0, { ty := 117, segs := [SV.arr IntKind.u64 8 h] }), (1, { ty := 143, segs := [SV.arr IntKind.u64 80 (W64 m 80)] }), (2, { ty := 117, segs := [SV.arr IntKind.u64 8 h] })], next := 3, m := 1 }) (ob := [Bool.false = Bool.false]) (sc' := []) (by kernel_rfl) (by repeat' first | exact trivial | exact decide_eq_true (by omega) | exact decide_eq_false (by omega) | omega | (simp only [List.length_drop, List.length_take]; omega) | (simp only [decide_eq_true_eq, decide_eq_false_iff_not, List.length_drop, List.length_take]; omega) | refine ⟨?_, ?_⟩) ?_
    exact Hold.weaken (p64_R h m hr _ 0 rfl (by omega)) (by simp [wks, wk, wk0, lim, uR])
theorem round64_c (h m : List Nat) (hm : m.length = 128) : ContractM Tryz.prog 127 [b64 h] [.ptr 0 0 (.c 0), .sl .u64 kL, .sl .u8 m] ⟨.tup [], [b64 (A64 m h 8)], []⟩ := by
  refine contractM Tryz.func127 (body := bodyOf Tryz.f127) rfl (by kernel_rfl) (by kernel_rfl) rfl rfl ?_
  intro _ _ F S _
  refine hold_cut mixed okM12a (unroll := false) (f := 100) (sc := []) (ks := [0,1,2,6,19]) (bs := [0,1]) (nx := 2) (st' := [It.lp [0, 1, 0, 1], It.blk 0, It.at [1, 1]]) (σ' := { nt := 183, slots := [(0, SV.ptr 0 0 (Ix.c 0)), (1, SV.sl IntKind.u64 Go.Eng.B.kL), (2, SV.sl IntKind.u8 m), (6, SV.ptr 1 0 (Ix.c 0)), (19, SV.c IntKind.i64 (0 : Int))], blks := [(0, { ty := 117, segs := [SV.arr IntKind.u64 8 h] }), (1, { ty := 143, segs := [SV.arr IntKind.u64 80 [0, 0, 0, 0, 0, 0, 0, 0, 0, 0, 0, 0, 0, 0, 0, 0, 0, 0, 0, 0, 0, 0, 0, 0, 0, 0, 0, 0, 0, 0, 0, 0, 0, 0, 0, 0, 0, 0, 0, 0, 0, 0, 0, 0, 0, 0, 0, 0, 0, 0, 0, 0, 0, 0, 0, 0, 0, 0, 0, 0, 0, 0, 0, 0, 0, 0, 0, 0, 0, 0, 0, 0, 0, 0, 0, 0, 0, 0, 0, 0]] })], next := 2, m := 1 }) (ob := []) (sc' := []) (by kernel_rfl) trivial ?_
  exact Hold.weaken (p64_W h m hm rfl _ 0 rfl (by omega)) (by simp [wks, wk, wk0, lim, uW])
end
section
variable {w0 : World} {S : Own} {res : SV}
theorem v64_A (h m : List Nat) (hr : res = .arr .u64 8 (A64 m h 8)) : ∀ d i, 8 - i = d → i ≤ 8 → Hold Tryz.prog (bodyOf Tryz.f108) (Fin Tryz.prog Tryz.f108 w0 S res) w0 S vA (xA (A64 m h i) (R64 m h 80) i) := by
  intro d
  induction d using Nat.strongRecOn with
  | _ d ih =>
  intro i hd hi
  by_cases hlt : i < 8
  · refine hold_unroll (c := _) rfl ?_
    refine hold_cut mixed okM12a (unroll := false) (f := 300) (sc := [true]) (ks := [2,4,11,162]) (bs := [0,1,4]) (nx := 5) (st' := [It.lp [0, 1, 0, 1, 1, 1, 1, 1, 1], It.blk 6, It.at [1, 1, 1, 1, 1, 1, 1]]) (σ' := { nt := 175, slots := [(2, SV.ptr 0 0 (Ix.c 0)), (4, SV.ptr 1 0 (Ix.c 0)), (11, SV.ptr 4 0 (Ix.c 0)), (162, SV.u IntKind.i64 (i + 1))], blks := [(0, { ty := 117, segs := [SV.arr IntKind.u64 8 ((A64 m h i).set i (((A64 m h i).getD i 0 + (R64 m h 80).getD i 0) % 18446744073709551616))] }), (1, { ty := 117, segs := [SV.arr IntKind.u64 8 [0, 0, 0, 0, 0, 0, 0, 0]] }), (4, { ty := 117, segs := [SV.arr IntKind.u64 8 (R64 m h 80)] })], next := 5 }) (ob := [Decidable.decide (i < 8) = Bool.true, i < 8, i < 8, i < 8, i < 8, i < 8, i < 8, i + 1 < 9223372036854775808]) (sc' := []) (by kernel_rfl) (by repeat' first | exact trivial | exact decide_eq_true (by omega) | exact decide_eq_false (by omega) | omega | (simp only [List.length_drop, List.length_take]; omega) | (simp only [decide_eq_true_eq, decide_eq_false_iff_not, List.length_drop, List.length_take]; omega) | refine ⟨?_, ?_⟩) ?_
    exact ih (8 - (i + 1)) (by omega) (i + 1) rfl (by omega)
  · have e : i = 8 := by omega
    subst e
    refine hold_unroll (c := _) rfl ?_
    refine hold_end mixed okM12a (unroll := false) (f := 300) (sc := [false]) (r := (SV.arr IntKind.u64 8 (A64 m h 8))) (ob := [Bool.false = Bool.false]) (sc' := []) (by kernel_rfl) (by repeat' first | exact trivial | exact decide_eq_true (by omega) | exact decide_eq_false (by omega) | omega | (simp only [List.length_drop, List.length_take]; omega) | (simp only [decide_eq_true_eq, decide_eq_false_iff_not, List.length_drop, List.length_take]; omega) | refine ⟨?_, ?_⟩) ?_
    exact hr.symm
theorem v64_R (h m : List Nat) (hr : res = .arr .u64 8 (A64 m h 8)) : ∀ d i, 80 - i = d → i ≤ 80 → Hold Tryz.prog (bodyOf Tryz.f108) (Fin Tryz.prog Tryz.f108 w0 S res) w0 S vR (xR h m (W64 m 80) (R64 m h i) i) := by
  intro d
  induction d using Nat.strongRecOn with
  | _ d ih =>
  intro i hd hi
  have hkl := kL_len
  by_cases hlt : i < 80
  · refine hold_unroll (c := _) rfl ?_
    refine hold_cut mixed okM12a (unroll := false) (f := 300) (sc := [true]) (ks := [1,2,4,5,6,11,82]) (bs := [0,1,2,3,4]) (nx := 5) (st' := [It.lp [0, 1, 0, 1, 1, 1, 1, 1], It.blk 4, It.at [1, 1, 1, 1, 1, 1]]) (σ' := { nt := 175, slots := [(1, SV.sl IntKind.u8 m), (2, SV.ptr 0 0 (Ix.c 0)), (4, SV.ptr 1 0 (Ix.c 0)), (5, SV.ptr 2 0 (Ix.c 0)), (6, SV.ptr 3 0 (Ix.c 0)), (11, SV.ptr 4 0 (Ix.c 0)), (82, SV.u IntKind.i64 (i + 1))], blks := [(0, { ty := 117, segs := [SV.arr IntKind.u64 8 h] }), (1, { ty := 117, segs := [SV.arr IntKind.u64 8 [0, 0, 0, 0, 0, 0, 0, 0]] }), (2, { ty := 143, segs := [SV.arr IntKind.u64 80 Go.Eng.B.kL] }), (3, { ty := 143, segs := [SV.arr IntKind.u64 80 (W64 m 80)] }), (4, { ty := 117, segs := [SV.arr IntKind.u64 8 [((((((R64 m h i).getD 7 0 + (((R64 m h i).getD 4 0 * 1125899906842624 % 18446744073709551616 ||| (R64 m h i).getD 4 0 / 16384) ^^^ ((R64 m h i).getD 4 0 * 70368744177664 % 18446744073709551616 ||| (R64 m h i).getD 4 0 / 262144) ^^^ ((R64 m h i).getD 4 0 * 8388608 % 18446744073709551616 ||| (R64 m h i).getD 4 0 / 2199023255552))) % 18446744073709551616 + ((R64 m h i).getD 4 0 &&& (R64 m h i).getD 5 0 ^^^ 18446744073709551615 - (R64 m h i).getD 4 0 &&& (R64 m h i).getD 6 0)) % 18446744073709551616 + Go.Eng.B.kL.getD i 0) % 18446744073709551616 + (W64 m 80).getD i 0) % 18446744073709551616 + ((((R64 m h i).getD 0 0 * 68719476736 % 18446744073709551616 ||| (R64 m h i).getD 0 0 / 268435456) ^^^ ((R64 m h i).getD 0 0 * 1073741824 % 18446744073709551616 ||| (R64 m h i).getD 0 0 / 17179869184) ^^^ ((R64 m h i).getD 0 0 * 33554432 % 18446744073709551616 ||| (R64 m h i).getD 0 0 / 549755813888)) + ((R64 m h i).getD 0 0 &&& (R64 m h i).getD 1 0 ^^^ (R64 m h i).getD 0 0 &&& (R64 m h i).getD 2 0 ^^^ (R64 m h i).getD 1 0 &&& (R64 m h i).getD 2 0)) % 18446744073709551616) % 18446744073709551616, (R64 m h i).getD 0 0, (R64 m h i).getD 1 0, (R64 m h i).getD 2 0, ((R64 m h i).getD 3 0 + (((((R64 m h i).getD 7 0 + (((R64 m h i).getD 4 0 * 1125899906842624 % 18446744073709551616 ||| (R64 m h i).getD 4 0 / 16384) ^^^ ((R64 m h i).getD 4 0 * 70368744177664 % 18446744073709551616 ||| (R64 m h i).getD 4 0 / 262144) ^^^ ((R64 m h i).getD 4 0 * 8388608 % 18446744073709551616 ||| (R64 m h i).getD 4 0 / 2199023255552))) % 18446744073709551616 + ((R64 m h i).getD 4 0 &&& (R64 m h i).getD 5 0 ^^^ 18446744073709551615 - (R64 m h i).getD 4 0 &&& (R64 m h i).getD 6 0)) % 18446744073709551616 + Go.Eng.B.kL.getD i 0) % 18446744073709551616 + (W64 m 80).getD i 0) % 18446744073709551616) % 18446744073709551616, (R64 m h i).getD 4 0, (R64 m h i).getD 5 0, (R64 m h i).getD 6 0]] })], next := 5 }) (ob := [Decidable.decide (i < 80) = Bool.true, i < 80, i < 80, i < 80, i < 80, i + 1 < 9223372036854775808]) (sc' := []) (by kernel_rfl) (by repeat' first | exact trivial | exact decide_eq_true (by omega) | exact decide_eq_false (by omega) | omega | (simp only [List.length_drop, List.length_take]; omega) | (simp only [decide_eq_true_eq, decide_eq_false_iff_not, List.length_drop, List.length_take]; omega) | refine ⟨?_, ?_⟩) ?_
    exact ih (80 - (i + 1)) (by omega) (i + 1) rfl (by omega)
  · have e : i = 80 := by omega
    subst e
    refine hold_unroll (c := _) rfl ?_
    refine hold_cut mixed okM12a (unroll := false) (f := 300) (sc := [false]) (ks := [2,4,11,162]) (bs := [0,1,4]) (nx := 5) (st' := [It.lp [0, 1, 0, 1, 1, 1, 1, 1, 1], It.blk 6, It.at [1, 1, 1, 1, 1, 1, 1]]) (σ' := { nt := 175, slots := [(2, SV.ptr 0 0 (Ix.c 0)), (4, SV.ptr 1 0 (Ix.c 0)), (11, SV.ptr 4 0 (Ix.c 0)), (162, SV.c IntKind.i64 (0 : Int))], blks := [(0, { ty := 117, segs := [SV.arr IntKind.u64 8 h] }), (1, { ty := 117, segs := [SV.arr IntKind.u64 8 [0, 0, 0, 0, 0, 0, 0, 0]] }), (4, { ty := 117, segs := [SV.arr IntKind.u64 8 (R64 m h 80)] })], next := 5 }) (ob := [Bool.false = Bool.false]) (sc' := []) (by kernel_rfl) (by repeat' first | exact trivial | exact decide_eq_true (by omega) | exact decide_eq_false (by omega) | omega | (simp only [List.length_drop, List.length_take]; omega) | (simp only [decide_eq_true_eq, decide_eq_false_iff_not, List.length_drop, List.length_take]; omega) | refine ⟨?_, ?_⟩) ?_
    exact Hold.weaken (v64_A h m hr _ 0 rfl (by omega)) (by simp [wks, wk, wk0, lim, xA])
theorem v64_I (h m w : List Nat) (i : Nat) (hm : m.length = 128) (hi : i < 16) (hk : Hold Tryz.prog (bodyOf Tryz.f108) (Fin Tryz.prog Tryz.f108 w0 S res) w0 S vW (xW h m (I64 m i w 8) (i + 1))) : ∀ d j, 8 - j = d → j ≤ 8 → Hold Tryz.prog (bodyOf Tryz.f108) (Fin Tryz.prog Tryz.f108 w0 S res) w0 S vI (xI h m (I64 m i w j) i j) := by
  intro d
  induction d using Nat.strongRecOn with
  | _ d ih =>
  intro j hd hj
  by_cases hlt : j < 8
  · refine hold_unroll (c := _) rfl ?_
    refine hold_cut mixed okM12a (unroll := false) (f := 300) (sc := [true]) (ks := [1,2,4,5,6,7,19,24]) (bs := [0,1,2,3]) (nx := 4) (st' := [It.lp [0, 1, 0, 0, 1, 0, 1, 0, 0, 1, 1, 0, 0, 1, 0, 1, 1, 1], It.blk 2, It.at [1, 0, 1, 0, 1, 0, 0, 1, 1, 0, 0, 1, 0, 1, 1, 1], It.at [1, 1, 0, 0, 1, 1, 0, 0, 1, 0, 1, 1, 1], It.blk 1, It.at [1, 1, 1, 0, 0, 1, 0, 1, 1, 1], It.lp [0, 1, 0, 1, 1, 1], It.blk 0, It.at [1, 1, 1, 1]]) (σ' := { nt := 175, slots := [(1, SV.sl IntKind.u8 m), (2, SV.ptr 0 0 (Ix.c 0)), (4, SV.ptr 1 0 (Ix.c 0)), (5, SV.ptr 2 0 (Ix.c 0)), (6, SV.ptr 3 0 (Ix.c 0)), (7, SV.u IntKind.i64 i), (19, SV.u IntKind.i64 i), (24, SV.u IntKind.i64 (j + 1))], blks := [(0, { ty := 117, segs := [SV.arr IntKind.u64 8 h] }), (1, { ty := 117, segs := [SV.arr IntKind.u64 8 [0, 0, 0, 0, 0, 0, 0, 0]] }), (2, { ty := 143, segs := [SV.arr IntKind.u64 80 Go.Eng.B.kL] }), (3, { ty := 143, segs := [SV.arr IntKind.u64 80 ((I64 m i w j).set i ((I64 m i w j).getD i 0 * 256 % 18446744073709551616 ||| m.getD (8 * i + j) 0))] })], next := 4 }) (ob := [Decidable.decide (j < 8) = Bool.true, i < 80, i < 80, 8 * i < 9223372036854775808, 8 * i + j < 9223372036854775808, 8 * i + j < m.length, i < 80, i < 80, j + 1 < 9223372036854775808]) (sc' := []) (by kernel_rfl) (by repeat' first | exact trivial | exact decide_eq_true (by omega) | exact decide_eq_false (by omega) | omega | (simp only [List.length_drop, List.length_take]; omega) | (simp only [decide_eq_true_eq, decide_eq_false_iff_not, List.length_drop, List.length_take]; omega) | refine ⟨?_, ?_⟩) ?_
    exact ih (8 - (j + 1)) (by omega) (j + 1) rfl (by omega)
  · have e : j = 8 := by omega
    subst e
    refine hold_unroll (c := _) rfl ?_
    refine hold_cut mixed okM12a (unroll := false) (f := 300) (sc := [false]) (ks := [1,2,4,5,6,19]) (bs := [0,1,2,3]) (nx := 4) (st' := [It.lp [0, 1, 0, 1, 1, 1], It.blk 0, It.at [1, 1, 1, 1]]) (σ' := { nt := 175, slots := [(1, SV.sl IntKind.u8 m), (2, SV.ptr 0 0 (Ix.c 0)), (4, SV.ptr 1 0 (Ix.c 0)), (5, SV.ptr 2 0 (Ix.c 0)), (6, SV.ptr 3 0 (Ix.c 0)), (19, SV.u IntKind.i64 (i + 1))], blks := [(0, { ty := 117, segs := [SV.arr IntKind.u64 8 h] }), (1, { ty := 117, segs := [SV.arr IntKind.u64 8 [0, 0, 0, 0, 0, 0, 0, 0]] }), (2, { ty := 143, segs := [SV.arr IntKind.u64 80 Go.Eng.B.kL] }), (3, { ty := 143, segs := [SV.arr IntKind.u64 80 (I64 m i w 8)] })], next := 4 }) (ob := [Bool.false = Bool.false, i + 1 < 9223372036854775808]) (sc' := []) (by kernel_rfl) (by repeat' first | exact trivial | exact decide_eq_true (by omega) | exact decide_eq_false (by omega) | omega | (simp only [List.length_drop, List.length_take]; omega) | (simp only [decide_eq_true_eq, decide_eq_false_iff_not, List.length_drop, List.length_take]; omega) | refine ⟨?_, ?_⟩) ?_
    exact hk
theorem v64_W (h m : List Nat) (hm : m.length = 128) (hr : res = .arr .u64 8 (A64 m h 8)) : ∀ d i, 80 - i = d → i ≤ 80 → Hold Tryz.prog (bodyOf Tryz.f108) (Fin Tryz.prog Tryz.f108 w0 S res) w0 S vW (xW h m (W64 m i) i) := by
  intro d
  induction d using Nat.strongRecOn with
  | _ d ih =>
  intro i hd hi
  have hs : W64 m (i + 1) = if i < 16 then I64 m i (W64 m i) 8 else (W64 m i).set i (wB64 (W64 m i) i) := rfl
  by_cases hlt : i < 80
  · have e := ih (80 - (i + 1)) (by omega) (i + 1) rfl (by omega)
    refine hold_unroll (c := _) rfl ?_
    by_cases hl2 : i < 16
    · rw [hs, if_pos hl2] at e
      have hcl : (List.drop (8 * i) (List.take (8 * i + 8) m)).length = 8 := by rw [List.length_drop, List.length_take]; omega
      refine hold_cut mixed okM12a (unroll := false) (f := 300) (sc := [true, true]) (ks := [1,2,4,5,6,7,19,24]) (bs := [0,1,2,3]) (nx := 4) (st' := [It.lp [0, 1, 0, 0, 1, 0, 1, 0, 0, 1, 1, 0, 0, 1, 0, 1, 1, 1], It.blk 2, It.at [1, 0, 1, 0, 1, 0, 0, 1, 1, 0, 0, 1, 0, 1, 1, 1], It.at [1, 1, 0, 0, 1, 1, 0, 0, 1, 0, 1, 1, 1], It.blk 1, It.at [1, 1, 1, 0, 0, 1, 0, 1, 1, 1], It.lp [0, 1, 0, 1, 1, 1], It.blk 0, It.at [1, 1, 1, 1]]) (σ' := { nt := 175, slots := [(1, SV.sl IntKind.u8 m), (2, SV.ptr 0 0 (Ix.c 0)), (4, SV.ptr 1 0 (Ix.c 0)), (5, SV.ptr 2 0 (Ix.c 0)), (6, SV.ptr 3 0 (Ix.c 0)), (7, SV.u IntKind.i64 i), (19, SV.u IntKind.i64 i), (24, SV.c IntKind.i64 (0 : Int))], blks := [(0, { ty := 117, segs := [SV.arr IntKind.u64 8 h] }), (1, { ty := 117, segs := [SV.arr IntKind.u64 8 [0, 0, 0, 0, 0, 0, 0, 0]] }), (2, { ty := 143, segs := [SV.arr IntKind.u64 80 Go.Eng.B.kL] }), (3, { ty := 143, segs := [SV.arr IntKind.u64 80 (W64 m i)] })], next := 4 }) (ob := [Decidable.decide (i < 80) = Bool.true, Decidable.decide (i < 16) = Bool.true]) (sc' := []) (by kernel_rfl) (by repeat' first | exact trivial | exact decide_eq_true (by omega) | exact decide_eq_false (by omega) | omega | (simp only [List.length_drop, List.length_take]; omega) | (simp only [decide_eq_true_eq, decide_eq_false_iff_not, List.length_drop, List.length_take]; omega) | refine ⟨?_, ?_⟩) ?_
      exact Hold.weaken (v64_I h m (W64 m i) i hm hl2 e _ 0 rfl (by omega)) (by simp [wks, wk, wk0, lim, xI]; try omega)
    · rw [hs, if_neg hl2] at e
      refine hold_cut mixed okM12a (unroll := false) (f := 300) (sc := [true, false]) (ks := [1,2,4,5,6,19]) (bs := [0,1,2,3]) (nx := 4) (st' := [It.lp [0, 1, 0, 1, 1, 1], It.blk 0, It.at [1, 1, 1, 1]]) (σ' := { nt := 175, slots := [(1, SV.sl IntKind.u8 m), (2, SV.ptr 0 0 (Ix.c 0)), (4, SV.ptr 1 0 (Ix.c 0)), (5, SV.ptr 2 0 (Ix.c 0)), (6, SV.ptr 3 0 (Ix.c 0)), (19, SV.u IntKind.i64 (i + 1))], blks := [(0, { ty := 117, segs := [SV.arr IntKind.u64 8 h] }), (1, { ty := 117, segs := [SV.arr IntKind.u64 8 [0, 0, 0, 0, 0, 0, 0, 0]] }), (2, { ty := 143, segs := [SV.arr IntKind.u64 80 Go.Eng.B.kL] }), (3, { ty := 143, segs := [SV.arr IntKind.u64 80 ((W64 m i).set i (((((((W64 m i).getD ((↑i : Int) - (2 : Int)).toNat 0 * 35184372088832 % 18446744073709551616 ||| (W64 m i).getD ((↑i : Int) - (2 : Int)).toNat 0 / 524288) ^^^ ((W64 m i).getD ((↑i : Int) - (2 : Int)).toNat 0 * 8 % 18446744073709551616 ||| (W64 m i).getD ((↑i : Int) - (2 : Int)).toNat 0 / 2305843009213693952) ^^^ (W64 m i).getD ((↑i : Int) - (2 : Int)).toNat 0 / 64) + (W64 m i).getD ((↑i : Int) - (7 : Int)).toNat 0) % 18446744073709551616 + (((W64 m i).getD ((↑i : Int) - (15 : Int)).toNat 0 * 9223372036854775808 % 18446744073709551616 ||| (W64 m i).getD ((↑i : Int) - (15 : Int)).toNat 0 / 2) ^^^ ((W64 m i).getD ((↑i : Int) - (15 : Int)).toNat 0 * 72057594037927936 % 18446744073709551616 ||| (W64 m i).getD ((↑i : Int) - (15 : Int)).toNat 0 / 256) ^^^ (W64 m i).getD ((↑i : Int) - (15 : Int)).toNat 0 / 128)) % 18446744073709551616 + (W64 m i).getD ((↑i : Int) - (16 : Int)).toNat 0) % 18446744073709551616))] })], next := 4 }) (ob := [Decidable.decide (i < 80) = Bool.true, Decidable.decide (i < 16) = Bool.false, (0 : Int) ≤ (↑i : Int) - (15 : Int), ((↑i : Int) - (15 : Int)).toNat < 80, ((↑i : Int) - (15 : Int)).toNat < 80, (0 : Int) ≤ (↑i : Int) - (2 : Int), ((↑i : Int) - (2 : Int)).toNat < 80, ((↑i : Int) - (2 : Int)).toNat < 80, (0 : Int) ≤ (↑i : Int) - (7 : Int), ((↑i : Int) - (7 : Int)).toNat < 80, ((↑i : Int) - (7 : Int)).toNat < 80, (0 : Int) ≤ (↑i : Int) - (16 : Int), ((↑i : Int) - (16 : Int)).toNat < 80, ((↑i : Int) - (16 : Int)).toNat < 80, i < 80, i < 80, i + 1 < 9223372036854775808]) (sc' := []) (by kernel_rfl) (by repeat' first | exact trivial | exact decide_eq_true (by omega) | exact decide_eq_false (by omega) | omega | (simp only [List.length_drop, List.length_take]; omega) | (simp only [decide_eq_true_eq, decide_eq_false_iff_not, List.length_drop, List.length_take]; omega) | refine ⟨?_, ?_⟩) ?_
      exact e
  · have e : i = 80 := by omega
    subst e
    refine hold_unroll (c := _) rfl ?_
    refine hold_cut mixed okM12a (unroll := false) (f := 300) (sc := [false]) (ks := [1,2,4,5,6,11,82]) (bs := [0,1,2,3,4]) (nx := 5) (st' := [It.lp [0, 1, 0, 1, 1, 1, 1, 1], It.blk 4, It.at [1, 1, 1, 1, 1, 1]]) (σ' := { nt := 175, slots := [(1, SV.sl IntKind.u8 m), (2, SV.ptr 0 0 (Ix.c 0)), (4, SV.ptr 1 0 (Ix.c 0)), (5, SV.ptr 2 0 (Ix.c 0)), (6, SV.ptr 3 0 (Ix.c 0)), (11, SV.ptr 4 0 (Ix.c 0)), (82, SV.c IntKind.i64 (0 : Int))], blks := [(0, { ty := 117, segs := [SV.arr IntKind.u64 8 h] }), (1, { ty := 117, segs := [SV.arr IntKind.u64 8 [0, 0, 0, 0, 0, 0, 0, 0]] }), (2, { ty := 143, segs := [SV.arr IntKind.u64 80 Go.Eng.B.kL] }), (3, { ty := 143, segs := [SV.arr IntKind.u64 80 (W64 m 80)] }), (4, { ty := 117, segs := [SV.arr IntKind.u64 8 h] })], next := 5 }) (ob := [Bool.false = Bool.false]) (sc' := []) (by kernel_rfl) (by repeat' first | exact trivial | exact decide_eq_true (by omega) | exact decide_eq_false (by omega) | omega | (simp only [List.length_drop, List.length_take]; omega) | (simp only [decide_eq_true_eq, decide_eq_false_iff_not, List.length_drop, List.length_take]; omega) | refine ⟨?_, ?_⟩) ?_
    exact Hold.weaken (v64_R h m hr _ 0 rfl (by omega)) (by simp [wks, wk, wk0, lim, xR])
theorem block512_c (h m : List Nat) (hm : m.length = 128) : Contract Tryz.prog 108 [.arr .u64 8 h, .sl .u8 m] (.arr .u64 8 (A64 m h 8)) := by
  refine contract Tryz.func108 (body := bodyOf Tryz.f108) rfl (by kernel_rfl) (by kernel_rfl) rfl ?_
  rintro _ w0 S
  refine hold_cut mixed okM12a (unroll := false) (f := 100) (sc := []) (ks := [1,2,4,5,6,19]) (bs := [0,1,2,3]) (nx := 4) (st' := [It.lp [0, 1, 0, 1, 1, 1], It.blk 0, It.at [1, 1, 1, 1]]) (σ' := { nt := 175, slots := [(1, SV.sl IntKind.u8 m), (2, SV.ptr 0 0 (Ix.c 0)), (4, SV.ptr 1 0 (Ix.c 0)), (5, SV.ptr 2 0 (Ix.c 0)), (6, SV.ptr 3 0 (Ix.c 0)), (19, SV.c IntKind.i64 (0 : Int))], blks := [(0, { ty := 117, segs := [SV.arr IntKind.u64 8 h] }), (1, { ty := 117, segs := [SV.arr IntKind.u64 8 [0, 0, 0, 0, 0, 0, 0, 0]] }), (2, { ty := 143, segs := [SV.arr IntKind.u64 80 Go.Eng.B.kL] }), (3, { ty := 143, segs := [SV.arr IntKind.u64 80 [0, 0, 0, 0, 0, 0, 0, 0, 0, 0, 0, 0, 0, 0, 0, 0, 0, 0, 0, 0, 0, 0, 0, 0, 0, 0, 0, 0, 0, 0, 0, 0, 0, 0, 0, 0, 0, 0, 0, 0, 0, 0, 0, 0, 0, 0, 0, 0, 0, 0, 0, 0, 0, 0, 0, 0, 0, 0, 0, 0, 0, 0, 0, 0, 0, 0, 0, 0, 0, 0, 0, 0, 0, 0, 0, 0, 0, 0, 0, 0]] })], next := 4 }) (ob := []) (sc' := []) (by kernel_rfl) trivial ?_
  exact Hold.weaken (v64_W h m hm rfl _ 0 rfl (by omega)) (by simp [wks, wk, wk0, lim, xW])
end
end Go.Eng.B

namespace Go.Eng.B
open Go Go.Eng Go.Proofs
set_option maxRecDepth 100000
set_option linter.unusedSimpArgs false
def eqL (a b : List Nat) : Bool := match a, b with
  | [], [] => true
  | x :: r, y :: q => Nat.beq x y && eqL r q
  | _, _ => false
noncomputable def eR64 (H : List Bk) (args : List SV) : Option (MRes × List Prop) :=
  match H, args with
  | [⟨117, [.arr .u64 8 h], false⟩], [.ptr 0 0 (.c 0), .sl .u64 k, .sl .u8 m] => some (⟨.tup [], [b64 (A64 m h 8)], []⟩, [k = kL, m.length = 128])
  | _, _ => none
def eB512 (args : List SV) : Option (SV × List Prop) :=
  match args with
  | [.arr .u64 8 h, .sl .u8 m] => some (.arr .u64 8 (A64 m h 8), [m.length = 128])
  | _ => none
noncomputable def M15a : Ctr := addM 127 eR64 (addC 108 eB512 M12a)
def cmp64 (m h : List Nat) (i : Nat) : List Nat := itr (fun h j => A64 (((m.drop (128 * j)).take 128).drop 0) h 8) h i
def out64 (h : List Nat) (i : Nat) : List Nat := itr (fun o j => beL (h.getD j 0) o) [] i
def sum64 (b : List Nat) : List Nat := out64 (cmp64 (pd 128 16 b) hL ((pd 128 16 b).length / 128)) 8
def y3 : List It := [.lp [0, 1, 0, 1, 1], .blk 0, .at [1, 1, 1]]
def z3 (m h : List Nat) : St := ⟨42, [(3, .sl .u64 kL), (4, .ptr 0 0 (.c 0)), (5, .sl .u8 m)], [(0, b64 h)], 1, 0⟩
def y4 : List It := [.at [0, 1, 0, 0, 1, 0, 1, 1, 1, 1], .at [1, 1, 0, 0, 1, 0, 1, 1, 1, 1], .lp [0, 1, 0, 1, 1, 1, 1], .blk 2, .at [1, 1, 1, 1, 1]]
def z4 (h : List Nat) (i : Nat) : St := ⟨42, [(6, .row 1 (.sl .u8 (out64 h i))), (25, .arr .u64 8 h), (26, .u .i64 i), (27, .b (decide (i < 8)))], [(1, bY)], 4, 0⟩
def y2 : List It := [.lp [0, 1, 0, 1, 1, 1], .blk 0, .at [1, 1, 1, 1]]
def z2 (m h : List Nat) (i : Nat) : St := ⟨45, [(3, .ptr 0 0 (.c 0)), (4, .sl .u8 m), (5, .u .i64 (128 * i))], [(0, b64 h)], 1, 0⟩
def y5 : List It := [.at [0, 1, 0, 0, 1, 0, 1, 1, 1, 1, 1], .at [1, 1, 0, 0, 1, 0, 1, 1, 1, 1, 1], .lp [0, 1, 0, 1, 1, 1, 1, 1], .blk 2, .at [1, 1, 1, 1, 1, 1]]
def z5 (h : List Nat) (i : Nat) : St := ⟨45, [(6, .row 1 (.sl .u8 (out64 h i))), (26, .arr .u64 8 h), (27, .u .i64 i), (28, .b (decide (i < 8)))], [(1, bY)], 4, 0⟩
def y4h : List It := [.lp [0, 1, 0, 1, 1, 1, 1], .blk 2, .at [1, 1, 1, 1, 1]]
def z4h (h : List Nat) : St := ⟨42, [(6, .row 1 (.sl .u8 [])), (25, .arr .u64 8 h), (26, .u .i64 0)], [(1, bY)], 4, 0⟩
def y5h : List It := [.lp [0, 1, 0, 1, 1, 1, 1, 1], .blk 2, .at [1, 1, 1, 1, 1, 1]]
def z5h (h : List Nat) : St := ⟨45, [(6, .row 1 (.sl .u8 [])), (26, .arr .u64 8 h), (27, .u .i64 0)], [(1, bY)], 4, 0⟩
theorem cR64 : ∀ H args r ob, eR64 H args = some (r, ob) → All ob → ContractM Tryz.prog 127 H args r := by
  intro H args r ob h hob
  unfold eR64 at h
  split at h
  · cases h
    have hk := hob.1
    subst hk
    exact round64_c _ _ hob.2.1
  · cases h
theorem cB512 : ∀ args res ob, eB512 args = some (res, ob) → All ob → Contract Tryz.prog 108 args res := by
  intro args res ob h hob
  unfold eB512 at h
  split at h
  · cases h; exact block512_c _ _ hob.1
  · cases h
theorem okM15a : CtrOk Tryz.prog M15a := addM_ok (addC_ok okM12a cB512) cR64
theorem out64_len (h : List Nat) : ∀ i, (out64 h i).length = 8 * i := by
  intro i
  induction i with
  | zero => rfl
  | succ i ih => show (beL _ (out64 h i)).length = _; simp only [beL, List.length_append, ih, List.length_cons, List.length_nil]; omega
theorem pd64_len (b : List Nat) : (pd 128 16 b).length = b.length + 1 + (zP 128 16 b.length + 8) + 8 := by
  simp [pd, beL, pdM_len]
theorem pd64_mul (b : List Nat) : (pd 128 16 b).length = 128 * ((pd 128 16 b).length / 128) := by
  rw [pd64_len]; unfold zP; omega
theorem cut_ref64 (m : List Nat) (i : Nat) : (m.take (128 * i + 128)).drop (128 * i) = ((m.drop (128 * i)).take 128).drop 0 := by
  rw [List.drop_zero, List.drop_take, Nat.add_sub_cancel_left]
section
variable {w0 : World} {S : Own} {res : SV}
theorem z512_4 (h : List Nat) (hr : res = .sl .u8 (out64 h 8)) : ∀ d i, 8 - i = d → i ≤ 8 →
    Hold Tryz.prog (bodyOf Tryz.f99) (Fin Tryz.prog Tryz.f99 w0 S res) w0 S y4 (z4 h i) := by
  intro d
  induction d using Nat.strongRecOn with
  | _ d ih =>
  intro i hd hi
  by_cases hlt : i < 8
  · have e := ih (8 - (i + 1)) (by omega) (i + 1) rfl (by omega)
    refine hold_cut mixed okM15a (unroll := true) (f := 600) (sc := [true]) (ks := [6,25,26,27]) (bs := [1]) (nx := 4) (st' := [It.at [0, 1, 0, 0, 1, 0, 1, 1, 1, 1], It.at [1, 1, 0, 0, 1, 0, 1, 1, 1, 1], It.lp [0, 1, 0, 1, 1, 1, 1], It.blk 2, It.at [1, 1, 1, 1, 1]]) (σ' := { nt := 42, slots := [(6, SV.row 1 (SV.sl IntKind.u8 (out64 h i ++ [h.getD i 0 / 72057594037927936 % 256] ++ [h.getD i 0 / 281474976710656 % 256] ++ [h.getD i 0 / 1099511627776 % 256] ++ [h.getD i 0 / 4294967296 % 256] ++ [h.getD i 0 / 16777216 % 256] ++ [h.getD i 0 / 65536 % 256] ++ [h.getD i 0 / 256 % 256] ++ [h.getD i 0 / 1 % 256]))), (25, SV.arr IntKind.u64 8 h), (26, SV.u IntKind.i64 (i + 1)), (27, SV.b (Decidable.decide (i + 1 < 8)))], blks := [(1, { ty := 5, segs := [], row := Bool.true })], next := 4 }) (ob := [Decidable.decide (i < 8) = Bool.true, i < 8, Go.Eng.slenD (SV.sl IntKind.u8 (out64 h i ++ [h.getD i 0 / 72057594037927936 % 256])) * 1 ≤ 140737488355328, Go.Eng.slenD (SV.sl IntKind.u8 (out64 h i ++ [h.getD i 0 / 72057594037927936 % 256] ++ [h.getD i 0 / 281474976710656 % 256])) * 1 ≤ 140737488355328, Go.Eng.slenD (SV.sl IntKind.u8 (out64 h i ++ [h.getD i 0 / 72057594037927936 % 256] ++ [h.getD i 0 / 281474976710656 % 256] ++ [h.getD i 0 / 1099511627776 % 256])) * 1 ≤ 140737488355328, Go.Eng.slenD (SV.sl IntKind.u8 (out64 h i ++ [h.getD i 0 / 72057594037927936 % 256] ++ [h.getD i 0 / 281474976710656 % 256] ++ [h.getD i 0 / 1099511627776 % 256] ++ [h.getD i 0 / 4294967296 % 256])) * 1 ≤ 140737488355328, Go.Eng.slenD (SV.sl IntKind.u8 (out64 h i ++ [h.getD i 0 / 72057594037927936 % 256] ++ [h.getD i 0 / 281474976710656 % 256] ++ [h.getD i 0 / 1099511627776 % 256] ++ [h.getD i 0 / 4294967296 % 256] ++ [h.getD i 0 / 16777216 % 256])) * 1 ≤ 140737488355328, Go.Eng.slenD (SV.sl IntKind.u8 (out64 h i ++ [h.getD i 0 / 72057594037927936 % 256] ++ [h.getD i 0 / 281474976710656 % 256] ++ [h.getD i 0 / 1099511627776 % 256] ++ [h.getD i 0 / 4294967296 % 256] ++ [h.getD i 0 / 16777216 % 256] ++ [h.getD i 0 / 65536 % 256])) * 1 ≤ 140737488355328, Go.Eng.slenD (SV.sl IntKind.u8 (out64 h i ++ [h.getD i 0 / 72057594037927936 % 256] ++ [h.getD i 0 / 281474976710656 % 256] ++ [h.getD i 0 / 1099511627776 % 256] ++ [h.getD i 0 / 4294967296 % 256] ++ [h.getD i 0 / 16777216 % 256] ++ [h.getD i 0 / 65536 % 256] ++ [h.getD i 0 / 256 % 256])) * 1 ≤ 140737488355328, Go.Eng.slenD (SV.sl IntKind.u8 (out64 h i ++ [h.getD i 0 / 72057594037927936 % 256] ++ [h.getD i 0 / 281474976710656 % 256] ++ [h.getD i 0 / 1099511627776 % 256] ++ [h.getD i 0 / 4294967296 % 256] ++ [h.getD i 0 / 16777216 % 256] ++ [h.getD i 0 / 65536 % 256] ++ [h.getD i 0 / 256 % 256] ++ [h.getD i 0 / 1 % 256])) * 1 ≤ 140737488355328, i + 1 < 9223372036854775808]) (sc' := []) (by kernel_rfl) (by repeat' first | exact trivial | exact decide_eq_true (by omega) | exact decide_eq_false (by omega) | exact Eq.refl kL | omega | (simp only [List.length_drop, List.length_take]; omega) | (simp only [decide_eq_true_eq, decide_eq_false_iff_not, List.length_drop, List.length_take]; omega) | (simp only [slenD, SV.slen, Option.getD_some, List.length_append, List.length_cons, List.length_nil, out64_len]; omega) | refine ⟨?_, ?_⟩) ?_
    exact e
  · have e : i = 8 := by omega
    subst e
    refine hold_end mixed okM15a (unroll := true) (f := 300) (sc := [false]) (r := (SV.sl IntKind.u8 (out64 h 8))) (ob := [Bool.false = Bool.false]) (sc' := []) (by kernel_rfl) (by repeat' first | exact trivial | exact decide_eq_true (by omega) | exact decide_eq_false (by omega) | exact Eq.refl kL | omega | (simp only [List.length_drop, List.length_take]; omega) | (simp only [decide_eq_true_eq, decide_eq_false_iff_not, List.length_drop, List.length_take]; omega) | (simp only [slenD, SV.slen, Option.getD_some, List.length_append, List.length_cons, List.length_nil, out64_len]; omega) | refine ⟨?_, ?_⟩) ?_
    exact hr.symm
theorem z512_h (h : List Nat) (hr : res = .sl .u8 (out64 h 8)) : Hold Tryz.prog (bodyOf Tryz.f99) (Fin Tryz.prog Tryz.f99 w0 S res) w0 S y4h (z4h h) := by
  refine hold_unroll (c := _) rfl ?_
  refine hold_cut mixed okM15a (unroll := true) (f := 300) (sc := []) (ks := [6,25,26,27]) (bs := [1]) (nx := 4) (st' := [It.at [0, 1, 0, 0, 1, 0, 1, 1, 1, 1], It.at [1, 1, 0, 0, 1, 0, 1, 1, 1, 1], It.lp [0, 1, 0, 1, 1, 1, 1], It.blk 2, It.at [1, 1, 1, 1, 1]]) (σ' := { nt := 42, slots := [(6, SV.row 1 (SV.sl IntKind.u8 [])), (25, SV.arr IntKind.u64 8 h), (26, SV.u IntKind.i64 0), (27, SV.b Bool.true)], blks := [(1, { ty := 5, segs := [], row := Bool.true })], next := 4 }) (ob := []) (sc' := []) (by kernel_rfl) trivial ?_
  exact z512_4 h hr _ 0 rfl (by omega)
theorem z512_3 (m h : List Nat) (n : Nat) (hn : m.length = 128 * n) (hr : res = .sl .u8 (out64 (cmp64 m h n) 8)) : ∀ d i, n - i = d → i ≤ n →
    Hold Tryz.prog (bodyOf Tryz.f99) (Fin Tryz.prog Tryz.f99 w0 S res) w0 S y3 (z3 (m.drop (128 * i)) (cmp64 m h i)) := by
  intro d
  induction d using Nat.strongRecOn with
  | _ d ih =>
  intro i hd hi
  by_cases hlt : i < n
  · have e := ih (n - (i + 1)) (by omega) (i + 1) rfl (by omega)
    refine hold_unroll (c := _) rfl ?_
    refine hold_cut mixed okM15a (unroll := false) (f := 300) (sc := [true]) (ks := [3,4,5]) (bs := [0]) (nx := 1) (st' := [It.lp [0, 1, 0, 1, 1], It.blk 0, It.at [1, 1, 1]]) (σ' := { nt := 42, slots := [(3, SV.sl IntKind.u64 Go.Eng.B.kL), (4, SV.ptr 0 0 (Ix.c 0)), (5, SV.sl IntKind.u8 (List.drop 128 (List.take (List.drop (128 * i) m).length (List.drop (128 * i) m))))], blks := [(0, { ty := 117, segs := [SV.arr IntKind.u64 8 (Go.Eng.B.A64 (List.drop 0 (List.take 128 (List.drop (128 * i) m))) (cmp64 m h i) 8)] })], next := 1 }) (ob := [Decidable.decide (0 < (List.drop (128 * i) m).length) = Bool.true, 0 ≤ 128, 128 ≤ (List.drop (128 * i) m).length, Go.Eng.B.kL = Go.Eng.B.kL, (List.drop 0 (List.take 128 (List.drop (128 * i) m))).length = 128, 128 ≤ (List.drop (128 * i) m).length, (List.drop (128 * i) m).length ≤ (List.drop (128 * i) m).length]) (sc' := []) (by kernel_rfl) (by repeat' first | exact trivial | exact decide_eq_true (by omega) | exact decide_eq_false (by omega) | exact Eq.refl kL | omega | (simp only [List.length_drop, List.length_take]; omega) | (simp only [decide_eq_true_eq, decide_eq_false_iff_not, List.length_drop, List.length_take]; omega) | (simp only [slenD, SV.slen, Option.getD_some, List.length_append, List.length_cons, List.length_nil, out64_len]; omega) | refine ⟨?_, ?_⟩) ?_
    rw [List.take_of_length_le (Nat.le_refl _), List.drop_drop, show 128 * i + 128 = 128 * (i + 1) by omega]
    exact e
  · have e : i = n := by omega
    subst e
    refine hold_unroll (c := _) rfl ?_
    refine hold_cut mixed okM15a (unroll := false) (f := 300) (sc := [false]) (ks := [6,25,26]) (bs := []) (nx := 1) (st' := [It.lp [0, 1, 0, 1, 1, 1, 1], It.blk 2, It.at [1, 1, 1, 1, 1]]) (σ' := { nt := 42, slots := [(6, SV.nil), (25, SV.arr IntKind.u64 8 (cmp64 m h i)), (26, SV.c IntKind.i64 (0 : Int))], blks := [], next := 1 }) (ob := [Decidable.decide (0 < (List.drop (128 * i) m).length) = Bool.false]) (sc' := []) (by kernel_rfl) (by repeat' first | exact trivial | exact decide_eq_true (by omega) | exact decide_eq_false (by omega) | exact Eq.refl kL | omega | (simp only [List.length_drop, List.length_take]; omega) | (simp only [decide_eq_true_eq, decide_eq_false_iff_not, List.length_drop, List.length_take]; omega) | (simp only [slenD, SV.slen, Option.getD_some, List.length_append, List.length_cons, List.length_nil, out64_len]; omega) | refine ⟨?_, ?_⟩) ?_
    refine hold_nil (t := 6) (e := 5) (s0 := .sl .u8 []) rfl ?_
    refine hold_restrict (ks := [6,25,26]) (bs := [1]) (nx := 4) rfl ?_
    exact Hold.weaken (z512_h _ hr) (by simp [wks, wk, wk0, lim, z4h])
theorem sum512_c (b : List Nat) (hb : b.length ≤ 1000000) : Contract Tryz.prog 99 [.sl .u8 b] (.sl .u8 (sum64 b)) := by
  refine contract Tryz.func99 (body := bodyOf Tryz.f99) rfl (by kernel_rfl) (by kernel_rfl) rfl ?_
  rintro _ w0 S
  refine hold_cut mixed okM15a (unroll := false) (f := 100) (sc := []) (ks := [3,4,5]) (bs := [0]) (nx := 1) (st' := [It.lp [0, 1, 0, 1, 1], It.blk 0, It.at [1, 1, 1]]) (σ' := { nt := 42, slots := [(3, SV.sl IntKind.u64 Go.Eng.B.kL), (4, SV.ptr 0 0 (Ix.c 0)), (5, SV.sl IntKind.u8 (Go.Eng.B.pd 128 16 b))], blks := [(0, { ty := 117, segs := [SV.arr IntKind.u64 8 Go.Eng.B.hL] })], next := 1 }) (ob := [b.length ≤ 1000000]) (sc' := []) (by kernel_rfl) (by repeat' first | exact trivial | exact decide_eq_true (by omega) | exact decide_eq_false (by omega) | exact Eq.refl kL | omega | (simp only [List.length_drop, List.length_take]; omega) | (simp only [decide_eq_true_eq, decide_eq_false_iff_not, List.length_drop, List.length_take]; omega) | (simp only [slenD, SV.slen, Option.getD_some, List.length_append, List.length_cons, List.length_nil, out64_len]; omega) | refine ⟨?_, ?_⟩) ?_
  exact z512_3 (pd 128 16 b) hL _ (pd64_mul b) rfl _ 0 rfl (by omega)
theorem w512_4 (h : List Nat) (hr : res = .sl .u8 (out64 h 8)) : ∀ d i, 8 - i = d → i ≤ 8 →
    Hold Tryz.prog (bodyOf Tryz.f60) (Fin Tryz.prog Tryz.f60 w0 S res) w0 S y5 (z5 h i) := by
  intro d
  induction d using Nat.strongRecOn with
  | _ d ih =>
  intro i hd hi
  by_cases hlt : i < 8
  · have e := ih (8 - (i + 1)) (by omega) (i + 1) rfl (by omega)
    refine hold_cut mixed okM15a (unroll := true) (f := 600) (sc := [true]) (ks := [6,26,27,28]) (bs := [1]) (nx := 4) (st' := [It.at [0, 1, 0, 0, 1, 0, 1, 1, 1, 1, 1], It.at [1, 1, 0, 0, 1, 0, 1, 1, 1, 1, 1], It.lp [0, 1, 0, 1, 1, 1, 1, 1], It.blk 2, It.at [1, 1, 1, 1, 1, 1]]) (σ' := { nt := 45, slots := [(6, SV.row 1 (SV.sl IntKind.u8 (out64 h i ++ [h.getD i 0 / 72057594037927936 % 256] ++ [h.getD i 0 / 281474976710656 % 256] ++ [h.getD i 0 / 1099511627776 % 256] ++ [h.getD i 0 / 4294967296 % 256] ++ [h.getD i 0 / 16777216 % 256] ++ [h.getD i 0 / 65536 % 256] ++ [h.getD i 0 / 256 % 256] ++ [h.getD i 0 / 1 % 256]))), (26, SV.arr IntKind.u64 8 h), (27, SV.u IntKind.i64 (i + 1)), (28, SV.b (Decidable.decide (i + 1 < 8)))], blks := [(1, { ty := 5, segs := [], row := Bool.true })], next := 4 }) (ob := [Decidable.decide (i < 8) = Bool.true, i < 8, Go.Eng.slenD (SV.sl IntKind.u8 (out64 h i ++ [h.getD i 0 / 72057594037927936 % 256])) * 1 ≤ 140737488355328, Go.Eng.slenD (SV.sl IntKind.u8 (out64 h i ++ [h.getD i 0 / 72057594037927936 % 256] ++ [h.getD i 0 / 281474976710656 % 256])) * 1 ≤ 140737488355328, Go.Eng.slenD (SV.sl IntKind.u8 (out64 h i ++ [h.getD i 0 / 72057594037927936 % 256] ++ [h.getD i 0 / 281474976710656 % 256] ++ [h.getD i 0 / 1099511627776 % 256])) * 1 ≤ 140737488355328, Go.Eng.slenD (SV.sl IntKind.u8 (out64 h i ++ [h.getD i 0 / 72057594037927936 % 256] ++ [h.getD i 0 / 281474976710656 % 256] ++ [h.getD i 0 / 1099511627776 % 256] ++ [h.getD i 0 / 4294967296 % 256])) * 1 ≤ 140737488355328, Go.Eng.slenD (SV.sl IntKind.u8 (out64 h i ++ [h.getD i 0 / 72057594037927936 % 256] ++ [h.getD i 0 / 281474976710656 % 256] ++ [h.getD i 0 / 1099511627776 % 256] ++ [h.getD i 0 / 4294967296 % 256] ++ [h.getD i 0 / 16777216 % 256])) * 1 ≤ 140737488355328, Go.Eng.slenD (SV.sl IntKind.u8 (out64 h i ++ [h.getD i 0 / 72057594037927936 % 256] ++ [h.getD i 0 / 281474976710656 % 256] ++ [h.getD i 0 / 1099511627776 % 256] ++ [h.getD i 0 / 4294967296 % 256] ++ [h.getD i 0 / 16777216 % 256] ++ [h.getD i 0 / 65536 % 256])) * 1 ≤ 140737488355328, Go.Eng.slenD (SV.sl IntKind.u8 (out64 h i ++ [h.getD i 0 / 72057594037927936 % 256] ++ [h.getD i 0 / 281474976710656 % 256] ++ [h.getD i 0 / 1099511627776 % 256] ++ [h.getD i 0 / 4294967296 % 256] ++ [h.getD i 0 / 16777216 % 256] ++ [h.getD i 0 / 65536 % 256] ++ [h.getD i 0 / 256 % 256])) * 1 ≤ 140737488355328, Go.Eng.slenD (SV.sl IntKind.u8 (out64 h i ++ [h.getD i 0 / 72057594037927936 % 256] ++ [h.getD i 0 / 281474976710656 % 256] ++ [h.getD i 0 / 1099511627776 % 256] ++ [h.getD i 0 / 4294967296 % 256] ++ [h.getD i 0 / 16777216 % 256] ++ [h.getD i 0 / 65536 % 256] ++ [h.getD i 0 / 256 % 256] ++ [h.getD i 0 / 1 % 256])) * 1 ≤ 140737488355328, i + 1 < 9223372036854775808]) (sc' := []) (by kernel_rfl) (by repeat' first | exact trivial | exact decide_eq_true (by omega) | exact decide_eq_false (by omega) | exact Eq.refl kL | omega | (simp only [List.length_drop, List.length_take]; omega) | (simp only [decide_eq_true_eq, decide_eq_false_iff_not, List.length_drop, List.length_take]; omega) | (simp only [slenD, SV.slen, Option.getD_some, List.length_append, List.length_cons, List.length_nil, out64_len]; omega) | refine ⟨?_, ?_⟩) ?_
    exact e
  · have e : i = 8 := by omega
    subst e
    refine hold_end mixed okM15a (unroll := true) (f := 300) (sc := [false]) (r := (SV.sl IntKind.u8 (out64 h 8))) (ob := [Bool.false = Bool.false]) (sc' := []) (by kernel_rfl) (by repeat' first | exact trivial | exact decide_eq_true (by omega) | exact decide_eq_false (by omega) | exact Eq.refl kL | omega | (simp only [List.length_drop, List.length_take]; omega) | (simp only [decide_eq_true_eq, decide_eq_false_iff_not, List.length_drop, List.length_take]; omega) | (simp only [slenD, SV.slen, Option.getD_some, List.length_append, List.length_cons, List.length_nil, out64_len]; omega) | refine ⟨?_, ?_⟩) ?_
    exact hr.symm
theorem w512_h (h : List Nat) (hr : res = .sl .u8 (out64 h 8)) : Hold Tryz.prog (bodyOf Tryz.f60) (Fin Tryz.prog Tryz.f60 w0 S res) w0 S y5h (z5h h) := by
  refine hold_unroll (c := _) rfl ?_
  refine hold_cut mixed okM15a (unroll := true) (f := 300) (sc := []) (ks := [6,26,27,28]) (bs := [1]) (nx := 4) (st' := [It.at [0, 1, 0, 0, 1, 0, 1, 1, 1, 1, 1], It.at [1, 1, 0, 0, 1, 0, 1, 1, 1, 1, 1], It.lp [0, 1, 0, 1, 1, 1, 1, 1], It.blk 2, It.at [1, 1, 1, 1, 1, 1]]) (σ' := { nt := 45, slots := [(6, SV.row 1 (SV.sl IntKind.u8 [])), (26, SV.arr IntKind.u64 8 h), (27, SV.u IntKind.i64 0), (28, SV.b Bool.true)], blks := [(1, { ty := 5, segs := [], row := Bool.true })], next := 4 }) (ob := []) (sc' := []) (by kernel_rfl) trivial ?_
  exact w512_4 h hr _ 0 rfl (by omega)
theorem w512_2 (m h : List Nat) (n : Nat) (hn : m.length = 128 * n) (hn2 : n < 100000) (hr : res = .sl .u8 (out64 (cmp64 m h n) 8)) : ∀ d i, n - i = d → i ≤ n →
    Hold Tryz.prog (bodyOf Tryz.f60) (Fin Tryz.prog Tryz.f60 w0 S res) w0 S y2 (z2 m (cmp64 m h i) i) := by
  intro d
  induction d using Nat.strongRecOn with
  | _ d ih =>
  intro i hd hi
  by_cases hlt : i < n
  · have e := ih (n - (i + 1)) (by omega) (i + 1) rfl (by omega)
    refine hold_unroll (c := _) rfl ?_
    refine hold_cut mixed okM15a (unroll := false) (f := 300) (sc := [true]) (ks := [3,4,5]) (bs := [0]) (nx := 1) (st' := [It.lp [0, 1, 0, 1, 1, 1], It.blk 0, It.at [1, 1, 1, 1]]) (σ' := { nt := 45, slots := [(3, SV.ptr 0 0 (Ix.c 0)), (4, SV.sl IntKind.u8 m), (5, SV.u IntKind.i64 (128 * i + 128))], blks := [(0, { ty := 117, segs := [SV.arr IntKind.u64 8 (Go.Eng.B.A64 (List.drop (128 * i) (List.take (128 * i + 128) m)) (cmp64 m h i) 8)] })], next := 1 }) (ob := [Decidable.decide (128 * i < m.length) = Bool.true, 128 * i + 128 < 9223372036854775808, 128 * i ≤ 128 * i + 128, 128 * i + 128 ≤ m.length, (List.drop (128 * i) (List.take (128 * i + 128) m)).length = 128, 128 * i + 128 < 9223372036854775808]) (sc' := []) (by kernel_rfl) (by repeat' first | exact trivial | exact decide_eq_true (by omega) | exact decide_eq_false (by omega) | exact Eq.refl kL | omega | (simp only [List.length_drop, List.length_take]; omega) | (simp only [decide_eq_true_eq, decide_eq_false_iff_not, List.length_drop, List.length_take]; omega) | (simp only [slenD, SV.slen, Option.getD_some, List.length_append, List.length_cons, List.length_nil, out64_len]; omega) | refine ⟨?_, ?_⟩) ?_
    rw [cut_ref64]
    exact e
  · have e : i = n := by omega
    subst e
    refine hold_unroll (c := _) rfl ?_
    refine hold_cut mixed okM15a (unroll := false) (f := 300) (sc := [false]) (ks := [6,26,27]) (bs := []) (nx := 1) (st' := [It.lp [0, 1, 0, 1, 1, 1, 1, 1], It.blk 2, It.at [1, 1, 1, 1, 1, 1]]) (σ' := { nt := 45, slots := [(6, SV.nil), (26, SV.arr IntKind.u64 8 (cmp64 m h i)), (27, SV.c IntKind.i64 (0 : Int))], blks := [], next := 1 }) (ob := [Decidable.decide (128 * i < m.length) = Bool.false]) (sc' := []) (by kernel_rfl) (by repeat' first | exact trivial | exact decide_eq_true (by omega) | exact decide_eq_false (by omega) | exact Eq.refl kL | omega | (simp only [List.length_drop, List.length_take]; omega) | (simp only [decide_eq_true_eq, decide_eq_false_iff_not, List.length_drop, List.length_take]; omega) | (simp only [slenD, SV.slen, Option.getD_some, List.length_append, List.length_cons, List.length_nil, out64_len]; omega) | refine ⟨?_, ?_⟩) ?_
    refine hold_nil (t := 6) (e := 5) (s0 := .sl .u8 []) rfl ?_
    refine hold_restrict (ks := [6,26,27]) (bs := [1]) (nx := 4) rfl ?_
    exact Hold.weaken (w512_h _ hr) (by simp [wks, wk, wk0, lim, z5h])
theorem qsum512_c (b : List Nat) (hb : b.length ≤ 1000000) : Contract Tryz.prog 60 [.sl .u8 b] (.sl .u8 (sum64 b)) := by
  refine contract Tryz.func60 (body := bodyOf Tryz.f60) rfl (by kernel_rfl) (by kernel_rfl) rfl ?_
  rintro _ w0 S
  have hl := pd64_len b
  have hz : zP 128 16 b.length < 128 := Nat.mod_lt _ (by decide)
  refine hold_cut mixed okM15a (unroll := false) (f := 100) (sc := []) (ks := [3,4,5]) (bs := [0]) (nx := 1) (st' := [It.lp [0, 1, 0, 1, 1, 1], It.blk 0, It.at [1, 1, 1, 1]]) (σ' := { nt := 45, slots := [(3, SV.ptr 0 0 (Ix.c 0)), (4, SV.sl IntKind.u8 (Go.Eng.B.pd 128 16 b)), (5, SV.c IntKind.i64 (0 : Int))], blks := [(0, { ty := 117, segs := [SV.arr IntKind.u64 8 Go.Eng.B.hL] })], next := 1 }) (ob := [b.length ≤ 1000000]) (sc' := []) (by kernel_rfl) (by repeat' first | exact trivial | exact decide_eq_true (by omega) | exact decide_eq_false (by omega) | exact Eq.refl kL | omega | (simp only [List.length_drop, List.length_take]; omega) | (simp only [decide_eq_true_eq, decide_eq_false_iff_not, List.length_drop, List.length_take]; omega) | (simp only [slenD, SV.slen, Option.getD_some, List.length_append, List.length_cons, List.length_nil, out64_len]; omega) | refine ⟨?_, ?_⟩) ?_
  exact Hold.weaken (w512_2 (pd 128 16 b) hL _ (pd64_mul b) (by omega) rfl _ 0 rfl (by omega)) (by simp [wks, wk, wk0, lim, z2])
end
end Go.Eng.B

