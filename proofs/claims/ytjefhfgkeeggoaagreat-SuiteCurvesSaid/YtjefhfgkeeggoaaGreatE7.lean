import Derived.Test.YtjefhfgkeeggoaaGreatE6
import Derived.KernelRfl
import Derived.Test.YtjefhfgkeeggoaaGreatProg
set_option linter.unusedVariables false
set_option linter.unusedSimpArgs false
set_option linter.unusedSectionVars false
namespace Go.Eng.G
open Go Go.Eng Go.Proofs
set_option maxRecDepth 100000
def clampL (l : List Nat) : List Nat := (l.set 0 (l.getD 0 0 &&& 248)).set 31 (((l.set 0 (l.getD 0 0 &&& 248)).getD 31 0 &&& 127) ||| 64)
def maskL (l : List Nat) : List Nat := l.set 31 (l.getD 31 0 &&& 127)
def e33 := t1b (fun l => .arr .u8 32 (clampL l))
def e34 := t1b (fun l => .arr .u8 32 (clampL l))
def sfA (x z : Nat) : Nat := addF x z
def sfX2 (x2 z2 : Nat) : Nat := mulF (mulF (addF x2 z2) (addF x2 z2)) (mulF (subF x2 z2) (subF x2 z2))
def sfE (x2 z2 : Nat) : Nat := subF (mulF (addF x2 z2) (addF x2 z2)) (mulF (subF x2 z2) (subF x2 z2))
def sfZ2 (x2 z2 : Nat) : Nat := mulF (sfE x2 z2) (addF (mulF (addF x2 z2) (addF x2 z2)) (mulF (sfE x2 z2) 121665))
def sfDA (x2 z2 x3 z3 : Nat) : Nat := mulF (subF x3 z3) (addF x2 z2)
def sfCB (x2 z2 x3 z3 : Nat) : Nat := mulF (addF x3 z3) (subF x2 z2)
def sfX3 (x2 z2 x3 z3 : Nat) : Nat := mulF (addF (sfDA x2 z2 x3 z3) (sfCB x2 z2 x3 z3)) (addF (sfDA x2 z2 x3 z3) (sfCB x2 z2 x3 z3))
def sfZ3 (x2 z2 x3 z3 u : Nat) : Nat := mulF u (mulF (subF (sfDA x2 z2 x3 z3) (sfCB x2 z2 x3 z3)) (subF (sfDA x2 z2 x3 z3) (sfCB x2 z2 x3 z3)))
def e71 (args : List SV) : Option (SV × List Prop) :=
  match args with
  | [.ag [.arr .u64 4 a, .arr .u64 4 b], .ag [.arr .u64 4 c, .arr .u64 4 d], .arr .u64 4 u] =>
    some (.tup [.ag [fe (sfX2 (vF a) (vF b)), fe (sfZ2 (vF a) (vF b))], .ag [fe (sfX3 (vF a) (vF b) (vF c) (vF d)), fe (sfZ3 (vF a) (vF b) (vF c) (vF d) (vF u))]], [])
  | _ => none
def pl (a b : Nat) : Nat := (a + b) % P255
def mi (a b : Nat) : Nat := (a + P255 - b) % P255
def ml (a b : Nat) : Nat := a * b % P255
def stE (x2 z2 : Nat) : Nat := mi (ml (pl x2 z2) (pl x2 z2)) (ml (mi x2 z2) (mi x2 z2))
def stX2 (x2 z2 : Nat) : Nat := ml (ml (pl x2 z2) (pl x2 z2)) (ml (mi x2 z2) (mi x2 z2))
def stZ2 (x2 z2 : Nat) : Nat := ml (stE x2 z2) (pl (ml (pl x2 z2) (pl x2 z2)) (ml 121665 (stE x2 z2)))
def stDA (x2 z2 x3 z3 : Nat) : Nat := ml (mi x3 z3) (pl x2 z2)
def stCB (x2 z2 x3 z3 : Nat) : Nat := ml (pl x3 z3) (mi x2 z2)
def stX3 (x2 z2 x3 z3 : Nat) : Nat := ml (pl (stDA x2 z2 x3 z3) (stCB x2 z2 x3 z3)) (pl (stDA x2 z2 x3 z3) (stCB x2 z2 x3 z3))
def stZ3 (x2 z2 x3 z3 u : Nat) : Nat := ml u (ml (mi (stDA x2 z2 x3 z3) (stCB x2 z2 x3 z3)) (mi (stDA x2 z2 x3 z3) (stCB x2 z2 x3 z3)))
theorem pl_lt (a b : Nat) : pl a b < P255 := Nat.mod_lt _ (by decide)
theorem mi_lt (a b : Nat) : mi a b < P255 := Nat.mod_lt _ (by decide)
theorem ml_lt (a b : Nat) : ml a b < P255 := Nat.mod_lt _ (by decide)
theorem cg_add {A B a b : Nat} (hA : A < M256) (hB : B < M256) (ha : A % P255 = a) (hb : B % P255 = b) : addF A B % P255 = pl a b := by
  rw [addF_mod hA hB, pl, ← ha, ← hb, ← Nat.add_mod]
theorem sub_gen0 {A B p : Nat} (hB : B ≤ 3 * p) : ∀ qa ra qb rb, p * qa + ra = A → p * qb + rb = B → rb < p → qb ≤ 3 → (A + 3 * p - B) % p = (ra + p - rb) % p := by
  intro qa ra qb rb h1 h2 h3 hd
  rcases Nat.lt_or_ge (qa + 2) qb with h | h
  · have e3 : qb = 3 := by omega
    have e0 : qa = 0 := by omega
    subst e3 e0
    have hb0 : rb = 0 := by omega
    subst hb0
    have hA : A = ra := by omega
    have hb3 : B = 3 * p := by omega
    rw [hA, hb3]
    simp
  · have e : A + 3 * p - B = (ra + p - rb) + p * (qa + 2 - qb) := by
      rw [Nat.mul_sub, Nat.mul_add]
      have : p * qb ≤ p * qa + p * 2 := by rw [← Nat.mul_add]; exact Nat.mul_le_mul_left _ h
      omega
    rw [e, Nat.add_mul_mod_self_left]
theorem sub_gen {A B a b p : Nat} (hp : 0 < p) (hB : B ≤ 3 * p) (ha : A % p = a) (hb : B % p = b) : (A + 3 * p - B) % p = (a + p - b) % p := by
  subst ha hb
  refine sub_gen0 hB (A / p) (A % p) (B / p) (B % p) (Nat.div_add_mod A p) (Nat.div_add_mod B p) (Nat.mod_lt _ hp) ?_
  have h2 := Nat.div_le_div_right (c := p) hB
  rwa [Nat.mul_div_cancel _ hp] at h2
theorem cg_sub {A B a b : Nat} (hA : A < M256) (hB : B < M256) (ha : A % P255 = a) (hb : B % P255 = b) : subF A B % P255 = mi a b := by
  rw [subF_mod hA hB, mi]
  refine sub_gen (by decide) (Nat.le_of_lt (Nat.lt_trans hB (by decide))) ha hb
theorem cg_mul {A B a b : Nat} (ha : A % P255 = a) (hb : B % P255 = b) : mulF A B % P255 = ml a b := by
  rw [mulF_mod, ml, ← ha, ← hb, ← Nat.mul_mod]
theorem ml_comm (a b : Nat) : ml a b = ml b a := by rw [ml, ml, Nat.mul_comm]
theorem bit_vB : ∀ (l : List Nat), (∀ x ∈ l, x < 256) → ∀ n, l.getD (n / 8) 0 / 2 ^ (n % 8) % 2 = vl 256 l / 2 ^ n % 2 := by
  intro l
  induction l with
  | nil => intro _ n; simp [vl]
  | cons x l ih =>
    intro h n
    have hx : x < 256 := h x (by simp)
    rcases Nat.lt_or_ge n 8 with hn | hn
    · rw [Nat.div_eq_of_lt hn, Nat.mod_eq_of_lt hn]
      simp only [List.getD_cons_zero, vl]
      have e : 256 * vl 256 l = 2 ^ n * (2 * (2 ^ (7 - n) * vl 256 l)) := by
        rw [← Nat.mul_assoc, ← Nat.mul_assoc, ← Nat.pow_succ, ← Nat.pow_add, show n + 1 + (7 - n) = 8 by omega]
      rw [e, Nat.add_mul_div_left _ _ (Nat.two_pow_pos n), Nat.add_mul_mod_self_left]
    · obtain ⟨m, rfl⟩ : ∃ m, n = m + 8 := ⟨n - 8, by omega⟩
      rw [Nat.add_div_right _ (by decide), Nat.add_mod_right, List.getD_cons_succ, ih (fun y hy => h y (by simp [hy])) m]
      simp only [vl]
      rw [Nat.pow_add, show 2 ^ 8 = 256 by decide, Nat.mul_comm (2 ^ m) 256, ← Nat.div_div_eq_div_mul]
      rw [show (x + 256 * vl 256 l) / 256 = vl 256 l by omega]
def lad (k u : Nat) : Nat → Nat → Nat → Nat → Nat → Nat × Nat
  | 0, x2, z2, _, _ => (x2, z2)
  | n + 1, x2, z2, x3, z3 => if k / 2 ^ n % 2 = 1 then lad k u n (stX3 x3 z3 x2 z2) (stZ3 x3 z3 x2 z2 u) (stX2 x3 z3) (stZ2 x3 z3) else lad k u n (stX2 x2 z2) (stZ2 x2 z2) (stX3 x2 z2 x3 z3) (stZ3 x2 z2 x3 z3 u)
def finV (r : Nat × Nat) : Nat := ml r.1 (powF r.2 PI % P255)
def multN (k u : Nat) : Nat := finV (lad k u 256 1 0 u 1)
def multV (k u : List Nat) : Nat := multN (vB (clampL k)) (vB (maskL u) % P255)
def e35 := t2b (fun k u => fld (multV k u))
def e36 := t2b (fun k u => fld (multV k u))
def T16a : Ctr := addC 100 e34 (addC 133 e33 T11)
def T16b : Ctr := T16a
def T16c : Ctr := T16b
def st35 : List It := [.lp [0, 1, 0, 1, 1, 1, 1, 1], .blk 0, .at [1, 1, 1, 1, 1, 1]]
def s35 (K : List Nat) (X A B C D : Nat) (i : SV) : St := ⟨58, [(2, .ptr 0 0 (.c 0)), (4, .ptr 2 0 (.c 0)), (5, .ptr 3 0 (.c 0)), (6, .ptr 4 0 (.c 0)), (7, .ptr 5 0 (.c 0)), (8, i)],
  [(0, ⟨23, [.arr .u8 32 K], false⟩), (2, ⟨23, [.arr .u8 32 [0, 0, 0, 0, 0, 0, 0, 0, 0, 0, 0, 0, 0, 0, 0, 0, 0, 0, 0, 0, 0, 0, 0, 0, 0, 0, 0, 0, 0, 0, 0, 0]], false⟩), (3, ⟨59, [.arr .u64 4 (dF X)], false⟩), (4, ⟨148, [.arr .u64 4 (dF A), .arr .u64 4 (dF B)], false⟩), (5, ⟨148, [.arr .u64 4 (dF C), .arr .u64 4 (dF D)], false⟩)], 6, 0⟩
def s36 (K : List Nat) (X A B C D : Nat) (i : SV) : St := ⟨112, [(2, .ptr 0 0 (.c 0)), (4, .ptr 2 0 (.c 0)), (5, .ptr 3 0 (.c 0)), (6, .ptr 4 0 (.c 0)), (7, .ptr 5 0 (.c 0)), (8, .ptr 6 0 (.c 0)), (9, .ptr 7 0 (.c 0)), (10, i)],
  [(0, ⟨23, [.arr .u8 32 K], false⟩), (2, ⟨23, [.arr .u8 32 [0, 0, 0, 0, 0, 0, 0, 0, 0, 0, 0, 0, 0, 0, 0, 0, 0, 0, 0, 0, 0, 0, 0, 0, 0, 0, 0, 0, 0, 0, 0, 0]], false⟩), (3, ⟨55, [.arr .u64 4 (dF X)], false⟩), (4, ⟨55, [.arr .u64 4 (dF A)], false⟩), (5, ⟨55, [.arr .u64 4 (dF B)], false⟩), (6, ⟨55, [.arr .u64 4 (dF C)], false⟩), (7, ⟨55, [.arr .u64 4 (dF D)], false⟩)], 8, 0⟩
theorem sfDA_lt {A B C D : Nat} (hA : A < M256) (hB : B < M256) : sfDA A B C D < M256 := mulF_lt (subF_lt _ _) (addF_lt hA hB)
theorem sfCB_lt {A B C D : Nat} (hC : C < M256) (hD : D < M256) : sfCB A B C D < M256 := mulF_lt (addF_lt hC hD) (subF_lt _ _)
section
variable {A B C D U x2 z2 x3 z3 u : Nat} (hA : A < M256) (hB : B < M256) (hC : C < M256) (hD : D < M256) (ha : A % P255 = x2) (hb : B % P255 = z2) (hc : C % P255 = x3) (hd : D % P255 = z3)
include hA hB ha hb
theorem cgX2 : sfX2 A B % P255 = stX2 x2 z2 := cg_mul (cg_mul (cg_add hA hB ha hb) (cg_add hA hB ha hb)) (cg_mul (cg_sub hA hB ha hb) (cg_sub hA hB ha hb))
theorem cgE : sfE A B % P255 = stE x2 z2 := cg_sub (mulF_lt (addF_lt hA hB) (addF_lt hA hB)) (mulF_lt (subF_lt _ _) (subF_lt _ _)) (cg_mul (cg_add hA hB ha hb) (cg_add hA hB ha hb)) (cg_mul (cg_sub hA hB ha hb) (cg_sub hA hB ha hb))
theorem cgZ2 : sfZ2 A B % P255 = stZ2 x2 z2 := by
  have h1 := cgE hA hB ha hb
  refine cg_mul h1 (cg_add (mulF_lt (addF_lt hA hB) (addF_lt hA hB)) (mulF_lt (subF_lt _ _) (by decide)) (cg_mul (cg_add hA hB ha hb) (cg_add hA hB ha hb)) ?_)
  rw [ml_comm]
  exact cg_mul h1 (by decide)
include hC hD hc hd
theorem cgDA : sfDA A B C D % P255 = stDA x2 z2 x3 z3 := cg_mul (cg_sub hC hD hc hd) (cg_add hA hB ha hb)
theorem cgCB : sfCB A B C D % P255 = stCB x2 z2 x3 z3 := cg_mul (cg_add hC hD hc hd) (cg_sub hA hB ha hb)
theorem cgX3 : sfX3 A B C D % P255 = stX3 x2 z2 x3 z3 := cg_mul (cg_add (sfDA_lt hA hB) (sfCB_lt hC hD) (cgDA hA hB hC hD ha hb hc hd) (cgCB hA hB hC hD ha hb hc hd)) (cg_add (sfDA_lt hA hB) (sfCB_lt hC hD) (cgDA hA hB hC hD ha hb hc hd) (cgCB hA hB hC hD ha hb hc hd))
theorem cgZ3 (hu : U % P255 = u) : sfZ3 A B C D U % P255 = stZ3 x2 z2 x3 z3 u := cg_mul hu (cg_mul (cg_sub (sfDA_lt hA hB) (sfCB_lt hC hD) (cgDA hA hB hC hD ha hb hc hd) (cgCB hA hB hC hD ha hb hc hd)) (cg_sub (sfDA_lt hA hB) (sfCB_lt hC hD) (cgDA hA hB hC hD ha hb hc hd) (cgCB hA hB hC hD ha hb hc hd)))
end
section
variable {A B C D U : Nat} (hA : A < M256) (hB : B < M256)
include hA hB
theorem sfX2_lt : sfX2 A B < M256 := mulF_lt (mulF_lt (addF_lt hA hB) (addF_lt hA hB)) (mulF_lt (subF_lt _ _) (subF_lt _ _))
theorem sfZ2_lt : sfZ2 A B < M256 := mulF_lt (subF_lt _ _) (addF_lt (mulF_lt (addF_lt hA hB) (addF_lt hA hB)) (mulF_lt (subF_lt _ _) (by decide)))
theorem sfX3_lt (hC : C < M256) (hD : D < M256) : sfX3 A B C D < M256 := mulF_lt (addF_lt (mulF_lt (subF_lt _ _) (addF_lt hA hB)) (mulF_lt (addF_lt hC hD) (subF_lt _ _))) (addF_lt (mulF_lt (subF_lt _ _) (addF_lt hA hB)) (mulF_lt (addF_lt hC hD) (subF_lt _ _)))
end
theorem sfZ3_lt {A B C D U : Nat} (hU : U < M256) : sfZ3 A B C D U < M256 := mulF_lt hU (mulF_lt (subF_lt _ _) (subF_lt _ _))
theorem vdP (E : Nat) : vF (dF (E % P255)) = E % P255 := vd (P_lt _)
theorem dF1 : dF 1 = [1, 0, 0, 0] := by decide +kernel
theorem dF0 : dF 0 = [0, 0, 0, 0] := by decide +kernel
theorem bits_clamp {k : List Nat} (h : k.length = 32 ∧ ∀ x ∈ k, x < lim .u8) : ∀ x ∈ clampL k, x < 256 := by
  have h0 : ∀ j, k.getD j 0 < 256 := fun j => by
    rw [List.getD_eq_getElem?_getD]
    cases hj : k[j]? with
    | none => simp
    | some v => exact h.2 v (List.mem_of_getElem? hj)
  have h1 : ∀ x ∈ k.set 0 (k.getD 0 0 &&& 248), x < 256 := fun x hx => by
    rcases List.mem_or_eq_of_mem_set hx with hx | rfl
    · exact h.2 x hx
    · exact Nat.lt_of_le_of_lt Nat.and_le_left (h0 0)
  have h2 : ∀ j, (k.set 0 (k.getD 0 0 &&& 248)).getD j 0 < 256 := fun j => by
    rw [List.getD_eq_getElem?_getD]
    cases hj : (k.set 0 (k.getD 0 0 &&& 248))[j]? with
    | none => simp
    | some v => exact h1 v (List.mem_of_getElem? hj)
  intro x hx
  rcases List.mem_or_eq_of_mem_set hx with hx | rfl
  · exact h1 x hx
  · exact Nat.or_lt_two_pow (n := 8) (Nat.lt_of_le_of_lt Nat.and_le_left (h2 31)) (by decide)
end Go.Eng.G

namespace Go.Eng.G
open Go Go.Eng Go.Proofs
set_option maxRecDepth 100000
theorem c33 : ∀ args res ob, e33 args = some (res, ob) → All ob → Contract Tryz.prog 133 args res := by
  intro args res ob h hob
  simp only [e33, t1b] at h
  split at h
  · rename_i l
    cases h
    refine contract Tryz.func133 (body := bodyOf Tryz.f133) rfl (by kernel_rfl) (by kernel_rfl) rfl ?_
    rintro ⟨ha, _⟩ w0 S
    exact hold_end mixed ok11 (unroll := true) (f := 100) (sc := []) (r := (SV.arr .u8 32 ((l.set 0 (l.getD 0 0 &&& 248)).set 31 ((l.set 0 (l.getD 0 0 &&& 248)).getD 31 0 &&& 127 ||| 64)))) (ob := []) (sc' := []) (by kernel_rfl) trivial rfl
  · cases h
theorem c34 : ∀ args res ob, e34 args = some (res, ob) → All ob → Contract Tryz.prog 100 args res := by
  intro args res ob h hob
  simp only [e34, t1b] at h
  split at h
  · rename_i l
    cases h
    refine contract Tryz.func100 (body := bodyOf Tryz.f100) rfl (by kernel_rfl) (by kernel_rfl) rfl ?_
    rintro ⟨ha, _⟩ w0 S
    exact hold_end mixed ok11 (unroll := true) (f := 100) (sc := []) (r := (SV.arr .u8 32 ((l.set 0 (l.getD 0 0 &&& 248)).set 31 ((l.set 0 (l.getD 0 0 &&& 248)).getD 31 0 &&& 127 ||| 64)))) (ob := []) (sc' := []) (by kernel_rfl) trivial rfl
  · cases h
theorem ok16a : CtrOk Tryz.prog T16a := addC_ok (addC_ok ok11 c33) c34
theorem mask_ok {u : List Nat} (h : u.length = 32 ∧ ∀ x ∈ u, x < lim .u8) : (maskL u).length = 32 ∧ ∀ x ∈ maskL u, x < lim .u8 := by
  refine ⟨by simp [maskL, h.1], fun x hx => ?_⟩
  rcases List.mem_or_eq_of_mem_set hx with hx | rfl
  · exact h.2 x hx
  · exact Nat.lt_of_le_of_lt Nat.and_le_right (by decide)
theorem ok16b : CtrOk Tryz.prog T16b := ok16a
theorem ok16c : CtrOk Tryz.prog T16c := ok16b
end Go.Eng.G

namespace Go.Eng
open Go.RowKit
def outIds (m : Nat) (news : List Nat) : List Nat := List.range m ++ news
def getBs (blks : List (Nat × Bk)) : List Nat → Option (List Bk)
  | [] => some []
  | id :: r => match getB blks id, getBs blks r with
    | some b, some l => if (idss b.segs).isEmpty then some (b :: l) else none
    | _, _ => none
def restB (out : List Nat) (blks : List (Nat × Bk)) : List (Nat × Bk) := blks.filter fun p => !out.contains p.1
def ptrOf : SV → Option Nat
  | .ptr id 0 (.c 0) => some id
  | _ => none
theorem ptrOf_ok {s : SV} {id : Nat} (h : ptrOf s = some id) : s = .ptr id 0 (.c 0) := by
  unfold ptrOf at h
  split at h
  · cases h; rfl
  · cases h
theorem deepV_tup {H : List (Nat × Bk)} {f : Nat} {l : List SV} : deepV H f (.tup l) = none := by
  cases f with
  | zero => rfl
  | succ f => simp only [deepV, SV.rd, SV.isTup, Bool.not_true, Bool.and_false, Bool.false_eq_true, if_false]
def viewM (out : List Nat) (blks : List (Nat × Bk)) (s : SV) : Option SV :=
  if s.ids.isEmpty && !s.isTup then some s else match ptrOf s with
  | some id => match idxOf id out 0 with | some k => some (.ptr k 0 (.c 0)) | none => none
  | none => match deepV (restB out blks) 80 s with | some r => if r.ids.isEmpty then some r else none | none => none
def retOneV (P : Program) (vw : SV → Option SV) (σ : St) (r : ResultVar) : Option SV :=
  match r with
  | .tmp t => match getS σ.slots t with | some s => vw s.rd | none => none
  | .cell ad t => match getS σ.slots ad, aggT P t, szT P t with
    | some (.ptr id off ix), some agg, some size => match getB σ.blks id with
      | some bk => match loadB bk agg size off ix with
        | some (s, []) => vw s.rd
        | _ => none
      | none => none
    | _, _, _ => none
def retAllV (P : Program) (vw : SV → Option SV) (σ : St) : List ResultVar → Option (List SV)
  | [] => some []
  | r :: l => match retOneV P vw σ r, retAllV P vw σ l with
    | some s, some t => some (s :: t)
    | _, _ => none
def retM (P : Program) (rs : Array ResultVar) (news : List Nat) (σ : St) : Option MRes :=
  match getBs σ.blks (outIds σ.m news), retAllV P (viewM (outIds σ.m news) σ.blks) σ rs.toList with
  | some bs, some l => if (outIds σ.m news).Nodup then some ⟨joinR l, bs.take σ.m, bs.drop σ.m⟩ else none
  | _, _ => none
def FinQ (P : Program) (fn : Func) (F : Fr) (S : Own) (r : MRes) (a : Act) (w : World) : Prop :=
  a.defers = [] ∧ ∃ (v : Value) (β' : Nat → Nat), (results fn a.tmps).run P w = .ok v w ∧ (∀ i, i < F.m → β' i = F.pin i) ∧ Bel F w ∧
    relV β' (owS S (numB 0 (r.upd ++ r.new)) β') w r.res v ∧ HSat β' (owS S (numB 0 (r.upd ++ r.new)) β') w (numB 0 (r.upd ++ r.new)) ∧
    (∀ i j bi bj, (i, bi) ∈ numB 0 (r.upd ++ r.new) → (j, bj) ∈ numB 0 (r.upd ++ r.new) → live β' i bi → live β' j bj → β' i = β' j → i = j) ∧
    (∀ i bk, (i, bk) ∈ numB 0 (r.upd ++ r.new) → live β' i bk → i < F.m ∨ F.w.heap.size ≤ β' i)
def FinM (P : Program) (fn : Func) (F : Fr) (S : Own) (r : MRes) : Exit → Act → World → Prop
  | .normal, a, w => FinQ P fn F S r a w
  | .ret, a, w => FinQ P fn F S r a w
  | _, _, _ => False
section
variable {P : Program} {fn : Func} {body : Code} {w0 : Fr} {w : World} {S : Own} {σ : St} {β : Nat → Nat} {a : Act}
instance {r : MRes} : ExitOk (FinM P fn w0 S r) := ⟨fun _ _ _ h => h, fun _ _ h => h⟩
theorem getBs_ok {blks : List (Nat × Bk)} : ∀ {ids : List Nat} {bs : List Bk}, getBs blks ids = some bs → bs.length = ids.length ∧
    ∀ (k id : Nat), ids[k]? = some id → ∃ b, bs[k]? = some b ∧ getB blks id = some b ∧ idss b.segs = [] := by
  intro ids
  induction ids with
  | nil => intro bs h; simp only [getBs] at h; cases h; exact ⟨rfl, fun k id h => by simp at h⟩
  | cons id ids ih =>
    intro bs h
    simp only [getBs] at h
    split at h
    · rename_i b l hb hl
      split at h
      · rename_i he
        cases h
        obtain ⟨h1, h2⟩ := ih hl
        refine ⟨by simp [h1], fun k i hk => ?_⟩
        cases k with
        | zero => simp at hk; subst hk; exact ⟨b, rfl, hb, by simpa using he⟩
        | succ k => simp at hk; obtain ⟨c, hc⟩ := h2 k i hk; exact ⟨c, by simpa using hc.1, hc.2⟩
      · cases h
    · cases h
theorem retOneV_ok (hS : Sat w0 S σ β a w) {vw : SV → Option SV} {β' : Nat → Nat} {ow' : Own} (hvw : ∀ s r v, vw s = some r → relV β (owS S σ.blks β) w s v → relV1 β' ow' w r v) {r : ResultVar} {s : SV} (h : retOneV P vw σ r = some s) :
    ∃ v, (resF a.tmps r).run P w = .ok v w ∧ relV1 β' ow' w s v := by
  cases r with
  | tmp t =>
    simp only [retOneV] at h
    split at h
    · rename_i s' hs
      exact ⟨_, rfl, hvw _ _ _ h (rd_ok (hS.slot t s' (getS_mem hs)))⟩
    · cases h
  | cell ad t =>
    simp only [retOneV] at h
    split at h
    · rename_i id off ix agg size hs ha hsz
      split at h
      · rename_i bk hg
        split at h
        · rename_i s' hl
          have h1 := relV_scalar rfl rfl (hS.slot ad _ (getS_mem hs))
          simp only [rel, List.cons.injEq, and_true] at h1
          obtain ⟨cs, hr, hb⟩ := (hS.blk id bk (getB_both hg).1).1 (getB_both hg).2
          obtain ⟨v, hrun, hv⟩ := loadB_ok (P := P) hl trivial ha hsz hr hb
          refine ⟨v, ?_, hvw _ _ _ h (rd_ok hv)⟩
          simp only [Instr.loadAt, Instr.sureAddr, Sem.run_bind, Sem.run_pure, Result.andThen_ok] at hrun
          simp only [resF, h1, asAddr, Sem.run_bind, Sem.run_pure, Result.andThen_ok]
          exact hrun
        · cases h
      · cases h
    · cases h
theorem retAllV_ok (hS : Sat w0 S σ β a w) {vw : SV → Option SV} {β' : Nat → Nat} {ow' : Own} (hvw : ∀ s r v, vw s = some r → relV β (owS S σ.blks β) w s v → relV1 β' ow' w r v) : ∀ {rs : List ResultVar} {l : List SV}, retAllV P vw σ rs = some l →
    ∃ vs, (rs.mapM (resF a.tmps)).run P w = .ok vs w ∧ relVs β' ow' w l vs ∧ vs.length = rs.length := by
  intro rs
  induction rs with
  | nil => intro l h; simp only [retAllV] at h; cases h; exact ⟨[], by simp, rfl, rfl⟩
  | cons r rs ih =>
    intro l h
    simp only [retAllV] at h
    split at h
    · rename_i s t h1 h2
      cases h
      obtain ⟨v, hv, hr⟩ := retOneV_ok hS hvw h1
      obtain ⟨vs, hvs, hrs, hlen⟩ := ih h2
      refine ⟨v :: vs, ?_, ⟨v, vs, rfl, hr, hrs⟩, by simp [hlen]⟩
      rw [List.mapM_cons, Sem.run_bind, hv]
      simp only [Result.andThen_ok, Sem.run_bind, hvs, Sem.run_pure]
    · cases h
theorem joined {rs : Array ResultVar} {l : List SV} {vs : List Value} {β' : Nat → Nat} {ow' : Own} (hf : fn.results = rs) (hvs : (rs.toList.mapM (resF a.tmps)).run P w = .ok vs w) (hrs : relVs β' ow' w l vs) :
    ∃ v, (results fn a.tmps).run P w = .ok v w ∧ relV β' ow' w (joinR l) v := by
  subst hf
  have hm : (fn.results.mapM (resF a.tmps)).run P w = .ok vs.toArray w := by
    rw [Array.mapM_eq_mapM_toList, Sem.run_map, hvs]; rfl
  have hll : l.length = vs.length := by
    clear hm hvs
    induction l generalizing vs with
    | nil => rw [hrs]; rfl
    | cons s l ih => obtain ⟨v, t, rfl, _, h2⟩ := hrs; simp [ih h2]
  by_cases h1 : vs.length = 1
  · obtain ⟨v, rfl⟩ := List.length_eq_one_iff.1 h1
    obtain ⟨s, rfl⟩ := List.length_eq_one_iff.1 (hll.trans h1)
    obtain ⟨v', t, e, hr, _⟩ := hrs
    cases e
    refine ⟨v, ?_, relV_up hr⟩
    rw [results_eq, Sem.run_bind, hm]
    simp
  · refine ⟨.tuple vs.toArray, ?_, ?_⟩
    · rw [results_eq, Sem.run_bind, hm]
      simp [h1]
    · have : joinR l = .tup l := by
        cases l with
        | nil => rfl
        | cons s l => cases l with
          | nil => simp at hll; exact absurd hll.symm h1
          | cons t l => rfl
      rw [this]
      exact ⟨vs, rfl, hrs⟩
theorem out_low {m i : Nat} {news : List Nat} (h : i < m) : (outIds m news)[i]? = some i := by
  unfold outIds
  rw [List.getElem?_append_left (by simpa using h)]
  simp [h]
theorem out_high {m i id : Nat} {news : List Nat} (hi : m ≤ i) (hn : (outIds m news).Nodup) (h : (outIds m news)[i]? = some id) : m ≤ id := by
  rcases Nat.lt_or_ge id m with hl | hl
  · exfalso
    have h1 := out_low (news := news) hl
    have hi' := (List.getElem?_eq_some_iff.1 h).1
    have := (List.getElem?_inj hi' hn).1 (h.trans h1.symm)
    omega
  · exact hl
theorem hold_finM {res r : MRes} {news : List Nat} (h : retM P fn.results news σ = some r) (he : r = res) : Hold P body (FinM P fn w0 S res) w0 S [] σ := by
  intro β a w hS
  subst he
  unfold retM at h
  split at h
  · rename_i bs l hbs hl
    split at h
    · rename_i hnd
      cases h
      have hm : σ.m = w0.m := hS.pins.1
      obtain ⟨hblen, hbget⟩ := getBs_ok hbs
      have htd : bs.take σ.m ++ bs.drop σ.m = bs := List.take_append_drop _ _
      have hplain : ∀ b ∈ bs, b.row = false := by
        intro b hb
        obtain ⟨k, hk, rfl⟩ := List.getElem_of_mem hb
        obtain ⟨c, h1, h2, _⟩ := hbget k ((outIds σ.m news)[k]'(by omega)) (by simp)
        rw [List.getElem?_eq_getElem hk] at h1
        cases h1
        exact (getB_both h2).2
      have hmemN : ∀ k b, (k, b) ∈ numB 0 bs → ∃ id, (outIds σ.m news)[k]? = some id ∧ getB σ.blks id = some b ∧ idss b.segs = [] := by
        intro k b hk
        obtain ⟨_, hk⟩ := (numB_plain hplain).1 hk
        simp only [Nat.sub_zero] at hk
        have hlt := (List.getElem?_eq_some_iff.1 hk).1
        refine ⟨(outIds σ.m news)[k]'(by omega), by simp, ?_⟩
        obtain ⟨c, h1, h2⟩ := hbget k ((outIds σ.m news)[k]'(by omega)) (by simp)
        rw [hk] at h1
        cases h1
        exact h2
      let β' : Nat → Nat := fun k => β ((outIds σ.m news).getD k 0)
      have hβ' : ∀ {k id}, (outIds σ.m news)[k]? = some id → β' k = β id := fun {k id} hk => by
        show β ((outIds σ.m news).getD k 0) = β id
        rw [List.getD_eq_getElem?_getD, hk]; rfl
      have hsub : ∀ b j, owS S (numB 0 bs) β' b j → owS S σ.blks β b j := by
        rintro b j (hs | ⟨k, bk, hk, e, hr⟩)
        · exact .inl hs
        · obtain ⟨id, h1, h2, h3⟩ := hmemN k bk hk
          refine .inr ⟨id, bk, getB_mem h2, by rw [← hβ' h1]; exact e, fun hr => ?_⟩
          rw [(getB_both h2).2] at hr; cases hr
      have hvw : ∀ s r v, viewM (outIds σ.m news) σ.blks s = some r → relV β (owS S σ.blks β) w s v → relV1 β' (owS S (numB 0 bs) β') w r v := by
        intro s r v h hv
        unfold viewM at h
        split at h
        · rename_i hc
          simp only [Bool.and_eq_true, List.isEmpty_iff, Bool.not_eq_true'] at hc
          cases h
          exact relV1_mono (fun b j _ h => hsub b j h) (Keep.refl _ _) (fun id hid => by rw [hc.1] at hid; cases hid) (relV_one hc.2 hv)
        · split at h
          · rename_i id hp
            obtain rfl := ptrOf_ok hp
            split at h
            · rename_i k hk
              cases h
              have h1 := relV_scalar rfl rfl hv
              simp only [rel, List.cons.injEq, and_true] at h1
              subst h1
              obtain ⟨_, _, hg⟩ := idxOf_ok hk
              simp only [Nat.sub_zero] at hg
              refine ⟨_, by simp only [rel]; rfl, ?_⟩
              rw [hβ' hg]
              rfl
            · cases h
          · split at h
            · rename_i r' hd
              split at h
              · rename_i hids
                cases h
                have ht : s.isTup = false := by
                  cases s <;> first | rfl | (rw [deepV_tup] at hd; cases hd)
                obtain ⟨cs, h1, rfl⟩ := relV_one ht hv
                have hrest : HSat β (owS S σ.blks β) w (restB (outIds σ.m news) σ.blks) := fun id bk hm => hS.blk id bk (List.mem_filter.1 hm).1
                obtain ⟨h2, h3⟩ := (deep_ok hrest (S := owS S (numB 0 bs) β') hsub (fun id bk hg j hs => by
                  obtain ⟨hgm, hout⟩ := List.mem_filter.1 (getB_mem hg)
                  have hlive := live_plain (β := β) (id := id) (getB_both hg).2
                  rcases hs with hs | ⟨k, bk', hk, e, _⟩
                  · have h1 := hS.lowS _ _ hs
                    rcases hS.low id _ hgm hlive with h2 | h2
                    · omega
                    · exact h1.2 h2
                  · obtain ⟨id', h4, h5, _⟩ := hmemN k bk' hk
                    rw [hβ' h4] at e
                    have := hS.inj id' id _ _ (getB_mem h5) hgm (live_plain (getB_both h5).2) hlive e
                    subst this
                    simp only [Bool.not_eq_true', List.contains_eq_mem, decide_eq_false_iff_not] at hout
                    exact hout (List.mem_of_getElem? h4)) 80).1 hd h1
                refine ⟨cs, rel_mono (fun _ _ _ h => h) (Keep.refl _ _) _ _ (fun id hid => by rw [List.isEmpty_iff.1 hids] at hid; cases hid) h2, by rw [h3]⟩
              · cases h
            · cases h
      obtain ⟨vs, hvs, hrs, _⟩ := retAllV_ok hS hvw hl
      obtain ⟨v, hv, hr⟩ := joined rfl hvs hrs
      have hpin : ∀ i, i < w0.m → β' i = w0.pin i := fun i hi => by
        rw [hβ' (out_low (by rw [hm]; exact hi))]
        exact (hS.pins.2 i hi).1
      refine ⟨hS.defs, v, β', hv, hpin, hS.ext, ?_, ?_, ?_, ?_⟩
      · simpa only [htd] using hr
      · simp only [htd]
        intro k bk hk
        obtain ⟨id, h1, h2, h3⟩ := hmemN k bk hk
        refine ⟨fun _ => ?_, fun hr => by rw [(getB_both h2).2] at hr; cases hr⟩
        obtain ⟨cs, h4, h5⟩ := (hS.blk id bk (getB_mem h2)).1 (getB_both h2).2
        exact ⟨cs, rels_mono (fun b j _ h => hsub b j h) (Keep.refl _ _) _ _ (fun i hi => by rw [h3] at hi; cases hi) h4, by rw [hβ' h1]; exact h5⟩
      · simp only [htd]
        intro i j bi bj hi hj _ _ e
        obtain ⟨id1, a1, a2, _⟩ := hmemN i bi hi
        obtain ⟨id2, b1, b2, _⟩ := hmemN j bj hj
        rw [hβ' a1, hβ' b1] at e
        have := hS.inj id1 id2 _ _ (getB_mem a2) (getB_mem b2) (live_plain (getB_both a2).2) (live_plain (getB_both b2).2) e
        subst this
        exact (List.getElem?_inj (List.getElem?_eq_some_iff.1 a1).1 hnd).1 (a1.trans b1.symm)
      · simp only [htd]
        intro i bk hi _
        rcases Nat.lt_or_ge i w0.m with hl | hl
        · exact .inl hl
        · right
          obtain ⟨id, a1, a2, _⟩ := hmemN i bk hi
          have hge := out_high (by rw [hm]; exact hl) hnd a1
          rw [hβ' a1]
          rcases hS.low id bk (getB_mem a2) (live_plain (getB_both a2).2) with h1 | ⟨i', hi', e⟩
          · exact h1
          · exfalso
            obtain ⟨e2, b2, hm2, hr2⟩ := hS.pins.2 i' hi'
            have := hS.inj i' id _ _ hm2 (getB_mem a2) (live_plain hr2) (live_plain (getB_both a2).2) (by rw [e2, e])
            omega
    · cases h
  · cases h
def initM (H : List Bk) (args : List SV) (nt : Nat) : St := { nt, slots := initSlots 0 args, blks := numB 0 H, next := H.length, m := H.length }
theorem contractM {f : FuncId} {H : List Bk} {args : List SV} {res : MRes} (hf : P.funcs[f]? = some fn) (hb : fn.body = some body) (hname : (fn.name == "runtime.NumGoroutine") = false) (hn : Nat.ble args.length fn.ntmps = true)
    (hids : (idss args).all (fun i => decide (i < H.length)) = true) (hH : H.all plainB = true)
    (h : pureF.pureFs args → (∀ b ∈ H, pureF.pureFs b.segs) → ∀ (F : Fr) (S : Own), F.m = H.length → Hold P body (FinM P fn F S res) F S [.at []] (initM H args fn.ntmps)) : ContractM P f H args res := by
  intro w S β vs hSlt _ hsat hinj hvs
  have hp : ∀ b ∈ H, b.row = false ∧ idss b.segs = [] := fun b hb => by
    have := List.all_eq_true.1 hH b hb
    simpa [plainB] using this
  have hpl : ∀ b ∈ H, b.row = false := fun b hb => (hp b hb).1
  have hmem : ∀ i b, (i, b) ∈ numB 0 H → i < H.length ∧ b ∈ H := fun i b hi => by
    obtain ⟨_, h2⟩ := (numB_plain hpl).1 hi
    simp only [Nat.sub_zero] at h2
    exact ⟨(List.getElem?_eq_some_iff.1 h2).1, List.mem_of_getElem? h2⟩
  obtain ⟨hlen, hget⟩ := relVs_get hvs
  have hn := Nat.le_of_ble_eq_true hn
  unfold Invokes
  have hcall : (callFunc f vs.toArray).run P w = .ok (.enter f vs.toArray) w := by
    have hne : ¬ fn.name = "runtime.NumGoroutine" := by simpa using hname
    simp [callFunc, hf, hb, hne]
  rw [hcall]
  simp only
  refine calls_of_wp hf hb ?_
  have hS : Sat ⟨w, H.length, β⟩ S (initM H args fn.ntmps) β { tmps := vs.toArray ++ Array.replicate (fn.ntmps - vs.toArray.size) undef, defers := [] } w := by
    refine ⟨rfl, ?_, ?_, hsat, ?_, ?_, numB_nodup 0, ?_, ?_, ⟨rfl, rfl, rfl, Nat.le_refl _, fun _ _ _ => rfl⟩, ?_, rfl, ?_⟩
    · simp [initM]; omega
    · intro d s hm
      obtain ⟨_, hd⟩ := initSlots_mem hm
      simp only [Nat.sub_zero] at hd
      obtain ⟨v, hv, hr⟩ := hget d s hd
      have hlt : d < vs.length := by
        rcases Nat.lt_or_ge d vs.length with h | h
        · exact h
        · rw [List.getElem?_eq_none h] at hv; cases hv
      have e : ({ tmps := vs.toArray ++ Array.replicate (fn.ntmps - vs.toArray.size) undef, defers := [] } : Act).tmps.getD d undef = v := by
        rw [Array.getD_eq_getD_getElem?, Array.getElem?_append_left (by simpa using hlt)]
        simp [hv]
      rw [e]
      exact relV_up hr
    · intro id bk hm _
      exact .inr ⟨id, (hmem id bk hm).1, rfl⟩
    · intro i j bi bj hi hj _ _ e
      exact hinj i j (hmem i bi hi).1 (hmem j bj hj).1 e
    · intro d s hm id hi
      obtain ⟨_, hd⟩ := initSlots_mem hm
      have : id ∈ idss args := idss_get hi (by simpa using hd)
      have := List.all_eq_true.1 hids id this
      simpa [initM] using this
    · intro id bk hm
      obtain ⟨h1, h2⟩ := hmem id bk hm
      refine ⟨h1, fun j hj => ?_, fun hr => ?_⟩
      · rw [(hp bk h2).2] at hj; cases hj
      · rw [(hp bk h2).1] at hr; cases hr
    · intro b j hs
      refine ⟨(hSlt b j hs).1, fun ⟨i, hi, e⟩ => ?_⟩
      exact (hSlt b j hs).2 i hi e
    · intro id hid
      refine ⟨rfl, H[id]'hid, (numB_plain hpl).2 ⟨Nat.zero_le _, by simp⟩, hpl _ (List.getElem_mem _)⟩
  have hpb : ∀ b ∈ H, pureF.pureFs b.segs := fun b hb => by
    obtain ⟨k, hk, rfl⟩ := List.getElem_of_mem hb
    obtain ⟨cs, h1, _⟩ := (hsat k H[k] ((numB_plain hpl).2 ⟨Nat.zero_le _, by simp⟩)).1 (hpl _ (List.getElem_mem _))
    exact pureFs_ok _ cs h1
  have := h (pureFs_vs args vs hvs) hpb ⟨w, H.length, β⟩ S rfl _ _ _ hS
  simp only [contQ, nav] at this
  refine wp_mono this fun e a w' hq => ?_
  cases e <;> simp only [FinM] at hq <;> try exact hq.elim
  all_goals
    obtain ⟨h1, v, β', h2, h3, h4, h5, h6, h7, h8⟩ := hq
    exact ⟨h1, v, h2, v, rfl, β', h3, h4, h5, h6, h7, h8⟩
def runM (P : Program) (ctr : Ctr) (body : Code) (rs : Array ResultVar) (news : List Nat) (unroll : Bool) (f : Nat) (st : List It) (σ : St) (sc : List Bool) : List It × Option MRes × List Prop × List Bool :=
  match run P ctr body unroll f st σ sc with
  | (st', σ', ob, sc') => (st', retM P rs news σ', ob, sc')
theorem hold_endM (hm : P.follows .mixedOrders = true) {ctr : Ctr} (hctr : CtrOk P ctr) {res : MRes} {news : List Nat} {unroll : Bool} {f : Nat} {st : List It} {σ : St} {sc : List Bool} {r : MRes} {ob : List Prop} {sc' : List Bool}
    (h : runM P ctr body fn.results news unroll f st σ sc = ([], some r, ob, sc')) (hob : All ob) (he : r = res) : Hold P body (FinM P fn w0 S res) w0 S st σ := by
  unfold runM at h
  cases hr : run P ctr body unroll f st σ sc with
  | mk q1 q =>
    obtain ⟨q2, q3, q4⟩ := q
    rw [hr] at h
    simp only [Prod.mk.injEq] at h
    obtain ⟨rfl, h2, rfl, rfl⟩ := h
    exact hold_run hm hctr unroll f sc hr hob (hold_finM h2 he)
end
end Go.Eng

namespace Go.Eng
open Go.RowKit
def wkB : List Bk → List Bk → Prop
  | [], l => l = []
  | a :: r, l => match l with
    | [] => False
    | b :: s => a.ty = b.ty ∧ a.row = b.row ∧ wkl a.segs b.segs ∧ wkB r s
def wkM (r s : MRes) : Prop := wkR r.res s.res ∧ wkB (r.upd ++ r.new) (s.upd ++ s.new)
section
variable {P : Program} {fn : Func} {body : Code} {w0 : Fr} {w : World} {S : Own} {σ : St} {β : Nat → Nat} {a : Act} {ow : Own}
theorem wk0_refl (s : SV) : wk0 s s := by cases s <;> simp [wk0]
theorem wka_refl : ∀ l : List SV, wka l l
  | [] => rfl
  | s :: r => ⟨wk0_refl s, wka_refl r⟩
theorem wk_refl (s : SV) : wk s s := by cases s <;> simp only [wk] <;> first | exact wka_refl _ | exact wk0_refl _
theorem wkl_refl : ∀ l : List SV, wkl l l
  | [] => rfl
  | s :: r => ⟨wk_refl s, wkl_refl r⟩
theorem wkR_refl (s : SV) : wkR s s := by cases s <;> first | (simp only [wkR]; exact wk_refl _) | (simp only [wkR]; exact wkl_refl _)
theorem wkB_refl : ∀ l : List Bk, wkB l l
  | [] => rfl
  | _ :: r => ⟨rfl, rfl, wkl_refl _, wkB_refl r⟩
theorem wkM_of {r s : MRes} (h : r = s) : wkM r s := h ▸ ⟨wkR_refl _, wkB_refl _⟩
theorem wkR_of {r s : SV} (h : r = s) : wkR r s := h ▸ wkR_refl _
theorem wkl_rels : ∀ {l m : List SV}, wkl l m → ∀ {cs : List Value}, rels β ow w l cs → rels β ow w m cs := by
  intro l
  induction l with
  | nil => intro m h cs hr; simp only [wkl] at h; subst h; exact hr
  | cons s r ih =>
    intro m h cs hr
    cases m with
    | nil => simp [wkl] at h
    | cons t q =>
      simp only [wkl] at h
      simp only [rels] at hr ⊢
      obtain ⟨c1, c2, rfl, h1, h2⟩ := hr
      exact ⟨c1, c2, rfl, wk_rel h.1 h1, ih h.2 h2⟩
theorem numB_wk : ∀ {L M : List Bk}, wkB L M → ∀ {k i : Nat}, (∀ b', (i, b') ∈ numB k M → ∃ b, (i, b) ∈ numB k L ∧ b.ty = b'.ty ∧ b.row = b'.row ∧ wkl b.segs b'.segs) ∧ (∀ b, (i, b) ∈ numB k L → ∃ b', (i, b') ∈ numB k M ∧ b.ty = b'.ty ∧ b.row = b'.row ∧ wkl b.segs b'.segs) := by
  intro L
  induction L with
  | nil => intro M h k i; simp only [wkB] at h; subst h; exact ⟨fun b' hb => by simp [numB] at hb, fun b hb => by simp [numB] at hb⟩
  | cons a r ih =>
    intro M h k i
    cases M with
    | nil => simp [wkB] at h
    | cons b s =>
      simp only [wkB] at h
      obtain ⟨h1, h2, h3, h4⟩ := h
      simp only [numB, List.mem_cons, Prod.mk.injEq]
      rw [h2]
      constructor
      · rintro b' (⟨rfl, rfl⟩ | hb)
        · exact ⟨a, .inl ⟨rfl, rfl⟩, h1, h2, h3⟩
        · obtain ⟨c, hc, e⟩ := (ih h4).1 b' hb
          exact ⟨c, .inr hc, e⟩
      · rintro b' (⟨rfl, rfl⟩ | hb)
        · exact ⟨b, .inl ⟨rfl, rfl⟩, h1, h2, h3⟩
        · obtain ⟨c, hc, e⟩ := (ih h4).2 b' hb
          exact ⟨c, .inr hc, e⟩
theorem FinQ.weaken {F : Fr} {r s : MRes} (h : FinQ P fn F S r a w) (hw : wkM r s) : FinQ P fn F S s a w := by
  obtain ⟨h1, v, β', h2, h3, h4, h5, h6, h7, h8⟩ := h
  have how : owS S (numB 0 (s.upd ++ s.new)) β' = owS S (numB 0 (r.upd ++ r.new)) β' := by
    funext b j
    apply propext
    constructor
    · rintro (hs | ⟨i, bk, hm, e, hr⟩)
      · exact .inl hs
      · obtain ⟨c, hc, _, e2, _⟩ := (numB_wk hw.2).1 bk hm
        exact .inr ⟨i, c, hc, e, by rw [e2]; exact hr⟩
    · rintro (hs | ⟨i, bk, hm, e, hr⟩)
      · exact .inl hs
      · obtain ⟨c, hc, _, e2, _⟩ := (numB_wk hw.2).2 bk hm
        exact .inr ⟨i, c, hc, e, by rw [← e2]; exact hr⟩
  have hlive : ∀ {i : Nat} {b b' : Bk}, b.row = b'.row → live β' i b' → live β' i b := fun e hl hr => hl (by rw [← e]; exact hr)
  refine ⟨h1, v, β', h2, h3, h4, ?_, ?_, ?_, ?_⟩
  · rw [how]; exact wkR_ok hw.1 h5
  · rw [how]
    intro i b' hm
    obtain ⟨c, hc, e1, e2, e3⟩ := (numB_wk hw.2).1 b' hm
    refine ⟨fun hr => ?_, fun hr hn => ?_⟩
    · obtain ⟨cs, q1, q2⟩ := (h6 i c hc).1 (by rw [e2]; exact hr)
      exact ⟨cs, wkl_rels e3 q1, by rw [← e1]; exact q2⟩
    · obtain ⟨cs, q1, q2⟩ := (h6 i c hc).2 (by rw [e2]; exact hr) hn
      exact ⟨cs, by rw [← e1]; exact q1, q2⟩
  · intro i j bi bj hi hj li lj e
    obtain ⟨c, hc, _, e2, _⟩ := (numB_wk hw.2).1 bi hi
    obtain ⟨d, hd, _, e3, _⟩ := (numB_wk hw.2).1 bj hj
    exact h7 i j c d hc hd (hlive e2 li) (hlive e3 lj) e
  · intro i bk hi hl
    obtain ⟨c, hc, _, e2, _⟩ := (numB_wk hw.2).1 bk hi
    exact h8 i c hc (hlive e2 hl)
theorem hold_endMw (hm : P.follows .mixedOrders = true) {ctr : Ctr} (hctr : CtrOk P ctr) {res : MRes} {news : List Nat} {unroll : Bool} {f : Nat} {st : List It} {σ : St} {sc : List Bool} {r : MRes} {ob : List Prop} {sc' : List Bool}
    (h : runM P ctr body fn.results news unroll f st σ sc = ([], some r, ob, sc')) (hob : All ob) (he : wkM r res) : Hold P body (FinM P fn w0 S res) w0 S st σ := by
  have h1 := hold_endM (w0 := w0) (S := S) hm hctr h hob rfl
  intro β a w hS
  have key : ∀ st e a w, contQ P body (FinM P fn w0 S r) st e a w → contQ P body (FinM P fn w0 S res) st e a w := by
    have hQ : ∀ e a w, FinM P fn w0 S r e a w → FinM P fn w0 S res e a w := by
      intro e a w hq
      cases e <;> first | exact FinQ.weaken hq he | exact hq
    intro st
    induction st with
    | nil => intro e a w h; exact hQ e a w h
    | cons x st ih =>
      intro e a w h
      cases x with
      | «at» p =>
        cases e <;> simp only [contQ] at h ⊢ <;> try exact ih _ a w h
        split at h
        · exact wp_mono h fun e a w hq => ih e a w hq
        · exact h
      | lp p =>
        cases e <;> simp only [contQ] at h ⊢ <;> try exact ih _ a w h
        split at h
        · intro I hI
          refine h I fun a w hw => hI a w (wp_mono hw fun e a w hq => ?_)
          cases e <;> simp only [Exit.then] at hq ⊢ <;> first | exact hq | exact ih _ a w hq
        · exact h
      | blk id =>
        cases e <;> simp only [contQ] at h ⊢ <;> try exact ih _ a w h
        split at h
        · rename_i e1; simp only [e1, if_true]; exact ih _ a w h
        · rename_i e1; simp only [e1, if_false]; exact ih _ a w h
  exact key st _ a w (h1 β a w hS)
theorem hold_restrict {Q : Exit → Act → World → Prop} {st : List It} {ks bs : List Nat} {nx : Nat} {σ' : St} (h : restrict ks bs nx σ = some σ') (hk : Hold P body Q w0 S st σ') : Hold P body Q w0 S st σ :=
  fun β a w hS => hk β a w (Sat.restrict h hS)
end
end Go.Eng

namespace Go.Eng
open Go.RowKit
def outB (blks : List (Nat × Bk)) : List Nat → Option (List (Nat × Bk))
  | [] => some []
  | id :: r => match getR blks id, outB blks r with
    | some b, some l => if (idss b.segs).isEmpty then some ((id, b) :: l) else none
    | _, _ => none
def wid (b : Bk) : Nat := if b.row then 3 else 1
def mapN : Nat → List (Nat × Bk) → Nat → Nat
  | _, [], i => i
  | k, (id, b) :: r, i => if i < k + wid b then id + (i - k) else mapN (k + wid b) r i
def numOf (id : Nat) : Nat → List (Nat × Bk) → Option Nat
  | _, [] => none
  | k, (j, b) :: r => if j = id then some k else numOf id (k + wid b) r
def isRow (L : List (Nat × Bk)) (id : Nat) : Bool := match getR L id with | some b => b.row | none => false
def viewN (L : List (Nat × Bk)) (blks : List (Nat × Bk)) (s : SV) : Option SV :=
  if s.ids.isEmpty && !s.isTup then some s else match s with
  | .row id s0 => (match numOf id 0 L with
    | some k => if s0.ids.isEmpty && isRow L id then some (.row k s0) else none
    | none => if s0.ids.isEmpty && !s0.isTup && !s0.isAgg then some s0 else none)
  | .osl id n es => (match numOf id 0 L with
    | some k => some (.osl k n es)
    | none => match deepV (restB (L.map (·.1)) blks) 80 (.osl id n es) with | some r => if r.ids.isEmpty then some r else none | none => none)
  | .ptr id 0 (.c 0) => (match numOf id 0 L with | some k => some (.ptr k 0 (.c 0)) | none => none)
  | s => match deepV (restB (L.map (·.1)) blks) 80 s with | some r => if r.ids.isEmpty then some r else none | none => none
def retOneN (P : Program) (vw : SV → Option SV) (σ : St) (r : ResultVar) : Option SV :=
  match r with
  | .tmp t => match getS σ.slots t with | some s => vw s | none => none
  | .cell ad t => match getS σ.slots ad, aggT P t, szT P t with
    | some (.ptr id off ix), some agg, some size => match getB σ.blks id with
      | some bk => match loadB bk agg size off ix with
        | some (s, []) => vw s
        | _ => none
      | none => none
    | _, _, _ => none
def retAllN (P : Program) (vw : SV → Option SV) (σ : St) : List ResultVar → Option (List SV)
  | [] => some []
  | r :: l => match retOneN P vw σ r, retAllN P vw σ l with
    | some s, some t => some (s :: t)
    | _, _ => none
def retN (P : Program) (rs : Array ResultVar) (news : List Nat) (σ : St) : Option MRes :=
  match outB σ.blks (outIds σ.m news) with
  | some L => match retAllN P (viewN L σ.blks) σ rs.toList with
    | some l => if (outIds σ.m news).Nodup then some ⟨joinR l, (L.map (·.2)).take σ.m, (L.map (·.2)).drop σ.m⟩ else none
    | none => none
  | none => none
section
variable {P : Program} {fn : Func} {body : Code} {w0 : Fr} {w : World} {S : Own} {σ : St} {β : Nat → Nat} {a : Act}
theorem outB_ok {blks : List (Nat × Bk)} : ∀ {ids : List Nat} {L : List (Nat × Bk)}, outB blks ids = some L → L.map (·.1) = ids ∧ ∀ id b, (id, b) ∈ L → (id, b) ∈ blks ∧ idss b.segs = [] := by
  intro ids
  induction ids with
  | nil => intro L h; simp only [outB] at h; cases h; exact ⟨rfl, fun _ _ h => by cases h⟩
  | cons id ids ih =>
    intro L h
    simp only [outB] at h
    split at h
    · rename_i b l hb hl
      split at h
      · rename_i he
        cases h
        obtain ⟨h1, h2⟩ := ih hl
        refine ⟨by simp [h1], fun i c hm => ?_⟩
        rcases List.mem_cons.1 hm with e | hm
        · cases e; exact ⟨getR_mem hb, by simpa using he⟩
        · exact h2 i c hm
      · cases h
    · cases h
theorem numB_cons {k : Nat} {b : Bk} {r : List Bk} : numB k (b :: r) = (k, b) :: numB (k + wid b) r := rfl
theorem wid_pos (b : Bk) : 0 < wid b := by unfold wid; split <;> omega
theorem wid_row {b : Bk} (h : b.row = true) : wid b = 3 := by unfold wid; rw [if_pos h]
theorem mapN_ok : ∀ {L : List (Nat × Bk)} {k i : Nat} {b : Bk}, (i, b) ∈ numB k (L.map (·.2)) →
    ∃ id, (id, b) ∈ L ∧ mapN k L i = id ∧ (b.row = true → mapN k L (i + 1) = id + 1 ∧ mapN k L (i + 2) = id + 2) := by
  intro L
  induction L with
  | nil => intro k i b h; simp [numB] at h
  | cons p r ih =>
    obtain ⟨id, c⟩ := p
    intro k i b h
    simp only [List.map_cons, numB_cons] at h
    rcases List.mem_cons.1 h with e | h
    · cases e
      have := wid_pos c
      refine ⟨id, by simp, ?_, fun hr => ?_⟩
      · simp only [mapN]; rw [if_pos (by omega)]; omega
      · have := wid_row hr
        simp only [mapN]
        rw [if_pos (by omega), if_pos (by omega)]
        omega
    · obtain ⟨id', h1, h2, h3⟩ := ih h
      have hge := (numB_bound h).1
      refine ⟨id', List.mem_cons_of_mem _ h1, ?_, fun hr => ?_⟩
      · simp only [mapN]; rw [if_neg (by omega)]; exact h2
      · simp only [mapN]; rw [if_neg (by omega), if_neg (by omega)]; exact h3 hr
theorem mapN_inj : ∀ {L : List (Nat × Bk)} {k i j : Nat} {bi bj : Bk}, (L.map (·.1)).Nodup → (i, bi) ∈ numB k (L.map (·.2)) → (j, bj) ∈ numB k (L.map (·.2)) → mapN k L i = mapN k L j → i = j := by
  intro L
  induction L with
  | nil => intro k i j bi bj _ h; simp [numB] at h
  | cons p r ih =>
    obtain ⟨id, c⟩ := p
    intro k i j bi bj hn hi hj e
    simp only [List.map_cons, List.nodup_cons] at hn
    simp only [List.map_cons, numB_cons] at hi hj
    have hp := wid_pos c
    have head : mapN k ((id, c) :: r) k = id := by simp only [mapN]; rw [if_pos (by omega)]; omega
    have tail : ∀ {x : Nat} {b : Bk}, (x, b) ∈ numB (k + wid c) (r.map (·.2)) → mapN k ((id, c) :: r) x = mapN (k + wid c) r x ∧ mapN (k + wid c) r x ∈ r.map (·.1) := by
      intro x b hx
      have hge := (numB_bound hx).1
      obtain ⟨id', h1, h2, _⟩ := mapN_ok hx
      refine ⟨by simp only [mapN]; rw [if_neg (by omega)], ?_⟩
      rw [h2]
      exact List.mem_map.2 ⟨_, h1, rfl⟩
    rcases List.mem_cons.1 hi with e1 | hi
    · cases e1
      rcases List.mem_cons.1 hj with e2 | hj
      · cases e2; rfl
      · obtain ⟨t1, t2⟩ := tail hj
        rw [head, t1] at e
        rw [← e] at t2
        exact absurd t2 hn.1
    · obtain ⟨s1, s2⟩ := tail hi
      rcases List.mem_cons.1 hj with e2 | hj
      · cases e2
        rw [head, s1] at e
        rw [e] at s2
        exact absurd s2 hn.1
      · obtain ⟨t1, t2⟩ := tail hj
        rw [s1, t1] at e
        exact ih hn.2 hi hj e
theorem numOf_ok {id : Nat} : ∀ {L : List (Nat × Bk)} {k n : Nat}, numOf id k L = some n → ∃ b, (n, b) ∈ numB k (L.map (·.2)) ∧ (id, b) ∈ L ∧ mapN k L n = id ∧ (b.row = true → mapN k L (n + 1) = id + 1 ∧ mapN k L (n + 2) = id + 2) := by
  intro L
  induction L with
  | nil => intro k n h; simp [numOf] at h
  | cons p r ih =>
    obtain ⟨j, c⟩ := p
    intro k n h
    simp only [numOf] at h
    have hp := wid_pos c
    split at h
    · rename_i e
      cases h
      subst e
      refine ⟨c, by simp [numB_cons], by simp, ?_, fun hr => ?_⟩
      · simp only [mapN]; rw [if_pos (by omega)]; omega
      · have := wid_row hr
        simp only [mapN]
        rw [if_pos (by omega), if_pos (by omega)]
        omega
    · obtain ⟨b, h1, h2, h3, h4⟩ := ih h
      have hge := (numB_bound h1).1
      refine ⟨b, by simp only [List.map_cons, numB_cons]; exact List.mem_cons_of_mem _ h1, List.mem_cons_of_mem _ h2, ?_, fun hr => ?_⟩
      · simp only [mapN]; rw [if_neg (by omega)]; exact h3
      · simp only [mapN]; rw [if_neg (by omega), if_neg (by omega)]; exact h4 hr
theorem mapN_low : ∀ {i n k : Nat} {L : List (Nat × Bk)}, (∀ i, i < n → ∃ b, L[i]? = some (k + i, b) ∧ b.row = false) → i < n → mapN k L (k + i) = k + i ∧ ∃ b, (k + i, b) ∈ numB k (L.map (·.2)) := by
  intro i
  induction i with
  | zero =>
    intro n k L h hi
    obtain ⟨b, hb, hr⟩ := h 0 hi
    cases L with
    | nil => simp at hb
    | cons p r =>
      simp at hb
      subst hb
      have := wid_pos b
      refine ⟨?_, b, by simp [numB_cons]⟩
      simp only [mapN, Nat.add_zero]
      rw [if_pos (by omega)]
      omega
  | succ i ih =>
    intro n k L h hi
    obtain ⟨b, hb, hr⟩ := h 0 (by omega)
    cases L with
    | nil => simp at hb
    | cons p r =>
      simp at hb
      subst hb
      have hw : wid b = 1 := by unfold wid; rw [hr]; rfl
      obtain ⟨h1, c, h2⟩ := ih (n := n - 1) (k := k + 1) (L := r) (fun j hj => by
        obtain ⟨c, hc, hcr⟩ := h (j + 1) (by omega)
        exact ⟨c, by simpa [Nat.add_assoc, Nat.add_comm 1 j] using hc, hcr⟩) (by omega)
      rw [show k + 1 + i = k + (i + 1) by omega] at h1 h2
      refine ⟨?_, c, ?_⟩
      · simp only [mapN]
        rw [if_neg (by omega), hw]
        exact h1
      · simp only [List.map_cons, numB_cons, hw]
        exact List.mem_cons_of_mem _ h2
theorem retOneN_ok (hS : Sat w0 S σ β a w) {vw : SV → Option SV} {β' : Nat → Nat} {ow' : Own} (hvw : ∀ s r v, vw s = some r → relV β (owS S σ.blks β) w s v → relV1 β' ow' w r v) {r : ResultVar} {s : SV} (h : retOneN P vw σ r = some s) :
    ∃ v, (resF a.tmps r).run P w = .ok v w ∧ relV1 β' ow' w s v := by
  cases r with
  | tmp t =>
    simp only [retOneN] at h
    split at h
    · rename_i s' hs
      exact ⟨_, rfl, hvw _ _ _ h (hS.slot t s' (getS_mem hs))⟩
    · cases h
  | cell ad t =>
    simp only [retOneN] at h
    split at h
    · rename_i id off ix agg size hs ha hsz
      split at h
      · rename_i bk hg
        split at h
        · rename_i s' hl
          have h1 := relV_scalar rfl rfl (hS.slot ad _ (getS_mem hs))
          simp only [rel, List.cons.injEq, and_true] at h1
          obtain ⟨cs, hr, hb⟩ := (hS.blk id bk (getB_both hg).1).1 (getB_both hg).2
          obtain ⟨v, hrun, hv⟩ := loadB_ok (P := P) hl trivial ha hsz hr hb
          refine ⟨v, ?_, hvw _ _ _ h hv⟩
          simp only [Instr.loadAt, Instr.sureAddr, Sem.run_bind, Sem.run_pure, Result.andThen_ok] at hrun
          simp only [resF, h1, asAddr, Sem.run_bind, Sem.run_pure, Result.andThen_ok]
          exact hrun
        · cases h
      · cases h
    · cases h
theorem retAllN_ok (hS : Sat w0 S σ β a w) {vw : SV → Option SV} {β' : Nat → Nat} {ow' : Own} (hvw : ∀ s r v, vw s = some r → relV β (owS S σ.blks β) w s v → relV1 β' ow' w r v) : ∀ {rs : List ResultVar} {l : List SV}, retAllN P vw σ rs = some l →
    ∃ vs, (rs.mapM (resF a.tmps)).run P w = .ok vs w ∧ relVs β' ow' w l vs ∧ vs.length = rs.length := by
  intro rs
  induction rs with
  | nil => intro l h; simp only [retAllN] at h; cases h; exact ⟨[], by simp, rfl, rfl⟩
  | cons r rs ih =>
    intro l h
    simp only [retAllN] at h
    split at h
    · rename_i s t h1 h2
      cases h
      obtain ⟨v, hv, hr⟩ := retOneN_ok hS hvw h1
      obtain ⟨vs, hvs, hrs, hlen⟩ := ih h2
      refine ⟨v :: vs, ?_, ⟨v, vs, rfl, hr, hrs⟩, by simp [hlen]⟩
      rw [List.mapM_cons, Sem.run_bind, hv]
      simp only [Result.andThen_ok, Sem.run_bind, hvs, Sem.run_pure]
    · cases h
theorem hold_finN {res r : MRes} {news : List Nat} (h : retN P fn.results news σ = some r) (he : r = res) : Hold P body (FinM P fn w0 S res) w0 S [] σ := by
  intro β a w hS
  subst he
  unfold retN at h
  split at h
  · rename_i L hL
    split at h
    · rename_i l hl
      split at h
      · rename_i hnd
        cases h
        have hm : σ.m = w0.m := hS.pins.1
        obtain ⟨hLids, hLmem⟩ := outB_ok hL
        have hnd' : (L.map (·.1)).Nodup := by rw [hLids]; exact hnd
        generalize hbs : L.map (·.2) = bs at *
        have htd : bs.take σ.m ++ bs.drop σ.m = bs := List.take_append_drop _ _
        let β' : Nat → Nat := fun k => β (mapN 0 L k)
        have hof : ∀ k b, (k, b) ∈ numB 0 bs → ∃ id, (id, b) ∈ L ∧ β' k = β id ∧ (b.row = true → β' (k + 1) = β (id + 1) ∧ β' (k + 2) = β (id + 2)) ∧ mapN 0 L k = id := by
          intro k b hk
          rw [← hbs] at hk
          obtain ⟨id, h1, h2, h3⟩ := mapN_ok hk
          exact ⟨id, h1, by show β (mapN 0 L k) = _; rw [h2], fun hr => ⟨by show β (mapN 0 L (k + 1)) = _; rw [(h3 hr).1], by show β (mapN 0 L (k + 2)) = _; rw [(h3 hr).2]⟩, h2⟩
        have hlow : ∀ i, i < w0.m → ∃ b, L[i]? = some (0 + i, b) ∧ b.row = false := by
          intro i hi
          have h1 := out_low (news := news) (by rw [hm]; exact hi : i < σ.m)
          rw [← hLids, List.getElem?_map] at h1
          obtain ⟨⟨j, b⟩, h2, h3⟩ := Option.map_eq_some_iff.1 h1
          simp only at h3
          subst h3
          obtain ⟨_, bk, hm2, hr2⟩ := hS.pins.2 j hi
          have := nodup_fst hS.uniq hm2 (hLmem j b (List.mem_of_getElem? h2)).1
          exact ⟨b, by simpa using h2, by rw [← this]; exact hr2⟩
        have hlive : ∀ {k id : Nat} {b : Bk}, (b.row = true → β' (k + 1) = β (id + 1) ∧ β' (k + 2) = β (id + 2)) → live β' k b → live β id b := fun h1 h2 hr => by rw [← (h1 hr).1]; exact h2 hr
        have hsub : ∀ b j, owS S (numB 0 bs) β' b j → owS S σ.blks β b j := by
          rintro b j (hs | ⟨k, bk, hk, e, hr⟩)
          · exact .inl hs
          · obtain ⟨id, h1, h2, h3, _⟩ := hof k bk hk
            refine .inr ⟨id, bk, (hLmem id bk h1).1, by rw [← h2]; exact e, fun h => ?_⟩
            obtain ⟨e1, e2⟩ := h3 h
            rw [← e1, ← e2]
            exact hr h
        have hdeep : ∀ (s r : SV) (v : Value), deepV (restB (L.map (·.1)) σ.blks) 80 s = some r → r.ids.isEmpty = true → relV β (owS S σ.blks β) w s v → relV1 β' (owS S (numB 0 bs) β') w r v := by
          intro s r' v hd hids hv
          have ht : s.isTup = false := by
            cases s <;> first | rfl | (rw [deepV_tup] at hd; cases hd)
          obtain ⟨cs, h1, rfl⟩ := relV_one ht hv
          have hrest : HSat β (owS S σ.blks β) w (restB (L.map (·.1)) σ.blks) := fun id bk hm => hS.blk id bk (List.mem_filter.1 hm).1
          obtain ⟨h2, h3⟩ := (deep_ok hrest (S := owS S (numB 0 bs) β') hsub (fun id bk hg j hs => by
            obtain ⟨hgm, hout⟩ := List.mem_filter.1 (getB_mem hg)
            have hlv := live_plain (β := β) (id := id) (getB_both hg).2
            rcases hs with hs | ⟨k, bk', hk, e, hrr⟩
            · have h1 := hS.lowS _ _ hs
              rcases hS.low id _ hgm hlv with h2 | h2
              · omega
              · exact h1.2 h2
            · obtain ⟨id', h4, h5, h6, _⟩ := hof k bk' hk
              rw [h5] at e
              have := hS.inj id' id _ _ (hLmem id' bk' h4).1 hgm (hlive h6 fun hr => (hrr hr).1) hlv e
              subst this
              simp only [Bool.not_eq_true', List.contains_eq_mem, decide_eq_false_iff_not] at hout
              exact hout (List.mem_map.2 ⟨_, h4, rfl⟩)) 80).1 hd h1
          exact ⟨cs, rel_mono (fun _ _ _ h => h) (Keep.refl _ _) _ _ (fun id hid => by rw [List.isEmpty_iff.1 hids] at hid; cases hid) h2, by rw [h3]⟩
        have hvw : ∀ s r v, viewN L σ.blks s = some r → relV β (owS S σ.blks β) w s v → relV1 β' (owS S (numB 0 bs) β') w r v := by
          intro s r v h hv
          unfold viewN at h
          split at h
          · rename_i hc
            simp only [Bool.and_eq_true, List.isEmpty_iff, Bool.not_eq_true'] at hc
            cases h
            exact relV1_mono (fun b j _ h => hsub b j h) (Keep.refl _ _) (fun id hid => by rw [hc.1] at hid; cases hid) (relV_one hc.2 hv)
          · split at h
            · rename_i id s0 _
              have h1 := relV_scalar rfl rfl hv
              split at h
              · rename_i k hk
                split at h
                · rename_i hcc
                  cases h
                  obtain ⟨hids, hrw⟩ := Bool.and_eq_true_iff.1 hcc
                  obtain ⟨b, hb1, hb2, hb3, hb4⟩ := numOf_ok hk
                  simp only [rel] at h1
                  obtain ⟨hr, n, hsl, hvv, hn, hz⟩ := h1
                  have hrow : b.row = true := by
                    unfold isRow at hrw
                    split at hrw
                    · rename_i b2 hg2
                      have := nodup_fst hnd' hb2 (getR_mem hg2)
                      rw [this]; exact hrw
                    · cases hrw
                  obtain ⟨e1, e2⟩ := hb4 hrow
                  have f0 : β' k = β id := by show β (mapN 0 L k) = _; rw [hb3]
                  have f1 : β' (k + 1) = β (id + 1) := by show β (mapN 0 L (k + 1)) = _; rw [e1]
                  have f2 : β' (k + 2) = β (id + 2) := by show β (mapN 0 L (k + 2)) = _; rw [e2]
                  refine ⟨[v], ?_, rfl⟩
                  simp only [rel]
                  exact ⟨rel_mono (fun b j _ h => hsub b j h) (Keep.refl _ _) _ _ (fun i hi => by rw [List.isEmpty_iff.1 hids] at hi; cases hi) hr, n, hsl, by rw [f0, f1]; exact hvv, by rw [f2]; exact hn, by rw [f1]; exact hz⟩
                · cases h
              · split at h
                · rename_i hc
                  simp only [Bool.and_eq_true, List.isEmpty_iff, Bool.not_eq_true'] at hc
                  cases h
                  simp only [rel] at h1
                  exact ⟨[v], rel_mono (fun b j _ h => hsub b j h) (Keep.refl _ _) _ _ (fun i hi => by rw [hc.1.1] at hi; cases hi) h1.1, by rw [hc.2]; rfl⟩
                · cases h
            · rename_i id n es _
              split at h
              · rename_i k hk
                cases h
                obtain ⟨b, hb1, hb2, hb3, hb4⟩ := numOf_ok hk
                have h1 := relV_scalar rfl rfl hv
                simp only [rel, List.cons.injEq, and_true] at h1
                subst h1
                have f0 : β' k = β id := by show β (mapN 0 L k) = _; rw [hb3]
                exact ⟨_, by simp only [rel]; rfl, by rw [f0]; rfl⟩
              · split at h
                · rename_i r' hd
                  split at h
                  · rename_i hids; cases h; exact hdeep _ _ _ hd hids hv
                  · cases h
                · cases h
            · rename_i id _
              split at h
              · rename_i k hk
                cases h
                obtain ⟨b, hb1, hb2, hb3, hb4⟩ := numOf_ok hk
                have h1 := relV_scalar rfl rfl hv
                simp only [rel, List.cons.injEq, and_true] at h1
                subst h1
                have f0 : β' k = β id := by show β (mapN 0 L k) = _; rw [hb3]
                exact ⟨_, by simp only [rel]; rfl, by rw [f0]; rfl⟩
              · cases h
            · split at h
              · rename_i r' hd
                split at h
                · rename_i hids; cases h; exact hdeep _ _ _ hd hids hv
                · cases h
              · cases h
        obtain ⟨vs, hvs, hrs, _⟩ := retAllN_ok hS hvw hl
        obtain ⟨v, hv, hr⟩ := joined rfl hvs hrs
        refine ⟨hS.defs, v, β', hv, fun i hi => ?_, hS.ext, ?_, ?_, ?_, ?_⟩
        · have h1 := (mapN_low (L := L) (k := 0) hlow hi).1
          simp only [Nat.zero_add] at h1
          show β (mapN 0 L i) = _
          rw [h1]
          exact (hS.pins.2 i hi).1
        · simpa only [htd] using hr
        · simp only [htd]
          intro k bk hk
          obtain ⟨id, h1, h2, h3, _⟩ := hof k bk hk
          obtain ⟨hmem, hids⟩ := hLmem id bk h1
          refine ⟨fun hrw => ?_, fun hrw hn => ?_⟩
          · obtain ⟨cs, h4, h5⟩ := (hS.blk id bk hmem).1 hrw
            exact ⟨cs, rels_mono (fun b j _ h => hsub b j h) (Keep.refl _ _) _ _ (fun i hi => by rw [hids] at hi; cases hi) h4, by rw [h2]; exact h5⟩
          · obtain ⟨e1, e2⟩ := h3 hrw
            rw [e1] at hn
            obtain ⟨cs, h4, h5⟩ := (hS.blk id bk hmem).2 hrw hn
            exact ⟨cs, by rw [h2]; exact h4, by rw [e1, e2]; exact h5⟩
        · simp only [htd]
          intro i j bi bj hi hj li lj e
          obtain ⟨id1, a1, a2, a3, a4⟩ := hof i bi hi
          obtain ⟨id2, b1, b2, b3, b4⟩ := hof j bj hj
          rw [a2, b2] at e
          have := hS.inj id1 id2 _ _ (hLmem _ _ a1).1 (hLmem _ _ b1).1 (hlive a3 li) (hlive b3 lj) e
          rw [← hbs] at hi hj
          exact mapN_inj hnd' hi hj (by rw [a4, b4, this])
        · simp only [htd]
          intro i bk hi hlv
          rcases Nat.lt_or_ge i w0.m with hl | hge
          · exact .inl hl
          · right
            obtain ⟨id, a1, a2, a3, a4⟩ := hof i bk hi
            rw [a2]
            rcases hS.low id bk (hLmem _ _ a1).1 (hlive a3 hlv) with h1 | ⟨i', hi', e⟩
            · exact h1
            · exfalso
              obtain ⟨e2, b2, hm2, hr2⟩ := hS.pins.2 i' hi'
              have hid := hS.inj i' id _ _ hm2 (hLmem _ _ a1).1 (live_plain hr2) (hlive a3 hlv) (by rw [e2, e])
              obtain ⟨q1, c, q2⟩ := mapN_low (L := L) (k := 0) hlow hi'
              simp only [Nat.zero_add] at q1 q2
              rw [← hbs] at hi
              have := mapN_inj hnd' hi q2 (by rw [a4, q1, hid])
              omega
      · cases h
    · cases h
  · cases h
def runN (P : Program) (ctr : Ctr) (body : Code) (rs : Array ResultVar) (news : List Nat) (unroll : Bool) (f : Nat) (st : List It) (σ : St) (sc : List Bool) : List It × Option MRes × List Prop × List Bool :=
  match run P ctr body unroll f st σ sc with
  | (st', σ', ob, sc') => (st', retN P rs news σ', ob, sc')
theorem hold_endN (hm : P.follows .mixedOrders = true) {ctr : Ctr} (hctr : CtrOk P ctr) {res : MRes} {news : List Nat} {unroll : Bool} {f : Nat} {st : List It} {σ : St} {sc : List Bool} {r : MRes} {ob : List Prop} {sc' : List Bool}
    (h : runN P ctr body fn.results news unroll f st σ sc = ([], some r, ob, sc')) (hob : All ob) (he : r = res) : Hold P body (FinM P fn w0 S res) w0 S st σ := by
  unfold runN at h
  cases hr : run P ctr body unroll f st σ sc with
  | mk q1 q =>
    obtain ⟨q2, q3, q4⟩ := q
    rw [hr] at h
    simp only [Prod.mk.injEq] at h
    obtain ⟨rfl, h2, rfl, rfl⟩ := h
    exact hold_run hm hctr unroll f sc hr hob (hold_finN h2 he)
theorem FinM.wk {r s : MRes} (he : wkM r s) {st : List It} (h1 : Hold P body (FinM P fn w0 S r) w0 S st σ) : Hold P body (FinM P fn w0 S s) w0 S st σ := by
  intro β a w hS
  have key : ∀ st e a w, contQ P body (FinM P fn w0 S r) st e a w → contQ P body (FinM P fn w0 S s) st e a w := by
    have hQ : ∀ e a w, FinM P fn w0 S r e a w → FinM P fn w0 S s e a w := by
      intro e a w hq
      cases e <;> first | exact FinQ.weaken hq he | exact hq
    intro st
    induction st with
    | nil => intro e a w h; exact hQ e a w h
    | cons x st ih =>
      intro e a w h
      cases x with
      | «at» p =>
        cases e <;> simp only [contQ] at h ⊢ <;> try exact ih _ a w h
        split at h
        · exact wp_mono h fun e a w hq => ih e a w hq
        · exact h
      | lp p =>
        cases e <;> simp only [contQ] at h ⊢ <;> try exact ih _ a w h
        split at h
        · intro I hI
          refine h I fun a w hw => hI a w (wp_mono hw fun e a w hq => ?_)
          cases e <;> simp only [Exit.then] at hq ⊢ <;> first | exact hq | exact ih _ a w hq
        · exact h
      | blk id =>
        cases e <;> simp only [contQ] at h ⊢ <;> try exact ih _ a w h
        split at h
        · rename_i e1; simp only [e1, if_true]; exact ih _ a w h
        · rename_i e1; simp only [e1, if_false]; exact ih _ a w h
  exact key st _ a w (h1 β a w hS)
theorem hold_endNw (hm : P.follows .mixedOrders = true) {ctr : Ctr} (hctr : CtrOk P ctr) {res : MRes} {news : List Nat} {unroll : Bool} {f : Nat} {st : List It} {σ : St} {sc : List Bool} {r : MRes} {ob : List Prop} {sc' : List Bool}
    (h : runN P ctr body fn.results news unroll f st σ sc = ([], some r, ob, sc')) (hob : All ob) (he : wkM r res) : Hold P body (FinM P fn w0 S res) w0 S st σ :=
  FinM.wk he (hold_endN hm hctr h hob rfl)
theorem Invokes.mono {f : FuncId} {vs : List Value} {Φ Ψ : Value → World → Prop} (h : Invokes P f vs w Φ) (hm : ∀ v w', Φ v w' → Ψ v w') : Invokes P f vs w Ψ := by
  revert h
  unfold Invokes
  split <;> intro h
  · exact hm _ _ h
  · exact h.mono fun e w'' ⟨v, e1, hp⟩ => ⟨v, e1, hm _ _ hp⟩
  · exact h.elim
def runO (P : Program) (ctr : Ctr) (body : Code) (rs : Array ResultVar) (news : List Nat) (t : Nat) (unroll : Bool) (f : Nat) (st : List It) (σ : St) (sc : List Bool) : List It × Option MRes × List Prop × List Bool :=
  match run P ctr body unroll f st σ sc with
  | (st', σ', ob, sc') => match Eng.oslRow σ' (.tmp t) with
    | some σ2 => (st', retN P rs news σ2, ob, sc')
    | none => (st', none, ob, sc')
theorem hold_osl {Q : Exit → Act → World → Prop} {st : List It} {t : Nat} {σ' : St} (h : Eng.oslRow σ (.tmp t) = some σ') (hk : Hold P body Q w0 S st σ') : Hold P body Q w0 S st σ := by
  intro β a w hS
  obtain ⟨β', hS'⟩ := hS.oslRow h
  exact hk _ _ _ hS'
theorem hold_endOw (hm : P.follows .mixedOrders = true) {ctr : Ctr} (hctr : CtrOk P ctr) {res : MRes} {news : List Nat} {t : Nat} {unroll : Bool} {f : Nat} {st : List It} {σ : St} {sc : List Bool} {r : MRes} {ob : List Prop} {sc' : List Bool}
    (h : runO P ctr body fn.results news t unroll f st σ sc = ([], some r, ob, sc')) (hob : All ob) (he : wkM r res) : Hold P body (FinM P fn w0 S res) w0 S st σ := by
  unfold runO at h
  cases hr : run P ctr body unroll f st σ sc with
  | mk q1 q =>
    obtain ⟨q2, q3, q4⟩ := q
    rw [hr] at h
    simp only at h
    split at h
    · rename_i σ2 ho
      simp only [Prod.mk.injEq] at h
      obtain ⟨rfl, h2, rfl, rfl⟩ := h
      exact FinM.wk he (hold_run hm hctr unroll f sc hr hob (hold_osl ho (hold_finN h2 rfl)))
    · simp at h
theorem ContractM.plain {f : FuncId} {args : List SV} {s : SV} {ty : TypeId} (h : ContractM P f [] args ⟨.row 0 s, [], [⟨ty, [], true⟩]⟩) (hids : s.ids = []) (ha : s.isAgg = false) (_ : s.isTup = false) (_ : idss args = []) : Contract P f args s := by
  intro w S vs hSlt hvs
  have h1 := h w S (fun _ => 0) vs (fun b j hs => ⟨hSlt b j hs, fun i hi => absurd hi (Nat.not_lt_zero _)⟩) (fun _ h => by cases h) (fun _ _ h => by simp [numB] at h) (fun _ _ h => absurd h (Nat.not_lt_zero _))
    (relVs_mono (fun b j _ h => h.elim id fun ⟨_, _, hm, _⟩ => by simp [numB] at hm) (Keep.refl _ _) _ _ (fun _ _ => rfl) hvs)
  refine Invokes.mono h1 ?_
  rintro v w' ⟨β', _, hb, hv, _⟩
  refine ⟨?_, ?_⟩
  · exact Bel.below (w := w) ⟨hb.os, hb.tape, hb.output, hb.size, fun k hk _ => hb.block k hk fun ⟨i, hi, _⟩ => absurd hi (Nat.not_lt_zero _)⟩
  · have h2 := relV_scalar rfl rfl hv
    simp only [rel] at h2
    have h3 := rel_mono (β' := fun _ => 0) (ow' := S) (fun b j _ h => .inl h) (Keep.refl _ _) s _ (fun id hid => by rw [hids] at hid; cases hid) h2.1
    exact relV_of1 ha h3
end
end Go.Eng

namespace Go.Eng
open Go.RowKit
def delB : List (Nat × Bk) → Nat → List (Nat × Bk)
  | [], _ => []
  | p :: r, t => if p.1 = t then delB r t else p :: delB r t
def frzSl (id : Nat) (s : SV) : List (Nat × SV) → List (Nat × SV)
  | [] => []
  | p :: r => match p.2 with
    | .ptr i 0 (.c 0) => if i = id then (p.1, .rp s) :: frzSl id s r else p :: frzSl id s r
    | .ptr i _ _ => if i = id then frzSl id s r else p :: frzSl id s r
    | _ => if p.2.ids.all (fun i => decide (i ≠ id)) then p :: frzSl id s r else frzSl id s r
def frz (σ : St) (id : Nat) : Option St :=
  match getB σ.blks id with
  | some bk => if 0 < SV.size.sizes bk.segs ∧ (idss bk.segs).isEmpty = true ∧ σ.m ≤ id then some { σ with slots := frzSl id (joinS bk.segs) σ.slots, blks := delB σ.blks id } else none
  | none => none
theorem mem_delB {l : List (Nat × Bk)} {t d : Nat} {s : Bk} (h : (d, s) ∈ delB l t) : (d, s) ∈ l ∧ d ≠ t := by
  induction l with
  | nil => simp [delB] at h
  | cons p r ih =>
    simp only [delB] at h
    split at h
    · have := ih h; exact ⟨List.mem_cons_of_mem _ this.1, this.2⟩
    · rename_i hne
      rcases List.mem_cons.1 h with e | h
      · subst e; exact ⟨by simp, hne⟩
      · have := ih h; exact ⟨List.mem_cons_of_mem _ this.1, this.2⟩
theorem mem_delB_of {l : List (Nat × Bk)} {t d : Nat} {s : Bk} (h : (d, s) ∈ l) (hne : d ≠ t) : (d, s) ∈ delB l t := by
  induction l with
  | nil => cases h
  | cons p r ih =>
    simp only [delB]
    rcases List.mem_cons.1 h with e | h
    · subst e; simp [hne]
    · split
      · exact ih h
      · exact List.mem_cons_of_mem _ (ih h)
theorem delB_sub {l : List (Nat × Bk)} {t : Nat} : ((delB l t).map (·.1)).Sublist (l.map (·.1)) := by
  induction l with
  | nil => exact List.Sublist.refl _
  | cons p r ih =>
    simp only [delB]
    split
    · exact ih.trans (List.sublist_cons_self _ _)
    · exact ih.cons_cons _
theorem frzSl_mem {id : Nat} {s : SV} : ∀ {l : List (Nat × SV)} {d : Nat} {t : SV}, (d, t) ∈ frzSl id s l → ((d, t) ∈ l ∧ (∀ i ∈ t.ids, i ≠ id)) ∨ (t = .rp s ∧ (d, .ptr id 0 (.c 0)) ∈ l) := by
  intro l
  induction l with
  | nil => intro d t h; simp [frzSl] at h
  | cons p r ih =>
    intro d t h
    have up : (((d, t) ∈ r ∧ (∀ i ∈ t.ids, i ≠ id)) ∨ (t = .rp s ∧ (d, SV.ptr id 0 (.c 0)) ∈ r)) → (((d, t) ∈ p :: r ∧ (∀ i ∈ t.ids, i ≠ id)) ∨ (t = .rp s ∧ (d, SV.ptr id 0 (.c 0)) ∈ p :: r)) := by
      rintro (⟨h1, h2⟩ | ⟨h1, h2⟩)
      · exact .inl ⟨List.mem_cons_of_mem _ h1, h2⟩
      · exact .inr ⟨h1, List.mem_cons_of_mem _ h2⟩
    obtain ⟨e, q⟩ := p
    simp only [frzSl] at h
    split at h
    · split at h
      · rename_i hi
        subst hi
        rcases List.mem_cons.1 h with e1 | h
        · cases e1; exact .inr ⟨rfl, by simp⟩
        · exact up (ih h)
      · rename_i hi
        rcases List.mem_cons.1 h with e1 | h
        · cases e1; exact .inl ⟨by simp, by intro j hj; simp [SV.ids] at hj; subst hj; exact hi⟩
        · exact up (ih h)
    · split at h
      · exact up (ih h)
      · rename_i hi
        rcases List.mem_cons.1 h with e1 | h
        · cases e1; exact .inl ⟨by simp, by intro j hj; simp [SV.ids] at hj; subst hj; exact hi⟩
        · exact up (ih h)
    · split at h
      · rename_i hall
        rcases List.mem_cons.1 h with e1 | h
        · cases e1; exact .inl ⟨by simp, fun i hi => by have := List.all_eq_true.1 hall i hi; simpa using this⟩
        · exact up (ih h)
      · exact up (ih h)
section
variable {P : Program} {body : Code} {w0 : Fr} {w : World} {S : Own} {σ : St} {β : Nat → Nat} {a : Act}
theorem Sat.freeze {id : Nat} {σ' : St} (h : frz σ id = some σ') (hS : Sat w0 S σ β a w) : Sat w0 S σ' β a w := by
  unfold frz at h
  split at h
  · rename_i bk hg
    split at h
    · rename_i hc
      cases h
      obtain ⟨hpos, hno, hmid⟩ := hc
      have hno : idss bk.segs = [] := by simpa using hno
      have ho : ∀ b j, b < w.heap.size → owS S (delB σ.blks id) β b j → owS S σ.blks β b j := fun b _ _ hb => hb.imp (fun x => x) fun ⟨i, bi, hm, e⟩ => ⟨i, bi, (mem_delB hm).1, e⟩
      have hmem := (getB_both hg).1
      have hrow := (getB_both hg).2
      obtain ⟨cs, hr, hb⟩ := (hS.blk id bk hmem).1 hrow
      have hfree : ∀ j, ¬ owS S (delB σ.blks id) β (β id) j := by
        rintro j (hs | ⟨i, bi, hm, e, hrr⟩)
        · have h1 := hS.lowS _ _ hs
          rcases hS.low id bk hmem (live_plain hrow) with h2 | h2
          · omega
          · exact h1.2 h2
        · obtain ⟨hm, hne⟩ := mem_delB hm
          exact hne (hS.inj i id bi bk hm hmem (fun hr => (hrr hr).1) (live_plain hrow) e)
      refine ⟨hS.defs, hS.size, fun d t hm => ?_, ?_, fun i bi hm => hS.low i bi (mem_delB hm).1, fun i j bi bj hi hj => hS.inj i j bi bj (mem_delB hi).1 (mem_delB hj).1, hS.uniq.sublist delB_sub, ?_, fun i bi hm => hS.bndB i bi (mem_delB hm).1, hS.ext, hS.lowS, hS.pins.1, fun i hi => ?_⟩
      · rcases frzSl_mem hm with ⟨hm, _⟩ | ⟨rfl, hm3⟩
        · exact relV_mono ho (Keep.refl _ _) (fun _ _ => rfl) (hS.slot d t hm)
        · have h1 := relV_scalar rfl rfl (hS.slot d _ hm3)
          simp only [rel, List.cons.injEq, and_true] at h1
          rw [h1]
          refine relV_of1 rfl ?_
          simp only [rel]
          refine ⟨⟨β id, 0 + Ix.n (.c 0), none⟩, cs, rfl, rfl, fun j _ => hfree _, ?_, ?_, fun j u hu => ?_⟩
          · exact joinS_rel (rels_mono ho (Keep.refl _ _) _ _ (fun _ _ => rfl) hr)
          · intro e
            have := rels_len _ _ hr
            rw [e] at this
            simp at this
            omega
          · simp only [Ix.n, Nat.zero_add]
            rw [cell_row hb]; simpa using hu
      · have hsub : HSat β (owS S σ.blks β) w (delB σ.blks id) := fun i bi hm => hS.blk i bi (mem_delB hm).1
        exact hsub.move ho (Keep.refl _ _) (fun _ _ _ => sameB_refl) (fun _ _ _ _ => rfl)
      · intro d t hm i hi
        rcases frzSl_mem hm with ⟨hm, _⟩ | ⟨rfl, hm⟩
        · exact hS.bnd d t hm i hi
        · simp only [SV.ids] at hi
          rw [joinS_ids, hno] at hi
          cases hi
      · obtain ⟨e, bi, hm, hr⟩ := hS.pins.2 i hi
        exact ⟨e, bi, mem_delB_of hm (by have := hS.pins.1; omega), hr⟩
    · cases h
  · cases h
theorem hold_freeze {Q : Exit → Act → World → Prop} {st : List It} {id : Nat} {σ' : St} (h : frz σ id = some σ') (hk : Hold P body Q w0 S st σ') : Hold P body Q w0 S st σ :=
  fun β a w hS => hk β a w (Sat.freeze h hS)
end
end Go.Eng

namespace Go.Eng.B
open Go Go.Eng Go.Proofs
theorem mixed : Tryz.prog.follows .mixedOrders = true := by kernel_rfl
theorem int?_wk {x : SV} {k : IntKind} {n : Int} (h : x.int? = some (k, n)) : wk x (.i k n) := by
  cases x <;> simp [SV.int?] at h <;> (obtain ⟨rfl, rfl⟩ := h; simp [wk, wk0, wka])
theorem nat?_wk {x : SV} {k : IntKind} {n : Nat} (h : x.nat? = some (k, n)) {β : Nat → Nat} {ow : Own} {w : World} {v : Value} (hv : relV1 β ow w x v) : relV1 β ow w (.u k n) v := by
  obtain ⟨cs, hr, rfl⟩ := hv
  obtain ⟨rfl, hl⟩ := nat?_ok h hr
  exact ⟨_, rel_u hl, by rw [(nat?_sc h).2]; rfl⟩
theorem nat?_int {x : SV} {k : IntKind} {n : Nat} (h : x.nat? = some (k, n)) : x.int? = some (k, (n : Int)) := by
  cases x <;> simp [SV.nat?] at h
  · obtain ⟨h1, h2, h3⟩ := h
    simp only [SV.int?]
    rw [h2, ← h3, Int.toNat_of_nonneg h1]
  · obtain ⟨rfl, rfl⟩ := h; rfl
theorem Contract.args {P : Program} {f : FuncId} {args args' : List SV} {res : SV} (hw : wkl args args') (h : Contract P f args' res) : Contract P f args res :=
  fun w S vs hlt hvs => h w S vs hlt (wkl_ok hw hvs)
def ctr0 : Ctr := ⟨fun _ _ => none, fun _ _ _ => none⟩
theorem ctr0_ok : CtrOk Tryz.prog ctr0 := ⟨fun _ _ _ _ h => (by cases h), fun _ _ _ _ _ h => (by cases h)⟩
def eMod (args : List SV) : Option (SV × List Prop) :=
  match args with
  | [x, y] => match x.int?, y.int? with
    | some (.i64, n), some (.i64, m) => some (.u .i64 (n % m).toNat, [0 < m])
    | _, _ => none
  | _ => none
theorem fi_hit {l : List Int} {p : Int → Bool} {i : Nat} (h : i ≤ l.findIdx p) (hl : i < l.length) (hp : p (l.getD i 0) = true) : l.findIdx p = i := by
  rcases Nat.lt_or_eq_of_le h with h | h
  · exfalso
    have := List.not_of_lt_findIdx h
    rw [List.getD_eq_getElem?_getD, List.getElem?_eq_getElem hl] at hp
    simp only [Option.getD_some] at hp
    rw [hp] at this
    exact Bool.noConfusion this
  · exact h.symm
theorem fi_miss {l : List Int} {p : Int → Bool} {i : Nat} (h : i ≤ l.findIdx p) (hl : i < l.length) (hp : p (l.getD i 0) = false) : i + 1 ≤ l.findIdx p := by
  rcases Nat.lt_or_eq_of_le h with h | h
  · exact h
  · exfalso
    have hlt : l.findIdx p < l.length := by omega
    have := List.findIdx_getElem (w := hlt)
    rw [List.getD_eq_getElem?_getD, List.getElem?_eq_getElem hl] at hp
    simp only [Option.getD_some] at hp
    simp only [← h] at this
    rw [hp] at this
    exact Bool.noConfusion this
theorem fi_end {l : List Int} {p : Int → Bool} {i : Nat} (h : i ≤ l.findIdx p) (hl : ¬ i < l.length) : l.findIdx p = l.length := by
  have := List.findIdx_le_length (xs := l) (p := p)
  omega
theorem any_fi {l : List Int} {p : Int → Bool} : l.any p = decide (l.findIdx p < l.length) := by
  rw [Bool.eq_iff_iff, decide_eq_true_eq, List.findIdx_lt_length]
  simp
end Go.Eng.B

namespace Go.Eng.G
open Go Go.Eng Go.Proofs Go.Eng.B
set_option maxRecDepth 100000
def u64 (n : Int) : Nat := (n % 18446744073709551616).toNat
def seedL (m : Nat) : List Nat := (List.range 32).map fun i => m / 256 ^ (i % 8) % 256 ^^^ (37 * (i / 8))
def someX (m i : Nat) : Nat := (m / 2 ^ (8 * (i % 8) % 18446744073709551616) % 256 + i / 8 % 256) % 256
def someL (m n : Nat) : List Nat := (List.range n).map (someX m)
theorem someL_succ (m n : Nat) : someL m (n + 1) = someL m n ++ [someX m n] := by simp [someL, List.range_succ]
theorem someL_len (m n : Nat) : (someL m n).length = n := by simp [someL]
def e38 (args : List SV) : Option (SV × List Prop) :=
  match args with
  | [.i .i64 n] => some (.sl .u8 (seedL (u64 n)), [])
  | [.c .i64 n] => some (.sl .u8 (seedL (u64 n)), [])
  | _ => none
def e44 (args : List SV) : Option (SV × List Prop) :=
  match args with
  | [x, y] => match x.int?, y.int? with
    | some (.i64, k), some (.i64, n) => some (.sl .u8 (someL (u64 k) n.toNat), [0 ≤ n, n ≤ 1000000])
    | _, _ => none
  | _ => none
def nine : List Nat := [9, 0, 0, 0, 0, 0, 0, 0, 0, 0, 0, 0, 0, 0, 0, 0, 0, 0, 0, 0, 0, 0, 0, 0, 0, 0, 0, 0, 0, 0, 0, 0]
def zer : List Nat := [0, 0, 0, 0, 0, 0, 0, 0, 0, 0, 0, 0, 0, 0, 0, 0, 0, 0, 0, 0, 0, 0, 0, 0, 0, 0, 0, 0, 0, 0, 0, 0]
def pubL (k : List Nat) : List Nat := if k.length = 32 then dB (multV k nine) else []
def pubE (k : List Nat) : Int := if k.length = 32 then 0 else 1
def shL (k u : List Nat) : List Nat := if k.length = 32 ∧ u.length = 32 then (if dB (multV k u) = zer then [] else dB (multV k u)) else []
def shE (k u : List Nat) : Int := if k.length = 32 ∧ u.length = 32 then (if dB (multV k u) = zer then 13 else 0) else 1
def tPub (args : List SV) : Option (SV × List Prop) :=
  match args with
  | [.sl .u8 k] => some (.tup [.sl .u8 (pubL k), .i .i64 (pubE k)], [])
  | _ => none
def tSh (args : List SV) : Option (SV × List Prop) :=
  match args with
  | [.sl .u8 k, .sl .u8 u] => some (.tup [.sl .u8 (shL k u), .i .i64 (shE k u)], [])
  | _ => none
def T17a : Ctr := addC 14 e38 T16c
def T17b : Ctr := T17a
def e37 := t0 (.b true)
def T17 : Ctr := T17b
def s44 (K : Int) (N i : Nat) (l : List Nat) : St := ⟨28, [(5, .row 0 (.sl .u8 l)), (0, .i .i64 K), (7, .i .i64 (N : Int)), (8, .u .i64 i)], [(0, ⟨5, [], true⟩)], 3, 0⟩
theorem dB_len (n : Nat) : (dB n).length = 32 := by simp [dB, dg]
theorem take32 {l : List Nat} (h : l.length = 32) : l.take 32 = l := List.take_of_length_le (by omega)
theorem weak1 : dB (multV (seedL (u64 1)) zer) = zer := by decide +kernel
end Go.Eng.G

namespace Go.Eng.G
open Go Go.Eng Go.Proofs Go.Eng.B
set_option maxRecDepth 100000
def seedX (m i : Nat) : Nat := m / 2 ^ (8 * (i % 8)) % 256 ^^^ (37 * (i / 8)) % 256
def seedP (m i : Nat) : List Nat := (List.range i).map (seedX m)
theorem seedP_succ (m i : Nat) : seedP m (i + 1) = seedP m i ++ [seedX m i] := by simp [seedP, List.range_succ]
theorem seedP_len (m i : Nat) : (seedP m i).length = i := by simp [seedP]
theorem seedP_32 (m : Nat) : seedP m 32 = seedL m := by
  unfold seedP seedL
  refine List.map_congr_left fun i hi => ?_
  have hi := List.mem_range.1 hi
  have e : (256 : Nat) ^ (i % 8) = 2 ^ (8 * (i % 8)) := by rw [Nat.pow_mul]
  unfold seedX
  rw [e, Nat.mod_eq_of_lt (show 37 * (i / 8) < 256 by omega)]
def stSd : List It := [.lp [0, 1, 0, 1, 1], .blk 0, .at [1, 1, 1]]
def sSd (K : Int) (i : Nat) (l : List Nat) : St := ⟨26, [(3, .row 0 (.sl .u8 l)), (0, .i .i64 K), (5, .u .i64 i)], [(0, ⟨5, [], true⟩)], 3, 0⟩
section
variable {w0 : World} {S : Own} {res : SV}
theorem c38_in (K : Int) (hR : res = .sl .u8 (seedL (u64 K))) :
    ∀ d i, i + d = 32 → ∀ L, L = seedP (u64 K) i → Hold Tryz.prog (bodyOf Tryz.f14) (Fin Tryz.prog Tryz.f14 w0 S res) w0 S stSd (sSd K i L) := by
  intro d
  induction d with
  | zero =>
    intro i hi L hL
    refine hold_unroll (c := _) rfl ?_
    refine hold_end mixed ok16c (unroll := false) (f := 100) (sc := [false]) (r := (SV.sl .u8 L)) (ob := [Decidable.decide (i < 32) = false]) (sc' := []) (by kernel_rfl) ?_ ?_
    · exact ⟨decide_eq_false (by omega), trivial⟩
    · rw [hR]; obtain rfl : i = 32 := by omega
      rw [hL, seedP_32]
  | succ d ih =>
    intro i hi L hL
    refine hold_unroll (c := _) rfl ?_
    have hl : L.length = i := by rw [hL, seedP_len]
    refine hold_cut mixed ok16c (unroll := false) (f := 100) (sc := [true]) (ks := [3,0,5]) (bs := [0]) (nx := 3) (st' := [It.lp [0, 1, 0, 1, 1], It.blk 0, It.at [1, 1, 1]]) (σ' := { nt := 26, slots := [(3, SV.row 0 (SV.sl .u8 (L ++ [(K % (18446744073709551616 : Int)).toNat / 2 ^ (8 * (i % 8) % 18446744073709551616) % 256 ^^^ 37 * (i / 8) % 256]))), (0, SV.i .i64 K), (5, SV.u .i64 (i + 1))], blks := [(0, { ty := 5, segs := [], row := true })], next := 3 }) (ob := [Decidable.decide (i < 32) = true, 8 * (i % 8) % 18446744073709551616 < 64, 37 * (i / 8) < 9223372036854775808, slenD (SV.sl .u8 (L ++ [(K % (18446744073709551616 : Int)).toNat / 2 ^ (8 * (i % 8) % 18446744073709551616) % 256 ^^^ 37 * (i / 8) % 256])) * 1 ≤ 140737488355328, i + 1 < 9223372036854775808]) (sc' := []) (by kernel_rfl) ?_ ?_
    · repeat' first | exact True.intro | exact decide_eq_true (by omega) | omega | (simp only [slenD, SV.slen, Option.getD_some, List.length_append, List.length_cons, List.length_nil]; omega) | refine ⟨?_, ?_⟩
    · refine ih (i + 1) (by omega) _ ?_
      rw [seedP_succ, hL]
      unfold seedX
      rw [show 8 * (i % 8) % 18446744073709551616 = 8 * (i % 8) by omega]
      rfl
end
theorem c38i (n : Int) : Contract Tryz.prog 14 [.i .i64 n] (.sl .u8 (seedL (u64 n))) := by
  refine contract Tryz.func14 (body := bodyOf Tryz.f14) rfl (by kernel_rfl) (by kernel_rfl) rfl ?_
  rintro ⟨ha, _⟩ w0 S
  refine hold_cut mixed ok16c (unroll := false) (f := 100) (sc := []) (ks := [0,3,5]) (bs := []) (nx := 0) (st' := [It.lp [0, 1, 0, 1, 1], It.blk 0, It.at [1, 1, 1]]) (σ' := { nt := 26, slots := [(0, SV.i .i64 n), (3, SV.nil), (5, SV.c .i64 (0 : Int))], blks := [], next := 0 }) (ob := []) (sc' := []) (by kernel_rfl) trivial ?_
  refine hold_nil (t := 3) (e := 5) (s0 := .sl .u8 []) rfl ?_
  have := c38_in (w0 := w0) (S := S) n rfl 32 0 (by omega) [] rfl
  exact Hold.weaken this (by simp [wks, wk, wk0, wka, nilRow, delS, lim, sSd])
theorem c38 : ∀ args res ob, e38 args = some (res, ob) → All ob → Contract Tryz.prog 14 args res := by
  intro args res ob h hob
  unfold e38 at h
  split at h
  · cases h; exact c38i _
  · rename_i n
    cases h
    exact Contract.args (args' := [.i .i64 n]) (by simp [wkl, wk, wk0, wka]) (c38i n)
  · cases h
theorem ok17a : CtrOk Tryz.prog T17a := addC_ok ok16c c38
theorem ok17b : CtrOk Tryz.prog T17b := ok17a
theorem ok17 : CtrOk Tryz.prog T17 := ok17b
end Go.Eng.G

namespace Go.Eng
def Pr (p : Nat) : Prop := 2 ≤ p ∧ ∀ d, d ∣ p → d = 1 ∨ d = p
theorem Pr.cop {p a : Nat} (h : Pr p) (ha : ¬ p ∣ a) : Nat.Coprime p a := by
  rcases h.2 (Nat.gcd p a) (Nat.gcd_dvd_left _ _) with e | e
  · exact e
  · exact absurd (e ▸ Nat.gcd_dvd_right p a) ha
theorem Pr.mul {p a b : Nat} (h : Pr p) (hab : p ∣ a * b) : p ∣ a ∨ p ∣ b := by
  by_cases ha : p ∣ a
  · exact .inl ha
  · exact .inr ((h.cop ha).dvd_of_dvd_mul_left hab)
theorem Pr.pow {p a : Nat} (h : Pr p) : ∀ n, p ∣ a ^ n → p ∣ a := by
  intro n
  induction n with
  | zero => intro hd; have h1 := h.1; have : p ≤ 1 := Nat.le_of_dvd (by decide) (by simpa using hd); omega
  | succ n ih => intro hd; rw [Nat.pow_succ] at hd; exact (h.mul hd).elim ih id
def sm (f : Nat → Nat) : Nat → Nat
  | 0 => 0
  | n + 1 => sm f n + f n
def ch : Nat → Nat → Nat
  | _, 0 => 1
  | 0, _ + 1 => 0
  | n + 1, k + 1 => ch n k + ch n (k + 1)
theorem ch_zero (n : Nat) : ch n 0 = 1 := by cases n <;> rfl
theorem ch_big : ∀ n k, n < k → ch n k = 0
  | 0, 0, h => by omega
  | 0, _ + 1, _ => rfl
  | n + 1, 0, h => by omega
  | n + 1, k + 1, h => by simp only [ch]; rw [ch_big n k (by omega), ch_big n (k + 1) (by omega)]
theorem ch_self : ∀ n, ch n n = 1
  | 0 => rfl
  | n + 1 => by simp only [ch]; rw [ch_self n, ch_big n (n + 1) (by omega)]
theorem ch_mul : ∀ n k, (k + 1) * ch (n + 1) (k + 1) = (n + 1) * ch n k := by
  intro n
  induction n with
  | zero =>
    intro k
    cases k with
    | zero => rfl
    | succ k => simp [ch]
  | succ n ih =>
    intro k
    have h1 := ih k
    cases k with
    | zero =>
      have e : ch (n + 1 + 1) (0 + 1) = ch (n + 1) 0 + ch (n + 1) (0 + 1) := rfl
      rw [e, Nat.mul_add, h1, ch_zero, ch_zero]
      omega
    | succ k =>
      have h2 := ih (k + 1)
      have h3 := ih k
      have e : ch (n + 1 + 1) (k + 1 + 1) = ch (n + 1) (k + 1) + ch (n + 1) (k + 1 + 1) := rfl
      have e2 : ch (n + 1) (k + 1) = ch n k + ch n (k + 1) := rfl
      rw [e, Nat.mul_add, h2]
      have e3 : (k + 1 + 1) * ch (n + 1) (k + 1) = (k + 1) * ch (n + 1) (k + 1) + ch (n + 1) (k + 1) := by rw [Nat.add_mul (k + 1) 1, Nat.one_mul]
      rw [e3, h3]
      have e4 : (n + 1 + 1) * ch (n + 1) (k + 1) = (n + 1) * ch (n + 1) (k + 1) + ch (n + 1) (k + 1) := by rw [Nat.add_mul (n + 1) 1, Nat.one_mul]
      rw [e4, e2, Nat.mul_add]
      omega
theorem sm_congr {f g : Nat → Nat} : ∀ n, (∀ k, k < n → f k = g k) → sm f n = sm g n
  | 0, _ => rfl
  | n + 1, h => by simp only [sm]; rw [sm_congr n fun k hk => h k (by omega), h n (by omega)]
theorem sm_add (f g : Nat → Nat) : ∀ n, sm (fun k => f k + g k) n = sm f n + sm g n
  | 0 => rfl
  | n + 1 => by simp only [sm, sm_add f g n]; omega
theorem sm_mul (c : Nat) (f : Nat → Nat) : ∀ n, sm (fun k => c * f k) n = c * sm f n
  | 0 => rfl
  | n + 1 => by simp only [sm, sm_mul c f n, Nat.mul_add]
theorem sm_shift (f : Nat → Nat) : ∀ n, sm f (n + 1) = f 0 + sm (fun k => f (k + 1)) n
  | 0 => by simp [sm]
  | n + 1 => by rw [sm, sm_shift f n]; simp only [sm]; omega
theorem binom (x : Nat) : ∀ n, (x + 1) ^ n = sm (fun k => ch n k * x ^ k) (n + 1) := by
  intro n
  induction n with
  | zero => simp [sm, ch]
  | succ n ih =>
    rw [Nat.pow_succ, ih, Nat.mul_add, Nat.mul_one, sm_shift (fun k => ch (n + 1) k * x ^ k)]
    have e1 : sm (fun k => ch (n + 1) (k + 1) * x ^ (k + 1)) (n + 1) = sm (fun k => ch n k * x ^ (k + 1) + ch n (k + 1) * x ^ (k + 1)) (n + 1) :=
      sm_congr _ fun k _ => by show (ch n k + ch n (k + 1)) * _ = _; rw [Nat.add_mul]
    rw [e1, sm_add]
    have e2 : sm (fun k => ch n k * x ^ (k + 1)) (n + 1) = x * sm (fun k => ch n k * x ^ k) (n + 1) := by
      rw [← sm_mul]
      exact sm_congr _ fun k _ => by rw [Nat.pow_succ]; rw [Nat.mul_comm x, Nat.mul_assoc]
    rw [e2, Nat.mul_comm x]
    have e3 : sm (fun k => ch n k * x ^ k) (n + 1) = ch n 0 * x ^ 0 + sm (fun k => ch n (k + 1) * x ^ (k + 1)) n := sm_shift _ n
    have e4 : sm (fun k => ch n (k + 1) * x ^ (k + 1)) (n + 1) = sm (fun k => ch n (k + 1) * x ^ (k + 1)) n := by
      rw [sm, ch_big n (n + 1) (by omega), Nat.zero_mul, Nat.add_zero]
    rw [e4, e3, ch_zero, ch_zero]
    omega
theorem sm_dvd {p : Nat} {f : Nat → Nat} : ∀ n, (∀ k, k < n → p ∣ f k) → p ∣ sm f n
  | 0, _ => Nat.dvd_zero p
  | n + 1, h => Nat.dvd_add (sm_dvd n fun k hk => h k (by omega)) (h n (by omega))
theorem ch_dvd {p k : Nat} (h : Pr p) (hk : 0 < k) (hkp : k < p) : p ∣ ch p k := by
  obtain ⟨q, rfl⟩ : ∃ q, p = q + 1 := ⟨p - 1, by have := h.1; omega⟩
  obtain ⟨j, rfl⟩ : ∃ j, k = j + 1 := ⟨k - 1, by omega⟩
  have := ch_mul q j
  rcases h.mul (a := j + 1) (b := ch (q + 1) (j + 1)) ⟨_, this⟩ with hd | hd
  · have := Nat.le_of_dvd (by omega) hd; omega
  · exact hd
theorem fermat_add {p : Nat} (h : Pr p) (x : Nat) : (x + 1) ^ p % p = (x ^ p + 1) % p := by
  have h1 := h.1
  obtain ⟨q, hq⟩ : ∃ q, p = q + 1 := ⟨p - 1, by omega⟩
  have hb := binom x p
  rw [sm] at hb
  have hs := sm_shift (fun k => ch p k * x ^ k) q
  rw [← hq] at hs
  rw [hs, ch_zero, ch_self] at hb
  obtain ⟨c, hc⟩ := sm_dvd (p := p) (f := fun k => ch p (k + 1) * x ^ (k + 1)) q (fun k hk => Nat.dvd_mul_right_of_dvd (ch_dvd h (by omega) (by omega)) _)
  rw [hc] at hb
  rw [hb]
  have e : 1 * x ^ 0 + p * c + 1 * x ^ p = x ^ p + 1 + p * c := by rw [Nat.pow_zero]; omega
  rw [e, Nat.add_mul_mod_self_left]
theorem fermat_p {p : Nat} (h : Pr p) : ∀ x, x ^ p % p = x % p
  | 0 => by have := h.1; rw [Nat.zero_pow (by omega)]
  | x + 1 => by rw [fermat_add h, Nat.add_mod, fermat_p h x, ← Nat.add_mod]
theorem dvd_sub_of_mod {p a b : Nat} (h : a % p = b % p) : p ∣ a - b := by
  have h1 := Nat.div_add_mod a p
  have h2 := Nat.div_add_mod b p
  rcases Nat.le_total (b / p) (a / p) with hl | hl
  · refine ⟨a / p - b / p, ?_⟩
    rw [Nat.mul_sub]
    omega
  · have := Nat.mul_le_mul_left p hl
    rw [show a - b = 0 by omega]
    exact Nat.dvd_zero p
theorem fermat {p x : Nat} (h : Pr p) (hx : x % p ≠ 0) : x ^ (p - 1) % p = 1 := by
  have h1 := h.1
  have hp := fermat_p h x
  have hpos : 0 < x := by rcases Nat.eq_zero_or_pos x with e | e; · subst e; simp at hx
                          · exact e
  have hone : 1 ≤ x ^ (p - 1) := Nat.one_le_pow _ _ hpos
  have e : x ^ p = x * x ^ (p - 1) := by
    obtain ⟨q, rfl⟩ : ∃ q, p = q + 1 := ⟨p - 1, by omega⟩
    rw [Nat.pow_succ, Nat.mul_comm]; rfl
  have hd : p ∣ x * (x ^ (p - 1) - 1) := by
    have : x * (x ^ (p - 1) - 1) = x ^ p - x := by rw [e, Nat.mul_sub, Nat.mul_one]
    rw [this]
    exact dvd_sub_of_mod hp
  rcases h.mul hd with hd | hd
  · exact absurd (Nat.mod_eq_zero_of_dvd hd) hx
  · obtain ⟨c, hc⟩ := hd
    have : x ^ (p - 1) = 1 + p * c := by omega
    rw [this, Nat.add_mul_mod_self_left]
    exact Nat.mod_eq_of_lt (by omega)
theorem exists_prime_dvd : ∀ n : Nat, 2 ≤ n → ∃ r, Pr r ∧ r ∣ n := by
  intro n
  induction n using Nat.strongRecOn with
  | _ n ih =>
    intro hn
    by_cases h : ∀ d, d ∣ n → d = 1 ∨ d = n
    · exact ⟨n, ⟨hn, h⟩, Nat.dvd_refl n⟩
    · obtain ⟨d, hd⟩ := Classical.not_forall.1 h
      obtain ⟨hdn, hne⟩ := Classical.not_imp.1 hd
      have h1 : d ≠ 1 := fun e => hne (.inl e)
      have h2 : d ≠ n := fun e => hne (.inr e)
      have hpos : 0 < d := Nat.pos_of_dvd_of_pos hdn (by omega)
      have hle := Nat.le_of_dvd (by omega) hdn
      obtain ⟨r, hr, hrd⟩ := ih d (by omega) (by omega)
      exact ⟨r, hr, Nat.dvd_trans hrd hdn⟩
theorem prime_of_big {N F : Nat} (hN : 2 ≤ N) (hF : N < F * F) (h : ∀ r, Pr r → r ∣ N → F ≤ r) : Pr N := by
  refine ⟨hN, fun d hd => ?_⟩
  obtain ⟨e, he⟩ := hd
  by_cases h1 : d = 1
  · exact .inl h1
  · refine .inr ?_
    by_cases h2 : e = 1
    · rw [he, h2, Nat.mul_one]
    · have hd0 : d ≠ 0 := fun h0 => by subst h0; rw [Nat.zero_mul] at he; omega
      have he0 : e ≠ 0 := fun h0 => by subst h0; rw [Nat.mul_zero] at he; omega
      obtain ⟨r, hr, hrd⟩ := exists_prime_dvd d (by omega)
      obtain ⟨s, hs, hse⟩ := exists_prime_dvd e (by omega)
      have h3 := h r hr (Nat.dvd_trans hrd ⟨e, he⟩)
      have h4 := h s hs (Nat.dvd_trans hse ⟨d, by rw [he, Nat.mul_comm]⟩)
      have h5 := Nat.le_of_dvd (by omega) hrd
      have h6 := Nat.le_of_dvd (by omega) hse
      have : F * F ≤ d * e := Nat.mul_le_mul (by omega) (by omega)
      omega
theorem pow_one_mod {b r : Nat} (hr : 2 ≤ r) {n : Nat} (h : b ^ n % r = 1) (m : Nat) : b ^ (n * m) % r = 1 := by
  rw [Nat.pow_mul, Nat.pow_mod, h, Nat.one_pow, Nat.mod_eq_of_lt (by omega)]
theorem pow_gcd {b r : Nat} (hr : 2 ≤ r) : ∀ q s, b ^ q % r = 1 → b ^ s % r = 1 → b ^ Nat.gcd q s % r = 1 := by
  intro q s
  induction q, s using Nat.gcd.induction with
  | H0 s => intro _ h; rw [Nat.gcd_zero_left]; exact h
  | H1 q s hq ih =>
    intro h1 h2
    rw [Nat.gcd_rec]
    refine ih ?_ h1
    have e := Nat.div_add_mod s q
    rw [← e, Nat.pow_add, Nat.mul_mod, pow_one_mod hr h1, Nat.one_mul, Nat.mod_mod] at h2
    exact h2
theorem pock {N q r a m : Nat} (hq : Pr q) (hr : Pr r) (hrN : r ∣ N) (hm : m * q = N - 1) (h1 : a ^ (m * q) % N = 1) (hg : Nat.gcd (a ^ m - 1) N = 1) : q ∣ r - 1 := by
  have hr2 := hr.1
  have hone : a ^ (m * q) % r = 1 := by
    obtain ⟨c, rfl⟩ := hrN
    have := congrArg (· % r) h1
    simp only [Nat.mod_mul_right_mod] at this
    rw [this, Nat.mod_eq_of_lt (by omega)]
  refine Classical.byContradiction fun hno => ?_
  have hcop := hq.cop hno
  have hb : a ^ m % r ≠ 0 := fun h0 => by
    rw [Nat.pow_mul, Nat.pow_mod, h0, Nat.zero_pow (by have := hq.1; omega), Nat.zero_mod] at hone
    omega
  have hf := fermat hr hb
  generalize hB : a ^ m = b at *
  have hq1 : b ^ q % r = 1 := by rw [← hB, ← Nat.pow_mul]; exact hone
  have hb1 : b % r = 1 := by
    have := pow_gcd hr2 q (r - 1) hq1 hf
    rw [show Nat.gcd q (r - 1) = 1 from hcop, Nat.pow_one] at this
    exact this
  have hpos : 1 ≤ b := by
    rcases Nat.eq_zero_or_pos b with e | e
    · subst e; simp at hb1
    · exact e
  have hd : r ∣ b - 1 := dvd_sub_of_mod (by rw [hb1, Nat.mod_eq_of_lt (by omega)])
  have := Nat.dvd_gcd hd hrN
  rw [hg] at this
  have := Nat.le_of_dvd (by decide) this
  omega
def noDiv (n : Nat) : Nat → Nat → Bool
  | 0, _ => true
  | f + 1, k => (n % k != 0) && noDiv n f (k + 1)
theorem noDiv_spec {n : Nat} : ∀ f k, noDiv n f k = true → ∀ d, k ≤ d → d < k + f → ¬ d ∣ n := by
  intro f
  induction f with
  | zero => intro k _ d h1 h2; omega
  | succ f ih =>
    intro k h d h1 h2 hd
    simp only [noDiv, Bool.and_eq_true, bne_iff_ne, ne_eq] at h
    by_cases e : d = k
    · subst e; exact h.1 (Nat.mod_eq_zero_of_dvd hd)
    · exact ih (k + 1) h.2 d (by omega) (by omega) hd
theorem prime_small {n : Nat} (f : Nat) (hn : 2 ≤ n) (hf : n < (2 + f) * (2 + f)) (h : noDiv n f 2 = true) : Pr n := by
  refine prime_of_big hn hf fun r hr hd => ?_
  refine Nat.le_of_not_lt fun hlt => ?_
  exact noDiv_spec f 2 h r hr.1 hlt hd
theorem prime_pock1 {N q a m : Nat} (hN : 2 ≤ N) (hq : Pr q) (hm : m * q = N - 1) (hF : N < (q + 1) * (q + 1)) (h1 : a ^ (m * q) % N = 1) (hg : Nat.gcd (a ^ m - 1) N = 1) : Pr N := by
  refine prime_of_big hN hF fun r hr hd => ?_
  have hr2 := hr.1
  have e1 := Nat.le_of_dvd (by omega) (pock hq hr hd hm h1 hg)
  omega
theorem prime_pock2 {N q s a m k : Nat} (hN : 2 ≤ N) (hq : Pr q) (hs : Pr s) (hqs : Nat.Coprime q s) (hm : m * q = N - 1) (hk : k * s = N - 1) (hF : N < (q * s + 1) * (q * s + 1))
    (h1 : a ^ (m * q) % N = 1) (hg : Nat.gcd (a ^ m - 1) N = 1) (h2 : a ^ (k * s) % N = 1) (hg2 : Nat.gcd (a ^ k - 1) N = 1) : Pr N := by
  refine prime_of_big hN hF fun r hr hd => ?_
  have e1 := pock hq hr hd hm h1 hg
  have e2 := pock hs hr hd hk h2 hg2
  have hr2 := hr.1
  have e3 := Nat.le_of_dvd (by omega) (Nat.Coprime.mul_dvd_of_dvd_of_dvd hqs e1 e2)
  omega
def pm (N : Nat) : Nat → Nat → Nat → Nat → Nat
  | 0, _, _, acc => acc
  | f + 1, a, e, acc => pm N f (a * a % N) (e / 2) (if e % 2 = 1 then acc * a % N else acc)
theorem pm_spec (N : Nat) : ∀ f a e acc, e < 2 ^ f → pm N f a e acc % N = acc * a ^ e % N := by
  intro f
  induction f with
  | zero => intro a e acc h; have : e = 0 := by simpa using h
            subst this; simp [pm]
  | succ f ih =>
    intro a e acc h
    have he : e / 2 < 2 ^ f := by rw [Nat.pow_succ] at h; omega
    simp only [pm]
    rw [ih _ _ _ he]
    have e2 : (a * a % N) ^ (e / 2) % N = a ^ (2 * (e / 2)) % N := by rw [← Nat.pow_mod, Nat.pow_mul, Nat.pow_two]
    rw [Nat.mul_mod, e2]
    split
    · rename_i h1
      rw [Nat.mod_mod, ← Nat.mul_mod, Nat.mul_assoc, Nat.mul_comm a, ← Nat.pow_succ]
      rw [show (2 * (e / 2)).succ = e by omega]
    · rename_i h1
      rw [← Nat.mul_mod, show 2 * (e / 2) = e by omega]
theorem pm_pow {N a e v : Nat} (f : Nat) (h : e < 2 ^ f) (hv : pm N f a e 1 % N = v) : a ^ e % N = v := by
  rw [← hv, pm_spec N f a e 1 h, Nat.one_mul]
theorem gcd_of_mod {N x v : Nat} (hx : x % N = v) (hv : 1 ≤ v) (hg : Nat.gcd (v - 1) N = 1) : Nat.gcd (x - 1) N = 1 := by
  have e := Nat.div_add_mod x N
  have : x - 1 = (v - 1) + N * (x / N) := by omega
  rw [this, Nat.gcd_comm, Nat.gcd_add_mul_left_right, Nat.gcd_comm]
  exact hg
theorem prime_pm1 {N q a m v : Nat} (f : Nat) (hN : 2 ≤ N) (hq : Pr q) (hm : m * q = N - 1) (hF : N < (q + 1) * (q + 1)) (hl : m * q < 2 ^ f) (h1 : pm N f a (m * q) 1 % N = 1)
    (hlm : m < 2 ^ f) (hv : pm N f a m 1 % N = v) (hv1 : 1 ≤ v) (hg : Nat.gcd (v - 1) N = 1) : Pr N :=
  prime_pock1 hN hq hm hF (pm_pow f hl h1) (gcd_of_mod (pm_pow f hlm hv) hv1 hg)
theorem prime_pm2 {N q s a m k v u : Nat} (f : Nat) (hN : 2 ≤ N) (hq : Pr q) (hs : Pr s) (hqs : Nat.Coprime q s) (hm : m * q = N - 1) (hk : k * s = N - 1) (hF : N < (q * s + 1) * (q * s + 1))
    (hl : m * q < 2 ^ f) (h1 : pm N f a (m * q) 1 % N = 1) (hlm : m < 2 ^ f) (hv : pm N f a m 1 % N = v) (hv1 : 1 ≤ v) (hg : Nat.gcd (v - 1) N = 1)
    (hlk : k < 2 ^ f) (hu : pm N f a k 1 % N = u) (hu1 : 1 ≤ u) (hgu : Nat.gcd (u - 1) N = 1) : Pr N :=
  prime_pock2 hN hq hs hqs hm hk hF (pm_pow f hl h1) (gcd_of_mod (pm_pow f hlm hv) hv1 hg) (by rw [hk, ← hm]; exact pm_pow f hl h1) (gcd_of_mod (pm_pow f hlk hu) hu1 hgu)
end Go.Eng

namespace Go.Eng
theorem pr_353 : Pr 353 := prime_small 20 (by decide) (by decide) (by decide +kernel)
theorem pr_47 : Pr 47 := prime_small 6 (by decide) (by decide) (by decide +kernel)
theorem pr_75707 : Pr 75707 := prime_small 300 (by decide) (by decide) (by decide +kernel)
theorem pr_8574133 : Pr 8574133 := prime_small 3000 (by decide) (by decide) (by decide +kernel)
theorem pr_c : Pr 1919519569386763 :=
  prime_pm2 (q := 8574133) (s := 47) (a := 2) (m := 223873314) (k := 40840841901846) (v := 1059928654987441) (u := 621931926534591) 64 (by decide) pr_8574133 pr_47 (by decide +kernel) (by decide +kernel) (by decide +kernel) (by decide +kernel) (by decide +kernel) (by decide +kernel) (by decide +kernel) (by decide +kernel) (by decide +kernel) (by decide +kernel) (by decide +kernel) (by decide +kernel) (by decide +kernel) (by decide +kernel)
theorem pr_b : Pr 75445702479781427272750846543864801 :=
  prime_pm2 (q := 1919519569386763) (s := 75707) (a := 2) (m := 39304471641247389600) (k := 996548568557483816196003626400) (v := 56747016255153332959347766392083459) (u := 58781699294900834553279248901967638) 128 (by decide) pr_c pr_75707 (by decide +kernel) (by decide +kernel) (by decide +kernel) (by decide +kernel) (by decide +kernel) (by decide +kernel) (by decide +kernel) (by decide +kernel) (by decide +kernel) (by decide +kernel) (by decide +kernel) (by decide +kernel) (by decide +kernel) (by decide +kernel)
theorem pr_a : Pr 74058212732561358302231226437062788676166966415465897661863160754340907 :=
  prime_pm2 (q := 75445702479781427272750846543864801) (s := 353) (a := 2) (m := 981609426360740691344999861639072106) (k := 209796636636151156663544550813209033076960244803019540118592523383402) (v := 69490809710348678725736597923071784769591275419387514694139338586948360) (u := 8562916886866218785688304546164188478888058893729309188831496247839076) 256 (by decide) pr_b pr_353 (by decide +kernel) (by decide +kernel) (by decide +kernel) (by decide +kernel) (by decide +kernel) (by decide +kernel) (by decide +kernel) (by decide +kernel) (by decide +kernel) (by decide +kernel) (by decide +kernel) (by decide +kernel) (by decide +kernel) (by decide +kernel)
theorem prP : Pr P255 :=
  prime_pm1 (q := 74058212732561358302231226437062788676166966415465897661863160754340907) (a := 2) (m := 781764) (v := 427094198651976259540344842774561673889945192655078505504941250475370961481) 256 (by decide) pr_a (by decide +kernel) (by decide +kernel) (by decide +kernel) (by decide +kernel) (by decide +kernel) (by decide +kernel) (by decide +kernel) (by decide +kernel)
end Go.Eng

namespace Go.Eng
theorem mulc {p a b c d : Nat} (h : a % p = c % p) (h2 : b % p = d % p) : a * b % p = c * d % p := by rw [Nat.mul_mod, h, h2, ← Nat.mul_mod]
theorem powc {p a b : Nat} (n : Nat) (h : a % p = b % p) : a ^ n % p = b ^ n % p := by rw [Nat.pow_mod, h, ← Nat.pow_mod]
theorem inv_gen {p a e : Nat} (hp : Pr p) (he : p - 1 = e + 1) (ha : a % p ≠ 0) : a * a ^ e % p = 1 := by
  have := fermat hp ha
  rw [he, Nat.pow_succ, Nat.mul_comm] at this
  exact this
theorem unit_root {p u : Nat} (hp : Pr p) (h : u * u % p = 1) : u % p = 1 ∨ u % p = p - 1 := by
  have h2 := hp.1
  have hu : 1 ≤ u := by
    rcases Nat.eq_zero_or_pos u with e | e
    · subst e; simp at h
    · exact e
  have hd : p ∣ (u - 1) * (u + 1) := by
    have e : (u - 1) * (u + 1) = u * u - 1 := by
      obtain ⟨v, rfl⟩ : ∃ v, u = v + 1 := ⟨u - 1, by omega⟩
      have : (v + 1) * (v + 1) = v * (v + 1 + 1) + 1 := by grind
      rw [this]; rfl
    rw [e]
    exact dvd_sub_of_mod (by rw [h, Nat.mod_eq_of_lt (by omega)])
  rcases hp.mul hd with ⟨c, hc⟩ | ⟨c, hc⟩
  · left
    have : u = 1 + p * c := by omega
    rw [this, Nat.add_mul_mod_self_left, Nat.mod_eq_of_lt (by omega)]
  · right
    have hc0 : c ≠ 0 := fun e => by subst e; simp at hc
    obtain ⟨d, rfl⟩ : ∃ d, c = d + 1 := ⟨c - 1, by omega⟩
    have : u = (p - 1) + p * d := by rw [Nat.mul_add] at hc; omega
    rw [this, Nat.add_mul_mod_self_left, Nat.mod_eq_of_lt (by omega)]
theorem square_eq {p a b : Nat} (hp : Pr p) (h : a * a % p = b * b % p) : a % p = b % p ∨ (a + b) % p = 0 := by
  rcases Nat.le_total b a with hl | hl
  · have hd : p ∣ (a - b) * (a + b) := by
      have e : (a - b) * (a + b) = a * a - b * b := by
        obtain ⟨c, rfl⟩ : ∃ c, a = b + c := ⟨a - b, by omega⟩
        have : (b + c) * (b + c) = c * (b + c + b) + b * b := by grind
        rw [this, Nat.add_sub_cancel, Nat.add_sub_cancel_left]
      rw [e]; exact dvd_sub_of_mod h
    rcases hp.mul hd with ⟨c, hc⟩ | hd
    · left; have : a = b + p * c := by omega
      rw [this, Nat.add_mul_mod_self_left]
    · right; exact Nat.mod_eq_zero_of_dvd hd
  · have hd : p ∣ (b - a) * (a + b) := by
      have e : (b - a) * (a + b) = b * b - a * a := by
        obtain ⟨c, rfl⟩ : ∃ c, b = a + c := ⟨b - a, by omega⟩
        have : (a + c) * (a + c) = c * (a + (a + c)) + a * a := by grind
        rw [this, Nat.add_sub_cancel, Nat.add_sub_cancel_left]
      rw [e]; exact dvd_sub_of_mod h.symm
    rcases hp.mul hd with ⟨c, hc⟩ | hd
    · left; have : b = a + p * c := by omega
      rw [this, Nat.add_mul_mod_self_left]
    · right; exact Nat.mod_eq_zero_of_dvd hd
theorem neg_neg {p a b : Nat} (hp : 2 ≤ p) (ha : a % p = p - 1) (hb : b % p = p - 1) : a * b % p = 1 := by
  rw [Nat.mul_mod, ha, hb]
  obtain ⟨q, rfl⟩ : ∃ q, p = q + 2 := ⟨p - 2, by omega⟩
  have : (q + 2 - 1) * (q + 2 - 1) = 1 + (q + 2) * q := by
    show (q + 1) * (q + 1) = _
    grind
  rw [this, Nat.add_mul_mod_self_left, Nat.mod_eq_of_lt (by omega)]
theorem root_ok {p a e38 e14 e12 i : Nat} (hp : Pr p) (h1 : e38 + e38 = e14 + 1) (h2 : e14 + e14 = e12) (hi : i * i % p = p - 1) (hs : a ^ e12 % p = 1) :
    a ^ e38 * a ^ e38 % p = a % p ∨ (a ^ e38 * i) * (a ^ e38 * i) % p = a % p := by
  have hx : a ^ e38 * a ^ e38 = a * a ^ e14 := by rw [← Nat.pow_add, h1, Nat.pow_succ, Nat.mul_comm]
  have hu : a ^ e14 * a ^ e14 % p = 1 := by rw [← Nat.pow_add, h2]; exact hs
  rcases unit_root hp hu with h | h
  · left
    rw [hx, Nat.mul_mod, h, Nat.mul_one, Nat.mod_mod]
  · right
    have e : (a ^ e38 * i) * (a ^ e38 * i) = a * (a ^ e14 * (i * i)) := by
      rw [show (a ^ e38 * i) * (a ^ e38 * i) = (a ^ e38 * a ^ e38) * (i * i) by ac_rfl, hx, Nat.mul_assoc]
    have h3 := neg_neg hp.1 h hi
    rw [e, Nat.mul_mod, h3, Nat.mul_one, Nat.mod_mod]
theorem sq_unit {p a y e12 : Nat} (hp : Pr p) (h2 : e12 + e12 = p - 1) (ha : a % p ≠ 0) (hy : y * y % p = a % p) : a ^ e12 % p = 1 := by
  have hy0 : y % p ≠ 0 := fun h => ha (by rw [← hy, Nat.mul_mod, h]; simp)
  rw [← powc e12 hy, Nat.mul_pow, ← Nat.pow_add, h2]
  exact fermat hp hy0
theorem half_unit {p a e12 : Nat} (hp : Pr p) (h2 : e12 + e12 = p - 1) (ha : a % p ≠ 0) : a ^ e12 % p = 1 ∨ a ^ e12 % p = p - 1 := by
  refine unit_root hp ?_
  rw [← Nat.pow_add, h2]
  exact fermat hp ha
end Go.Eng

namespace Go.Eng
open Go.RowKit
theorem Hold.plain {P : Program} {body : Code} {Q : Exit → Act → World → Prop} {w0 : Fr} {S : Own} {st : List It} {σ : St}
    (h : (∀ id bk, (id, bk) ∈ σ.blks → bk.row = false → pureF.pureFs bk.segs) → (∀ d s, (d, s) ∈ σ.slots → s.isTup = false → pureF s) → Hold P body Q w0 S st σ) : Hold P body Q w0 S st σ := by
  intro β a w hS
  refine h (fun id bk hm hr => ?_) (fun d s hm ht => ?_) β a w hS
  · obtain ⟨cs, hr, _⟩ := (hS.blk id bk hm).1 hr
    exact pureFs_ok _ _ hr
  · obtain ⟨cs, hr, _⟩ := relV_one ht (hS.slot d s hm)
    exact pureF_ok s cs hr
end Go.Eng

namespace Go.Eng.G
open Go Go.Eng Go.Proofs
set_option maxRecDepth 100000
def E12 : Nat := 28948022309329048855892746252171976963317496166410141009864396001978282409974
theorem e_12 : E12 + E12 = P255 - 1 := by decide
theorem e_14 : E14 + E14 = E12 := by decide
theorem e_38 : E38 + E38 = E14 + 1 := by decide
theorem sqX_pow (A : Nat) : sqX A % P255 = A ^ E38 % P255 := powF_mod A (by decide)
theorem i_pow : powF 2 E14 % P255 = 2 ^ E14 % P255 := powF_mod 2 (by decide)
theorem ii : powF 2 E14 * powF 2 E14 % P255 = P255 - 1 := by rw [sqI]; decide +kernel
theorem two_half : 2 ^ E12 % P255 = P255 - 1 := by
  rw [← e_14, Nat.pow_add, ← ii]
  exact mulc i_pow.symm i_pow.symm
theorem sqY_sq {A : Nat} (h : A ^ E12 % P255 = 1) : mulF (sqY A) (sqY A) % P255 = A % P255 := by
  have hX := sqX_pow A
  unfold sqY
  split
  · assumption
  · rename_i hn
    have hXX : mulF (sqX A) (sqX A) % P255 = A ^ E38 * A ^ E38 % P255 := by rw [mulF_mod]; exact mulc hX hX
    have hY : mulF (sqX A) (powF 2 E14) % P255 = A ^ E38 * powF 2 E14 % P255 := by rw [mulF_mod]; exact mulc hX rfl
    rcases root_ok prP e_38 e_14 ii h with h1 | h1
    · exact absurd (hXX.trans h1) hn
    · rw [mulF_mod, mulc hY hY]; exact h1
theorem sqOk_of {A : Nat} (h : A ^ E12 % P255 = 1) : sqOk A = true := decide_eq_true (sqY_sq h)
theorem of_sqOk {A : Nat} (ha : A % P255 ≠ 0) (h : sqOk A = true) : A ^ E12 % P255 = 1 := by
  have := of_decide_eq_true h
  rw [mulF_mod] at this
  exact sq_unit prP e_12 ha this
theorem sqOk_zero : sqOk 0 = true := by decide +kernel
theorem sqOk_square (A : Nat) : sqOk (A * A) = true := by
  by_cases h : A % P255 = 0
  · rw [sqOk_congr (B := 0) (by rw [Nat.mul_mod, h])]
    exact sqOk_zero
  · refine sqOk_of ?_
    rw [Nat.mul_pow, ← Nat.pow_add, e_12]
    exact fermat prP h
theorem sqOk_twice {A : Nat} (h : A % P255 ≠ 0) : sqOk A ≠ sqOk (A + A) := by
  have e2 : A + A = 2 * A := by omega
  have h2 : (A + A) % P255 ≠ 0 := fun h0 => by
    have hd := Nat.dvd_of_mod_eq_zero h0
    rw [e2] at hd
    rcases prP.mul hd with hd | hd
    · exact absurd (Nat.le_of_dvd (by decide) hd) (by decide)
    · exact h (Nat.mod_eq_zero_of_dvd hd)
  have hmul : (A + A) ^ E12 % P255 = (P255 - 1) * (A ^ E12) % P255 := by
    rw [e2, Nat.mul_pow]
    exact mulc (by rw [two_half, Nat.mod_eq_of_lt (by decide)]) rfl
  rcases half_unit prP e_12 h with h1 | h1
  · rw [sqOk_of h1]
    intro hc
    have := of_sqOk h2 hc.symm
    rw [hmul, Nat.mul_mod, h1] at this
    exact absurd this (by decide)
  · have : (A + A) ^ E12 % P255 = 1 := by
      rw [hmul]
      exact neg_neg (by decide) (Nat.mod_eq_of_lt (by decide)) h1
    rw [sqOk_of this]
    intro hc
    have := of_sqOk h hc
    rw [h1] at this
    exact absurd this (by decide)
theorem neg_odd {y : Nat} (hy : y < P255) (h : y % 2 = 1) : (0 + 3 * P255 - y) % P255 = P255 - y := by
  have e : 0 + 3 * P255 - y = (P255 - y) + P255 * 2 := by omega
  rw [e, Nat.add_mul_mod_self_left, Nat.mod_eq_of_lt (by omega)]
theorem P_odd : P255 % 2 = 1 := by decide
theorem sqV_even {A : Nat} : sqV A % 2 = 0 := by
  unfold sqV
  split
  · split
    · rename_i h
      have hy := P_ltP (sqY A)
      rw [subF_mod (A := 0) (by decide) (P_lt _), neg_odd hy h]
      have := P_odd
      omega
    · omega
  · rfl
theorem sqV_P (A : Nat) : sqV A < P255 := by
  unfold sqV
  split
  · split
    · exact P_ltP _
    · exact P_ltP _
  · decide
theorem sqV_sq {A : Nat} (h : sqOk A = true) : sqV A * sqV A % P255 = A % P255 := by
  have h1 := of_decide_eq_true h
  rw [mulF_mod] at h1
  unfold sqV
  rw [if_pos h]
  split
  · rename_i ho
    rw [← h1]
    have hy := P_ltP (sqY A)
    rw [subF_mod (A := 0) (by decide) (P_lt _), neg_odd hy ho, Nat.mul_mod (sqY A)]
    clear h1
    generalize sqY A % P255 = y at *
    obtain ⟨z, hz⟩ : ∃ z, P255 = y + z := ⟨P255 - y, by omega⟩
    rw [show P255 - y = z by omega]
    have : z * z + P255 * y = y * y + P255 * z := by rw [hz]; grind
    rw [← Nat.add_mul_mod_self_left (z * z) P255 y, this, Nat.add_mul_mod_self_left]
  · rw [← h1, ← Nat.mul_mod]
theorem inv_mul {A : Nat} (h : A % P255 ≠ 0) : A * (powF A PI % P255) % P255 = 1 := by
  rw [mulc (c := A) (d := A ^ PI) rfl (by rw [Nat.mod_mod]; exact powF_mod A (by decide))]
  exact inv_gen prP (by decide) h
theorem bd {A : Nat} (h : A < M256) : vB (dB A) = A := by rw [vB_dB, Nat.mod_eq_of_lt h]
theorem dB_inj {A B : Nat} (ha : A < M256) (hb : B < M256) : (dB A == dB B) = decide (A = B) := by
  by_cases h : A = B
  · subst h; simp
  · rw [decide_eq_false h, beq_eq_false_iff_ne]
    intro e
    apply h
    have := congrArg vB e
    rwa [bd ha, bd hb] at this
theorem dB_ne {A B : Nat} (ha : A < M256) (hb : B < M256) : (dB A != dB B) = decide (A ≠ B) := by
  rw [bne, dB_inj ha hb]; simp
theorem dB_head (N : Nat) : (dB N).getD 0 0 = N % 256 := rfl
theorem dB_zero : [0, 0, 0, 0, 0, 0, 0, 0, 0, 0, 0, 0, 0, 0, 0, 0, 0, 0, 0, 0, 0, 0, 0, 0, 0, 0, 0, 0, 0, 0, 0, 0] = dB 0 := by decide
theorem dB_one : [1, 0, 0, 0, 0, 0, 0, 0, 0, 0, 0, 0, 0, 0, 0, 0, 0, 0, 0, 0, 0, 0, 0, 0, 0, 0, 0, 0, 0, 0, 0, 0] = dB 1 := by decide
end Go.Eng.G

namespace Go.Eng
theorem dg_getD (b : Nat) : ∀ n N j, j < n → (dg b n N).getD j 0 = N / b ^ j % b := by
  intro n
  induction n with
  | zero => intro N j h; omega
  | succ n ih =>
    intro N j h
    cases j with
    | zero => simp [dg]
    | succ j =>
      simp only [dg, List.getD_cons_succ]
      rw [ih _ j (by omega), Nat.div_div_eq_div_mul, Nat.pow_succ, Nat.mul_comm b]
theorem set_getD {l : List Nat} {i : Nat} : l.set i (l.getD i 0) = l := by
  rw [List.getD_eq_getElem?_getD]
  rcases Nat.lt_or_ge i l.length with h | h
  · simp [h]
  · exact List.set_eq_of_length_le h
theorem ext_getD {l m : List Nat} (h : l.length = m.length) (he : ∀ j, j < l.length → l.getD j 0 = m.getD j 0) : l = m := by
  apply List.ext_getElem h
  intro j h1 h2
  have := he j h1
  simpa [h1, h2] using this
theorem dg_take (b : Nat) : ∀ n N j, j ≤ n → (dg b n N).take j = dg b j N := by
  intro n
  induction n with
  | zero => intro N j h; obtain rfl : j = 0 := by omega
            rfl
  | succ n ih =>
    intro N j h
    cases j with
    | zero => simp [dg]
    | succ j => simp only [dg, List.take_succ_cons]; rw [ih _ j (by omega)]
theorem dg_succ (b : Nat) : ∀ n N, dg b (n + 1) N = dg b n N ++ [N / b ^ n % b] := by
  intro n
  induction n with
  | zero => intro N; simp [dg]
  | succ n ih =>
    intro N
    have := ih (N / b)
    rw [dg, this]
    simp only [dg, List.cons_append]
    rw [Nat.div_div_eq_div_mul, Nat.pow_succ, Nat.mul_comm b]
def addL (b : Nat) : List Nat → List Nat → Nat → List Nat
  | x :: xs, y :: ys, c => (x + y + c) % b :: addL b xs ys ((x + y + c) / b)
  | _, _, _ => []
theorem addL_len (b : Nat) : ∀ xs ys c, xs.length = ys.length → (addL b xs ys c).length = xs.length := by
  intro xs
  induction xs with
  | nil => intro ys c h; cases ys <;> simp [addL]
  | cons x xs ih => intro ys c h; cases ys with
    | nil => simp at h
    | cons y ys => simp only [addL, List.length_cons]; rw [ih ys _ (by simpa using h)]
theorem vl_addL {b : Nat} (hb : 0 < b) : ∀ xs ys c, xs.length = ys.length → vl b (addL b xs ys c) = (vl b xs + vl b ys + c) % b ^ xs.length := by
  intro xs
  induction xs with
  | nil => intro ys c h; cases ys with
    | nil => simp [addL, vl, Nat.mod_one]
    | cons => simp at h
  | cons x xs ih => intro ys c h; cases ys with
    | nil => simp at h
    | cons y ys =>
      simp only [addL, vl, List.length_cons, ih ys _ (by simpa using h)]
      have e : x + b * vl b xs + (y + b * vl b ys) + c = (x + y + c) % b + b * (vl b xs + vl b ys + (x + y + c) / b) := by
        have := Nat.div_add_mod (x + y + c) b
        rw [Nat.mul_add, Nat.mul_add]
        omega
      rw [e, Nat.pow_succ, Nat.mul_comm (b ^ xs.length) b, Nat.mod_mul, Nat.add_mul_mod_self_left, Nat.mod_mod, Nat.add_mul_div_left _ _ hb, Nat.div_eq_of_lt (Nat.mod_lt _ hb), Nat.zero_add]
theorem bit_dig {w : Nat} (hw : 0 < w) : ∀ (l : List Nat), (∀ x ∈ l, x < 2 ^ w) → ∀ n, l.getD (n / w) 0 / 2 ^ (n % w) % 2 = vl (2 ^ w) l / 2 ^ n % 2 := by
  intro l
  induction l with
  | nil => intro _ n; simp [vl]
  | cons x l ih =>
    intro h n
    have hx : x < 2 ^ w := h x (by simp)
    rcases Nat.lt_or_ge n w with hn | hn
    · rw [Nat.div_eq_of_lt hn, Nat.mod_eq_of_lt hn]
      simp only [List.getD_cons_zero, vl]
      have e : 2 ^ w * vl (2 ^ w) l = 2 ^ n * (2 * (2 ^ (w - 1 - n) * vl (2 ^ w) l)) := by
        rw [← Nat.mul_assoc, ← Nat.mul_assoc, ← Nat.pow_succ, ← Nat.pow_add, show n + 1 + (w - 1 - n) = w by omega]
      rw [e, Nat.add_mul_div_left _ _ (Nat.two_pow_pos n), Nat.add_mul_mod_self_left]
    · obtain ⟨m, rfl⟩ : ∃ m, n = m + w := ⟨n - w, by omega⟩
      rw [Nat.add_div_right _ hw, Nat.add_mod_right, List.getD_cons_succ, ih (fun y hy => h y (by simp [hy])) m]
      simp only [vl]
      rw [Nat.pow_add, Nat.mul_comm (2 ^ m) (2 ^ w), ← Nat.div_div_eq_div_mul]
      rw [Nat.add_mul_div_left _ _ (Nat.two_pow_pos w), Nat.div_eq_of_lt hx, Nat.zero_add]
end Go.Eng

