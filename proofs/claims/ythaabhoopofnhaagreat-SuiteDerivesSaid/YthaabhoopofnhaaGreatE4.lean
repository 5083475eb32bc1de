import Derived.Test.YthaabhoopofnhaaGreatE3
import Derived.Lib.MinMax
import Derived.OrdersHeld
set_option linter.unusedVariables false
set_option linter.unusedSimpArgs false
set_option linter.unusedSectionVars false
namespace Go.Eng
open Go.RowKit
def evalQ (P : Program) (ρ : Operand → Option SV) (o : Oper) : Option (SV × List Prop) :=
  match o.op with
  | .slice t x (some lo) none none => match ρ x, ρ lo, P.underlying t with
    | some (.ptr id off (.c 0)), some (.c _ k), some (.array n e) => if szT P e = some 1 ∧ 0 ≤ k ∧ k.toNat < n then some (.psl id off k.toNat (n - k.toNat), []) else none
    | _, _, _ => none
  | .call { callee := .builtin .min, args := ⟨[x, y]⟩, .. } => match ρ x, ρ y with
    | some a, some b => match a.int?, b.int? with
      | some (k, n), some (k', m) => if k = k' then some (.i k (min n m), []) else none
      | _, _ => none
    | _, _ => none
  | _ => none
def evalN (P : Program) (ρ : Operand → Option SV) (o : Oper) : Option SV :=
  match o.op with
  | .binOp op t x y _ => match ρ x with
    | some (.pin (.slice A _ _) _) => if isSlT P t && isNilC y then (match op, A with
      | .eql, none => some (.cb true)
      | .eql, some _ => some (.cb false)
      | .neq, none => some (.cb false)
      | .neq, some _ => some (.cb true)
      | _, _ => none) else none
    | _ => none
  | .call { callee := .builtin .append, args := ⟨[x, y]⟩, argTypes := ⟨[t, t']⟩ } => match ρ x, rdρ ρ y with
    | some .emp, some (.sl _ []) => if t = t' ∧ (elemOf P t).isSome = true then some .emp else none
    | _, _ => none
  | _ => none
section
variable {P : Program} {β : Nat → Nat} {ow : Own} {w : World}
theorem emp_append {t ty e : TypeId} {i : TypeInfo} (ht : P.underlying t = some (.slice e)) (hi : P.info? e = some i) (A B : Option Addr) (c : Nat) :
    (Builtin.append_ #[t, t] ty #[.slice A 0 0, .slice B 0 c]).run P w = .ok (.slice A 0 0) w := by
  have hf : (Builtin.firstCells i.size 0 (.slice B 0 c)).run P w = .ok #[] w := by
    cases B with
    | none => simp [Builtin.firstCells]
    | some ad => simp [Builtin.firstCells, loadCells, loadCellsFrom]
  cases A with
  | none => simp [Builtin.append_, run_underlying ht, sizeOf, typeInfo, hi, Builtin.lenOf, hf]
  | some a => simp [Builtin.append_, run_underlying ht, sizeOf, typeInfo, hi, Builtin.lenOf, hf, storeCells]
theorem evalN_ok {ρ : Operand → Option SV} {o : Oper} {r : SV} (h : evalN P ρ o = some r) {a : Act} (hρ : ∀ x s, ρ x = some s → relV β ow w s (a.eval x)) :
    ∃ v, (execOp a.eval o).run P w = .ok (.value v) w ∧ relV β ow w r v := by
  obtain ⟨dst, op, type, pos, after, guard⟩ := o
  unfold evalN at h
  split at h
  · rename_i op t x y t2 hop
    simp only at hop
    subst hop
    split at h
    · rename_i A n c s hx
      split at h
      · rename_i hc
        simp only [Bool.and_eq_true] at hc
        obtain ⟨h1, h2⟩ := hc
        have hy : a.eval y = .slice none 0 0 := by
          unfold isNilC at h2
          split at h2
          · rfl
          · cases h2
        obtain ⟨e, hu⟩ : ∃ e, P.underlying t = some (.slice e) := by
          unfold isSlT at h1
          split at h1
          · exact ⟨_, by assumption⟩
          · cases h1
        have hv := relV_scalar rfl rfl (hρ x _ hx)
        simp only [rel, List.cons.injEq, and_true] at hv
        have heq := run_equal_slice_nil (P := P) w t e A n c hu
        have hval := hv.1
        split at h <;> cases h
        all_goals exact ⟨_, by simp [execOp, eqGuard, binOp, hval, hy, heq], relV_of1 rfl rel_cb⟩
      · cases h
    · cases h
  · rename_i x y t t' hop
    simp only at hop
    subst hop
    split at h
    · rename_i k hx hy
      split at h
      · rename_i hc
        obtain ⟨rfl, hel⟩ := hc
        cases h
        have h1 := relV_scalar rfl rfl (hρ x _ hx)
        have h2 := relV_scalar rfl rfl (rdρ_ok hρ y _ hy)
        simp only [rel, List.cons.injEq, and_true] at h1 h2
        obtain ⟨A, hA⟩ := h1
        obtain ⟨⟨v, hv, B, n, c, hB, hn, _⟩, _⟩ := h2
        obtain ⟨e, i, hu, hi⟩ : ∃ e i, P.underlying t = some (.slice e) ∧ P.info? e = some i := by
          unfold elemOf at hel
          split at hel
          · rename_i e hu
            split at hel
            · rename_i i hi; exact ⟨e, i, hu, hi⟩
            · cases hel
          · cases hel
        have hn0 : n = 0 := by rw [hn]; rfl
        subst hn0
        refine ⟨.slice A 0 0, ?_, relV_of1 rfl (by simp only [rel]; exact ⟨A, rfl⟩)⟩
        have hyv : a.eval y = .slice B 0 c := by rw [hv, hB]
        unfold execOp
        simp only [resolve, invoke, builtin, Sem.run_bind, Sem.run_pure, Result.andThen_ok, List.map_toArray, List.map_cons, List.map_nil, hA, hyv, emp_append hu hi]
      · cases h
    · cases h
  · cases h
theorem int?_val {s : SV} {k : IntKind} {n : Int} (h : s.int? = some (k, n)) {v : Value} (hv : relV β ow w s v) : v = .int k n ∧ inR k n := by
  have hsc : s.isTup = false ∧ s.isAgg = false := by cases s <;> simp [SV.int?] at h <;> exact ⟨rfl, rfl⟩
  have h1 := relV_scalar hsc.1 hsc.2 hv
  obtain ⟨h2, h3⟩ := int?_ok h h1
  exact ⟨by simpa using h2, h3⟩
theorem evalQ_ok {ρ : Operand → Option SV} {o : Oper} {r : SV} {ob : List Prop} (h : evalQ P ρ o = some (r, ob)) (hob : All ob) {a : Act} (hρ : ∀ x s, ρ x = some s → relV β ow w s (a.eval x)) :
    ∃ v, (execOp a.eval o).run P w = .ok (.value v) w ∧ relV β ow w r v := by
  obtain ⟨dst, op, type, pos, after, guard⟩ := o
  unfold evalQ at h
  split at h
  · rename_i t x lo hop
    simp only at hop
    subst hop
    split at h
    · rename_i id off k1 k n e hx hlo hu
      split at h
      · rename_i hc
        obtain ⟨hsz, hk0, hkn⟩ := hc
        cases h
        have h1 := relV_scalar rfl rfl (hρ x _ hx)
        have h2 := relV_scalar rfl rfl (hρ lo _ hlo)
        simp only [rel, List.cons.injEq, and_true] at h1 h2
        obtain ⟨m, rfl⟩ : ∃ m : Nat, k = (m : Int) := ⟨k.toNat, by omega⟩
        simp only [Int.toNat_natCast] at hkn ⊢
        refine ⟨.slice (some ⟨β id, off + m, none⟩) (n - m) (n - m), ?_, relV_of1 rfl (by simp only [rel])⟩
        have hb : (0 : Int) ≤ (m : Int) ∧ (m : Int) ≤ (n : Int) := by omega
        have hne : n ≠ m := by omega
        simp only [execOp, Sem.run_bind, h1, h2.1, Option.map_some, Option.map_none, Instr.sliceAt, run_underlying hu, Instr.sureAddr, Sem.run_pure, Result.andThen_ok, Instr.sliceBounds, Instr.sliceBound, asIntOf, sizeOf_run hsz]
        simp only [hb, and_self, if_true, Sem.run_pure, Result.andThen_ok, Sem.run_bind, sizeOf_run hsz, Int.toNat_natCast, hne, if_false, Ix.n, Nat.add_zero, add_plain, Nat.mul_one]
      · cases h
    · cases h
  · rename_i x y tys hop
    simp only at hop
    subst hop
    split at h
    · rename_i sa sb hx hy
      split at h
      · rename_i k n k' m h1 h2
        split at h
        · rename_i e
          subst e
          cases h
          obtain ⟨hv1, hr1⟩ := int?_val h1 (hρ x _ hx)
          obtain ⟨hv2, hr2⟩ := int?_val h2 (hρ y _ hy)
          refine ⟨.int k (min n m), ?_, relV_of1 rfl (rel_i ?_)⟩
          · simp [execOp, resolve, invoke, builtin, hv1, hv2, Lib.run_min_ints]
          · simp only [inR] at hr1 hr2 ⊢; omega
        · cases h
      · cases h
    · cases h
  · cases h
end
end Go.Eng

namespace Go.Eng
open Go.RowKit
def guardOf (ops : Array Oper) (slots : List (Nat × SV)) (o : Oper) : Option Bool :=
  match o.guard with
  | none => some true
  | some (j, want) => match dstOf ops j with
    | some d => match getS slots d with
      | some (.cb x) => some (x == want)
      | some (.tup []) => some false
      | _ => none
    | none => none
def isGuard (ops : Array Oper) (i : Nat) : Bool := ops.toList.any fun o => match o.guard with | some (j, _) => j == i | none => false
def resolveB (flag : Bool) (s : SV) (sc : List Bool) : Option (SV × List Prop × List Bool) :=
  match flag, s with
  | true, .b x => match sc with
    | v :: r => some (.cb v, [x = v], r)
    | [] => none
  | _, s => some (s, [], sc)
def stepOp (P : Program) (ctr : Ctr) (ops : Array Oper) (σ : St) (i : Nat) (o : Oper) (sc : List Bool) : Option (St × List Prop × List Bool) :=
  match guardOf ops σ.slots o with
  | none => none
  | some false => match putS σ o.dst (.tup []) with | some σ' => some (σ', [], sc) | none => none
  | some true =>
    match o.op with
    | .store t p x => match o.dst, lookρ σ.slots p, lookρ σ.slots x, aggT P t, szT P t with
      | none, some (.ptr id off ix), some sv, some agg, some size => match getB σ.blks id with
        | some bk => match storeB bk agg size off ix sv.rd with
          | some (bk', ob) => if (idss bk'.segs).all (fun j => decide (j < σ.next)) then some ({ σ with blks := setB σ.blks id bk' }, ob, sc) else none
          | none => none
        | none => none
      | _, _, _, _, _ => none
    | .call { callee := .builtin .append, args := ⟨[x, y]⟩, argTypes := ⟨[t, t']⟩ } => match lookρ σ.slots x, lookρ σ.slots y with
      | some sx, some sy => (match appendOp P σ t t' sx sy.rd with
        | some (σ1, r, ob) => match putS σ1 o.dst r with | some σ' => some (σ', ob, sc) | none => none
        | none => match Eng.oslRow σ x with
          | some σ0 => (match lookρ σ0.slots x, lookρ σ0.slots y with
            | some sx, some sy => (match appendOp P σ0 t t' sx sy.rd with
              | some (σ1, r, ob) => match putS σ1 o.dst r with | some σ' => some (σ', ob, sc) | none => none
              | none => none)
            | _, _ => none)
          | none => none)
      | _, _ => none
    | .call { callee := .builtin .copy, args := ⟨[x, y]⟩, argTypes := ⟨[t, _]⟩ } => match lookρ σ.slots x, lookρ σ.slots y with
      | some sx, some sy => (match copyOp P σ t sx sy.rd with
        | some (σ1, r, ob) => match putS σ1 o.dst r with | some σ' => some (σ', ob, sc) | none => none
        | none => none)
      | _, _ => none
    | _ => match evalR P ctr σ.blks (lookρ σ.slots) o with
      | some (.val s, ob) => match resolveB (isGuard ops i) s sc with
        | some (s', ob2, sc') => match putS σ o.dst s' with | some σ' => some (σ', ob ++ ob2, sc') | none => none
        | none => none
      | some (.call s, ob) => match resolveB (isGuard ops i) s sc with
        | some (s', ob2, sc') => match putS σ o.dst s' with | some σ' => some (σ', ob ++ ob2, sc') | none => none
        | none => none
      | some (.new ty segs kind, ob) => match newS σ ty segs with
        | some σ1 => match putS σ1 o.dst (newSV kind σ.next) with | some σ' => some (σ', ob, sc) | none => none
        | none => none
      | none => match callM ctr σ (rdρ (lookρ σ.slots)) o with
        | some (σ1, s, ob) => match resolveB (isGuard ops i) s sc with
          | some (s', ob2, sc') => match putS σ1 o.dst s' with | some σ' => some (σ', ob ++ ob2, sc') | none => none
          | none => none
        | none => match frzArgs σ o with
          | some σ0 => match evalR P ctr σ0.blks (lookρ σ0.slots) o with
            | some (.call s, ob) => match resolveB (isGuard ops i) s sc with
              | some (s', ob2, sc') => match putS σ0 o.dst s' with | some σ' => some (σ', ob ++ ob2, sc') | none => none
              | none => none
            | _ => match callM ctr σ0 (rdρ (lookρ σ0.slots)) o with
              | some (σ1, s, ob) => match resolveB (isGuard ops i) s sc with
                | some (s', ob2, sc') => match putS σ1 o.dst s' with | some σ' => some (σ', ob ++ ob2, sc') | none => none
                | none => none
              | none => none
          | none => match makeRowA P σ o with
            | some (σ1, s, ob) => match putS σ1 o.dst s with | some σ' => some (σ', ob, sc) | none => none
            | none => none
def stored (ops : Array Oper) (d : Option Nat) : Bool :=
  match d with
  | some d => ops.toList.any fun o => match o.op with
    | .store _ (.tmp e) _ => e == d
    | _ => false
  | none => false
def rowOp (P : Program) (ops : Array Oper) (σ : St) (o : Oper) : Option (St × List Prop) :=
  match o.op with
  | .indexAddr _ _ _ => if stored ops o.dst = true then (match rowPtr P σ.slots o with
    | some (r, ob) => match putS σ o.dst r with | some σ' => some (σ', ob) | none => none
    | none => none) else none
  | .store t p x => match o.dst, lookρ σ.slots p, lookρ σ.slots x with
    | none, some sp, some sx => storeRow P σ t sp sx.rd
    | _, _, _ => none
  | _ => none
def findPtr (id : Nat) : List (Nat × SV) → Option Nat
  | [] => none
  | p :: r => match p.2 with
    | .ptr i 0 (.c 0) => if i = id then some p.1 else findPtr id r
    | _ => findPtr id r
def mkClo (σ : St) (o : Oper) : Option SV :=
  match o.op with
  | .makeFunc (.func f) ⟨[]⟩ ⟨[x]⟩ => match lookρ σ.slots x with
    | some (.ptr id 0 (.c 0)) => some (.clo f id)
    | _ => none
  | .makeFunc (.func f) ⟨[]⟩ ⟨[x, y]⟩ => match lookρ σ.slots x, lookρ σ.slots y with
    | some (.ptr id 0 (.c 0)), some (.ptr id' 0 (.c 0)) => some (.clo2 f id id')
    | _, _ => none
  | _ => none
def cloOp (σ : St) (o : Oper) : Option Oper :=
  match o.op with
  | .call { callee := .value (.tmp t), args, argTypes } => match getS σ.slots t with
    | some (.clo f id) => match findPtr id σ.slots with
      | some d => some { o with op := .call { callee := .value (.func f), args := args.push (.tmp d), argTypes } }
      | none => none
    | some (.clo2 f id id') => match findPtr id σ.slots, findPtr id' σ.slots with
      | some d, some d' => some { o with op := .call { callee := .value (.func f), args := (args.push (.tmp d)).push (.tmp d'), argTypes } }
      | _, _ => none
    | _ => none
  | _ => none
def pslOp (P : Program) (σ : St) (o : Oper) : Option SV :=
  match o.op with
  | .slice t x none none none => match lookρ σ.slots x, P.underlying t with
    | some (.ptr id off (.c 0)), some (.array n e) => match getB σ.blks id with
      | some bk => if bk.segs.length ≠ 1 ∧ szT P e = some 1 ∧ 0 < n then some (.psl id off 0 n) else none
      | none => none
    | _, _ => none
  | _ => none
def stepOpE (P : Program) (ops : Array Oper) (σ : St) (o : Oper) : Option (St × List Prop) :=
  match guardOf ops σ.slots o with
  | some true => match evalN P (lookρ σ.slots) o with
   | some s => match putS σ o.dst s with | some σ' => some (σ', []) | none => none
   | none => match evalQ P (rdρ (lookρ σ.slots)) o with
    | some (s, ob) => match putS σ o.dst s with | some σ' => some (σ', ob) | none => none
    | none => match pslOp P σ o with
      | some s => match putS σ o.dst s with | some σ' => some (σ', []) | none => none
      | none => none
  | _ => none
def stepOpC (P : Program) (ctr : Ctr) (ops : Array Oper) (σ : St) (i : Nat) (o : Oper) (sc : List Bool) : Option (St × List Prop × List Bool) :=
  match stepOpE P ops σ o with
  | some (σ', ob) => some (σ', ob, sc)
  | none => match mkClo σ o with
  | some s => match guardOf ops σ.slots o, putS σ o.dst s with
    | some true, some σ' => some (σ', [], sc)
    | _, _ => none
  | none => match cloOp σ o with
    | some o' => stepOp P ctr ops σ i o' sc
    | none => match callClo ctr σ (rdρ (lookρ σ.slots)) o with
      | some (σ1, s, ob) => (match guardOf ops σ.slots o, putS σ1 o.dst s with
        | some true, some σ' => some (σ', ob, sc)
        | _, _ => none)
      | none => stepOp P ctr ops σ i o sc
def stepOpW (P : Program) (ctr : Ctr) (ops : Array Oper) (σ : St) (i : Nat) (o : Oper) (sc : List Bool) : Option (St × List Prop × List Bool) :=
  match guardOf ops σ.slots o, rowOp P ops σ o with
  | some true, some (σ', ob) => some (σ', ob, sc)
  | _, _ => stepOpC P ctr ops σ i o sc
def execSeq (P : Program) (ctr : Ctr) (ops : Array Oper) : List Oper → Nat → St → List Bool → Option (St × List Prop × List Bool)
  | [], _, σ, sc => some (σ, [], sc)
  | o :: r, i, σ, sc => match stepOpW P ctr ops σ i o sc with
    | some (σ1, ob1, sc1) => match execSeq P ctr ops r (i + 1) σ1 sc1 with
      | some (σ2, ob2, sc2) => some (σ2, ob1 ++ ob2, sc2)
      | none => none
    | none => none
section
variable {P : Program} {ctr : Ctr} {w0 : Fr} {w w' : World} {S : Own} {σ : St} {β : Nat → Nat} {a : Act} {ops : Array Oper}
theorem undef_not_bool {x : Bool} : undef ≠ .bool x := by unfold undef; intro h; cases h
theorem guard_ok {slots : List (Nat × SV)} {ow : Own} (hs : ∀ d s, (d, s) ∈ slots → relV β ow w s (a.tmps.getD d undef)) {o : Oper} {x : Bool} (h : guardOf ops slots o = some x) :
    Region.wanted o (yielded ops a.tmps) = x := by
  unfold guardOf at h
  unfold Region.wanted
  split at h
  · rename_i hg; cases h; simp [hg]
  · rename_i j want hg
    simp only [hg]
    split at h
    · rename_i d hd
      split at h
      · rename_i b hb
        cases h
        have h1 := relV_scalar rfl rfl (hs d _ (getS_mem hb))
        simp only [rel, List.cons.injEq, and_true] at h1
        have h2 : a.tmps[d]? = some (.bool b) := by
          rw [Array.getD_eq_getD_getElem?] at h1
          cases ht : a.tmps[d]? with
          | none => rw [ht] at h1; simp at h1; exact absurd h1 undef_not_bool
          | some u => rw [ht] at h1; simp at h1; rw [h1]
        have h3 : yielded ops a.tmps j = some b := by
          unfold yielded
          rw [show (ops[j]?).bind (·.dst) = some d from hd]
          simp [h2]
        rw [h3]
        cases b <;> cases want <;> rfl
      · rename_i hb
        cases h
        obtain ⟨vs, h1, h2⟩ := hs d _ (getS_mem hb)
        have h2 : vs = [] := h2
        subst h2
        have h3 : yielded ops a.tmps j = none := by
          unfold yielded
          rw [show (ops[j]?).bind (·.dst) = some d from hd]
          rw [Array.getD_eq_getD_getElem?] at h1
          cases ht : a.tmps[d]? with
          | none => simp [ht]
          | some u => rw [ht] at h1; simp at h1; subst h1; simp [ht]
        rw [h3]
        cases want <;> rfl
      · cases h
    · cases h
theorem resolveB_ok {flag : Bool} {s s' : SV} {sc sc' : List Bool} {ob : List Prop} (h : resolveB flag s sc = some (s', ob, sc')) (hob : All ob) {ow : Own} {v : Value} (hv : relV β ow w s v) : relV β ow w s' v := by
  unfold resolveB at h
  split at h
  · rename_i x
    split at h
    · cases h
      have h1 := relV_scalar rfl rfl hv
      simp only [rel, List.cons.injEq, and_true] at h1
      subst h1
      have := hob.1
      subst this
      exact relV_of1 rfl rel_cb
    · cases h
  · cases h; exact hv
theorem stepOp_okG (hctr : CtrOk P ctr) {σ' : St} {i : Nat} {o o0 : Oper} {sc sc' : List Bool} {ob : List Prop} (h : stepOp P ctr ops σ i o sc = some (σ', ob, sc')) (hob : All ob) (hi : ops[i]? = some o0)
    (hgd : o0.guard = o.guard) (hds : o0.dst = o.dst) (hS : Sat w0 S σ β a w) {K : Act → World → Prop} {Q : Exit → Act → World → Prop} (hwp : o.wp P a w K Q → o0.wp P a w K Q) (hk : ∀ β' a' w', Sat w0 S σ' β' a' w' → K a' w') : wpOp P ops Q i K a w := by
  have hwt : ∀ y, Region.wanted o0 y = Region.wanted o y := fun y => by unfold Region.wanted; rw [hgd]
  unfold stepOp at h
  unfold wpOp
  simp only [hi]
  split at h
  · cases h
  · rename_i hg
    split at h
    · rename_i σ1 hput
      cases h
      rw [hwt, guard_ok hS.slot hg]
      simp only [Bool.false_eq_true, if_false]
      rw [hds]
      exact hk β _ w (hS.put hput ⟨[], rfl, rfl⟩)
    · cases h
  · rename_i hg
    rw [hwt, guard_ok hS.slot hg]
    simp only [if_true]
    refine .inl (hwp ?_)
    split at h
    · rename_i t p x hop
      split at h
      · rename_i id off ix sv agg size hdst hp hx ha hs
        split at h
        · rename_i bk hgb
          split at h
          · rename_i bk' ob' hst
            split at h
            · rename_i hids
              cases h
              obtain ⟨cs, hr, hb⟩ := (hS.blk id bk (getB_both hgb).1).1 (getB_both hgb).2
              obtain ⟨cs', hrun, hr', hty⟩ := storeB_ok (P := P) hst hob hs hr (rd_ok (hS.look hx)) hb
              have h1 := relV_scalar rfl rfl (hS.look hp)
              simp only [rel, List.cons.injEq, and_true] at h1
              have hexec : (execOp a.eval o).run P w = .ok .skip (setRow w (β id) cs' bk.ty) := by
                unfold execOp
                rw [hop]
                simp only [Sem.run_bind, h1, hrun, Result.andThen_ok, Sem.run_pure]
              unfold Oper.wp
              rw [hexec]
              show K (a.put o.dst undef) _
              rw [hdst]
              exact hk β a _ (hS.write hgb hty (storeB_row hst) hr' (fun j hj => by have := List.all_eq_true.1 hids j hj; simpa using this))
            · cases h
          · cases h
        · cases h
      · cases h
    · rename_i x y t t' hop
      split at h
      · rename_i sx sy hx hy
        split at h
        · rename_i σ1 r ob' happ
          split at h
          · rename_i σ2 hput
            cases h
            exact wp_append hop hS happ hob (hS.look hx) (rd_ok (hS.look hy)) fun v w' β' h1 h2 => hk β' _ _ (h1.put hput h2)
          · cases h
        · split at h
          · rename_i σ0 hor
            obtain ⟨β0, hS0⟩ := hS.oslRow hor
            split at h
            · rename_i sx sy hx hy
              split at h
              · rename_i σ1 r ob' happ
                split at h
                · rename_i σ2 hput
                  cases h
                  exact wp_append hop hS0 happ hob (hS0.look hx) (rd_ok (hS0.look hy)) fun v w' β' h1 h2 => hk β' _ _ (h1.put hput h2)
                · cases h
              · cases h
            · cases h
          · cases h
      · cases h
    · rename_i x y t t' hop
      split at h
      · rename_i sx sy hx hy
        split at h
        · rename_i σ1 r ob' hcp
          split at h
          · rename_i σ2 hput
            cases h
            exact wp_copy hop hS hcp (hS.look hx) (rd_ok (hS.look hy)) fun v w' h1 h2 => hk β _ _ (h1.put hput h2)
          · cases h
        · cases h
      · cases h
    · split at h
      · rename_i s ob1 hev
        split at h
        · rename_i s' ob2 sc1 hres
          split at h
          · rename_i σ1 hput
            cases h
            obtain ⟨ho1, ho2⟩ := All.append.1 hob
            refine evalR_ok hctr hev ho1 (fun x s hx => hS.look hx) hS.blk hS.own fun v w' hx hv => ?_
            obtain ⟨rfl, hv⟩ := hv
            exact hk β _ _ (hS.put hput (resolveB_ok hres ho2 hv))
          · cases h
        · cases h
      · rename_i s ob1 hev
        split at h
        · rename_i s' ob2 sc1 hres
          split at h
          · rename_i σ1 hput
            cases h
            obtain ⟨ho1, ho2⟩ := All.append.1 hob
            refine evalR_ok hctr hev ho1 (fun x s hx => hS.look hx) hS.blk hS.own fun v w' hx hv => ?_
            obtain ⟨_, hv⟩ := hv
            exact hk β _ _ ((hS.extend hx).put hput (resolveB_ok hres ho2 hv))
          · cases h
        · cases h
      · rename_i ty segs kind ob1 hev
        split at h
        · rename_i σ1 hnew
          split at h
          · rename_i σ2 hput
            cases h
            refine evalR_ok hctr hev hob (fun x s hx => hS.look hx) hS.blk hS.own fun v w' hx hv => ?_
            obtain ⟨cs, hr, rfl, hv⟩ := hv
            have hS2 := hS.extend hx
            have hk2 : ∀ ow' : Own, (∀ b j, ow' b j → owS S σ.blks β b j ∨ b = w.heap.size) → ∀ b j, b < w.heap.size → ow' b j → owS S σ.blks β b j := fun ow' ho b j hb h => by
              rcases ho b j h with h | h
              · exact h
              · omega
            have hke : Keep (owS S σ.blks β) w (w.alloc (.cells cs.toArray ty)) := Keep.of_ext hx
            obtain ⟨hS3, how⟩ := hS2.new hnew (g := w.heap.size) (cs := cs) (by show (w.heap.push _)[w.heap.size]? = _; simp) (hS.ext.size)
              (fun j ho => by have := hS.own _ _ ho; omega)
              (fun ow' ho => ⟨fun d s hm => relV_mono (hk2 ow' ho) hke (fun _ _ => rfl) (hS.slot d s hm), hS.blk.move (hk2 ow' ho) hke (fun _ _ _ => sameB_refl) (fun id bk hm hl => hx.block _ (hS.blk.lt hm hl)), rels_mono (hk2 ow' ho) hke _ _ (fun _ _ => rfl) hr⟩)
            refine hk _ _ _ (hS3.put hput ?_)
            have := hv (fun i => if i = σ.next then w.heap.size else β i) σ.next (by simp)
            refine relV_noSl _ _ ?_ (fun _ _ => rfl) this
            cases kind <;> rfl
          · cases h
        · cases h
      · split at h
        · rename_i σ1 s ob1 hcall
          split at h
          · rename_i s' ob2 sc1 hres
            split at h
            · rename_i σ2 hput
              cases h
              obtain ⟨ho1, ho2⟩ := All.append.1 hob
              exact callM_ok hctr hS (rdρ_ok fun x s hx => hS.look hx) hcall ho1 fun v w' β' h1 h2 => hk β' _ _ (h1.put hput (resolveB_ok hres ho2 h2))
            · cases h
          · cases h
        · split at h
          · rename_i σ0 hfz
            have hS0 := hS.frzArgs hfz
            split at h
            · rename_i s ob1 hev
              split at h
              · rename_i s' ob2 sc1 hres
                split at h
                · rename_i σ1 hput
                  cases h
                  obtain ⟨ho1, ho2⟩ := All.append.1 hob
                  refine evalR_ok hctr hev ho1 (fun x s hx => hS0.look hx) hS0.blk hS0.own fun v w' hx hv => ?_
                  obtain ⟨_, hv⟩ := hv
                  exact hk β _ _ ((hS0.extend hx).put hput (resolveB_ok hres ho2 hv))
                · cases h
              · cases h
            · split at h
              · rename_i σ1 s ob1 hcall
                split at h
                · rename_i s' ob2 sc1 hres
                  split at h
                  · rename_i σ2 hput
                    cases h
                    obtain ⟨ho1, ho2⟩ := All.append.1 hob
                    exact callM_ok hctr hS0 (rdρ_ok fun x s hx => hS0.look hx) hcall ho1 fun v w' β' h1 h2 => hk β' _ _ (h1.put hput (resolveB_ok hres ho2 h2))
                  · cases h
                · cases h
              · cases h
          · split at h
            · rename_i σ1 s ob1 hmk
              split at h
              · rename_i σ2 hput
                cases h
                exact wp_makeRowA hS hmk hob fun v w' β' h1 h2 => hk β' _ _ (h1.put hput h2)
              · cases h
            · cases h
theorem stepOp_ok (hctr : CtrOk P ctr) {σ' : St} {i : Nat} {o : Oper} {sc sc' : List Bool} {ob : List Prop} (h : stepOp P ctr ops σ i o sc = some (σ', ob, sc')) (hob : All ob) (hi : ops[i]? = some o)
    (hS : Sat w0 S σ β a w) {K : Act → World → Prop} {Q : Exit → Act → World → Prop} (hk : ∀ β' a' w', Sat w0 S σ' β' a' w' → K a' w') : wpOp P ops Q i K a w :=
  stepOp_okG hctr h hob hi rfl rfl hS id hk
theorem findPtr_ok {id : Nat} : ∀ {l : List (Nat × SV)} {d : Nat}, findPtr id l = some d → (d, SV.ptr id 0 (.c 0)) ∈ l := by
  intro l
  induction l with
  | nil => intro d h; cases h
  | cons p r ih =>
    intro d h
    simp only [findPtr] at h
    split at h
    · rename_i i hp
      split at h
      · rename_i e
        cases h
        subst e
        exact List.mem_cons.2 (.inl (Prod.ext rfl hp.symm))
      · exact List.mem_cons_of_mem _ (ih h)
    · exact List.mem_cons_of_mem _ (ih h)
theorem cloOp_ok {o o' : Oper} (h : cloOp σ o = some o') (hS : Sat w0 S σ β a w) : o.guard = o'.guard ∧ o.dst = o'.dst ∧ ∀ {K : Act → World → Prop} {Q : Exit → Act → World → Prop}, o'.wp P a w K Q → o.wp P a w K Q := by
  obtain ⟨dst, op, type, pos, after, guard⟩ := o
  unfold cloOp at h
  split at h
  · rename_i t args ats hop
    simp only at hop
    subst hop
    split at h
    · rename_i f id hg
      split at h
      · rename_i d hd
        cases h
        refine ⟨rfl, rfl, fun {K Q} hwp => ?_⟩
        have h1 := relV_scalar rfl rfl (hS.slot t _ (getS_mem hg))
        have h2 := relV_scalar rfl rfl (hS.slot d _ (findPtr_ok hd))
        simp only [rel, List.cons.injEq, and_true, Ix.n, Nat.add_zero] at h1 h2
        have e : (execOp a.eval ⟨dst, .call { callee := .value (.tmp t), args, argTypes := ats }, type, pos, after, guard⟩).run P w = (execOp a.eval ⟨dst, .call { callee := .value (.func f), args := args.push (.tmp d), argTypes := ats }, type, pos, after, guard⟩).run P w := by
          unfold execOp
          simp only [resolve, Act.eval, h1, h2, Deferred.ofValue, Sem.run_bind, Sem.run_pure, Result.andThen_ok, invoke, Array.map_push, Array.empty_append, Array.append_empty]
          simp
        unfold Oper.wp at hwp ⊢
        rw [e]
        exact hwp
      · cases h
    · rename_i f id id' hg
      split at h
      · rename_i d d' hd hd'
        cases h
        refine ⟨rfl, rfl, fun {K Q} hwp => ?_⟩
        have h1 := relV_scalar rfl rfl (hS.slot t _ (getS_mem hg))
        have h2 := relV_scalar rfl rfl (hS.slot d _ (findPtr_ok hd))
        have h3 := relV_scalar rfl rfl (hS.slot d' _ (findPtr_ok hd'))
        simp only [rel, List.cons.injEq, and_true, Ix.n, Nat.add_zero] at h1 h2 h3
        have e : (execOp a.eval ⟨dst, .call { callee := .value (.tmp t), args, argTypes := ats }, type, pos, after, guard⟩).run P w = (execOp a.eval ⟨dst, .call { callee := .value (.func f), args := (args.push (.tmp d)).push (.tmp d'), argTypes := ats }, type, pos, after, guard⟩).run P w := by
          unfold execOp
          simp only [resolve, Act.eval, h1, h2, h3, Deferred.ofValue, Sem.run_bind, Sem.run_pure, Result.andThen_ok, invoke, Array.map_push, Array.empty_append, Array.append_empty]
          have e0 : ∀ (xs : Array Value) (p q : Value), xs ++ #[p, q] = (xs.push p).push q := fun xs p q => by apply Array.ext'; simp
          rw [e0]
        unfold Oper.wp at hwp ⊢
        rw [e]
        exact hwp
      · cases h
    · cases h
  · cases h
theorem mkClo_ok {o : Oper} {s : SV} (h : mkClo σ o = some s) (hS : Sat w0 S σ β a w) : ∃ v, (execOp a.eval o).run P w = .ok (.value v) w ∧ relV β (owS S σ.blks β) w s v := by
  obtain ⟨dst, op, type, pos, after, guard⟩ := o
  unfold mkClo at h
  split at h
  · rename_i f x hop
    simp only at hop
    subst hop
    split at h
    · rename_i id hx
      cases h
      have h1 := relV_scalar rfl rfl (hS.look hx)
      simp only [rel, List.cons.injEq, and_true, Ix.n, Nat.add_zero] at h1
      refine ⟨.func (.func f) #[] #[.pointer (some ⟨β id, 0, none⟩)], ?_, relV_of1 rfl (by simp only [rel])⟩
      unfold execOp
      simp [Instr.makeFunc, h1]
    · cases h
  · rename_i f x y hop
    simp only at hop
    subst hop
    split at h
    · rename_i id id' hx hy
      cases h
      have h1 := relV_scalar rfl rfl (hS.look hx)
      have h2 := relV_scalar rfl rfl (hS.look hy)
      simp only [rel, List.cons.injEq, and_true, Ix.n, Nat.add_zero] at h1 h2
      refine ⟨.func (.func f) #[] #[.pointer (some ⟨β id, 0, none⟩), .pointer (some ⟨β id', 0, none⟩)], ?_, relV_of1 rfl (by simp only [rel])⟩
      unfold execOp
      simp [Instr.makeFunc, h1, h2]
    · cases h
  · cases h
theorem pslOp_ok {o : Oper} {r : SV} (h : pslOp P σ o = some r) (hS : Sat w0 S σ β a w) :
    ∃ v, (execOp a.eval o).run P w = .ok (.value v) w ∧ relV β (owS S σ.blks β) w r v := by
  obtain ⟨dst, op, type, pos, after, guard⟩ := o
  unfold pslOp at h
  split at h
  · rename_i t x hop
    simp only at hop
    subst hop
    split at h
    · rename_i id off n e hx hu
      split at h
      · rename_i bk hg
        split at h
        · rename_i hc
          obtain ⟨_, hsz, hn⟩ := hc
          cases h
          have h1 := relV_scalar rfl rfl (hS.look hx)
          simp only [rel, List.cons.injEq, and_true] at h1
          refine ⟨.slice (some ⟨β id, off, none⟩) n n, ?_, relV_of1 rfl (by simp only [rel, Nat.add_zero])⟩
          have hb : (0 : Int) ≤ 0 ∧ (0 : Int) ≤ (n : Int) := by omega
          have hne : n ≠ 0 := by omega
          simp only [execOp, Sem.run_bind, h1, Option.map_none, Instr.sliceAt, run_underlying hu, Instr.sureAddr, Sem.run_pure, Result.andThen_ok, Instr.sliceBounds, Instr.sliceBound, asIntOf, sizeOf_run hsz]
          simp [Ix.n, hne, sizeOf_run hsz, add_plain]
        · cases h
      · cases h
    · cases h
  · cases h
theorem stepOpC_ok (hctr : CtrOk P ctr) {σ' : St} {i : Nat} {o : Oper} {sc sc' : List Bool} {ob : List Prop} (h : stepOpC P ctr ops σ i o sc = some (σ', ob, sc')) (hob : All ob) (hi : ops[i]? = some o)
    (hS : Sat w0 S σ β a w) {K : Act → World → Prop} {Q : Exit → Act → World → Prop} (hk : ∀ β' a' w', Sat w0 S σ' β' a' w' → K a' w') : wpOp P ops Q i K a w := by
  unfold stepOpC at h
  split at h
  · rename_i σ1 ob1 he
    cases h
    unfold stepOpE at he
    split at he
    · rename_i hg
      unfold wpOp
      simp only [hi]
      rw [guard_ok hS.slot hg]
      simp only [if_true]
      refine .inl ?_
      split at he
      · rename_i s hev
        split at he
        · rename_i σ3 hput
          cases he
          obtain ⟨v, hrun, hv⟩ := evalN_ok (P := P) hev (fun x s hx => hS.look hx)
          unfold Oper.wp
          rw [hrun]
          exact hk β _ w (hS.put hput hv)
        · cases he
      split at he
      · rename_i s ob2 hev
        split at he
        · rename_i σ3 hput
          cases he
          obtain ⟨v, hrun, hv⟩ := evalQ_ok (P := P) hev hob (rdρ_ok fun x s hx => hS.look hx)
          unfold Oper.wp
          rw [hrun]
          exact hk β _ w (hS.put hput hv)
        · cases he
      · split at he
        · rename_i s hps
          split at he
          · rename_i σ3 hput
            cases he
            obtain ⟨v, hrun, hv⟩ := pslOp_ok (P := P) hps hS
            unfold Oper.wp
            rw [hrun]
            exact hk β _ w (hS.put hput hv)
          · cases he
        · cases he
    · cases he
  split at h
  · rename_i s hm
    split at h
    · rename_i σ1 hg hput
      cases h
      obtain ⟨v, hrun, hv⟩ := mkClo_ok (P := P) hm hS
      unfold wpOp
      simp only [hi]
      rw [guard_ok hS.slot hg]
      simp only [if_true]
      refine .inl ?_
      unfold Oper.wp
      rw [hrun]
      exact hk β _ w (hS.put hput hv)
    · cases h
  · split at h
    · rename_i o' hc
      obtain ⟨h1, h2, h3⟩ := cloOp_ok (P := P) hc hS
      exact stepOp_okG hctr h hob hi h1 h2 hS h3 hk
    · split at h
      · rename_i σ1 s ob1 hcl
        split at h
        · rename_i σ2 hg hput
          cases h
          unfold wpOp
          simp only [hi]
          rw [guard_ok hS.slot hg]
          simp only [if_true]
          exact .inl (callClo_ok hctr hS (rdρ_ok fun x s hx => hS.look hx) hcl hob fun v w' β' h1 h2 => hk β' _ _ (h1.put hput h2))
        · cases h
      · exact stepOp_ok hctr h hob hi hS hk
theorem rowOp_ok {σ' : St} {o : Oper} {ob : List Prop} (h : rowOp P ops σ o = some (σ', ob)) (hob : All ob)
    (hS : Sat w0 S σ β a w) {K : Act → World → Prop} {Q : Exit → Act → World → Prop} (hk : ∀ β' a' w', Sat w0 S σ' β' a' w' → K a' w') : o.wp P a w K Q := by
  unfold rowOp at h
  split at h
  · split at h
    · split at h
      · rename_i r ob1 hr
        split at h
        · rename_i σ1 hput
          cases h
          exact rowPtr_ok hS hr hob fun v hv => hk β _ w (hS.put hput hv)
        · cases h
      · cases h
    · cases h
  · rename_i t p x hop
    split at h
    · rename_i sp sx hdst hp hx
      obtain ⟨w', hrun, hS'⟩ := hS.storeRow h (hS.look hp) (rd_ok (hS.look hx))
      have hexec : (execOp a.eval o).run P w = .ok .skip w' := by
        unfold execOp
        rw [hop]
        simp only [Sem.run_bind, hrun, Result.andThen_ok, Sem.run_pure]
      unfold Oper.wp
      rw [hexec]
      show K (a.put o.dst undef) _
      rw [hdst]
      exact hk β a _ hS'
    · cases h
  · cases h
theorem stepOpW_ok (hctr : CtrOk P ctr) {σ' : St} {i : Nat} {o : Oper} {sc sc' : List Bool} {ob : List Prop} (h : stepOpW P ctr ops σ i o sc = some (σ', ob, sc')) (hob : All ob) (hi : ops[i]? = some o)
    (hS : Sat w0 S σ β a w) {K : Act → World → Prop} {Q : Exit → Act → World → Prop} (hk : ∀ β' a' w', Sat w0 S σ' β' a' w' → K a' w') : wpOp P ops Q i K a w := by
  unfold stepOpW at h
  split at h
  · rename_i σ1 ob1 hg hr
    cases h
    unfold wpOp
    simp only [hi]
    rw [guard_ok hS.slot hg]
    simp only [if_true]
    exact .inl (rowOp_ok hr hob hS hk)
  · exact stepOpC_ok hctr h hob hi hS hk
theorem stepOpW_ptr {i : Nat} {o : Oper} {sc : List Bool} {t : TypeId} {p x : Operand} {id off : Nat} {ix : Ix} (hop : o.op = .store t p x) (hp : lookρ σ.slots p = some (.ptr id off ix)) : stepOpW P ctr ops σ i o sc = stepOp P ctr ops σ i o sc := by
  have hc : stepOpC P ctr ops σ i o sc = stepOp P ctr ops σ i o sc := by
    unfold stepOpC
    have h1 : mkClo σ o = none := by unfold mkClo; rw [hop]
    have h2 : cloOp σ o = none := by unfold cloOp; rw [hop]
    have h2' : callClo ctr σ (rdρ (lookρ σ.slots)) o = none := by unfold callClo; rw [hop]
    have h3 : stepOpE P ops σ o = none := by
      unfold stepOpE
      have e3 : evalQ P (rdρ (lookρ σ.slots)) o = none := by unfold evalQ; rw [hop]
      have e4 : evalN P (lookρ σ.slots) o = none := by unfold evalN; rw [hop]
      have e5 : pslOp P σ o = none := by unfold pslOp; rw [hop]
      rw [e3, e4, e5]
      split <;> rfl
    rw [h3]
    simp only [h1, h2, h2']
  have hn : rowOp P ops σ o = none := by
    unfold rowOp
    rw [hop]
    simp only [hp]
    split
    · rename_i h2 _
      cases h2
      unfold storeRow
      split <;> first | rfl | (rename_i h3 _ _ _; cases h3) | simp_all
    · rfl
  unfold stepOpW
  rw [hn]
  split
  · rename_i h2; cases h2
  · exact hc
theorem execSeq_ok (hctr : CtrOk P ctr) {Q : Exit → Act → World → Prop} : ∀ {l : List Oper} {i : Nat} {σ σ' : St} {sc sc' : List Bool} {ob : List Prop} {β : Nat → Nat} {a : Act} {w : World}, (∀ j, l[j]? = ops[i + j]?) → execSeq P ctr ops l i σ sc = some (σ', ob, sc') → All ob →
    Sat w0 S σ β a w → (∀ β' a' w', Sat w0 S σ' β' a' w' → Q .normal a' w') → wpOps P ops Q (List.range' i l.length) a w := by
  intro l
  induction l with
  | nil =>
    intro i σ σ' sc sc' ob β a w _ h _ hS hk
    simp only [execSeq] at h
    cases h
    simp only [List.length_nil, List.range'_zero, wpOps]
    exact hk β a w hS
  | cons o r ih =>
    intro i σ σ' sc sc' ob β a w hl h hob hS hk
    simp only [execSeq] at h
    split at h
    · rename_i σ1 ob1 sc1 hst
      split at h
      · rename_i σ2 ob2 sc2 hr
        cases h
        obtain ⟨ho1, ho2⟩ := All.append.1 hob
        rw [List.length_cons, List.range'_succ, wpOps_cons]
        refine stepOpW_ok hctr hst ho1 (by simpa using (hl 0).symm) hS fun β' a' w' hS' => ?_
        exact ih (fun j => by have := hl (j + 1); simpa [Nat.add_assoc, Nat.add_comm 1 j] using this) hr ho2 hS' hk
      · cases h
    · cases h
end
end Go.Eng

namespace Go.Eng
open Go.RowKit
section
variable {P : Program} {ops : Array Oper} {Q : Exit → Act → World → Prop} {md : Region.Mode} {C : Array Bool → World → Prop}
def wpAnyL (P : Program) (md : Region.Mode) (ops : Array Oper) (Q : Exit → Act → World → Prop) (C : Array Bool → World → Prop) : Nat → Array Bool → Act → World → Prop
  | 0, listed, a, w => Region.ready md ops listed = [] ∧ Q .normal a w
  | fuel + 1, listed, a, w =>
    (Region.ready md ops listed = [] → Q .normal a w) ∧
    ∀ i ∈ Region.ready md ops listed, wpOp P ops Q i (fun a' w' => C (listed.setIfInBounds i true) w' ∧ wpAnyL P md ops Q C fuel (listed.setIfInBounds i true) a' w') a w
theorem wpAny_of_L : ∀ (fuel : Nat) (listed : Array Bool) (a : Act) (w : World), wpAnyL P md ops Q C fuel listed a w → wpAny P md ops Q fuel listed a w
  | 0, _, _, _, h => h
  | fuel + 1, _, _, _, h => ⟨h.1, fun i hi => wpOp_mono (fun a' w' h' => wpAny_of_L fuel _ a' w' h'.2) (h.2 i hi)⟩
theorem wpAnyL_first {i : Nat} {oi : Oper} {v : Value} {S : World → Prop} {good : Array Bool → Prop} (hi : ops[i]? = some oi) (hsel : ∀ (j : Nat) (o : Oper) cs b, ops[j]? = some o → o.op ≠ .select cs b)
    (hQ : ∀ c a w, Q (.panic c) (a.put oi.dst v) w → Q (.panic c) a w)
    (hC2 : ∀ (L : Array Bool) (j : Nat) (w : World), C ((L.setIfInBounds i true).setIfInBounds j true) w → C (L.setIfInBounds j true) w) (hC3 : ∀ (L : Array Bool) (w : World), C L w → C (L.setIfInBounds i true) w)
    (hgood : ∀ (L : Array Bool) (j : Nat), good L → L.getD i true = false → j ∈ Region.ready md ops L → j ≠ i → good (L.setIfInBounds j true))
    (hSg : ∀ L w, C L w → good L → S w) :
    ∀ (fuel : Nat) (listed : Array Bool) (a : Act) (w : World),
      (∀ j oj, ops[j]? = some oj → j ≠ i → listed.getD j true = false → (∀ e ∈ oj.after, Region.binds md e = true → e.on ≠ i) → oi.apart ops oj = true) →
      i ∈ Region.ready md ops listed → YieldsIf P ops S oi v a → C listed w → good listed →
      wpAnyL P md ops Q C fuel (listed.setIfInBounds i true) (a.put oi.dst v) w → wpAnyL P md ops Q C (fuel + 1) listed a w := by
  intro fuel
  induction fuel with
  | zero =>
    intro listed a w _ hr hy hC hg H
    refine ⟨fun h => (by rw [h] at hr; cases hr), fun j hj => ?_⟩
    by_cases hji : j = i
    · subst hji; exact hy.wpOp hi (hSg _ _ hC hg) ⟨hC3 _ _ hC, H⟩
    · have := ready_mono hj hji
      rw [H.1] at this
      cases this
  | succ fuel ih =>
    intro listed a w hfree hr hy hC hg H
    refine ⟨fun h => (by rw [h] at hr; cases hr), fun j hj => ?_⟩
    by_cases hji : j = i
    · subst hji; exact hy.wpOp hi (hSg _ _ hC hg) ⟨hC3 _ _ hC, H⟩
    · have h1 := H.2 j (ready_mono hj hji)
      obtain ⟨hjun, oj, hoj, hall⟩ := mem_ready.1 hj
      have hnot : ∀ e ∈ oj.after, Region.binds md e = true → e.on ≠ i := fun e he hb heq => by
        have h1 := hall e he hb
        have h0 := (mem_ready.1 hr).1
        rw [heq] at h1
        rcases Nat.lt_or_ge i listed.size with h' | h'
        · simp [h'] at h0 h1; rw [h0] at h1; cases h1
        · simp [Array.getElem?_eq_none h'] at h1
      have h2 := wpOp_putIf hoj (hfree j oj hoj hji hjun hnot) (fun cs b => hsel i oi cs b hi) (fun cs b => hsel j oj cs b hoj) hQ hy h1
      have hfree' : ∀ k ok, ops[k]? = some ok → k ≠ i → (listed.setIfInBounds j true).getD k true = false →
          (∀ e ∈ ok.after, Region.binds md e = true → e.on ≠ i) → oi.apart ops ok = true := fun k ok hk hki hun hno => by
        refine hfree k ok hk hki ?_ hno
        by_cases hjk : j = k
        · subst hjk; exact hjun
        · rw [getD_set_ne true hjk] at hun; exact hun
      refine wpOp_mono (fun a' w' h3 => ⟨hC2 _ _ _ h3.2.1, ih (listed.setIfInBounds j true) a' w' hfree' (ready_mono hr (Ne.symm hji)) h3.1 (hC2 _ _ _ h3.2.1) (hgood listed j hg (mem_ready.1 hr).1 hj hji) ?_⟩) h2
      rw [Array.setIfInBounds_comm _ _ hji]
      exact h3.2.2
def wpTail (P : Program) (ops : Array Oper) (Q : Exit → Act → World → Prop) (C : Array Bool → World → Prop) : Nat → Nat → Act → World → Prop
  | 0, _, a, w => Q .normal a w
  | f + 1, k, a, w => wpOp P ops Q k (fun a' w' => C (heads ops (k + 1)) w' ∧ wpTail P ops Q C f (k + 1) a' w') a w
theorem tail_anyL : ∀ (f k : Nat) (a : Act) (w : World), f + k = ops.size → tailB ops f k = true → wpTail P ops Q C f k a w → wpAnyL P .any ops Q C f (heads ops k) a w := by
  intro f
  induction f with
  | zero =>
    intro k a w _ hB h
    simp only [tailB, List.isEmpty_iff] at hB
    exact ⟨hB, h⟩
  | succ f ih =>
    intro k a w hk hB h
    simp only [tailB, Bool.and_eq_true, beq_iff_eq] at hB
    refine ⟨fun h0 => (by rw [hB.1] at h0; cases h0), fun i hi => ?_⟩
    rw [hB.1] at hi
    have e : i = k := by simpa using hi
    subst e
    refine wpOp_mono (fun a' w' h' => ?_) h
    rw [heads_set (by omega)]
    exact ⟨h'.1, ih (i + 1) a' w' (by omega) hB.2 h'.2⟩
def waits (ops : Array Oper) (s i : Nat) : Bool := match ops[s]? with | some o => o.after.any (fun e => Region.binds .any e && e.on == i) | none => false
variable {n : Nat} {late : Nat → Bool} {T : Nat → Nat → Nat → Value → World → Prop} {G : World → Prop} {a₀ : Act} {w₀ : World}
theorem flow_anyL (hF : FlowOk ops n a₀.tmps.size late)
    (hG : ∀ w w', G w → Ext w w' → G w') (hT : ∀ i lo hi v w w', T i lo hi v w → Ext w w' → T i lo hi v w')
    (hQ : ∀ c a w, ¬ Q (.panic c) a w)
    (hCx : ∀ L w, Ext w₀ w → C L w) (hCn : ∀ L L' w, (∀ s, n ≤ s → L.getD s false = L'.getD s false) → C L w → C L' w)
    (hstep : ∀ i o, i < n → late i = false → ops[i]? = some o → ∀ a w iv, G w → Ext w₀ w → (∀ t ∈ o.looksAt ops, OpdOk T a₀ a w iv (lastW ops i t) t) →
      ∀ K : Act → World → Prop, (∀ v w', Ext w w' → T i w.heap.size w'.heap.size v w' → K (a.put o.dst v) w') → wpOp P ops Q i K a w)
    (hlate : ∀ i o, i < n → late i = true → ops[i]? = some o → ∀ a w iv, G w → Ext w₀ w → (∀ t ∈ o.looksAt ops, OpdOk T a₀ a w iv (lastW ops i t) t) →
      ∃ v S, YieldsIf P ops S o v a ∧ (∀ lo, T i lo lo v w) ∧ ∀ L w', C L w' → (∀ s, n ≤ s → waits ops s i = true → L.getD s false = false) → S w')
    (hfin : ∀ a w iv, Inv ops n T G a₀ w₀ (heads ops n) a w iv → wpAnyL P .any ops Q C (ops.size - n) (heads ops n) a w) :
    ∀ (fuel : Nat) (L : Array Bool) (a : Act) (w : World) (iv : Nat → Nat × Nat), left L = fuel → Inv ops n T G a₀ w₀ L a w iv → wpAnyL P .any ops Q C fuel L a w := by
  intro fuel
  induction fuel with
  | zero =>
    intro L a w iv hf h
    have hnone : ∀ i, i < L.size → L.getD i false = true := by
      intro i hi
      unfold left at hf
      rw [List.countP_eq_zero] at hf
      have := hf L[i] (by simp)
      simp [hi] at this ⊢; exact this
    have hall : ∀ i, i < n → L.getD i false = true := fun i hi => hnone i (by rw [h.size]; exact Nat.lt_of_lt_of_le hi hF.le)
    have hn : ops.size = n := by
      rcases Nat.lt_or_ge n ops.size with hlt | hge
      · have := h.head n (hnone n (by rw [h.size]; exact hlt)); omega
      · have := hF.le; omega
    have e := eq_heads h hall
    subst e
    have := hfin a w iv h
    rw [show ops.size - n = 0 by omega] at this
    exact this
  | succ fuel ih =>
    intro L a w iv hf h
    by_cases hex : ∃ i, i < n ∧ late i = true ∧ i ∈ Region.ready .any ops L
    · obtain ⟨i, hi, hl, hr⟩ := hex
      obtain ⟨hun, o, ho, hall⟩ := mem_ready.1 hr
      have hsz : i < L.size := by rw [h.size]; exact (Array.getElem?_eq_some_iff.1 ho).1
      obtain ⟨v, S, hy, hv, hSC⟩ := hlate i o hi hl ho a w iv h.good h.ext (h.look hF hi ho hr)
      refine wpAnyL_first (S := S) (good := fun L => ∀ s, n ≤ s → waits ops s i = true → L.getD s false = false) ho (Region.noSelect_spec hF.sel) (fun c a w hh => absurd hh (hQ c _ w)) ?_ ?_ ?_ hSC fuel L a w ?_ hr hy (hCx _ _ h.ext) ?_ ?_
      · intro L j w hc
        refine hCn _ _ _ (fun s hs => ?_) hc
        have hne : i ≠ s := by omega
        by_cases hjs : j = s
        · subst hjs
          simp only [Array.getD_eq_getD_getElem?]
          rw [Array.getElem?_setIfInBounds_self, Array.getElem?_setIfInBounds_self]
          simp
        · simp only [Array.getD_eq_getD_getElem?]
          rw [Array.getElem?_setIfInBounds_ne hjs, Array.getElem?_setIfInBounds_ne hjs, Array.getElem?_setIfInBounds_ne hne]
      · intro L w hc
        refine hCn _ _ _ (fun s hs => ?_) hc
        have hne : i ≠ s := by omega
        rw [getD_set_ne false hne]
      · intro L j hg hun' hj hji s hs hw
        by_cases hjs : j = s
        · subst hjs
          exfalso
          obtain ⟨_, oj, hoj, hallj⟩ := mem_ready.1 hj
          simp only [waits, hoj, Array.any_eq_true', Bool.and_eq_true, beq_iff_eq] at hw
          obtain ⟨e, he, hb, hon⟩ := hw
          have h1 := hallj e he hb
          rw [hon] at h1
          simp only [Array.getD_eq_getD_getElem?] at h1 hun'
          cases hL : L[i]? with
          | none => rw [hL] at h1; cases h1
          | some x => rw [hL] at h1 hun'; simp at h1 hun'; rw [h1] at hun'; cases hun'
        · rw [getD_set_ne false hjs]; exact hg s hs hw
      · intro j oj hoj hne hunj hno
        rcases hF.lateOk i o hi hl ho j oj hne hoj with h1 | ⟨e, he, hb, hon⟩ | h1
        · have := ready_anc h.down hr h1
          have hjs : j < L.size := by rw [h.size]; exact (Array.getElem?_eq_some_iff.1 hoj).1
          simp [hjs] at this hunj
          rw [this] at hunj; cases hunj
        · exact absurd hon (hno e he hb)
        · exact h1
      · intro s hs _
        cases hb : L.getD s false with
        | false => rfl
        | true => have := h.head s hb; omega
      · have hst := h.step hF hG hT hi ho hr (Ext.refl w) (hv _)
        exact ih _ _ _ _ (by have := left_set hsz hun; omega) hst
    · refine ⟨fun hnil => ?_, fun i hr => ?_⟩
      · have hall := all_heads hF h (fun i hi hl hr => hex ⟨i, hi, hl, hr⟩) (fun i _ _ hr => by rw [hnil] at hr; cases hr)
        have e := eq_heads h hall
        subst e
        have h1 := hfin a w iv h
        cases hk : ops.size - n with
        | zero => rw [hk] at h1; exact h1.2
        | succ k => rw [hk] at h1; exact h1.1 hnil
      · obtain ⟨hun, o, ho, hall⟩ := mem_ready.1 hr
        have hsz : i < L.size := by rw [h.size]; exact (Array.getElem?_eq_some_iff.1 ho).1
        by_cases hi : i < n
        · have hl : late i = false := by
            cases hl : late i with
            | false => rfl
            | true => exact absurd ⟨i, hi, hl, hr⟩ hex
          refine hstep i o hi hl ho a w iv h.good h.ext (h.look hF hi ho hr) _ fun v w' hx hv => ?_
          exact ⟨hCx _ _ (h.ext.trans hx), ih _ _ _ _ (by have := left_set hsz hun; omega) (h.step hF hG hT hi ho hr hx hv)⟩
        · have hall := all_heads hF h (fun j hj hl hr => hex ⟨j, hj, hl, hr⟩) (fun j hj hl _ =>
            ready_anc h.down hr (hF.tail j i hj hl (by omega) (by rw [← h.size]; exact hsz)))
          have e := eq_heads h hall
          have hk : ops.size - n = fuel + 1 := by
            have h1 : left (heads ops n) = ops.size - n := by
              unfold left heads
              have hgen : ∀ N : Nat, List.countP (fun b => !b) ((List.range N).map fun i => decide (i < n)) = N - n := by
                intro N
                induction N with
                | zero => simp
                | succ N ihN =>
                  rw [List.range_succ, List.map_append, List.countP_append, ihN]
                  by_cases hN : N < n <;> simp [hN] <;> omega
              simpa using hgen ops.size
            rw [← h1, ← e]; exact hf
          subst e
          have h1 := hfin a w iv h
          rw [hk] at h1
          exact h1.2 i hr
theorem flow_regionL {id : Nat} (hm : P.follows .mixedOrders = true) (hB : flowB ops n a₀.tmps.size late = true) (htail : tailB ops (ops.size - n) n = true)
    (hG : ∀ w w', G w → Ext w w' → G w') (hT : ∀ i lo hi v w w', T i lo hi v w → Ext w w' → T i lo hi v w')
    (hQ : ∀ c a w, ¬ Q (.panic c) a w) (h0 : G w₀)
    (hCx : ∀ L w, Ext w₀ w → C L w) (hCn : ∀ L L' w, (∀ s, n ≤ s → L.getD s false = L'.getD s false) → C L w → C L' w)
    (hstep : ∀ i o, i < n → late i = false → ops[i]? = some o → ∀ a w iv, G w → Ext w₀ w → (∀ t ∈ o.looksAt ops, OpdOk T a₀ a w iv (lastW ops i t) t) →
      ∀ K : Act → World → Prop, (∀ v w', Ext w w' → T i w.heap.size w'.heap.size v w' → K (a.put o.dst v) w') → wpOp P ops Q i K a w)
    (hlate : ∀ i o, i < n → late i = true → ops[i]? = some o → ∀ a w iv, G w → Ext w₀ w → (∀ t ∈ o.looksAt ops, OpdOk T a₀ a w iv (lastW ops i t) t) →
      ∃ v S, YieldsIf P ops S o v a ∧ (∀ lo, T i lo lo v w) ∧ ∀ L w', C L w' → (∀ s, n ≤ s → waits ops s i = true → L.getD s false = false) → S w')
    (hfin : ∀ a w iv, Inv ops n T G a₀ w₀ (heads ops n) a w iv → wpTail P ops Q C (ops.size - n) n a w) :
    (Code.region id ops true).wp P Q a₀ w₀ := by
  have hF := flowOk_of hB
  refine wp_region_any hm (wpAny_of_L (C := C) _ _ _ _ ?_)
  have hsz : ({ w₀ with drawn := w₀.drawn + 1 } : World).heap = w₀.heap := rfl
  have hx : Ext w₀ { w₀ with drawn := w₀.drawn + 1 } := ⟨rfl, rfl, rfl, Nat.le_refl _, fun _ _ => rfl⟩
  have hrep : left (Array.replicate ops.size false) = ops.size := by simp [left, List.countP_replicate]
  have hno : ∀ i, ¬ (Array.replicate ops.size false).getD i false = true := by
    intro i
    rcases Nat.lt_or_ge i ops.size with h | h <;> simp [h]
  have hlast : ∀ m t, lastL ops (Array.replicate ops.size false) m t = none := by
    intro m t
    induction m with
    | zero => rfl
    | succ m ih => rw [show lastL ops (Array.replicate ops.size false) (m + 1) t = lastL ops (Array.replicate ops.size false) m t from if_neg fun hh => hno m hh.1]; exact ih
  refine flow_anyL (T := T) (G := G) (w₀ := w₀) hF hG hT hQ hCx hCn hstep hlate (fun a w iv hI => ?_) ops.size _ a₀ _ (fun _ => (0, 0)) hrep ?_
  · exact tail_anyL _ _ _ _ (by have := hF.le; omega) htail (hfin a w iv hI)
  · refine ⟨by simp, fun i o ho hi => absurd hi (hno i), fun i hi => absurd hi (hno i), hG _ _ h0 hx, hx, rfl, rfl, fun t => ?_, fun i hi => absurd hi (hno i), fun i j hi => absurd hi (hno i)⟩
    rw [hlast]
    exact rfl
end
end Go.Eng

namespace Go.Eng
open Go.RowKit
inductive HX where
  | hr (r : HR)
  | skip
def lookR (ops : Array Oper) (o : Oper) (slots : List (Nat × SV)) : Operand → Option SV
  | .tmp t => if (o.looksAt ops).contains t then getS slots t else none
  | x => lookρ slots x
def evalD (P : Program) (ctr : Ctr) (H : List (Nat × Bk)) (ops : Array Oper) (ρ : Operand → Option SV) (o : Oper) : Option (HR × List Prop) :=
  match (if stored ops o.dst = true then rowPtrR P ρ o else none) with
  | some (r, ob) => some (.val r, ob)
  | none => evalR P ctr H ρ o
theorem evalD_ok {P : Program} {β : Nat → Nat} {ow : Own} {w : World} {ctr : Ctr} (hctr : CtrOk P ctr) {H : List (Nat × Bk)} {ops : Array Oper} {ρ : Operand → Option SV} {o : Oper} {r : HR} {ob : List Prop} (h : evalD P ctr H ops ρ o = some (r, ob)) (hob : All ob)
    {a : Act} (hρ : ∀ x s, ρ x = some s → relV β ow w s (a.eval x)) (hH : HSat β ow w H) (hown : ∀ b j, ow b j → b < w.heap.size)
    {K : Act → World → Prop} {Q : Exit → Act → World → Prop} (hk : ∀ v w', Ext w w' → HRsat β ow w w' v r → K (a.put o.dst v) w') : o.wp P a w K Q := by
  unfold evalD at h
  split at h
  · rename_i r' ob' hr
    cases h
    split at hr
    · exact rowPtrR_ok hρ hr hob fun v hv => hk v w (Ext.refl w) ⟨rfl, hv⟩
    · cases hr
  · exact evalR_ok hctr h hob hρ hH hown hk
theorem evalD_eq {P : Program} {ctr : Ctr} {H : List (Nat × Bk)} {ops : Array Oper} {ρ : Operand → Option SV} {o : Oper} (h : ∀ t x i, o.op ≠ .indexAddr t x i) : evalD P ctr H ops ρ o = evalR P ctr H ρ o := by
  have hn : rowPtrR P ρ o = none := by
    unfold rowPtrR
    split
    · rename_i t x i hop; exact absurd hop (h t x i)
    · rfl
  unfold evalD
  rw [hn]
  simp
def newSlot (ops : Array Oper) (pre : List HX) (i : Nat) : List Nat → Option (Nat × TypeId × List SV × Nat × Nat)
  | [] => none
  | t :: r => match lastW ops i t with
    | some j => (match pre[j]? with
      | some (.hr (.new ty segs (some (n, es)))) => some (t, ty, segs, n, es)
      | _ => newSlot ops pre i r)
    | none => newSlot ops pre i r
theorem newSlot_ok {ops : Array Oper} {pre : List HX} {i t n es : Nat} {ty : TypeId} {segs : List SV} : ∀ {l : List Nat}, newSlot ops pre i l = some (t, ty, segs, n, es) → t ∈ l ∧ ∃ j, lastW ops i t = some j ∧ pre[j]? = some (.hr (.new ty segs (some (n, es)))) := by
  intro l
  induction l with
  | nil => intro h; simp [newSlot] at h
  | cons u r ih =>
    intro h
    simp only [newSlot] at h
    split at h
    · rename_i j hj
      split at h
      · rename_i ty' segs' n' es' hp
        simp only [Option.some.injEq, Prod.mk.injEq] at h
        obtain ⟨rfl, rfl, rfl, rfl, rfl⟩ := h
        exact ⟨by simp, j, hj, hp⟩
      · obtain ⟨h1, h2⟩ := ih h; exact ⟨List.mem_cons_of_mem _ h1, h2⟩
    · obtain ⟨h1, h2⟩ := ih h; exact ⟨List.mem_cons_of_mem _ h1, h2⟩
def lowS (nx : Nat) (s : Option SV) : Option SV := match s with
  | some s => if s.ids.all (fun id => decide (id < nx)) then some s else none
  | none => none
def lookN (t nx n es : Nat) (ρ : Operand → Option SV) : Operand → Option SV
  | .tmp u => if u = t then some (newSV (some (n, es)) nx) else lowS nx (ρ (.tmp u))
  | y => lowS nx (ρ y)
def evalC (P : Program) (ctr : Ctr) (H : List (Nat × Bk)) (ops : Array Oper) (pre : List HX) (nx : Nat) (slots : List (Nat × SV)) (i : Nat) (o : Oper) : Option (SV × List Prop) :=
  match newSlot ops pre i (o.looksAt ops) with
  | some (t, ty, segs, n, es) =>
    if (idss segs).all (fun id => decide (id < nx)) then
      match evalR P ctr ((nx, ⟨ty, segs, false⟩) :: H.filter fun p => !p.2.row && decide (p.1 < nx) && (idss p.2.segs).all (fun id => decide (id < nx))) (lookN t nx n es (lookR ops o slots)) o with
      | some (.call s, ob) => if s.noSl && s.ids.isEmpty then some (s, ob) else none
      | _ => none
    else none
  | none => none
theorem lowS_ok {nx : Nat} {s : Option SV} {r : SV} (h : lowS nx s = some r) : s = some r ∧ ∀ id ∈ r.ids, id < nx := by
  unfold lowS at h
  split at h
  · split at h
    · rename_i hc
      cases h
      exact ⟨rfl, fun id hi => by simpa using List.all_eq_true.1 hc id hi⟩
    · cases h
  · cases h
theorem evalC_ok {P : Program} {β : Nat → Nat} {ow : Own} {w : World} {ctr : Ctr} (hctr : CtrOk P ctr) {H : List (Nat × Bk)} {ops : Array Oper} {pre : List HX} {nx : Nat} {slots : List (Nat × SV)} {i : Nat} {o : Oper} {s : SV} {ob : List Prop}
    (h : evalC P ctr H ops pre nx slots i o = some (s, ob)) (hob : All ob) {a : Act}
    (hρ : ∀ y s, lookR ops o slots y = some s → relV β ow w s (a.eval y))
    (hnew : ∀ t j ty segs n es, t ∈ o.looksAt ops → lastW ops i t = some j → pre[j]? = some (.hr (.new ty segs (some (n, es)))) →
      ∃ g cs, rels β ow w segs cs ∧ w.heap[g]? = some (.cells cs.toArray ty (0, 0)) ∧ ∀ (β' : Nat → Nat) (id : Nat), β' id = g → relV β' (fun _ _ => False) w (newSV (some (n, es)) id) (a.tmps.getD t undef))
    (hH : HSat β ow w H) (hown : ∀ b j, ow b j → b < w.heap.size)
    {K : Act → World → Prop} {Q : Exit → Act → World → Prop} (hk : ∀ v w', Ext w w' → relV β ow w' s v → K (a.put o.dst v) w') : o.wp P a w K Q := by
  unfold evalC at h
  split at h
  · rename_i t ty segs n es hns
    split at h
    · rename_i hsg
      split at h
      · rename_i s' ob' hev
        split at h
        · rename_i hc
          simp only [Option.some.injEq, Prod.mk.injEq] at h
          obtain ⟨rfl, rfl⟩ := h
          obtain ⟨ht, j, hl, hp⟩ := newSlot_ok hns
          obtain ⟨g, cs, hr, hg, hv⟩ := hnew t j ty segs n es ht hl hp
          have hβ : ∀ id, id < nx → (fun id => if id = nx then g else β id) id = β id := fun id hi => by simp only; rw [if_neg (by omega)]
          have hnx : (fun id => if id = nx then g else β id) nx = g := by simp
          have hall : ∀ {l : List Nat}, l.all (fun id => decide (id < nx)) = true → ∀ id ∈ l, id < nx := fun hl id hi => by simpa using List.all_eq_true.1 hl id hi
          simp only [Bool.and_eq_true, List.isEmpty_iff] at hc
          refine evalR_ok (β := fun id => if id = nx then g else β id) (ow := ow) hctr hev hob ?_ ?_ hown fun v w' _ hs => hk v w' hs.1 (relV_mono (fun _ _ _ h => h) (Keep.refl _ _) (fun id hi => by rw [hc.2] at hi; cases hi) hs.2)
          · intro y r hy
            have low : ∀ y, lowS nx (lookR ops o slots y) = some r → relV (fun id => if id = nx then g else β id) ow w r (a.eval y) := fun y hy => by
              obtain ⟨h1, h2⟩ := lowS_ok hy
              exact relV_mono (fun _ _ _ h => h) (Keep.refl _ _) (fun id hi => hβ id (h2 id hi)) (hρ y r h1)
            cases y with
            | tmp u =>
              simp only [lookN] at hy
              split at hy
              · rename_i hu
                subst hu
                cases hy
                obtain ⟨c1, h6, e⟩ := relV_one rfl (hv (fun id => if id = nx then g else β id) nx hnx)
                refine relV_up ⟨c1, ?_, e⟩
                simp only [newSV, rel] at h6 ⊢
                exact h6
              · exact low _ hy
            | const v => exact low _ hy
            | global g => exact low _ hy
            | func f => exact low _ hy
          · intro id bk hm
            rcases List.mem_cons.1 hm with e | hm
            · cases e
              refine ⟨fun _ => ⟨cs, rels_mono (fun _ _ _ h => h) (Keep.refl _ _) _ _ (fun id hi => hβ id (hall hsg id hi)) hr, by rw [hnx]; exact hg⟩, fun h => by cases h⟩
            · obtain ⟨hm, hf⟩ := List.mem_filter.1 hm
              simp only [Bool.and_eq_true, decide_eq_true_eq, Bool.not_eq_true'] at hf
              obtain ⟨⟨f1, f2⟩, f3⟩ := hf
              refine ⟨fun hrow => ?_, fun h => by rw [f1] at h; cases h⟩
              obtain ⟨cs', h1, h2⟩ := (hH id bk hm).1 hrow
              exact ⟨cs', rels_mono (fun _ _ _ h => h) (Keep.refl _ _) _ _ (fun id hi => hβ id (hall f3 id hi)) h1, by rw [hβ id f2]; exact h2⟩
        · cases h
      · cases h
    · cases h
  · cases h
def headStep (P : Program) (ctr : Ctr) (H : List (Nat × Bk)) (ops : Array Oper) (hasNew : Bool) (nx : Nat) (pre : List HX) (slots : List (Nat × SV)) (i : Nat) (o : Oper) (sc : List Bool) : Option (HX × List Prop × List Bool) :=
  match guardOf ops slots o with
  | none => none
  | some false => some (.hr (.val (.tup [])), [], sc)
  | some true => match evalD P ctr H ops (lookR ops o slots) o with
    | some (.val s, ob) => match resolveB (isGuard ops i) s sc with
      | some (s', ob2, sc') => some (.hr (.val s'), ob ++ ob2, sc')
      | none => none
    | some (.call s, ob) => if hasNew && !s.noSl then none else match resolveB (isGuard ops i) s sc with
      | some (s', ob2, sc') => some (.hr (.call s'), ob ++ ob2, sc')
      | none => none
    | some (.new ty segs kind, ob) => if hasNew then some (.hr (.new ty segs kind), ob, sc) else none
    | none => match evalC P ctr H ops pre nx slots i o with
      | some (s, ob) => match resolveB (isGuard ops i) s sc with
        | some (s', ob2, sc') => some (.hr (.call s'), ob ++ ob2, sc')
        | none => none
      | none => none
def upd (slots : List (Nat × SV)) (dst : Option Nat) (x : HX) : List (Nat × SV) :=
  match dst with
  | none => slots
  | some d => match x with
    | .hr (.val s) => (d, s) :: delS slots d
    | .hr (.call s) => (d, s) :: delS slots d
    | .hr (.new _ _ (some (n, _))) => (d, .osz n) :: delS slots d
    | _ => delS slots d
def execHead (P : Program) (ctr : Ctr) (H : List (Nat × Bk)) (ops : Array Oper) (hasNew : Bool) (nx : Nat) : List HX → List Oper → Nat → List (Nat × SV) → List Bool → Option (List HX × List Prop × List Bool × List (Nat × SV))
  | _, [], _, slots, sc => some ([], [], sc, slots)
  | pre, o :: r, i, slots, sc => match headStep P ctr H ops hasNew nx pre slots i o sc with
    | some (x, ob1, sc1) => match execHead P ctr H ops hasNew nx (pre ++ [x]) r (i + 1) (upd slots o.dst x) sc1 with
      | some (xs, ob2, sc2, sl) => some (x :: xs, ob1 ++ ob2, sc2, sl)
      | none => none
    | none => none
def gam (ops : Array Oper) (rs : List HX) (slots0 : List (Nat × SV)) : Nat → List (Nat × SV)
  | 0 => slots0
  | i + 1 => upd (gam ops rs slots0 i) (dstOf ops i) (rs.getD i .skip)
section
variable {P : Program} {ctr : Ctr} {ops : Array Oper} {H : List (Nat × Bk)} {hasNew : Bool}
theorem gam_mem {rs : List HX} {slots0 : List (Nat × SV)} : ∀ {i d : Nat} {s : SV}, i ≤ rs.length → (d, s) ∈ gam ops rs slots0 i →
    (lastW ops i d = none ∧ (d, s) ∈ slots0) ∨ ∃ j, j < i ∧ lastW ops i d = some j ∧ (rs[j]? = some (.hr (.val s)) ∨ rs[j]? = some (.hr (.call s)) ∨ ∃ ty segs n es, rs[j]? = some (.hr (.new ty segs (some (n, es)))) ∧ s = .osz n) := by
  intro i
  induction i with
  | zero => intro d s _ h; exact .inl ⟨rfl, h⟩
  | succ i ih =>
    intro d s hi h
    simp only [gam] at h
    have hx : rs[i]? = some (rs.getD i .skip) := by
      have : i < rs.length := by omega
      simp [this]
    have other : dstOf ops i ≠ some d → (d, s) ∈ gam ops rs slots0 i → (lastW ops (i + 1) d = none ∧ (d, s) ∈ slots0) ∨ ∃ j, j < i + 1 ∧ lastW ops (i + 1) d = some j ∧ (rs[j]? = some (.hr (.val s)) ∨ rs[j]? = some (.hr (.call s)) ∨ ∃ ty segs n es, rs[j]? = some (.hr (.new ty segs (some (n, es)))) ∧ s = .osz n) := by
      intro hne hm
      have e : lastW ops (i + 1) d = lastW ops i d := by simp [lastW, hne]
      rw [e]
      rcases ih (by omega) hm with h1 | ⟨j, hj, h1⟩
      · exact .inl h1
      · exact .inr ⟨j, by omega, h1⟩
    unfold upd at h
    split at h
    · rename_i hd
      exact other (by rw [hd]; simp) h
    · rename_i e hd
      have del : (d, s) ∈ delS (gam ops rs slots0 i) e → _ := fun hm => by
        obtain ⟨hm, hne⟩ := mem_delS hm
        exact other (by rw [hd]; intro he; exact hne (by injection he with he; exact he.symm)) hm
      split at h
      · rename_i s' hs'
        rcases List.mem_cons.1 h with e1 | hm
        · cases e1
          exact .inr ⟨i, by omega, by simp [lastW, hd], .inl (by rw [hx, hs'])⟩
        · exact del hm
      · rename_i s' hs'
        rcases List.mem_cons.1 h with e1 | hm
        · cases e1
          exact .inr ⟨i, by omega, by simp [lastW, hd], .inr (.inl (by rw [hx, hs']))⟩
        · exact del hm
      · rename_i ty segs n es hs'
        rcases List.mem_cons.1 h with e1 | hm
        · cases e1
          exact .inr ⟨i, by omega, by simp [lastW, hd], .inr (.inr ⟨ty, segs, n, es, by rw [hx, hs'], rfl⟩)⟩
        · exact del hm
      · exact del h
theorem execHead_steps {nx : Nat} {rs : List HX} {slots0 : List (Nat × SV)} : ∀ {l : List Oper} {i : Nat} {sc sc' : List Bool} {xs : List HX} {ob : List Prop} {sl : List (Nat × SV)}, (∀ j, j < l.length → l[j]? = ops[i + j]?) →
    execHead P ctr H ops hasNew nx (rs.take i) l i (gam ops rs slots0 i) sc = some (xs, ob, sc', sl) → (∀ j, j < xs.length → rs[i + j]? = xs[j]?) → All ob →
    xs.length = l.length ∧ sl = gam ops rs slots0 (i + l.length) ∧ ∀ j o, i ≤ j → j < i + l.length → ops[j]? = some o → ∃ sc1 sc2 ob1 x, headStep P ctr H ops hasNew nx (rs.take j) (gam ops rs slots0 j) j o sc1 = some (x, ob1, sc2) ∧ All ob1 ∧ rs[j]? = some x := by
  intro l
  induction l with
  | nil =>
    intro i sc sc' xs ob sl _ h _ _
    simp only [execHead] at h
    cases h
    exact ⟨rfl, rfl, fun j o h1 h2 => by simp at h2; omega⟩
  | cons o r ih =>
    intro i sc sc' xs ob sl hl h hrs hob
    simp only [execHead] at h
    split at h
    · rename_i x ob1 sc1 hst
      split at h
      · rename_i xs' ob2 sc2 sl' hr
        cases h
        obtain ⟨ho1, ho2⟩ := All.append.1 hob
        have hx : rs[i]? = some x := by have := hrs 0 (by simp); simpa using this
        have hoi : ops[i]? = some o := by have := hl 0 (by simp); simpa using this.symm
        have hg : upd (gam ops rs slots0 i) o.dst x = gam ops rs slots0 (i + 1) := by
          simp only [gam, dstOf, hoi, Option.bind_some]
          congr 1
          rw [List.getD_eq_getElem?_getD, hx]; rfl
        rw [hg, show rs.take i ++ [x] = rs.take (i + 1) by rw [List.take_add_one, hx]; rfl] at hr
        obtain ⟨h1, h2, h3⟩ := ih (i := i + 1) (fun j hj => by have := hl (j + 1) (by simp; omega); simpa [Nat.add_assoc, Nat.add_comm 1 j] using this) hr
          (fun j hj => by have := hrs (j + 1) (by simp; omega); simpa [Nat.add_assoc, Nat.add_comm 1 j] using this) ho2
        refine ⟨by simp [h1], by rw [h2]; congr 1; simp; omega, fun j oj hj1 hj2 hoj => ?_⟩
        by_cases e : j = i
        · subst e
          rw [hoi] at hoj
          cases hoj
          exact ⟨_, _, _, _, hst, ho1, hx⟩
        · exact h3 j oj (by omega) (by simp at hj2; omega) hoj
      · cases h
    · cases h
end
def addNews (ops : Array Oper) (n nx : Nat) : List HX → Nat → St → Option St
  | [], _, σ => some σ
  | .hr (.new ty segs kind) :: r, i, σ => match dstOf ops i with
    | some d => if lastW ops n d = some i ∧ (idss segs).all (fun id => decide (id < nx)) = true then (match newS σ ty segs with
        | some σ1 => match putS σ1 (some d) (newSV kind σ.next) with
          | some σ2 => addNews ops n nx r (i + 1) σ2
          | none => none
        | none => none) else none
    | none => none
  | _ :: r, i, σ => addNews ops n nx r (i + 1) σ
def isStore (o : Oper) : Bool := match o.op with | .store .. => true | _ => false
def isNew (o : Oper) : Bool := match o.op with | .box .. => true | .alloc .. => true | .buildSlice .. => true | .makeSlice .. => true | _ => false
def headLen0 : List Oper → Nat
  | [] => 0
  | o :: r => if isStore o then 0 else headLen0 r + 1
def newDst (o : Oper) : Option Nat := match o.op with | .buildSlice .. => o.dst | .makeSlice .. => o.dst | _ => none
def assignsNew (ds : List Nat) (o : Oper) : Bool := match o.op with | .assign (.tmp t) => ds.contains t | _ => false
def headLenA : List Nat → List Oper → Nat
  | _, [] => 0
  | ds, o :: r => if isStore o || assignsNew ds o then 0 else headLenA (match newDst o with | some d => d :: ds | none => ds) r + 1
def headLen (l : List Oper) : Nat := if tailB l.toArray (l.length - headLenA [] l) (headLenA [] l) then headLenA [] l else headLen0 l
def pureOp (o : Oper) : Bool :=
  match o.guard, o.op with
  | none, .move _ => true
  | none, .assign _ => true
  | none, .extract _ _ => true
  | none, .build _ _ => true
  | _, _ => false
def lateOf (ops : Array Oper) (n : Nat) (i : Nat) : Bool :=
  !((List.range ops.size).all fun s => decide (s < n) || ((masks ops).getD s 0).testBit i)
def hxVal : HX → Bool
  | .hr (.val s) => s.noSl
  | _ => false
def idsOk (next : Nat) : List (Nat × SV) → Bool
  | [] => true
  | p :: r => p.2.ids.all (fun id => decide (id < next)) && idsOk next r
def lateLd (ops : Array Oper) (n : Nat) (σ : St) (i : Nat) : Option Nat :=
  match ops[i]? with
  | some o => match o.guard, o.op with
    | none, .load _ (.tmp p) => match lastW ops n p, getS σ.slots p with
      | none, some (.ptr id _ _) => match getB σ.blks id with | some _ => some id | none => none
      | _, _ => none
    | _, _ => none
  | none => none
def lateLds (ops : Array Oper) (n : Nat) (late : Nat → Bool) (σ : St) : List (Nat × Nat) :=
  (List.range n).filterMap fun i => if late i then (match lateLd ops n σ i with | some id => some (i, id) | none => none) else none
def plainStore (o : Oper) : Option Nat :=
  match o.dst, o.guard, o.op with
  | none, none, .store _ (.tmp q) _ => some q
  | _, _, _ => none
def tailOk (ops : Array Oper) (slots : List (Nat × SV)) (LL : List (Nat × Nat)) : List Oper → Nat → Bool
  | [], _ => true
  | o :: r, k => (match plainStore o with
    | some q => match getS slots q with
      | some (.ptr id _ _) => LL.all fun p => waits ops k p.1 || id != p.2
      | _ => false
    | none => false) && tailOk ops slots LL r (k + 1)
def execDraw (P : Program) (ctr : Ctr) (ops : Array Oper) (σ : St) (sc : List Bool) : Option (St × List Prop × List Bool) :=
  let n := headLen ops.toList
  let late := lateOf ops n
  let hasNew := ops.toList.any isNew
  if flowB ops n σ.nt late && tailB ops (ops.size - n) n then
    match execHead P ctr σ.blks ops hasNew σ.next [] (ops.toList.take n) 0 σ.slots sc with
    | some (rs, ob1, sc1, sl) =>
      if (List.range n).all (fun i => !late i || (((match ops[i]? with | some o => pureOp o | none => false) || (lateLd ops n σ i).isSome) && (match rs[i]? with | some x => hxVal x | none => false))) && idsOk σ.next sl then
        match addNews ops n σ.next rs 0 { σ with slots := sl } with
        | some σ1 => if (lateLds ops n late σ).isEmpty || tailOk ops σ1.slots (lateLds ops n late σ) (ops.toList.drop n) n then (match execSeq P ctr ops (ops.toList.drop n) n σ1 sc1 with
          | some (σ2, ob2, sc2) => some (σ2, ob1 ++ ob2, sc2)
          | none => none) else none
        | none => none
      else none
    | none => none
  else none
end Go.Eng

namespace Go.Eng
open Go.RowKit
section
variable {P : Program} {ctr : Ctr} {ops : Array Oper}
theorem put_self {a : Act} {d : Tmp} : a.put (some d) (a.tmps.getD d undef) = a := by
  obtain ⟨t, df⟩ := a
  simp only [Act.put, Act.mk.injEq, and_true]
  apply Array.ext_getElem?
  intro i
  by_cases e : d = i
  · subst e
    rcases Nat.lt_or_ge d t.size with h | h
    · simp [h]
    · rw [Array.getElem?_eq_none h, Array.getElem?_eq_none (by simpa using h)]
  · rw [Array.getElem?_setIfInBounds_ne e]
def owm (S : Own) (blks : List (Nat × Bk)) (β : Nat → Nat) (hasNew : Bool) (w x : World) (b j : Nat) : Prop := owS S blks β b j ∨ (hasNew = true ∧ w.heap.size ≤ b ∧ b < x.heap.size)
def TT (rs : List HX) (S : Own) (blks : List (Nat × Bk)) (β : Nat → Nat) (hasNew : Bool) (w : World) (i lo hi : Nat) (v : Value) (x : World) : Prop :=
  match rs[i]? with
  | some (.hr (.val s)) => relV β (owm S blks β hasNew w x) x s v
  | some (.hr (.call s)) => relV β (owm S blks β hasNew w x) x s v
  | some (.hr (.new ty segs kind)) => ∃ g cs, lo ≤ g ∧ g < hi ∧ rels β (owm S blks β hasNew w x) x segs cs ∧ x.heap[g]? = some (.cells cs.toArray ty (0, 0)) ∧ ∀ (β' : Nat → Nat) (id : Nat), β' id = g → relV β' (fun _ _ => False) x (newSV kind id) v
  | _ => True
theorem newSV_noSl (kind : Option (Nat × Nat)) (id : Nat) : (newSV kind id).noSl = true := by cases kind <;> rfl
variable {blks : List (Nat × Bk)} {β : Nat → Nat} {hasNew : Bool} {w : World} {w0 : Fr} {S : Own} {rs : List HX}
theorem osz_of {lo hi : Nat} {segs : List SV} {ty : TypeId} {n es : Nat} {v : Value} {x : World} {ow ow' : Own} (h : ∃ g cs, lo ≤ g ∧ g < hi ∧ rels β ow x segs cs ∧ x.heap[g]? = some (.cells cs.toArray ty (0, 0)) ∧ ∀ (β' : Nat → Nat) (id : Nat), β' id = g → relV β' (fun _ _ => False) x (newSV (some (n, es)) id) v) :
    relV β ow' x (.osz n) v := by
  obtain ⟨g, cs, _, _, _, _, h5⟩ := h
  obtain ⟨c1, h6, rfl⟩ := h5 (fun _ => g) 0 rfl
  simp only [newSV, rel] at h6
  subst h6
  exact ⟨_, by simp only [rel]; exact ⟨_, _, rfl⟩, rfl⟩
theorem owm_mono {x x' : World} : ∀ b j, b < x.heap.size → owm S blks β hasNew w x' b j → owm S blks β hasNew w x b j := by
  rintro b j hb (h | ⟨h1, h2, h3⟩)
  · exact .inl h
  · exact .inr ⟨h1, h2, hb⟩
theorem owm_start {x : World} : ∀ b j, b < w.heap.size → owm S blks β hasNew w x b j → owS S blks β b j := by
  rintro b j hb (h | ⟨h1, h2, h3⟩)
  · exact h
  · omega
theorem TT_mono (i lo hi : Nat) (v : Value) (x x' : World) (h : TT rs S blks β hasNew w i lo hi v x) (hx : Ext x x') : TT rs S blks β hasNew w i lo hi v x' := by
  have hk : Keep (owm S blks β hasNew w x) x x' := Keep.of_ext hx
  unfold TT at h ⊢
  split at h
  · exact relV_mono owm_mono hk (fun _ _ => rfl) h
  · exact relV_mono owm_mono hk (fun _ _ => rfl) h
  · obtain ⟨g, cs, h1, h2, h3, h4, h5⟩ := h
    refine ⟨g, cs, h1, h2, rels_mono owm_mono hk _ _ (fun _ _ => rfl) h3, ?_, fun β' id e => relV_noSl _ _ (newSV_noSl _ id) (fun _ _ => rfl) (h5 β' id e)⟩
    rw [hx.block g (Array.getElem?_eq_some_iff.1 h4).1]; exact h4
  · trivial
theorem addNews_ok {n nx : Nat} {a : Act} {x : World} {iv : Nat → Nat × Nat} {σ' : St}
    (hiv : ∀ i, i < n → w.heap.size ≤ (iv i).1 ∧ (iv i).1 ≤ (iv i).2 ∧ (iv i).2 ≤ x.heap.size) (hap : ∀ i j, i < n → j < n → i ≠ j → (iv i).2 ≤ (iv j).1 ∨ (iv j).2 ≤ (iv i).1)
    (hty : ∀ i d, i < n → lastW ops n d = some i → TT rs S blks β hasNew w i (iv i).1 (iv i).2 (a.tmps.getD d undef) x) (hlow : w0.w.heap.size ≤ w.heap.size) (hnew : hasNew = true) :
    ∀ {l : List HX} {i : Nat} {σ : St} {βk : Nat → Nat}, (∀ j, l[j]? = rs[i + j]?) → i + l.length = n → addNews ops n nx l i σ = some σ' → Sat w0 S σ βk a x →
      (∀ d s, (d, s) ∈ σ.slots → relV βk (owm S blks β hasNew w x) x s (a.tmps.getD d undef)) → HSat βk (owm S blks β hasNew w x) x σ.blks → (∀ id, id < nx → βk id = β id) → nx ≤ σ.next →
      (∀ b c, owS S σ.blks βk b c → b < w.heap.size ∨ ∃ j, j < i ∧ (iv j).1 ≤ b ∧ b < (iv j).2) → (∀ b c, owS S σ.blks βk b c → owm S blks β hasNew w x b c) → ∃ β', Sat w0 S σ' β' a x ∧ ∀ id, id < nx → β' id = β id := by
  intro l
  induction l with
  | nil =>
    intro i σ βk _ _ h hS _ _ h3 _ _ _
    simp only [addNews] at h
    cases h
    exact ⟨βk, hS, h3⟩
  | cons y l ih =>
    intro i σ βk hl hn h hS h1 h2 h3 h4 h5 h6
    have hl' : ∀ j, l[j]? = rs[i + 1 + j]? := fun j => by have := hl (j + 1); simpa [Nat.add_assoc, Nat.add_comm 1 j] using this
    have hn' : i + 1 + l.length = n := by simp at hn; omega
    have hyi : rs[i]? = some y := by have := hl 0; simpa using this.symm
    have hin : i < n := by simp at hn; omega
    have pass : addNews ops n nx l (i + 1) σ = some σ' → ∃ β', Sat w0 S σ' β' a x ∧ ∀ id, id < nx → β' id = β id := fun hp =>
      ih hl' hn' hp hS h1 h2 h3 h4 (fun b c hb => (h5 b c hb).imp id fun ⟨j, hj, r⟩ => ⟨j, by omega, r⟩) h6
    cases y with
    | skip => exact pass h
    | hr q =>
     cases q with
     | val s => exact pass h
     | call s => exact pass h
     | new ty segs kind =>
      simp only [addNews] at h
      split at h
      · rename_i d hd
        split at h
        · rename_i hc
          obtain ⟨hlast, hids⟩ := hc
          split at h
          · rename_i σ1 hnewS
            split at h
            · rename_i σ2 hput
              have ht := hty i d hin hlast
              unfold TT at ht
              simp only [hyi] at ht
              obtain ⟨g, cs, hg1, hg2, hr, hb, hval⟩ := ht
              have hivi := hiv i hin
              have hids' : ∀ id ∈ idss segs, βk id = β id := fun id hi => h3 id (by have := List.all_eq_true.1 hids id hi; simpa using this)
              have hno : ∀ c, ¬ owS S σ.blks βk g c := fun c ho => by
                rcases h5 g c ho with hlt | ⟨j, hj, a1, a2⟩
                · omega
                · have hjn : j < n := by omega
                  rcases hap i j hin hjn (by omega) with e | e <;> omega
              have hOW : ∀ c, owm S blks β hasNew w x g c := fun c => .inr ⟨hnew, by omega, by omega⟩
              obtain ⟨hS1, how⟩ := hS.new hnewS (g := g) (cs := cs) hb (by omega) hno (fun ow' ho => by
                have hsub : ∀ b c, b < x.heap.size → ow' b c → owm S blks β hasNew w x b c := fun b c _ h => by
                  rcases ho b c h with h | rfl
                  · exact h6 b c h
                  · exact hOW c
                exact ⟨fun d s hm => relV_mono hsub (Keep.refl _ _) (fun _ _ => rfl) (h1 d s hm), h2.move hsub (Keep.refl _ _) (fun _ _ _ => sameB_refl) (fun _ _ _ _ => rfl), rels_mono hsub (Keep.refl _ _) _ _ hids' hr⟩)
              have hpv : relV (fun j => if j = σ.next then g else βk j) (owS S σ1.blks (fun j => if j = σ.next then g else βk j)) x (newSV kind σ.next) (a.tmps.getD d undef) :=
                relV_noSl _ _ (newSV_noSl _ _) (fun _ _ => rfl) (hval _ σ.next (by simp))
              have hS2 := hS1.put hput hpv
              rw [put_self] at hS2
              -- the new state's parts
              have e1 : σ1 = { σ with blks := (σ.next, ⟨ty, segs, false⟩) :: σ.blks, next := σ.next + 1 } := by
                unfold newS at hnewS; split at hnewS <;> cases hnewS; rfl
              have e2 : σ2 = { σ1 with slots := (d, newSV kind σ.next) :: delS σ1.slots d } := by
                simp only [putS] at hput; split at hput <;> cases hput; rfl
              subst e2 e1
              have hid : ∀ id, id < σ.next → (if id = σ.next then g else βk id) = βk id := fun id hl => if_neg (by omega)
              refine ih hl' hn' h hS2 ?_ ?_ ?_ ?_ ?_ ?_
              · intro d' s hm
                rcases List.mem_cons.1 hm with e | hm
                · cases e; exact relV_noSl _ _ (newSV_noSl _ _) (fun _ _ => rfl) hpv
                · have hm' := (mem_delS hm).1
                  exact relV_mono (fun _ _ _ h => h) (Keep.refl _ _) (fun id hi => hid id (hS.bnd d' s hm' id hi)) (h1 d' s hm')
              · intro id bk hm
                rcases List.mem_cons.1 hm with e | hm
                · cases e
                  refine ⟨fun _ => ⟨cs, rels_mono (fun _ _ _ h => h) (Keep.refl _ _) _ _ (fun id hi => ?_) hr, by simpa using hb⟩, fun e => by cases e⟩
                  have hlt : id < nx := by have := List.all_eq_true.1 hids id hi; simpa using this
                  show (if id = σ.next then g else βk id) = β id
                  rw [hid id (by omega), h3 id hlt]
                · exact (h2.move (fun _ _ _ h => h) (Keep.refl _ _) (hS.same (β' := fun j => if j = σ.next then g else βk j) hid) (fun _ _ _ _ => rfl)) id bk hm
              · intro id hi
                show (if id = σ.next then g else βk id) = β id
                rw [hid id (by omega)]; exact h3 id hi
              · show nx ≤ σ.next + 1; omega
              · intro b c hb'
                have : owS S σ.blks βk b c ∨ b = g := by have := congrFun (congrFun how b) c; rw [← this]; exact hb'
                rcases this with h | rfl
                · exact (h5 b c h).imp id fun ⟨j, hj, r⟩ => ⟨j, by omega, r⟩
                · exact .inr ⟨i, by omega, hg1, hg2⟩
              · intro b c hb'
                have : owS S σ.blks βk b c ∨ b = g := by have := congrFun (congrFun how b) c; rw [← this]; exact hb'
                rcases this with h | rfl
                · exact h6 b c h
                · exact hOW c
            · cases h
          · cases h
        · cases h
      · cases h
end
end Go.Eng

namespace Go.Eng
open Go.RowKit
def CL (ops : Array Oper) (n : Nat) (LL : List (Nat × Nat)) (β : Nat → Nat) (w₀ : World) (L : Array Bool) (w : World) : Prop :=
  ∀ i id, (i, id) ∈ LL → (∀ s, n ≤ s → waits ops s i = true → L.getD s false = false) → w.heap[β id]? = w₀.heap[β id]?
section
variable {P : Program} {ctr : Ctr} {w0 : Fr} {w₀ : World} {S : Own} {ops : Array Oper} {Q : Exit → Act → World → Prop} {n : Nat} {LL : List (Nat × Nat)} {β : Nat → Nat}
theorem wpTail_of_ops {C : Array Bool → World → Prop} (hC : ∀ L w, C L w) : ∀ (f k : Nat) (a : Act) (w : World), wpOps P ops Q (List.range' k f) a w → wpTail P ops Q C f k a w
  | 0, _, _, _, h => by simp only [wpTail]; simpa [wpOps] using h
  | f + 1, k, a, w, h => by
    rw [List.range'_succ, wpOps_cons] at h
    exact wpOp_mono (fun a' w' h' => ⟨hC _ _, wpTail_of_ops hC f (k + 1) a' w' h'⟩) h
theorem tailL_ok (hctr : CtrOk P ctr) {βc : Nat → Nat} : ∀ {l : List Oper} {k : Nat} {σ σ' : St} {sc sc' : List Bool} {ob : List Prop} {a : Act} {w : World}, (∀ j, l[j]? = ops[k + j]?) → k + l.length = ops.size → execSeq P ctr ops l k σ sc = some (σ', ob, sc') → All ob →
    Sat w0 S σ β a w → n ≤ k → tailOk ops σ.slots LL l k = true → (∀ i id, (i, id) ∈ LL → βc id = β id ∧ ∃ bk, (id, bk) ∈ σ.blks ∧ bk.row = false) → CL ops n LL βc w₀ (heads ops k) w →
    (∀ β' a' w', Sat w0 S σ' β' a' w' → Q .normal a' w') → wpTail P ops Q (CL ops n LL βc w₀) l.length k a w := by
  intro l
  induction l with
  | nil =>
    intro k σ σ' sc sc' ob a w _ _ h _ hS _ _ _ _ hk
    simp only [execSeq] at h
    cases h
    exact hk β a w hS
  | cons o r ih =>
    intro k σ σ' sc sc' ob a w hl hlen h hob hS hnk htail hLL hC hk
    simp only [List.length_cons] at hlen
    simp only [execSeq] at h
    simp only [tailOk, Bool.and_eq_true] at htail
    obtain ⟨ht1, ht2⟩ := htail
    have hok : ops[k]? = some o := by simpa using (hl 0).symm
    split at h
    · rename_i σ1 ob1 sc1 hst
      split at h
      · rename_i σ2 ob2 sc2 hr
        cases h
        obtain ⟨ho1, ho2⟩ := All.append.1 hob
        split at ht1
        · rename_i q hq
          split at ht1
          · rename_i id0 off0 ix0 hg0
            unfold plainStore at hq
            split at hq
            · rename_i t q' x hdst hgd hop
              cases hq
              rw [stepOpW_ptr hop (show lookρ σ.slots (.tmp _) = some (.ptr id0 off0 ix0) from hg0)] at hst
              unfold stepOp at hst
              have hguard : guardOf ops σ.slots o = some true := by unfold guardOf; simp [hgd]
              simp only [hguard, hop] at hst
              split at hst
              · rename_i id off ix sv agg size _ hp hx ha hs
                have e0 : some (SV.ptr id0 off0 ix0) = some (SV.ptr id off ix) := by rw [← hg0]; exact hp
                simp only [Option.some.injEq, SV.ptr.injEq] at e0
                obtain ⟨rfl, rfl, rfl⟩ := e0
                split at hst
                · rename_i bk hgb
                  split at hst
                  · rename_i bk' ob' hst'
                    split at hst
                    · rename_i hids
                      cases hst
                      obtain ⟨cs, hr1, hb⟩ := (hS.blk id0 bk (getB_both hgb).1).1 (getB_both hgb).2
                      obtain ⟨cs', hrun, hr', hty⟩ := storeB_ok (P := P) hst' ho1 hs hr1 (rd_ok (hS.look hx)) hb
                      have h1 := relV_scalar rfl rfl (hS.look hp)
                      simp only [rel, List.cons.injEq, and_true] at h1
                      have hexec : (execOp a.eval o).run P w = .ok .skip (setRow w (β id0) cs' bk.ty) := by
                        unfold execOp
                        rw [hop]
                        simp only [Sem.run_bind, h1, hrun, Result.andThen_ok, Sem.run_pure]
                      have hS' := hS.write hgb hty (storeB_row hst') hr' (fun j hj => by have := List.all_eq_true.1 hids j hj; simpa using this)
                      show wpOp P ops Q k _ a w
                      unfold wpOp
                      simp only [hok]
                      have hw : Region.wanted o (yielded ops a.tmps) = true := by simp [Region.wanted, hgd]
                      rw [hw]
                      simp only [if_true]
                      refine .inl ?_
                      unfold Oper.wp
                      rw [hexec]
                      simp only [Oper.upon]
                      rw [hdst]
                      have hkeys : ∀ i b, (i, b) ∈ σ.blks → b.row = false → ∃ b', (i, b') ∈ setB σ.blks id0 bk' ∧ b'.row = false := by
                        intro i b hm hrow
                        clear hr ih hS hS' hLL hk hC
                        generalize σ.blks = B at hm ⊢
                        induction B with
                        | nil => cases hm
                        | cons p B ihB =>
                          simp only [setB]
                          split
                          · rename_i e
                            rcases List.mem_cons.1 hm with e1 | hm
                            · subst e1; simp only at e; subst e; exact ⟨bk', by simp, storeB_row hst'⟩
                            · exact ⟨b, List.mem_cons_of_mem _ hm, hrow⟩
                          · rcases List.mem_cons.1 hm with e1 | hm
                            · subst e1; exact ⟨b, by simp, hrow⟩
                            · obtain ⟨b', h1, h2⟩ := ihB hm; exact ⟨b', List.mem_cons_of_mem _ h1, h2⟩
                      have hCk : CL ops n LL βc w₀ (heads ops (k + 1)) (setRow w (β id0) cs' bk.ty) := by
                        intro i id hm hnot
                        have hnw : waits ops k i = false := by
                          cases hwk : waits ops k i with
                          | false => rfl
                          | true =>
                            have := hnot k hnk hwk
                            rw [heads_all (n := k + 1) (by omega) k (by omega)] at this
                            cases this
                        have hne : id0 ≠ id := by
                          have := List.all_eq_true.1 ht1 (i, id) hm
                          simp only [hnw, Bool.false_or, bne_iff_ne] at this
                          exact this
                        obtain ⟨e1, b1, m1, r1⟩ := hLL i id hm
                        have hne2 : β id ≠ β id0 := fun e => hne (hS.inj id id0 b1 bk m1 (getB_both hgb).1 (live_plain r1) (live_plain (getB_both hgb).2) e).symm
                        rw [e1, setRow_other hne2, ← e1]
                        refine hC i id hm fun s hs hw => ?_
                        have h2 := hnot s hs hw
                        cases hb : (heads ops k).getD s false with
                        | false => rfl
                        | true =>
                          have hsk : s < k ∧ s < ops.size := by
                            rcases Nat.lt_or_ge s ops.size with h3 | h3
                            · simp [heads, h3] at hb; exact ⟨hb, h3⟩
                            · simp [heads, Nat.not_lt.2 h3] at hb
                          rw [heads_all (n := k + 1) (by omega) s (by omega)] at h2
                          cases h2
                      refine ⟨hCk, ?_⟩
                      exact ih (fun j => by have := hl (j + 1); simpa [Nat.add_assoc, Nat.add_comm 1 j] using this) (by omega) hr ho2 hS' (by omega) ht2 (fun i id hm => by
                        obtain ⟨e1, b1, m1, r1⟩ := hLL i id hm
                        exact ⟨e1, hkeys id b1 m1 r1⟩) hCk hk
                    · cases hst
                  · cases hst
                · cases hst
              · cases hst
            · cases hq
          · cases ht1
        · cases ht1
      · cases h
    · cases h
end
end Go.Eng

