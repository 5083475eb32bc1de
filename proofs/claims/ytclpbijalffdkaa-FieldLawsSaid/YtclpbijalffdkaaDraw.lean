/- A region that draws its order, symbolically. -/
import Derived.Test.YtclpbijalffdkaaSeq
namespace Go.Eng
open Go.RowKit

/-- what an operation of the head has given -/
inductive HX where
  | hr (r : HR)
  | skip

/-- only what the operation looks at -/
def lookR (ops : Array Oper) (o : Oper) (slots : List (Nat × SV)) : Operand → Option SV
  | .tmp t => if (o.looksAt ops).contains t then getS slots t else none
  | x => lookρ slots x

def headStep (P : Program) (ctr : Ctr) (H : List (Nat × Bk)) (ops : Array Oper) (hasNew : Bool) (slots : List (Nat × SV)) (i : Nat) (o : Oper) (sc : List Bool) : Option (HX × List Prop × List Bool) :=
  match guardOf ops slots o with
  | none => none
  | some false => some (.hr (.val (.tup [])), [], sc)
  | some true => match evalH P ctr H (lookR ops o slots) o with
    | some (.val s, ob) => match resolveB (isGuard ops i) s sc with
      | some (s', ob2, sc') => some (.hr (.val s'), ob ++ ob2, sc')
      | none => none
    | some (.call s, ob) => if hasNew && !s.noSl then none else match resolveB (isGuard ops i) s sc with
      | some (s', ob2, sc') => some (.hr (.call s'), ob ++ ob2, sc')
      | none => none
    | some (.new ty segs kind, ob) => if hasNew then some (.hr (.new ty segs kind), ob, sc) else none
    | none => none

def upd (slots : List (Nat × SV)) (dst : Option Nat) (x : HX) : List (Nat × SV) :=
  match dst with
  | none => slots
  | some d => match x with
    | .hr (.val s) => (d, s) :: delS slots d
    | .hr (.call s) => (d, s) :: delS slots d
    | .hr (.new _ _ (some (n, _))) => (d, .osz n) :: delS slots d
    | _ => delS slots d

def execHead (P : Program) (ctr : Ctr) (H : List (Nat × Bk)) (ops : Array Oper) (hasNew : Bool) : List Oper → Nat → List (Nat × SV) → List Bool → Option (List HX × List Prop × List Bool × List (Nat × SV))
  | [], _, slots, sc => some ([], [], sc, slots)
  | o :: r, i, slots, sc => match headStep P ctr H ops hasNew slots i o sc with
    | some (x, ob1, sc1) => match execHead P ctr H ops hasNew r (i + 1) (upd slots o.dst x) sc1 with
      | some (xs, ob2, sc2, sl) => some (x :: xs, ob1 ++ ob2, sc2, sl)
      | none => none
    | none => none

def gam (ops : Array Oper) (rs : List HX) (slots0 : List (Nat × SV)) : Nat → List (Nat × SV)
  | 0 => slots0
  | i + 1 => upd (gam ops rs slots0 i) (dstOf ops i) (rs.getD i .skip)

section
variable {P : Program} {ctr : Ctr} {ops : Array Oper} {H : List (Nat × Bk)} {hasNew : Bool}

theorem gam_mem {rs : List HX} {slots0 : List (Nat × SV)} : ∀ {i d : Nat} {s : SV}, i ≤ rs.length → (d, s) ∈ gam ops rs slots0 i →
    (lastW ops i d = none ∧ (d, s) ∈ slots0) ∨ ∃ j, j < i ∧ lastW ops i d = some j ∧ (rs[j]? = some (.hr (.val s)) ∨ rs[j]? = some (.hr (.call s)) ∨ ∃ ty segs n es, rs[j]? = some (.hr (.new ty segs (some (n, es)))) ∧ s = .osz n) := by
  intro i
  induction i with
  | zero => intro d s _ h; exact .inl ⟨rfl, h⟩
  | succ i ih =>
    intro d s hi h
    simp only [gam] at h
    have hx : rs[i]? = some (rs.getD i .skip) := by
      have : i < rs.length := by omega
      simp [this]
    have other : dstOf ops i ≠ some d → (d, s) ∈ gam ops rs slots0 i → (lastW ops (i + 1) d = none ∧ (d, s) ∈ slots0) ∨ ∃ j, j < i + 1 ∧ lastW ops (i + 1) d = some j ∧ (rs[j]? = some (.hr (.val s)) ∨ rs[j]? = some (.hr (.call s)) ∨ ∃ ty segs n es, rs[j]? = some (.hr (.new ty segs (some (n, es)))) ∧ s = .osz n) := by
      intro hne hm
      have e : lastW ops (i + 1) d = lastW ops i d := by simp [lastW, hne]
      rw [e]
      rcases ih (by omega) hm with h1 | ⟨j, hj, h1⟩
      · exact .inl h1
      · exact .inr ⟨j, by omega, h1⟩
    unfold upd at h
    split at h
    · rename_i hd
      exact other (by rw [hd]; simp) h
    · rename_i e hd
      have del : (d, s) ∈ delS (gam ops rs slots0 i) e → _ := fun hm => by
        obtain ⟨hm, hne⟩ := mem_delS hm
        exact other (by rw [hd]; intro he; exact hne (by injection he with he; exact he.symm)) hm
      split at h
      · rename_i s' hs'
        rcases List.mem_cons.1 h with e1 | hm
        · cases e1
          exact .inr ⟨i, by omega, by simp [lastW, hd], .inl (by rw [hx, hs'])⟩
        · exact del hm
      · rename_i s' hs'
        rcases List.mem_cons.1 h with e1 | hm
        · cases e1
          exact .inr ⟨i, by omega, by simp [lastW, hd], .inr (.inl (by rw [hx, hs']))⟩
        · exact del hm
      · rename_i ty segs n es hs'
        rcases List.mem_cons.1 h with e1 | hm
        · cases e1
          exact .inr ⟨i, by omega, by simp [lastW, hd], .inr (.inr ⟨ty, segs, n, es, by rw [hx, hs'], rfl⟩)⟩
        · exact del hm
      · exact del h

theorem execHead_steps {rs : List HX} {slots0 : List (Nat × SV)} : ∀ {l : List Oper} {i : Nat} {sc sc' : List Bool} {xs : List HX} {ob : List Prop} {sl : List (Nat × SV)}, (∀ j, j < l.length → l[j]? = ops[i + j]?) →
    execHead P ctr H ops hasNew l i (gam ops rs slots0 i) sc = some (xs, ob, sc', sl) → (∀ j, j < xs.length → rs[i + j]? = xs[j]?) → All ob →
    xs.length = l.length ∧ sl = gam ops rs slots0 (i + l.length) ∧ ∀ j o, i ≤ j → j < i + l.length → ops[j]? = some o → ∃ sc1 sc2 ob1 x, headStep P ctr H ops hasNew (gam ops rs slots0 j) j o sc1 = some (x, ob1, sc2) ∧ All ob1 ∧ rs[j]? = some x := by
  intro l
  induction l with
  | nil =>
    intro i sc sc' xs ob sl _ h _ _
    simp only [execHead] at h
    cases h
    exact ⟨rfl, rfl, fun j o h1 h2 => by simp at h2; omega⟩
  | cons o r ih =>
    intro i sc sc' xs ob sl hl h hrs hob
    simp only [execHead] at h
    split at h
    · rename_i x ob1 sc1 hst
      split at h
      · rename_i xs' ob2 sc2 sl' hr
        cases h
        obtain ⟨ho1, ho2⟩ := All.append.1 hob
        have hx : rs[i]? = some x := by have := hrs 0 (by simp); simpa using this
        have hoi : ops[i]? = some o := by have := hl 0 (by simp); simpa using this.symm
        have hg : upd (gam ops rs slots0 i) o.dst x = gam ops rs slots0 (i + 1) := by
          simp only [gam, dstOf, hoi, Option.bind_some]
          congr 1
          rw [List.getD_eq_getElem?_getD, hx]; rfl
        rw [hg] at hr
        obtain ⟨h1, h2, h3⟩ := ih (i := i + 1) (fun j hj => by have := hl (j + 1) (by simp; omega); simpa [Nat.add_assoc, Nat.add_comm 1 j] using this) hr
          (fun j hj => by have := hrs (j + 1) (by simp; omega); simpa [Nat.add_assoc, Nat.add_comm 1 j] using this) ho2
        refine ⟨by simp [h1], by rw [h2]; congr 1; simp; omega, fun j oj hj1 hj2 hoj => ?_⟩
        by_cases e : j = i
        · subst e
          rw [hoi] at hoj
          cases hoj
          exact ⟨_, _, _, _, hst, ho1, hx⟩
        · exact h3 j oj (by omega) (by simp at hj2; omega) hoj
      · cases h
    · cases h
end

/-! ### the new blocks at the end of the head -/

def addNews (ops : Array Oper) (n nx : Nat) : List HX → Nat → St → Option St
  | [], _, σ => some σ
  | .hr (.new ty segs kind) :: r, i, σ => match dstOf ops i with
    | some d => if lastW ops n d = some i ∧ (idss segs).all (fun id => decide (id < nx)) = true then (match newS σ ty segs with
        | some σ1 => match putS σ1 (some d) (newSV kind σ.next) with
          | some σ2 => addNews ops n nx r (i + 1) σ2
          | none => none
        | none => none) else none
    | none => none
  | _ :: r, i, σ => addNews ops n nx r (i + 1) σ

def isStore (o : Oper) : Bool := match o.op with | .store .. => true | _ => false
def isNew (o : Oper) : Bool := match o.op with | .box .. => true | .alloc .. => true | .buildSlice .. => true | _ => false
def headLen : List Oper → Nat
  | [] => 0
  | o :: r => if isStore o then 0 else headLen r + 1

/-- operations whose run looks at no memory -/
def pureOp (o : Oper) : Bool :=
  match o.guard, o.op with
  | none, .move _ => true
  | none, .assign _ => true
  | none, .extract _ _ => true
  | none, .build _ _ => true
  | _, _ => false

def lateOf (ops : Array Oper) (n : Nat) (i : Nat) : Bool :=
  !((List.range ops.size).all fun s => decide (s < n) || ((masks ops).getD s 0).testBit i)

def hxVal : HX → Bool
  | .hr (.val s) => s.noSl
  | _ => false

def idsOk (next : Nat) : List (Nat × SV) → Bool
  | [] => true
  | p :: r => p.2.ids.all (fun id => decide (id < next)) && idsOk next r

def execDraw (P : Program) (ctr : Ctr) (ops : Array Oper) (σ : St) (sc : List Bool) : Option (St × List Prop × List Bool) :=
  let n := headLen ops.toList
  let late := lateOf ops n
  let hasNew := ops.toList.any isNew
  if flowB ops n σ.nt late && tailB ops (ops.size - n) n then
    match execHead P ctr σ.blks ops hasNew (ops.toList.take n) 0 σ.slots sc with
    | some (rs, ob1, sc1, sl) =>
      if (List.range n).all (fun i => !late i || ((match ops[i]? with | some o => pureOp o | none => false) && (match rs[i]? with | some x => hxVal x | none => false))) && idsOk σ.next sl then
        match addNews ops n σ.next rs 0 { σ with slots := sl } with
        | some σ1 => match execSeq P ctr ops (ops.toList.drop n) n σ1 sc1 with
          | some (σ2, ob2, sc2) => some (σ2, ob1 ++ ob2, sc2)
          | none => none
        | none => none
      else none
    | none => none
  else none

end Go.Eng
