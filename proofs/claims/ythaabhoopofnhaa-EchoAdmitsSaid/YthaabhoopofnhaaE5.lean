import Derived.Test.YthaabhoopofnhaaE4
set_option linter.unusedVariables false
set_option linter.unusedSimpArgs false
set_option linter.unusedSectionVars false
namespace Go.Eng
open Go.RowKit
inductive HX where
  | hr (r : HR)
  | skip
def lookR (ops : Array Oper) (o : Oper) (slots : List (Nat × SV)) : Operand → Option SV
  | .tmp t => if (o.looksAt ops).contains t then getS slots t else none
  | x => lookρ slots x
def evalD (P : Program) (ctr : Ctr) (H : List (Nat × Bk)) (ops : Array Oper) (ρ : Operand → Option SV) (o : Oper) : Option (HR × List Prop) :=
  match (if stored ops o.dst = true then rowPtrR P ρ o else none) with
  | some (r, ob) => some (.val r, ob)
  | none => evalR P ctr H ρ o
theorem evalD_ok {P : Program} {β : Nat → Nat} {ow : Own} {w : World} {ctr : Ctr} (hctr : CtrOk P ctr) {H : List (Nat × Bk)} {ops : Array Oper} {ρ : Operand → Option SV} {o : Oper} {r : HR} {ob : List Prop} (h : evalD P ctr H ops ρ o = some (r, ob)) (hob : All ob)
    {a : Act} (hρ : ∀ x s, ρ x = some s → relV β ow w s (a.eval x)) (hH : HSat β ow w H) (hown : ∀ b j, ow b j → b < w.heap.size)
    {K : Act → World → Prop} {Q : Exit → Act → World → Prop} (hk : ∀ v w', Ext w w' → HRsat β ow w w' v r → K (a.put o.dst v) w') : o.wp P a w K Q := by
  unfold evalD at h
  split at h
  · rename_i r' ob' hr
    cases h
    split at hr
    · exact rowPtrR_ok hρ hr hob fun v hv => hk v w (Ext.refl w) ⟨rfl, hv⟩
    · cases hr
  · exact evalR_ok hctr h hob hρ hH hown hk
theorem evalD_eq {P : Program} {ctr : Ctr} {H : List (Nat × Bk)} {ops : Array Oper} {ρ : Operand → Option SV} {o : Oper} (h : ∀ t x i, o.op ≠ .indexAddr t x i) : evalD P ctr H ops ρ o = evalR P ctr H ρ o := by
  have hn : rowPtrR P ρ o = none := by
    unfold rowPtrR
    split
    · rename_i t x i hop; exact absurd hop (h t x i)
    · rfl
  unfold evalD
  rw [hn]
  simp
def newSlot (ops : Array Oper) (pre : List HX) (i : Nat) : List Nat → Option (Nat × TypeId × List SV × Nat × Nat)
  | [] => none
  | t :: r => match lastW ops i t with
    | some j => (match pre[j]? with
      | some (.hr (.new ty segs (some (n, es)))) => some (t, ty, segs, n, es)
      | _ => newSlot ops pre i r)
    | none => newSlot ops pre i r
theorem newSlot_ok {ops : Array Oper} {pre : List HX} {i t n es : Nat} {ty : TypeId} {segs : List SV} : ∀ {l : List Nat}, newSlot ops pre i l = some (t, ty, segs, n, es) → t ∈ l ∧ ∃ j, lastW ops i t = some j ∧ pre[j]? = some (.hr (.new ty segs (some (n, es)))) := by
  intro l
  induction l with
  | nil => intro h; simp [newSlot] at h
  | cons u r ih =>
    intro h
    simp only [newSlot] at h
    split at h
    · rename_i j hj
      split at h
      · rename_i ty' segs' n' es' hp
        simp only [Option.some.injEq, Prod.mk.injEq] at h
        obtain ⟨rfl, rfl, rfl, rfl, rfl⟩ := h
        exact ⟨by simp, j, hj, hp⟩
      · obtain ⟨h1, h2⟩ := ih h; exact ⟨List.mem_cons_of_mem _ h1, h2⟩
    · obtain ⟨h1, h2⟩ := ih h; exact ⟨List.mem_cons_of_mem _ h1, h2⟩
def lowS (nx : Nat) (s : Option SV) : Option SV := match s with
  | some s => if s.ids.all (fun id => decide (id < nx)) then some s else none
  | none => none
def lookN (t nx n es : Nat) (ρ : Operand → Option SV) : Operand → Option SV
  | .tmp u => if u = t then some (newSV (some (n, es)) nx) else lowS nx (ρ (.tmp u))
  | y => lowS nx (ρ y)
def evalC (P : Program) (ctr : Ctr) (H : List (Nat × Bk)) (ops : Array Oper) (pre : List HX) (nx : Nat) (slots : List (Nat × SV)) (i : Nat) (o : Oper) : Option (SV × List Prop) :=
  match newSlot ops pre i (o.looksAt ops) with
  | some (t, ty, segs, n, es) =>
    if (idss segs).all (fun id => decide (id < nx)) then
      match evalR P ctr ((nx, ⟨ty, segs, false⟩) :: H.filter fun p => !p.2.row && decide (p.1 < nx) && (idss p.2.segs).all (fun id => decide (id < nx))) (lookN t nx n es (lookR ops o slots)) o with
      | some (.call s, ob) => if s.noSl && s.ids.isEmpty then some (s, ob) else none
      | _ => none
    else none
  | none => none
theorem lowS_ok {nx : Nat} {s : Option SV} {r : SV} (h : lowS nx s = some r) : s = some r ∧ ∀ id ∈ r.ids, id < nx := by
  unfold lowS at h
  split at h
  · split at h
    · rename_i hc
      cases h
      exact ⟨rfl, fun id hi => by simpa using List.all_eq_true.1 hc id hi⟩
    · cases h
  · cases h
theorem evalC_ok {P : Program} {β : Nat → Nat} {ow : Own} {w : World} {ctr : Ctr} (hctr : CtrOk P ctr) {H : List (Nat × Bk)} {ops : Array Oper} {pre : List HX} {nx : Nat} {slots : List (Nat × SV)} {i : Nat} {o : Oper} {s : SV} {ob : List Prop}
    (h : evalC P ctr H ops pre nx slots i o = some (s, ob)) (hob : All ob) {a : Act}
    (hρ : ∀ y s, lookR ops o slots y = some s → relV β ow w s (a.eval y))
    (hnew : ∀ t j ty segs n es, t ∈ o.looksAt ops → lastW ops i t = some j → pre[j]? = some (.hr (.new ty segs (some (n, es)))) →
      ∃ g cs, rels β ow w segs cs ∧ w.heap[g]? = some (.cells cs.toArray ty (0, 0)) ∧ ∀ (β' : Nat → Nat) (id : Nat), β' id = g → relV β' (fun _ _ => False) w (newSV (some (n, es)) id) (a.tmps.getD t undef))
    (hH : HSat β ow w H) (hown : ∀ b j, ow b j → b < w.heap.size)
    {K : Act → World → Prop} {Q : Exit → Act → World → Prop} (hk : ∀ v w', Ext w w' → relV β ow w' s v → K (a.put o.dst v) w') : o.wp P a w K Q := by
  unfold evalC at h
  split at h
  · rename_i t ty segs n es hns
    split at h
    · rename_i hsg
      split at h
      · rename_i s' ob' hev
        split at h
        · rename_i hc
          simp only [Option.some.injEq, Prod.mk.injEq] at h
          obtain ⟨rfl, rfl⟩ := h
          obtain ⟨ht, j, hl, hp⟩ := newSlot_ok hns
          obtain ⟨g, cs, hr, hg, hv⟩ := hnew t j ty segs n es ht hl hp
          have hβ : ∀ id, id < nx → (fun id => if id = nx then g else β id) id = β id := fun id hi => by simp only; rw [if_neg (by omega)]
          have hnx : (fun id => if id = nx then g else β id) nx = g := by simp
          have hall : ∀ {l : List Nat}, l.all (fun id => decide (id < nx)) = true → ∀ id ∈ l, id < nx := fun hl id hi => by simpa using List.all_eq_true.1 hl id hi
          simp only [Bool.and_eq_true, List.isEmpty_iff] at hc
          refine evalR_ok (β := fun id => if id = nx then g else β id) (ow := ow) hctr hev hob ?_ ?_ hown fun v w' _ hs => hk v w' hs.1 (relV_mono (fun _ _ _ h => h) (Keep.refl _ _) (fun id hi => by rw [hc.2] at hi; cases hi) hs.2)
          · intro y r hy
            have low : ∀ y, lowS nx (lookR ops o slots y) = some r → relV (fun id => if id = nx then g else β id) ow w r (a.eval y) := fun y hy => by
              obtain ⟨h1, h2⟩ := lowS_ok hy
              exact relV_mono (fun _ _ _ h => h) (Keep.refl _ _) (fun id hi => hβ id (h2 id hi)) (hρ y r h1)
            cases y with
            | tmp u =>
              simp only [lookN] at hy
              split at hy
              · rename_i hu
                subst hu
                cases hy
                obtain ⟨c1, h6, e⟩ := relV_one rfl (hv (fun id => if id = nx then g else β id) nx hnx)
                refine relV_up ⟨c1, ?_, e⟩
                simp only [newSV, rel] at h6 ⊢
                exact h6
              · exact low _ hy
            | const v => exact low _ hy
            | global g => exact low _ hy
            | func f => exact low _ hy
          · intro id bk hm
            rcases List.mem_cons.1 hm with e | hm
            · cases e
              refine ⟨fun _ => ⟨cs, rels_mono (fun _ _ _ h => h) (Keep.refl _ _) _ _ (fun id hi => hβ id (hall hsg id hi)) hr, by rw [hnx]; exact hg⟩, fun h => by cases h⟩
            · obtain ⟨hm, hf⟩ := List.mem_filter.1 hm
              simp only [Bool.and_eq_true, decide_eq_true_eq, Bool.not_eq_true'] at hf
              obtain ⟨⟨f1, f2⟩, f3⟩ := hf
              refine ⟨fun hrow => ?_, fun h => by rw [f1] at h; cases h⟩
              obtain ⟨cs', h1, h2⟩ := (hH id bk hm).1 hrow
              exact ⟨cs', rels_mono (fun _ _ _ h => h) (Keep.refl _ _) _ _ (fun id hi => hβ id (hall f3 id hi)) h1, by rw [hβ id f2]; exact h2⟩
        · cases h
      · cases h
    · cases h
  · cases h
def headStep (P : Program) (ctr : Ctr) (H : List (Nat × Bk)) (ops : Array Oper) (hasNew : Bool) (nx : Nat) (pre : List HX) (slots : List (Nat × SV)) (i : Nat) (o : Oper) (sc : List Bool) : Option (HX × List Prop × List Bool) :=
  match guardOf ops slots o with
  | none => none
  | some false => some (.hr (.val (.tup [])), [], sc)
  | some true => match evalD P ctr H ops (lookR ops o slots) o with
    | some (.val s, ob) => match resolveB (isGuard ops i) s sc with
      | some (s', ob2, sc') => some (.hr (.val s'), ob ++ ob2, sc')
      | none => none
    | some (.call s, ob) => if hasNew && !s.noSl then none else match resolveB (isGuard ops i) s sc with
      | some (s', ob2, sc') => some (.hr (.call s'), ob ++ ob2, sc')
      | none => none
    | some (.new ty segs kind, ob) => if hasNew then some (.hr (.new ty segs kind), ob, sc) else none
    | none => match evalC P ctr H ops pre nx slots i o with
      | some (s, ob) => match resolveB (isGuard ops i) s sc with
        | some (s', ob2, sc') => some (.hr (.call s'), ob ++ ob2, sc')
        | none => none
      | none => none
def upd (slots : List (Nat × SV)) (dst : Option Nat) (x : HX) : List (Nat × SV) :=
  match dst with
  | none => slots
  | some d => match x with
    | .hr (.val s) => (d, s) :: delS slots d
    | .hr (.call s) => (d, s) :: delS slots d
    | .hr (.new _ _ (some (n, _))) => (d, .osz n) :: delS slots d
    | _ => delS slots d
def execHead (P : Program) (ctr : Ctr) (H : List (Nat × Bk)) (ops : Array Oper) (hasNew : Bool) (nx : Nat) : List HX → List Oper → Nat → List (Nat × SV) → List Bool → Option (List HX × List Prop × List Bool × List (Nat × SV))
  | _, [], _, slots, sc => some ([], [], sc, slots)
  | pre, o :: r, i, slots, sc => match headStep P ctr H ops hasNew nx pre slots i o sc with
    | some (x, ob1, sc1) => match execHead P ctr H ops hasNew nx (pre ++ [x]) r (i + 1) (upd slots o.dst x) sc1 with
      | some (xs, ob2, sc2, sl) => some (x :: xs, ob1 ++ ob2, sc2, sl)
      | none => none
    | none => none
def gam (ops : Array Oper) (rs : List HX) (slots0 : List (Nat × SV)) : Nat → List (Nat × SV)
  | 0 => slots0
  | i + 1 => upd (gam ops rs slots0 i) (dstOf ops i) (rs.getD i .skip)
section
variable {P : Program} {ctr : Ctr} {ops : Array Oper} {H : List (Nat × Bk)} {hasNew : Bool}
theorem gam_mem {rs : List HX} {slots0 : List (Nat × SV)} : ∀ {i d : Nat} {s : SV}, i ≤ rs.length → (d, s) ∈ gam ops rs slots0 i →
    (lastW ops i d = none ∧ (d, s) ∈ slots0) ∨ ∃ j, j < i ∧ lastW ops i d = some j ∧ (rs[j]? = some (.hr (.val s)) ∨ rs[j]? = some (.hr (.call s)) ∨ ∃ ty segs n es, rs[j]? = some (.hr (.new ty segs (some (n, es)))) ∧ s = .osz n) := by
  intro i
  induction i with
  | zero => intro d s _ h; exact .inl ⟨rfl, h⟩
  | succ i ih =>
    intro d s hi h
    simp only [gam] at h
    have hx : rs[i]? = some (rs.getD i .skip) := by
      have : i < rs.length := by omega
      simp [this]
    have other : dstOf ops i ≠ some d → (d, s) ∈ gam ops rs slots0 i → (lastW ops (i + 1) d = none ∧ (d, s) ∈ slots0) ∨ ∃ j, j < i + 1 ∧ lastW ops (i + 1) d = some j ∧ (rs[j]? = some (.hr (.val s)) ∨ rs[j]? = some (.hr (.call s)) ∨ ∃ ty segs n es, rs[j]? = some (.hr (.new ty segs (some (n, es)))) ∧ s = .osz n) := by
      intro hne hm
      have e : lastW ops (i + 1) d = lastW ops i d := by simp [lastW, hne]
      rw [e]
      rcases ih (by omega) hm with h1 | ⟨j, hj, h1⟩
      · exact .inl h1
      · exact .inr ⟨j, by omega, h1⟩
    unfold upd at h
    split at h
    · rename_i hd
      exact other (by rw [hd]; simp) h
    · rename_i e hd
      have del : (d, s) ∈ delS (gam ops rs slots0 i) e → _ := fun hm => by
        obtain ⟨hm, hne⟩ := mem_delS hm
        exact other (by rw [hd]; intro he; exact hne (by injection he with he; exact he.symm)) hm
      split at h
      · rename_i s' hs'
        rcases List.mem_cons.1 h with e1 | hm
        · cases e1
          exact .inr ⟨i, by omega, by simp [lastW, hd], .inl (by rw [hx, hs'])⟩
        · exact del hm
      · rename_i s' hs'
        rcases List.mem_cons.1 h with e1 | hm
        · cases e1
          exact .inr ⟨i, by omega, by simp [lastW, hd], .inr (.inl (by rw [hx, hs']))⟩
        · exact del hm
      · rename_i ty segs n es hs'
        rcases List.mem_cons.1 h with e1 | hm
        · cases e1
          exact .inr ⟨i, by omega, by simp [lastW, hd], .inr (.inr ⟨ty, segs, n, es, by rw [hx, hs'], rfl⟩)⟩
        · exact del hm
      · exact del h
theorem execHead_steps {nx : Nat} {rs : List HX} {slots0 : List (Nat × SV)} : ∀ {l : List Oper} {i : Nat} {sc sc' : List Bool} {xs : List HX} {ob : List Prop} {sl : List (Nat × SV)}, (∀ j, j < l.length → l[j]? = ops[i + j]?) →
    execHead P ctr H ops hasNew nx (rs.take i) l i (gam ops rs slots0 i) sc = some (xs, ob, sc', sl) → (∀ j, j < xs.length → rs[i + j]? = xs[j]?) → All ob →
    xs.length = l.length ∧ sl = gam ops rs slots0 (i + l.length) ∧ ∀ j o, i ≤ j → j < i + l.length → ops[j]? = some o → ∃ sc1 sc2 ob1 x, headStep P ctr H ops hasNew nx (rs.take j) (gam ops rs slots0 j) j o sc1 = some (x, ob1, sc2) ∧ All ob1 ∧ rs[j]? = some x := by
  intro l
  induction l with
  | nil =>
    intro i sc sc' xs ob sl _ h _ _
    simp only [execHead] at h
    cases h
    exact ⟨rfl, rfl, fun j o h1 h2 => by simp at h2; omega⟩
  | cons o r ih =>
    intro i sc sc' xs ob sl hl h hrs hob
    simp only [execHead] at h
    split at h
    · rename_i x ob1 sc1 hst
      split at h
      · rename_i xs' ob2 sc2 sl' hr
        cases h
        obtain ⟨ho1, ho2⟩ := All.append.1 hob
        have hx : rs[i]? = some x := by have := hrs 0 (by simp); simpa using this
        have hoi : ops[i]? = some o := by have := hl 0 (by simp); simpa using this.symm
        have hg : upd (gam ops rs slots0 i) o.dst x = gam ops rs slots0 (i + 1) := by
          simp only [gam, dstOf, hoi, Option.bind_some]
          congr 1
          rw [List.getD_eq_getElem?_getD, hx]; rfl
        rw [hg, show rs.take i ++ [x] = rs.take (i + 1) by rw [List.take_add_one, hx]; rfl] at hr
        obtain ⟨h1, h2, h3⟩ := ih (i := i + 1) (fun j hj => by have := hl (j + 1) (by simp; omega); simpa [Nat.add_assoc, Nat.add_comm 1 j] using this) hr
          (fun j hj => by have := hrs (j + 1) (by simp; omega); simpa [Nat.add_assoc, Nat.add_comm 1 j] using this) ho2
        refine ⟨by simp [h1], by rw [h2]; congr 1; simp; omega, fun j oj hj1 hj2 hoj => ?_⟩
        by_cases e : j = i
        · subst e
          rw [hoi] at hoj
          cases hoj
          exact ⟨_, _, _, _, hst, ho1, hx⟩
        · exact h3 j oj (by omega) (by simp at hj2; omega) hoj
      · cases h
    · cases h
end
def addNews (ops : Array Oper) (n nx : Nat) : List HX → Nat → St → Option St
  | [], _, σ => some σ
  | .hr (.new ty segs kind) :: r, i, σ => match dstOf ops i with
    | some d => if lastW ops n d = some i ∧ (idss segs).all (fun id => decide (id < nx)) = true then (match newS σ ty segs with
        | some σ1 => match putS σ1 (some d) (newSV kind σ.next) with
          | some σ2 => addNews ops n nx r (i + 1) σ2
          | none => none
        | none => none) else none
    | none => none
  | _ :: r, i, σ => addNews ops n nx r (i + 1) σ
def isStore (o : Oper) : Bool := match o.op with | .store .. => true | _ => false
def isNew (o : Oper) : Bool := match o.op with | .box .. => true | .alloc .. => true | .buildSlice .. => true | .makeSlice .. => true | _ => false
def headLen0 : List Oper → Nat
  | [] => 0
  | o :: r => if isStore o then 0 else headLen0 r + 1
def newDst (o : Oper) : Option Nat := match o.op with | .buildSlice .. => o.dst | .makeSlice .. => o.dst | _ => none
def assignsNew (ds : List Nat) (o : Oper) : Bool := match o.op with | .assign (.tmp t) => ds.contains t | _ => false
def headLenA : List Nat → List Oper → Nat
  | _, [] => 0
  | ds, o :: r => if isStore o || assignsNew ds o then 0 else headLenA (match newDst o with | some d => d :: ds | none => ds) r + 1
def headLen (l : List Oper) : Nat := if tailB l.toArray (l.length - headLenA [] l) (headLenA [] l) then headLenA [] l else headLen0 l
def pureOp (o : Oper) : Bool :=
  match o.guard, o.op with
  | none, .move _ => true
  | none, .assign _ => true
  | none, .extract _ _ => true
  | none, .build _ _ => true
  | _, _ => false
def lateOf (ops : Array Oper) (n : Nat) (i : Nat) : Bool :=
  !((List.range ops.size).all fun s => decide (s < n) || ((masks ops).getD s 0).testBit i)
def hxVal : HX → Bool
  | .hr (.val s) => s.noSl
  | _ => false
def idsOk (next : Nat) : List (Nat × SV) → Bool
  | [] => true
  | p :: r => p.2.ids.all (fun id => decide (id < next)) && idsOk next r
def lateLd (ops : Array Oper) (n : Nat) (σ : St) (i : Nat) : Option Nat :=
  match ops[i]? with
  | some o => match o.guard, o.op with
    | none, .load _ (.tmp p) => match lastW ops n p, getS σ.slots p with
      | none, some (.ptr id _ _) => match getB σ.blks id with | some _ => some id | none => none
      | _, _ => none
    | _, _ => none
  | none => none
def lateLds (ops : Array Oper) (n : Nat) (late : Nat → Bool) (σ : St) : List (Nat × Nat) :=
  (List.range n).filterMap fun i => if late i then (match lateLd ops n σ i with | some id => some (i, id) | none => none) else none
def plainStore (o : Oper) : Option Nat :=
  match o.dst, o.guard, o.op with
  | none, none, .store _ (.tmp q) _ => some q
  | _, _, _ => none
def tailOk (ops : Array Oper) (slots : List (Nat × SV)) (LL : List (Nat × Nat)) : List Oper → Nat → Bool
  | [], _ => true
  | o :: r, k => (match plainStore o with
    | some q => match getS slots q with
      | some (.ptr id _ _) => LL.all fun p => waits ops k p.1 || id != p.2
      | _ => false
    | none => false) && tailOk ops slots LL r (k + 1)
def execDraw (P : Program) (ctr : Ctr) (ops : Array Oper) (σ : St) (sc : List Bool) : Option (St × List Prop × List Bool) :=
  let n := headLen ops.toList
  let late := lateOf ops n
  let hasNew := ops.toList.any isNew
  if flowB ops n σ.nt late && tailB ops (ops.size - n) n then
    match execHead P ctr σ.blks ops hasNew σ.next [] (ops.toList.take n) 0 σ.slots sc with
    | some (rs, ob1, sc1, sl) =>
      if (List.range n).all (fun i => !late i || (((match ops[i]? with | some o => pureOp o | none => false) || (lateLd ops n σ i).isSome) && (match rs[i]? with | some x => hxVal x | none => false))) && idsOk σ.next sl then
        match addNews ops n σ.next rs 0 { σ with slots := sl } with
        | some σ1 => if (lateLds ops n late σ).isEmpty || tailOk ops σ1.slots (lateLds ops n late σ) (ops.toList.drop n) n then (match execSeq P ctr ops (ops.toList.drop n) n σ1 sc1 with
          | some (σ2, ob2, sc2) => some (σ2, ob1 ++ ob2, sc2)
          | none => none) else none
        | none => none
      else none
    | none => none
  else none
end Go.Eng

namespace Go.Eng
open Go.RowKit
section
variable {P : Program} {ctr : Ctr} {ops : Array Oper}
theorem put_self {a : Act} {d : Tmp} : a.put (some d) (a.tmps.getD d undef) = a := by
  obtain ⟨t, df⟩ := a
  simp only [Act.put, Act.mk.injEq, and_true]
  apply Array.ext_getElem?
  intro i
  by_cases e : d = i
  · subst e
    rcases Nat.lt_or_ge d t.size with h | h
    · simp [h]
    · rw [Array.getElem?_eq_none h, Array.getElem?_eq_none (by simpa using h)]
  · rw [Array.getElem?_setIfInBounds_ne e]
def owm (S : Own) (blks : List (Nat × Bk)) (β : Nat → Nat) (hasNew : Bool) (w x : World) (b j : Nat) : Prop := owS S blks β b j ∨ (hasNew = true ∧ w.heap.size ≤ b ∧ b < x.heap.size)
def TT (rs : List HX) (S : Own) (blks : List (Nat × Bk)) (β : Nat → Nat) (hasNew : Bool) (w : World) (i lo hi : Nat) (v : Value) (x : World) : Prop :=
  match rs[i]? with
  | some (.hr (.val s)) => relV β (owm S blks β hasNew w x) x s v
  | some (.hr (.call s)) => relV β (owm S blks β hasNew w x) x s v
  | some (.hr (.new ty segs kind)) => ∃ g cs, lo ≤ g ∧ g < hi ∧ rels β (owm S blks β hasNew w x) x segs cs ∧ x.heap[g]? = some (.cells cs.toArray ty (0, 0)) ∧ ∀ (β' : Nat → Nat) (id : Nat), β' id = g → relV β' (fun _ _ => False) x (newSV kind id) v
  | _ => True
theorem newSV_noSl (kind : Option (Nat × Nat)) (id : Nat) : (newSV kind id).noSl = true := by cases kind <;> rfl
variable {blks : List (Nat × Bk)} {β : Nat → Nat} {hasNew : Bool} {w : World} {w0 : Fr} {S : Own} {rs : List HX}
theorem osz_of {lo hi : Nat} {segs : List SV} {ty : TypeId} {n es : Nat} {v : Value} {x : World} {ow ow' : Own} (h : ∃ g cs, lo ≤ g ∧ g < hi ∧ rels β ow x segs cs ∧ x.heap[g]? = some (.cells cs.toArray ty (0, 0)) ∧ ∀ (β' : Nat → Nat) (id : Nat), β' id = g → relV β' (fun _ _ => False) x (newSV (some (n, es)) id) v) :
    relV β ow' x (.osz n) v := by
  obtain ⟨g, cs, _, _, _, _, h5⟩ := h
  obtain ⟨c1, h6, rfl⟩ := h5 (fun _ => g) 0 rfl
  simp only [newSV, rel] at h6
  subst h6
  exact ⟨_, by simp only [rel]; exact ⟨_, _, rfl⟩, rfl⟩
theorem owm_mono {x x' : World} : ∀ b j, b < x.heap.size → owm S blks β hasNew w x' b j → owm S blks β hasNew w x b j := by
  rintro b j hb (h | ⟨h1, h2, h3⟩)
  · exact .inl h
  · exact .inr ⟨h1, h2, hb⟩
theorem owm_start {x : World} : ∀ b j, b < w.heap.size → owm S blks β hasNew w x b j → owS S blks β b j := by
  rintro b j hb (h | ⟨h1, h2, h3⟩)
  · exact h
  · omega
theorem TT_mono (i lo hi : Nat) (v : Value) (x x' : World) (h : TT rs S blks β hasNew w i lo hi v x) (hx : Ext x x') : TT rs S blks β hasNew w i lo hi v x' := by
  have hk : Keep (owm S blks β hasNew w x) x x' := Keep.of_ext hx
  unfold TT at h ⊢
  split at h
  · exact relV_mono owm_mono hk (fun _ _ => rfl) h
  · exact relV_mono owm_mono hk (fun _ _ => rfl) h
  · obtain ⟨g, cs, h1, h2, h3, h4, h5⟩ := h
    refine ⟨g, cs, h1, h2, rels_mono owm_mono hk _ _ (fun _ _ => rfl) h3, ?_, fun β' id e => relV_noSl _ _ (newSV_noSl _ id) (fun _ _ => rfl) (h5 β' id e)⟩
    rw [hx.block g (Array.getElem?_eq_some_iff.1 h4).1]; exact h4
  · trivial
theorem addNews_ok {n nx : Nat} {a : Act} {x : World} {iv : Nat → Nat × Nat} {σ' : St}
    (hiv : ∀ i, i < n → w.heap.size ≤ (iv i).1 ∧ (iv i).1 ≤ (iv i).2 ∧ (iv i).2 ≤ x.heap.size) (hap : ∀ i j, i < n → j < n → i ≠ j → (iv i).2 ≤ (iv j).1 ∨ (iv j).2 ≤ (iv i).1)
    (hty : ∀ i d, i < n → lastW ops n d = some i → TT rs S blks β hasNew w i (iv i).1 (iv i).2 (a.tmps.getD d undef) x) (hlow : w0.w.heap.size ≤ w.heap.size) (hnew : hasNew = true) :
    ∀ {l : List HX} {i : Nat} {σ : St} {βk : Nat → Nat}, (∀ j, l[j]? = rs[i + j]?) → i + l.length = n → addNews ops n nx l i σ = some σ' → Sat w0 S σ βk a x →
      (∀ d s, (d, s) ∈ σ.slots → relV βk (owm S blks β hasNew w x) x s (a.tmps.getD d undef)) → HSat βk (owm S blks β hasNew w x) x σ.blks → (∀ id, id < nx → βk id = β id) → nx ≤ σ.next →
      (∀ b c, owS S σ.blks βk b c → b < w.heap.size ∨ ∃ j, j < i ∧ (iv j).1 ≤ b ∧ b < (iv j).2) → (∀ b c, owS S σ.blks βk b c → owm S blks β hasNew w x b c) → ∃ β', Sat w0 S σ' β' a x ∧ ∀ id, id < nx → β' id = β id := by
  intro l
  induction l with
  | nil =>
    intro i σ βk _ _ h hS _ _ h3 _ _ _
    simp only [addNews] at h
    cases h
    exact ⟨βk, hS, h3⟩
  | cons y l ih =>
    intro i σ βk hl hn h hS h1 h2 h3 h4 h5 h6
    have hl' : ∀ j, l[j]? = rs[i + 1 + j]? := fun j => by have := hl (j + 1); simpa [Nat.add_assoc, Nat.add_comm 1 j] using this
    have hn' : i + 1 + l.length = n := by simp at hn; omega
    have hyi : rs[i]? = some y := by have := hl 0; simpa using this.symm
    have hin : i < n := by simp at hn; omega
    have pass : addNews ops n nx l (i + 1) σ = some σ' → ∃ β', Sat w0 S σ' β' a x ∧ ∀ id, id < nx → β' id = β id := fun hp =>
      ih hl' hn' hp hS h1 h2 h3 h4 (fun b c hb => (h5 b c hb).imp id fun ⟨j, hj, r⟩ => ⟨j, by omega, r⟩) h6
    cases y with
    | skip => exact pass h
    | hr q =>
     cases q with
     | val s => exact pass h
     | call s => exact pass h
     | new ty segs kind =>
      simp only [addNews] at h
      split at h
      · rename_i d hd
        split at h
        · rename_i hc
          obtain ⟨hlast, hids⟩ := hc
          split at h
          · rename_i σ1 hnewS
            split at h
            · rename_i σ2 hput
              have ht := hty i d hin hlast
              unfold TT at ht
              simp only [hyi] at ht
              obtain ⟨g, cs, hg1, hg2, hr, hb, hval⟩ := ht
              have hivi := hiv i hin
              have hids' : ∀ id ∈ idss segs, βk id = β id := fun id hi => h3 id (by have := List.all_eq_true.1 hids id hi; simpa using this)
              have hno : ∀ c, ¬ owS S σ.blks βk g c := fun c ho => by
                rcases h5 g c ho with hlt | ⟨j, hj, a1, a2⟩
                · omega
                · have hjn : j < n := by omega
                  rcases hap i j hin hjn (by omega) with e | e <;> omega
              have hOW : ∀ c, owm S blks β hasNew w x g c := fun c => .inr ⟨hnew, by omega, by omega⟩
              obtain ⟨hS1, how⟩ := hS.new hnewS (g := g) (cs := cs) hb (by omega) hno (fun ow' ho => by
                have hsub : ∀ b c, b < x.heap.size → ow' b c → owm S blks β hasNew w x b c := fun b c _ h => by
                  rcases ho b c h with h | rfl
                  · exact h6 b c h
                  · exact hOW c
                exact ⟨fun d s hm => relV_mono hsub (Keep.refl _ _) (fun _ _ => rfl) (h1 d s hm), h2.move hsub (Keep.refl _ _) (fun _ _ _ => sameB_refl) (fun _ _ _ _ => rfl), rels_mono hsub (Keep.refl _ _) _ _ hids' hr⟩)
              have hpv : relV (fun j => if j = σ.next then g else βk j) (owS S σ1.blks (fun j => if j = σ.next then g else βk j)) x (newSV kind σ.next) (a.tmps.getD d undef) :=
                relV_noSl _ _ (newSV_noSl _ _) (fun _ _ => rfl) (hval _ σ.next (by simp))
              have hS2 := hS1.put hput hpv
              rw [put_self] at hS2
              -- the new state's parts
              have e1 : σ1 = { σ with blks := (σ.next, ⟨ty, segs, false⟩) :: σ.blks, next := σ.next + 1 } := by
                unfold newS at hnewS; split at hnewS <;> cases hnewS; rfl
              have e2 : σ2 = { σ1 with slots := (d, newSV kind σ.next) :: delS σ1.slots d } := by
                simp only [putS] at hput; split at hput <;> cases hput; rfl
              subst e2 e1
              have hid : ∀ id, id < σ.next → (if id = σ.next then g else βk id) = βk id := fun id hl => if_neg (by omega)
              refine ih hl' hn' h hS2 ?_ ?_ ?_ ?_ ?_ ?_
              · intro d' s hm
                rcases List.mem_cons.1 hm with e | hm
                · cases e; exact relV_noSl _ _ (newSV_noSl _ _) (fun _ _ => rfl) hpv
                · have hm' := (mem_delS hm).1
                  exact relV_mono (fun _ _ _ h => h) (Keep.refl _ _) (fun id hi => hid id (hS.bnd d' s hm' id hi)) (h1 d' s hm')
              · intro id bk hm
                rcases List.mem_cons.1 hm with e | hm
                · cases e
                  refine ⟨fun _ => ⟨cs, rels_mono (fun _ _ _ h => h) (Keep.refl _ _) _ _ (fun id hi => ?_) hr, by simpa using hb⟩, fun e => by cases e⟩
                  have hlt : id < nx := by have := List.all_eq_true.1 hids id hi; simpa using this
                  show (if id = σ.next then g else βk id) = β id
                  rw [hid id (by omega), h3 id hlt]
                · exact (h2.move (fun _ _ _ h => h) (Keep.refl _ _) (hS.same (β' := fun j => if j = σ.next then g else βk j) hid) (fun _ _ _ _ => rfl)) id bk hm
              · intro id hi
                show (if id = σ.next then g else βk id) = β id
                rw [hid id (by omega)]; exact h3 id hi
              · show nx ≤ σ.next + 1; omega
              · intro b c hb'
                have : owS S σ.blks βk b c ∨ b = g := by have := congrFun (congrFun how b) c; rw [← this]; exact hb'
                rcases this with h | rfl
                · exact (h5 b c h).imp id fun ⟨j, hj, r⟩ => ⟨j, by omega, r⟩
                · exact .inr ⟨i, by omega, hg1, hg2⟩
              · intro b c hb'
                have : owS S σ.blks βk b c ∨ b = g := by have := congrFun (congrFun how b) c; rw [← this]; exact hb'
                rcases this with h | rfl
                · exact h6 b c h
                · exact hOW c
            · cases h
          · cases h
        · cases h
      · cases h
end
end Go.Eng

namespace Go.Eng
open Go.RowKit
def CL (ops : Array Oper) (n : Nat) (LL : List (Nat × Nat)) (β : Nat → Nat) (w₀ : World) (L : Array Bool) (w : World) : Prop :=
  ∀ i id, (i, id) ∈ LL → (∀ s, n ≤ s → waits ops s i = true → L.getD s false = false) → w.heap[β id]? = w₀.heap[β id]?
section
variable {P : Program} {ctr : Ctr} {w0 : Fr} {w₀ : World} {S : Own} {ops : Array Oper} {Q : Exit → Act → World → Prop} {n : Nat} {LL : List (Nat × Nat)} {β : Nat → Nat}
theorem wpTail_of_ops {C : Array Bool → World → Prop} (hC : ∀ L w, C L w) : ∀ (f k : Nat) (a : Act) (w : World), wpOps P ops Q (List.range' k f) a w → wpTail P ops Q C f k a w
  | 0, _, _, _, h => by simp only [wpTail]; simpa [wpOps] using h
  | f + 1, k, a, w, h => by
    rw [List.range'_succ, wpOps_cons] at h
    exact wpOp_mono (fun a' w' h' => ⟨hC _ _, wpTail_of_ops hC f (k + 1) a' w' h'⟩) h
theorem tailL_ok (hctr : CtrOk P ctr) {βc : Nat → Nat} : ∀ {l : List Oper} {k : Nat} {σ σ' : St} {sc sc' : List Bool} {ob : List Prop} {a : Act} {w : World}, (∀ j, l[j]? = ops[k + j]?) → k + l.length = ops.size → execSeq P ctr ops l k σ sc = some (σ', ob, sc') → All ob →
    Sat w0 S σ β a w → n ≤ k → tailOk ops σ.slots LL l k = true → (∀ i id, (i, id) ∈ LL → βc id = β id ∧ ∃ bk, (id, bk) ∈ σ.blks ∧ bk.row = false) → CL ops n LL βc w₀ (heads ops k) w →
    (∀ β' a' w', Sat w0 S σ' β' a' w' → Q .normal a' w') → wpTail P ops Q (CL ops n LL βc w₀) l.length k a w := by
  intro l
  induction l with
  | nil =>
    intro k σ σ' sc sc' ob a w _ _ h _ hS _ _ _ _ hk
    simp only [execSeq] at h
    cases h
    exact hk β a w hS
  | cons o r ih =>
    intro k σ σ' sc sc' ob a w hl hlen h hob hS hnk htail hLL hC hk
    simp only [List.length_cons] at hlen
    simp only [execSeq] at h
    simp only [tailOk, Bool.and_eq_true] at htail
    obtain ⟨ht1, ht2⟩ := htail
    have hok : ops[k]? = some o := by simpa using (hl 0).symm
    split at h
    · rename_i σ1 ob1 sc1 hst
      split at h
      · rename_i σ2 ob2 sc2 hr
        cases h
        obtain ⟨ho1, ho2⟩ := All.append.1 hob
        split at ht1
        · rename_i q hq
          split at ht1
          · rename_i id0 off0 ix0 hg0
            unfold plainStore at hq
            split at hq
            · rename_i t q' x hdst hgd hop
              cases hq
              rw [stepOpW_ptr hop (show lookρ σ.slots (.tmp _) = some (.ptr id0 off0 ix0) from hg0)] at hst
              unfold stepOp at hst
              have hguard : guardOf ops σ.slots o = some true := by unfold guardOf; simp [hgd]
              simp only [hguard, hop] at hst
              split at hst
              · rename_i id off ix sv agg size _ hp hx ha hs
                have e0 : some (SV.ptr id0 off0 ix0) = some (SV.ptr id off ix) := by rw [← hg0]; exact hp
                simp only [Option.some.injEq, SV.ptr.injEq] at e0
                obtain ⟨rfl, rfl, rfl⟩ := e0
                split at hst
                · rename_i bk hgb
                  split at hst
                  · rename_i bk' ob' hst'
                    split at hst
                    · rename_i hids
                      cases hst
                      obtain ⟨cs, hr1, hb⟩ := (hS.blk id0 bk (getB_both hgb).1).1 (getB_both hgb).2
                      obtain ⟨cs', hrun, hr', hty⟩ := storeB_ok (P := P) hst' ho1 hs hr1 (rd_ok (hS.look hx)) hb
                      have h1 := relV_scalar rfl rfl (hS.look hp)
                      simp only [rel, List.cons.injEq, and_true] at h1
                      have hexec : (execOp a.eval o).run P w = .ok .skip (setRow w (β id0) cs' bk.ty) := by
                        unfold execOp
                        rw [hop]
                        simp only [Sem.run_bind, h1, hrun, Result.andThen_ok, Sem.run_pure]
                      have hS' := hS.write hgb hty (storeB_row hst') hr' (fun j hj => by have := List.all_eq_true.1 hids j hj; simpa using this)
                      show wpOp P ops Q k _ a w
                      unfold wpOp
                      simp only [hok]
                      have hw : Region.wanted o (yielded ops a.tmps) = true := by simp [Region.wanted, hgd]
                      rw [hw]
                      simp only [if_true]
                      refine .inl ?_
                      unfold Oper.wp
                      rw [hexec]
                      simp only [Oper.upon]
                      rw [hdst]
                      have hkeys : ∀ i b, (i, b) ∈ σ.blks → b.row = false → ∃ b', (i, b') ∈ setB σ.blks id0 bk' ∧ b'.row = false := by
                        intro i b hm hrow
                        clear hr ih hS hS' hLL hk hC
                        generalize σ.blks = B at hm ⊢
                        induction B with
                        | nil => cases hm
                        | cons p B ihB =>
                          simp only [setB]
                          split
                          · rename_i e
                            rcases List.mem_cons.1 hm with e1 | hm
                            · subst e1; simp only at e; subst e; exact ⟨bk', by simp, storeB_row hst'⟩
                            · exact ⟨b, List.mem_cons_of_mem _ hm, hrow⟩
                          · rcases List.mem_cons.1 hm with e1 | hm
                            · subst e1; exact ⟨b, by simp, hrow⟩
                            · obtain ⟨b', h1, h2⟩ := ihB hm; exact ⟨b', List.mem_cons_of_mem _ h1, h2⟩
                      have hCk : CL ops n LL βc w₀ (heads ops (k + 1)) (setRow w (β id0) cs' bk.ty) := by
                        intro i id hm hnot
                        have hnw : waits ops k i = false := by
                          cases hwk : waits ops k i with
                          | false => rfl
                          | true =>
                            have := hnot k hnk hwk
                            rw [heads_all (n := k + 1) (by omega) k (by omega)] at this
                            cases this
                        have hne : id0 ≠ id := by
                          have := List.all_eq_true.1 ht1 (i, id) hm
                          simp only [hnw, Bool.false_or, bne_iff_ne] at this
                          exact this
                        obtain ⟨e1, b1, m1, r1⟩ := hLL i id hm
                        have hne2 : β id ≠ β id0 := fun e => hne (hS.inj id id0 b1 bk m1 (getB_both hgb).1 (live_plain r1) (live_plain (getB_both hgb).2) e).symm
                        rw [e1, setRow_other hne2, ← e1]
                        refine hC i id hm fun s hs hw => ?_
                        have h2 := hnot s hs hw
                        cases hb : (heads ops k).getD s false with
                        | false => rfl
                        | true =>
                          have hsk : s < k ∧ s < ops.size := by
                            rcases Nat.lt_or_ge s ops.size with h3 | h3
                            · simp [heads, h3] at hb; exact ⟨hb, h3⟩
                            · simp [heads, Nat.not_lt.2 h3] at hb
                          rw [heads_all (n := k + 1) (by omega) s (by omega)] at h2
                          cases h2
                      refine ⟨hCk, ?_⟩
                      exact ih (fun j => by have := hl (j + 1); simpa [Nat.add_assoc, Nat.add_comm 1 j] using this) (by omega) hr ho2 hS' (by omega) ht2 (fun i id hm => by
                        obtain ⟨e1, b1, m1, r1⟩ := hLL i id hm
                        exact ⟨e1, hkeys id b1 m1 r1⟩) hCk hk
                    · cases hst
                  · cases hst
                · cases hst
              · cases hst
            · cases hq
          · cases ht1
        · cases ht1
      · cases h
    · cases h
end
end Go.Eng

namespace Go.Eng
open Go.RowKit
section
variable {P : Program} {ctr : Ctr} {ops : Array Oper} {β : Nat → Nat} {w : World} {w0 : Fr} {S : Own} {a : Act} {σ σ' : St}
theorem guard_look {slots : List (Nat × SV)} {ow : Own} {x : World} {a : Act} {o : Oper} (hs : ∀ d s, d ∈ o.looksAt ops → getS slots d = some s → relV β ow x s (a.tmps.getD d undef)) {q : Bool} (h : guardOf ops slots o = some q) :
    Region.wanted o (yielded ops a.tmps) = q := by
  cases hg : o.guard with
  | none => unfold guardOf at h; simp only [hg] at h; cases h; simp [Region.wanted, hg]
  | some p =>
    obtain ⟨j, want⟩ := p
    cases hd : dstOf ops j with
    | none => unfold guardOf at h; simp [hg, hd] at h
    | some d =>
      cases hb : getS slots d with
      | none => unfold guardOf at h; simp [hg, hd, hb] at h
      | some s =>
        have hl : d ∈ o.looksAt ops := by
          unfold Oper.looksAt
          simp only [hg]
          rw [show (ops[j]?).bind (·.dst) = some d from hd]
          simp
        refine guard_ok (β := β) (ow := ow) (w := x) (slots := [(d, s)]) (fun e t hm => ?_) ?_
        · simp only [List.mem_singleton, Prod.mk.injEq] at hm
          obtain ⟨rfl, rfl⟩ := hm
          exact hs e t hl hb
        · unfold guardOf at h ⊢
          simp only [hg, hd, hb] at h ⊢
          simp only [getS, if_true]
          exact h
theorem lastW_none {ops : Array Oper} {i p : Nat} : ∀ {n : Nat}, i ≤ n → lastW ops n p = none → lastW ops i p = none := by
  intro n
  induction n with
  | zero => intro hi h; obtain rfl : i = 0 := by omega
            exact h
  | succ m ih =>
    intro hi h
    rcases Nat.lt_or_ge i (m + 1) with hl | hl
    · refine ih (by omega) ?_
      simp only [lastW] at h
      split at h
      · cases h
      · exact h
    · obtain rfl : i = m + 1 := by omega
      exact h
theorem addNews_keeps {ops : Array Oper} {n nx : Nat} : ∀ {l : List HX} {i : Nat} {σ σ' : St}, addNews ops n nx l i σ = some σ' → ∀ {p : Nat × Bk}, p ∈ σ.blks → p ∈ σ'.blks := by
  intro l
  induction l with
  | nil => intro i σ σ' h p hp; simp only [addNews] at h; cases h; exact hp
  | cons y l ih =>
    intro i σ σ' h p hp
    cases y with
    | skip => exact ih (by simpa only [addNews] using h) hp
    | hr q => cases q with
      | val s => exact ih (by simpa only [addNews] using h) hp
      | call s => exact ih (by simpa only [addNews] using h) hp
      | new ty segs kind =>
        simp only [addNews] at h
        split at h
        · split at h
          · split at h
            · rename_i σ1 hn
              split at h
              · rename_i σ2 hput
                refine ih h ?_
                have e1 : p ∈ σ1.blks := by unfold newS at hn; split at hn <;> cases hn; exact List.mem_cons_of_mem _ hp
                unfold putS at hput
                split at hput
                · cases hput; exact e1
                · split at hput <;> cases hput; exact e1
              · cases h
            · cases h
          · cases h
        · cases h
theorem pure_yields {ow : Own} {x : World} {a : Act} {H : List (Nat × Bk)} {ρ : Operand → Option SV} (hρ : ∀ y s, ρ y = some s → relV β ow x s (a.eval y)) {o : Oper} (hp : pureOp o = true) {s : SV} {ob : List Prop} (h : evalH P ctr H ρ o = some (.val s, ob)) :
    ∃ v, (∀ w', (execOp a.eval o).run P w' = .ok (.value v) w') ∧ relV β ow x s v := by
  obtain ⟨dst, op, type, pos, after, guard⟩ := o
  unfold pureOp at hp
  simp only at hp
  split at hp <;> try cases hp
  · rename_i y
    unfold evalH at h
    simp only at h
    split at h
    · rename_i s' hs; cases h; exact ⟨a.eval y, fun w' => by simp [execOp], hρ y _ hs⟩
    · cases h
  · rename_i y
    unfold evalH at h
    simp only at h
    split at h
    · rename_i s' hs; cases h; exact ⟨a.eval y, fun w' => by simp [execOp], hρ y _ hs⟩
    · cases h
  · rename_i y n
    unfold evalH at h
    simp only at h
    split at h
    · rename_i l hpl
      split at h
      · rename_i s' hs
        split at h
        · cases h
        · rename_i ht
          cases h
          obtain ⟨vs, he, hvs⟩ := hρ y _ hpl
          have : ∀ (l : List SV) (vs : List Value) (n : Nat), relVs β ow x l vs → l[n]? = some s → ∃ v, vs[n]? = some v ∧ relV1 β ow x s v := by
            intro l
            induction l with
            | nil => intro vs n _ hn; simp at hn
            | cons q l ih =>
              intro vs n hv hn
              obtain ⟨v, t, rfl, h1, h2⟩ := hv
              cases n with
              | zero => simp at hn; subst hn; exact ⟨v, rfl, h1⟩
              | succ n => simp at hn; obtain ⟨u, hu, hr⟩ := ih t n h2 hn; exact ⟨u, by simpa using hu, hr⟩
          obtain ⟨v, hv, hr⟩ := this l vs n hvs hs
          exact ⟨v, fun w' => by simp [execOp, he, Instr.extract, hv], relV_up hr⟩
      · cases h
    · cases h
  · rename_i t parts
    unfold evalH at h
    simp only at h
    split at h
    · rename_i ps hps
      split at h
      · rename_i rr hb
        cases h
        have hpp := partsS_ok hρ hps
        obtain ⟨v, hrun, hv⟩ := buildS_ok (P := P) (qs := parts.map fun p => (p.1, a.eval p.2)) hb (by simpa using hpp)
        exact ⟨v, fun w' => by simp only [execOp, Sem.run_bind, hrun w', Result.andThen_ok, Sem.run_pure], hv⟩
      · cases h
    · cases h
theorem pureR_yields {ow : Own} {x : World} {a : Act} {H : List (Nat × Bk)} {ρ : Operand → Option SV} (hρ : ∀ y s, ρ y = some s → relV β ow x s (a.eval y)) {o : Oper} (hp : pureOp o = true) {s : SV} {ob : List Prop} (h : evalR P ctr H ρ o = some (.val s, ob)) :
    ∃ v, (∀ w', (execOp a.eval o).run P w' = .ok (.value v) w') ∧ relV β ow x s v := by
  unfold evalR at h
  split at h
  · exact pure_yields hρ hp h
  · split at h
    · rename_i r he
      unfold pureOp at hp
      unfold extra2 at he
      split at hp <;> first | (rename_i _ _ _ hop; simp [hop] at he; done) | (rename_i _ _ _ _ hop; simp [hop] at he; done) | cases hp
    · split at h
      · rename_i r he
        unfold pureOp at hp
        unfold extraH at he
        split at hp <;> first | (rename_i _ _ _ hop; simp [hop] at he; done) | (rename_i _ _ _ _ hop; simp [hop] at he; done) | cases hp
      · exact pure_yields (rdρ_ok hρ) hp h
theorem execDraw_ok (hm : P.follows .mixedOrders = true) (hctr : CtrOk P ctr) {id : Nat} {sc sc' : List Bool} {ob : List Prop} (h : execDraw P ctr ops σ sc = some (σ', ob, sc')) (hob : All ob) (hS : Sat w0 S σ β a w)
    {Q : Exit → Act → World → Prop} (hQ : ∀ c a w, ¬ Q (.panic c) a w) (hk : ∀ β' a' w', Sat w0 S σ' β' a' w' → Q .normal a' w') : (Code.region id ops true).wp P Q a w := by
  unfold execDraw at h
  simp only at h
  split at h
  · rename_i hB
    simp only [Bool.and_eq_true] at hB
    split at h
    · rename_i rs ob1 sc1 sl hhead
      split at h
      · rename_i hchk
        simp only [Bool.and_eq_true] at hchk
        obtain ⟨hlateB, hidsB⟩ := hchk
        split at h
        · rename_i σ1 hadd
          split at h
          case isFalse => cases h
          rename_i hLLok
          split at h
          · rename_i σ2 ob2 sc2 htail
            cases h
            obtain ⟨ho1, ho2⟩ := All.append.1 hob
            generalize hn : headLen ops.toList = n at *
            generalize hhn : ops.toList.any isNew = hasNew at *
            have hF := flowOk_of hB.1
            have hle := hF.le
            have hlen : (ops.toList.take n).length = n := by simp; omega
            obtain ⟨hrl, hsl, hsteps⟩ := execHead_steps (nx := σ.next) (rs := rs) (slots0 := σ.slots) (i := 0) (l := ops.toList.take n) (fun j hj => by rw [hlen] at hj; simp [hj]) hhead (fun j _ => by simp) ho1
            simp only [Nat.zero_add, hlen] at hrl hsl hsteps
            have hnt : a.tmps.size = σ.nt := hS.size
            -- what an operation of the head sees
            have hsees : ∀ i o (a' : Act) (x : World) (iv : Nat → Nat × Nat), i < n → ops[i]? = some o → Ext w x → (∀ t ∈ o.looksAt ops, OpdOk (TT rs S σ.blks β hasNew w) a a' x iv (lastW ops i t) t) →
                ∀ d s, d ∈ o.looksAt ops → getS (gam ops rs σ.slots i) d = some s → relV β (owm S σ.blks β hasNew w x) x s (a'.tmps.getD d undef) := by
              intro i o a' x iv hi ho hx hopd d s hd hg
              have := hopd d hd
              rcases gam_mem (by omega) (getS_mem hg) with ⟨hl, hm0⟩ | ⟨j, hj, hl, hr⟩
              · rw [hl] at this
                simp only [OpdOk] at this
                rw [this]
                exact relV_mono owm_start (Keep.of_ext hx) (fun _ _ => rfl) (hS.slot d s hm0)
              · rw [hl] at this
                simp only [OpdOk, TT] at this
                rcases hr with hr | hr | ⟨ty, segs, n', es, hr, rfl⟩
                · simp only [hr] at this; exact this
                · simp only [hr] at this; exact this
                · simp only [hr] at this; exact osz_of this
            have hρ : ∀ i o (a' : Act) (x : World), Ext w x → (∀ d s, d ∈ o.looksAt ops → getS (gam ops rs σ.slots i) d = some s → relV β (owm S σ.blks β hasNew w x) x s (a'.tmps.getD d undef)) →
                ∀ y s, lookR ops o (gam ops rs σ.slots i) y = some s → relV β (owm S σ.blks β hasNew w x) x s (a'.eval y) := by
              intro i o a' x hx hse y s hy
              cases y with
              | tmp t =>
                simp only [lookR] at hy
                split at hy
                · rename_i hc
                  exact hse t s (by simpa using hc) hy
                · cases hy
              | const v =>
                simp only [lookR, lookρ] at hy
                obtain ⟨h1, h2, _, _⟩ := constSV_ok (β := β) (ow := owm S σ.blks β hasNew w x) (w := x) hy
                exact relV_of1 h2 h1
              | global g => simp [lookR, lookρ] at hy
              | func f => simp [lookR, lookρ] at hy
            have hH : ∀ x, Ext w x → HSat β (owm S σ.blks β hasNew w x) x σ.blks := by
              intro x hx
              exact hS.blk.move owm_start (Keep.of_ext hx) (fun _ _ _ => sameB_refl) (fun id bk hm hl => hx.block _ (hS.blk.lt hm hl))
            have hown : ∀ x, Ext w x → ∀ b j, owm S σ.blks β hasNew w x b j → b < x.heap.size := by
              rintro x hx b j (h | ⟨_, _, h⟩)
              · exact Nat.lt_of_lt_of_le (hS.own b j h) hx.size
              · exact h
            generalize hLL : lateLds ops n (lateOf ops n) σ = LL at *
            have hLLm : ∀ i id, (i, id) ∈ LL → ∃ bk, (id, bk) ∈ σ.blks ∧ bk.row = false := by
              intro i id hm
              rw [← hLL] at hm
              obtain ⟨i', _, hf⟩ := List.mem_filterMap.1 hm
              split at hf
              · split at hf
                · rename_i id' hl'
                  cases hf
                  unfold lateLd at hl'
                  split at hl'
                  · split at hl'
                    · split at hl'
                      · split at hl'
                        · rename_i bk hg; cases hl'; exact ⟨bk, getB_both hg⟩
                        · cases hl'
                      · cases hl'
                    · cases hl'
                  · cases hl'
                · cases hf
              · cases hf
            refine flow_regionL (T := TT rs S σ.blks β hasNew w) (G := fun _ => True) (C := CL ops n LL β w) (n := n) (late := lateOf ops n) hm (by rw [hnt]; exact hB.1) hB.2 (fun _ _ _ _ => trivial) TT_mono hQ trivial ?_ ?_ ?_ ?_ ?_
            · intro L x hx i id hmem _
              obtain ⟨bk, hm1, hm2⟩ := hLLm i id hmem
              exact hx.block _ (hS.blk.lt hm1 (live_plain hm2))
            · intro L L' x hLs hC i id hmem hnot
              exact hC i id hmem fun s hs hw => by rw [hLs s hs]; exact hnot s hs hw
            · -- a step
              intro i o hi hlate ho a' x iv _ hx hopd K hK
              obtain ⟨s1, s2, ob3, hx1, hstep, hob3, hrs⟩ := hsteps i o (by omega) hi ho
              have hse := hsees i o a' x iv hi ho hx hopd
              unfold headStep at hstep
              unfold wpOp
              simp only [ho]
              split at hstep
              · cases hstep
              · rename_i hg
                cases hstep
                rw [guard_look hse hg]
                simp only [Bool.false_eq_true, if_false]
                exact hK undef x (Ext.refl x) (by unfold TT; simp only [hrs]; exact ⟨[], rfl, rfl⟩)
              · rename_i hg
                rw [guard_look hse hg]
                simp only [if_true]
                refine .inl ?_
                split at hstep
                · rename_i s obs hev
                  split at hstep
                  · rename_i s' ob4 sc4 hres
                    cases hstep
                    obtain ⟨q1, q2⟩ := All.append.1 hob3
                    refine evalD_ok hctr hev q1 (hρ i o a' x hx hse) (hH x hx) (hown x hx) fun v w' hxx hv => hK v w' hxx ?_
                    obtain ⟨rfl, hv⟩ := hv
                    unfold TT
                    simp only [hrs]
                    exact resolveB_ok hres q2 hv
                  · cases hstep
                · rename_i s obs hev
                  split at hstep
                  · cases hstep
                  · rename_i hnn
                    split at hstep
                    · rename_i s' ob4 sc4 hres
                      cases hstep
                      obtain ⟨q1, q2⟩ := All.append.1 hob3
                      refine evalD_ok hctr hev q1 (hρ i o a' x hx hse) (hH x hx) (hown x hx) fun v w' hxx hv => hK v w' hxx ?_
                      obtain ⟨_, hv⟩ := hv
                      unfold TT
                      simp only [hrs]
                      refine resolveB_ok hres q2 ?_
                      cases hhas : hasNew with
                      | true =>
                        have hno : s.noSl = true := by simpa [hhas] using hnn
                        exact relV_noSl _ _ hno (fun _ _ => rfl) hv
                      | false =>
                        subst hhas
                        exact relV_mono (fun _ _ _ h => h.elim .inl fun h => by cases h.1) (Keep.refl _ _) (fun _ _ => rfl) hv
                    · cases hstep
                · rename_i ty segs kind obs hev
                  split at hstep
                  · cases hstep
                    refine evalD_ok hctr hev hob3 (hρ i o a' x hx hse) (hH x hx) (hown x hx) fun v w' hxx hv => hK v w' hxx ?_
                    obtain ⟨cs, hr, rfl, hv⟩ := hv
                    unfold TT
                    simp only [hrs]
                    refine ⟨x.heap.size, cs, Nat.le_refl _, by simp, rels_mono owm_mono (Keep.of_ext hxx) _ _ (fun _ _ => rfl) hr, by show (x.heap.push _)[x.heap.size]? = _; simp, hv⟩
                  · cases hstep
                · split at hstep
                  · rename_i s obs hec
                    split at hstep
                    · rename_i s' ob4 sc4 hres
                      cases hstep
                      obtain ⟨q1, q2⟩ := All.append.1 hob3
                      refine evalC_ok hctr hec q1 (hρ i o a' x hx hse) ?_ (hH x hx) (hown x hx) fun v w' hxx hv => hK v w' hxx ?_
                      · intro t j ty segs n' es ht hl hp
                        have := hopd t ht
                        rw [hl] at this
                        have hj : rs[j]? = some (.hr (.new ty segs (some (n', es)))) := by
                          rw [List.getElem?_take] at hp
                          split at hp
                          · exact hp
                          · cases hp
                        simp only [OpdOk, TT, hj] at this
                        obtain ⟨g, cs, _, _, h3, h4, h5⟩ := this
                        exact ⟨g, cs, h3, h4, h5⟩
                      · have hno : s.noSl = true := by
                          unfold evalC at hec
                          split at hec
                          · split at hec
                            · split at hec
                              · split at hec
                                · rename_i hc
                                  simp only [Option.some.injEq, Prod.mk.injEq] at hec
                                  obtain ⟨rfl, rfl⟩ := hec
                                  simp only [Bool.and_eq_true] at hc
                                  exact hc.1
                                · cases hec
                              · cases hec
                            · cases hec
                          · cases hec
                        unfold TT
                        simp only [hrs]
                        exact resolveB_ok hres q2 (relV_noSl _ _ hno (fun _ _ => rfl) hv)
                    · cases hstep
                  · cases hstep
            · -- late
              intro i o hi hlate ho a' x iv _ hx hopd
              obtain ⟨s1, s2, ob3, hx1, hstep, hob3, hrs⟩ := hsteps i o (by omega) hi ho
              have hse := hsees i o a' x iv hi ho hx hopd
              have hcheck := List.all_eq_true.1 hlateB i (by simpa using hi)
              simp only [hlate, Bool.not_true, Bool.false_or, ho, hrs, Bool.and_eq_true, Bool.or_eq_true] at hcheck
              obtain ⟨hkind, hval⟩ := hcheck
              by_cases hpure : pureOp o = true
              · have hgn : o.guard = none := by
                  unfold pureOp at hpure
                  split at hpure <;> first | assumption | cases hpure
                have hwant : ∀ (t : Nat → Option Bool), Region.wanted o t = true := fun t => by simp [Region.wanted, hgn]
                unfold headStep at hstep
                have hg1 : guardOf ops (gam ops rs σ.slots i) o = some true := by unfold guardOf; simp [hgn]
                simp only [hg1] at hstep
                rw [evalD_eq (fun t' x' i' hop' => by unfold pureOp at hpure; rw [hop'] at hpure; revert hpure; cases o.guard <;> simp)] at hstep
                split at hstep
                · rename_i s obs hev
                  split at hstep
                  · rename_i s' ob4 sc4 hres
                    cases hstep
                    obtain ⟨q1, q2⟩ := All.append.1 hob3
                    obtain ⟨v, hrun, hv⟩ := pureR_yields (hρ i o a' x hx hse) hpure hev
                    refine ⟨v, fun _ => True, .inl ⟨hwant _, fun w' _ => hrun w'⟩, fun lo => ?_, fun _ _ _ _ => trivial⟩
                    unfold TT
                    simp only [hrs]
                    exact resolveB_ok hres q2 hv
                  · cases hstep
                · split at hstep
                  · cases hstep
                  · split at hstep
                    · cases hstep; cases hval
                    · cases hstep
                · split at hstep
                  · cases hstep; cases hval
                  · cases hstep
                · split at hstep
                  · split at hstep
                    · cases hstep; cases hval
                    · cases hstep
                  · cases hstep
              · -- a load
                have hld : (lateLd ops n σ i).isSome = true := hkind.resolve_left (by simpa using hpure)
                obtain ⟨id, hid⟩ := Option.isSome_iff_exists.1 hld
                have hmemLL : (i, id) ∈ LL := by
                  rw [← hLL]
                  exact List.mem_filterMap.2 ⟨i, by simpa using hi, by simp [hlate, hid]⟩
                unfold lateLd at hid
                simp only [ho] at hid
                split at hid
                · rename_i t p hgn hop
                  split at hid
                  · rename_i id' off' ix' hlw hgs
                    split at hid
                    · rename_i bk0 hgb0
                      cases hid
                      -- the pointer is as it was
                      have hlooks : p ∈ o.looksAt ops := by simp [Oper.looksAt, hop, Op.operands]
                      have hlw' : lastW ops i p = none := lastW_none (Nat.le_of_lt hi) hlw
                      have hpt := hopd p hlooks
                      rw [hlw'] at hpt
                      simp only [OpdOk] at hpt
                      have hptr := relV_scalar rfl rfl (hS.slot p _ (getS_mem hgs))
                      simp only [rel, List.cons.injEq, and_true] at hptr
                      rw [← hpt] at hptr
                      have hwant : ∀ (t : Nat → Option Bool), Region.wanted o t = true := fun t => by simp [Region.wanted, hgn]
                      unfold headStep at hstep
                      have hg1 : guardOf ops (gam ops rs σ.slots i) o = some true := by unfold guardOf; simp [hgn]
                      simp only [hg1] at hstep
                      have hevR : evalR P ctr σ.blks (lookR ops o (gam ops rs σ.slots i)) o = evalH P ctr σ.blks (rdρ (lookR ops o (gam ops rs σ.slots i))) o := by
                        unfold evalR
                        simp [movesOp, extra2, extraH, hop]
                      rw [evalD_eq (fun t' x' i' hop' => by rw [hop] at hop'; cases hop'), hevR] at hstep
                      have hρ2 := rdρ_ok (hρ i o a' x hx hse)
                      split at hstep
                      · rename_i s obs hev
                        split at hstep
                        · rename_i s' ob4 sc4 hres
                          cases hstep
                          obtain ⟨q1, q2⟩ := All.append.1 hob3
                          unfold evalH at hev
                          simp only [hop] at hev
                          split at hev
                          · rename_i id2 off ix agg size hp ha hs
                            split at hev
                            · rename_i bk hg
                              split at hev
                              · rename_i rr ob' hb
                                cases hev
                                have h1 := relV_scalar rfl rfl (hρ2 _ _ hp)
                                simp only [rel, List.cons.injEq, and_true] at h1
                                have h2 : a'.eval (.tmp p) = a'.tmps.getD p undef := rfl
                                rw [h2, hptr] at h1
                                simp only [Value.pointer.injEq, Option.some.injEq, Addr.mk.injEq] at h1
                                obtain ⟨hβ, hoff, _⟩ := h1
                                obtain ⟨cs, hr, hbk⟩ := getB_sat (hH x hx) hg
                                obtain ⟨v, hrun, hv⟩ := loadB_all (P := P) hb q1 ha hs (g := β id2) hr
                                refine ⟨v, fun w' => w'.heap[β id]? = w.heap[β id]?, .inl ⟨hwant _, fun w' hw' => ?_⟩, fun lo => ?_, fun L w' hC hnot => hC i id hmemLL hnot⟩
                                · have hlt := hS.blk.lt (getB_both hgb0).1 (live_plain (getB_both hgb0).2)
                                  have hb' : w'.heap[β id2]? = some (.cells cs.toArray bk.ty (0, 0)) := by
                                    rw [← hβ, hw', ← hx.block _ hlt, hβ]; exact hbk
                                  have := hrun w' hb'
                                  unfold execOp
                                  rw [hop]
                                  simp only [Sem.run_bind, h2, hptr, hβ, hoff, this, Result.andThen_ok, Sem.run_pure]
                                · unfold TT
                                  simp only [hrs]
                                  exact resolveB_ok hres q2 hv
                              · cases hev
                            · cases hev
                          · rename_i s agg size hp ha hs
                            exfalso
                            have h1 := relV_scalar rfl rfl (hρ2 _ _ hp)
                            simp only [rel] at h1
                            obtain ⟨ad, vs, e1, hsp, hno, hr, hne, hcell⟩ := h1
                            have h2 : a'.eval (.tmp p) = a'.tmps.getD p undef := rfl
                            rw [h2, hptr] at e1
                            simp only [List.cons.injEq, and_true, Value.pointer.injEq, Option.some.injEq] at e1
                            have hpos : 0 < vs.length := List.length_pos_iff.2 hne
                            refine hno 0 hpos (.inl (.inr ⟨id, bk0, (getB_both hgb0).1, ?_, fun e => ?_⟩))
                            · rw [← e1]
                            · rw [(getB_both hgb0).2] at e; cases e
                          · cases hev
                        · cases hstep
                      · split at hstep
                        · cases hstep
                        · split at hstep
                          · cases hstep; cases hval
                          · cases hstep
                      · split at hstep
                        · cases hstep; cases hval
                        · cases hstep
                      · split at hstep
                        · split at hstep
                          · cases hstep; cases hval
                          · cases hstep
                        · cases hstep
                    · cases hid
                  · cases hid
                · cases hid
            · -- the tail
              intro a' x iv hI
              have hfin : ∀ t, OpdOk (TT rs S σ.blks β hasNew w) a a' x iv (lastW ops n t) t := fun t => hI.final (heads_all hle) t
              have hx := hI.ext
              have hsS : ∀ d s, (d, s) ∈ sl → relV β (owm S σ.blks β hasNew w x) x s (a'.tmps.getD d undef) := by
                intro d s hmem
                rw [hsl] at hmem
                have := hfin d
                rcases gam_mem (by omega) hmem with ⟨hl, hm0⟩ | ⟨j, hj, hl, hr⟩
                · rw [hl] at this
                  simp only [OpdOk] at this
                  rw [this]
                  exact relV_mono owm_start (Keep.of_ext hx) (fun _ _ => rfl) (hS.slot d s hm0)
                · rw [hl] at this
                  simp only [OpdOk, TT] at this
                  rcases hr with hr | hr | ⟨ty, segs, n', es, hr, rfl⟩
                  · simp only [hr] at this; exact this
                  · simp only [hr] at this; exact this
                  · simp only [hr] at this; exact osz_of this
              have hidsl : ∀ d s, (d, s) ∈ sl → ∀ id ∈ s.ids, id < σ.next := by
                clear hsS hsl hadd hhead
                intro d s hmem
                induction sl with
                | nil => cases hmem
                | cons p r ih =>
                  simp only [idsOk, Bool.and_eq_true] at hidsB
                  rcases List.mem_cons.1 hmem with e | hmem
                  · subst e
                    intro id hi
                    have := List.all_eq_true.1 hidsB.1 id hi
                    simpa using this
                  · exact ih hidsB.2 hmem
              have hS1 : Sat w0 S { σ with slots := sl } β a' x := by
                refine ⟨by rw [hI.defs]; exact hS.defs, by rw [hI.tmps]; exact hS.size, fun d s hmem => relV_mono (fun _ _ _ h => .inl h) (Keep.refl _ _) (fun _ _ => rfl) (hsS d s hmem), (hH x hx).move (fun _ _ _ h => .inl h) (Keep.refl _ _) (fun _ _ _ => sameB_refl) (fun _ _ _ _ => rfl), hS.low, hS.inj, hS.uniq, hidsl, hS.bndB, hS.ext.then hx, hS.lowS, hS.pins⟩
              have hheads := heads_all (ops := ops) hle
              have hSat : ∃ β', Sat w0 S σ1 β' a' x ∧ ∀ id, id < σ.next → β' id = β id := by
                by_cases hhas : hasNew = true
                · refine addNews_ok (w := w) (S := S) (rs := rs) (blks := σ.blks) (β := β) (hasNew := hasNew) (iv := iv) (n := n) (nx := σ.next) (fun i hi => hI.within i (hheads i hi)) (fun i j hi hj hne => hI.apart i j (hheads i hi) (hheads j hj) hne)
                    (fun i d hi hl => by have := hfin d; rw [hl] at this; exact this) hS.ext.size hhas (l := rs) (i := 0) (by simp) (by simpa using hrl) hadd hS1 hsS (hH x hx) (fun _ _ => rfl) (Nat.le_refl _)
                    (fun b c hb => .inl (hS.own b c hb)) (fun b c hb => .inl hb)
                · -- nothing new
                  have hnone : ∀ (l : List HX) (i : Nat) (σ3 : St), (∀ x ∈ l, ∀ ty segs kind, x ≠ .hr (.new ty segs kind)) → addNews ops n σ.next l i σ3 = some σ1 → σ3 = σ1 := by
                    intro l
                    induction l with
                    | nil => intro i σ3 _ h; simp only [addNews] at h; cases h; rfl
                    | cons y l ih =>
                      intro i σ3 hno h
                      cases y with
                      | skip => exact ih _ _ (fun x hx => hno x (by simp [hx])) h
                      | hr q => cases q with
                        | val s => exact ih _ _ (fun x hx => hno x (by simp [hx])) h
                        | call s => exact ih _ _ (fun x hx => hno x (by simp [hx])) h
                        | new ty segs kind => exact absurd rfl (hno _ (by simp) ty segs kind)
                  have e := hnone rs 0 _ (fun y hy ty segs kind e => by
                    subst e
                    obtain ⟨i, hi⟩ := List.getElem?_of_mem hy
                    have hin : i < n := by
                      rcases Nat.lt_or_ge i rs.length with h | h
                      · omega
                      · rw [List.getElem?_eq_none h] at hi; cases hi
                    have ho : ops[i]? = some (ops[i]'(by omega)) := by simp
                    obtain ⟨s1, s2, ob3, hx1, hstep, _, hrs⟩ := hsteps i _ (by omega) hin ho
                    rw [hi] at hrs
                    cases hrs
                    unfold headStep at hstep
                    have hf : hasNew = false := by simpa using hhas
                    simp only [hf, Bool.false_and, Bool.false_eq_true, if_false] at hstep
                    split at hstep <;> try cases hstep
                    split at hstep
                    · split at hstep <;> cases hstep
                    · split at hstep <;> cases hstep
                    · cases hstep
                    · split at hstep
                      · split at hstep
                        · cases hstep
                        · cases hstep
                      · cases hstep) hadd
                  exact ⟨β, e ▸ hS1, fun _ _ => rfl⟩
              obtain ⟨β', hS2, hβ'⟩ := hSat
              have hdl : (ops.toList.drop n).length = ops.size - n := by simp
              by_cases hE : LL = []
              · have := execSeq_ok (Q := Q) hctr (ops := ops) (l := ops.toList.drop n) (i := n) (fun j => by simp [List.getElem?_drop]) htail ho2 hS2 hk
                rw [hdl] at this
                exact wpTail_of_ops (fun L y i id hm => by rw [hE] at hm; cases hm) _ _ _ _ this
              · have htk : tailOk ops σ1.slots LL (ops.toList.drop n) n = true := by
                  simp only [Bool.or_eq_true, List.isEmpty_iff] at hLLok
                  exact hLLok.resolve_left hE
                have hkeep : ∀ i id, (i, id) ∈ LL → β id = β' id ∧ ∃ bk, (id, bk) ∈ σ1.blks ∧ bk.row = false := by
                  intro i id hm
                  obtain ⟨bk, m1, m2⟩ := hLLm i id hm
                  exact ⟨(hβ' id (hS.bndB id bk m1).1).symm, bk, addNews_keeps hadd m1, m2⟩
                have hC0 : CL ops n LL β w (heads ops n) x := fun i id hm _ => by
                  obtain ⟨bk, m1, m2⟩ := hLLm i id hm
                  exact hx.block _ (hS.blk.lt m1 (live_plain m2))
                have := tailL_ok (Q := Q) (n := n) (LL := LL) (w₀ := w) (βc := β) hctr (ops := ops) (l := ops.toList.drop n) (k := n) (fun j => by simp [List.getElem?_drop]) (by simp; omega) htail ho2 hS2 (Nat.le_refl _) htk hkeep hC0 hk
                rw [hdl] at this
                exact this
          · cases h
        · cases h
      · cases h
    · cases h
  · cases h
end
end Go.Eng

namespace Go.Eng
open Go.RowKit
def slicePtr (slots : List (Nat × SV)) (o : Oper) : Bool :=
  match o.guard, o.op with
  | none, .slice _ x none none none => match lookρ slots x with | some (.ptr _ _ _) => true | _ => false
  | _, _ => false
def sliceSl (slots : List (Nat × SV)) (o : Oper) : Bool :=
  match o.guard, o.op with
  | none, .slice _ x _ _ none => match rdρ (lookρ slots) x with | some s => s.slen.isSome | none => false
  | _, _ => false
def numOp (slots : List (Nat × SV)) (o : Oper) : Bool :=
  match o.guard, o.op with
  | none, .binOp _ _ x y _ => match rdρ (lookρ slots) x, rdρ (lookρ slots) y with | some a, some b => a.int?.isSome && b.int?.isSome | _, _ => false
  | _, _ => false
def SV.rigid : SV → Bool
  | .c .. => true
  | .i .. => true
  | .u .. => true
  | .cb _ => true
  | .b _ => true
  | _ => false
def pureStep (P : Program) (ctr : Ctr) (ops : Array Oper) (σ : St) (i : Nat) (o : Oper) (sc : List Bool) : Option (St × List Prop × List Bool) :=
  match guardOf ops σ.slots o with
  | none => none
  | some false => match putS σ o.dst (.tup []) with | some σ' => some (σ', [], sc) | none => none
  | some true => match evalR P ctr σ.blks (lookρ σ.slots) o with
      | some (.val s, ob) => if pureOp o || slicePtr σ.slots o || sliceSl σ.slots o || (numOp σ.slots o && s.rigid) then
          match resolveB (isGuard ops i) s sc with
          | some (s', ob2, sc') => match putS σ o.dst s' with | some σ' => some (σ', ob ++ ob2, sc') | none => none
          | none => none
        else none
      | _ => none
def firstPure (P : Program) (ctr : Ctr) (ops : Array Oper) (L : Array Bool) (σ : St) (sc : List Bool) : List Nat → Option (Nat × St × List Prop × List Bool)
  | [] => none
  | i :: r => if Region.free .any ops L i then (match ops[i]? with
      | some o => match pureStep P ctr ops σ i o sc with
        | some (σ', ob, sc') => some (i, σ', ob, sc')
        | none => firstPure P ctr ops L σ sc r
      | none => none) else firstPure P ctr ops L σ sc r
def execPF (P : Program) (ctr : Ctr) (ops : Array Oper) : Nat → Array Bool → St → List Bool → Option (St × List Prop × List Bool)
  | 0, _, _, _ => none
  | f + 1, L, σ, sc => match Region.ready .any ops L with
    | [] => some (σ, [], sc)
    | r => match firstPure P ctr ops L σ sc r with
      | some (i, σ1, ob1, sc1) => match execPF P ctr ops f (L.setIfInBounds i true) σ1 sc1 with
        | some (σ2, ob2, sc2) => some (σ2, ob1 ++ ob2, sc2)
        | none => none
      | none => match r with
        | [i] => match ops[i]? with
          | some o => match stepOp P ctr ops σ i o sc with
            | some (σ1, ob1, sc1) => match execPF P ctr ops f (L.setIfInBounds i true) σ1 sc1 with
              | some (σ2, ob2, sc2) => some (σ2, ob1 ++ ob2, sc2)
              | none => none
            | none => none
          | none => none
        | _ => none
def drawPF (P : Program) (ctr : Ctr) (ops : Array Oper) (σ : St) (sc : List Bool) : Option (St × List Prop × List Bool) :=
  if Region.noSelect ops then execPF P ctr ops (ops.size + 1) (Array.replicate ops.size false) σ sc else none
section
variable {P : Program} {ctr : Ctr} {w0 : Fr} {w : World} {S : Own} {σ σ' : St} {β : Nat → Nat} {a : Act} {ops : Array Oper}
theorem firstPure_ok : ∀ {r : List Nat} {L : Array Bool} {sc sc' : List Bool} {i : Nat} {ob : List Prop}, firstPure P ctr ops L σ sc r = some (i, σ', ob, sc') → i ∈ r ∧ Region.free .any ops L i = true ∧ ∃ o, ops[i]? = some o ∧ pureStep P ctr ops σ i o sc = some (σ', ob, sc') := by
  intro r
  induction r with
  | nil => intro L sc sc' i ob h; simp [firstPure] at h
  | cons j r ih =>
    intro L sc sc' i ob h
    simp only [firstPure] at h
    split at h
    · rename_i hf
      split at h
      · rename_i o ho
        split at h
        · rename_i hp; cases h; exact ⟨by simp, hf, o, ho, hp⟩
        · obtain ⟨h1, h2⟩ := ih h; exact ⟨List.mem_cons_of_mem _ h1, h2⟩
      · cases h
    · obtain ⟨h1, h2⟩ := ih h; exact ⟨List.mem_cons_of_mem _ h1, h2⟩
theorem slice_yields {ow : Own} {x : World} {slots : List (Nat × SV)} {H : List (Nat × Bk)} (hρ : ∀ y s, lookρ slots y = some s → relV β ow x s (a.eval y)) {o : Oper} (hp : slicePtr slots o = true) {s : SV} {ob : List Prop} (h : evalR P ctr H (lookρ slots) o = some (.val s, ob)) :
    ∃ v, (∀ w', (execOp a.eval o).run P w' = .ok (.value v) w') ∧ relV β ow x s v := by
  obtain ⟨dst, op, type, pos, after, guard⟩ := o
  unfold slicePtr at hp
  simp only at hp
  split at hp
  · rename_i t y
    split at hp
    · rename_i id off ix hl
      have hr : rdρ (lookρ slots) y = some (.ptr id off ix) := by simp [rdρ, hl, SV.rd]
      unfold evalR at h
      simp only [movesOp, Bool.false_eq_true, if_false] at h
      have hx : extraH P (rdρ (lookρ slots)) ⟨dst, .slice t y none none none, type, pos, after, none⟩ = none := by
        unfold extraH
        simp only [hr]
        split
        · rename_i e s' hu hs
          cases hs
          simp [SV.slen]
        · rename_i hs; cases hs
        · rfl
      have hx2 : extra2 P (rdρ (lookρ slots)) ⟨dst, .slice t y none none none, type, pos, after, none⟩ = none := rfl
      rw [hx2] at h
      simp only at h
      rw [hx] at h
      simp only at h
      unfold evalH at h
      simp only [hr] at h
      split at h
      · rename_i r' hb
        cases h
        unfold sliceAllS at hb
        split at hb
        · rename_i n e id' hu hpp
          cases hpp
          split at hb
          · rename_i bk es hg hs
            split at hb
            · rename_i hc
              cases hb
              have h1 := relV_scalar rfl rfl (hρ y _ hl)
              simp only [rel, List.cons.injEq, and_true] at h1
              refine ⟨.slice (some ⟨β id, 0, none⟩) n n, fun w' => ?_, relV_of1 rfl (by simp only [rel])⟩
              simp only [execOp, Option.map_none, Sem.run_bind, h1, Instr.sliceAt, run_underlying hu, Result.andThen_ok, Instr.sureAddr, Sem.run_pure, Instr.sliceBounds, sizeOf_run hs]
              simp [hc.2, Ix.n, add_plain]
            · cases hb
          · cases hb
        · cases hb
      · cases h
    · cases hp
  · cases hp
theorem rigid_relV {ow ow' : Own} {x x' : World} {s : SV} (hs : s.rigid = true) {v : Value} (h : relV β ow x s v) : relV β ow' x' s v ∧ ∀ v', relV β ow' x' s v' → v' = v := by
  have hn : s.noSl = true := by cases s <;> first | rfl | (simp [SV.rigid] at hs)
  have hi : s.ids = [] := by cases s <;> first | rfl | (simp [SV.rigid] at hs)
  refine ⟨relV_noSl ow' x' hn (fun _ _ => rfl) h, fun v' h' => ?_⟩
  have ht : s.isTup = false ∧ s.isAgg = false := by cases s <;> first | exact ⟨rfl, rfl⟩ | (simp [SV.rigid] at hs)
  have h1 := relV_scalar ht.1 ht.2 h
  have h2 := relV_scalar ht.1 ht.2 h'
  cases s <;> simp [SV.rigid] at hs <;> simp only [rel, List.cons.injEq, and_true] at h1 h2 <;> simp_all
theorem num_yields {ow : Own} {x : World} {slots : List (Nat × SV)} {H : List (Nat × Bk)} (hρ : ∀ y s, lookρ slots y = some s → relV β ow x s (a.eval y)) {o : Oper} (hp : numOp slots o = true) {s : SV} {ob : List Prop} (hs : s.rigid = true) (h : evalR P ctr H (lookρ slots) o = some (.val s, ob)) (hob : All ob) :
    ∃ v, (∀ w', (execOp a.eval o).run P w' = .ok (.value v) w') ∧ relV β ow x s v := by
  obtain ⟨dst, op, type, pos, after, guard⟩ := o
  unfold numOp at hp
  simp only at hp
  split at hp
  · rename_i bop t y z yt
    split at hp
    · rename_i p q hy hz
      simp only [Bool.and_eq_true] at hp
      obtain ⟨hp1, hp2⟩ := hp
      have hr := rdρ_ok hρ
      unfold evalR at h
      simp only [movesOp, Bool.false_eq_true, if_false] at h
      have hx2 : extra2 P (rdρ (lookρ slots)) ⟨dst, .binOp bop t y z yt, type, pos, after, none⟩ = none := by
        simp only [extra2, hy, hz]
        cases p <;> first | (simp [SV.int?] at hp1; done) | (cases q <;> first | (simp [SV.int?] at hp2; done) | (simp [cmpNil, SV.slen]; done) | rfl)
      have hx : extraH P (rdρ (lookρ slots)) ⟨dst, .binOp bop t y z yt, type, pos, after, none⟩ = none := rfl
      rw [hx2] at h
      simp only at h
      rw [hx] at h
      simp only at h
      unfold evalH at h
      simp only [hy, hz] at h
      split at h
      · rename_i r' ob' hb
        cases h
        have rig : ∀ {u : SV}, u.int?.isSome = true → u.rigid = true := by
          intro u hu
          cases u <;> simp [SV.int?] at hu <;> rfl
        obtain ⟨v, hrun, hv⟩ := binV_ok (P := P) hb hob y z (hr y p hy) (hr z q hz)
        refine ⟨v, fun w' => ?_, hv⟩
        obtain ⟨v', hrun', hv'⟩ := binV_ok (P := P) (w := w') (ow := ow) hb hob y z (rigid_relV (rig hp1) (hr y p hy)).1 (rigid_relV (rig hp2) (hr z q hz)).1
        have := (rigid_relV hs hv).2 v' hv'
        subst this
        simp only [Sem.run_bind] at hrun'
        simp only [execOp, Sem.run_bind]
        cases hg : (eqGuard bop t y z (a.eval y) (a.eval z)).run P w' with
        | halt q w1 => rw [hg] at hrun'; simp at hrun'
        | ok u w1 =>
          rw [hg] at hrun'
          simp only [Result.andThen_ok] at hrun' ⊢
          rw [hrun']
          simp
      · cases h
    · cases hp
  · cases hp
theorem sliceSl_yields {ow : Own} {x : World} {slots : List (Nat × SV)} {H : List (Nat × Bk)} (hρ : ∀ y s, lookρ slots y = some s → relV β ow x s (a.eval y)) {o : Oper} (hp : sliceSl slots o = true) {s : SV} {ob : List Prop} (h : evalR P ctr H (lookρ slots) o = some (.val s, ob)) (hob : All ob) :
    ∃ v, (∀ w', (execOp a.eval o).run P w' = .ok (.value v) w') ∧ relV β ow x s v := by
  obtain ⟨dst, op, type, pos, after, guard⟩ := o
  unfold sliceSl at hp
  simp only at hp
  split at hp
  · rename_i t y lo hi
    split at hp
    · rename_i p hy
      obtain ⟨n, hn⟩ := Option.isSome_iff_exists.1 hp
      have hr := rdρ_ok hρ
      have hbd := @hr
      unfold evalR at h
      simp only [movesOp, Bool.false_eq_true, if_false] at h
      have hx2 : extra2 P (rdρ (lookρ slots)) ⟨dst, .slice t y lo hi none, type, pos, after, none⟩ = none := rfl
      rw [hx2] at h
      simp only at h
      cases he : extraH P (rdρ (lookρ slots)) ⟨dst, .slice t y lo hi none, type, pos, after, none⟩ with
      | none =>
        exfalso
        rw [he] at h
        simp only at h
        unfold evalH at h
        cases lo <;> cases hi <;> simp only [hy, reduceCtorEq] at h
        split at h
        · rename_i hb
          unfold sliceAllS at hb
          split at hb
          · simp [SV.slen] at hn
          · cases hb
        · cases h
      | some r =>
        rw [he] at h
        simp only [Option.some.injEq] at h
        subst h
        unfold extraH at he
        simp only [hy] at he
        split at he
        · rename_i e s' hu hs'
          cases hs'
          split at he
          · rename_i m hsl hsz
            split at he
            · rename_i l ob1 hh ob2 hb1 hb2
              split at he
              · rename_i r' hsub
                cases he
                obtain ⟨ho12, ho3⟩ := All.append.1 hob
                obtain ⟨ho1, ho2⟩ := All.append.1 ho12
                have hle : l ≤ hh := ho3.1
                have hhn : hh ≤ m := ho3.2.1
                have e1 := bndS_ok hr hb1 ho1
                have e2 := bndS_ok hr hb2 ho2
                have key : ∀ {cs : List Value}, ReadsAs ow x (a.eval y) cs → cs.length = m → ∃ v, (∀ w', (execOp a.eval ⟨dst, .slice t y lo hi none, type, pos, after, none⟩).run P w' = .ok (.value v) w') ∧ ReadsAs ow x v ((cs.take hh).drop l) := by
                  intro cs hrd hcl
                  obtain ⟨A, c, hv, hc, _, _⟩ := readsAs_cells hrd
                  rw [hcl] at hv hc
                  rw [hv] at hrd
                  refine ⟨_, fun w' => ?_, reads_sub hrd hle (by omega)⟩
                  simp only [execOp, Sem.run_bind, hv, Option.map_none, slice_run (P := P) (w := w') (A := A) (c := c) hu hsz e1 e2 hle (by omega), Result.andThen_ok, Sem.run_pure]
                cases p <;> simp only [SV.slen] at hsl <;> try cases hsl
                · rename_i k x'
                  simp only [subSl] at hsub
                  cases hsub
                  have h1 := relV_scalar rfl rfl (hr y _ hy)
                  simp only [rel, List.cons.injEq, and_true] at h1
                  obtain ⟨⟨v, e3, hrd⟩, hl⟩ := h1
                  subst e3
                  obtain ⟨u, hrun, hru⟩ := key hrd (by simp [ints])
                  refine ⟨u, hrun, relV_of1 rfl ?_⟩
                  simp only [rel]
                  refine ⟨⟨u, rfl, ?_⟩, fun m hm => hl m (List.mem_of_mem_take (List.mem_of_mem_drop hm))⟩
                  simpa [ints] using hru
                · rename_i x'
                  simp only [subSl] at hsub
                  cases hsub
                  have h1 := relV_scalar rfl rfl (hr y _ hy)
                  simp only [rel, List.cons.injEq, and_true] at h1
                  obtain ⟨⟨v, e3, hrd⟩, hl⟩ := h1
                  subst e3
                  obtain ⟨u, hrun, hru⟩ := key hrd (by simp)
                  refine ⟨u, hrun, relV_of1 rfl ?_⟩
                  simp only [rel]
                  refine ⟨⟨u, rfl, ?_⟩, fun m hm => hl m (List.mem_of_mem_take (List.mem_of_mem_drop hm))⟩
                  simpa using hru
              · cases he
            · cases he
          · cases he
        · rename_i hs'
          cases hs'
          simp [SV.slen] at hn
        · cases he
    · cases hp
  · cases hp
theorem pureStep_ok {i : Nat} {o : Oper} {sc sc' : List Bool} {ob : List Prop} (h : pureStep P ctr ops σ i o sc = some (σ', ob, sc')) (hob : All ob) (hS : Sat w0 S σ β a w) :
    ∃ v, Yields P ops o v a ∧ Sat w0 S σ' β (a.put o.dst v) w := by
  unfold pureStep at h
  split at h
  · cases h
  · rename_i hg
    split at h
    · rename_i σ1 hput
      cases h
      exact ⟨undef, .inr ⟨guard_ok hS.slot hg, rfl⟩, hS.put hput ⟨[], rfl, rfl⟩⟩
    · cases h
  · rename_i hg
    split at h
    · rename_i s ob1 hev
      split at h
      · rename_i hp
        split at h
        · rename_i s' ob2 sc1 hres
          split at h
          · rename_i σ1 hput
            cases h
            obtain ⟨ho1, ho2⟩ := All.append.1 hob
            have key : ∃ v, (∀ w', (execOp a.eval o).run P w' = .ok (.value v) w') ∧ relV β (owS S σ.blks β) w s v := by
              simp only [Bool.or_eq_true, Bool.and_eq_true] at hp
              rcases hp with ((hp | hp) | hp) | hp
              · exact pureR_yields (fun y s hy => hS.look hy) hp hev
              · exact slice_yields (fun y s hy => hS.look hy) hp hev
              · exact sliceSl_yields (fun y s hy => hS.look hy) hp hev ho1
              · exact num_yields (fun y s hy => hS.look hy) hp.1 hp.2 hev ho1
            obtain ⟨v, h1, h2⟩ := key
            exact ⟨v, .inl ⟨guard_ok hS.slot hg, h1⟩, hS.put hput (resolveB_ok hres ho2 h2)⟩
          · cases h
        · cases h
      · cases h
    · cases h
theorem execPF_ok (hctr : CtrOk P ctr) (hs : Region.noSelect ops = true) {Q : Exit → Act → World → Prop} (hQ : ∀ c a w, ¬ Q (.panic c) a w) : ∀ {f : Nat} {L : Array Bool} {σ σ' : St} {sc sc' : List Bool} {ob : List Prop} {β : Nat → Nat} {a : Act} {w : World},
    execPF P ctr ops f L σ sc = some (σ', ob, sc') → All ob → Sat w0 S σ β a w → (∀ β' a' w', Sat w0 S σ' β' a' w' → Q .normal a' w') → ∀ {g : Nat}, left L ≤ g → L.size = ops.size → wpAny P .any ops Q g L a w := by
  intro f
  induction f with
  | zero => intro L σ σ' sc sc' ob β a w h; simp [execPF] at h
  | succ f ih =>
    intro L σ σ' sc sc' ob β a w h hob hS hk g hl hsz
    simp only [execPF] at h
    split at h
    · rename_i hr
      cases h
      exact wpAny_done hr (hk β a w hS) g
    · rename_i hr0
      have hstep : ∀ i, i ∈ Region.ready .any ops L → left L = left (L.setIfInBounds i true) + 1 := fun i hi => by
        obtain ⟨h1, o, ho, _⟩ := mem_ready.1 hi
        exact left_set (by rw [hsz]; exact (Array.getElem?_eq_some_iff.1 ho).1) h1
      have hpos : 0 < g := by
        cases hr : Region.ready .any ops L with
        | nil => exact absurd hr hr0
        | cons j t => have := hstep j (by rw [hr]; simp); omega
      obtain ⟨g, rfl⟩ : ∃ g', g = g' + 1 := ⟨g - 1, by omega⟩
      split at h
      · rename_i i σ1 ob1 sc1 hp
        split at h
        · rename_i σ2 ob2 sc2 hx
          cases h
          obtain ⟨ho1, ho2⟩ := All.append.1 hob
          obtain ⟨hm, hf, o, ho, hst⟩ := firstPure_ok hp
          obtain ⟨v, hy, hS1⟩ := pureStep_ok hst ho1 hS
          refine wpAny_take ho hs hf (by simpa using hm) (fun c a w h => absurd h (hQ c _ w)) hy ?_
          exact ih hx ho2 hS1 hk (by have := hstep i hm; omega) (by simpa using hsz)
        · cases h
      · split at h
        · rename_i i hri
          split at h
          · rename_i o ho
            split at h
            · rename_i σ1 ob1 sc1 hst
              split at h
              · rename_i σ2 ob2 sc2 hx
                cases h
                obtain ⟨ho1, ho2⟩ := All.append.1 hob
                refine wpAny_all hri (by simp) ?_
                intro j hj
                simp only [List.mem_singleton] at hj
                subst hj
                refine stepOp_ok hctr hst ho1 ho hS fun β' a' w' hS' => ?_
                exact ih hx ho2 hS' hk (by have := hstep j (by rw [hri]; simp); omega) (by simpa using hsz)
              · cases h
            · cases h
          · cases h
        · cases h
theorem drawPF_ok (hm : P.follows .mixedOrders = true) (hctr : CtrOk P ctr) {id : Nat} {sc sc' : List Bool} {ob : List Prop} (h : drawPF P ctr ops σ sc = some (σ', ob, sc')) (hob : All ob) (hS : Sat w0 S σ β a w)
    {Q : Exit → Act → World → Prop} (hQ : ∀ c a w, ¬ Q (.panic c) a w) (hk : ∀ β' a' w', Sat w0 S σ' β' a' w' → Q .normal a' w') : (Code.region id ops true).wp P Q a w := by
  unfold drawPF at h
  split at h
  · rename_i hs
    refine wp_region_any hm ?_
    have hx : Ext w { w with drawn := w.drawn + 1 } := ⟨rfl, rfl, rfl, Nat.le_refl _, fun _ _ => rfl⟩
    refine execPF_ok hctr hs hQ h hob (hS.extend hx) hk ?_ (by simp)
    simp [left, List.countP_replicate]
  · cases h
end
end Go.Eng

namespace Go.Eng
open Go.RowKit
def child : Code → Nat → Option Code
  | .seq a _, 0 => some a
  | .seq _ b, 1 => some b
  | .cond _ x _, 0 => some x
  | .cond _ _ y, 1 => some y
  | .block _ c, 0 => some c
  | .loop c, 0 => some c
  | _, _ => none
def nav (c : Code) : List Nat → Option Code
  | [] => some c
  | i :: p => match nav c p with
    | some d => child d i
    | none => none
inductive It where
  | at (p : List Nat)      -- the code at p
  | lp (p : List Nat)      -- the loop at p, at its head
  | blk (id : Nat)         -- the end of a block
def LoopW (P : Program) (c : Code) (Q : Exit → Act → World → Prop) (a : Act) (w : World) : Prop :=
  ∀ I : Act → World → Prop, (∀ a w, c.wp P (Exit.then I Q) a w → I a w) → I a w
theorem LoopW.step {P : Program} {c : Code} {Q : Exit → Act → World → Prop} {a : Act} {w : World} (h : c.wp P (Exit.then (LoopW P c Q) Q) a w) : LoopW P c Q a w := by
  intro I hI
  refine hI a w (wp_mono h fun e a w hq => ?_)
  cases e <;> first | exact hq | exact hq I hI
theorem LoopW.wp {P : Program} {c : Code} {Q : Exit → Act → World → Prop} {a : Act} {w : World} (h : LoopW P c Q a w) : (Code.loop c).wp P Q a w := by
  intro b k cs
  have := h (fun a w => ∀ (b : Frame) (k : List Item) (cs : List Frame), ∃ e a' w', Q e a' w' ∧ Arrives P (lone (b.at a (.code c :: .inLoop c :: k)) cs w) b k cs e a' w') (fun a w hw b k cs => by
    obtain ⟨e, a₁, w₁, hq, harr⟩ := hw b (.inLoop c :: k) cs
    cases e with
    | normal =>
      obtain ⟨e₂, a₂, w₂, hq₂, harr₂⟩ := hq b k cs
      exact ⟨e₂, a₂, w₂, hq₂, .of_steps (Steps.trans harr (.one step_inLoop)) harr₂⟩
    | exit id => exact ⟨_, a₁, w₁, hq, .pass (x := .inLoop c) rfl (fun _ _ => .inl (by simp)) harr⟩
    | goto l => exact ⟨_, a₁, w₁, hq, .pass (x := .inLoop c) rfl (fun _ _ => .inl (by simp)) harr⟩
    | ret => exact ⟨_, a₁, w₁, hq, .pass (x := .inLoop c) rfl (fun _ _ => .inl (by simp)) harr⟩
    | panic ch => exact ⟨_, a₁, w₁, hq, .pass (x := .inLoop c) rfl (fun _ _ => .inl (by simp)) harr⟩
    | outgrown => exact ⟨_, a₁, w₁, hq, .pass (x := .inLoop c) rfl (fun _ _ => .inl (by simp)) harr⟩) b k cs
  obtain ⟨e, a', w', hq, harr⟩ := this
  exact ⟨e, a', w', hq, .of_steps (.one step_loop) harr⟩
def contQ (P : Program) (body : Code) (Q : Exit → Act → World → Prop) : List It → Exit → Act → World → Prop
  | [], e, a, w => Q e a w
  | .at p :: st, .normal, a, w => match nav body p with | some c => c.wp P (contQ P body Q st) a w | none => False
  | .lp p :: st, .normal, a, w => match nav body p with | some (.loop c) => LoopW P c (contQ P body Q st) a w | _ => False
  | .blk id :: st, .exit j, a, w => if j = id then contQ P body Q st .normal a w else contQ P body Q st (.exit j) a w
  | _ :: st, e, a, w => contQ P body Q st e a w
def unwind (id : Nat) : List It → Option (List It)
  | [] => none
  | .blk j :: st => if id = j then some st else unwind id st
  | _ :: st => unwind id st
def stepC (P : Program) (ctr : Ctr) (body : Code) (unroll : Bool) (st : List It) (σ : St) (sc : List Bool) : Option (List It × St × List Prop × List Bool) :=
  match st with
  | [] => none
  | .blk _ :: r => some (r, σ, [], sc)
  | .lp p :: r => match unroll, nav body p with | true, some (.loop _) => some (.at (0 :: p) :: .lp p :: r, σ, [], sc) | _, _ => none
  | .at p :: r => match nav body p with
    | some .skip => some (r, σ, [], sc)
    | some (.label _) => some (r, σ, [], sc)
    | some (.seq _ _) => some (.at (0 :: p) :: .at (1 :: p) :: r, σ, [], sc)
    | some (.block id _) => some (.at (0 :: p) :: .blk id :: r, σ, [], sc)
    | some (.loop _) => some (.lp p :: r, σ, [], sc)
    | some (.exit id) => match unwind id r with | some r' => some (r', σ, [], sc) | none => none
    | some .ret => some ([], σ, [], sc)
    | some (.cond c _ _) => match lookρ σ.slots c with
      | some (.cb true) => some (.at (0 :: p) :: r, σ, [], sc)
      | some (.cb false) => some (.at (1 :: p) :: r, σ, [], sc)
      | some (.b x) => match sc with
        | true :: sc' => some (.at (0 :: p) :: r, σ, [x = true], sc')
        | false :: sc' => some (.at (1 :: p) :: r, σ, [x = false], sc')
        | [] => none
      | _ => none
    | some (.region _ ops false) => match execSeq P ctr ops ops.toList 0 σ sc with | some (σ', ob, sc') => some (r, σ', ob, sc') | none => none
    | some (.region _ ops true) => match execDraw P ctr ops σ sc with | some (σ', ob, sc') => some (r, σ', ob, sc') | none => (match drawPF P ctr ops σ sc with | some (σ', ob, sc') => some (r, σ', ob, sc') | none => none)
    | _ => none
def run (P : Program) (ctr : Ctr) (body : Code) (unroll : Bool) : Nat → List It → St → List Bool → List It × St × List Prop × List Bool
  | 0, st, σ, sc => (st, σ, [], sc)
  | f + 1, st, σ, sc => match stepC P ctr body unroll st σ sc with
    | some (st', σ', ob, sc') => match run P ctr body unroll f st' σ' sc' with | (a, b, c, d) => (a, b, ob ++ c, d)
    | none => (st, σ, [], sc)
section
variable {P : Program} {ctr : Ctr} {body : Code} {Q : Exit → Act → World → Prop} {w0 : Fr} {S : Own}
def Hold (P : Program) (body : Code) (Q : Exit → Act → World → Prop) (w0 : Fr) (S : Own) (st : List It) (σ : St) : Prop :=
  ∀ β a w, Sat w0 S σ β a w → contQ P body Q st .normal a w
theorem contQ_panic (hQ : ∀ c a w, ¬ Q (.panic c) a w) : ∀ st c a w, ¬ contQ P body Q st (.panic c) a w := by
  intro st
  induction st with
  | nil => intro c a w; exact hQ c a w
  | cons x st ih => intro c a w; cases x <;> (simp only [contQ]; exact ih c a w)
theorem contQ_ret : ∀ st a w, Q .ret a w → contQ P body Q st .ret a w := by
  intro st
  induction st with
  | nil => intro a w h; exact h
  | cons x st ih => intro a w h; cases x <;> (simp only [contQ]; exact ih a w h)
theorem contQ_exit {id : Nat} : ∀ st st' a w, unwind id st = some st' → contQ P body Q st' .normal a w → contQ P body Q st (.exit id) a w := by
  intro st
  induction st with
  | nil => intro st' a w h; simp [unwind] at h
  | cons x st ih =>
    intro st' a w h hc
    cases x with
    | blk j =>
      simp only [unwind] at h
      simp only [contQ]
      split at h
      · rename_i e; cases h; subst e; simp only [if_true]; exact hc
      · rename_i e; simp only [e, if_false]; exact ih st' a w h hc
    | «at» p => simp only [unwind] at h; simp only [contQ]; exact ih st' a w h hc
    | lp p => simp only [unwind] at h; simp only [contQ]; exact ih st' a w h hc
theorem contQ_then {next : Act → World → Prop} {st : List It} {x : It} (hx : ∀ e a w, e ≠ .normal → contQ P body Q st e a w → contQ P body Q (x :: st) e a w) (hn : ∀ a w, next a w → contQ P body Q (x :: st) .normal a w) :
    ∀ e a w, Exit.then next (contQ P body Q st) e a w → contQ P body Q (x :: st) e a w := by
  intro e a w h
  cases e <;> first | exact hn a w h | exact hx _ a w (by simp) h
theorem hold_unroll {p : List Nat} {st : List It} {σ : St} {c : Code} (hc : nav body p = some (.loop c)) (h : Hold P body Q w0 S (.at (0 :: p) :: .lp p :: st) σ) : Hold P body Q w0 S (.lp p :: st) σ := by
  intro β a w hS
  have h1 := h β a w hS
  have e : nav body (0 :: p) = some c := by simp [nav, hc, child]
  simp only [contQ, e] at h1
  simp only [contQ, hc]
  refine LoopW.step (wp_mono h1 fun e a w hq => ?_)
  cases e <;> simp only [contQ, Exit.then, hc] at hq ⊢ <;> exact hq
theorem stepC_ok (hm : P.follows .mixedOrders = true) (hctr : CtrOk P ctr) (hQ : ∀ c a w, ¬ Q (.panic c) a w) (hQr : ∀ a w, Q .normal a w → Q .ret a w) {unroll : Bool} {st st' : List It} {σ σ' : St} {sc sc' : List Bool} {ob : List Prop}
    (h : stepC P ctr body unroll st σ sc = some (st', σ', ob, sc')) (hob : All ob) (hk : Hold P body Q w0 S st' σ') : Hold P body Q w0 S st σ := by
  unfold stepC at h
  split at h
  · cases h
  · cases h; intro β a w hS; simp only [contQ]; exact hk β a w hS
  · rename_i p r
    split at h
    · rename_i c hc
      cases h
      exact hold_unroll hc hk
    · cases h
  · rename_i p r
    split at h
    · rename_i hn
      cases h; intro β a w hS; simp only [contQ, hn]; exact wp_skip (hk β a w hS)
    · rename_i l hn
      cases h; intro β a w hS; simp only [contQ, hn]; exact wp_label (hk β a w hS)
    · rename_i x y hn
      cases h; intro β a w hS
      have h1 := hk β a w hS
      simp only [contQ, nav, hn, child] at h1 ⊢
      refine wp_seq (wp_mono h1 fun e a w hq => ?_)
      cases e <;> simp only [contQ, Exit.then, nav, hn, child] at hq ⊢ <;> exact hq
    · rename_i id c hn
      cases h; intro β a w hS
      have h1 := hk β a w hS
      simp only [contQ, nav, hn, child] at h1 ⊢
      refine wp_block (wp_mono h1 fun e a w hq => ?_)
      cases e <;> simp only [contQ, Exit.inBlock] at hq ⊢ <;> exact hq
    · rename_i c hn
      cases h; intro β a w hS
      have h1 := hk β a w hS
      simp only [contQ, hn] at h1 ⊢
      exact h1.wp
    · rename_i id hn
      split at h
      · rename_i r' hu
        cases h; intro β a w hS
        simp only [contQ, hn]
        exact wp_exit (contQ_exit r _ a w hu (hk β a w hS))
      · cases h
    · rename_i hn
      cases h; intro β a w hS
      simp only [contQ, hn]
      exact wp_ret (contQ_ret r a w (hQr a w (hk β a w hS)))
    · rename_i c x y hn
      have branch : ∀ (t : Bool) (β : Nat → Nat) (a : Act) (w : World), a.eval c = .bool t → contQ P body Q (.at ((if t then 0 else 1) :: p) :: r) .normal a w → contQ P body Q (.at p :: r) .normal a w := by
        intro t β a w ht h1
        simp only [contQ, nav, hn] at h1 ⊢
        cases t
        · exact wp_cond_false ht (by simpa [child] using h1)
        · exact wp_cond_true ht (by simpa [child] using h1)
      split at h
      · rename_i hl
        cases h; intro β a w hS
        have h2 := relV_scalar rfl rfl (hS.look hl)
        simp only [rel, List.cons.injEq, and_true] at h2
        exact branch true β a w h2 (hk β a w hS)
      · rename_i hl
        cases h; intro β a w hS
        have h2 := relV_scalar rfl rfl (hS.look hl)
        simp only [rel, List.cons.injEq, and_true] at h2
        exact branch false β a w h2 (hk β a w hS)
      · rename_i b hl
        split at h
        · cases h; intro β a w hS
          have h2 := relV_scalar rfl rfl (hS.look hl)
          simp only [rel, List.cons.injEq, and_true] at h2
          rw [hob.1] at h2
          exact branch true β a w h2 (hk β a w hS)
        · cases h; intro β a w hS
          have h2 := relV_scalar rfl rfl (hS.look hl)
          simp only [rel, List.cons.injEq, and_true] at h2
          rw [hob.1] at h2
          exact branch false β a w h2 (hk β a w hS)
        · cases h
      · cases h
    · rename_i id ops hn
      split at h
      · rename_i σ1 ob1 sc1 hx
        cases h; intro β a w hS
        simp only [contQ, hn]
        refine wp_region ?_
        have := execSeq_ok (Q := contQ P body Q _) hctr (l := ops.toList) (i := 0) (by simp) hx hob hS hk
        rw [List.range_eq_range']
        simpa using this
      · cases h
    · rename_i id ops hn
      split at h
      · rename_i σ1 ob1 sc1 hx
        cases h; intro β a w hS
        simp only [contQ, hn]
        exact execDraw_ok hm hctr hx hob hS (contQ_panic hQ _) hk
      · split at h
        · rename_i σ1 ob1 sc1 hx
          cases h; intro β a w hS
          simp only [contQ, hn]
          exact drawPF_ok hm hctr hx hob hS (contQ_panic hQ _) hk
        · cases h
    · cases h
theorem run_ok (hm : P.follows .mixedOrders = true) (hctr : CtrOk P ctr) (hQ : ∀ c a w, ¬ Q (.panic c) a w) (hQr : ∀ a w, Q .normal a w → Q .ret a w) {unroll : Bool} : ∀ (f : Nat) {st st' : List It} {σ σ' : St} {sc sc' : List Bool} {ob : List Prop},
    run P ctr body unroll f st σ sc = (st', σ', ob, sc') → All ob → Hold P body Q w0 S st' σ' → Hold P body Q w0 S st σ := by
  intro f
  induction f with
  | zero => intro st st' σ σ' sc sc' ob h _ hk; simp only [run] at h; cases h; exact hk
  | succ f ih =>
    intro st st' σ σ' sc sc' ob h hob hk
    simp only [run] at h
    split at h
    · rename_i st1 σ1 ob1 sc1 hst
      cases hr : run P ctr body unroll f st1 σ1 sc1 with
      | mk q1 q =>
        obtain ⟨q2, q3, q4⟩ := q
        rw [hr] at h
        simp only at h
        cases h
        obtain ⟨ho1, ho2⟩ := All.append.1 hob
        exact stepC_ok hm hctr hQ hQr hst ho1 (ih hr ho2 hk)
    · cases h; exact hk
end
end Go.Eng

namespace Go.Eng
open Go.RowKit
def viewR (blks : List (Nat × Bk)) (s : SV) : Option SV :=
  if s.ids.isEmpty && !s.isTup then some s else deepV blks 80 s
def retOne (P : Program) (σ : St) (r : ResultVar) : Option SV :=
  match r with
  | .tmp t => match getS σ.slots t with | some s => viewR σ.blks s.rd | none => none
  | .cell ad t => match getS σ.slots ad, aggT P t, szT P t with
    | some (.ptr id off ix), some agg, some size => match getB σ.blks id with
      | some bk => match loadB bk agg size off ix with
        | some (s, []) => viewR σ.blks s.rd
        | _ => none
      | none => none
    | _, _, _ => none
def retAll (P : Program) (σ : St) : List ResultVar → Option (List SV)
  | [] => some []
  | r :: l => match retOne P σ r, retAll P σ l with
    | some s, some t => some (s :: t)
    | _, _ => none
def joinR : List SV → SV
  | [s] => s
  | l => .tup l
def retS (P : Program) (rs : Array ResultVar) (σ : St) : Option SV :=
  match retAll P σ rs.toList with
  | some l => some (joinR l)
  | none => none
def resF (tmps : Array Value) : ResultVar → Sem Value
  | .tmp t => pure (tmps.getD t undef)
  | .cell ad t => do loadVar t (← asAddr (tmps.getD ad undef))
theorem results_eq (fn : Func) (tmps : Array Value) : results fn tmps = (do
    let vs ← fn.results.mapM (resF tmps)
    pure (if h : vs.size = 1 then vs[0] else .tuple vs)) := rfl
def Fin (P : Program) (fn : Func) (w0 : Fr) (S : Own) (res : SV) : Exit → Act → World → Prop
  | .normal, a, w => a.defers = [] ∧ ∃ v, (results fn a.tmps).run P w = .ok v w ∧ Bel w0 w ∧ relV (fun _ => 0) S w res v
  | .ret, a, w => a.defers = [] ∧ ∃ v, (results fn a.tmps).run P w = .ok v w ∧ Bel w0 w ∧ relV (fun _ => 0) S w res v
  | _, _, _ => False
section
variable {P : Program} {fn : Func} {body : Code} {w0 : Fr} {w : World} {S : Own} {σ : St} {β : Nat → Nat} {a : Act}
theorem viewR_ok (hS : Sat w0 S σ β a w) {s r : SV} (h : viewR σ.blks s = some r) {v : Value} (hv : relV β (owS S σ.blks β) w s v) : relV1 (fun _ => 0) S w r v := by
  unfold viewR at h
  split at h
  · rename_i hc
    simp only [Bool.and_eq_true, List.isEmpty_iff, Bool.not_eq_true'] at hc
    cases h
    exact relV1_mono (fun _ _ _ h => .inl h) (Keep.refl _ _) (fun id hid => by rw [hc.1] at hid; cases hid) (relV_one hc.2 hv)
  · have ht : s.isTup = false := by
      cases s <;> first | rfl | skip
      simp only [deepV, SV.rd, SV.isTup] at h
      simp at h
    obtain ⟨cs, h1, rfl⟩ := relV_one ht hv
    obtain ⟨h2, h3⟩ := (deep_ok hS.blk (S := S) (fun _ _ h => .inl h) (fun id bk hg j hs => by
      have h1 := hS.lowS _ _ hs
      rcases hS.low id _ (getB_mem hg) (live_plain (getB_both hg).2) with h2 | h2
      · omega
      · exact h1.2 h2) 80).1 h h1
    exact ⟨cs, h2, by rw [h3]⟩
theorem retOne_ok (hS : Sat w0 S σ β a w) {r : ResultVar} {s : SV} (h : retOne P σ r = some s) :
    ∃ v, (resF a.tmps r).run P w = .ok v w ∧ relV1 (fun _ => 0) S w s v := by
  cases r with
  | tmp t =>
    simp only [retOne] at h
    split at h
    · rename_i s' hs
      exact ⟨_, rfl, viewR_ok hS h (rd_ok (hS.slot t s' (getS_mem hs)))⟩
    · cases h
  | cell ad t =>
    simp only [retOne] at h
    split at h
    · rename_i id off ix agg size hs ha hsz
      split at h
      · rename_i bk hg
        split at h
        · rename_i s' hl
          have h1 := relV_scalar rfl rfl (hS.slot ad _ (getS_mem hs))
          simp only [rel, List.cons.injEq, and_true] at h1
          obtain ⟨cs, hr, hb⟩ := (hS.blk id bk (getB_both hg).1).1 (getB_both hg).2
          obtain ⟨v, hrun, hv⟩ := loadB_ok (P := P) hl trivial ha hsz hr hb
          refine ⟨v, ?_, viewR_ok hS h (rd_ok hv)⟩
          simp only [Instr.loadAt, Instr.sureAddr, Sem.run_bind, Sem.run_pure, Result.andThen_ok] at hrun
          simp only [resF, h1, asAddr, Sem.run_bind, Sem.run_pure, Result.andThen_ok]
          exact hrun
        · cases h
      · cases h
    · cases h
theorem retAll_ok (hS : Sat w0 S σ β a w) : ∀ {rs : List ResultVar} {l : List SV}, retAll P σ rs = some l →
    ∃ vs, (rs.mapM (resF a.tmps)).run P w = .ok vs w ∧ relVs (fun _ => 0) S w l vs ∧ vs.length = rs.length := by
  intro rs
  induction rs with
  | nil => intro l h; simp only [retAll] at h; cases h; exact ⟨[], by simp, rfl, rfl⟩
  | cons r rs ih =>
    intro l h
    simp only [retAll] at h
    split at h
    · rename_i s t h1 h2
      cases h
      obtain ⟨v, hv, hr⟩ := retOne_ok hS h1
      obtain ⟨vs, hvs, hrs, hlen⟩ := ih h2
      refine ⟨v :: vs, ?_, ⟨v, vs, rfl, hr, hrs⟩, by simp [hlen]⟩
      rw [List.mapM_cons, Sem.run_bind, hv]
      simp only [Result.andThen_ok, Sem.run_bind, hvs, Sem.run_pure]
    · cases h
theorem retS_ok (hS : Sat w0 S σ β a w) {r : SV} (h : retS P fn.results σ = some r) : ∃ v, (results fn a.tmps).run P w = .ok v w ∧ relV (fun _ => 0) S w r v := by
  unfold retS at h
  split at h
  · rename_i l hl
    cases h
    obtain ⟨vs, hvs, hrs, hlen⟩ := retAll_ok hS hl
    have hm : (fn.results.mapM (resF a.tmps)).run P w = .ok vs.toArray w := by
      rw [Array.mapM_eq_mapM_toList, Sem.run_map, hvs]; rfl
    have hll : l.length = vs.length := by
      clear hl hvs hm hlen
      induction l generalizing vs with
      | nil => rw [hrs]; rfl
      | cons s l ih => obtain ⟨v, t, rfl, _, h2⟩ := hrs; simp [ih t h2]
    by_cases h1 : vs.length = 1
    · obtain ⟨v, rfl⟩ := List.length_eq_one_iff.1 h1
      obtain ⟨s, rfl⟩ := List.length_eq_one_iff.1 (hll.trans h1)
      obtain ⟨v', t, e, hr, _⟩ := hrs
      cases e
      refine ⟨v, ?_, relV_up hr⟩
      rw [results_eq, Sem.run_bind, hm]
      simp
    · refine ⟨.tuple vs.toArray, ?_, ?_⟩
      · rw [results_eq, Sem.run_bind, hm]
        simp [h1]
      · have : joinR l = .tup l := by
          cases l with
          | nil => rfl
          | cons s l => cases l with
            | nil => simp at hll; exact absurd hll.symm h1
            | cons t l => rfl
        rw [this]
        exact ⟨vs, rfl, hrs⟩
  · cases h
theorem hold_fin {res r : SV} (h : retS P fn.results σ = some r) (he : r = res) : Hold P body (Fin P fn w0 S res) w0 S [] σ := by
  intro β a w hS
  subst he
  obtain ⟨v, hv, hr⟩ := retS_ok hS h
  exact ⟨hS.defs, v, hv, hS.ext, hr⟩
def initSlots : Nat → List SV → List (Nat × SV)
  | _, [] => []
  | i, s :: r => (i, s) :: initSlots (i + 1) r
def initSt (args : List SV) (nt : Nat) : St := { nt, slots := initSlots 0 args, blks := [], next := 0 }
theorem initSlots_mem : ∀ {args : List SV} {i d : Nat} {s : SV}, (d, s) ∈ initSlots i args → i ≤ d ∧ args[d - i]? = some s := by
  intro args
  induction args with
  | nil => intro i d s h; simp [initSlots] at h
  | cons x args ih =>
    intro i d s h
    simp only [initSlots] at h
    rcases List.mem_cons.1 h with e | h
    · cases e; simp
    · obtain ⟨h1, h2⟩ := ih h
      refine ⟨by omega, ?_⟩
      rw [show d - i = (d - (i + 1)) + 1 by omega]
      simpa using h2
theorem relVs_get {ow : Own} : ∀ {l : List SV} {vs : List Value}, relVs β ow w l vs → l.length = vs.length ∧ ∀ (i : Nat) (s : SV), l[i]? = some s → ∃ v, vs[i]? = some v ∧ relV1 β ow w s v := by
  intro l
  induction l with
  | nil => intro vs h; cases h; exact ⟨rfl, fun i s hs => by simp at hs⟩
  | cons x l ih =>
    intro vs h
    obtain ⟨v, t, rfl, h1, h2⟩ := h
    obtain ⟨h3, h4⟩ := ih h2
    refine ⟨by simp [h3], fun i s hs => ?_⟩
    cases i with
    | zero => simp at hs; subst hs; exact ⟨v, rfl, h1⟩
    | succ i => simp at hs; obtain ⟨u, hu, hr⟩ := h4 i s hs; exact ⟨u, by simpa using hu, hr⟩
theorem idss_get {id : Nat} {s : SV} (hi : id ∈ s.ids) : ∀ {l : List SV} {d : Nat}, l[d]? = some s → id ∈ idss l := by
  intro l
  induction l with
  | nil => intro d h; simp at h
  | cons x l ih =>
    intro d h
    cases d with
    | zero => simp at h; subst h; simp [idss, hi]
    | succ d => simp at h; simp only [idss, List.mem_append]; exact .inr (ih h)
theorem contract_at {w : World} {vs : List Value} {f : FuncId} {args : List SV} {res : SV} (hf : P.funcs[f]? = some fn) (hb : fn.body = some body) (hname : (fn.name == "runtime.NumGoroutine") = false) (hn : args.length ≤ fn.ntmps) (hids : idss args = [])
    (hSlt : ∀ b j, S b j → b < w.heap.size) (hvs : relVs (fun _ => 0) S w args vs) (h : Hold P body (Fin P fn w S res) w S [.at []] (initSt args fn.ntmps)) :
    Invokes P f vs w fun v w' => Ext w w' ∧ relV (fun _ => 0) S w' res v := by
  obtain ⟨hlen, hget⟩ := relVs_get hvs
  unfold Invokes
  have hcall : (callFunc f vs.toArray).run P w = .ok (.enter f vs.toArray) w := by
    have hne : ¬ fn.name = "runtime.NumGoroutine" := by simpa using hname
    simp [callFunc, hf, hb, hne]
  rw [hcall]
  simp only
  refine calls_of_wp hf hb ?_
  have hS : Sat w S (initSt args fn.ntmps) (fun _ => 0) { tmps := vs.toArray ++ Array.replicate (fn.ntmps - vs.toArray.size) undef, defers := [] } w := by
    refine ⟨rfl, ?_, ?_, fun id bk hm => by simp [initSt] at hm, fun id bk hm => by simp [initSt] at hm, fun i j bi bj hm => by simp [initSt] at hm, by simp [initSt], ?_, fun id bk hm => by simp [initSt] at hm, Bel.refl (w : Fr), fun b j h => ⟨hSlt b j h, Fr.mut_world⟩, rfl, fun id hid => absurd hid (Nat.not_lt_zero _)⟩
    · simp [initSt]; omega
    · intro d s hm
      obtain ⟨_, hd⟩ := initSlots_mem hm
      simp only [Nat.sub_zero] at hd
      obtain ⟨v, hv, hr⟩ := hget d s hd
      have hlt : d < vs.length := by
        rcases Nat.lt_or_ge d vs.length with h | h
        · exact h
        · rw [List.getElem?_eq_none h] at hv; cases hv
      have e : ({ tmps := vs.toArray ++ Array.replicate (fn.ntmps - vs.toArray.size) undef, defers := [] } : Act).tmps.getD d undef = v := by
        rw [Array.getD_eq_getD_getElem?, Array.getElem?_append_left (by simpa using hlt)]
        simp [hv]
      rw [e]
      exact relV_mono (fun _ _ _ h => h.elim id fun ⟨_, _, hm, _⟩ => by simp [initSt] at hm) (Keep.refl _ _) (fun _ _ => rfl) (relV_up hr)
    · intro d s hm id hi
      obtain ⟨_, hd⟩ := initSlots_mem hm
      have : id ∈ idss args := idss_get hi (by simpa using hd)
      rw [hids] at this; cases this
  have := h _ _ _ hS
  simp only [contQ, nav] at this
  refine wp_mono this fun e a w' hq => ?_
  cases e <;> simp only [Fin] at hq <;> try exact hq.elim
  · obtain ⟨h1, v, h2, h3, h4⟩ := hq; exact ⟨h1, v, h2, v, rfl, h3.below, h4⟩
  · obtain ⟨h1, v, h2, h3, h4⟩ := hq; exact ⟨h1, v, h2, v, rfl, h3.below, h4⟩
theorem contract_of {f : FuncId} {args : List SV} {res : SV} (hf : P.funcs[f]? = some fn) (hb : fn.body = some body) (hname : (fn.name == "runtime.NumGoroutine") = false) (hn : args.length ≤ fn.ntmps) (hids : idss args = [])
    (h : ∀ (w0 : World) (S : Own), Hold P body (Fin P fn w0 S res) w0 S [.at []] (initSt args fn.ntmps)) : Contract P f args res := fun w S vs h1 h2 => contract_at hf hb hname hn hids h1 h2 (h w S)
theorem Fin_panic {res : SV} : ∀ c a w, ¬ Fin P fn w0 S res (.panic c) a w := fun _ _ _ h => h
theorem Fin_ret {res : SV} : ∀ a w, Fin P fn w0 S res .normal a w → Fin P fn w0 S res .ret a w := fun _ _ h => h
class ExitOk (Q : Exit → Act → World → Prop) : Prop where
  panic : ∀ c a w, ¬ Q (.panic c) a w
  ret : ∀ a w, Q .normal a w → Q .ret a w
instance {res : SV} : ExitOk (Fin P fn w0 S res) := ⟨Fin_panic, Fin_ret⟩
theorem hold_run (hm : P.follows .mixedOrders = true) {ctr : Ctr} (hctr : CtrOk P ctr) {Q : Exit → Act → World → Prop} [hQ : ExitOk Q] (unroll : Bool) (f : Nat) {st : List It} {σ : St} (sc : List Bool) {st' : List It} {σ' : St} {ob : List Prop} {sc' : List Bool}
    (h : run P ctr body unroll f st σ sc = (st', σ', ob, sc')) (hob : All ob) (hk : Hold P body Q w0 S st' σ') : Hold P body Q w0 S st σ :=
  run_ok hm hctr hQ.panic hQ.ret f h hob hk
end
end Go.Eng

