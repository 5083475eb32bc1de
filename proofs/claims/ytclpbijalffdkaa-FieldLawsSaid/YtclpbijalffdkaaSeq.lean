/- Operations one after the other. -/
import Derived.Test.YtclpbijalffdkaaState
namespace Go.Eng
open Go.RowKit

def guardOf (ops : Array Oper) (slots : List (Nat × SV)) (o : Oper) : Option Bool :=
  match o.guard with
  | none => some true
  | some (j, want) => match dstOf ops j with
    | some d => match getS slots d with
      | some (.cb x) => some (x == want)
      | some (.tup []) => some false
      | _ => none
    | none => none

def isGuard (ops : Array Oper) (i : Nat) : Bool := ops.toList.any fun o => match o.guard with | some (j, _) => j == i | none => false

/-- a bool on which others wait is decided by the script -/
def resolveB (flag : Bool) (s : SV) (sc : List Bool) : Option (SV × List Prop × List Bool) :=
  match flag, s with
  | true, .b x => match sc with
    | v :: r => some (.cb v, [x = v], r)
    | [] => none
  | _, s => some (s, [], sc)

def stepOp (P : Program) (ctr : Ctr) (ops : Array Oper) (σ : St) (i : Nat) (o : Oper) (sc : List Bool) : Option (St × List Prop × List Bool) :=
  match guardOf ops σ.slots o with
  | none => none
  | some false => match putS σ o.dst (.tup []) with | some σ' => some (σ', [], sc) | none => none
  | some true =>
    match o.op with
    | .store t p x => match o.dst, lookρ σ.slots p, lookρ σ.slots x, aggT P t, szT P t with
      | none, some (.ptr id off ix), some sv, some agg, some size => match getB σ.blks id with
        | some bk => match storeB bk agg size off ix sv with
          | some (bk', ob) => if (idss bk'.segs).all (fun j => decide (j < σ.next)) then some ({ σ with blks := setB σ.blks id bk' }, ob, sc) else none
          | none => none
        | none => none
      | _, _, _, _, _ => none
    | _ => match evalH P ctr σ.blks (lookρ σ.slots) o with
      | some (.val s, ob) => match resolveB (isGuard ops i) s sc with
        | some (s', ob2, sc') => match putS σ o.dst s' with | some σ' => some (σ', ob ++ ob2, sc') | none => none
        | none => none
      | some (.call s, ob) => match resolveB (isGuard ops i) s sc with
        | some (s', ob2, sc') => match putS σ o.dst s' with | some σ' => some (σ', ob ++ ob2, sc') | none => none
        | none => none
      | some (.new ty segs kind, ob) => match newS σ ty segs with
        | some σ1 => match putS σ1 o.dst (newSV kind σ.next) with | some σ' => some (σ', ob, sc) | none => none
        | none => none
      | none => none

def execSeq (P : Program) (ctr : Ctr) (ops : Array Oper) : List Oper → Nat → St → List Bool → Option (St × List Prop × List Bool)
  | [], _, σ, sc => some (σ, [], sc)
  | o :: r, i, σ, sc => match stepOp P ctr ops σ i o sc with
    | some (σ1, ob1, sc1) => match execSeq P ctr ops r (i + 1) σ1 sc1 with
      | some (σ2, ob2, sc2) => some (σ2, ob1 ++ ob2, sc2)
      | none => none
    | none => none

section
variable {P : Program} {ctr : Ctr} {w0 w w' : World} {S : Nat → Prop} {σ : St} {β : Nat → Nat} {a : Act} {ops : Array Oper}

theorem undef_not_bool {x : Bool} : undef ≠ .bool x := by unfold undef; intro h; cases h

theorem guard_ok {slots : List (Nat × SV)} {ow : Nat → Prop} (hs : ∀ d s, (d, s) ∈ slots → relV β ow w s (a.tmps.getD d undef)) {o : Oper} {x : Bool} (h : guardOf ops slots o = some x) :
    Region.wanted o (yielded ops a.tmps) = x := by
  unfold guardOf at h
  unfold Region.wanted
  split at h
  · rename_i hg; cases h; simp [hg]
  · rename_i j want hg
    simp only [hg]
    split at h
    · rename_i d hd
      split at h
      · rename_i b hb
        cases h
        have h1 := relV_scalar rfl rfl (hs d _ (getS_mem hb))
        simp only [rel, List.cons.injEq, and_true] at h1
        have h2 : a.tmps[d]? = some (.bool b) := by
          rw [Array.getD_eq_getD_getElem?] at h1
          cases ht : a.tmps[d]? with
          | none => rw [ht] at h1; simp at h1; exact absurd h1 undef_not_bool
          | some u => rw [ht] at h1; simp at h1; rw [h1]
        have h3 : yielded ops a.tmps j = some b := by
          unfold yielded
          rw [show (ops[j]?).bind (·.dst) = some d from hd]
          simp [h2]
        rw [h3]
        cases b <;> cases want <;> rfl
      · rename_i hb
        cases h
        obtain ⟨vs, h1, h2⟩ := hs d _ (getS_mem hb)
        have h2 : vs = [] := h2
        subst h2
        have h3 : yielded ops a.tmps j = none := by
          unfold yielded
          rw [show (ops[j]?).bind (·.dst) = some d from hd]
          rw [Array.getD_eq_getD_getElem?] at h1
          cases ht : a.tmps[d]? with
          | none => simp [ht]
          | some u => rw [ht] at h1; simp at h1; subst h1; simp [ht]
        rw [h3]
        cases want <;> rfl
      · cases h
    · cases h

theorem resolveB_ok {flag : Bool} {s s' : SV} {sc sc' : List Bool} {ob : List Prop} (h : resolveB flag s sc = some (s', ob, sc')) (hob : All ob) {ow : Nat → Prop} {v : Value} (hv : relV β ow w s v) : relV β ow w s' v := by
  unfold resolveB at h
  split at h
  · rename_i x
    split at h
    · cases h
      have h1 := relV_scalar rfl rfl hv
      simp only [rel, List.cons.injEq, and_true] at h1
      subst h1
      have := hob.1
      subst this
      exact relV_of1 rfl rel_cb
    · cases h
  · cases h; exact hv

theorem stepOp_ok (hctr : CtrOk P ctr) {σ' : St} {i : Nat} {o : Oper} {sc sc' : List Bool} {ob : List Prop} (h : stepOp P ctr ops σ i o sc = some (σ', ob, sc')) (hob : All ob) (hi : ops[i]? = some o)
    (hS : Sat w0 S σ β a w) {K : Act → World → Prop} {Q : Exit → Act → World → Prop} (hk : ∀ β' a' w', Sat w0 S σ' β' a' w' → K a' w') : wpOp P ops Q i K a w := by
  unfold stepOp at h
  unfold wpOp
  simp only [hi]
  split at h
  · cases h
  · rename_i hg
    split at h
    · rename_i σ1 hput
      cases h
      rw [guard_ok hS.slot hg]
      simp only [Bool.false_eq_true, if_false]
      exact hk β _ w (hS.put hput ⟨[], rfl, rfl⟩)
    · cases h
  · rename_i hg
    rw [guard_ok hS.slot hg]
    simp only [if_true]
    refine .inl ?_
    split at h
    · rename_i t p x hop
      split at h
      · rename_i id off ix sv agg size hdst hp hx ha hs
        split at h
        · rename_i bk hgb
          split at h
          · rename_i bk' ob' hst
            split at h
            · rename_i hids
              cases h
              obtain ⟨cs, hr, hb⟩ := hS.blk id bk (getB_mem hgb)
              obtain ⟨cs', hrun, hr', hty⟩ := storeB_ok (P := P) hst hob hs hr (hS.look hx) hb
              have h1 := relV_scalar rfl rfl (hS.look hp)
              simp only [rel, List.cons.injEq, and_true] at h1
              have hexec : (execOp a.eval o).run P w = .ok .skip (setRow w (β id) cs' bk.ty) := by
                unfold execOp
                rw [hop]
                simp only [Sem.run_bind, h1, hrun, Result.andThen_ok, Sem.run_pure]
              unfold Oper.wp
              rw [hexec]
              show K (a.put o.dst undef) _
              rw [hdst]
              exact hk β a _ (hS.write hgb hty hr' (fun j hj => by have := List.all_eq_true.1 hids j hj; simpa using this))
            · cases h
          · cases h
        · cases h
      · cases h
    · split at h
      · rename_i s ob1 hev
        split at h
        · rename_i s' ob2 sc1 hres
          split at h
          · rename_i σ1 hput
            cases h
            obtain ⟨ho1, ho2⟩ := All.append.1 hob
            refine evalH_ok hctr hev ho1 (fun x s hx => hS.look hx) hS.blk hS.own fun v w' hx hv => ?_
            obtain ⟨rfl, hv⟩ := hv
            exact hk β _ _ (hS.put hput (resolveB_ok hres ho2 hv))
          · cases h
        · cases h
      · rename_i s ob1 hev
        split at h
        · rename_i s' ob2 sc1 hres
          split at h
          · rename_i σ1 hput
            cases h
            obtain ⟨ho1, ho2⟩ := All.append.1 hob
            refine evalH_ok hctr hev ho1 (fun x s hx => hS.look hx) hS.blk hS.own fun v w' hx hv => ?_
            obtain ⟨_, hv⟩ := hv
            exact hk β _ _ ((hS.extend hx).put hput (resolveB_ok hres ho2 hv))
          · cases h
        · cases h
      · rename_i ty segs kind ob1 hev
        split at h
        · rename_i σ1 hnew
          split at h
          · rename_i σ2 hput
            cases h
            refine evalH_ok hctr hev hob (fun x s hx => hS.look hx) hS.blk hS.own fun v w' hx hv => ?_
            obtain ⟨cs, hr, rfl, hv⟩ := hv
            have hS2 := hS.extend hx
            have hk2 : ∀ ow' : Nat → Prop, (∀ b, ow' b → owS S σ.blks β b ∨ b = w.heap.size) → ∀ b, b < w.heap.size → ow' b → owS S σ.blks β b := fun ow' ho b hb h => by
              rcases ho b h with h | h
              · exact h
              · omega
            have hke : Keep (owS S σ.blks β) w (w.alloc (.cells cs.toArray ty)) := Keep.of_ext hx
            obtain ⟨hS3, how⟩ := hS2.new hnew (g := w.heap.size) (cs := cs) (by show (w.heap.push _)[w.heap.size]? = _; simp) (hS.ext.size)
              (fun ho => by have := hS.own _ ho; omega)
              (fun ow' ho => ⟨fun d s hm => relV_mono (hk2 ow' ho) hke (fun _ _ => rfl) (hS.slot d s hm), fun id bk hm => by
                obtain ⟨c2, hr2, hb2⟩ := hS.blk id bk hm
                exact ⟨c2, rels_mono (hk2 ow' ho) hke _ _ (fun _ _ => rfl) hr2, by rw [hx.block _ (Array.getElem?_eq_some_iff.1 hb2).1]; exact hb2⟩, rels_mono (hk2 ow' ho) hke _ _ (fun _ _ => rfl) hr⟩)
            refine hk _ _ _ (hS3.put hput ?_)
            have := hv (fun i => if i = σ.next then w.heap.size else β i) σ.next (by simp)
            refine relV_noSl _ _ ?_ (fun _ _ => rfl) this
            cases kind <;> rfl
          · cases h
        · cases h
      · cases h

theorem execSeq_ok (hctr : CtrOk P ctr) {Q : Exit → Act → World → Prop} : ∀ {l : List Oper} {i : Nat} {σ σ' : St} {sc sc' : List Bool} {ob : List Prop} {β : Nat → Nat} {a : Act} {w : World}, (∀ j, l[j]? = ops[i + j]?) → execSeq P ctr ops l i σ sc = some (σ', ob, sc') → All ob →
    Sat w0 S σ β a w → (∀ β' a' w', Sat w0 S σ' β' a' w' → Q .normal a' w') → wpOps P ops Q (List.range' i l.length) a w := by
  intro l
  induction l with
  | nil =>
    intro i σ σ' sc sc' ob β a w _ h _ hS hk
    simp only [execSeq] at h
    cases h
    simp only [List.length_nil, List.range'_zero, wpOps]
    exact hk β a w hS
  | cons o r ih =>
    intro i σ σ' sc sc' ob β a w hl h hob hS hk
    simp only [execSeq] at h
    split at h
    · rename_i σ1 ob1 sc1 hst
      split at h
      · rename_i σ2 ob2 sc2 hr
        cases h
        obtain ⟨ho1, ho2⟩ := All.append.1 hob
        rw [List.length_cons, List.range'_succ, wpOps_cons]
        refine stepOp_ok hctr hst ho1 (by simpa using (hl 0).symm) hS fun β' a' w' hS' => ?_
        exact ih (fun j => by have := hl (j + 1); simpa [Nat.add_assoc, Nat.add_comm 1 j] using this) hr ho2 hS' hk
      · cases h
    · cases h

end
end Go.Eng
