import Derived.Test.YtedccmojbmlkcaaE12
set_option linter.unusedVariables false
set_option linter.unusedSimpArgs false
set_option linter.unusedSectionVars false
namespace Go.Eng
open Go.RowKit
def unG (o : Oper) : Oper := { o with guard := none }
def pureStepG (P : Program) (ctr : Ctr) (ops : Array Oper) (σ : St) (i : Nat) (o : Oper) (sc : List Bool) : Option (St × List Prop × List Bool) :=
  match guardOf ops σ.slots o with
  | none => none
  | some false => match putS σ o.dst (.tup []) with | some σ' => some (σ', [], sc) | none => none
  | some true => match evalR P ctr σ.blks (lookρ σ.slots) (unG o) with
      | some (.val s, ob) => if pureOp (unG o) || slicePtr σ.slots (unG o) || sliceSl σ.slots (unG o) || (numOp σ.slots (unG o) && s.rigid) then
          match resolveB (isGuard ops i) s sc with
          | some (s', ob2, sc') => match putS σ o.dst s' with | some σ' => some (σ', ob ++ ob2, sc') | none => none
          | none => none
        else none
      | _ => none
def firstPureG (P : Program) (ctr : Ctr) (ops : Array Oper) (L : Array Bool) (σ : St) (sc : List Bool) : List Nat → Option (Nat × St × List Prop × List Bool)
  | [] => none
  | i :: r => if Region.free .any ops L i then (match ops[i]? with
      | some o => match pureStepG P ctr ops σ i o sc with
        | some (σ', ob, sc') => some (i, σ', ob, sc')
        | none => firstPureG P ctr ops L σ sc r
      | none => none) else firstPureG P ctr ops L σ sc r
abbrev RA := Nat × Nat × Bool × Nat
def stRA (R : RA) : St := ⟨R.1, [(R.2.1, .cb R.2.2.1)], [], 0, R.2.2.2⟩
def endRA (d : Nat) (σ : St) : Option RA :=
  match restrict [d] [] 0 σ with
  | some ⟨nt, [(e, .cb x)], [], 0, m⟩ => some (nt, e, x, m)
  | _ => none
def tryAll (step : Nat → Option (RA × List Prop × List Bool)) : List Nat → Option (RA × List Prop × List Bool)
  | [] => none
  | [i] => step i
  | i :: r => match step i, tryAll step r with
    | some (R, ob, sc), some (R', ob', sc') => if R = R' ∧ sc = sc' then some (R, ob ++ ob', sc) else none
    | _, _ => none
def execAll (P : Program) (ctr : Ctr) (ops : Array Oper) (d : Nat) : Nat → Array Bool → St → List Bool → Option (RA × List Prop × List Bool)
  | 0, _, _, _ => none
  | f + 1, L, σ, sc => match Region.ready .any ops L with
    | [] => match endRA d σ with
      | some R => some (R, [], sc)
      | none => none
    | r => match firstPureG P ctr ops L σ sc r with
      | some (i, σ1, ob1, sc1) => match execAll P ctr ops d f (L.setIfInBounds i true) σ1 sc1 with
        | some (R, ob2, sc2) => some (R, ob1 ++ ob2, sc2)
        | none => none
      | none => tryAll (fun i => match ops[i]? with
        | some o => match stepOp P ctr ops σ i o sc with
          | some (σ1, ob1, sc1) => match execAll P ctr ops d f (L.setIfInBounds i true) σ1 sc1 with
            | some (R, ob2, sc2) => some (R, ob1 ++ ob2, sc2)
            | none => none
          | none => none
        | none => none) r
def lastDst (ops : Array Oper) : Option Nat := match ops.back? with | some o => o.dst | none => none
def drawAll (P : Program) (ctr : Ctr) (ops : Array Oper) (σ : St) (sc : List Bool) : Option (St × List Prop × List Bool) :=
  match lastDst ops with
  | some d => if Region.noSelect ops then (match execAll P ctr ops d (ops.size + 1) (Array.replicate ops.size false) σ sc with
    | some (R, ob, sc') => some (stRA R, ob, sc')
    | none => none) else none
  | none => none
section
variable {P : Program} {ctr : Ctr} {w0 : Fr} {w : World} {S : Own} {σ σ' : St} {β : Nat → Nat} {a : Act} {ops : Array Oper}
theorem firstPureG_ok : ∀ {r : List Nat} {L : Array Bool} {sc sc' : List Bool} {i : Nat} {ob : List Prop}, firstPureG P ctr ops L σ sc r = some (i, σ', ob, sc') → i ∈ r ∧ Region.free .any ops L i = true ∧ ∃ o, ops[i]? = some o ∧ pureStepG P ctr ops σ i o sc = some (σ', ob, sc') := by
  intro r
  induction r with
  | nil => intro L sc sc' i ob h; simp [firstPureG] at h
  | cons j r ih =>
    intro L sc sc' i ob h
    simp only [firstPureG] at h
    split at h
    · rename_i hf
      split at h
      · rename_i o ho
        split at h
        · rename_i hp; cases h; exact ⟨by simp, hf, o, ho, hp⟩
        · obtain ⟨h1, h2⟩ := ih h; exact ⟨List.mem_cons_of_mem _ h1, h2⟩
      · cases h
    · obtain ⟨h1, h2⟩ := ih h; exact ⟨List.mem_cons_of_mem _ h1, h2⟩
theorem pureStepG_ok {i : Nat} {o : Oper} {sc sc' : List Bool} {ob : List Prop} (h : pureStepG P ctr ops σ i o sc = some (σ', ob, sc')) (hob : All ob) (hS : Sat w0 S σ β a w) :
    ∃ v, Yields P ops o v a ∧ Sat w0 S σ' β (a.put o.dst v) w := by
  unfold pureStepG at h
  split at h
  · cases h
  · rename_i hg
    split at h
    · rename_i σ1 hput
      cases h
      exact ⟨undef, .inr ⟨guard_ok hS.slot hg, rfl⟩, hS.put hput ⟨[], rfl, rfl⟩⟩
    · cases h
  · rename_i hg
    split at h
    · rename_i s ob1 hev
      split at h
      · rename_i hp
        split at h
        · rename_i s' ob2 sc1 hres
          split at h
          · rename_i σ1 hput
            cases h
            obtain ⟨ho1, ho2⟩ := All.append.1 hob
            have key : ∃ v, (∀ w', (execOp a.eval o).run P w' = .ok (.value v) w') ∧ relV β (owS S σ.blks β) w s v := by
              simp only [Bool.or_eq_true, Bool.and_eq_true] at hp
              rcases hp with ((hp | hp) | hp) | hp
              · exact pureR_yields (fun y s hy => hS.look hy) hp hev
              · exact slice_yields (fun y s hy => hS.look hy) hp hev
              · exact sliceSl_yields (fun y s hy => hS.look hy) hp hev ho1
              · exact num_yields (fun y s hy => hS.look hy) hp.1 hp.2 hev ho1
            obtain ⟨v, h1, h2⟩ := key
            exact ⟨v, .inl ⟨guard_ok hS.slot hg, h1⟩, hS.put hput (resolveB_ok hres ho2 h2)⟩
          · cases h
        · cases h
      · cases h
    · cases h
theorem tryAll_ok {step : Nat → Option (RA × List Prop × List Bool)} : ∀ {r : List Nat} {R : RA} {ob : List Prop} {sc : List Bool}, tryAll step r = some (R, ob, sc) → All ob → ∀ i ∈ r, ∃ ob' sc', step i = some (R, ob', sc') ∧ All ob' := by
  intro r
  induction r with
  | nil => intro R ob sc h; simp [tryAll] at h
  | cons i r ih =>
    intro R ob sc h hob j hj
    cases r with
    | nil =>
      simp only [tryAll] at h
      simp only [List.mem_singleton] at hj
      subst hj
      exact ⟨ob, sc, h, hob⟩
    | cons k r =>
      simp only [tryAll] at h
      split at h
      · rename_i R1 ob1 sc1 R2 ob2 sc2 h1 h2
        split at h
        · rename_i he
          obtain ⟨rfl, rfl⟩ := he
          cases h
          obtain ⟨ho1, ho2⟩ := All.append.1 hob
          rcases List.mem_cons.1 hj with rfl | hj
          · exact ⟨_, _, h1, ho1⟩
          · exact ih h2 ho2 j hj
        · cases h
      · cases h
theorem endRA_ok {d : Nat} {R : RA} (h : endRA d σ = some R) (hS : Sat w0 S σ β a w) : Sat w0 S (stRA R) β a w := by
  unfold endRA at h
  split at h
  · rename_i nt e x m hr
    cases h
    exact hS.restrict hr
  · cases h
theorem execAll_ok (hctr : CtrOk P ctr) (hs : Region.noSelect ops = true) {d : Nat} {Q : Exit → Act → World → Prop} (hQ : ∀ c a w, ¬ Q (.panic c) a w) : ∀ {f : Nat} {L : Array Bool} {σ : St} {R : RA} {sc sc' : List Bool} {ob : List Prop} {β : Nat → Nat} {a : Act} {w : World},
    execAll P ctr ops d f L σ sc = some (R, ob, sc') → All ob → Sat w0 S σ β a w → (∀ β' a' w', Sat w0 S (stRA R) β' a' w' → Q .normal a' w') → ∀ {g : Nat}, left L ≤ g → L.size = ops.size → wpAny P .any ops Q g L a w := by
  intro f
  induction f with
  | zero => intro L σ R sc sc' ob β a w h; simp [execAll] at h
  | succ f ih =>
    intro L σ R sc sc' ob β a w h hob hS hk g hl hsz
    simp only [execAll] at h
    split at h
    · rename_i hr
      split at h
      · rename_i R1 he
        cases h
        exact wpAny_done hr (hk β a w (endRA_ok he hS)) g
      · cases h
    · rename_i hr0
      have hstep : ∀ i, i ∈ Region.ready .any ops L → left L = left (L.setIfInBounds i true) + 1 := fun i hi => by
        obtain ⟨h1, o, ho, _⟩ := mem_ready.1 hi
        exact left_set (by rw [hsz]; exact (Array.getElem?_eq_some_iff.1 ho).1) h1
      have hpos : 0 < g := by
        cases hr : Region.ready .any ops L with
        | nil => exact absurd hr hr0
        | cons j t => have := hstep j (by rw [hr]; simp); omega
      obtain ⟨g, rfl⟩ : ∃ g', g = g' + 1 := ⟨g - 1, by omega⟩
      split at h
      · rename_i i σ1 ob1 sc1 hp
        split at h
        · rename_i R2 ob2 sc2 hx
          cases h
          obtain ⟨ho1, ho2⟩ := All.append.1 hob
          obtain ⟨hm, hf, o, ho, hst⟩ := firstPureG_ok hp
          obtain ⟨v, hy, hS1⟩ := pureStepG_ok hst ho1 hS
          refine wpAny_take ho hs hf (by simpa using hm) (fun c a w h => absurd h (hQ c _ w)) hy ?_
          exact ih hx ho2 hS1 hk (by have := hstep i hm; omega) (by simpa using hsz)
        · cases h
      · refine wpAny_all rfl hr0 ?_
        intro j hj
        obtain ⟨ob', sc2, h1, h2⟩ := tryAll_ok h hob j hj
        split at h1
        · rename_i o ho
          split at h1
          · rename_i σ1 ob1 sc1 hst
            split at h1
            · rename_i R2 ob2 sc3 hx
              cases h1
              obtain ⟨ho1, ho2⟩ := All.append.1 h2
              refine stepOp_ok hctr hst ho1 ho hS fun β' a' w' hS' => ?_
              exact ih hx ho2 hS' hk (by have := hstep j hj; omega) (by simpa using hsz)
            · cases h1
          · cases h1
        · cases h1
theorem drawAll_ok (hm : P.follows .mixedOrders = true) (hctr : CtrOk P ctr) {id : Nat} {sc sc' : List Bool} {ob : List Prop} (h : drawAll P ctr ops σ sc = some (σ', ob, sc')) (hob : All ob) (hS : Sat w0 S σ β a w)
    {Q : Exit → Act → World → Prop} (hQ : ∀ c a w, ¬ Q (.panic c) a w) (hk : ∀ β' a' w', Sat w0 S σ' β' a' w' → Q .normal a' w') : (Code.region id ops true).wp P Q a w := by
  unfold drawAll at h
  split at h
  · split at h
    · rename_i hs
      split at h
      · rename_i R ob1 sc1 hx
        cases h
        refine wp_region_any hm ?_
        have hxt : Ext w { w with drawn := w.drawn + 1 } := ⟨rfl, rfl, rfl, Nat.le_refl _, fun _ _ => rfl⟩
        refine execAll_ok hctr hs hQ hx hob (hS.extend hxt) hk ?_ (by simp)
        simp [left, List.countP_replicate]
      · cases h
    · cases h
  · cases h
end
end Go.Eng

namespace Go.Eng
def drawT (P : Program) (ctr : Ctr) (body : Code) (p : List Nat) (r : List It) (σ : St) (sc : List Bool) : List It × Option St × List Prop × List Bool :=
  match nav body p with
  | some (.region _ ops true) => match drawAll P ctr ops σ sc with
    | some (σ', ob, sc') => (r, some σ', ob, sc')
    | none => ([], none, [], sc)
  | _ => ([], none, [], sc)
theorem hold_allT {P : Program} {body : Code} {w0 : Fr} {S : Own} (hm : P.follows .mixedOrders = true) {ctr : Ctr} (hctr : CtrOk P ctr) {Q : Exit → Act → World → Prop} [ExitOk Q] {p : List Nat} {r : List It} {σ : St} {sc : List Bool} {st' : List It} {σ' : St} {ob : List Prop} {sc' : List Bool}
    (h : drawT P ctr body p r σ sc = (st', some σ', ob, sc')) (hob : All ob) (hk : Hold P body Q w0 S st' σ') : Hold P body Q w0 S (.at p :: r) σ := by
  unfold drawT at h
  split at h
  · rename_i id ops hn
    split at h
    · rename_i σ1 ob1 sc1 hx
      cases h
      intro β a w hS
      simp only [contQ, hn]
      exact drawAll_ok hm hctr hx hob hS (contQ_panic (ExitOk.panic (Q := Q)) _) hk
    · cases h
  · cases h
end Go.Eng

