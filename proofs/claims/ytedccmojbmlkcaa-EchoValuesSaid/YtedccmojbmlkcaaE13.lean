import Derived.Test.YtedccmojbmlkcaaE12
import Derived.WideShapes
import Derived.OpenShut
import Derived.ChangeSlices
import Derived.RowKit
set_option linter.unusedVariables false
set_option linter.unusedSimpArgs false
set_option linter.unusedSectionVars false
namespace Go.Eng
open Go.RowKit
structure Ke where
  (ks bs : List Nat) (nx : Nat)
def tryS (step : Nat → Option (St × List Prop × List Bool)) : List Nat → Option (St × List Prop × List Bool)
  | [] => none
  | [i] => step i
  | i :: r => match step i, tryS step r with
    | some (R, ob, sc), some (R', ob', sc') => if sc = sc' then some (R, (R' = R) :: (ob ++ ob'), sc) else none
    | _, _ => none
def execS (P : Program) (ctr : Ctr) (ops : Array Oper) (d : Ke) : Nat → Array Bool → St → List Bool → Option (St × List Prop × List Bool)
  | 0, _, _, _ => none
  | f + 1, L, σ, sc => match Region.ready .any ops L with
    | [] => match restrict d.ks d.bs d.nx σ with
      | some R => some (R, [], sc)
      | none => none
    | r => match firstPureG P ctr ops L σ sc r with
      | some (i, σ1, ob1, sc1) => match execS P ctr ops d f (L.setIfInBounds i true) σ1 sc1 with
        | some (R, ob2, sc2) => some (R, ob1 ++ ob2, sc2)
        | none => none
      | none => tryS (fun i => match ops[i]? with
        | some o => match stepOp P ctr ops σ i o sc with
          | some (σ1, ob1, sc1) => match execS P ctr ops d f (L.setIfInBounds i true) σ1 sc1 with
            | some (R, ob2, sc2) => some (R, ob1 ++ ob2, sc2)
            | none => none
          | none => none
        | none => none) r
def drawS (P : Program) (ctr : Ctr) (ops : Array Oper) (d : Ke) (σ : St) (sc : List Bool) : Option (St × List Prop × List Bool) :=
  if Region.noSelect ops then execS P ctr ops d (ops.size + 1) (Array.replicate ops.size false) σ sc else none
section
variable {P : Program} {ctr : Ctr} {w0 : Fr} {w : World} {S : Own} {σ σ' : St} {β : Nat → Nat} {a : Act} {ops : Array Oper}
theorem tryS_ok {step : Nat → Option (St × List Prop × List Bool)} : ∀ {r : List Nat} {R : St} {ob : List Prop} {sc : List Bool}, tryS step r = some (R, ob, sc) → All ob → ∀ i ∈ r, ∃ ob' sc', step i = some (R, ob', sc') ∧ All ob' := by
  intro r
  induction r with
  | nil => intro R ob sc h; simp [tryS] at h
  | cons i r ih =>
    intro R ob sc h hob j hj
    cases r with
    | nil =>
      simp only [tryS] at h
      simp only [List.mem_singleton] at hj
      subst hj
      exact ⟨ob, sc, h, hob⟩
    | cons k r =>
      simp only [tryS] at h
      split at h
      · rename_i R1 ob1 sc1 R2 ob2 sc2 h1 h2
        split at h
        · cases h
          obtain ⟨he, hob⟩ := hob
          obtain ⟨ho1, ho2⟩ := All.append.1 hob
          rcases List.mem_cons.1 hj with rfl | hj
          · exact ⟨_, _, h1, ho1⟩
          · subst he
            exact ih h2 ho2 j hj
        · cases h
      · cases h
theorem execS_ok (hctr : CtrOk P ctr) (hs : Region.noSelect ops = true) {d : Ke} {Q : Exit → Act → World → Prop} (hQ : ∀ c a w, ¬ Q (.panic c) a w) : ∀ {f : Nat} {L : Array Bool} {σ : St} {R : St} {sc sc' : List Bool} {ob : List Prop} {β : Nat → Nat} {a : Act} {w : World},
    execS P ctr ops d f L σ sc = some (R, ob, sc') → All ob → Sat w0 S σ β a w → (∀ β' a' w', Sat w0 S R β' a' w' → Q .normal a' w') → ∀ {g : Nat}, left L ≤ g → L.size = ops.size → wpAny P .any ops Q g L a w := by
  intro f
  induction f with
  | zero => intro L σ R sc sc' ob β a w h; simp [execS] at h
  | succ f ih =>
    intro L σ R sc sc' ob β a w h hob hS hk g hl hsz
    simp only [execS] at h
    split at h
    · rename_i hr
      split at h
      · rename_i R1 he
        cases h
        exact wpAny_done hr (hk β a w (hS.restrict he)) g
      · cases h
    · rename_i hr0
      have hstep : ∀ i, i ∈ Region.ready .any ops L → left L = left (L.setIfInBounds i true) + 1 := fun i hi => by
        obtain ⟨h1, o, ho, _⟩ := mem_ready.1 hi
        exact left_set (by rw [hsz]; exact (Array.getElem?_eq_some_iff.1 ho).1) h1
      have hpos : 0 < g := by
        cases hr : Region.ready .any ops L with
        | nil => exact absurd hr hr0
        | cons j t => have := hstep j (by rw [hr]; simp); omega
      obtain ⟨g, rfl⟩ : ∃ g', g = g' + 1 := ⟨g - 1, by omega⟩
      split at h
      · rename_i i σ1 ob1 sc1 hp
        split at h
        · rename_i R2 ob2 sc2 hx
          cases h
          obtain ⟨ho1, ho2⟩ := All.append.1 hob
          obtain ⟨hm, hf, o, ho, hst⟩ := firstPureG_ok hp
          obtain ⟨v, hy, hS1⟩ := pureStepG_ok hst ho1 hS
          refine wpAny_take ho hs hf (by simpa using hm) (fun c a w h => absurd h (hQ c _ w)) hy ?_
          exact ih hx ho2 hS1 hk (by have := hstep i hm; omega) (by simpa using hsz)
        · cases h
      · refine wpAny_all rfl hr0 ?_
        intro j hj
        obtain ⟨ob', sc2, h1, h2⟩ := tryS_ok h hob j hj
        split at h1
        · rename_i o ho
          split at h1
          · rename_i σ1 ob1 sc1 hst
            split at h1
            · rename_i R2 ob2 sc3 hx
              cases h1
              obtain ⟨ho1, ho2⟩ := All.append.1 h2
              refine stepOp_ok hctr hst ho1 ho hS fun β' a' w' hS' => ?_
              exact ih hx ho2 hS' hk (by have := hstep j hj; omega) (by simpa using hsz)
            · cases h1
          · cases h1
        · cases h1
theorem drawS_ok (hm : P.follows .mixedOrders = true) (hctr : CtrOk P ctr) {id : Nat} {d : Ke} {sc sc' : List Bool} {ob : List Prop} (h : drawS P ctr ops d σ sc = some (σ', ob, sc')) (hob : All ob) (hS : Sat w0 S σ β a w)
    {Q : Exit → Act → World → Prop} (hQ : ∀ c a w, ¬ Q (.panic c) a w) (hk : ∀ β' a' w', Sat w0 S σ' β' a' w' → Q .normal a' w') : (Code.region id ops true).wp P Q a w := by
  unfold drawS at h
  split at h
  · rename_i hs
    refine wp_region_any hm ?_
    have hxt : Ext w { w with drawn := w.drawn + 1 } := ⟨rfl, rfl, rfl, Nat.le_refl _, fun _ _ => rfl⟩
    refine execS_ok hctr hs hQ h hob (hS.extend hxt) hk ?_ (by simp)
    simp [left, List.countP_replicate]
  · cases h
end
def regS (P : Program) (ctr : Ctr) (body : Code) (p : List Nat) (r : List It) (d : Ke) (σ : St) (sc : List Bool) : List It × Option St × List Prop × List Bool :=
  match nav body p with
  | some (.region _ ops true) => match drawS P ctr ops d σ sc with
    | some (σ', ob, sc') => (r, some σ', ob, sc')
    | none => ([], none, [], sc)
  | _ => ([], none, [], sc)
theorem hold_allS {P : Program} {body : Code} {w0 : Fr} {S : Own} (hm : P.follows .mixedOrders = true) {ctr : Ctr} (hctr : CtrOk P ctr) {Q : Exit → Act → World → Prop} [ExitOk Q] {p : List Nat} {r : List It} {d : Ke} {σ : St} {sc : List Bool} {st' : List It} {σ' : St} {ob : List Prop} {sc' : List Bool}
    (h : regS P ctr body p r d σ sc = (st', some σ', ob, sc')) (hob : All ob) (hk : Hold P body Q w0 S st' σ') : Hold P body Q w0 S (.at p :: r) σ := by
  unfold regS at h
  split at h
  · rename_i id ops hn
    split at h
    · rename_i σ1 ob1 sc1 hx
      cases h
      intro β a w hS
      simp only [contQ, hn]
      exact drawS_ok hm hctr hx hob hS (contQ_panic (ExitOk.panic (Q := Q)) _) hk
    · cases h
  · cases h
end Go.Eng

namespace Go.Eng
open Go.RowKit
def appendX (P : Program) (σ : St) (t t2 : TypeId) (x y : SV) : Option (St × SV × List Prop) :=
  match elemOf P t, appSrc P t t2 σ.blks y, x with
  | some (e, by'), some (sy, ob0), .osl id n es => match readSl σ.blks (.osl id n es) with
    | some sx => match joinSl sx sy with
      | some r => some (Eng.nilRow σ e, .row σ.next r, ob0 ++ [slenD r * by' ≤ 140737488355328, 0 < slenD sy])
      | none => none
    | none => none
  | _, _, _ => none
def stepX (P : Program) (ops : Array Oper) (σ : St) (o : Oper) (sc : List Bool) : Option (St × List Prop × List Bool) :=
  match guardOf ops σ.slots o with
  | some true => match o.op with
    | .call { callee := .builtin .append, args := ⟨[x, y]⟩, argTypes := ⟨[t, t']⟩ } => match lookρ σ.slots x, lookρ σ.slots y with
      | some sx, some sy => match appendX P σ t t' sx sy.rd with
        | some (σ1, r, ob) => match putS σ1 o.dst r with | some σ' => some (σ', ob, sc) | none => none
        | none => none
      | _, _ => none
    | _ => none
  | _ => none
def stepOpX (P : Program) (ctr : Ctr) (ops : Array Oper) (σ : St) (i : Nat) (o : Oper) (sc : List Bool) : Option (St × List Prop × List Bool) :=
  match stepX P ops σ o sc with
  | some r => some r
  | none => stepOpC P ctr ops σ i o sc
section
variable {P : Program} {ctr : Ctr} {w0 : Fr} {w : World} {S : Own} {σ σ' : St} {β : Nat → Nat} {a : Act} {ops : Array Oper}
theorem core_grow {id : Nat} {t t2 e ty : TypeId} {by' : Nat} (he : elemOf P t = some (e, by')) (hS : Sat w0 S σ β a w) (hR : RowStep σ σ' β S a w id e) {r : SV} {co news : List Value} (hc : slCells r = some (co ++ news)) (hg : slGood r)
    {x2 : Value} (hA : ∀ i z, P.info? e = some i → i.zero = some z → App P w t t2 ty e i z x2 news) (hb : (co.length + news.length) * by' ≤ 140737488355328) (h0 : 0 < news.length) (b : Addr)
    (holds : ∀ j u, co[j]? = some u → w.cell? (b.add j) = some u) :
    ∃ v w' β', (Builtin.append_ #[t, t2] ty #[.slice (some b) co.length co.length, x2]).run P w = .ok v w' ∧ Sat w0 S σ' β' a w' ∧ relV β' (owS S σ'.blks β') w' (.row id r) v := by
  obtain ⟨ht, i, z, hi, hz, hs1, hzs, hb0, hby⟩ := elemOf_ok he
  have hA := hA i z hi hz
  have hle : co.length + news.length ≤ 140737488355328 := Nat.le_trans (Nat.le_mul_of_pos_right _ hb0) hb
  have hr := hA.grow (b := b) (n := co.length) (cap := co.length) (olds := co) (by omega) rfl holds (by omega) (by omega) (by rw [hby]; exact hb) (growslice_fits (by omega) (by rw [hby]; exact hb))
  have hge := grownCap_ge w (co.length + news.length) co.length e
  have hcm2 := grownCap_le_maxLen w (co.length + news.length) co.length e (by simp only [maxLen]; omega)
  have hcore := core_new hS hR (rest := (Builtin.zeroCells z.cells (grownCap w (co.length + news.length) co.length e - (co.length + news.length))).toList) (cap := grownCap w (co.length + news.length) co.length e) hc hg (by
    have := size_zeroCells z.cells (grownCap w (co.length + news.length) co.length e - (co.length + news.length))
    rw [hzs] at this
    simp only [Array.length_toList, List.length_append]
    omega) (by omega) hcm2
  have e1 : (co ++ news ++ (Builtin.zeroCells z.cells (grownCap w (co.length + news.length) co.length e - (co.length + news.length))).toList).toArray = co.toArray ++ news.toArray ++ Builtin.zeroCells z.cells (grownCap w (co.length + news.length) co.length e - (co.length + news.length)) := by
    apply Array.ext'; simp
  rw [e1] at hcore
  simp only [List.length_append] at hcore
  exact ⟨_, _, _, hr, hcore.1, hcore.2⟩
theorem appendX_ok (hS : Sat w0 S σ β a w) {t t2 ty : TypeId} {x y r : SV} {ob : List Prop} (h : appendX P σ t t2 x y = some (σ', r, ob)) (hob : All ob) {v1 v2 : Value}
    (hx : relV β (owS S σ.blks β) w x v1) (hy : relV β (owS S σ.blks β) w y v2) :
    ∃ v w' β', (Builtin.append_ #[t, t2] ty #[v1, v2]).run P w = .ok v w' ∧ Sat w0 S σ' β' a w' ∧ relV β' (owS S σ'.blks β') w' r v := by
  unfold appendX at h
  split at h
  · rename_i e by' sy ob0 id n es he hry
    split at h
    · rename_i sx hrd
      split at h
      · rename_i r' hj
        cases h
        obtain ⟨ho0, hob⟩ := All.append.1 hob
        obtain ⟨gy, cy, hcy, hA⟩ := appSrc_ok (ty := ty) hS.blk he hry ho0 hy
        obtain ⟨gx, cx, A, c, hcx, hv, hcell⟩ := readSl_ok hS.blk hrd hx
        have h1 := relV_scalar rfl rfl hx
        simp only [rel, List.cons.injEq, and_true] at h1
        obtain ⟨hcr, hgr⟩ := joinSl_ok hj hcx hcy
        have hb : (cx.length + cy.length) * by' ≤ 140737488355328 := by have := hob.1; simpa [slenD, cells_slen hcr] using this
        have h0 : 0 < cy.length := by have := hob.2.1; simpa [slenD, cells_slen hcy] using this
        rw [h1] at hv
        cases hv
        rw [h1]
        refine core_grow (σ' := Eng.nilRow σ e) he hS (id := σ.next) ⟨rfl, ?_, ?_, hS.uniq_cons, by simp [Eng.nilRow], ⟨rfl, fun i bk hm _ => ⟨List.mem_cons_of_mem _ hm, .inl (hS.bndB i bk hm).1⟩⟩, by simp [Eng.nilRow]⟩ hcr (hgr gx gy) hA hb h0 ⟨β id, 0, none⟩ ?_
        · intro d s hm
          exact ⟨fun i hi => by have := hS.bnd d s hm i hi; simp only [Eng.nilRow]; omega, hS.slot d s hm⟩
        · intro i bk hm
          rcases List.mem_cons.1 hm with h | h
          · cases h; exact .inl ⟨rfl, rfl⟩
          · exact .inr ⟨h, hS.fresh i bk h⟩
        · intro j u hu
          obtain ⟨ad, e2, _, h3⟩ := hcell (by have := (List.getElem?_eq_some_iff.1 hu).1; omega)
          cases e2
          rw [add_plain]
          simpa using h3 j u hu
      · cases h
    · cases h
  · cases h
theorem wp_appendX {o : Oper} {x y : Operand} {t t2 : TypeId} (ho : o.op = .call { callee := .builtin .append, args := #[x, y], argTypes := #[t, t2] }) (hS : Sat w0 S σ β a w) {sx sy r : SV} {ob : List Prop}
    (h : appendX P σ t t2 sx sy = some (σ', r, ob)) (hob : All ob) (hx : relV β (owS S σ.blks β) w sx (a.eval x)) (hy : relV β (owS S σ.blks β) w sy (a.eval y))
    {K : Act → World → Prop} {Q : Exit → Act → World → Prop} (hk : ∀ v w' β', Sat w0 S σ' β' a w' → relV β' (owS S σ'.blks β') w' r v → K (a.put o.dst v) w') : o.wp P a w K Q := by
  obtain ⟨v, w', β', hr, h1, h2⟩ := appendX_ok (P := P) (ty := o.type) hS h hob hx hy
  unfold Oper.wp execOp
  simp only [ho, resolve, invoke, builtin, Sem.run_bind, Sem.run_pure, Result.andThen_ok, List.map_toArray, List.map_cons, List.map_nil, hr]
  exact hk v w' β' h1 h2
theorem stepOpX_ok (hctr : CtrOk P ctr) {σ' : St} {i : Nat} {o : Oper} {sc sc' : List Bool} {ob : List Prop} (h : stepOpX P ctr ops σ i o sc = some (σ', ob, sc')) (hob : All ob) (hi : ops[i]? = some o)
    (hS : Sat w0 S σ β a w) {K : Act → World → Prop} {Q : Exit → Act → World → Prop} (hk : ∀ β' a' w', Sat w0 S σ' β' a' w' → K a' w') : wpOp P ops Q i K a w := by
  unfold stepOpX at h
  split at h
  · rename_i hx
    cases h
    unfold stepX at hx
    split at hx
    · rename_i hg
      split at hx
      · rename_i x y t t' hop
        split at hx
        · rename_i sx sy hx1 hy1
          split at hx
          · rename_i σ1 r ob' happ
            split at hx
            · rename_i σ2 hput
              cases hx
              unfold wpOp
              simp only [hi]
              rw [guard_ok hS.slot hg]
              simp only [if_true]
              refine .inl ?_
              exact wp_appendX hop hS happ hob (hS.look hx1) (rd_ok (hS.look hy1)) fun v w' β' h1 h2 => hk β' _ _ (h1.put hput h2)
            · cases hx
          · cases hx
        · cases hx
      · cases hx
    · cases hx
  · exact stepOpC_ok hctr h hob hi hS hk
end
def execX (P : Program) (ctr : Ctr) (ops : Array Oper) (d : Ke) : Nat → Array Bool → St → List Bool → Option (St × List Prop × List Bool)
  | 0, _, _, _ => none
  | f + 1, L, σ, sc => match Region.ready .any ops L with
    | [] => match restrict d.ks d.bs d.nx σ with
      | some R => some (R, [], sc)
      | none => none
    | r => match firstPureG P ctr ops L σ sc r with
      | some (i, σ1, ob1, sc1) => match execX P ctr ops d f (L.setIfInBounds i true) σ1 sc1 with
        | some (R, ob2, sc2) => some (R, ob1 ++ ob2, sc2)
        | none => none
      | none => tryS (fun i => match ops[i]? with
        | some o => match stepOpX P ctr ops σ i o sc with
          | some (σ1, ob1, sc1) => match execX P ctr ops d f (L.setIfInBounds i true) σ1 sc1 with
            | some (R, ob2, sc2) => some (R, ob1 ++ ob2, sc2)
            | none => none
          | none => none
        | none => none) r
def drawX (P : Program) (ctr : Ctr) (ops : Array Oper) (d : Ke) (σ : St) (sc : List Bool) : Option (St × List Prop × List Bool) :=
  if Region.noSelect ops then execX P ctr ops d (ops.size + 1) (Array.replicate ops.size false) σ sc else none
section
variable {P : Program} {ctr : Ctr} {w0 : Fr} {w : World} {S : Own} {σ σ' : St} {β : Nat → Nat} {a : Act} {ops : Array Oper}
theorem execX_ok (hctr : CtrOk P ctr) (hs : Region.noSelect ops = true) {d : Ke} {Q : Exit → Act → World → Prop} (hQ : ∀ c a w, ¬ Q (.panic c) a w) : ∀ {f : Nat} {L : Array Bool} {σ : St} {R : St} {sc sc' : List Bool} {ob : List Prop} {β : Nat → Nat} {a : Act} {w : World},
    execX P ctr ops d f L σ sc = some (R, ob, sc') → All ob → Sat w0 S σ β a w → (∀ β' a' w', Sat w0 S R β' a' w' → Q .normal a' w') → ∀ {g : Nat}, left L ≤ g → L.size = ops.size → wpAny P .any ops Q g L a w := by
  intro f
  induction f with
  | zero => intro L σ R sc sc' ob β a w h; simp [execX] at h
  | succ f ih =>
    intro L σ R sc sc' ob β a w h hob hS hk g hl hsz
    simp only [execX] at h
    split at h
    · rename_i hr
      split at h
      · rename_i R1 he
        cases h
        exact wpAny_done hr (hk β a w (hS.restrict he)) g
      · cases h
    · rename_i hr0
      have hstep : ∀ i, i ∈ Region.ready .any ops L → left L = left (L.setIfInBounds i true) + 1 := fun i hi => by
        obtain ⟨h1, o, ho, _⟩ := mem_ready.1 hi
        exact left_set (by rw [hsz]; exact (Array.getElem?_eq_some_iff.1 ho).1) h1
      have hpos : 0 < g := by
        cases hr : Region.ready .any ops L with
        | nil => exact absurd hr hr0
        | cons j t => have := hstep j (by rw [hr]; simp); omega
      obtain ⟨g, rfl⟩ : ∃ g', g = g' + 1 := ⟨g - 1, by omega⟩
      split at h
      · rename_i i σ1 ob1 sc1 hp
        split at h
        · rename_i R2 ob2 sc2 hx
          cases h
          obtain ⟨ho1, ho2⟩ := All.append.1 hob
          obtain ⟨hm, hf, o, ho, hst⟩ := firstPureG_ok hp
          obtain ⟨v, hy, hS1⟩ := pureStepG_ok hst ho1 hS
          refine wpAny_take ho hs hf (by simpa using hm) (fun c a w h => absurd h (hQ c _ w)) hy ?_
          exact ih hx ho2 hS1 hk (by have := hstep i hm; omega) (by simpa using hsz)
        · cases h
      · refine wpAny_all rfl hr0 ?_
        intro j hj
        obtain ⟨ob', sc2, h1, h2⟩ := tryS_ok h hob j hj
        split at h1
        · rename_i o ho
          split at h1
          · rename_i σ1 ob1 sc1 hst
            split at h1
            · rename_i R2 ob2 sc3 hx
              cases h1
              obtain ⟨ho1, ho2⟩ := All.append.1 h2
              refine stepOpX_ok hctr hst ho1 ho hS fun β' a' w' hS' => ?_
              exact ih hx ho2 hS' hk (by have := hstep j hj; omega) (by simpa using hsz)
            · cases h1
          · cases h1
        · cases h1
theorem drawX_ok (hm : P.follows .mixedOrders = true) (hctr : CtrOk P ctr) {id : Nat} {d : Ke} {sc sc' : List Bool} {ob : List Prop} (h : drawX P ctr ops d σ sc = some (σ', ob, sc')) (hob : All ob) (hS : Sat w0 S σ β a w)
    {Q : Exit → Act → World → Prop} (hQ : ∀ c a w, ¬ Q (.panic c) a w) (hk : ∀ β' a' w', Sat w0 S σ' β' a' w' → Q .normal a' w') : (Code.region id ops true).wp P Q a w := by
  unfold drawX at h
  split at h
  · rename_i hs
    refine wp_region_any hm ?_
    have hxt : Ext w { w with drawn := w.drawn + 1 } := ⟨rfl, rfl, rfl, Nat.le_refl _, fun _ _ => rfl⟩
    refine execX_ok hctr hs hQ h hob (hS.extend hxt) hk ?_ (by simp)
    simp [left, List.countP_replicate]
  · cases h
end
def regX (P : Program) (ctr : Ctr) (body : Code) (p : List Nat) (r : List It) (d : Ke) (σ : St) (sc : List Bool) : List It × Option St × List Prop × List Bool :=
  match nav body p with
  | some (.region _ ops true) => match drawX P ctr ops d σ sc with
    | some (σ', ob, sc') => (r, some σ', ob, sc')
    | none => ([], none, [], sc)
  | _ => ([], none, [], sc)
theorem hold_allX {P : Program} {body : Code} {w0 : Fr} {S : Own} (hm : P.follows .mixedOrders = true) {ctr : Ctr} (hctr : CtrOk P ctr) {Q : Exit → Act → World → Prop} [ExitOk Q] {p : List Nat} {r : List It} {d : Ke} {σ : St} {sc : List Bool} {st' : List It} {σ' : St} {ob : List Prop} {sc' : List Bool}
    (h : regX P ctr body p r d σ sc = (st', some σ', ob, sc')) (hob : All ob) (hk : Hold P body Q w0 S st' σ') : Hold P body Q w0 S (.at p :: r) σ := by
  unfold regX at h
  split at h
  · rename_i id ops hn
    split at h
    · rename_i σ1 ob1 sc1 hx
      cases h
      intro β a w hS
      simp only [contQ, hn]
      exact drawX_ok hm hctr hx hob hS (contQ_panic (ExitOk.panic (Q := Q)) _) hk
    · cases h
  · cases h
end Go.Eng

namespace Go.Eng
open Go.RowKit
abbrev Nd := Array Bool × St × List Bool
def insK (x : Nat) : List Nat → List Nat
  | [] => [x]
  | y :: r => if x ≤ y then x :: y :: r else y :: insK x r
def sortK : List Nat → List Nat
  | [] => []
  | x :: r => insK x (sortK r)
def normS (nt m nx : Nat) (σ : St) : Option St := match restrict (sortK (σ.slots.map (·.1))) (sortK (σ.blks.map (·.1))) nx σ with
  | some ⟨nt', sl, bl, nx', m'⟩ => if nt' = nt ∧ m' = m ∧ nx' = nx then some ⟨nt, sl, bl, nx, m⟩ else none
  | none => none
def looks (L : Array Bool) (σ : St) (sc : List Bool) : (List Bool × List Bool) × List (Nat × List Nat) × List (Nat × Bool) :=
  ((L.toList, sc), σ.slots.map (fun p => (p.1, p.2.ids)), σ.blks.map (fun p => (p.1, p.2.row)))
def addNd (L : Array Bool) (σ : St) (sc : List Bool) : List Nd → List Nd × List Prop
  | [] => ([(L, σ, sc)], [])
  | (L', σ', sc') :: r => if looks L σ sc = looks L' σ' sc' then ((L', σ', sc') :: r, [σ = σ']) else match addNd L σ sc r with | (r', ob) => ((L', σ', sc') :: r', ob)
def mergeNd : List Nd → List Nd × List Prop
  | [] => ([], [])
  | (L, σ, sc) :: r => match mergeNd r with | (l, ob) => match addNd L σ sc l with | (l', ob') => (l', ob' ++ ob)
def mapO (f : Nat → Option (Nd × List Prop)) : List Nat → Option (List Nd × List Prop)
  | [] => some ([], [])
  | i :: r => match f i, mapO f r with
    | some (n, ob), some (l, ob') => some (n :: l, ob ++ ob')
    | _, _ => none
def nextNd (P : Program) (ctr : Ctr) (ops : Array Oper) (nt m nx : Nat) : Nd → Option (List Nd × List Prop)
  | (L, σ, sc) => match Region.ready .any ops L with
    | [] => some ([(L, σ, sc)], [])
    | r => match firstPureG P ctr ops L σ sc r with
      | some (i, σ1, ob1, sc1) => match normS nt m nx σ1 with | some σ2 => some ([(L.setIfInBounds i true, σ2, sc1)], ob1) | none => none
      | none => mapO (fun i => match ops[i]? with
        | some o => match stepOpX P ctr ops σ i o sc with
          | some (σ1, ob1, sc1) => match normS nt m nx σ1 with | some σ2 => some ((L.setIfInBounds i true, σ2, sc1), ob1) | none => none
          | none => none
        | none => none) r
def nextAll (P : Program) (ctr : Ctr) (ops : Array Oper) (nt m nx : Nat) : List Nd → Option (List Nd × List Prop)
  | [] => some ([], [])
  | n :: r => match nextNd P ctr ops nt m nx n, nextAll P ctr ops nt m nx r with
    | some (l, ob), some (l', ob') => some (l ++ l', ob ++ ob')
    | _, _ => none
def allDone (ops : Array Oper) (ns : List Nd) : Bool := ns.all fun n => (Region.ready .any ops n.1).isEmpty
def rdSt (σ : St) : St := { σ with slots := σ.slots.map fun p => (p.1, p.2.rd) }
def endSt (d : Ke) (σ : St) : Option St := restrict d.ks d.bs d.nx (if d.bs.isEmpty = true then rdSt σ else σ)
def endAll (d : Ke) : List Nd → Option (St × List Prop × List Bool)
  | [] => none
  | [(_, σ, sc)] => match endSt d σ with
    | some R => some (R, [], sc)
    | none => none
  | (_, σ, sc) :: r => match endSt d σ, endAll d r with
    | some R, some (R', ob, sc') => if sc = sc' then some (R', (R = R') :: ob, sc') else none
    | _, _ => none
def execL (P : Program) (ctr : Ctr) (ops : Array Oper) (d : Ke) (nt m : Nat) : Nat → Nat → List Nd → Option (St × List Prop × List Bool)
  | 0, _, _ => none
  | f + 1, nx, ns => if allDone ops ns = true then endAll d ns else match nextAll P ctr ops nt m nx ns with
    | some (l, ob) => match mergeNd l with
      | (l', ob') => match execL P ctr ops d nt m f (nx + 4) l' with
        | some (R, ob2, sc) => some (R, ob ++ (ob' ++ ob2), sc)
        | none => none
    | none => none
def drawL2 (P : Program) (ctr : Ctr) (ops : Array Oper) (d : Ke) (σ : St) (sc : List Bool) : Option (St × List Prop × List Bool) :=
  if Region.noSelect ops then execL P ctr ops d σ.nt σ.m (ops.size + 1) (σ.next + 4) [(Array.replicate ops.size false, σ, sc)] else none
section
variable {P : Program} {ctr : Ctr} {w0 : Fr} {w : World} {S : Own} {σ σ' : St} {β : Nat → Nat} {a : Act} {ops : Array Oper}
theorem Sat.norm {nt m nx : Nat} (h : normS nt m nx σ = some σ') (hS : Sat w0 S σ β a w) : Sat w0 S σ' β a w := by
  unfold normS at h
  split at h
  · rename_i nt' sl bl nx' m' hr
    split at h
    · rename_i hc
      obtain ⟨rfl, rfl, rfl⟩ := hc
      cases h
      exact hS.restrict hr
    · cases h
  · cases h
theorem rd_ids (s : SV) : ∀ i ∈ s.rd.ids, i ∈ s.ids := by
  cases s <;> intro i hi <;> simp_all [SV.rd, SV.ids]
theorem Sat.rd (hS : Sat w0 S σ β a w) : Sat w0 S (rdSt σ) β a w := by
  refine ⟨hS.defs, hS.size, ?_, hS.blk, hS.low, hS.inj, hS.uniq, ?_, hS.bndB, hS.ext, hS.lowS, hS.pins⟩
  · intro d s hd
    obtain ⟨⟨d', s'⟩, h1, h2⟩ := List.mem_map.1 hd
    cases h2
    exact rd_ok (hS.slot _ _ h1)
  · intro d s hd i hi
    obtain ⟨⟨d', s'⟩, h1, h2⟩ := List.mem_map.1 hd
    cases h2
    exact hS.bnd _ _ h1 i (rd_ids s' i hi)
theorem Sat.ends {d : Ke} (h : endSt d σ = some σ') (hS : Sat w0 S σ β a w) : Sat w0 S σ' β a w := by
  unfold endSt at h
  split at h
  · exact hS.rd.restrict h
  · exact hS.restrict h
theorem addNd_ok {L : Array Bool} {σ : St} {sc : List Bool} : ∀ {l l' : List Nd} {ob : List Prop}, addNd L σ sc l = (l', ob) → All ob → (L, σ, sc) ∈ l' ∧ ∀ m ∈ l, m ∈ l' := by
  intro l
  induction l with
  | nil => intro l' ob h _; simp only [addNd] at h; cases h; exact ⟨by simp, by simp⟩
  | cons m r ih =>
    obtain ⟨L', σ', sc'⟩ := m
    intro l' ob h hob
    simp only [addNd] at h
    split at h
    · rename_i hlk
      cases h
      obtain ⟨h1, _⟩ := hob
      have e1 : L = L' := Array.ext' (congrArg (fun x => x.1.1) hlk)
      have e2 : sc = sc' := congrArg (fun x => x.1.2) hlk
      subst e1 e2 h1
      exact ⟨by simp, fun _ h => h⟩
    · cases hq : addNd L σ sc r with
      | mk r' ob' =>
        rw [hq] at h
        cases h
        obtain ⟨h1, h2⟩ := ih hq hob
        refine ⟨List.mem_cons_of_mem _ h1, fun x hx => ?_⟩
        rcases List.mem_cons.1 hx with rfl | hx
        · simp
        · exact List.mem_cons_of_mem _ (h2 x hx)
theorem mergeNd_ok : ∀ {l l' : List Nd} {ob : List Prop}, mergeNd l = (l', ob) → All ob → ∀ n ∈ l, n ∈ l' := by
  intro l
  induction l with
  | nil => intro l' ob _ _ n hn; cases hn
  | cons n r ih =>
    obtain ⟨L, σ, sc⟩ := n
    intro l' ob h hob m hm
    simp only [mergeNd] at h
    cases hq : mergeNd r with
    | mk l1 ob1 =>
      rw [hq] at h
      dsimp only at h
      cases hq2 : addNd L σ sc l1 with
      | mk l2 ob2 =>
        rw [hq2] at h
        cases h
        obtain ⟨h1, h2⟩ := All.append.1 hob
        obtain ⟨h3, h4⟩ := addNd_ok hq2 h1
        rcases List.mem_cons.1 hm with rfl | hm
        · exact h3
        · exact h4 _ (ih hq h2 _ hm)
theorem mapO_ok {f : Nat → Option (Nd × List Prop)} : ∀ {r : List Nat} {l : List Nd} {ob : List Prop}, mapO f r = some (l, ob) → All ob → ∀ i ∈ r, ∃ n ob', f i = some (n, ob') ∧ All ob' ∧ n ∈ l := by
  intro r
  induction r with
  | nil => intro l ob _ _ i hi; cases hi
  | cons j r ih =>
    intro l ob h hob i hi
    simp only [mapO] at h
    split at h
    · rename_i n ob1 l1 ob2 h1 h2
      cases h
      obtain ⟨ho1, ho2⟩ := All.append.1 hob
      rcases List.mem_cons.1 hi with rfl | hi
      · exact ⟨n, ob1, h1, ho1, by simp⟩
      · obtain ⟨m, ob', h3, h4, h5⟩ := ih h2 ho2 i hi
        exact ⟨m, ob', h3, h4, List.mem_cons_of_mem _ h5⟩
    · cases h
theorem endAll_ok {d : Ke} : ∀ {ns : List Nd} {R : St} {ob : List Prop} {sc : List Bool}, endAll d ns = some (R, ob, sc) → All ob → ∀ n ∈ ns, endSt d n.2.1 = some R := by
  intro ns
  induction ns with
  | nil => intro R ob sc _ _ n hn; cases hn
  | cons n r ih =>
    obtain ⟨L, σ, sc0⟩ := n
    intro R ob sc h hob m hm
    cases r with
    | nil =>
      simp only [endAll] at h
      split at h
      · rename_i R1 h1
        cases h
        rcases List.mem_cons.1 hm with rfl | hm
        · exact h1
        · cases hm
      · cases h
    | cons k r =>
      simp only [endAll] at h
      split at h
      · rename_i R1 R2 ob1 sc1 h1 h2
        split at h
        · cases h
          obtain ⟨ho1, ho2⟩ := hob
          rcases List.mem_cons.1 hm with rfl | hm
          · rw [← ho1]; exact h1
          · exact ih h2 ho2 _ hm
        · cases h
      · cases h
theorem nextAll_ok {nt m nx : Nat} : ∀ {ns l : List Nd} {ob : List Prop}, nextAll P ctr ops nt m nx ns = some (l, ob) → All ob → ∀ n ∈ ns, ∃ l1 ob1, nextNd P ctr ops nt m nx n = some (l1, ob1) ∧ All ob1 ∧ ∀ m ∈ l1, m ∈ l := by
  intro ns
  induction ns with
  | nil => intro l ob _ _ n hn; cases hn
  | cons n r ih =>
    intro l ob h hob m hm
    simp only [nextAll] at h
    split at h
    · rename_i l1 ob1 l2 ob2 h1 h2
      cases h
      obtain ⟨ho1, ho2⟩ := All.append.1 hob
      rcases List.mem_cons.1 hm with rfl | hm
      · exact ⟨l1, ob1, h1, ho1, fun x hx => List.mem_append_left _ hx⟩
      · obtain ⟨l3, ob3, h3, h4, h5⟩ := ih h2 ho2 m hm
        exact ⟨l3, ob3, h3, h4, fun x hx => List.mem_append_right _ (h5 x hx)⟩
    · cases h
theorem execL_ok (hctr : CtrOk P ctr) (hs : Region.noSelect ops = true) {d : Ke} {nt m : Nat} {Q : Exit → Act → World → Prop} (hQ : ∀ c a w, ¬ Q (.panic c) a w) : ∀ {f nx : Nat} {ns : List Nd} {R : St} {sc' : List Bool} {ob : List Prop},
    execL P ctr ops d nt m f nx ns = some (R, ob, sc') → All ob → (∀ β' a' w', Sat w0 S R β' a' w' → Q .normal a' w') → ∀ n ∈ ns, ∀ {β : Nat → Nat} {a : Act} {w : World}, Sat w0 S n.2.1 β a w → ∀ {g : Nat}, left n.1 ≤ g → n.1.size = ops.size → wpAny P .any ops Q g n.1 a w := by
  intro f
  induction f with
  | zero => intro nx ns R sc' ob h; simp [execL] at h
  | succ f ih =>
    intro nx ns R sc' ob h hob hk n hn β a w hS g hl hsz
    simp only [execL] at h
    split at h
    · rename_i hd
      have hr : Region.ready .any ops n.1 = [] := by
        have := List.all_eq_true.1 hd n hn
        simpa using this
      exact wpAny_done hr (hk β a w (hS.ends (endAll_ok h hob n hn))) g
    · split at h
      · rename_i l ob1 hnx
        cases hq : mergeNd l with
        | mk l' ob2 =>
          rw [hq] at h
          dsimp only at h
          split at h
          · rename_i R1 ob3 sc1 hx
            cases h
            obtain ⟨ho1, ho⟩ := All.append.1 hob
            obtain ⟨ho2, ho3⟩ := All.append.1 ho
            obtain ⟨l1, obn, h1, h2, h3⟩ := nextAll_ok hnx ho1 n hn
            have hgo : ∀ m ∈ l1, ∀ {β : Nat → Nat} {a : Act} {w : World}, Sat w0 S m.2.1 β a w → ∀ {g : Nat}, left m.1 ≤ g → m.1.size = ops.size → wpAny P .any ops Q g m.1 a w :=
              fun m hm => ih hx ho3 hk m (mergeNd_ok hq ho2 m (h3 m hm))
            obtain ⟨L, σ, sc⟩ := n
            simp only [nextNd] at h1
            dsimp only at hS hl hsz
            split at h1
            · cases h1
              exact hgo (L, σ, sc) (by simp) hS hl hsz
            · rename_i hr0
              have hstep : ∀ i, i ∈ Region.ready .any ops L → left L = left (L.setIfInBounds i true) + 1 := fun i hi => by
                obtain ⟨h1, o, ho, _⟩ := mem_ready.1 hi
                exact left_set (by rw [hsz]; exact (Array.getElem?_eq_some_iff.1 ho).1) h1
              have hpos : 0 < g := by
                cases hr : Region.ready .any ops L with
                | nil => exact absurd hr hr0
                | cons j t => have := hstep j (by rw [hr]; simp); omega
              obtain ⟨g, rfl⟩ : ∃ g', g = g' + 1 := ⟨g - 1, by omega⟩
              split at h1
              · rename_i i σ1 ob1 sc1 hp
                split at h1
                · rename_i σ2 hno
                  cases h1
                  obtain ⟨hm, hf, o, ho, hst⟩ := firstPureG_ok hp
                  obtain ⟨v, hy, hS1⟩ := pureStepG_ok hst h2 hS
                  refine wpAny_take ho hs hf (by simpa using hm) (fun c a w h => absurd h (hQ c _ w)) hy ?_
                  exact hgo _ (List.mem_singleton.2 rfl) (hS1.norm hno) (by have := hstep i hm; dsimp only; omega) (by simpa using hsz)
                · cases h1
              · refine wpAny_all rfl hr0 ?_
                intro j hj
                obtain ⟨m, obj, h4, h5, h6⟩ := mapO_ok h1 h2 j hj
                split at h4
                · rename_i o ho
                  split at h4
                  · rename_i σ1 ob1 sc1 hst
                    split at h4
                    · rename_i σ2 hno
                      cases h4
                      refine stepOpX_ok hctr hst h5 ho hS fun β' a' w' hS' => ?_
                      exact hgo _ h6 (hS'.norm hno) (by have := hstep j hj; dsimp only; omega) (by simpa using hsz)
                    · cases h4
                  · cases h4
                · cases h4
          · cases h
      · cases h
theorem drawL2_ok (hm : P.follows .mixedOrders = true) (hctr : CtrOk P ctr) {id : Nat} {d : Ke} {sc sc' : List Bool} {ob : List Prop} (h : drawL2 P ctr ops d σ sc = some (σ', ob, sc')) (hob : All ob) (hS : Sat w0 S σ β a w)
    {Q : Exit → Act → World → Prop} (hQ : ∀ c a w, ¬ Q (.panic c) a w) (hk : ∀ β' a' w', Sat w0 S σ' β' a' w' → Q .normal a' w') : (Code.region id ops true).wp P Q a w := by
  unfold drawL2 at h
  split at h
  · rename_i hs
    refine wp_region_any hm ?_
    have hxt : Ext w { w with drawn := w.drawn + 1 } := ⟨rfl, rfl, rfl, Nat.le_refl _, fun _ _ => rfl⟩
    refine execL_ok hctr hs hQ h hob hk _ (List.mem_singleton.2 rfl) (hS.extend hxt) ?_ (by simp)
    simp [left, List.countP_replicate]
  · cases h
end
def regL (P : Program) (ctr : Ctr) (body : Code) (p : List Nat) (r : List It) (d : Ke) (σ : St) (sc : List Bool) : List It × Option St × List Prop × List Bool :=
  match nav body p with
  | some (.region _ ops true) => match drawL2 P ctr ops d σ sc with
    | some (σ', ob, sc') => (r, some σ', ob, sc')
    | none => ([], none, [], sc)
  | _ => ([], none, [], sc)
theorem hold_allL {P : Program} {body : Code} {w0 : Fr} {S : Own} (hm : P.follows .mixedOrders = true) {ctr : Ctr} (hctr : CtrOk P ctr) {Q : Exit → Act → World → Prop} [ExitOk Q] {p : List Nat} {r : List It} {d : Ke} {σ : St} {sc : List Bool} {st' : List It} {σ' : St} {ob : List Prop} {sc' : List Bool}
    (h : regL P ctr body p r d σ sc = (st', some σ', ob, sc')) (hob : All ob) (hk : Hold P body Q w0 S st' σ') : Hold P body Q w0 S (.at p :: r) σ := by
  unfold regL at h
  split at h
  · rename_i id ops hn
    split at h
    · rename_i σ1 ob1 sc1 hx
      cases h
      intro β a w hS
      simp only [contQ, hn]
      exact drawL2_ok hm hctr hx hob hS (contQ_panic (ExitOk.panic (Q := Q)) _) hk
    · cases h
  · cases h
end Go.Eng

namespace Go.Eng
open Go.RowKit
def runPure (P : Program) (ctr : Ctr) (ops : Array Oper) : List Nat → Array Bool → St → List Bool → Option (Array Bool × St × List Prop × List Bool)
  | [], L, σ, sc => some (L, σ, [], sc)
  | i :: r, L, σ, sc => if (Region.ready .any ops L).contains i && Region.free .any ops L i then (match ops[i]? with
      | some o => match pureStepG P ctr ops σ i o sc with
        | some (σ1, ob1, sc1) => match runPure P ctr ops r (L.setIfInBounds i true) σ1 sc1 with
          | some (L2, σ2, ob2, sc2) => some (L2, σ2, ob1 ++ ob2, sc2)
          | none => none
        | none => none
      | none => none) else none
def cutS (σ : St) (id : Nat) : St := { σ with slots := σ.slots.filter fun p => p.2.noSl && p.2.ids.all (apart id) }
def cutApp (P : Program) (σ : St) (oS oA : Oper) : Option (St × List Prop) :=
  match oS.guard, oS.op, oS.dst, oA.guard, oA.op with
  | none, .slice t x none (some hi) none, some d, none, .call { callee := .builtin .append, args := ⟨[.tmp d', .tmp dy]⟩, argTypes := ⟨[t1, t2]⟩ } =>
    if d' = d ∧ t1 = t ∧ t2 = t ∧ dy ≠ d ∧ d < σ.nt then (match lookρ σ.slots x, lookρ (dropS σ (some d)).slots (.tmp dy), elemOf P t, σ.blks with
      | some (.row id (.sl k l)), some (.sl k2 l2), some (e, by'), [(id', ⟨e', [], true⟩)] =>
        if id' = id ∧ e' = e ∧ k2 = k ∧ σ.m = 0 then (match bndS (rdρ (lookρ σ.slots)) (some hi) l.length with
          | some (kk, ob) => match putS (cutS (dropS σ (some d)) id) oA.dst (.row id (.sl k (l.take kk ++ l2))) with
            | some σ' => some (σ', ob ++ [kk ≤ l.length, 0 < l.length, (kk + l2.length) * by' ≤ 140737488355328])
            | none => none
          | none => none) else none
      | _, _, _, _ => none) else none
  | _, _, _, _, _ => none
def drawT2 (P : Program) (ctr : Ctr) (ops : Array Oper) (pre : List Nat) (iS iA : Nat) (d : Ke) (σ : St) (sc : List Bool) : Option (St × List Prop × List Bool) :=
  if Region.noSelect ops then (match runPure P ctr ops pre (Array.replicate ops.size false) σ sc with
    | some (L1, σ1, ob1, sc1) => match ops[iS]?, ops[iA]? with
      | some oS, some oA => if (Region.ready .any ops L1).contains iS && Region.free .any ops L1 iS && (Region.ready .any ops (L1.setIfInBounds iS true) == [iA]) then
          (match cutApp P σ1 oS oA with
          | some (σ2, ob2) => match execX P ctr ops d (ops.size + 1) ((L1.setIfInBounds iS true).setIfInBounds iA true) σ2 sc1 with
            | some (R, ob3, sc3) => some (R, ob1 ++ (ob2 ++ ob3), sc3)
            | none => none
          | none => none) else none
      | _, _ => none
    | none => none) else none
section
variable {P : Program} {ctr : Ctr} {w0 : Fr} {w : World} {S : Own} {σ σ' : St} {β : Nat → Nat} {a : Act} {ops : Array Oper}
theorem Sat.cut (hS : Sat w0 S σ β a w) {id kk : Nat} {e : TypeId} (hb : σ.blks = [(id, ⟨e, [], true⟩)]) (hm : σ.m = 0) (hlive : β (id + 1) ≠ 0) (hk : kk ≤ β (id + 2)) :
    Sat w0 S (cutS σ id) (upd3 β id (β id) (β (id + 1)) kk) a w := by
  have hmem : (id, (⟨e, [], true⟩ : Bk)) ∈ σ.blks := by rw [hb]; simp
  have hl : live β id ⟨e, [], true⟩ := fun _ => hlive
  obtain ⟨cs, h1, h2, h3, h4⟩ := (hS.blk id _ hmem).2 rfl hlive
  have one : ∀ i bk, (i, bk) ∈ (cutS σ id).blks → i = id ∧ bk = ⟨e, [], true⟩ := by
    intro i bk h
    have h : (i, bk) ∈ σ.blks := h
    rw [hb] at h
    simpa using h
  refine ⟨hS.defs, hS.size, ?_, ?_, ?_, ?_, hS.uniq, ?_, ?_, hS.ext, hS.lowS, hS.pins.1, fun i hi => ?_⟩
  · intro d s hd
    obtain ⟨h5, h6⟩ := List.mem_filter.1 hd
    simp only [Bool.and_eq_true] at h6
    exact relV_noSl _ w h6.1 (fun i hi => upd3_o (apart_ok (List.all_eq_true.1 h6.2 i hi))) (hS.slot d s h5)
  · intro i bk h
    obtain ⟨rfl, rfl⟩ := one i bk h
    refine ⟨fun h => (by cases h), fun _ _ => ?_⟩
    rw [upd3_0, upd3_1, upd3_2]
    exact ⟨cs, h1, h2, by omega, h4⟩
  · intro i bk h _
    obtain ⟨rfl, rfl⟩ := one i bk h
    rw [upd3_0]
    exact hS.low _ _ hmem hl
  · intro i j bi bj hi hj _ _ _
    rw [(one i bi hi).1, (one j bj hj).1]
  · intro d s hd i hi
    exact hS.bnd d s (List.mem_filter.1 hd).1 i hi
  · intro i bk h
    exact hS.bndB i bk h
  · rw [← hS.pins.1, hm] at hi
    omega
theorem runPure_ok (hs : Region.noSelect ops = true) {Q : Exit → Act → World → Prop} (hQ : ∀ c a w, ¬ Q (.panic c) a w) : ∀ {pre : List Nat} {L L' : Array Bool} {σ σ' : St} {sc sc' : List Bool} {ob : List Prop} {a : Act},
    runPure P ctr ops pre L σ sc = some (L', σ', ob, sc') → All ob → Sat w0 S σ β a w → L.size = ops.size → (∀ a', Sat w0 S σ' β a' w → L'.size = ops.size → ∀ {g : Nat}, left L' ≤ g → wpAny P .any ops Q g L' a' w) →
    ∀ {g : Nat}, left L ≤ g → wpAny P .any ops Q g L a w := by
  intro pre
  induction pre with
  | nil => intro L L' σ σ' sc sc' ob a h _ hS hsz hk g hl; simp only [runPure] at h; cases h; exact hk a hS hsz hl
  | cons i r ih =>
    intro L L' σ σ' sc sc' ob a h hob hS hsz hk g hl
    simp only [runPure] at h
    split at h
    · rename_i hc
      rw [Bool.and_eq_true] at hc
      have hm : i ∈ Region.ready .any ops L := by simpa using hc.1
      split at h
      · rename_i o ho
        split at h
        · rename_i σ1 ob1 sc1 hst
          split at h
          · rename_i L2 σ2 ob2 sc2 hx
            cases h
            obtain ⟨ho1, ho2⟩ := All.append.1 hob
            obtain ⟨v, hy, hS1⟩ := pureStepG_ok hst ho1 hS
            have hstep : left L = left (L.setIfInBounds i true) + 1 := by
              obtain ⟨h1, o', ho', _⟩ := mem_ready.1 hm
              exact left_set (by rw [hsz]; exact (Array.getElem?_eq_some_iff.1 ho').1) h1
            obtain ⟨g, rfl⟩ : ∃ g', g = g' + 1 := ⟨g - 1, by omega⟩
            refine wpAny_take ho hs hc.2 hc.1 (fun c a w h => absurd h (hQ c _ w)) hy ?_
            exact ih hx ho2 hS1 (by simpa using hsz) hk (by omega)
          · cases h
        · cases h
      · cases h
    · cases h
theorem cutApp_ok {oS oA : Oper} {ob : List Prop} (h : cutApp P σ oS oA = some (σ', ob)) (hob : All ob) (hS : Sat w0 S σ β a w) :
    ∃ v, Yields P ops oS v a ∧ ∀ {K : Act → World → Prop} {Q : Exit → Act → World → Prop} {iA : Nat}, ops[iA]? = some oA → (∀ β' a' w', Sat w0 S σ' β' a' w' → K a' w') → wpOp P ops Q iA K (a.put oS.dst v) w := by
  obtain ⟨dS, opS, tyS, posS, afS, gS⟩ := oS
  obtain ⟨dA, opA, tyA, posA, afA, gA⟩ := oA
  unfold cutApp at h
  simp only at h
  split at h
  · rename_i t x hi d d' dy t1 t2
    split at h
    · rename_i hc
      obtain ⟨rfl, rfl, rfl, hyd, hdn⟩ := hc
      split at h
      · rename_i id k l k2 l2 e by' id' e' hx hy he hblk
        split at h
        · rename_i hc2
          obtain ⟨rfl, rfl, rfl, hm⟩ := hc2
          split at h
          · rename_i kk ob1 hbd
            split at h
            · rename_i σ2 hput
              cases h
              obtain ⟨ho1, ho2⟩ := All.append.1 hob
              obtain ⟨hkl, hl0, hbytes, _⟩ := ho2
              obtain ⟨ht, i, z, hinf, hz, hs1, hzs, hb0, hby⟩ := elemOf_ok he
              have hsz : szT P e' = some 1 := by unfold szT; rw [hinf]; simp [hs1]
              have h1 := relV_scalar rfl rfl (hS.look hx)
              simp only [rel] at h1
              obtain ⟨⟨⟨v0, e0, hrd⟩, hlt⟩, n, hsl, e2, hn, hz0⟩ := h1
              simp only [SV.slen, Option.some.injEq] at hsl
              simp only [List.cons.injEq, and_true] at e0 e2
              have hcap : β (id' + 1) ≠ 0 := fun h => by have := hz0 h; omega
              rw [e2] at e0
              unfold rowV at e0 e2
              rw [if_neg hcap] at e0 e2
              subst e0
              obtain ⟨A, c, e3, hc1, hc63, hcell⟩ := readsAs_cells hrd
              cases e3
              have hil : (ints k2 l).length = l.length := by simp [ints]
              obtain ⟨ad, e4, _, _, hcells⟩ := hcell (by rw [hil]; exact hl0)
              cases e4
              have e5 := bndS_ok (a := a) (rdρ_ok fun y s hy => hS.look hy) hbd ho1
              have hrun : ∀ w', (execOp a.eval ⟨some d', .slice t2 x none (some hi) none, tyS, posS, afS, none⟩).run P w' = .ok (.value (.slice (some ⟨β id', 0, none⟩) kk (β (id' + 1)))) w' := by
                intro w'
                have := slice_run (P := P) (w := w') (A := some ⟨β id', 0, none⟩) (n := (ints k2 l).length) (c := β (id' + 1)) (low := none) (high := some (a.eval hi)) (lo := 0) (hi := kk) ht hsz (.inl ⟨rfl, rfl⟩) (by
                  rcases e5 with ⟨h, _⟩ | ⟨q, h⟩
                  · cases h
                  · exact .inr ⟨q, h⟩) (Nat.zero_le _) (by rw [hil] at hc1; omega)
                rw [if_neg (by omega)] at this
                simp only [execOp, Sem.run_bind, e2, Option.map_none, Option.map_some, this, Result.andThen_ok, Sem.run_pure]
                simp [add_plain]
              refine ⟨_, .inl ⟨rfl, hrun⟩, fun {K Q iA} hiA hk => ?_⟩
              have hSd : Sat w0 S (dropS σ (some d')) β (a.put (some d') (.slice (some ⟨β id', 0, none⟩) kk (β (id' + 1)))) w := hS.drop
              have hl2 := relV_scalar rfl rfl (hSd.look hy)
              simp only [rel, List.cons.injEq, and_true] at hl2
              obtain ⟨⟨v2, e6, hrd2⟩, hlt2⟩ := hl2
              subst e6
              obtain ⟨A2, c2, e7, _, _, hcell2⟩ := readsAs_cells hrd2
              have hblk2 : (dropS σ (some d')).blks = [(id', ⟨e', [], true⟩)] := hblk
              have hmem : (id', (⟨e', [], true⟩ : Bk)) ∈ (cutS (dropS σ (some d')) id').blks := by show _ ∈ (dropS σ (some d')).blks; rw [hblk2]; simp
              have hkn : kk ≤ β (id' + 2) := by omega
              have hSc := hSd.cut hblk2 hm hcap hkn
              have hnew : (ints k2 l2).length = l2.length := by simp [ints]
              have hco : (ints k2 (l.take kk)).length = kk := by simp [ints]; omega
              have hA : ∀ i z, P.info? e' = some i → i.zero = some z → App P w t2 t2 tyA e' i z (.slice A2 (ints k2 l2).length c2) (ints k2 l2) := fun i' z' hi' hz' => by
                rw [hinf] at hi'
                cases hi'
                exact App.slice ht hinf hz' hs1 fun hp => by
                  obtain ⟨ad, q1, q2, _, q3⟩ := hcell2 hp
                  exact ⟨ad, q1, q2, q3⟩
              have hR : RowStep (cutS (dropS σ (some d')) id') (cutS (dropS σ (some d')) id') (upd3 β id' (β id') (β (id' + 1)) kk) S (a.put (some d') (.slice (some ⟨β id', 0, none⟩) kk (β (id' + 1)))) w id' e' := by
                refine ⟨rfl, fun d s hd => ⟨fun i hi => ⟨?_, hSc.bnd d s hd i hi⟩, hSc.slot d s hd⟩, fun i bk hb => .inl ?_, hSc.uniq, Nat.le_refl _, ⟨rfl, fun i bk hb hr => ?_⟩, (hSc.bndB id' _ hmem).2.2 rfl⟩
                · have h6 := (List.mem_filter.1 hd).2
                  simp only [Bool.and_eq_true] at h6
                  exact apart_ok (List.all_eq_true.1 h6.2 i hi)
                · have hb : (i, bk) ∈ (dropS σ (some d')).blks := hb
                  rw [hblk2] at hb
                  simpa using hb
                · exfalso
                  have hb : (i, bk) ∈ (dropS σ (some d')).blks := hb
                  rw [hblk2] at hb
                  simp only [List.mem_singleton, Prod.mk.injEq] at hb
                  rw [hb.2] at hr
                  cases hr
              have hcr : slCells (.sl k2 (l.take kk ++ l2)) = some (ints k2 (l.take kk) ++ ints k2 l2) := by simp [slCells, ints]
              have hgr : slGood (.sl k2 (l.take kk ++ l2)) := by
                intro m hm
                rcases List.mem_append.1 hm with h | h
                · exact hlt m (List.mem_of_mem_take h)
                · exact hlt2 m h
              have := core_live (P := P) (ty := tyA) he hSc hR hcr hgr (fun u hu => by
                obtain ⟨q, _, rfl⟩ := List.mem_map.1 hu; trivial) hA (by rw [hco, hnew]; exact hbytes) hmem (by rw [upd3_1]; exact hcap) (by rw [upd3_1]; simp only [maxLen]; omega) (by rw [upd3_2, hco]) (fun j u hu => by
                rw [upd3_0]
                have hj : j < kk := by have := (List.getElem?_eq_some_iff.1 hu).1; omega
                have := hcells j u (by
                  rw [← hu]
                  simp only [ints, List.map_take]
                  rw [List.getElem?_take_of_lt hj])
                simpa using this)
              obtain ⟨v, w', β', hr, r1, r2⟩ := this
              rw [upd3_0, upd3_1, hco] at hr
              unfold wpOp
              simp only [hiA]
              have hgd : Region.wanted ⟨dA, .call { callee := .builtin .append, args := ⟨[.tmp d', .tmp dy]⟩, argTypes := ⟨[t2, t2]⟩ }, tyA, posA, afA, none⟩ (yielded ops (a.put (some d') (.slice (some ⟨β id', 0, none⟩) kk (β (id' + 1)))).tmps) = true := rfl
              rw [hgd]
              simp only [if_true]
              refine .inl ?_
              have ev : (a.put (some d') (.slice (some ⟨β id', 0, none⟩) kk (β (id' + 1)))).eval (.tmp d') = .slice (some ⟨β id', 0, none⟩) kk (β (id' + 1)) := by
                have hsz2 : d' < a.tmps.size := by rw [hS.size]; exact hdn
                simp [Act.eval, Act.put, hsz2]
              unfold Oper.wp execOp
              simp only [resolve, invoke, builtin, Sem.run_bind, Sem.run_pure, Result.andThen_ok, List.map_toArray, List.map_cons, List.map_nil, ev, e7, hr]
              exact hk β' _ _ (r1.put hput r2)
            · cases h
          · cases h
        · cases h
      · cases h
    · cases h
  · cases h
theorem drawT2_ok (hm : P.follows .mixedOrders = true) (hctr : CtrOk P ctr) {id : Nat} {pre : List Nat} {iS iA : Nat} {d : Ke} {sc sc' : List Bool} {ob : List Prop} (h : drawT2 P ctr ops pre iS iA d σ sc = some (σ', ob, sc')) (hob : All ob) (hS : Sat w0 S σ β a w)
    {Q : Exit → Act → World → Prop} (hQ : ∀ c a w, ¬ Q (.panic c) a w) (hk : ∀ β' a' w', Sat w0 S σ' β' a' w' → Q .normal a' w') : (Code.region id ops true).wp P Q a w := by
  unfold drawT2 at h
  split at h
  · rename_i hs
    split at h
    · rename_i L1 σ1 ob1 sc1 hpre
      split at h
      · rename_i oS oA hoS hoA
        split at h
        · rename_i hc
          simp only [Bool.and_eq_true, beq_iff_eq] at hc
          obtain ⟨⟨hc1, hc2⟩, hc3⟩ := hc
          split at h
          · rename_i σ2 ob2 hcut
            split at h
            · rename_i R ob3 sc3 hx
              cases h
              obtain ⟨ho1, ho⟩ := All.append.1 hob
              obtain ⟨ho2, ho3⟩ := All.append.1 ho
              refine wp_region_any hm ?_
              have hxt : Ext w { w with drawn := w.drawn + 1 } := ⟨rfl, rfl, rfl, Nat.le_refl _, fun _ _ => rfl⟩
              refine runPure_ok hs hQ hpre ho1 (hS.extend hxt) (by simp) (fun a1 hS1 hsz g hg => ?_) (by simp [left, List.countP_replicate])
              have hstep : ∀ (L : Array Bool) i, L.size = ops.size → i ∈ Region.ready .any ops L → left L = left (L.setIfInBounds i true) + 1 := fun L i hL hi => by
                obtain ⟨h1, o, ho, _⟩ := mem_ready.1 hi
                exact left_set (by rw [hL]; exact (Array.getElem?_eq_some_iff.1 ho).1) h1
              have hmS : iS ∈ Region.ready .any ops L1 := by simpa using hc1
              have s1 := hstep _ _ hsz hmS
              have hsz2 : (L1.setIfInBounds iS true).size = ops.size := by simpa using hsz
              have s2 := hstep _ iA hsz2 (by rw [hc3]; simp)
              obtain ⟨g, rfl⟩ : ∃ g', g = g' + 1 := ⟨g - 1, by omega⟩
              obtain ⟨v, hy, hA⟩ := cutApp_ok (ops := ops) hcut ho2 hS1
              refine wpAny_take hoS hs hc2 hc1 (fun c a w h => absurd h (hQ c _ w)) hy ?_
              obtain ⟨g, rfl⟩ : ∃ g', g = g' + 1 := ⟨g - 1, by omega⟩
              refine wpAny_all rfl (by rw [hc3]; simp) fun j hj => ?_
              rw [hc3] at hj
              obtain rfl : j = iA := by simpa using hj
              refine hA hoA fun β' a' w' hS' => ?_
              exact execX_ok hctr hs hQ hx ho3 hS' hk (by omega) (by simpa using hsz2)
            · cases h
          · cases h
        · cases h
      · cases h
    · cases h
  · cases h
end
def regT (P : Program) (ctr : Ctr) (body : Code) (p : List Nat) (r : List It) (pre : List Nat) (iS iA : Nat) (d : Ke) (σ : St) (sc : List Bool) : List It × Option St × List Prop × List Bool :=
  match nav body p with
  | some (.region _ ops true) => match drawT2 P ctr ops pre iS iA d σ sc with
    | some (σ', ob, sc') => (r, some σ', ob, sc')
    | none => ([], none, [], sc)
  | _ => ([], none, [], sc)
theorem hold_cutT {P : Program} {body : Code} {w0 : Fr} {S : Own} (hm : P.follows .mixedOrders = true) {ctr : Ctr} (hctr : CtrOk P ctr) {Q : Exit → Act → World → Prop} [ExitOk Q] {p : List Nat} {r : List It} {pre : List Nat} {iS iA : Nat} {d : Ke} {σ : St} {sc : List Bool} {st' : List It} {σ' : St} {ob : List Prop} {sc' : List Bool}
    (h : regT P ctr body p r pre iS iA d σ sc = (st', some σ', ob, sc')) (hob : All ob) (hk : Hold P body Q w0 S st' σ') : Hold P body Q w0 S (.at p :: r) σ := by
  unfold regT at h
  split at h
  · rename_i id ops hn
    split at h
    · rename_i σ1 ob1 sc1 hx
      cases h
      intro β a w hS
      simp only [contQ, hn]
      exact drawT2_ok hm hctr hx hob hS (contQ_panic (ExitOk.panic (Q := Q)) _) hk
    · cases h
  · cases h
end Go.Eng

namespace Go.Eng.B
open Go Go.Eng Go.Proofs
set_option maxRecDepth 100000
set_option maxHeartbeats 1000000
def stSp : List It := [.at [1, 0, 1, 0, 1, 1, 1, 1], .blk 0, .at [1, 1, 1, 1, 1]]
def sSp (b : List Nat) (k m : Nat) (y : Int) : St := ⟨59, [(2, .i .i64 y), (7, .row 0 (.sl .u8 b)), (8, .u .i64 k), (23, .u .i64 m), (27, .b (m == 0))], [(0, ⟨5, [], true⟩)], 3, 0⟩
def sSp2 (b : List Nat) (k : Nat) : St := ⟨59, [(7, .row 0 (.sl .u8 b)), (8, .u .i64 k)], [(0, ⟨5, [], true⟩)], 3, 0⟩
def sSp3 (b : List Nat) (k : Nat) (y : Int) : St := ⟨59, [(2, .i .i64 y), (7, .row 0 (.sl .u8 b)), (8, .u .i64 k)], [(0, ⟨5, [], true⟩)], 3, 0⟩
def sSp4 (l : List Nat) : St := ⟨59, [(6, .row 0 (.sl .u8 l))], [(0, ⟨5, [], true⟩)], 3, 0⟩
def sSp6 (l : List Nat) : St := ⟨59, [(6, .sl .u8 l)], [], 0, 0⟩
def eSpo (sv : List Nat → Int → Int → List Nat) (args : List SV) : Option (SV × List Prop) := match args with
  | [.sl .u8 b, x, y] => match x.int?, y.int? with
    | some (.i64, k), some (.i64, n) => some (.sl .u8 (sv b k n), [b.length ≤ 1000000])
    | _, _ => none
  | _ => none
section
variable {w0 : World} {S : Own} {res : SV}
theorem sp_r (l : List Nat) (hr : res = .sl .u8 l) : Hold Try.prog (bodyOf Try.f62) (Fin Try.prog Try.f62 w0 S res) w0 S [.at [1, 0, 1, 1, 1, 0, 1, 0, 1, 1, 1, 1], .blk 0, .at [1, 1, 1, 1, 1]] (sSp4 l) := by
  rw [hr]
  refine hold_endw mixed okC1 (unroll := true) (f := 100) (sc := []) (r := (Go.Eng.SV.sl Go.IntKind.u8 l)) (ob := []) (sc' := []) (by kernel_rfl) trivial ?_
  exact wkR_refl _
theorem sp1 (b : List Nat) (k : Nat) (hk : k < b.length) (hb : b.length ≤ 1000000) (hr : res = .sl .u8 (b.take k ++ b.drop (k + 1))) : Hold Try.prog (bodyOf Try.f62) (Fin Try.prog Try.f62 w0 S res) w0 S [.at [0, 0, 1, 1, 1, 0, 1, 0, 1, 1, 1, 1], .at [1, 0, 1, 1, 1, 0, 1, 0, 1, 1, 1, 1], .blk 0, .at [1, 1, 1, 1, 1]] (sSp2 b k) := by
  refine hold_cutT mixed okC1 (p := [0, 0, 1, 1, 1, 0, 1, 0, 1, 1, 1, 1]) (r := [.at [1, 0, 1, 1, 1, 0, 1, 0, 1, 1, 1, 1], .blk 0, .at [1, 1, 1, 1, 1]]) (pre := [0, 1, 3, 4, 5, 6]) (iS := 2) (iA := 7) (d := Ke.mk [6] [0] 3) (σ := sSp2 b k) (sc := []) (st' := [Go.Eng.It.at [(1 : Nat), (0 : Nat), (1 : Nat), (1 : Nat), (1 : Nat), (0 : Nat), (1 : Nat), (0 : Nat), (1 : Nat), (1 : Nat), (1 : Nat), (1 : Nat)], Go.Eng.It.blk (0 : Nat), Go.Eng.It.at [(1 : Nat), (1 : Nat), (1 : Nat), (1 : Nat), (1 : Nat)]]) (σ' := (Go.Eng.St.mk (59 : Nat) [((6 : Nat), Go.Eng.SV.row (0 : Nat) (Go.Eng.SV.sl Go.IntKind.u8 (List.take k b ++ List.drop (k + (1 : Nat)) (List.take b.length b))))] [((0 : Nat), Go.Eng.Bk.mk (5 : Nat) [] Bool.true)] (3 : Nat) (0 : Nat))) (ob := [k + (1 : Nat) < (9223372036854775808 : Nat), k + (1 : Nat) ≤ b.length, b.length ≤ b.length, k ≤ b.length, (0 : Nat) < b.length, (k + (List.drop (k + (1 : Nat)) (List.take b.length b)).length) * (1 : Nat) ≤ (140737488355328 : Nat)]) (sc' := []) (by kernel_rfl) ?_ ?_
  · exact ⟨by omega, by omega, Nat.le_refl _, by omega, by omega, by rw [List.take_length, List.length_drop]; omega, trivial⟩
  · rw [List.take_length]
    refine Hold.cast (sp_r (b.take k ++ b.drop (k + 1)) hr) rfl
theorem sp2 (b : List Nat) (k : Nat) (y : Int) (hk : k < b.length) (hb : b.length ≤ 1000000) (hr : res = .sl .u8 (b.take k ++ [(y % 256).toNat] ++ b.drop k)) : Hold Try.prog (bodyOf Try.f62) (Fin Try.prog Try.f62 w0 S res) w0 S [.at [0, 0, 1, 1, 1, 1, 1, 0, 1, 0, 1, 1, 1, 1], .at [1, 0, 1, 1, 1, 1, 1, 0, 1, 0, 1, 1, 1, 1], .blk 0, .at [1, 1, 1, 1, 1]] (sSp3 b k y) := by
  refine hold_allL mixed okC1 (p := [0, 0, 1, 1, 1, 1, 1, 0, 1, 0, 1, 1, 1, 1]) (r := [.at [1, 0, 1, 1, 1, 1, 1, 0, 1, 0, 1, 1, 1, 1], .blk 0, .at [1, 1, 1, 1, 1]]) (d := Ke.mk [6] [] 0) (σ := sSp3 b k y) (sc := []) (st' := [Go.Eng.It.at [(1 : Nat), (0 : Nat), (1 : Nat), (1 : Nat), (1 : Nat), (1 : Nat), (1 : Nat), (0 : Nat), (1 : Nat), (0 : Nat), (1 : Nat), (1 : Nat), (1 : Nat), (1 : Nat)], Go.Eng.It.blk (0 : Nat), Go.Eng.It.at [(1 : Nat), (1 : Nat), (1 : Nat), (1 : Nat), (1 : Nat)]]) (σ' := (Go.Eng.St.mk (59 : Nat) [((6 : Nat), Go.Eng.SV.sl Go.IntKind.u8 (List.drop (0 : Nat) (List.take k b) ++ [(y % (256 : Int)).toNat] ++ List.drop k (List.take b.length b)))] [] (0 : Nat) (0 : Nat))) (ob := [(0 : Nat) ≤ k, k ≤ b.length, k ≤ b.length, b.length ≤ b.length, Go.Eng.slenD (Go.Eng.SV.sl Go.IntKind.u8 (List.drop (0 : Nat) (List.take k b))) * (1 : Nat) ≤ (140737488355328 : Nat), Go.Eng.slenD (Go.Eng.SV.sl Go.IntKind.u8 (List.drop (0 : Nat) (List.take k b))) * (1 : Nat) ≤ (140737488355328 : Nat), Go.Eng.slenD (Go.Eng.SV.sl Go.IntKind.u8 (List.drop (0 : Nat) (List.take k b))) * (1 : Nat) ≤ (140737488355328 : Nat), Go.Eng.slenD (Go.Eng.SV.sl Go.IntKind.u8 (List.drop (0 : Nat) (List.take k b) ++ [(y % (256 : Int)).toNat])) * (1 : Nat) ≤ (140737488355328 : Nat), Go.Eng.slenD (Go.Eng.SV.sl Go.IntKind.u8 (List.drop (0 : Nat) (List.take k b) ++ [(y % (256 : Int)).toNat])) * (1 : Nat) ≤ (140737488355328 : Nat), Go.Eng.slenD (Go.Eng.SV.sl Go.IntKind.u8 (List.drop (0 : Nat) (List.take k b) ++ [(y % (256 : Int)).toNat])) * (1 : Nat) ≤ (140737488355328 : Nat), Go.Eng.slenD (Go.Eng.SV.sl Go.IntKind.u8 (List.drop (0 : Nat) (List.take k b) ++ [(y % (256 : Int)).toNat] ++ List.drop k (List.take b.length b))) * (1 : Nat) ≤ (140737488355328 : Nat), Go.Eng.slenD (Go.Eng.SV.sl Go.IntKind.u8 (List.drop (0 : Nat) (List.take k b) ++ [(y % (256 : Int)).toNat] ++ List.drop k (List.take b.length b))) * (1 : Nat) ≤ (140737488355328 : Nat), Go.Eng.slenD (Go.Eng.SV.sl Go.IntKind.u8 (List.drop (0 : Nat) (List.take k b) ++ [(y % (256 : Int)).toNat] ++ List.drop k (List.take b.length b))) * (1 : Nat) ≤ (140737488355328 : Nat), Go.Eng.St.mk (59 : Nat) [((6 : Nat), Go.Eng.SV.sl Go.IntKind.u8 (List.drop (0 : Nat) (List.take k b) ++ [(y % (256 : Int)).toNat] ++ List.drop k (List.take b.length b)))] [] (0 : Nat) (0 : Nat) = Go.Eng.St.mk (59 : Nat) [((6 : Nat), Go.Eng.SV.sl Go.IntKind.u8 (List.drop (0 : Nat) (List.take k b) ++ [(y % (256 : Int)).toNat] ++ List.drop k (List.take b.length b)))] [] (0 : Nat) (0 : Nat), Go.Eng.St.mk (59 : Nat) [((6 : Nat), Go.Eng.SV.sl Go.IntKind.u8 (List.drop (0 : Nat) (List.take k b) ++ [(y % (256 : Int)).toNat] ++ List.drop k (List.take b.length b)))] [] (0 : Nat) (0 : Nat) = Go.Eng.St.mk (59 : Nat) [((6 : Nat), Go.Eng.SV.sl Go.IntKind.u8 (List.drop (0 : Nat) (List.take k b) ++ [(y % (256 : Int)).toNat] ++ List.drop k (List.take b.length b)))] [] (0 : Nat) (0 : Nat)]) (sc' := []) (by kernel_rfl) ?_ ?_
  · rw [List.take_length]
    repeat' first | exact True.intro | exact rfl | omega | (simp only [slenD, SV.slen, Option.getD_some, List.length_append, List.length_cons, List.length_nil, List.length_take, List.length_drop]; omega) | refine ⟨?_, ?_⟩
  · rw [List.take_length]
    rw [hr]
    refine hold_endw mixed okC1 (unroll := true) (f := 100) (sc := []) (r := (Go.Eng.SV.sl Go.IntKind.u8 (List.take k b ++ [(y % (256 : Int)).toNat] ++ List.drop k b))) (ob := []) (sc' := []) (by kernel_rfl) trivial ?_
    exact wkR_refl _
end
def spoV (b : List Nat) (a y : Int) : List Nat :=
  if b.length = 0 then [(y % 256).toNat]
  else if (y.tdiv 256 % 4).toNat = 0 then b.set (a % b.length).toNat (y % 256).toNat
  else if (y.tdiv 256 % 4).toNat = 1 then b.take (a % b.length).toNat ++ b.drop ((a % b.length).toNat + 1)
  else if (y.tdiv 256 % 4).toNat = 2 then b.take (a % b.length).toNat ++ [(y % 256).toNat] ++ b.drop (a % b.length).toNat
  else b.take (a % b.length).toNat
theorem spoV_len (b : List Nat) (a y : Int) : (spoV b a y).length ≤ b.length + 1 := by
  unfold spoV
  repeat' split
  all_goals simp only [List.length_cons, List.length_nil, List.length_set, List.length_append, List.length_take, List.length_drop]
  all_goals omega
theorem tdiv_in {y : Int} (h : inR .i64 y) : (256 : Int) ≠ 0 ∧ inR .i64 (y.tdiv 256) := by
  refine ⟨by decide, ?_⟩
  simp only [inR, lo, lim] at h ⊢
  have h1 := @Int.tdiv_eq_ediv y 256
  rw [show Int.sign 256 = 1 by decide] at h1
  rw [h1]
  split <;> omega
theorem spo_c (b : List Nat) (a y : Int) (hb : b.length ≤ 1000000) : Contract Try.prog 62 [.sl .u8 b, .i .i64 a, .i .i64 y] (.sl .u8 (spoV b a y)) := by
  refine contract Try.func62 (body := bodyOf Try.f62) rfl (by kernel_rfl) (by kernel_rfl) rfl ?_
  rintro ⟨_, _, hy, _⟩ w0 S
  have hty := tdiv_in hy
  by_cases h0 : b.length = 0
  · refine hold_endw mixed okC1 (unroll := true) (f := 100) (sc := [true]) (r := (Go.Eng.SV.sl Go.IntKind.u8 [(y % (256 : Int)).toNat])) (ob := [Go.Eng.slenD (Go.Eng.SV.sl Go.IntKind.u8 b) * (1 : Nat) ≤ (140737488355328 : Nat), (b.length == (0 : Nat)) = Bool.true]) (sc' := []) (by kernel_rfl) ?_ ?_
    · exact ⟨by show b.length * 1 ≤ _; omega, by rw [h0]; rfl, trivial⟩
    · unfold spoV; rw [if_pos h0]; exact wkR_refl _
  · have m0 := Int.emod_nonneg a (show (b.length : Int) ≠ 0 by omega)
    have m1 := Int.emod_lt_of_pos a (show (0 : Int) < (b.length : Int) by omega)
    have m2 := Int.emod_nonneg (y.tdiv 256) (show (4 : Int) ≠ 0 by omega)
    have m3 := Int.emod_lt_of_pos (y.tdiv 256) (show (0 : Int) < 4 by omega)
    refine hold_cut mixed okC1 (unroll := true) (f := 300) (sc := [false]) (ks := [2,7,8,23,27]) (bs := [0]) (nx := 3) (st' := [Go.Eng.It.at [(1 : Nat), (0 : Nat), (1 : Nat), (0 : Nat), (1 : Nat), (1 : Nat), (1 : Nat), (1 : Nat)], Go.Eng.It.blk (0 : Nat), Go.Eng.It.at [(1 : Nat), (1 : Nat), (1 : Nat), (1 : Nat), (1 : Nat)]]) (σ' := { nt := (59 : Nat), slots := [((2 : Nat), Go.Eng.SV.i Go.IntKind.i64 y), ((7 : Nat), Go.Eng.SV.row (0 : Nat) (Go.Eng.SV.sl Go.IntKind.u8 b)), ((8 : Nat), Go.Eng.SV.u Go.IntKind.i64 (a % (↑b.length : Int)).toNat), ((23 : Nat), Go.Eng.SV.u Go.IntKind.i64 (y.tdiv (256 : Int) % (4 : Int)).toNat), ((27 : Nat), Go.Eng.SV.b ((y.tdiv (256 : Int) % (4 : Int)).toNat == (0 : Nat)))], blks := [((0 : Nat), { ty := (5 : Nat), segs := [], row := Bool.true })], next := (3 : Nat) }) (ob := [Go.Eng.slenD (Go.Eng.SV.sl Go.IntKind.u8 b) * (1 : Nat) ≤ (140737488355328 : Nat), (b.length == (0 : Nat)) = Bool.false, (0 : Int) < (↑b.length : Int), (256 : Int) ≠ (0 : Int) ∧ Go.Eng.inR Go.IntKind.i64 (y.tdiv (256 : Int)), (0 : Int) < (4 : Int)]) (sc' := []) (by kernel_rfl) ?_ ?_
    · exact ⟨by show b.length * 1 ≤ _; omega, beq_eq_false_iff_ne.mpr h0, by omega, hty, by decide, trivial⟩
    · have ek : spoV b a y = spoV b a y := rfl
      conv at ek => rhs; unfold spoV
      rw [if_neg h0] at ek
      rw [ek]
      generalize hk : (a % (b.length : Int)).toNat = k at *
      have hkl : k < b.length := by omega
      generalize hm : (y.tdiv 256 % 4).toNat = m at *
      by_cases c0 : m = 0
      · rw [if_pos c0]
        refine hold_endw mixed okC1 (unroll := true) (f := 100) (sc := [true]) (r := (Go.Eng.SV.sl Go.IntKind.u8 (b.set k (y % (256 : Int)).toNat))) (ob := [(m == (0 : Nat)) = Bool.true, k < b.length]) (sc' := []) (by kernel_rfl) ?_ ?_
        · exact ⟨beq_iff_eq.mpr c0, hkl, trivial⟩
        · exact wkR_refl _
      · rw [if_neg c0]
        by_cases c1 : m = 1
        · rw [if_pos c1]
          refine hold_cut mixed okC1 (unroll := true) (f := 100) (sc := [false, true]) (ks := [7,8]) (bs := [0]) (nx := 3) (st' := [Go.Eng.It.at [(0 : Nat), (0 : Nat), (1 : Nat), (1 : Nat), (1 : Nat), (0 : Nat), (1 : Nat), (0 : Nat), (1 : Nat), (1 : Nat), (1 : Nat), (1 : Nat)], Go.Eng.It.at [(1 : Nat), (0 : Nat), (1 : Nat), (1 : Nat), (1 : Nat), (0 : Nat), (1 : Nat), (0 : Nat), (1 : Nat), (1 : Nat), (1 : Nat), (1 : Nat)], Go.Eng.It.blk (0 : Nat), Go.Eng.It.at [(1 : Nat), (1 : Nat), (1 : Nat), (1 : Nat), (1 : Nat)]]) (σ' := { nt := (59 : Nat), slots := [((7 : Nat), Go.Eng.SV.row (0 : Nat) (Go.Eng.SV.sl Go.IntKind.u8 b)), ((8 : Nat), Go.Eng.SV.u Go.IntKind.i64 k)], blks := [((0 : Nat), { ty := (5 : Nat), segs := [], row := Bool.true })], next := (3 : Nat) }) (ob := [(m == (0 : Nat)) = Bool.false, (m == (1 : Nat)) = Bool.true]) (sc' := []) (by kernel_rfl) ?_ ?_
          · exact ⟨beq_eq_false_iff_ne.mpr c0, beq_iff_eq.mpr c1, trivial⟩
          · exact sp1 b k hkl hb rfl
        · rw [if_neg c1]
          by_cases c2 : m = 2
          · rw [if_pos c2]
            refine hold_cut mixed okC1 (unroll := true) (f := 100) (sc := [false, false, true]) (ks := [2,7,8]) (bs := [0]) (nx := 3) (st' := [Go.Eng.It.at [(0 : Nat), (0 : Nat), (1 : Nat), (1 : Nat), (1 : Nat), (1 : Nat), (1 : Nat), (0 : Nat), (1 : Nat), (0 : Nat), (1 : Nat), (1 : Nat), (1 : Nat), (1 : Nat)], Go.Eng.It.at [(1 : Nat), (0 : Nat), (1 : Nat), (1 : Nat), (1 : Nat), (1 : Nat), (1 : Nat), (0 : Nat), (1 : Nat), (0 : Nat), (1 : Nat), (1 : Nat), (1 : Nat), (1 : Nat)], Go.Eng.It.blk (0 : Nat), Go.Eng.It.at [(1 : Nat), (1 : Nat), (1 : Nat), (1 : Nat), (1 : Nat)]]) (σ' := { nt := (59 : Nat), slots := [((2 : Nat), Go.Eng.SV.i Go.IntKind.i64 y), ((7 : Nat), Go.Eng.SV.row (0 : Nat) (Go.Eng.SV.sl Go.IntKind.u8 b)), ((8 : Nat), Go.Eng.SV.u Go.IntKind.i64 k)], blks := [((0 : Nat), { ty := (5 : Nat), segs := [], row := Bool.true })], next := (3 : Nat) }) (ob := [(m == (0 : Nat)) = Bool.false, (m == (1 : Nat)) = Bool.false, (m == (2 : Nat)) = Bool.true]) (sc' := []) (by kernel_rfl) ?_ ?_
            · exact ⟨beq_eq_false_iff_ne.mpr c0, beq_eq_false_iff_ne.mpr c1, beq_iff_eq.mpr c2, trivial⟩
            · exact sp2 b k y hkl hb rfl
          · rw [if_neg c2]
            refine hold_endw mixed okC1 (unroll := true) (f := 100) (sc := [false, false, false]) (r := (Go.Eng.SV.sl Go.IntKind.u8 (List.drop (0 : Nat) (List.take k b)))) (ob := [(m == (0 : Nat)) = Bool.false, (m == (1 : Nat)) = Bool.false, (m == (2 : Nat)) = Bool.false, (0 : Nat) ≤ k, k ≤ b.length]) (sc' := []) (by kernel_rfl) ?_ ?_
            · exact ⟨beq_eq_false_iff_ne.mpr c0, beq_eq_false_iff_ne.mpr c1, beq_eq_false_iff_ne.mpr c2, by omega, by omega, trivial⟩
            · exact wkR_refl _
theorem cSpo : ∀ args res ob, eSpo spoV args = some (res, ob) → All ob → Contract Try.prog 62 args res := by
  intro args res ob h hob
  unfold eSpo at h
  split at h
  · split at h
    · rename_i hx hy
      cases h
      exact Contract.args (args' := [.sl .u8 _, .i .i64 _, .i .i64 _]) ⟨wk_refl _, int?_wk hx, int?_wk hy, rfl⟩ (spo_c _ _ _ hob.1)
    · cases h
  · cases h
end Go.Eng.B

namespace Go.Eng.B
open Go Go.Eng Go.Proofs
set_option maxRecDepth 100000
def smB (k : Int) (i : Nat) : Nat := ((k % 18446744073709551616).toNat / 2 ^ (8 * (i % 8) % 18446744073709551616) % 256 + i / 8 % 256) % 256
def smL (k : Int) (i : Nat) : List Nat := itr (fun b j => b ++ [smB k j]) [] i
def stS : List It := [.lp [0, 1, 0, 1, 1], .blk 0, .at [1, 1, 1]]
def sS (k n : Int) (i : Nat) : St := ⟨28, [(0, .i .i64 k), (5, .row 0 (.sl .u8 (smL k i))), (7, .i .i64 n), (8, .u .i64 i)], [(0, bY)], 3, 0⟩
def eSome (args : List SV) : Option (SV × List Prop) :=
  match args with
  | [x, y] => match x.int?, y.int? with
    | some (.i64, k), some (.i64, n) => some (.sl .u8 (smL k n.toNat), [n ≤ 1000000])
    | _, _ => none
  | _ => none
theorem smL_len (k : Int) : ∀ i, (smL k i).length = i := by
  intro i
  induction i with
  | zero => rfl
  | succ i ih => show (smL k i ++ [smB k i]).length = _; simp [ih]
theorem smL_succ (k : Int) (i : Nat) : smL k (i + 1) = smL k i ++ [smB k i] := rfl
section
variable {w0 : World} {S : Own} {res : SV}
theorem some_l (k n : Int) (hn : n ≤ 1000000) (hr : res = .sl .u8 (smL k n.toNat)) : ∀ d i, n.toNat - i = d → i ≤ n.toNat → Hold Try.prog (bodyOf Try.f47) (Fin Try.prog Try.f47 w0 S res) w0 S stS (sS k n i) := by
  intro d
  induction d using Nat.strongRecOn with
  | _ d ih =>
  intro i hd hi
  have hl := smL_len k i
  refine hold_unroll (c := _) rfl ?_
  by_cases hlt : (i : Int) < n
  · have e := ih (n.toNat - (i + 1)) (by omega) (i + 1) rfl (by omega)
    rw [show sS k n (i + 1) = ⟨28, [(0, .i .i64 k), (5, .row 0 (.sl .u8 (smL k i ++ [smB k i]))), (7, .i .i64 n), (8, .u .i64 (i + 1))], [(0, bY)], 3, 0⟩ from rfl] at e
    unfold smB at e
    refine hold_cut mixed okC1 (unroll := false) (f := 300) (sc := [true]) (ks := [0,5,7,8]) (bs := [0]) (nx := 3) (st' := [Go.Eng.It.lp [(0 : Nat), (1 : Nat), (0 : Nat), (1 : Nat), (1 : Nat)], Go.Eng.It.blk (0 : Nat), Go.Eng.It.at [(1 : Nat), (1 : Nat), (1 : Nat)]]) (σ' := { nt := (28 : Nat), slots := [((0 : Nat), Go.Eng.SV.i Go.IntKind.i64 k), ((5 : Nat), Go.Eng.SV.row (0 : Nat) (Go.Eng.SV.sl Go.IntKind.u8 (smL k i ++ [((k % (18446744073709551616 : Int)).toNat / (2 : Nat) ^ ((8 : Nat) * (i % (8 : Nat)) % (18446744073709551616 : Nat)) % (256 : Nat) + i / (8 : Nat) % (256 : Nat)) % (256 : Nat)]))), ((7 : Nat), Go.Eng.SV.i Go.IntKind.i64 n), ((8 : Nat), Go.Eng.SV.u Go.IntKind.i64 (i + (1 : Nat)))], blks := [((0 : Nat), { ty := (5 : Nat), segs := [], row := Bool.true })], next := (3 : Nat) }) (ob := [Decidable.decide ((↑i : Int) < n) = Bool.true, (8 : Nat) * (i % (8 : Nat)) % (18446744073709551616 : Nat) < (64 : Nat), Go.Eng.slenD (Go.Eng.SV.sl Go.IntKind.u8 (smL k i ++ [((k % (18446744073709551616 : Int)).toNat / (2 : Nat) ^ ((8 : Nat) * (i % (8 : Nat)) % (18446744073709551616 : Nat)) % (256 : Nat) + i / (8 : Nat) % (256 : Nat)) % (256 : Nat)])) * (1 : Nat) ≤ (140737488355328 : Nat), i + (1 : Nat) < (9223372036854775808 : Nat)]) (sc' := []) (by kernel_rfl) (by repeat' first | exact trivial | exact decide_eq_true (by omega) | exact decide_eq_false (by omega) | omega | (simp only [slenD, SV.slen, List.length_append, List.length_cons, List.length_nil]; omega) | (simp only [inR, lo, lim]; omega) | refine ⟨?_, ?_⟩) ?_
    exact e
  · have e : i = n.toNat := by omega
    subst e
    refine hold_end mixed okC1 (unroll := false) (f := 300) (sc := [false]) (r := (Go.Eng.SV.sl Go.IntKind.u8 (smL k n.toNat))) (ob := [Decidable.decide ((↑n.toNat : Int) < n) = Bool.false]) (sc' := []) (by kernel_rfl) (by repeat' first | exact trivial | exact decide_eq_true (by omega) | exact decide_eq_false (by omega) | omega | (simp only [slenD, SV.slen, List.length_append, List.length_cons, List.length_nil]; omega) | (simp only [inR, lo, lim]; omega) | refine ⟨?_, ?_⟩) ?_
    exact hr.symm
theorem some_c (k n : Int) (hn : n ≤ 1000000) : Contract Try.prog 47 [.i .i64 k, .i .i64 n] (.sl .u8 (smL k n.toNat)) := by
  refine contract Try.func47 (body := bodyOf Try.f47) rfl (by kernel_rfl) (by kernel_rfl) rfl ?_
  intro _ w0 S
  refine hold_cut mixed okC1 (unroll := false) (f := 100) (sc := []) (ks := [0,5,7,8]) (bs := []) (nx := 0) (st' := [Go.Eng.It.lp [(0 : Nat), (1 : Nat), (0 : Nat), (1 : Nat), (1 : Nat)], Go.Eng.It.blk (0 : Nat), Go.Eng.It.at [(1 : Nat), (1 : Nat), (1 : Nat)]]) (σ' := { nt := (28 : Nat), slots := [((0 : Nat), Go.Eng.SV.i Go.IntKind.i64 k), ((5 : Nat), Go.Eng.SV.nil), ((7 : Nat), Go.Eng.SV.i Go.IntKind.i64 n), ((8 : Nat), Go.Eng.SV.c Go.IntKind.i64 (0 : Int))], blks := [], next := (0 : Nat) }) (ob := []) (sc' := []) (by kernel_rfl) trivial ?_
  refine hold_nil (t := 5) (e := 5) (s0 := .sl .u8 []) rfl ?_
  refine hold_restrict (ks := [0,5,7,8]) (bs := [0]) (nx := 3) rfl ?_
  exact Hold.weaken (some_l k n hn rfl _ 0 rfl (by omega)) (by simp [wks, wk, wk0, lim, sS, smL, itr])
end
theorem some_ok : ∀ args res ob, eSome args = some (res, ob) → All ob → Contract Try.prog 47 args res := by
  intro args res ob he hob
  unfold eSome at he
  split at he
  · split at he
    · rename_i hx hy
      cases he
      exact Contract.argsF (some_c _ _ hob.1) ⟨int?_wk hx, int?_wk hy, rfl⟩
    · cases he
  · cases he
def atN (l : List Int) (a i : Nat) : Nat := itr (fun a _ => nextA l a) a i
def bys (l : List Int) (a i : Nat) : List Nat := itr (fun b j => b ++ [nextV l (atN l a j) 256 % 256]) [] i
def bysK (l : List Int) (a : Nat) (n : Int) : Nat := nextV l a (n + 1)
def bysL (l : List Int) (a : Nat) (n : Int) : List Nat := bys l (nextA l a) (bysK l a n)
def bysA (l : List Int) (a : Nat) (n : Int) : Nat := atN l (nextA l a) (bysK l a n)
def stBy : List It := [.lp [0, 1, 0, 1, 1], .blk 0, .at [1, 1, 1]]
def sBy (l : List Int) (a m i : Nat) : St := ⟨22, [(0, .ptr 0 0 (.c 0)), (5, .row 1 (.sl .u8 (bys l a i))), (6, .u .i64 (m - i))], [(0, deckB l (atN l a i)), (1, bY)], 4, 1⟩
def eBytes (H : List Bk) (args : List SV) : Option (MRes × List Prop) :=
  match H, args with
  | [⟨96, [.sli l, a], false⟩], [.ptr 0 0 (.c 0), x] => match a.nat?, x.int? with
    | some (.i64, at'), some (.i64, n) => some (⟨.row 1 (.sl .u8 (bysL l at' n)), [deckB l (bysA l at' n)], [bY]⟩, [0 ≤ n, n ≤ 100000])
    | _, _ => none
  | _, _ => none
theorem deck_hand {P : Program} {f : FuncId} {l : List Int} {a : SV} {at' : Nat} {args : List SV} {r : MRes} (ha : a.nat? = some (.i64, at')) (h : ContractM P f [deckB l at'] args r) : ContractM P f [⟨96, [.sli l, a], false⟩] args r := by
  intro w S β vs h1 h2 h3 h4 h5
  have hlt : at' < lim .i64 := by
    obtain ⟨cs, q1, _⟩ := (h3 0 ⟨96, [.sli l, a], false⟩ (by simp [numB])).1 rfl
    simp only [rels] at q1
    obtain ⟨c1, c2, _, _, c3, c4, _, q3, _⟩ := q1
    exact (nat?_ok ha q3).2
  refine ContractM.hand (H := [⟨96, [.sli l, a], false⟩]) (H' := [deckB l at']) (show wkB _ (_ :: []) from ⟨rfl, rfl, show wkl (_ :: a :: []) (_ :: (SV.u .i64 at') :: []) from ⟨wk_refl _, ?_, rfl⟩, rfl⟩) rfl h w S β vs h1 h2 h3 h4 h5
  cases a <;> simp [SV.nat?] at ha
  · obtain ⟨q1, rfl, q3⟩ := ha
    simp only [wk, wk0, wka]
    refine ⟨trivial, by omega, hlt⟩
  · obtain ⟨rfl, rfl⟩ := ha
    exact wk_refl _
theorem bys_len (l : List Int) (a : Nat) : ∀ i, (bys l a i).length = i := by
  intro i
  induction i with
  | zero => rfl
  | succ i ih => show (bys l a i ++ [_]).length = _; simp [ih]
section
variable {F : Fr} {S : Own} {res : MRes}
theorem bytes_l (l : List Int) (a m : Nat) (hm : m ≤ 100000) (hr : res = ⟨.row 1 (.sl .u8 (bys l a m)), [deckB l (atN l a m)], [bY]⟩) : ∀ d i, m - i = d → i ≤ m → Hold Try.prog (bodyOf Try.f49) (FinM Try.prog Try.f49 F S res) F S stBy (sBy l a m i) := by
  intro d
  induction d using Nat.strongRecOn with
  | _ d ih =>
  intro i hd hi
  have hl := bys_len l a i
  refine hold_unroll (c := _) rfl ?_
  by_cases hlt : i < m
  · have e := ih (m - (i + 1)) (by omega) (i + 1) rfl (by omega)
    refine hold_cut mixed okC1 (unroll := false) (f := 300) (sc := [true]) (ks := [0,5,6]) (bs := [0,1]) (nx := 4) (st' := [Go.Eng.It.lp [(0 : Nat), (1 : Nat), (0 : Nat), (1 : Nat), (1 : Nat)], Go.Eng.It.blk (0 : Nat), Go.Eng.It.at [(1 : Nat), (1 : Nat), (1 : Nat)]]) (σ' := { nt := (22 : Nat), slots := [((0 : Nat), Go.Eng.SV.ptr (0 : Nat) (0 : Nat) (Go.Eng.Ix.c (0 : Nat))), ((5 : Nat), Go.Eng.SV.row (1 : Nat) (Go.Eng.SV.sl Go.IntKind.u8 (bys l a i ++ [Go.Eng.B.nextV l (atN l a i) (256 : Int) % (256 : Nat)]))), ((6 : Nat), Go.Eng.SV.i Go.IntKind.i64 ((↑(m - i) : Int) - (1 : Int)))], blks := [((0 : Nat), { ty := (96 : Nat), segs := [Go.Eng.SV.sli l, Go.Eng.SV.u Go.IntKind.i64 (Go.Eng.B.nextA l (atN l a i))] }), ((1 : Nat), { ty := (5 : Nat), segs := [], row := Bool.true })], next := (4 : Nat), m := (1 : Nat) }) (ob := [Decidable.decide ((0 : Nat) < m - i) = Bool.true, (0 : Int) < (256 : Int), Go.Eng.slenD (Go.Eng.SV.sl Go.IntKind.u8 (bys l a i ++ [Go.Eng.B.nextV l (atN l a i) (256 : Int) % (256 : Nat)])) * (1 : Nat) ≤ (140737488355328 : Nat)]) (sc' := []) (by kernel_rfl) (by repeat' first | exact trivial | exact decide_eq_true (by omega) | exact decide_eq_false (by omega) | omega | (simp only [slenD, SV.slen, List.length_append, List.length_cons, List.length_nil]; omega) | (simp only [inR, lo, lim]; omega) | refine ⟨?_, ?_⟩) ?_
    exact Hold.weaken e (by simp only [wks, wk, wk0, sBy, lim, and_true, true_and]; first | omega | (refine ⟨rfl, ?_⟩; omega) | (refine ⟨rfl, rfl, ?_⟩; omega))
  · have e : i = m := by omega
    subst e
    refine hold_endNw mixed okC1 (news := [1]) (unroll := false) (f := 300) (sc := [false]) (r := { res := Go.Eng.SV.row ((0 : Nat) + Go.Eng.wid { ty := (96 : Nat), segs := [Go.Eng.SV.sli l, Go.Eng.SV.u Go.IntKind.i64 (atN l a i)] }) (Go.Eng.SV.sl Go.IntKind.u8 (bys l a i)), upd := [{ ty := (96 : Nat), segs := [Go.Eng.SV.sli l, Go.Eng.SV.u Go.IntKind.i64 (atN l a i)] }], new := [{ ty := (5 : Nat), segs := [], row := Bool.true }] }) (ob := [Decidable.decide ((0 : Nat) < i - i) = Bool.false]) (sc' := []) (by kernel_rfl) (by repeat' first | exact trivial | exact decide_eq_true (by omega) | exact decide_eq_false (by omega) | omega | (simp only [slenD, SV.slen, List.length_append, List.length_cons, List.length_nil]; omega) | (simp only [inR, lo, lim]; omega) | refine ⟨?_, ?_⟩) ?_
    exact wkM_of hr.symm
theorem bytes_m (l : List Int) (a : Nat) (n : Int) (hn0 : 0 ≤ n) (hn : n ≤ 100000) : ContractM Try.prog 49 [deckB l a] [.ptr 0 0 (.c 0), .i .i64 n] ⟨.row 1 (.sl .u8 (bysL l a n)), [deckB l (bysA l a n)], [bY]⟩ := by
  refine contractM Try.func49 (body := bodyOf Try.f49) rfl (by kernel_rfl) (by kernel_rfl) rfl rfl ?_
  rintro _ _ F S hF
  have hk : bysK l a n ≤ 100000 := by
    unfold bysK nextV
    split
    · have := Int.emod_lt_of_pos (l.getD a 0) (show 0 < n + 1 by omega); omega
    · omega
  refine hold_cut mixed okC1 (unroll := false) (f := 100) (sc := []) (ks := [0,5,6]) (bs := [0]) (nx := 1) (st' := [Go.Eng.It.lp [(0 : Nat), (1 : Nat), (0 : Nat), (1 : Nat), (1 : Nat)], Go.Eng.It.blk (0 : Nat), Go.Eng.It.at [(1 : Nat), (1 : Nat), (1 : Nat)]]) (σ' := { nt := (22 : Nat), slots := [((0 : Nat), Go.Eng.SV.ptr (0 : Nat) (0 : Nat) (Go.Eng.Ix.c (0 : Nat))), ((5 : Nat), Go.Eng.SV.nil), ((6 : Nat), Go.Eng.SV.u Go.IntKind.i64 (Go.Eng.B.nextV l a (n + (1 : Int))))], blks := [((0 : Nat), { ty := (96 : Nat), segs := [Go.Eng.SV.sli l, Go.Eng.SV.u Go.IntKind.i64 (Go.Eng.B.nextA l a)] })], next := (1 : Nat), m := (1 : Nat) }) (ob := [Go.Eng.inR Go.IntKind.i64 (n + (1 : Int)), (0 : Int) < n + (1 : Int)]) (sc' := []) (by kernel_rfl) (by repeat' first | exact trivial | exact decide_eq_true (by omega) | exact decide_eq_false (by omega) | omega | (simp only [slenD, SV.slen, List.length_append, List.length_cons, List.length_nil]; omega) | (simp only [inR, lo, lim]; omega) | refine ⟨?_, ?_⟩) ?_
  refine hold_nil (t := 5) (e := 5) (s0 := .sl .u8 []) rfl ?_
  refine hold_restrict (ks := [0,5,6]) (bs := [0,1]) (nx := 4) rfl ?_
  exact Hold.weaken (bytes_l l (nextA l a) (bysK l a n) hk rfl _ 0 rfl (by omega)) (by simp [wks, wk, wk0, lim, sBy, bys, bysK, itr])
end
theorem bytes_ok : ∀ H args r ob, eBytes H args = some (r, ob) → All ob → ContractM Try.prog 49 H args r := by
  intro H args r ob h hob
  unfold eBytes at h
  split at h
  · rename_i l a x
    split at h
    · rename_i at' n ha hx
      cases h
      exact deck_hand ha (ContractM.args (args' := [.ptr 0 0 (.c 0), .i .i64 n]) ⟨wk_refl _, int?_wk hx, rfl⟩ (bytes_m l at' n hob.1 hob.2.1))
    · cases h
  · cases h
end Go.Eng.B

namespace Go.Eng.B
open Go Go.Eng Go.Proofs
set_option maxRecDepth 100000
set_option maxHeartbeats 1000000
noncomputable def V3a (g h : List Nat → List Nat) : Ctr := addC 63 (eCheck g) (addC 64 (eCheck g) (addC 62 (eSpo spoV) (addC 47 eSome (addM 49 eBytes (addC 46 eAll (V2a g h))))))
noncomputable def V3 (g h : List Nat → List Nat) : Ctr := addC 59 eT (V3a g h)
theorem ckT_self {g : List Nat → List Nat} (k p : List Nat) (n : Int) (t : Nat) (ht : t ≤ 1073741824) : ckT g k p (mkL g k p t) n t = if n < (t : Int) ∨ 16 < n - (t : Int) then 39 else 0 := by
  unfold ckT; rw [if_neg (by omega), if_neg (by simp)]
theorem be4_mkL {g : List Nat → List Nat} (k p : List Nat) (t : Nat) (ht : t ≤ 1073741824) : be4 (mkL g k p t) = t := by
  unfold be4 mkL fourL
  show ((t / 16777216 % 256 * 256 + t / 65536 % 256) * 256 + t / 256 % 256) * 256 + t % 256 = t
  omega
theorem mkL_len {g : List Nat → List Nat} (hl : ∀ b, (g b).length = 32) (k p : List Nat) (t : Nat) : (mkL g k p t).length = 12 := by
  unfold mkL; simp [fourL_len, hm_len hl]
theorem ckE_self {g : List Nat → List Nat} (hl : ∀ b, (g b).length = 32) (k p : List Nat) (n : Int) (t : Nat) (ht : t ≤ 1073741824) (ho : okK k p n = true) : ckE g k p (mkL g k p t) n = if n < (t : Int) ∨ 16 < n - (t : Int) then 39 else 0 := by
  unfold ckE
  rw [if_neg (by rw [ho]; decide), if_neg (by rw [mkL_len hl]; decide), be4_mkL k p t ht, ckT_self k p n t ht]
theorem aw_e {g : List Nat → List Nat} (hl : ∀ b, (g b).length = 32) {k : List Nat} (hk : k.length = 16) : (mkV g k [] 10).length = 12 ∧ ckE g k [] (mkV g k [] 10) 26 = 0 ∧ ckE g k [] (mkV g k [] 10) 27 = 39 ∧ ckE g k [] (mkV g k [] 10) 9 = 39 := by
  have ho : okK k [] 10 = true ∧ okK k [] 26 = true ∧ okK k [] 27 = true ∧ okK k [] 9 = true := by simp [okK, hk]
  have e0 : mkV g k [] 10 = mkL g k [] 10 := by unfold mkV; rw [if_pos ho.1]; rfl
  rw [e0]
  refine ⟨mkL_len hl _ _ _, ?_, ?_, ?_⟩
  · rw [ckE_self hl k [] 26 10 (by decide) ho.2.1]; rfl
  · rw [ckE_self hl k [] 27 10 (by decide) ho.2.2.1]; rfl
  · rw [ckE_self hl k [] 9 10 (by decide) ho.2.2.2]; rfl
section
variable {g h : List Nat → List Nat} (hg : g = sum32) (hh : h = sum64) {w0 : World} {S : Own} {res : SV}
include hg hh
theorem okV3a : CtrOk Try.prog (V3a g h) := by
  exact addC_ok (addC_ok (addC_ok (addC_ok (addM_ok (addC_ok (okV2a hg hh) all_ok) bytes_ok) some_ok) cSpo) (eCheck_ok (qcheck_c hg hh))) (eCheck_ok (check_c hg hh))
theorem awake38_c : Contract Try.prog 59 [] (.b true) := by
  have hl : ∀ b, (g b).length = 32 := by rw [hg]; exact sum32_len
  refine contract Try.func59 (body := bodyOf Try.f59) rfl (by kernel_rfl) (by kernel_rfl) rfl ?_
  intro _ w0 S
  obtain ⟨e1, e2, e3, e4⟩ := aw_e hl (k := [0, 0, 0, 0, 0, 0, 0, 0, 0, 0, 0, 0, 0, 0, 0, 0]) rfl
  refine hold_endw mixed (okV3a hg hh) (unroll := true) (f := 100) (sc := [true, true, true, true]) (r := (Go.Eng.SV.b (Go.Eng.B.ckE g [(0 : Nat), (0 : Nat), (0 : Nat), (0 : Nat), (0 : Nat), (0 : Nat), (0 : Nat), (0 : Nat), (0 : Nat), (0 : Nat), (0 : Nat), (0 : Nat), (0 : Nat), (0 : Nat), (0 : Nat), (0 : Nat)] [] (Go.Eng.B.mkV g [(0 : Nat), (0 : Nat), (0 : Nat), (0 : Nat), (0 : Nat), (0 : Nat), (0 : Nat), (0 : Nat), (0 : Nat), (0 : Nat), (0 : Nat), (0 : Nat), (0 : Nat), (0 : Nat), (0 : Nat), (0 : Nat)] [] (10 : Int)) (9 : Int) == (39 : Nat)))) (ob := [Bool.true = Bool.true, ((Go.Eng.B.mkV g [(0 : Nat), (0 : Nat), (0 : Nat), (0 : Nat), (0 : Nat), (0 : Nat), (0 : Nat), (0 : Nat), (0 : Nat), (0 : Nat), (0 : Nat), (0 : Nat), (0 : Nat), (0 : Nat), (0 : Nat), (0 : Nat)] [] (10 : Int)).length == (12 : Nat)) = Bool.true, (Go.Eng.B.ckE g [(0 : Nat), (0 : Nat), (0 : Nat), (0 : Nat), (0 : Nat), (0 : Nat), (0 : Nat), (0 : Nat), (0 : Nat), (0 : Nat), (0 : Nat), (0 : Nat), (0 : Nat), (0 : Nat), (0 : Nat), (0 : Nat)] [] (Go.Eng.B.mkV g [(0 : Nat), (0 : Nat), (0 : Nat), (0 : Nat), (0 : Nat), (0 : Nat), (0 : Nat), (0 : Nat), (0 : Nat), (0 : Nat), (0 : Nat), (0 : Nat), (0 : Nat), (0 : Nat), (0 : Nat), (0 : Nat)] [] (10 : Int)) (26 : Int) == (0 : Nat)) = Bool.true, (Go.Eng.B.ckE g [(0 : Nat), (0 : Nat), (0 : Nat), (0 : Nat), (0 : Nat), (0 : Nat), (0 : Nat), (0 : Nat), (0 : Nat), (0 : Nat), (0 : Nat), (0 : Nat), (0 : Nat), (0 : Nat), (0 : Nat), (0 : Nat)] [] (Go.Eng.B.mkV g [(0 : Nat), (0 : Nat), (0 : Nat), (0 : Nat), (0 : Nat), (0 : Nat), (0 : Nat), (0 : Nat), (0 : Nat), (0 : Nat), (0 : Nat), (0 : Nat), (0 : Nat), (0 : Nat), (0 : Nat), (0 : Nat)] [] (10 : Int)) (27 : Int) == (39 : Nat)) = Bool.true]) (sc' := []) (by kernel_rfl) ⟨rfl, beq_iff_eq.mpr e1, beq_iff_eq.mpr e2, beq_iff_eq.mpr e3, trivial⟩ ?_
  rw [e4]
  exact wkR_of rfl
theorem okV3 : CtrOk Try.prog (V3 g h) := addC_ok (okV3a hg hh) (eT_ok (awake38_c hg hh))
end
end Go.Eng.B

namespace Go.Eng.B
open Go Go.Eng Go.Proofs
set_option maxRecDepth 100000
set_option maxHeartbeats 2000000
def sEV (key peer value K P V : List Nat) (t now a b : Int) : St := ⟨164, [(0, .sl .u8 key), (1, .sl .u8 peer), (2, .sl .u8 value), (4, .i .i64 now), (5, .i .i64 a), (6, .i .i64 b), (16, .sl .u8 K), (17, .row 2 (.sl .u8 P)), (18, .i .i64 t), (19, .sl .u8 V)], [(2, ⟨5, [], true⟩)], 5, 0⟩
section
variable {g h : List Nat → List Nat} (hg : g = sum32) (hh : h = sum64) {w0 : World} {S : Own} {res : SV}
include hg hh
theorem ev1 (key peer value K P V : List Nat) (t now a b : Int) (h0 : 0 ≤ t) (h1 : t < 100) (hV : V.length ≤ 1000000) (hr : res = .b true) : Hold Try.prog (bodyOf Try.f11) (Fin Try.prog Try.f11 w0 S res) w0 S [.at [0, 1, 1, 1, 1, 1], .at [1, 1, 1, 1, 1, 1]] (sEV key peer value K P V t now a b) := by
  rw [hr]
  have i1 : inR .i64 (t + 16) := by simp only [inR, lo, lim]; omega
  have i2 : inR .i64 (t + 17) := by simp only [inR, lo, lim]; omega
  have i3 : inR .i64 (t - 1) := by simp only [inR, lo, lim]; omega
  have d0 : ∀ l : List Nat, (!decide (l = l)) = false := fun l => by simp
  exact hold_endw mixed (okV3 hg hh) (unroll := true) (f := 3000) (sc := [false, false, false, false, false, false, false, false, false, false, false, false, false, false, false, false, false, false, false, false, false, false, false, false, false, false, false, false, false, false, false, false, false, false, false, false, false, false, false, false, false, false, false, false, false, false, false, false, false, false, false, false, false, false, false, false, false, false, false, false, false, false, false, false, false, false, false, false, false, false, false, false, false, false, false, false, false, false, false, false, false, false, false, false, false, false, false, false, false, false, false, false, false, false, false, false]) (r := (Go.Eng.SV.cb Bool.true)) (ob := [(Go.Eng.B.mkE key peer now != Go.Eng.B.mkE key peer now) = Bool.false, (!Decidable.decide (Go.Eng.B.mkV g key peer now = Go.Eng.B.mkV g key peer now)) = Bool.false, (Go.Eng.B.mkE key peer t != Go.Eng.B.mkE key peer t) = Bool.false, (!Decidable.decide (Go.Eng.B.mkV g key peer t = Go.Eng.B.mkV g key peer t)) = Bool.false, V.length ≤ (1000000 : Nat), Go.Eng.inR Go.IntKind.i64 (t + (16 : Int)), Go.Eng.inR Go.IntKind.i64 (t + (17 : Int)), Go.Eng.inR Go.IntKind.i64 (t - (1 : Int)), (Go.Eng.B.ckE g key peer value now != Go.Eng.B.ckE g key peer value now) = Bool.false, (Go.Eng.B.ckE g key peer value t != Go.Eng.B.ckE g key peer value t) = Bool.false, (Go.Eng.B.ckE g key peer value (t + (16 : Int)) != Go.Eng.B.ckE g key peer value (t + (16 : Int))) = Bool.false, (Go.Eng.B.ckE g key peer value (t + (17 : Int)) != Go.Eng.B.ckE g key peer value (t + (17 : Int))) = Bool.false, (Go.Eng.B.ckE g key peer value (t - (1 : Int)) != Go.Eng.B.ckE g key peer value (t - (1 : Int))) = Bool.false, Go.Eng.inR Go.IntKind.i64 (t + (16 : Int)), Go.Eng.inR Go.IntKind.i64 (t + (17 : Int)), Go.Eng.inR Go.IntKind.i64 (t - (1 : Int)), (Go.Eng.B.ckE g key peer V now != Go.Eng.B.ckE g key peer V now) = Bool.false, (Go.Eng.B.ckE g key peer V t != Go.Eng.B.ckE g key peer V t) = Bool.false, (Go.Eng.B.ckE g key peer V (t + (16 : Int)) != Go.Eng.B.ckE g key peer V (t + (16 : Int))) = Bool.false, (Go.Eng.B.ckE g key peer V (t + (17 : Int)) != Go.Eng.B.ckE g key peer V (t + (17 : Int))) = Bool.false, (Go.Eng.B.ckE g key peer V (t - (1 : Int)) != Go.Eng.B.ckE g key peer V (t - (1 : Int))) = Bool.false, Go.Eng.inR Go.IntKind.i64 (t + (16 : Int)), Go.Eng.inR Go.IntKind.i64 (t + (17 : Int)), Go.Eng.inR Go.IntKind.i64 (t - (1 : Int)), (Go.Eng.B.ckE g key peer (Go.Eng.B.spoV V a b) now != Go.Eng.B.ckE g key peer (Go.Eng.B.spoV V a b) now) = Bool.false, (Go.Eng.B.ckE g key peer (Go.Eng.B.spoV V a b) t != Go.Eng.B.ckE g key peer (Go.Eng.B.spoV V a b) t) = Bool.false, (Go.Eng.B.ckE g key peer (Go.Eng.B.spoV V a b) (t + (16 : Int)) != Go.Eng.B.ckE g key peer (Go.Eng.B.spoV V a b) (t + (16 : Int))) = Bool.false, (Go.Eng.B.ckE g key peer (Go.Eng.B.spoV V a b) (t + (17 : Int)) != Go.Eng.B.ckE g key peer (Go.Eng.B.spoV V a b) (t + (17 : Int))) = Bool.false, (Go.Eng.B.ckE g key peer (Go.Eng.B.spoV V a b) (t - (1 : Int)) != Go.Eng.B.ckE g key peer (Go.Eng.B.spoV V a b) (t - (1 : Int))) = Bool.false, Go.Eng.inR Go.IntKind.i64 (t + (16 : Int)), Go.Eng.inR Go.IntKind.i64 (t + (17 : Int)), Go.Eng.inR Go.IntKind.i64 (t - (1 : Int)), (Go.Eng.B.ckE g key peer [(255 : Nat), (255 : Nat), (255 : Nat), (255 : Nat), (0 : Nat), (0 : Nat), (0 : Nat), (0 : Nat), (0 : Nat), (0 : Nat), (0 : Nat), (0 : Nat)] now != Go.Eng.B.ckE g key peer [(255 : Nat), (255 : Nat), (255 : Nat), (255 : Nat), (0 : Nat), (0 : Nat), (0 : Nat), (0 : Nat), (0 : Nat), (0 : Nat), (0 : Nat), (0 : Nat)] now) = Bool.false, (Go.Eng.B.ckE g key peer [(255 : Nat), (255 : Nat), (255 : Nat), (255 : Nat), (0 : Nat), (0 : Nat), (0 : Nat), (0 : Nat), (0 : Nat), (0 : Nat), (0 : Nat), (0 : Nat)] t != Go.Eng.B.ckE g key peer [(255 : Nat), (255 : Nat), (255 : Nat), (255 : Nat), (0 : Nat), (0 : Nat), (0 : Nat), (0 : Nat), (0 : Nat), (0 : Nat), (0 : Nat), (0 : Nat)] t) = Bool.false, (Go.Eng.B.ckE g key peer [(255 : Nat), (255 : Nat), (255 : Nat), (255 : Nat), (0 : Nat), (0 : Nat), (0 : Nat), (0 : Nat), (0 : Nat), (0 : Nat), (0 : Nat), (0 : Nat)] (t + (16 : Int)) != Go.Eng.B.ckE g key peer [(255 : Nat), (255 : Nat), (255 : Nat), (255 : Nat), (0 : Nat), (0 : Nat), (0 : Nat), (0 : Nat), (0 : Nat), (0 : Nat), (0 : Nat), (0 : Nat)] (t + (16 : Int))) = Bool.false, (Go.Eng.B.ckE g key peer [(255 : Nat), (255 : Nat), (255 : Nat), (255 : Nat), (0 : Nat), (0 : Nat), (0 : Nat), (0 : Nat), (0 : Nat), (0 : Nat), (0 : Nat), (0 : Nat)] (t + (17 : Int)) != Go.Eng.B.ckE g key peer [(255 : Nat), (255 : Nat), (255 : Nat), (255 : Nat), (0 : Nat), (0 : Nat), (0 : Nat), (0 : Nat), (0 : Nat), (0 : Nat), (0 : Nat), (0 : Nat)] (t + (17 : Int))) = Bool.false, (Go.Eng.B.ckE g key peer [(255 : Nat), (255 : Nat), (255 : Nat), (255 : Nat), (0 : Nat), (0 : Nat), (0 : Nat), (0 : Nat), (0 : Nat), (0 : Nat), (0 : Nat), (0 : Nat)] (t - (1 : Int)) != Go.Eng.B.ckE g key peer [(255 : Nat), (255 : Nat), (255 : Nat), (255 : Nat), (0 : Nat), (0 : Nat), (0 : Nat), (0 : Nat), (0 : Nat), (0 : Nat), (0 : Nat), (0 : Nat)] (t - (1 : Int))) = Bool.false, (Go.Eng.B.mkE K P now != Go.Eng.B.mkE K P now) = Bool.false, (!Decidable.decide (Go.Eng.B.mkV g K P now = Go.Eng.B.mkV g K P now)) = Bool.false, (Go.Eng.B.mkE K P t != Go.Eng.B.mkE K P t) = Bool.false, (!Decidable.decide (Go.Eng.B.mkV g K P t = Go.Eng.B.mkV g K P t)) = Bool.false, V.length ≤ (1000000 : Nat), Go.Eng.inR Go.IntKind.i64 (t + (16 : Int)), Go.Eng.inR Go.IntKind.i64 (t + (17 : Int)), Go.Eng.inR Go.IntKind.i64 (t - (1 : Int)), (Go.Eng.B.ckE g K P value now != Go.Eng.B.ckE g K P value now) = Bool.false, (Go.Eng.B.ckE g K P value t != Go.Eng.B.ckE g K P value t) = Bool.false, (Go.Eng.B.ckE g K P value (t + (16 : Int)) != Go.Eng.B.ckE g K P value (t + (16 : Int))) = Bool.false, (Go.Eng.B.ckE g K P value (t + (17 : Int)) != Go.Eng.B.ckE g K P value (t + (17 : Int))) = Bool.false, (Go.Eng.B.ckE g K P value (t - (1 : Int)) != Go.Eng.B.ckE g K P value (t - (1 : Int))) = Bool.false, Go.Eng.inR Go.IntKind.i64 (t + (16 : Int)), Go.Eng.inR Go.IntKind.i64 (t + (17 : Int)), Go.Eng.inR Go.IntKind.i64 (t - (1 : Int)), (Go.Eng.B.ckE g K P V now != Go.Eng.B.ckE g K P V now) = Bool.false, (Go.Eng.B.ckE g K P V t != Go.Eng.B.ckE g K P V t) = Bool.false, (Go.Eng.B.ckE g K P V (t + (16 : Int)) != Go.Eng.B.ckE g K P V (t + (16 : Int))) = Bool.false, (Go.Eng.B.ckE g K P V (t + (17 : Int)) != Go.Eng.B.ckE g K P V (t + (17 : Int))) = Bool.false, (Go.Eng.B.ckE g K P V (t - (1 : Int)) != Go.Eng.B.ckE g K P V (t - (1 : Int))) = Bool.false, Go.Eng.inR Go.IntKind.i64 (t + (16 : Int)), Go.Eng.inR Go.IntKind.i64 (t + (17 : Int)), Go.Eng.inR Go.IntKind.i64 (t - (1 : Int)), (Go.Eng.B.ckE g K P (Go.Eng.B.spoV V a b) now != Go.Eng.B.ckE g K P (Go.Eng.B.spoV V a b) now) = Bool.false, (Go.Eng.B.ckE g K P (Go.Eng.B.spoV V a b) t != Go.Eng.B.ckE g K P (Go.Eng.B.spoV V a b) t) = Bool.false, (Go.Eng.B.ckE g K P (Go.Eng.B.spoV V a b) (t + (16 : Int)) != Go.Eng.B.ckE g K P (Go.Eng.B.spoV V a b) (t + (16 : Int))) = Bool.false, (Go.Eng.B.ckE g K P (Go.Eng.B.spoV V a b) (t + (17 : Int)) != Go.Eng.B.ckE g K P (Go.Eng.B.spoV V a b) (t + (17 : Int))) = Bool.false, (Go.Eng.B.ckE g K P (Go.Eng.B.spoV V a b) (t - (1 : Int)) != Go.Eng.B.ckE g K P (Go.Eng.B.spoV V a b) (t - (1 : Int))) = Bool.false, Go.Eng.inR Go.IntKind.i64 (t + (16 : Int)), Go.Eng.inR Go.IntKind.i64 (t + (17 : Int)), Go.Eng.inR Go.IntKind.i64 (t - (1 : Int)), (Go.Eng.B.ckE g K P [(255 : Nat), (255 : Nat), (255 : Nat), (255 : Nat), (0 : Nat), (0 : Nat), (0 : Nat), (0 : Nat), (0 : Nat), (0 : Nat), (0 : Nat), (0 : Nat)] now != Go.Eng.B.ckE g K P [(255 : Nat), (255 : Nat), (255 : Nat), (255 : Nat), (0 : Nat), (0 : Nat), (0 : Nat), (0 : Nat), (0 : Nat), (0 : Nat), (0 : Nat), (0 : Nat)] now) = Bool.false, (Go.Eng.B.ckE g K P [(255 : Nat), (255 : Nat), (255 : Nat), (255 : Nat), (0 : Nat), (0 : Nat), (0 : Nat), (0 : Nat), (0 : Nat), (0 : Nat), (0 : Nat), (0 : Nat)] t != Go.Eng.B.ckE g K P [(255 : Nat), (255 : Nat), (255 : Nat), (255 : Nat), (0 : Nat), (0 : Nat), (0 : Nat), (0 : Nat), (0 : Nat), (0 : Nat), (0 : Nat), (0 : Nat)] t) = Bool.false, (Go.Eng.B.ckE g K P [(255 : Nat), (255 : Nat), (255 : Nat), (255 : Nat), (0 : Nat), (0 : Nat), (0 : Nat), (0 : Nat), (0 : Nat), (0 : Nat), (0 : Nat), (0 : Nat)] (t + (16 : Int)) != Go.Eng.B.ckE g K P [(255 : Nat), (255 : Nat), (255 : Nat), (255 : Nat), (0 : Nat), (0 : Nat), (0 : Nat), (0 : Nat), (0 : Nat), (0 : Nat), (0 : Nat), (0 : Nat)] (t + (16 : Int))) = Bool.false, (Go.Eng.B.ckE g K P [(255 : Nat), (255 : Nat), (255 : Nat), (255 : Nat), (0 : Nat), (0 : Nat), (0 : Nat), (0 : Nat), (0 : Nat), (0 : Nat), (0 : Nat), (0 : Nat)] (t + (17 : Int)) != Go.Eng.B.ckE g K P [(255 : Nat), (255 : Nat), (255 : Nat), (255 : Nat), (0 : Nat), (0 : Nat), (0 : Nat), (0 : Nat), (0 : Nat), (0 : Nat), (0 : Nat), (0 : Nat)] (t + (17 : Int))) = Bool.false, (Go.Eng.B.ckE g K P [(255 : Nat), (255 : Nat), (255 : Nat), (255 : Nat), (0 : Nat), (0 : Nat), (0 : Nat), (0 : Nat), (0 : Nat), (0 : Nat), (0 : Nat), (0 : Nat)] (t - (1 : Int)) != Go.Eng.B.ckE g K P [(255 : Nat), (255 : Nat), (255 : Nat), (255 : Nat), (0 : Nat), (0 : Nat), (0 : Nat), (0 : Nat), (0 : Nat), (0 : Nat), (0 : Nat), (0 : Nat)] (t - (1 : Int))) = Bool.false, (Go.Eng.B.mkE K peer now != Go.Eng.B.mkE K peer now) = Bool.false, (!Decidable.decide (Go.Eng.B.mkV g K peer now = Go.Eng.B.mkV g K peer now)) = Bool.false, (Go.Eng.B.mkE K peer t != Go.Eng.B.mkE K peer t) = Bool.false, (!Decidable.decide (Go.Eng.B.mkV g K peer t = Go.Eng.B.mkV g K peer t)) = Bool.false, V.length ≤ (1000000 : Nat), Go.Eng.inR Go.IntKind.i64 (t + (16 : Int)), Go.Eng.inR Go.IntKind.i64 (t + (17 : Int)), Go.Eng.inR Go.IntKind.i64 (t - (1 : Int)), (Go.Eng.B.ckE g K peer value now != Go.Eng.B.ckE g K peer value now) = Bool.false, (Go.Eng.B.ckE g K peer value t != Go.Eng.B.ckE g K peer value t) = Bool.false, (Go.Eng.B.ckE g K peer value (t + (16 : Int)) != Go.Eng.B.ckE g K peer value (t + (16 : Int))) = Bool.false, (Go.Eng.B.ckE g K peer value (t + (17 : Int)) != Go.Eng.B.ckE g K peer value (t + (17 : Int))) = Bool.false, (Go.Eng.B.ckE g K peer value (t - (1 : Int)) != Go.Eng.B.ckE g K peer value (t - (1 : Int))) = Bool.false, Go.Eng.inR Go.IntKind.i64 (t + (16 : Int)), Go.Eng.inR Go.IntKind.i64 (t + (17 : Int)), Go.Eng.inR Go.IntKind.i64 (t - (1 : Int)), (Go.Eng.B.ckE g K peer V now != Go.Eng.B.ckE g K peer V now) = Bool.false, (Go.Eng.B.ckE g K peer V t != Go.Eng.B.ckE g K peer V t) = Bool.false, (Go.Eng.B.ckE g K peer V (t + (16 : Int)) != Go.Eng.B.ckE g K peer V (t + (16 : Int))) = Bool.false, (Go.Eng.B.ckE g K peer V (t + (17 : Int)) != Go.Eng.B.ckE g K peer V (t + (17 : Int))) = Bool.false, (Go.Eng.B.ckE g K peer V (t - (1 : Int)) != Go.Eng.B.ckE g K peer V (t - (1 : Int))) = Bool.false, Go.Eng.inR Go.IntKind.i64 (t + (16 : Int)), Go.Eng.inR Go.IntKind.i64 (t + (17 : Int)), Go.Eng.inR Go.IntKind.i64 (t - (1 : Int)), (Go.Eng.B.ckE g K peer (Go.Eng.B.spoV V a b) now != Go.Eng.B.ckE g K peer (Go.Eng.B.spoV V a b) now) = Bool.false, (Go.Eng.B.ckE g K peer (Go.Eng.B.spoV V a b) t != Go.Eng.B.ckE g K peer (Go.Eng.B.spoV V a b) t) = Bool.false, (Go.Eng.B.ckE g K peer (Go.Eng.B.spoV V a b) (t + (16 : Int)) != Go.Eng.B.ckE g K peer (Go.Eng.B.spoV V a b) (t + (16 : Int))) = Bool.false, (Go.Eng.B.ckE g K peer (Go.Eng.B.spoV V a b) (t + (17 : Int)) != Go.Eng.B.ckE g K peer (Go.Eng.B.spoV V a b) (t + (17 : Int))) = Bool.false, (Go.Eng.B.ckE g K peer (Go.Eng.B.spoV V a b) (t - (1 : Int)) != Go.Eng.B.ckE g K peer (Go.Eng.B.spoV V a b) (t - (1 : Int))) = Bool.false, Go.Eng.inR Go.IntKind.i64 (t + (16 : Int)), Go.Eng.inR Go.IntKind.i64 (t + (17 : Int)), Go.Eng.inR Go.IntKind.i64 (t - (1 : Int)), (Go.Eng.B.ckE g K peer [(255 : Nat), (255 : Nat), (255 : Nat), (255 : Nat), (0 : Nat), (0 : Nat), (0 : Nat), (0 : Nat), (0 : Nat), (0 : Nat), (0 : Nat), (0 : Nat)] now != Go.Eng.B.ckE g K peer [(255 : Nat), (255 : Nat), (255 : Nat), (255 : Nat), (0 : Nat), (0 : Nat), (0 : Nat), (0 : Nat), (0 : Nat), (0 : Nat), (0 : Nat), (0 : Nat)] now) = Bool.false, (Go.Eng.B.ckE g K peer [(255 : Nat), (255 : Nat), (255 : Nat), (255 : Nat), (0 : Nat), (0 : Nat), (0 : Nat), (0 : Nat), (0 : Nat), (0 : Nat), (0 : Nat), (0 : Nat)] t != Go.Eng.B.ckE g K peer [(255 : Nat), (255 : Nat), (255 : Nat), (255 : Nat), (0 : Nat), (0 : Nat), (0 : Nat), (0 : Nat), (0 : Nat), (0 : Nat), (0 : Nat), (0 : Nat)] t) = Bool.false, (Go.Eng.B.ckE g K peer [(255 : Nat), (255 : Nat), (255 : Nat), (255 : Nat), (0 : Nat), (0 : Nat), (0 : Nat), (0 : Nat), (0 : Nat), (0 : Nat), (0 : Nat), (0 : Nat)] (t + (16 : Int)) != Go.Eng.B.ckE g K peer [(255 : Nat), (255 : Nat), (255 : Nat), (255 : Nat), (0 : Nat), (0 : Nat), (0 : Nat), (0 : Nat), (0 : Nat), (0 : Nat), (0 : Nat), (0 : Nat)] (t + (16 : Int))) = Bool.false, (Go.Eng.B.ckE g K peer [(255 : Nat), (255 : Nat), (255 : Nat), (255 : Nat), (0 : Nat), (0 : Nat), (0 : Nat), (0 : Nat), (0 : Nat), (0 : Nat), (0 : Nat), (0 : Nat)] (t + (17 : Int)) != Go.Eng.B.ckE g K peer [(255 : Nat), (255 : Nat), (255 : Nat), (255 : Nat), (0 : Nat), (0 : Nat), (0 : Nat), (0 : Nat), (0 : Nat), (0 : Nat), (0 : Nat), (0 : Nat)] (t + (17 : Int))) = Bool.false, (Go.Eng.B.ckE g K peer [(255 : Nat), (255 : Nat), (255 : Nat), (255 : Nat), (0 : Nat), (0 : Nat), (0 : Nat), (0 : Nat), (0 : Nat), (0 : Nat), (0 : Nat), (0 : Nat)] (t - (1 : Int)) != Go.Eng.B.ckE g K peer [(255 : Nat), (255 : Nat), (255 : Nat), (255 : Nat), (0 : Nat), (0 : Nat), (0 : Nat), (0 : Nat), (0 : Nat), (0 : Nat), (0 : Nat), (0 : Nat)] (t - (1 : Int))) = Bool.false, (Go.Eng.B.mkE key P now != Go.Eng.B.mkE key P now) = Bool.false, (!Decidable.decide (Go.Eng.B.mkV g key P now = Go.Eng.B.mkV g key P now)) = Bool.false, (Go.Eng.B.mkE key P t != Go.Eng.B.mkE key P t) = Bool.false, (!Decidable.decide (Go.Eng.B.mkV g key P t = Go.Eng.B.mkV g key P t)) = Bool.false, V.length ≤ (1000000 : Nat), Go.Eng.inR Go.IntKind.i64 (t + (16 : Int)), Go.Eng.inR Go.IntKind.i64 (t + (17 : Int)), Go.Eng.inR Go.IntKind.i64 (t - (1 : Int)), (Go.Eng.B.ckE g key P value now != Go.Eng.B.ckE g key P value now) = Bool.false, (Go.Eng.B.ckE g key P value t != Go.Eng.B.ckE g key P value t) = Bool.false, (Go.Eng.B.ckE g key P value (t + (16 : Int)) != Go.Eng.B.ckE g key P value (t + (16 : Int))) = Bool.false, (Go.Eng.B.ckE g key P value (t + (17 : Int)) != Go.Eng.B.ckE g key P value (t + (17 : Int))) = Bool.false, (Go.Eng.B.ckE g key P value (t - (1 : Int)) != Go.Eng.B.ckE g key P value (t - (1 : Int))) = Bool.false, Go.Eng.inR Go.IntKind.i64 (t + (16 : Int)), Go.Eng.inR Go.IntKind.i64 (t + (17 : Int)), Go.Eng.inR Go.IntKind.i64 (t - (1 : Int)), (Go.Eng.B.ckE g key P V now != Go.Eng.B.ckE g key P V now) = Bool.false, (Go.Eng.B.ckE g key P V t != Go.Eng.B.ckE g key P V t) = Bool.false, (Go.Eng.B.ckE g key P V (t + (16 : Int)) != Go.Eng.B.ckE g key P V (t + (16 : Int))) = Bool.false, (Go.Eng.B.ckE g key P V (t + (17 : Int)) != Go.Eng.B.ckE g key P V (t + (17 : Int))) = Bool.false, (Go.Eng.B.ckE g key P V (t - (1 : Int)) != Go.Eng.B.ckE g key P V (t - (1 : Int))) = Bool.false, Go.Eng.inR Go.IntKind.i64 (t + (16 : Int)), Go.Eng.inR Go.IntKind.i64 (t + (17 : Int)), Go.Eng.inR Go.IntKind.i64 (t - (1 : Int)), (Go.Eng.B.ckE g key P (Go.Eng.B.spoV V a b) now != Go.Eng.B.ckE g key P (Go.Eng.B.spoV V a b) now) = Bool.false, (Go.Eng.B.ckE g key P (Go.Eng.B.spoV V a b) t != Go.Eng.B.ckE g key P (Go.Eng.B.spoV V a b) t) = Bool.false, (Go.Eng.B.ckE g key P (Go.Eng.B.spoV V a b) (t + (16 : Int)) != Go.Eng.B.ckE g key P (Go.Eng.B.spoV V a b) (t + (16 : Int))) = Bool.false, (Go.Eng.B.ckE g key P (Go.Eng.B.spoV V a b) (t + (17 : Int)) != Go.Eng.B.ckE g key P (Go.Eng.B.spoV V a b) (t + (17 : Int))) = Bool.false, (Go.Eng.B.ckE g key P (Go.Eng.B.spoV V a b) (t - (1 : Int)) != Go.Eng.B.ckE g key P (Go.Eng.B.spoV V a b) (t - (1 : Int))) = Bool.false, Go.Eng.inR Go.IntKind.i64 (t + (16 : Int)), Go.Eng.inR Go.IntKind.i64 (t + (17 : Int)), Go.Eng.inR Go.IntKind.i64 (t - (1 : Int)), (Go.Eng.B.ckE g key P [(255 : Nat), (255 : Nat), (255 : Nat), (255 : Nat), (0 : Nat), (0 : Nat), (0 : Nat), (0 : Nat), (0 : Nat), (0 : Nat), (0 : Nat), (0 : Nat)] now != Go.Eng.B.ckE g key P [(255 : Nat), (255 : Nat), (255 : Nat), (255 : Nat), (0 : Nat), (0 : Nat), (0 : Nat), (0 : Nat), (0 : Nat), (0 : Nat), (0 : Nat), (0 : Nat)] now) = Bool.false, (Go.Eng.B.ckE g key P [(255 : Nat), (255 : Nat), (255 : Nat), (255 : Nat), (0 : Nat), (0 : Nat), (0 : Nat), (0 : Nat), (0 : Nat), (0 : Nat), (0 : Nat), (0 : Nat)] t != Go.Eng.B.ckE g key P [(255 : Nat), (255 : Nat), (255 : Nat), (255 : Nat), (0 : Nat), (0 : Nat), (0 : Nat), (0 : Nat), (0 : Nat), (0 : Nat), (0 : Nat), (0 : Nat)] t) = Bool.false, (Go.Eng.B.ckE g key P [(255 : Nat), (255 : Nat), (255 : Nat), (255 : Nat), (0 : Nat), (0 : Nat), (0 : Nat), (0 : Nat), (0 : Nat), (0 : Nat), (0 : Nat), (0 : Nat)] (t + (16 : Int)) != Go.Eng.B.ckE g key P [(255 : Nat), (255 : Nat), (255 : Nat), (255 : Nat), (0 : Nat), (0 : Nat), (0 : Nat), (0 : Nat), (0 : Nat), (0 : Nat), (0 : Nat), (0 : Nat)] (t + (16 : Int))) = Bool.false, (Go.Eng.B.ckE g key P [(255 : Nat), (255 : Nat), (255 : Nat), (255 : Nat), (0 : Nat), (0 : Nat), (0 : Nat), (0 : Nat), (0 : Nat), (0 : Nat), (0 : Nat), (0 : Nat)] (t + (17 : Int)) != Go.Eng.B.ckE g key P [(255 : Nat), (255 : Nat), (255 : Nat), (255 : Nat), (0 : Nat), (0 : Nat), (0 : Nat), (0 : Nat), (0 : Nat), (0 : Nat), (0 : Nat), (0 : Nat)] (t + (17 : Int))) = Bool.false, (Go.Eng.B.ckE g key P [(255 : Nat), (255 : Nat), (255 : Nat), (255 : Nat), (0 : Nat), (0 : Nat), (0 : Nat), (0 : Nat), (0 : Nat), (0 : Nat), (0 : Nat), (0 : Nat)] (t - (1 : Int)) != Go.Eng.B.ckE g key P [(255 : Nat), (255 : Nat), (255 : Nat), (255 : Nat), (0 : Nat), (0 : Nat), (0 : Nat), (0 : Nat), (0 : Nat), (0 : Nat), (0 : Nat), (0 : Nat)] (t - (1 : Int))) = Bool.false]) (sc' := []) (by kernel_rfl) (by repeat' first | exact trivial | exact bne_self_eq_false _ | exact d0 _ | exact hV | exact i1 | exact i2 | exact i3 | refine ⟨?_, ?_⟩) (by simp [wkR, wk, wk0])
theorem EchoValues_aux (key peer value : List Nat) (l : List Int) (now a b : Int) : Contract Try.prog 11 [.sl .u8 key, .sl .u8 peer, .sl .u8 value, .sli l, .i .i64 now, .i .i64 a, .i .i64 b] (.b true) := by
  have hl : ∀ b, (g b).length = 32 := by rw [hg]; exact sum32_len
  refine contract Try.func11 (body := bodyOf Try.f11) rfl (by kernel_rfl) (by kernel_rfl) rfl ?_
  intro _ w0 S
  cases ha : allB [key, peer, value] with
  | false =>
    exact hold_endw mixed (okV3 hg hh) (unroll := true) (f := 100) (sc := [true]) (r := (Go.Eng.SV.cb Bool.true)) (ob := [(!Go.Eng.B.allB [key, peer, value]) = Bool.true]) (sc' := []) (by kernel_rfl) ⟨by rw [ha]; rfl, trivial⟩ (by simp [wkR, wk, wk0])
  | true =>
    refine hold_cut mixed (okV3 hg hh) (unroll := false) (f := 14) (sc := [false]) (ks := [0,1,2,4,5,6,16,17,18,19]) (bs := [2]) (nx := 5) (st' := [Go.Eng.It.at [(0 : Nat), (1 : Nat), (1 : Nat), (1 : Nat), (1 : Nat), (1 : Nat)], Go.Eng.It.at [(1 : Nat), (1 : Nat), (1 : Nat), (1 : Nat), (1 : Nat), (1 : Nat)]]) (σ' := { nt := (164 : Nat), slots := [((0 : Nat), Go.Eng.SV.sl Go.IntKind.u8 key), ((1 : Nat), Go.Eng.SV.sl Go.IntKind.u8 peer), ((2 : Nat), Go.Eng.SV.sl Go.IntKind.u8 value), ((4 : Nat), Go.Eng.SV.i Go.IntKind.i64 now), ((5 : Nat), Go.Eng.SV.i Go.IntKind.i64 a), ((6 : Nat), Go.Eng.SV.i Go.IntKind.i64 b), ((16 : Nat), Go.Eng.SV.sl Go.IntKind.u8 (Go.Eng.B.smL (↑(Go.Eng.B.nextV l (0 : Nat) (9 : Int)) : Int) (16 : Nat))), ((17 : Nat), Go.Eng.SV.row (Go.Eng.backM [Go.Eng.backM [] (1 : Nat) (0 : Nat)] (2 : Nat) (1 : Nat)) (Go.Eng.SV.sl Go.IntKind.u8 (Go.Eng.B.bysL l (Go.Eng.B.nextA l (0 : Nat)) (8 : Int)))), ((18 : Nat), Go.Eng.SV.u Go.IntKind.i64 (Go.Eng.B.nextV l (Go.Eng.B.bysA l (Go.Eng.B.nextA l (0 : Nat)) (8 : Int)) (100 : Int))), ((19 : Nat), Go.Eng.SV.sl Go.IntKind.u8 (Go.Eng.B.mkV g (Go.Eng.B.smL (↑(Go.Eng.B.nextV l (0 : Nat) (9 : Int)) : Int) (16 : Nat)) (Go.Eng.B.bysL l (Go.Eng.B.nextA l (0 : Nat)) (8 : Int)) (↑(Go.Eng.B.nextV l (Go.Eng.B.bysA l (Go.Eng.B.nextA l (0 : Nat)) (8 : Int)) (100 : Int)) : Int)))], blks := [((2 : Nat), { ty := (5 : Nat), segs := [], row := Bool.true })], next := (5 : Nat) }) (ob := [(!Go.Eng.B.allB [key, peer, value]) = Bool.false, (0 : Int) < (9 : Int), (16 : Int) ≤ (1000000 : Int), (0 : Int) ≤ (8 : Int), (8 : Int) ≤ (100000 : Int), (0 : Int) < (100 : Int)]) (sc' := []) (by kernel_rfl) ⟨by rw [ha]; rfl, by omega, by omega, by omega, by omega, by omega, trivial⟩ ?_
    have ht : nextV l (bysA l (nextA l 0) 8) 100 < 100 := by
      unfold nextV
      split
      · omega
      · have := Int.emod_lt_of_pos (l.getD (bysA l (nextA l 0) 8) 0) (show (0 : Int) < 100 by omega); omega
    refine Hold.weaken (ev1 hg hh key peer value (smL (↑(nextV l 0 9)) 16) (bysL l (nextA l 0) 8) (mkV g (smL (↑(nextV l 0 9)) 16) (bysL l (nextA l 0) 8) ↑(nextV l (bysA l (nextA l 0) 8) 100)) (nextV l (bysA l (nextA l 0) 8) 100 : Int) now a b (by omega) (by omega) ?_ rfl) ?_
    rotate_left
    · simp only [wks, wk, wk0, lim, sEV, and_true, true_and]
      rfl
    · unfold mkV; split
      · rw [mkL_len hl]; omega
      · simp
end
theorem EchoValues_c (key peer value : List Nat) (l : List Int) (now a b : Int) : Contract Try.prog 11 [.sl .u8 key, .sl .u8 peer, .sl .u8 value, .sli l, .i .i64 now, .i .i64 a, .i .i64 b] (.b true) := EchoValues_aux rfl rfl key peer value l now a b
end Go.Eng.B

namespace Go.Eng
open Go.RowKit
theorem has_inR {k : IntKind} {n : Int} (h : k.has n) : inR k n := by
  cases k <;> simp only [IntKind.has, IntKind.min, IntKind.max, IntKind.signed, IntKind.bits, inR, lo, lim] at * <;> simp at h ⊢ <;> omega
theorem int_of {P : Program} {w : World} {r : Reach} {base : Nat} {t : TypeId} {v : Value} {k : IntKind} (ht : P.underlying t = some (.int k)) (h : Value.okWide P w r base t v) : ∃ n, v = .int k n ∧ k.has n := by
  obtain ⟨n, rfl⟩ := WideShapes.okWide_int ht h
  refine ⟨n, rfl, ?_⟩
  simpa [Value.okWide, Cell.okWide, Cell.ok, ht] using h
theorem open_i {P : Program} {w : World} {r : Reach} {base : Nat} {t : TypeId} {v : Value} {k : IntKind} (ht : P.underlying t = some (.int k)) (h : Value.okWide P w r base t v) {β : Nat → Nat} {ow : Own} {w' : World} :
    ∃ n, relV1 β ow w' (.i k n) v := by
  obtain ⟨n, rfl, hn⟩ := int_of ht h
  exact ⟨n, _, rel_i (has_inR hn), rfl⟩
theorem ints_of {k : IntKind} (hk : k.signed = false) : ∀ (cs : List Value), (∀ v ∈ cs, ∃ n, v = .int k n ∧ k.has n) → ∃ l : List Nat, cs = ints k l ∧ l.length = cs.length ∧ ∀ x ∈ l, x < lim k := by
  intro cs
  induction cs with
  | nil => intro _; exact ⟨[], rfl, rfl, by simp⟩
  | cons v cs ih =>
    intro h
    obtain ⟨l, h1, h2, h3⟩ := ih fun u hu => h u (by simp [hu])
    obtain ⟨n, rfl, hn⟩ := h v (by simp)
    have hr := has_inR hn
    have h0 : 0 ≤ n := by cases k <;> simp [IntKind.signed] at hk <;> simp only [inR, lo] at hr <;> omega
    refine ⟨n.toNat :: l, ?_, by simp [h2], ?_⟩
    · simp only [ints, List.map_cons, Int.toNat_of_nonneg h0]
      rw [h1]; rfl
    · intro x hx
      rcases List.mem_cons.1 hx with rfl | hx
      · have := hr.2; omega
      · exact h3 x hx
theorem open_arr {P : Program} {w : World} {r : Reach} {base : Nat} {t e u : TypeId} {v : Value} {k : IntKind} {n : Nat} (ht : P.underlying t = some (.array n e)) (hct : P.cellTypes P.depth t = some (List.replicate n u)) (hsz : P.cellsOf t = n)
    (hu : P.underlying u = some (.int k)) (hk : k.signed = false) (h : Value.okWide P w r base t v) {β : Nat → Nat} {ow : Own} {w' : World} : ∃ l, relV1 β ow w' (.arr k n l) v := by
  simp only [Value.okWide, ht] at h
  obtain ⟨cs, rfl, hs, ts, hts, _, hc⟩ := h
  rw [hct] at hts
  cases hts
  obtain ⟨l, h1, h2, h3⟩ := ints_of hk cs.toList fun v hv => by
    obtain ⟨i, hi⟩ := List.getElem?_of_mem hv
    obtain ⟨u', hu', hok⟩ := hc i v (by simpa using hi)
    have : u' = u := by
      have := List.mem_of_getElem? hu'
      exact List.eq_of_mem_replicate this
    subst this
    exact int_of (w := w) (r := r) (base := base) hu (by simp only [Value.okWide, hu]; exact hok)
  refine ⟨l, ints k l, rel_arr ?_ h3, ?_⟩
  · rw [h2]; simp [hs, hsz]
  · simp only [SV.isAgg, toV, if_true]
    rw [← h1]
theorem Contract.calls {P : Program} {f : FuncId} {fn : Func} {body : Code} {args : List SV} {res : SV} (h : Contract P f args res) (hf : P.funcs[f]? = some fn) (hb : fn.body = some body) (hname : (fn.name == "runtime.NumGoroutine") = false)
    {w : World} {vs : List Value} (hv : relVs (fun _ => 0) (fun _ _ => False) w args vs) :
    Calls P f vs.toArray w fun e w' => ∃ v, e = .returned v ∧ Below w.heap.size w w' ∧ relV (fun _ => 0) (fun _ _ => False) w' res v := by
  have h1 := h w (fun _ _ => False) vs (fun _ _ h => h.elim) hv
  unfold Invokes at h1
  have hcall : (callFunc f vs.toArray).run P w = .ok (.enter f vs.toArray) w := by
    have hne : ¬ fn.name = "runtime.NumGoroutine" := by simpa using hname
    simp [callFunc, hf, hb, hne]
  rw [hcall] at h1
  exact h1
end Go.Eng

namespace Go.Eng
open Go.RowKit Go.ChangeShapes Go.WideShapes
section
variable {H : Type} {enc : TypeId × Value → H} {P : Program} {w : World} {sp : Nat → Bool} {held : Bool} {r : Reach} {b0 : Nat} {t e : TypeId} {v : Value} {d : DataW H} {ps : List MemPlace} {k : IntKind}
theorem wf_inR {n : Int} (h : (Lit.int k n).wf = true) : inR k n := by
  apply has_inR
  have h : k.min ≤ n ∧ n ≤ k.max := by simpa [Lit.wf] using h
  exact h
theorem open_zs (ht : P.underlying t = some (.slice e)) (he : P.underlying e = some (.int k)) (hc : P.cellsOf e = 1) (hval : Value.okWide P w r b0 t v) (hd : DataW.Trod enc P w 0 sp held t v d ps) :
    ∃ zs : List Int, ReadsAs (fun _ _ => False) w v (zs.map fun n : Int => Value.int k n) ∧ ∀ n ∈ zs, inR k n := by
  obtain ⟨a0, len, cap, rfl⟩ := okWide_slice ht hval
  obtain ⟨fuel, hf⟩ := hd
  rcases ChangeShapes.open_ints ht he hc hf with ⟨h1, _⟩ | ⟨a, len', cap', zs, h1, _, hl, hm, hz, _, hcell, hwf⟩
  · simp only [Value.cells, List.cons.injEq, and_true] at h1
    cases h1
    exact ⟨[], ⟨none, 0, 0, rfl, rfl, Nat.le_refl _, by omega, fun h => absurd h (by omega)⟩, by simp⟩
  · simp only [Value.cells, List.cons.injEq, and_true] at h1
    cases h1
    have hle : len ≤ zs.length := by rw [hz]; split <;> omega
    have hmax : cap < 9223372036854775808 := by simp only [maxLen] at hm; omega
    refine ⟨zs.take len, ⟨some a, len, cap, rfl, by simp; omega, hl, hmax, fun hp => ⟨a, rfl, ?_, fun _ _ h => h, fun j u hu => ?_⟩⟩, fun n hn => wf_inR (hwf n (List.mem_of_mem_take hn))⟩
    · have := hcell 0 (by omega)
      simp only [Addr.add, if_true] at this
      cases hs : a.spot with
      | none => rfl
      | some q => simp [World.cell?, hs] at this; split at this <;> cases this
    · have hj : j < len := by
        have := (List.getElem?_eq_some_iff.1 hu).1
        simp at this; omega
      have h0 := hcell 0 (by omega)
      have hs : a.spot = none := by
        simp only [Addr.add, if_true] at h0
        cases hs : a.spot with
        | none => rfl
        | some q => simp [World.cell?, hs] at h0; split at h0 <;> cases h0
      have := hcell j (by omega)
      rw [add_spot hs] at this
      rw [this]
      simp only [List.getElem?_map, List.getElem?_take_of_lt hj, Option.map_eq_some_iff] at hu
      obtain ⟨z, hz1, rfl⟩ := hu
      simp [List.getD_eq_getElem?_getD, hz1]
theorem nats_of (hk : k.signed = false) : ∀ (zs : List Int), (∀ n ∈ zs, inR k n) → ∃ l : List Nat, (zs.map fun n : Int => Value.int k n) = ints k l ∧ ∀ x ∈ l, x < lim k := by
  intro zs
  induction zs with
  | nil => intro _; exact ⟨[], rfl, by simp⟩
  | cons n zs ih =>
    intro h
    obtain ⟨l, h1, h2⟩ := ih fun m hm => h m (by simp [hm])
    have hr := h n (by simp)
    have h0 : 0 ≤ n := by cases k <;> simp [IntKind.signed] at hk <;> simp only [inR, lo] at hr <;> omega
    refine ⟨n.toNat :: l, by simp only [ints, List.map_cons, Int.toNat_of_nonneg h0, h1], ?_⟩
    intro x hx
    rcases List.mem_cons.1 hx with rfl | hx
    · have := hr.2; omega
    · exact h2 x hx
theorem open_bytes {β : Nat → Nat} (ht : P.underlying t = some (.slice e)) (he : P.underlying e = some (.int k)) (hk : k.signed = false) (hc : P.cellsOf e = 1) (hval : Value.okWide P w r b0 t v) (hd : DataW.Trod enc P w 0 sp held t v d ps) :
    ∃ l, relV1 β (fun _ _ => False) w (.sl k l) v := by
  obtain ⟨zs, h1, h2⟩ := open_zs ht he hc hval hd
  obtain ⟨l, h3, h4⟩ := nats_of hk zs h2
  rw [h3] at h1
  exact ⟨l, [v], by simp only [rel]; exact ⟨⟨v, rfl, h1⟩, h4⟩, rfl⟩
theorem open_intl {β : Nat → Nat} (ht : P.underlying t = some (.slice e)) (he : P.underlying e = some (.int .i64)) (hc : P.cellsOf e = 1) (hval : Value.okWide P w r b0 t v) (hd : DataW.Trod enc P w 0 sp held t v d ps) :
    ∃ l, relV1 β (fun _ _ => False) w (.sli l) v := by
  obtain ⟨zs, h1, h2⟩ := open_zs ht he hc hval hd
  exact ⟨zs, [v], by simp only [rel]; exact ⟨⟨v, rfl, h1⟩, h2⟩, rfl⟩
theorem open_b {β : Nat → Nat} {ow : Own} {w' : World} (ht : P.underlying t = some .bool) (hval : Value.okWide P w r b0 t v) : ∃ x, relV1 β ow w' (.b x) v := by
  obtain ⟨b, rfl⟩ := okWide_bool ht hval
  exact ⟨b, _, rel_b, rfl⟩
theorem open_str {β : Nat → Nat} {ow : Own} {w' : World} (ht : P.underlying t = some .string) (hval : Value.okWide P w r b0 t v) : ∃ l, relV1 β ow w' (.str l) v := by
  obtain ⟨s, rfl⟩ := okWide_string ht hval
  have := constSV_ok (β := β) (ow := ow) (w := w') (v := .string s) (s := .str (s.data.toList.map (·.toNat))) rfl
  exact ⟨_, _, this.1, rfl⟩
end
end Go.Eng

