import Derived.Test.YtedccmojbmlkcaaE13
import Derived.WideShapes
import Derived.OpenShut
import Derived.ChangeSlices
import Derived.RowKit
import Derived.Test.YtedccmojbmlkcaaRows
import Derived.ProofKit
import Derived.JoinedOf
import Derived.KernelRfl
set_option linter.unusedVariables false
set_option linter.unusedSimpArgs false
set_option linter.unusedSectionVars false
namespace Go.Eng
open Go.RowKit
structure Ke where
  (ks bs : List Nat) (nx : Nat)
def tryS (step : Nat → Option (St × List Prop × List Bool)) : List Nat → Option (St × List Prop × List Bool)
  | [] => none
  | [i] => step i
  | i :: r => match step i, tryS step r with
    | some (R, ob, sc), some (R', ob', sc') => if sc = sc' then some (R, (R' = R) :: (ob ++ ob'), sc) else none
    | _, _ => none
def execS (P : Program) (ctr : Ctr) (ops : Array Oper) (d : Ke) : Nat → Array Bool → St → List Bool → Option (St × List Prop × List Bool)
  | 0, _, _, _ => none
  | f + 1, L, σ, sc => match Region.ready .any ops L with
    | [] => match restrict d.ks d.bs d.nx σ with
      | some R => some (R, [], sc)
      | none => none
    | r => match firstPureG P ctr ops L σ sc r with
      | some (i, σ1, ob1, sc1) => match execS P ctr ops d f (L.setIfInBounds i true) σ1 sc1 with
        | some (R, ob2, sc2) => some (R, ob1 ++ ob2, sc2)
        | none => none
      | none => tryS (fun i => match ops[i]? with
        | some o => match stepOp P ctr ops σ i o sc with
          | some (σ1, ob1, sc1) => match execS P ctr ops d f (L.setIfInBounds i true) σ1 sc1 with
            | some (R, ob2, sc2) => some (R, ob1 ++ ob2, sc2)
            | none => none
          | none => none
        | none => none) r
def drawS (P : Program) (ctr : Ctr) (ops : Array Oper) (d : Ke) (σ : St) (sc : List Bool) : Option (St × List Prop × List Bool) :=
  if Region.noSelect ops then execS P ctr ops d (ops.size + 1) (Array.replicate ops.size false) σ sc else none
section
variable {P : Program} {ctr : Ctr} {w0 : Fr} {w : World} {S : Own} {σ σ' : St} {β : Nat → Nat} {a : Act} {ops : Array Oper}
theorem tryS_ok {step : Nat → Option (St × List Prop × List Bool)} : ∀ {r : List Nat} {R : St} {ob : List Prop} {sc : List Bool}, tryS step r = some (R, ob, sc) → All ob → ∀ i ∈ r, ∃ ob' sc', step i = some (R, ob', sc') ∧ All ob' := by
  intro r
  induction r with
  | nil => intro R ob sc h; simp [tryS] at h
  | cons i r ih =>
    intro R ob sc h hob j hj
    cases r with
    | nil =>
      simp only [tryS] at h
      simp only [List.mem_singleton] at hj
      subst hj
      exact ⟨ob, sc, h, hob⟩
    | cons k r =>
      simp only [tryS] at h
      split at h
      · rename_i R1 ob1 sc1 R2 ob2 sc2 h1 h2
        split at h
        · cases h
          obtain ⟨he, hob⟩ := hob
          obtain ⟨ho1, ho2⟩ := All.append.1 hob
          rcases List.mem_cons.1 hj with rfl | hj
          · exact ⟨_, _, h1, ho1⟩
          · subst he
            exact ih h2 ho2 j hj
        · cases h
      · cases h
theorem execS_ok (hctr : CtrOk P ctr) (hs : Region.noSelect ops = true) {d : Ke} {Q : Exit → Act → World → Prop} (hQ : ∀ c a w, ¬ Q (.panic c) a w) : ∀ {f : Nat} {L : Array Bool} {σ : St} {R : St} {sc sc' : List Bool} {ob : List Prop} {β : Nat → Nat} {a : Act} {w : World},
    execS P ctr ops d f L σ sc = some (R, ob, sc') → All ob → Sat w0 S σ β a w → (∀ β' a' w', Sat w0 S R β' a' w' → Q .normal a' w') → ∀ {g : Nat}, left L ≤ g → L.size = ops.size → wpAny P .any ops Q g L a w := by
  intro f
  induction f with
  | zero => intro L σ R sc sc' ob β a w h; simp [execS] at h
  | succ f ih =>
    intro L σ R sc sc' ob β a w h hob hS hk g hl hsz
    simp only [execS] at h
    split at h
    · rename_i hr
      split at h
      · rename_i R1 he
        cases h
        exact wpAny_done hr (hk β a w (hS.restrict he)) g
      · cases h
    · rename_i hr0
      have hstep : ∀ i, i ∈ Region.ready .any ops L → left L = left (L.setIfInBounds i true) + 1 := fun i hi => by
        obtain ⟨h1, o, ho, _⟩ := mem_ready.1 hi
        exact left_set (by rw [hsz]; exact (Array.getElem?_eq_some_iff.1 ho).1) h1
      have hpos : 0 < g := by
        cases hr : Region.ready .any ops L with
        | nil => exact absurd hr hr0
        | cons j t => have := hstep j (by rw [hr]; simp); omega
      obtain ⟨g, rfl⟩ : ∃ g', g = g' + 1 := ⟨g - 1, by omega⟩
      split at h
      · rename_i i σ1 ob1 sc1 hp
        split at h
        · rename_i R2 ob2 sc2 hx
          cases h
          obtain ⟨ho1, ho2⟩ := All.append.1 hob
          obtain ⟨hm, hf, o, ho, hst⟩ := firstPureG_ok hp
          obtain ⟨v, hy, hS1⟩ := pureStepG_ok hst ho1 hS
          refine wpAny_take ho hs hf (by simpa using hm) (fun c a w h => absurd h (hQ c _ w)) hy ?_
          exact ih hx ho2 hS1 hk (by have := hstep i hm; omega) (by simpa using hsz)
        · cases h
      · refine wpAny_all rfl hr0 ?_
        intro j hj
        obtain ⟨ob', sc2, h1, h2⟩ := tryS_ok h hob j hj
        split at h1
        · rename_i o ho
          split at h1
          · rename_i σ1 ob1 sc1 hst
            split at h1
            · rename_i R2 ob2 sc3 hx
              cases h1
              obtain ⟨ho1, ho2⟩ := All.append.1 h2
              refine stepOp_ok hctr hst ho1 ho hS fun β' a' w' hS' => ?_
              exact ih hx ho2 hS' hk (by have := hstep j hj; omega) (by simpa using hsz)
            · cases h1
          · cases h1
        · cases h1
theorem drawS_ok (hm : P.follows .mixedOrders = true) (hctr : CtrOk P ctr) {id : Nat} {d : Ke} {sc sc' : List Bool} {ob : List Prop} (h : drawS P ctr ops d σ sc = some (σ', ob, sc')) (hob : All ob) (hS : Sat w0 S σ β a w)
    {Q : Exit → Act → World → Prop} (hQ : ∀ c a w, ¬ Q (.panic c) a w) (hk : ∀ β' a' w', Sat w0 S σ' β' a' w' → Q .normal a' w') : (Code.region id ops true).wp P Q a w := by
  unfold drawS at h
  split at h
  · rename_i hs
    refine wp_region_any hm ?_
    have hxt : Ext w { w with drawn := w.drawn + 1 } := ⟨rfl, rfl, rfl, Nat.le_refl _, fun _ _ => rfl⟩
    refine execS_ok hctr hs hQ h hob (hS.extend hxt) hk ?_ (by simp)
    simp [left, List.countP_replicate]
  · cases h
end
def regS (P : Program) (ctr : Ctr) (body : Code) (p : List Nat) (r : List It) (d : Ke) (σ : St) (sc : List Bool) : List It × Option St × List Prop × List Bool :=
  match nav body p with
  | some (.region _ ops true) => match drawS P ctr ops d σ sc with
    | some (σ', ob, sc') => (r, some σ', ob, sc')
    | none => ([], none, [], sc)
  | _ => ([], none, [], sc)
theorem hold_allS {P : Program} {body : Code} {w0 : Fr} {S : Own} (hm : P.follows .mixedOrders = true) {ctr : Ctr} (hctr : CtrOk P ctr) {Q : Exit → Act → World → Prop} [ExitOk Q] {p : List Nat} {r : List It} {d : Ke} {σ : St} {sc : List Bool} {st' : List It} {σ' : St} {ob : List Prop} {sc' : List Bool}
    (h : regS P ctr body p r d σ sc = (st', some σ', ob, sc')) (hob : All ob) (hk : Hold P body Q w0 S st' σ') : Hold P body Q w0 S (.at p :: r) σ := by
  unfold regS at h
  split at h
  · rename_i id ops hn
    split at h
    · rename_i σ1 ob1 sc1 hx
      cases h
      intro β a w hS
      simp only [contQ, hn]
      exact drawS_ok hm hctr hx hob hS (contQ_panic (ExitOk.panic (Q := Q)) _) hk
    · cases h
  · cases h
end Go.Eng

namespace Go.Eng
open Go.RowKit
def appendX (P : Program) (σ : St) (t t2 : TypeId) (x y : SV) : Option (St × SV × List Prop) :=
  match elemOf P t, appSrc P t t2 σ.blks y, x with
  | some (e, by'), some (sy, ob0), .osl id n es => match readSl σ.blks (.osl id n es) with
    | some sx => match joinSl sx sy with
      | some r => some (Eng.nilRow σ e, .row σ.next r, ob0 ++ [slenD r * by' ≤ 140737488355328, 0 < slenD sy])
      | none => none
    | none => none
  | _, _, _ => none
def stepX (P : Program) (ops : Array Oper) (σ : St) (o : Oper) (sc : List Bool) : Option (St × List Prop × List Bool) :=
  match guardOf ops σ.slots o with
  | some true => match o.op with
    | .call { callee := .builtin .append, args := ⟨[x, y]⟩, argTypes := ⟨[t, t']⟩ } => match lookρ σ.slots x, lookρ σ.slots y with
      | some sx, some sy => match appendX P σ t t' sx sy.rd with
        | some (σ1, r, ob) => match putS σ1 o.dst r with | some σ' => some (σ', ob, sc) | none => none
        | none => none
      | _, _ => none
    | _ => none
  | _ => none
def stepOpX (P : Program) (ctr : Ctr) (ops : Array Oper) (σ : St) (i : Nat) (o : Oper) (sc : List Bool) : Option (St × List Prop × List Bool) :=
  match stepX P ops σ o sc with
  | some r => some r
  | none => stepOpC P ctr ops σ i o sc
section
variable {P : Program} {ctr : Ctr} {w0 : Fr} {w : World} {S : Own} {σ σ' : St} {β : Nat → Nat} {a : Act} {ops : Array Oper}
theorem core_grow {id : Nat} {t t2 e ty : TypeId} {by' : Nat} (he : elemOf P t = some (e, by')) (hS : Sat w0 S σ β a w) (hR : RowStep σ σ' β S a w id e) {r : SV} {co news : List Value} (hc : slCells r = some (co ++ news)) (hg : slGood r)
    {x2 : Value} (hA : ∀ i z, P.info? e = some i → i.zero = some z → App P w t t2 ty e i z x2 news) (hb : (co.length + news.length) * by' ≤ 140737488355328) (h0 : 0 < news.length) (b : Addr)
    (holds : ∀ j u, co[j]? = some u → w.cell? (b.add j) = some u) :
    ∃ v w' β', (Builtin.append_ #[t, t2] ty #[.slice (some b) co.length co.length, x2]).run P w = .ok v w' ∧ Sat w0 S σ' β' a w' ∧ relV β' (owS S σ'.blks β') w' (.row id r) v := by
  obtain ⟨ht, i, z, hi, hz, hs1, hzs, hb0, hby⟩ := elemOf_ok he
  have hA := hA i z hi hz
  have hle : co.length + news.length ≤ 140737488355328 := Nat.le_trans (Nat.le_mul_of_pos_right _ hb0) hb
  have hr := hA.grow (b := b) (n := co.length) (cap := co.length) (olds := co) (by omega) rfl holds (by omega) (by omega) (by rw [hby]; exact hb) (growslice_fits (by omega) (by rw [hby]; exact hb))
  have hge := grownCap_ge w (co.length + news.length) co.length e
  have hcm2 := grownCap_le_maxLen w (co.length + news.length) co.length e (by simp only [maxLen]; omega)
  have hcore := core_new hS hR (rest := (Builtin.zeroCells z.cells (grownCap w (co.length + news.length) co.length e - (co.length + news.length))).toList) (cap := grownCap w (co.length + news.length) co.length e) hc hg (by
    have := size_zeroCells z.cells (grownCap w (co.length + news.length) co.length e - (co.length + news.length))
    rw [hzs] at this
    simp only [Array.length_toList, List.length_append]
    omega) (by omega) hcm2
  have e1 : (co ++ news ++ (Builtin.zeroCells z.cells (grownCap w (co.length + news.length) co.length e - (co.length + news.length))).toList).toArray = co.toArray ++ news.toArray ++ Builtin.zeroCells z.cells (grownCap w (co.length + news.length) co.length e - (co.length + news.length)) := by
    apply Array.ext'; simp
  rw [e1] at hcore
  simp only [List.length_append] at hcore
  exact ⟨_, _, _, hr, hcore.1, hcore.2⟩
theorem appendX_ok (hS : Sat w0 S σ β a w) {t t2 ty : TypeId} {x y r : SV} {ob : List Prop} (h : appendX P σ t t2 x y = some (σ', r, ob)) (hob : All ob) {v1 v2 : Value}
    (hx : relV β (owS S σ.blks β) w x v1) (hy : relV β (owS S σ.blks β) w y v2) :
    ∃ v w' β', (Builtin.append_ #[t, t2] ty #[v1, v2]).run P w = .ok v w' ∧ Sat w0 S σ' β' a w' ∧ relV β' (owS S σ'.blks β') w' r v := by
  unfold appendX at h
  split at h
  · rename_i e by' sy ob0 id n es he hry
    split at h
    · rename_i sx hrd
      split at h
      · rename_i r' hj
        cases h
        obtain ⟨ho0, hob⟩ := All.append.1 hob
        obtain ⟨gy, cy, hcy, hA⟩ := appSrc_ok (ty := ty) hS.blk he hry ho0 hy
        obtain ⟨gx, cx, A, c, hcx, hv, hcell⟩ := readSl_ok hS.blk hrd hx
        have h1 := relV_scalar rfl rfl hx
        simp only [rel, List.cons.injEq, and_true] at h1
        obtain ⟨hcr, hgr⟩ := joinSl_ok hj hcx hcy
        have hb : (cx.length + cy.length) * by' ≤ 140737488355328 := by have := hob.1; simpa [slenD, cells_slen hcr] using this
        have h0 : 0 < cy.length := by have := hob.2.1; simpa [slenD, cells_slen hcy] using this
        rw [h1] at hv
        cases hv
        rw [h1]
        refine core_grow (σ' := Eng.nilRow σ e) he hS (id := σ.next) ⟨rfl, ?_, ?_, hS.uniq_cons, by simp [Eng.nilRow], ⟨rfl, fun i bk hm _ => ⟨List.mem_cons_of_mem _ hm, .inl (hS.bndB i bk hm).1⟩⟩, by simp [Eng.nilRow]⟩ hcr (hgr gx gy) hA hb h0 ⟨β id, 0, none⟩ ?_
        · intro d s hm
          exact ⟨fun i hi => by have := hS.bnd d s hm i hi; simp only [Eng.nilRow]; omega, hS.slot d s hm⟩
        · intro i bk hm
          rcases List.mem_cons.1 hm with h | h
          · cases h; exact .inl ⟨rfl, rfl⟩
          · exact .inr ⟨h, hS.fresh i bk h⟩
        · intro j u hu
          obtain ⟨ad, e2, _, h3⟩ := hcell (by have := (List.getElem?_eq_some_iff.1 hu).1; omega)
          cases e2
          rw [add_plain]
          simpa using h3 j u hu
      · cases h
    · cases h
  · cases h
theorem wp_appendX {o : Oper} {x y : Operand} {t t2 : TypeId} (ho : o.op = .call { callee := .builtin .append, args := #[x, y], argTypes := #[t, t2] }) (hS : Sat w0 S σ β a w) {sx sy r : SV} {ob : List Prop}
    (h : appendX P σ t t2 sx sy = some (σ', r, ob)) (hob : All ob) (hx : relV β (owS S σ.blks β) w sx (a.eval x)) (hy : relV β (owS S σ.blks β) w sy (a.eval y))
    {K : Act → World → Prop} {Q : Exit → Act → World → Prop} (hk : ∀ v w' β', Sat w0 S σ' β' a w' → relV β' (owS S σ'.blks β') w' r v → K (a.put o.dst v) w') : o.wp P a w K Q := by
  obtain ⟨v, w', β', hr, h1, h2⟩ := appendX_ok (P := P) (ty := o.type) hS h hob hx hy
  unfold Oper.wp execOp
  simp only [ho, resolve, invoke, builtin, Sem.run_bind, Sem.run_pure, Result.andThen_ok, List.map_toArray, List.map_cons, List.map_nil, hr]
  exact hk v w' β' h1 h2
theorem stepOpX_ok (hctr : CtrOk P ctr) {σ' : St} {i : Nat} {o : Oper} {sc sc' : List Bool} {ob : List Prop} (h : stepOpX P ctr ops σ i o sc = some (σ', ob, sc')) (hob : All ob) (hi : ops[i]? = some o)
    (hS : Sat w0 S σ β a w) {K : Act → World → Prop} {Q : Exit → Act → World → Prop} (hk : ∀ β' a' w', Sat w0 S σ' β' a' w' → K a' w') : wpOp P ops Q i K a w := by
  unfold stepOpX at h
  split at h
  · rename_i hx
    cases h
    unfold stepX at hx
    split at hx
    · rename_i hg
      split at hx
      · rename_i x y t t' hop
        split at hx
        · rename_i sx sy hx1 hy1
          split at hx
          · rename_i σ1 r ob' happ
            split at hx
            · rename_i σ2 hput
              cases hx
              unfold wpOp
              simp only [hi]
              rw [guard_ok hS.slot hg]
              simp only [if_true]
              refine .inl ?_
              exact wp_appendX hop hS happ hob (hS.look hx1) (rd_ok (hS.look hy1)) fun v w' β' h1 h2 => hk β' _ _ (h1.put hput h2)
            · cases hx
          · cases hx
        · cases hx
      · cases hx
    · cases hx
  · exact stepOpC_ok hctr h hob hi hS hk
end
def execX (P : Program) (ctr : Ctr) (ops : Array Oper) (d : Ke) : Nat → Array Bool → St → List Bool → Option (St × List Prop × List Bool)
  | 0, _, _, _ => none
  | f + 1, L, σ, sc => match Region.ready .any ops L with
    | [] => match restrict d.ks d.bs d.nx σ with
      | some R => some (R, [], sc)
      | none => none
    | r => match firstPureG P ctr ops L σ sc r with
      | some (i, σ1, ob1, sc1) => match execX P ctr ops d f (L.setIfInBounds i true) σ1 sc1 with
        | some (R, ob2, sc2) => some (R, ob1 ++ ob2, sc2)
        | none => none
      | none => tryS (fun i => match ops[i]? with
        | some o => match stepOpX P ctr ops σ i o sc with
          | some (σ1, ob1, sc1) => match execX P ctr ops d f (L.setIfInBounds i true) σ1 sc1 with
            | some (R, ob2, sc2) => some (R, ob1 ++ ob2, sc2)
            | none => none
          | none => none
        | none => none) r
def drawX (P : Program) (ctr : Ctr) (ops : Array Oper) (d : Ke) (σ : St) (sc : List Bool) : Option (St × List Prop × List Bool) :=
  if Region.noSelect ops then execX P ctr ops d (ops.size + 1) (Array.replicate ops.size false) σ sc else none
section
variable {P : Program} {ctr : Ctr} {w0 : Fr} {w : World} {S : Own} {σ σ' : St} {β : Nat → Nat} {a : Act} {ops : Array Oper}
theorem execX_ok (hctr : CtrOk P ctr) (hs : Region.noSelect ops = true) {d : Ke} {Q : Exit → Act → World → Prop} (hQ : ∀ c a w, ¬ Q (.panic c) a w) : ∀ {f : Nat} {L : Array Bool} {σ : St} {R : St} {sc sc' : List Bool} {ob : List Prop} {β : Nat → Nat} {a : Act} {w : World},
    execX P ctr ops d f L σ sc = some (R, ob, sc') → All ob → Sat w0 S σ β a w → (∀ β' a' w', Sat w0 S R β' a' w' → Q .normal a' w') → ∀ {g : Nat}, left L ≤ g → L.size = ops.size → wpAny P .any ops Q g L a w := by
  intro f
  induction f with
  | zero => intro L σ R sc sc' ob β a w h; simp [execX] at h
  | succ f ih =>
    intro L σ R sc sc' ob β a w h hob hS hk g hl hsz
    simp only [execX] at h
    split at h
    · rename_i hr
      split at h
      · rename_i R1 he
        cases h
        exact wpAny_done hr (hk β a w (hS.restrict he)) g
      · cases h
    · rename_i hr0
      have hstep : ∀ i, i ∈ Region.ready .any ops L → left L = left (L.setIfInBounds i true) + 1 := fun i hi => by
        obtain ⟨h1, o, ho, _⟩ := mem_ready.1 hi
        exact left_set (by rw [hsz]; exact (Array.getElem?_eq_some_iff.1 ho).1) h1
      have hpos : 0 < g := by
        cases hr : Region.ready .any ops L with
        | nil => exact absurd hr hr0
        | cons j t => have := hstep j (by rw [hr]; simp); omega
      obtain ⟨g, rfl⟩ : ∃ g', g = g' + 1 := ⟨g - 1, by omega⟩
      split at h
      · rename_i i σ1 ob1 sc1 hp
        split at h
        · rename_i R2 ob2 sc2 hx
          cases h
          obtain ⟨ho1, ho2⟩ := All.append.1 hob
          obtain ⟨hm, hf, o, ho, hst⟩ := firstPureG_ok hp
          obtain ⟨v, hy, hS1⟩ := pureStepG_ok hst ho1 hS
          refine wpAny_take ho hs hf (by simpa using hm) (fun c a w h => absurd h (hQ c _ w)) hy ?_
          exact ih hx ho2 hS1 hk (by have := hstep i hm; omega) (by simpa using hsz)
        · cases h
      · refine wpAny_all rfl hr0 ?_
        intro j hj
        obtain ⟨ob', sc2, h1, h2⟩ := tryS_ok h hob j hj
        split at h1
        · rename_i o ho
          split at h1
          · rename_i σ1 ob1 sc1 hst
            split at h1
            · rename_i R2 ob2 sc3 hx
              cases h1
              obtain ⟨ho1, ho2⟩ := All.append.1 h2
              refine stepOpX_ok hctr hst ho1 ho hS fun β' a' w' hS' => ?_
              exact ih hx ho2 hS' hk (by have := hstep j hj; omega) (by simpa using hsz)
            · cases h1
          · cases h1
        · cases h1
theorem drawX_ok (hm : P.follows .mixedOrders = true) (hctr : CtrOk P ctr) {id : Nat} {d : Ke} {sc sc' : List Bool} {ob : List Prop} (h : drawX P ctr ops d σ sc = some (σ', ob, sc')) (hob : All ob) (hS : Sat w0 S σ β a w)
    {Q : Exit → Act → World → Prop} (hQ : ∀ c a w, ¬ Q (.panic c) a w) (hk : ∀ β' a' w', Sat w0 S σ' β' a' w' → Q .normal a' w') : (Code.region id ops true).wp P Q a w := by
  unfold drawX at h
  split at h
  · rename_i hs
    refine wp_region_any hm ?_
    have hxt : Ext w { w with drawn := w.drawn + 1 } := ⟨rfl, rfl, rfl, Nat.le_refl _, fun _ _ => rfl⟩
    refine execX_ok hctr hs hQ h hob (hS.extend hxt) hk ?_ (by simp)
    simp [left, List.countP_replicate]
  · cases h
end
def regX (P : Program) (ctr : Ctr) (body : Code) (p : List Nat) (r : List It) (d : Ke) (σ : St) (sc : List Bool) : List It × Option St × List Prop × List Bool :=
  match nav body p with
  | some (.region _ ops true) => match drawX P ctr ops d σ sc with
    | some (σ', ob, sc') => (r, some σ', ob, sc')
    | none => ([], none, [], sc)
  | _ => ([], none, [], sc)
theorem hold_allX {P : Program} {body : Code} {w0 : Fr} {S : Own} (hm : P.follows .mixedOrders = true) {ctr : Ctr} (hctr : CtrOk P ctr) {Q : Exit → Act → World → Prop} [ExitOk Q] {p : List Nat} {r : List It} {d : Ke} {σ : St} {sc : List Bool} {st' : List It} {σ' : St} {ob : List Prop} {sc' : List Bool}
    (h : regX P ctr body p r d σ sc = (st', some σ', ob, sc')) (hob : All ob) (hk : Hold P body Q w0 S st' σ') : Hold P body Q w0 S (.at p :: r) σ := by
  unfold regX at h
  split at h
  · rename_i id ops hn
    split at h
    · rename_i σ1 ob1 sc1 hx
      cases h
      intro β a w hS
      simp only [contQ, hn]
      exact drawX_ok hm hctr hx hob hS (contQ_panic (ExitOk.panic (Q := Q)) _) hk
    · cases h
  · cases h
end Go.Eng

namespace Go.Eng
open Go.RowKit
abbrev Nd := Array Bool × St × List Bool
def insK (x : Nat) : List Nat → List Nat
  | [] => [x]
  | y :: r => if x ≤ y then x :: y :: r else y :: insK x r
def sortK : List Nat → List Nat
  | [] => []
  | x :: r => insK x (sortK r)
def normS (nt m nx : Nat) (σ : St) : Option St := match restrict (sortK (σ.slots.map (·.1))) (sortK (σ.blks.map (·.1))) nx σ with
  | some ⟨nt', sl, bl, nx', m'⟩ => if nt' = nt ∧ m' = m ∧ nx' = nx then some ⟨nt, sl, bl, nx, m⟩ else none
  | none => none
def looks (L : Array Bool) (σ : St) (sc : List Bool) : (List Bool × List Bool) × List (Nat × List Nat) × List (Nat × Bool) :=
  ((L.toList, sc), σ.slots.map (fun p => (p.1, p.2.ids)), σ.blks.map (fun p => (p.1, p.2.row)))
def addNd (L : Array Bool) (σ : St) (sc : List Bool) : List Nd → List Nd × List Prop
  | [] => ([(L, σ, sc)], [])
  | (L', σ', sc') :: r => if looks L σ sc = looks L' σ' sc' then ((L', σ', sc') :: r, [σ = σ']) else match addNd L σ sc r with | (r', ob) => ((L', σ', sc') :: r', ob)
def mergeNd : List Nd → List Nd × List Prop
  | [] => ([], [])
  | (L, σ, sc) :: r => match mergeNd r with | (l, ob) => match addNd L σ sc l with | (l', ob') => (l', ob' ++ ob)
def mapO (f : Nat → Option (Nd × List Prop)) : List Nat → Option (List Nd × List Prop)
  | [] => some ([], [])
  | i :: r => match f i, mapO f r with
    | some (n, ob), some (l, ob') => some (n :: l, ob ++ ob')
    | _, _ => none
def nextNd (P : Program) (ctr : Ctr) (ops : Array Oper) (nt m nx : Nat) : Nd → Option (List Nd × List Prop)
  | (L, σ, sc) => match Region.ready .any ops L with
    | [] => some ([(L, σ, sc)], [])
    | r => match firstPureG P ctr ops L σ sc r with
      | some (i, σ1, ob1, sc1) => match normS nt m nx σ1 with | some σ2 => some ([(L.setIfInBounds i true, σ2, sc1)], ob1) | none => none
      | none => mapO (fun i => match ops[i]? with
        | some o => match stepOpX P ctr ops σ i o sc with
          | some (σ1, ob1, sc1) => match normS nt m nx σ1 with | some σ2 => some ((L.setIfInBounds i true, σ2, sc1), ob1) | none => none
          | none => none
        | none => none) r
def nextAll (P : Program) (ctr : Ctr) (ops : Array Oper) (nt m nx : Nat) : List Nd → Option (List Nd × List Prop)
  | [] => some ([], [])
  | n :: r => match nextNd P ctr ops nt m nx n, nextAll P ctr ops nt m nx r with
    | some (l, ob), some (l', ob') => some (l ++ l', ob ++ ob')
    | _, _ => none
def allDone (ops : Array Oper) (ns : List Nd) : Bool := ns.all fun n => (Region.ready .any ops n.1).isEmpty
def rdSt (σ : St) : St := { σ with slots := σ.slots.map fun p => (p.1, p.2.rd) }
def endSt (d : Ke) (σ : St) : Option St := restrict d.ks d.bs d.nx (if d.bs.isEmpty = true then rdSt σ else σ)
def endAll (d : Ke) : List Nd → Option (St × List Prop × List Bool)
  | [] => none
  | [(_, σ, sc)] => match endSt d σ with
    | some R => some (R, [], sc)
    | none => none
  | (_, σ, sc) :: r => match endSt d σ, endAll d r with
    | some R, some (R', ob, sc') => if sc = sc' then some (R', (R = R') :: ob, sc') else none
    | _, _ => none
def execL (P : Program) (ctr : Ctr) (ops : Array Oper) (d : Ke) (nt m : Nat) : Nat → Nat → List Nd → Option (St × List Prop × List Bool)
  | 0, _, _ => none
  | f + 1, nx, ns => if allDone ops ns = true then endAll d ns else match nextAll P ctr ops nt m nx ns with
    | some (l, ob) => match mergeNd l with
      | (l', ob') => match execL P ctr ops d nt m f (nx + 4) l' with
        | some (R, ob2, sc) => some (R, ob ++ (ob' ++ ob2), sc)
        | none => none
    | none => none
def drawL2 (P : Program) (ctr : Ctr) (ops : Array Oper) (d : Ke) (σ : St) (sc : List Bool) : Option (St × List Prop × List Bool) :=
  if Region.noSelect ops then execL P ctr ops d σ.nt σ.m (ops.size + 1) (σ.next + 4) [(Array.replicate ops.size false, σ, sc)] else none
section
variable {P : Program} {ctr : Ctr} {w0 : Fr} {w : World} {S : Own} {σ σ' : St} {β : Nat → Nat} {a : Act} {ops : Array Oper}
theorem Sat.norm {nt m nx : Nat} (h : normS nt m nx σ = some σ') (hS : Sat w0 S σ β a w) : Sat w0 S σ' β a w := by
  unfold normS at h
  split at h
  · rename_i nt' sl bl nx' m' hr
    split at h
    · rename_i hc
      obtain ⟨rfl, rfl, rfl⟩ := hc
      cases h
      exact hS.restrict hr
    · cases h
  · cases h
theorem rd_ids (s : SV) : ∀ i ∈ s.rd.ids, i ∈ s.ids := by
  cases s <;> intro i hi <;> simp_all [SV.rd, SV.ids]
theorem Sat.rd (hS : Sat w0 S σ β a w) : Sat w0 S (rdSt σ) β a w := by
  refine ⟨hS.defs, hS.size, ?_, hS.blk, hS.low, hS.inj, hS.uniq, ?_, hS.bndB, hS.ext, hS.lowS, hS.pins⟩
  · intro d s hd
    obtain ⟨⟨d', s'⟩, h1, h2⟩ := List.mem_map.1 hd
    cases h2
    exact rd_ok (hS.slot _ _ h1)
  · intro d s hd i hi
    obtain ⟨⟨d', s'⟩, h1, h2⟩ := List.mem_map.1 hd
    cases h2
    exact hS.bnd _ _ h1 i (rd_ids s' i hi)
theorem Sat.ends {d : Ke} (h : endSt d σ = some σ') (hS : Sat w0 S σ β a w) : Sat w0 S σ' β a w := by
  unfold endSt at h
  split at h
  · exact hS.rd.restrict h
  · exact hS.restrict h
theorem addNd_ok {L : Array Bool} {σ : St} {sc : List Bool} : ∀ {l l' : List Nd} {ob : List Prop}, addNd L σ sc l = (l', ob) → All ob → (L, σ, sc) ∈ l' ∧ ∀ m ∈ l, m ∈ l' := by
  intro l
  induction l with
  | nil => intro l' ob h _; simp only [addNd] at h; cases h; exact ⟨by simp, by simp⟩
  | cons m r ih =>
    obtain ⟨L', σ', sc'⟩ := m
    intro l' ob h hob
    simp only [addNd] at h
    split at h
    · rename_i hlk
      cases h
      obtain ⟨h1, _⟩ := hob
      have e1 : L = L' := Array.ext' (congrArg (fun x => x.1.1) hlk)
      have e2 : sc = sc' := congrArg (fun x => x.1.2) hlk
      subst e1 e2 h1
      exact ⟨by simp, fun _ h => h⟩
    · cases hq : addNd L σ sc r with
      | mk r' ob' =>
        rw [hq] at h
        cases h
        obtain ⟨h1, h2⟩ := ih hq hob
        refine ⟨List.mem_cons_of_mem _ h1, fun x hx => ?_⟩
        rcases List.mem_cons.1 hx with rfl | hx
        · simp
        · exact List.mem_cons_of_mem _ (h2 x hx)
theorem mergeNd_ok : ∀ {l l' : List Nd} {ob : List Prop}, mergeNd l = (l', ob) → All ob → ∀ n ∈ l, n ∈ l' := by
  intro l
  induction l with
  | nil => intro l' ob _ _ n hn; cases hn
  | cons n r ih =>
    obtain ⟨L, σ, sc⟩ := n
    intro l' ob h hob m hm
    simp only [mergeNd] at h
    cases hq : mergeNd r with
    | mk l1 ob1 =>
      rw [hq] at h
      dsimp only at h
      cases hq2 : addNd L σ sc l1 with
      | mk l2 ob2 =>
        rw [hq2] at h
        cases h
        obtain ⟨h1, h2⟩ := All.append.1 hob
        obtain ⟨h3, h4⟩ := addNd_ok hq2 h1
        rcases List.mem_cons.1 hm with rfl | hm
        · exact h3
        · exact h4 _ (ih hq h2 _ hm)
theorem mapO_ok {f : Nat → Option (Nd × List Prop)} : ∀ {r : List Nat} {l : List Nd} {ob : List Prop}, mapO f r = some (l, ob) → All ob → ∀ i ∈ r, ∃ n ob', f i = some (n, ob') ∧ All ob' ∧ n ∈ l := by
  intro r
  induction r with
  | nil => intro l ob _ _ i hi; cases hi
  | cons j r ih =>
    intro l ob h hob i hi
    simp only [mapO] at h
    split at h
    · rename_i n ob1 l1 ob2 h1 h2
      cases h
      obtain ⟨ho1, ho2⟩ := All.append.1 hob
      rcases List.mem_cons.1 hi with rfl | hi
      · exact ⟨n, ob1, h1, ho1, by simp⟩
      · obtain ⟨m, ob', h3, h4, h5⟩ := ih h2 ho2 i hi
        exact ⟨m, ob', h3, h4, List.mem_cons_of_mem _ h5⟩
    · cases h
theorem endAll_ok {d : Ke} : ∀ {ns : List Nd} {R : St} {ob : List Prop} {sc : List Bool}, endAll d ns = some (R, ob, sc) → All ob → ∀ n ∈ ns, endSt d n.2.1 = some R := by
  intro ns
  induction ns with
  | nil => intro R ob sc _ _ n hn; cases hn
  | cons n r ih =>
    obtain ⟨L, σ, sc0⟩ := n
    intro R ob sc h hob m hm
    cases r with
    | nil =>
      simp only [endAll] at h
      split at h
      · rename_i R1 h1
        cases h
        rcases List.mem_cons.1 hm with rfl | hm
        · exact h1
        · cases hm
      · cases h
    | cons k r =>
      simp only [endAll] at h
      split at h
      · rename_i R1 R2 ob1 sc1 h1 h2
        split at h
        · cases h
          obtain ⟨ho1, ho2⟩ := hob
          rcases List.mem_cons.1 hm with rfl | hm
          · rw [← ho1]; exact h1
          · exact ih h2 ho2 _ hm
        · cases h
      · cases h
theorem nextAll_ok {nt m nx : Nat} : ∀ {ns l : List Nd} {ob : List Prop}, nextAll P ctr ops nt m nx ns = some (l, ob) → All ob → ∀ n ∈ ns, ∃ l1 ob1, nextNd P ctr ops nt m nx n = some (l1, ob1) ∧ All ob1 ∧ ∀ m ∈ l1, m ∈ l := by
  intro ns
  induction ns with
  | nil => intro l ob _ _ n hn; cases hn
  | cons n r ih =>
    intro l ob h hob m hm
    simp only [nextAll] at h
    split at h
    · rename_i l1 ob1 l2 ob2 h1 h2
      cases h
      obtain ⟨ho1, ho2⟩ := All.append.1 hob
      rcases List.mem_cons.1 hm with rfl | hm
      · exact ⟨l1, ob1, h1, ho1, fun x hx => List.mem_append_left _ hx⟩
      · obtain ⟨l3, ob3, h3, h4, h5⟩ := ih h2 ho2 m hm
        exact ⟨l3, ob3, h3, h4, fun x hx => List.mem_append_right _ (h5 x hx)⟩
    · cases h
theorem execL_ok (hctr : CtrOk P ctr) (hs : Region.noSelect ops = true) {d : Ke} {nt m : Nat} {Q : Exit → Act → World → Prop} (hQ : ∀ c a w, ¬ Q (.panic c) a w) : ∀ {f nx : Nat} {ns : List Nd} {R : St} {sc' : List Bool} {ob : List Prop},
    execL P ctr ops d nt m f nx ns = some (R, ob, sc') → All ob → (∀ β' a' w', Sat w0 S R β' a' w' → Q .normal a' w') → ∀ n ∈ ns, ∀ {β : Nat → Nat} {a : Act} {w : World}, Sat w0 S n.2.1 β a w → ∀ {g : Nat}, left n.1 ≤ g → n.1.size = ops.size → wpAny P .any ops Q g n.1 a w := by
  intro f
  induction f with
  | zero => intro nx ns R sc' ob h; simp [execL] at h
  | succ f ih =>
    intro nx ns R sc' ob h hob hk n hn β a w hS g hl hsz
    simp only [execL] at h
    split at h
    · rename_i hd
      have hr : Region.ready .any ops n.1 = [] := by
        have := List.all_eq_true.1 hd n hn
        simpa using this
      exact wpAny_done hr (hk β a w (hS.ends (endAll_ok h hob n hn))) g
    · split at h
      · rename_i l ob1 hnx
        cases hq : mergeNd l with
        | mk l' ob2 =>
          rw [hq] at h
          dsimp only at h
          split at h
          · rename_i R1 ob3 sc1 hx
            cases h
            obtain ⟨ho1, ho⟩ := All.append.1 hob
            obtain ⟨ho2, ho3⟩ := All.append.1 ho
            obtain ⟨l1, obn, h1, h2, h3⟩ := nextAll_ok hnx ho1 n hn
            have hgo : ∀ m ∈ l1, ∀ {β : Nat → Nat} {a : Act} {w : World}, Sat w0 S m.2.1 β a w → ∀ {g : Nat}, left m.1 ≤ g → m.1.size = ops.size → wpAny P .any ops Q g m.1 a w :=
              fun m hm => ih hx ho3 hk m (mergeNd_ok hq ho2 m (h3 m hm))
            obtain ⟨L, σ, sc⟩ := n
            simp only [nextNd] at h1
            dsimp only at hS hl hsz
            split at h1
            · cases h1
              exact hgo (L, σ, sc) (by simp) hS hl hsz
            · rename_i hr0
              have hstep : ∀ i, i ∈ Region.ready .any ops L → left L = left (L.setIfInBounds i true) + 1 := fun i hi => by
                obtain ⟨h1, o, ho, _⟩ := mem_ready.1 hi
                exact left_set (by rw [hsz]; exact (Array.getElem?_eq_some_iff.1 ho).1) h1
              have hpos : 0 < g := by
                cases hr : Region.ready .any ops L with
                | nil => exact absurd hr hr0
                | cons j t => have := hstep j (by rw [hr]; simp); omega
              obtain ⟨g, rfl⟩ : ∃ g', g = g' + 1 := ⟨g - 1, by omega⟩
              split at h1
              · rename_i i σ1 ob1 sc1 hp
                split at h1
                · rename_i σ2 hno
                  cases h1
                  obtain ⟨hm, hf, o, ho, hst⟩ := firstPureG_ok hp
                  obtain ⟨v, hy, hS1⟩ := pureStepG_ok hst h2 hS
                  refine wpAny_take ho hs hf (by simpa using hm) (fun c a w h => absurd h (hQ c _ w)) hy ?_
                  exact hgo _ (List.mem_singleton.2 rfl) (hS1.norm hno) (by have := hstep i hm; dsimp only; omega) (by simpa using hsz)
                · cases h1
              · refine wpAny_all rfl hr0 ?_
                intro j hj
                obtain ⟨m, obj, h4, h5, h6⟩ := mapO_ok h1 h2 j hj
                split at h4
                · rename_i o ho
                  split at h4
                  · rename_i σ1 ob1 sc1 hst
                    split at h4
                    · rename_i σ2 hno
                      cases h4
                      refine stepOpX_ok hctr hst h5 ho hS fun β' a' w' hS' => ?_
                      exact hgo _ h6 (hS'.norm hno) (by have := hstep j hj; dsimp only; omega) (by simpa using hsz)
                    · cases h4
                  · cases h4
                · cases h4
          · cases h
      · cases h
theorem drawL2_ok (hm : P.follows .mixedOrders = true) (hctr : CtrOk P ctr) {id : Nat} {d : Ke} {sc sc' : List Bool} {ob : List Prop} (h : drawL2 P ctr ops d σ sc = some (σ', ob, sc')) (hob : All ob) (hS : Sat w0 S σ β a w)
    {Q : Exit → Act → World → Prop} (hQ : ∀ c a w, ¬ Q (.panic c) a w) (hk : ∀ β' a' w', Sat w0 S σ' β' a' w' → Q .normal a' w') : (Code.region id ops true).wp P Q a w := by
  unfold drawL2 at h
  split at h
  · rename_i hs
    refine wp_region_any hm ?_
    have hxt : Ext w { w with drawn := w.drawn + 1 } := ⟨rfl, rfl, rfl, Nat.le_refl _, fun _ _ => rfl⟩
    refine execL_ok hctr hs hQ h hob hk _ (List.mem_singleton.2 rfl) (hS.extend hxt) ?_ (by simp)
    simp [left, List.countP_replicate]
  · cases h
end
def regL (P : Program) (ctr : Ctr) (body : Code) (p : List Nat) (r : List It) (d : Ke) (σ : St) (sc : List Bool) : List It × Option St × List Prop × List Bool :=
  match nav body p with
  | some (.region _ ops true) => match drawL2 P ctr ops d σ sc with
    | some (σ', ob, sc') => (r, some σ', ob, sc')
    | none => ([], none, [], sc)
  | _ => ([], none, [], sc)
theorem hold_allL {P : Program} {body : Code} {w0 : Fr} {S : Own} (hm : P.follows .mixedOrders = true) {ctr : Ctr} (hctr : CtrOk P ctr) {Q : Exit → Act → World → Prop} [ExitOk Q] {p : List Nat} {r : List It} {d : Ke} {σ : St} {sc : List Bool} {st' : List It} {σ' : St} {ob : List Prop} {sc' : List Bool}
    (h : regL P ctr body p r d σ sc = (st', some σ', ob, sc')) (hob : All ob) (hk : Hold P body Q w0 S st' σ') : Hold P body Q w0 S (.at p :: r) σ := by
  unfold regL at h
  split at h
  · rename_i id ops hn
    split at h
    · rename_i σ1 ob1 sc1 hx
      cases h
      intro β a w hS
      simp only [contQ, hn]
      exact drawL2_ok hm hctr hx hob hS (contQ_panic (ExitOk.panic (Q := Q)) _) hk
    · cases h
  · cases h
end Go.Eng

namespace Go.Eng
open Go.RowKit
abbrev TabM := List (Nat × Nat × Nat)
abbrev Nm := Nat × St × List Bool
def depsOf (ops : Array Oper) (i : Nat) : List Nat := match ops[i]? with
  | some o => (o.after.toList.filter (Region.binds .any)).map (·.on)
  | none => []
def blkOf (ops : Array Oper) (i : Nat) : List Nat := match ops[i]? with
  | some oi => (List.range ops.size).filter fun j => !(j == i || match ops[j]? with
    | some oj => oj.after.any (fun e => Region.binds .any e && e.on == i) || oi.apart ops oj
    | none => true)
  | none => []
def maskOf (l : List Nat) : Nat := l.foldl (fun a j => a ||| 2 ^ j) 0
def tabOf (ops : Array Oper) : TabM := (List.range ops.size).map fun i => (i, maskOf (depsOf ops i), maskOf (blkOf ops i))
def readyM (m : Nat) (t : Nat × Nat × Nat) : Bool := !m.testBit t.1 && (m &&& t.2.1 == t.2.1)
def freeM (m : Nat) (t : Nat × Nat × Nat) : Bool := m &&& t.2.2 == t.2.2
def looksM (m : Nat) (σ : St) (sc : List Bool) : (Nat × List Bool) × List (Nat × List Nat) × List (Nat × Bool) :=
  ((m, sc), σ.slots.map (fun p => (p.1, p.2.ids)), σ.blks.map (fun p => (p.1, p.2.row)))
abbrev Eqs := List (St × St)
def addNm (m : Nat) (σ : St) (sc : List Bool) : List Nm → List Nm × Eqs
  | [] => ([(m, σ, sc)], [])
  | (m', σ', sc') :: r => if looksM m σ sc = looksM m' σ' sc' then ((m', σ', sc') :: r, [(σ, σ')]) else match addNm m σ sc r with | (r', ob) => ((m', σ', sc') :: r', ob)
def mergeNm : List Nm → List Nm × Eqs
  | [] => ([], [])
  | (m, σ, sc) :: r => match mergeNm r with | (l, ob) => match addNm m σ sc l with | (l', ob') => (l', ob' ++ ob)
def mapM (f : Nat × Nat × Nat → Option (Nm × List Prop)) : TabM → Option (List Nm × List Prop)
  | [] => some ([], [])
  | i :: r => match f i, mapM f r with
    | some (n, ob), some (l, ob') => some (n :: l, ob ++ ob')
    | _, _ => none
def firstM (P : Program) (ctr : Ctr) (ops : Array Oper) (m : Nat) (σ : St) (sc : List Bool) : TabM → Option (Nat × St × List Prop × List Bool)
  | [] => none
  | t :: r => if freeM m t = true then (match ops[t.1]? with
      | some o => match pureStepG P ctr ops σ t.1 o sc with
        | some (σ', ob, sc') => some (t.1, σ', ob, sc')
        | none => firstM P ctr ops m σ sc r
      | none => none) else firstM P ctr ops m σ sc r
def nextNm (P : Program) (ctr : Ctr) (ops : Array Oper) (T : TabM) (nt mm nx : Nat) : Nm → Option (List Nm × List Prop)
  | (m, σ, sc) => match T.filter (readyM m) with
    | [] => some ([(m, σ, sc)], [])
    | r => match firstM P ctr ops m σ sc r with
      | some (i, σ1, ob1, sc1) => some ([(m ||| 2 ^ i, σ1, sc1)], ob1)
      | none => mapM (fun t => match ops[t.1]? with
        | some o => match stepOpX P ctr ops σ t.1 o sc with
          | some (σ1, ob1, sc1) => match normS nt mm nx σ1 with | some σ2 => some ((m ||| 2 ^ t.1, σ2, sc1), ob1) | none => none
          | none => none
        | none => none) r
def nextAllM (P : Program) (ctr : Ctr) (ops : Array Oper) (T : TabM) (nt mm nx : Nat) : List Nm → Option (List Nm × List Prop)
  | [] => some ([], [])
  | n :: r => match nextNm P ctr ops T nt mm nx n, nextAllM P ctr ops T nt mm nx r with
    | some (l, ob), some (l', ob') => some (l ++ l', ob ++ ob')
    | _, _ => none
def allDoneM (T : TabM) (ns : List Nm) : Bool := ns.all fun n => (T.filter (readyM n.1)).isEmpty
def endAllM (d : Ke) : List Nm → Option (St × Eqs × List Bool)
  | [] => none
  | [(_, σ, sc)] => match endSt d σ with
    | some R => some (R, [], sc)
    | none => none
  | (_, σ, sc) :: r => match endSt d σ, endAllM d r with
    | some R, some (R', ob, sc') => if sc = sc' then some (R', (R, R') :: ob, sc') else none
    | _, _ => none
def execM (P : Program) (ctr : Ctr) (ops : Array Oper) (T : TabM) (d : Ke) (nt mm : Nat) : Nat → Nat → List Nm → Option (St × List Prop × List Bool × Eqs)
  | 0, _, _ => none
  | f + 1, nx, ns => if allDoneM T ns = true then (match endAllM d ns with
      | some (R, eq, sc) => some (R, [], sc, eq)
      | none => none) else match nextAllM P ctr ops T nt mm nx ns with
    | some (l, ob) => match mergeNm l with
      | (l', eq) => match execM P ctr ops T d nt mm f (nx + 4) l' with
        | some (R, ob2, sc, eq2) => some (R, ob ++ ob2, sc, eq ++ eq2)
        | none => none
    | none => none
def drawM2 (P : Program) (ctr : Ctr) (ops : Array Oper) (T : TabM) (d : Ke) (σ : St) (sc : List Bool) : Option (St × List Prop × List Bool × Eqs) :=
  if Region.noSelect ops then execM P ctr ops T d σ.nt σ.m (ops.size + 1) (σ.next + 4) [(0, σ, sc)] else none
def AllEq (l : Eqs) : Prop := ∀ p ∈ l, p.1 = p.2
theorem AllEq.of : ∀ {l : Eqs}, l.map (·.1) = l.map (·.2) → AllEq l
  | [], _ => fun p hp => by cases hp
  | (a, b) :: l, h => by
    simp only [List.map_cons, List.cons.injEq] at h
    intro p hp
    rcases List.mem_cons.1 hp with rfl | hp
    · exact h.1
    · exact AllEq.of h.2 p hp
theorem AllEq.append {l m : Eqs} (h : AllEq (l ++ m)) : AllEq l ∧ AllEq m := ⟨fun p hp => h p (List.mem_append_left _ hp), fun p hp => h p (List.mem_append_right _ hp)⟩
theorem AllEq.cons {a b : St} {m : Eqs} (h : AllEq ((a, b) :: m)) : a = b ∧ AllEq m := ⟨h (a, b) (by simp), fun p hp => h p (by simp [hp])⟩
def IsM (n : Nat) (L : Array Bool) (m : Nat) : Prop := L.size = n ∧ ∀ j, L.getD j false = m.testBit j
section
variable {P : Program} {ctr : Ctr} {w0 : Fr} {w : World} {S : Own} {σ σ' : St} {β : Nat → Nat} {a : Act} {ops : Array Oper}
theorem mask_bit (j : Nat) : ∀ (l : List Nat) (a : Nat), (l.foldl (fun a j => a ||| 2 ^ j) a).testBit j = (a.testBit j || decide (j ∈ l)) := by
  intro l
  induction l with
  | nil => intro a; simp
  | cons x r ih =>
    intro a
    rw [List.foldl_cons, ih, Nat.testBit_or, Nat.testBit_two_pow]
    by_cases h : x = j
    · subst h; simp
    · have h' : ¬ j = x := fun e => h e.symm
      simp [h, h']
theorem sub_iff {m : Nat} {l : List Nat} : (m &&& maskOf l == maskOf l) = true ↔ ∀ j ∈ l, m.testBit j = true := by
  rw [beq_iff_eq]
  constructor
  · intro h j hj
    have h1 := congrArg (fun x => x.testBit j) h
    simp only [Nat.testBit_and, maskOf, mask_bit, Nat.zero_testBit, Bool.false_or, hj, decide_true, Bool.and_true] at h1
    exact h1
  · intro h
    refine Nat.eq_of_testBit_eq fun j => ?_
    simp only [Nat.testBit_and, maskOf, mask_bit, Nat.zero_testBit, Bool.false_or]
    by_cases hj : j ∈ l
    · rw [h j hj]; simp
    · simp [hj]
theorem IsM.start (n : Nat) : IsM n (Array.replicate n false) 0 := by
  refine ⟨by simp, fun j => ?_⟩
  rw [Nat.zero_testBit]
  by_cases h : j < n <;> simp [Array.getD, h]
theorem IsM.set {n i m : Nat} {L : Array Bool} (h : IsM n L m) (hi : i < n) : IsM n (L.setIfInBounds i true) (m ||| 2 ^ i) := by
  obtain ⟨h1, h2⟩ := h
  refine ⟨by simpa using h1, fun j => ?_⟩
  rw [Nat.testBit_or, Nat.testBit_two_pow, ← h2 j]
  subst h1
  by_cases hj : j < L.size
  · by_cases hij : i = j
    · subst hij; simp [Array.getD, hj]
    · simp [Array.getD, hj, hij]
  · have : i ≠ j := by omega
    simp [Array.getD, hj, this]
theorem IsM.true {n j m : Nat} {L : Array Bool} (h : IsM n L m) (hj : j < n) : L.getD j true = m.testBit j := by
  rw [← h.2 j]
  have : j < L.size := by rw [h.1]; exact hj
  simp [Array.getD, this]
theorem tab_mem {t : Nat × Nat × Nat} (h : t ∈ tabOf ops) : t.1 < ops.size ∧ t.2.1 = maskOf (depsOf ops t.1) ∧ t.2.2 = maskOf (blkOf ops t.1) := by
  obtain ⟨i, hi, rfl⟩ := List.mem_map.1 h
  exact ⟨List.mem_range.1 hi, rfl, rfl⟩
theorem readyM_iff {L : Array Bool} {m i : Nat} (h : IsM ops.size L m) : i ∈ Region.ready .any ops L ↔ ∃ t ∈ tabOf ops, t.1 = i ∧ readyM m t = true := by
  rw [mem_ready]
  constructor
  · rintro ⟨h1, o, ho, h2⟩
    have hi : i < ops.size := (Array.getElem?_eq_some_iff.1 ho).1
    refine ⟨(i, maskOf (depsOf ops i), maskOf (blkOf ops i)), List.mem_map.2 ⟨i, List.mem_range.2 hi, rfl⟩, rfl, ?_⟩
    simp only [readyM, Bool.and_eq_true, Bool.not_eq_true']
    refine ⟨by rw [← h.true hi]; exact h1, sub_iff.2 fun j hj => ?_⟩
    simp only [depsOf, ho, List.mem_map, List.mem_filter] at hj
    obtain ⟨e, ⟨he, hb⟩, rfl⟩ := hj
    rw [← h.2]
    exact h2 e (by simpa using he) hb
  · rintro ⟨t, ht, rfl, hr⟩
    obtain ⟨hi, hd, _⟩ := tab_mem ht
    simp only [readyM, Bool.and_eq_true, Bool.not_eq_true'] at hr
    rw [hd, sub_iff] at hr
    refine ⟨by rw [h.true hi]; exact hr.1, ops[t.1], by simp [hi], fun e he hb => ?_⟩
    rw [h.2]
    refine hr.2 _ ?_
    simp only [depsOf, Array.getElem?_eq_getElem hi, List.mem_map, List.mem_filter]
    exact ⟨e, ⟨by simpa using he, hb⟩, rfl⟩
theorem freeM_ok {L : Array Bool} {m : Nat} {t : Nat × Nat × Nat} (h : IsM ops.size L m) (ht : t ∈ tabOf ops) (hf : freeM m t = true) : Region.free .any ops L t.1 = true := by
  obtain ⟨hi, _, hb⟩ := tab_mem ht
  simp only [freeM] at hf
  rw [hb, sub_iff] at hf
  unfold Region.free
  simp only [Array.getElem?_eq_getElem hi, List.all_eq_true]
  intro j hj
  have hjs := List.mem_range.1 hj
  cases hm : m.testBit j with
  | true => rw [h.true hjs, hm]; simp
  | false =>
    have hn : j ∉ blkOf ops t.1 := fun hj' => by rw [hf j hj'] at hm; cases hm
    simp only [blkOf, Array.getElem?_eq_getElem hi, List.mem_filter, not_and, Bool.not_eq_true, Bool.not_eq_false'] at hn
    have := hn hj
    cases hji : (j == t.1) with
    | true => simp
    | false => rw [hji] at this; simp only [Bool.false_or] at this; simp only [Bool.or_eq_true]; exact .inr this
theorem addNm_ok {m : Nat} {σ : St} {sc : List Bool} : ∀ {l l' : List Nm} {ob : Eqs}, addNm m σ sc l = (l', ob) → AllEq ob → (m, σ, sc) ∈ l' ∧ ∀ x ∈ l, x ∈ l' := by
  intro l
  induction l with
  | nil => intro l' ob h _; simp only [addNm] at h; cases h; exact ⟨by simp, by simp⟩
  | cons x r ih =>
    obtain ⟨m', σ', sc'⟩ := x
    intro l' ob h hob
    simp only [addNm] at h
    split at h
    · rename_i hlk
      cases h
      obtain ⟨h1, _⟩ := hob.cons
      have e1 : m = m' := congrArg (fun x => x.1.1) hlk
      have e2 : sc = sc' := congrArg (fun x => x.1.2) hlk
      subst e1 e2 h1
      exact ⟨by simp, fun _ h => h⟩
    · cases hq : addNm m σ sc r with
      | mk r' ob' =>
        rw [hq] at h
        cases h
        obtain ⟨h1, h2⟩ := ih hq hob
        refine ⟨List.mem_cons_of_mem _ h1, fun x hx => ?_⟩
        rcases List.mem_cons.1 hx with rfl | hx
        · simp
        · exact List.mem_cons_of_mem _ (h2 x hx)
theorem mergeNm_ok : ∀ {l l' : List Nm} {ob : Eqs}, mergeNm l = (l', ob) → AllEq ob → ∀ n ∈ l, n ∈ l' := by
  intro l
  induction l with
  | nil => intro l' ob _ _ n hn; cases hn
  | cons n r ih =>
    obtain ⟨m, σ, sc⟩ := n
    intro l' ob h hob x hx
    simp only [mergeNm] at h
    cases hq : mergeNm r with
    | mk l1 ob1 =>
      rw [hq] at h
      dsimp only at h
      cases hq2 : addNm m σ sc l1 with
      | mk l2 ob2 =>
        rw [hq2] at h
        cases h
        obtain ⟨h1, h2⟩ := hob.append
        obtain ⟨h3, h4⟩ := addNm_ok hq2 h1
        rcases List.mem_cons.1 hx with rfl | hx
        · exact h3
        · exact h4 _ (ih hq h2 _ hx)
theorem mapM_ok {f : Nat × Nat × Nat → Option (Nm × List Prop)} : ∀ {r : TabM} {l : List Nm} {ob : List Prop}, mapM f r = some (l, ob) → All ob → ∀ i ∈ r, ∃ n ob', f i = some (n, ob') ∧ All ob' ∧ n ∈ l := by
  intro r
  induction r with
  | nil => intro l ob _ _ i hi; cases hi
  | cons j r ih =>
    intro l ob h hob i hi
    simp only [mapM] at h
    split at h
    · rename_i n ob1 l1 ob2 h1 h2
      cases h
      obtain ⟨ho1, ho2⟩ := All.append.1 hob
      rcases List.mem_cons.1 hi with rfl | hi
      · exact ⟨n, ob1, h1, ho1, by simp⟩
      · obtain ⟨x, ob', h3, h4, h5⟩ := ih h2 ho2 i hi
        exact ⟨x, ob', h3, h4, List.mem_cons_of_mem _ h5⟩
    · cases h
theorem firstM_ok {m : Nat} : ∀ {r : TabM} {sc sc' : List Bool} {i : Nat} {ob : List Prop}, firstM P ctr ops m σ sc r = some (i, σ', ob, sc') → ∃ t ∈ r, t.1 = i ∧ freeM m t = true ∧ ∃ o, ops[i]? = some o ∧ pureStepG P ctr ops σ i o sc = some (σ', ob, sc') := by
  intro r
  induction r with
  | nil => intro sc sc' i ob h; simp [firstM] at h
  | cons t r ih =>
    intro sc sc' i ob h
    simp only [firstM] at h
    split at h
    · rename_i hf
      split at h
      · rename_i o ho
        split at h
        · rename_i hp; cases h; exact ⟨t, by simp, rfl, hf, o, ho, hp⟩
        · obtain ⟨t', h1, h2⟩ := ih h; exact ⟨t', List.mem_cons_of_mem _ h1, h2⟩
      · cases h
    · obtain ⟨t', h1, h2⟩ := ih h; exact ⟨t', List.mem_cons_of_mem _ h1, h2⟩
theorem endAllM_ok {d : Ke} : ∀ {ns : List Nm} {R : St} {ob : Eqs} {sc : List Bool}, endAllM d ns = some (R, ob, sc) → AllEq ob → ∀ n ∈ ns, endSt d n.2.1 = some R := by
  intro ns
  induction ns with
  | nil => intro R ob sc _ _ n hn; cases hn
  | cons n r ih =>
    obtain ⟨L, σ, sc0⟩ := n
    intro R ob sc h hob m hm
    cases r with
    | nil =>
      simp only [endAllM] at h
      split at h
      · rename_i R1 h1
        cases h
        rcases List.mem_cons.1 hm with rfl | hm
        · exact h1
        · cases hm
      · cases h
    | cons k r =>
      simp only [endAllM] at h
      split at h
      · rename_i R1 R2 ob1 sc1 h1 h2
        split at h
        · cases h
          obtain ⟨ho1, ho2⟩ := hob.cons
          rcases List.mem_cons.1 hm with rfl | hm
          · rw [← ho1]; exact h1
          · exact ih h2 ho2 _ hm
        · cases h
      · cases h
theorem nextAllM_ok {T : TabM} {nt mm nx : Nat} : ∀ {ns l : List Nm} {ob : List Prop}, nextAllM P ctr ops T nt mm nx ns = some (l, ob) → All ob → ∀ n ∈ ns, ∃ l1 ob1, nextNm P ctr ops T nt mm nx n = some (l1, ob1) ∧ All ob1 ∧ ∀ x ∈ l1, x ∈ l := by
  intro ns
  induction ns with
  | nil => intro l ob _ _ n hn; cases hn
  | cons n r ih =>
    intro l ob h hob m hm
    simp only [nextAllM] at h
    split at h
    · rename_i l1 ob1 l2 ob2 h1 h2
      cases h
      obtain ⟨ho1, ho2⟩ := All.append.1 hob
      rcases List.mem_cons.1 hm with rfl | hm
      · exact ⟨l1, ob1, h1, ho1, fun x hx => List.mem_append_left _ hx⟩
      · obtain ⟨l3, ob3, h3, h4, h5⟩ := ih h2 ho2 m hm
        exact ⟨l3, ob3, h3, h4, fun x hx => List.mem_append_right _ (h5 x hx)⟩
    · cases h
theorem execM_ok (hctr : CtrOk P ctr) (hs : Region.noSelect ops = true) {T : TabM} (hT : T = tabOf ops) {d : Ke} {nt mm : Nat} {Q : Exit → Act → World → Prop} (hQ : ∀ c a w, ¬ Q (.panic c) a w) : ∀ {f nx : Nat} {ns : List Nm} {R : St} {sc' : List Bool} {ob : List Prop} {eq : Eqs},
    execM P ctr ops T d nt mm f nx ns = some (R, ob, sc', eq) → All ob → AllEq eq → (∀ β' a' w', Sat w0 S R β' a' w' → Q .normal a' w') → ∀ n ∈ ns, ∀ {L : Array Bool}, IsM ops.size L n.1 → ∀ {β : Nat → Nat} {a : Act} {w : World}, Sat w0 S n.2.1 β a w → ∀ {g : Nat}, left L ≤ g → wpAny P .any ops Q g L a w := by
  intro f
  induction f with
  | zero => intro nx ns R sc' ob eq h; simp [execM] at h
  | succ f ih =>
    intro nx ns R sc' ob eq h hob heq hk n hn L hL β a w hS g hl
    have hsz : L.size = ops.size := hL.1
    have hnone : T.filter (readyM n.1) = [] → Region.ready .any ops L = [] := fun h0 => by
      refine List.eq_nil_iff_forall_not_mem.2 fun i hi => ?_
      obtain ⟨t, ht, _, hr⟩ := (readyM_iff hL).1 hi
      have : t ∈ T.filter (readyM n.1) := List.mem_filter.2 ⟨by rw [hT]; exact ht, hr⟩
      rw [h0] at this; cases this
    simp only [execM] at h
    split at h
    · rename_i hd
      have hr : Region.ready .any ops L = [] := hnone (by
        have := List.all_eq_true.1 hd n hn
        simpa using this)
      split at h
      · rename_i R1 eq1 sc1 he
        cases h
        exact wpAny_done hr (hk β a w (hS.ends (endAllM_ok he heq n hn))) g
      · cases h
    · split at h
      · rename_i l ob1 hnx
        cases hq : mergeNm l with
        | mk l' ob2 =>
          rw [hq] at h
          dsimp only at h
          split at h
          · rename_i R1 ob3 sc1 eq3 hx
            cases h
            obtain ⟨ho1, ho3⟩ := All.append.1 hob
            obtain ⟨ho2, he3⟩ := heq.append
            obtain ⟨l1, obn, h1, h2, h3⟩ := nextAllM_ok hnx ho1 n hn
            have hgo : ∀ x ∈ l1, ∀ {L : Array Bool}, IsM ops.size L x.1 → ∀ {β : Nat → Nat} {a : Act} {w : World}, Sat w0 S x.2.1 β a w → ∀ {g : Nat}, left L ≤ g → wpAny P .any ops Q g L a w :=
              fun x hx' => ih hx ho3 he3 hk x (mergeNm_ok hq ho2 x (h3 x hx'))
            obtain ⟨m, σ, sc⟩ := n
            simp only [nextNm] at h1
            dsimp only at hS hL hnone
            split at h1
            · cases h1
              exact hgo (m, σ, sc) (by simp) hL hS hl
            · rename_i hr0
              have hr1 : Region.ready .any ops L ≠ [] := fun h0 => by
                cases hf : T.filter (readyM m) with
                | nil => exact hr0 hf
                | cons t r =>
                  obtain ⟨ht, hrt⟩ := List.mem_filter.1 (show t ∈ T.filter (readyM m) by rw [hf]; simp)
                  have := (readyM_iff hL).2 ⟨t, by rw [← hT]; exact ht, rfl, hrt⟩
                  rw [h0] at this; cases this
              have hstep : ∀ i, i ∈ Region.ready .any ops L → left L = left (L.setIfInBounds i true) + 1 := fun i hi => by
                obtain ⟨h1, o, ho, _⟩ := mem_ready.1 hi
                exact left_set (by rw [hsz]; exact (Array.getElem?_eq_some_iff.1 ho).1) h1
              have hpos : 0 < g := by
                cases hr : Region.ready .any ops L with
                | nil => exact absurd hr hr1
                | cons j t => have := hstep j (by rw [hr]; simp); omega
              obtain ⟨g, rfl⟩ : ∃ g', g = g' + 1 := ⟨g - 1, by omega⟩
              split at h1
              · rename_i i σ1 ob1 sc1 hp
                cases h1
                obtain ⟨t, ht, rfl, hf, o, ho, hst⟩ := firstM_ok hp
                obtain ⟨ht1, ht2⟩ := List.mem_filter.1 ht
                rw [hT] at ht1
                have hm : t.1 ∈ Region.ready .any ops L := (readyM_iff hL).2 ⟨t, ht1, rfl, ht2⟩
                obtain ⟨v, hy, hS1⟩ := pureStepG_ok hst h2 hS
                refine wpAny_take ho hs (freeM_ok hL ht1 hf) (by simpa using hm) (fun c a w h => absurd h (hQ c _ w)) hy ?_
                exact hgo _ (List.mem_singleton.2 rfl) (hL.set (tab_mem ht1).1) hS1 (by have := hstep t.1 hm; omega)
              · refine wpAny_all rfl hr1 ?_
                intro j hj
                obtain ⟨t, ht, rfl, hrt⟩ := (readyM_iff hL).1 hj
                obtain ⟨x, obj, h4, h5, h6⟩ := mapM_ok h1 h2 t (List.mem_filter.2 ⟨by rw [hT]; exact ht, hrt⟩)
                split at h4
                · rename_i o ho
                  split at h4
                  · rename_i σ1 ob1 sc1 hst
                    split at h4
                    · rename_i σ2 hno
                      cases h4
                      refine stepOpX_ok hctr hst h5 ho hS fun β' a' w' hS' => ?_
                      exact hgo _ h6 (hL.set (tab_mem ht).1) (hS'.norm hno) (by have := hstep t.1 hj; omega)
                    · cases h4
                  · cases h4
                · cases h4
          · cases h
      · cases h
theorem drawM2_ok (hm : P.follows .mixedOrders = true) (hctr : CtrOk P ctr) {id : Nat} {T : TabM} (hT : T = tabOf ops) {d : Ke} {sc sc' : List Bool} {ob : List Prop} {eq : Eqs} (h : drawM2 P ctr ops T d σ sc = some (σ', ob, sc', eq)) (hob : All ob) (heq : AllEq eq) (hS : Sat w0 S σ β a w)
    {Q : Exit → Act → World → Prop} (hQ : ∀ c a w, ¬ Q (.panic c) a w) (hk : ∀ β' a' w', Sat w0 S σ' β' a' w' → Q .normal a' w') : (Code.region id ops true).wp P Q a w := by
  unfold drawM2 at h
  split at h
  · rename_i hs
    refine wp_region_any hm ?_
    have hxt : Ext w { w with drawn := w.drawn + 1 } := ⟨rfl, rfl, rfl, Nat.le_refl _, fun _ _ => rfl⟩
    refine execM_ok hctr hs hT hQ h hob heq hk _ (List.mem_singleton.2 rfl) (IsM.start _) (hS.extend hxt) ?_
    simp [left, List.countP_replicate]
  · cases h
end
def opsAt (body : Code) (p : List Nat) : Array Oper := match nav body p with
  | some (.region _ ops true) => ops
  | _ => #[]
def tabAt (body : Code) (p : List Nat) : TabM := tabOf (opsAt body p)
def regM (P : Program) (ctr : Ctr) (body : Code) (T : TabM) (p : List Nat) (r : List It) (d : Ke) (σ : St) (sc : List Bool) : List It × Option St × List Prop × List Bool :=
  match nav body p with
  | some (.region _ ops true) => match drawM2 P ctr ops T d σ sc with
    | some (σ', ob, sc', _) => (r, some σ', ob, sc')
    | none => ([], none, [], sc)
  | _ => ([], none, [], sc)
def eqsM (P : Program) (ctr : Ctr) (body : Code) (T : TabM) (p : List Nat) (d : Ke) (σ : St) (sc : List Bool) : Eqs :=
  match nav body p with
  | some (.region _ ops true) => match drawM2 P ctr ops T d σ sc with
    | some (_, _, _, eq) => eq
    | none => []
  | _ => []
theorem hold_allM {P : Program} {body : Code} {w0 : Fr} {S : Own} (hm : P.follows .mixedOrders = true) {ctr : Ctr} (hctr : CtrOk P ctr) {Q : Exit → Act → World → Prop} [ExitOk Q] (T : TabM) {p : List Nat} {r : List It} {d : Ke} {σ : St} {sc : List Bool} {st' : List It} {σ' : St} {ob : List Prop} {sc' : List Bool}
    (hT : tabAt body p = T) (h : regM P ctr body T p r d σ sc = (st', some σ', ob, sc')) (hE : (eqsM P ctr body T p d σ sc).map (·.1) = (eqsM P ctr body T p d σ sc).map (·.2)) (hob : All ob) (hk : Hold P body Q w0 S st' σ') : Hold P body Q w0 S (.at p :: r) σ := by
  have hE' := AllEq.of hE
  unfold regM at h
  unfold eqsM at hE'
  unfold tabAt opsAt at hT
  split at h
  · rename_i id ops hn
    rw [hn] at hT hE'
    dsimp only at hE'
    split at h
    · rename_i σ1 ob1 sc1 eq1 hx
      rw [hx] at hE'
      cases h
      intro β a w hS
      simp only [contQ, hn]
      exact drawM2_ok hm hctr hT.symm hx hob hE' hS (contQ_panic (ExitOk.panic (Q := Q)) _) hk
    · cases h
  · cases h
end Go.Eng

namespace Go.Eng.B
open Go Go.Eng Go.Proofs
set_option maxRecDepth 100000
set_option maxHeartbeats 2000000
def sPx (g : List Nat → List Nat) (p i : List Nat) (N M : Nat) : St := ⟨96, [(0, .sl .u8 p), (1, .sl .u8 i), (2, .u .i64 N), (3, .u .i64 M), (9, .sl .u8 (expE g p i (N : Int))), (10, .u .i64 (eErr (N : Int))), (11, .sl .u8 (expE g (p ++ [0, 0]) i ((N + M : Nat) : Int))), (12, .u .i64 (eErr ((N + M : Nat) : Int)))], [], 20, 0⟩
section
variable {g h : List Nat → List Nat} (hg : g = sum32) (hh : h = sum64) {w0 : World} {S : Own} {res : SV}
include hg hh
theorem pre_e (p i : List Nat) (N M : Nat) (hN : N < 150) (hM : M < 150) (hp : p.length ≤ 60) (hi : i.length ≤ 600) (hr : res = .b true) : Hold Try.prog (bodyOf Try.f3) (Fin Try.prog Try.f3 w0 S res) w0 S [.at [0, 1, 1, 1, 1, 1], .at [1, 1, 1, 1, 1, 1]] (sPx g p i N M) := by
  have hl : ∀ b, (g b).length = 32 := by rw [hg]; exact sum32_len
  have ok1 : okE (N : Int) = true := by simp [okE]; omega
  have ok2 : okE ((N + M : Nat) : Int) = true := by simp [okE]; omega
  have x1 : eErr (N : Int) = 0 := by unfold eErr; rw [if_pos ok1]
  have x2 : eErr ((N + M : Nat) : Int) = 0 := by unfold eErr; rw [if_pos ok2]
  have l1 : (expE g p i (N : Int)).length = N := by rw [expE_len hl p i ok1]; rfl
  have l2 : (expE g (p ++ [0, 0]) i ((N + M : Nat) : Int)).length = N + M := by rw [expE_len hl _ i ok2]; rfl
  have r1 : (g []).length = 32 := hl _
  have p1 : (expE g (p ++ [0, 0]) i ((N + M : Nat) : Int)).take N = expE g p i (N : Int) := by
    have hk : k64 g (p ++ [0, 0]) = k64 g p := by
      rw [show p ++ [0, 0] = (p ++ [0]) ++ [0] by simp, k64_zero (by simp; omega), k64_zero (by omega)]
    rw [expE_key hk]
    exact expE_pre hl p i (n := N) (m := M) (by omega)
  have q1 : hm g (p ++ [0]) i = hm g p i := hm_key (k64_zero (by omega)) i
  rw [hr]
  refine hold_allM mixed (okKT5 hg hh) [(0, 0, 0), (1, 1, 1), (2, 2, 2), (3, 4, 4), (4, 12, 12), (5, 20, 20), (6, 36, 32), (7, 64, 64), (8, 192, 192), (9, 64, 64), (10, 832, 832), (11, 1088, 1088), (12, 2112, 2048), (13, 4096, 4096), (14, 12288, 12288), (15, 4096, 4096), (16, 4096, 4096), (17, 102400, 102400), (18, 151552, 151552), (19, 266240, 266240), (20, 528384, 524288), (21, 1048576, 1048576), (22, 1048576, 1048576), (23, 7340032, 7340032), (24, 9437184, 9437184), (25, 1048576, 1048576), (26, 34603008, 34603008), (27, 84934656, 84934656), (28, 135266304, 135266304), (29, 269484032, 268435456), (30, 536870912, 536870912), (31, 536870912, 536870912), (32, 3758096384, 3758096384), (33, 4831838208, 4831838208), (34, 536870912, 536870912), (35, 22011707392, 17716740096), (36, 536870912, 536870912), (37, 103616086016, 103616086016), (38, 536870912, 536870912), (39, 412853731328, 412853731328), (40, 550292684800, 550292684800), (41, 1108638433280, 1108638433280), (42, 2199560126464, 2199560126464), (43, 4947802324992, 4398046511104), (44, 8796093022208, 8796093022208), (45, 26388279066624, 26388279066624), (46, 43980465111040, 43980465111040), (47, 79164837199872, 79164837199872), (48, 158329674399744, 140737488355328), (49, 281474976710656, 281474976710656), (50, 844424930131968, 844424930131968), (51, 2251799813685247, 1125899906842624)] (p := [0, 1, 1, 1, 1, 1]) (r := [.at [1, 1, 1, 1, 1, 1]]) (d := Ke.mk [8] [] 0) (σ := sPx g p i N M) (sc := [true, true, true, true, true, true, true]) (st' := [Go.Eng.It.at [(1 : Nat), (1 : Nat), (1 : Nat), (1 : Nat), (1 : Nat), (1 : Nat)]]) (σ' := (Go.Eng.St.mk (96 : Nat) [((8 : Nat), Go.Eng.SV.cb Bool.true)] [] (0 : Nat) (0 : Nat))) (ob := [(Go.Eng.B.eErr (↑N : Int) == (0 : Nat)) = Bool.true, (Go.Eng.B.eErr (↑(N + M) : Int) == (0 : Nat)) = Bool.true, ((Go.Eng.B.expE g p i (↑N : Int)).length == N) = Bool.true, N + M < (9223372036854775808 : Nat), ((Go.Eng.B.expE g (p ++ [(0 : Nat), (0 : Nat)]) i (↑(N + M) : Int)).length == N + M) = Bool.true, (0 : Nat) ≤ N, N ≤ (Go.Eng.B.expE g (p ++ [(0 : Nat), (0 : Nat)]) i (↑(N + M) : Int)).length, (List.drop (0 : Nat) (List.take N (Go.Eng.B.expE g (p ++ [(0 : Nat), (0 : Nat)]) i (↑(N + M) : Int))) == Go.Eng.B.expE g p i (↑N : Int)) = Bool.true, p.length ≤ (900000 : Nat), i.length ≤ (900000 : Nat), p.length ≤ (900000 : Nat), i.length ≤ (900000 : Nat), Go.Eng.slenD (Go.Eng.SV.sl Go.IntKind.u8 p) * (1 : Nat) ≤ (140737488355328 : Nat), Go.Eng.slenD (Go.Eng.SV.sl Go.IntKind.u8 p) * (1 : Nat) ≤ (140737488355328 : Nat), Go.Eng.slenD (Go.Eng.SV.sl Go.IntKind.u8 p) * (1 : Nat) ≤ (140737488355328 : Nat), Go.Eng.slenD (Go.Eng.SV.sl Go.IntKind.u8 p) * (1 : Nat) ≤ (140737488355328 : Nat), Go.Eng.slenD (Go.Eng.SV.sl Go.IntKind.u8 (p ++ [(0 : Nat)])) * (1 : Nat) ≤ (140737488355328 : Nat), Go.Eng.slenD (Go.Eng.SV.sl Go.IntKind.u8 p) * (1 : Nat) ≤ (140737488355328 : Nat), Go.Eng.slenD (Go.Eng.SV.sl Go.IntKind.u8 p) * (1 : Nat) ≤ (140737488355328 : Nat), Go.Eng.slenD (Go.Eng.SV.sl Go.IntKind.u8 (p ++ [(0 : Nat)])) * (1 : Nat) ≤ (140737488355328 : Nat), Go.Eng.slenD (Go.Eng.SV.sl Go.IntKind.u8 (p ++ [(0 : Nat)])) * (1 : Nat) ≤ (140737488355328 : Nat), Go.Eng.slenD (Go.Eng.SV.sl Go.IntKind.u8 p) * (1 : Nat) ≤ (140737488355328 : Nat), Go.Eng.slenD (Go.Eng.SV.sl Go.IntKind.u8 (p ++ [(0 : Nat)])) * (1 : Nat) ≤ (140737488355328 : Nat), (p ++ [(0 : Nat)]).length ≤ (900000 : Nat), i.length ≤ (900000 : Nat), Go.Eng.slenD (Go.Eng.SV.sl Go.IntKind.u8 (p ++ [(0 : Nat)])) * (1 : Nat) ≤ (140737488355328 : Nat), Go.Eng.slenD (Go.Eng.SV.sl Go.IntKind.u8 (p ++ [(0 : Nat)])) * (1 : Nat) ≤ (140737488355328 : Nat), (p ++ [(0 : Nat)]).length ≤ (900000 : Nat), i.length ≤ (900000 : Nat), Go.Eng.slenD (Go.Eng.SV.sl Go.IntKind.u8 (p ++ [(0 : Nat)])) * (1 : Nat) ≤ (140737488355328 : Nat), Go.Eng.slenD (Go.Eng.SV.sl Go.IntKind.u8 (p ++ [(0 : Nat)])) * (1 : Nat) ≤ (140737488355328 : Nat), Go.Eng.slenD (Go.Eng.SV.sl Go.IntKind.u8 (p ++ [(0 : Nat)])) * (1 : Nat) ≤ (140737488355328 : Nat), Go.Eng.slenD (Go.Eng.SV.sl Go.IntKind.u8 (p ++ [(0 : Nat)])) * (1 : Nat) ≤ (140737488355328 : Nat), (p ++ [(0 : Nat)]).length ≤ (900000 : Nat), i.length ≤ (900000 : Nat), Go.Eng.slenD (Go.Eng.SV.sl Go.IntKind.u8 (p ++ [(0 : Nat)])) * (1 : Nat) ≤ (140737488355328 : Nat), (p ++ [(0 : Nat)]).length ≤ (900000 : Nat), i.length ≤ (900000 : Nat), (p ++ [(0 : Nat)]).length ≤ (900000 : Nat), i.length ≤ (900000 : Nat), (p ++ [(0 : Nat)]).length ≤ (900000 : Nat), i.length ≤ (900000 : Nat), (p ++ [(0 : Nat)]).length ≤ (900000 : Nat), i.length ≤ (900000 : Nat), (p ++ [(0 : Nat)]).length ≤ (900000 : Nat), i.length ≤ (900000 : Nat), (p ++ [(0 : Nat)]).length ≤ (900000 : Nat), i.length ≤ (900000 : Nat), (p ++ [(0 : Nat)]).length ≤ (900000 : Nat), i.length ≤ (900000 : Nat), (p ++ [(0 : Nat)]).length ≤ (900000 : Nat), i.length ≤ (900000 : Nat), (Go.Eng.B.hm g p i == Go.Eng.B.hm g (p ++ [(0 : Nat)]) i) = Bool.true, (Go.Eng.B.hm g p i == Go.Eng.B.hm g (p ++ [(0 : Nat)]) i) = Bool.true, (Go.Eng.B.hm g p i == Go.Eng.B.hm g (p ++ [(0 : Nat)]) i) = Bool.true, (Go.Eng.B.hm g p i == Go.Eng.B.hm g (p ++ [(0 : Nat)]) i) = Bool.true, (Go.Eng.B.hm g p i == Go.Eng.B.hm g (p ++ [(0 : Nat)]) i) = Bool.true, (Go.Eng.B.hm g p i == Go.Eng.B.hm g (p ++ [(0 : Nat)]) i) = Bool.true, (Go.Eng.B.hm g p i == Go.Eng.B.hm g (p ++ [(0 : Nat)]) i) = Bool.true, (Go.Eng.B.hm g p i == Go.Eng.B.hm g (p ++ [(0 : Nat)]) i) = Bool.true, (0 : Nat) ≤ (1000000 : Nat), (0 : Nat) ≤ (1000000 : Nat), (0 : Nat) ≤ (1000000 : Nat), (0 : Nat) ≤ (1000000 : Nat), (0 : Nat) ≤ (1000000 : Nat), (0 : Nat) ≤ (1000000 : Nat), (0 : Nat) ≤ (1000000 : Nat), (0 : Nat) ≤ (1000000 : Nat), ((g []).length == (32 : Nat)) = Bool.true, ((g []).length == (32 : Nat)) = Bool.true, ((g []).length == (32 : Nat)) = Bool.true, ((g []).length == (32 : Nat)) = Bool.true, ((g []).length == (32 : Nat)) = Bool.true, ((g []).length == (32 : Nat)) = Bool.true, ((g []).length == (32 : Nat)) = Bool.true, ((g []).length == (32 : Nat)) = Bool.true]) (sc' := []) (by kernel_rfl) (by kernel_rfl) (by kernel_rfl) (by repeat' first | exact trivial | exact rfl | exact beq_iff_eq.mpr x1 | exact beq_iff_eq.mpr x2 | exact beq_iff_eq.mpr l1 | exact beq_iff_eq.mpr l2 | exact beq_iff_eq.mpr p1 | exact beq_iff_eq.mpr q1.symm | exact beq_iff_eq.mpr r1 | omega | (rw [l2]; omega) | (simp only [slenD, SV.slen, Option.getD_some, List.length_append, List.length_cons, List.length_nil]; omega) | with_reducible rfl | refine ⟨?_, ?_⟩) ?_
  exact hold_endw mixed (okKT5 hg hh) (unroll := false) (f := 100) (sc := []) (r := (Go.Eng.SV.cb Bool.true)) (ob := []) (sc' := []) (by kernel_rfl) (by trivial) (by simp [wkR, wk, wk0])
end
theorem KdfPrefix_c (p i : List Nat) (n m : Int) : Contract Try.prog 3 [.sl .u8 p, .sl .u8 i, .i .i64 n, .i .i64 m] (.b true) := by
  refine contract Try.func3 (body := bodyOf Try.f3) rfl (by kernel_rfl) (by kernel_rfl) rfl ?_
  intro _ w0 S
  obtain ⟨g, hg⟩ : ∃ g, g = sum32 := ⟨_, rfl⟩
  obtain ⟨h, hh⟩ : ∃ h, h = sum64 := ⟨_, rfl⟩
  have hl : ∀ b, (g b).length = 32 := by rw [hg]; exact sum32_len
  have n0 := Int.emod_nonneg n (show (150 : Int) ≠ 0 by omega)
  have n1 := Int.emod_lt_of_pos n (show (0 : Int) < 150 by omega)
  have m0 := Int.emod_nonneg m (show (150 : Int) ≠ 0 by omega)
  have m1 := Int.emod_lt_of_pos m (show (0 : Int) < 150 by omega)
  by_cases hp : p.length ≤ 60
  · by_cases hi : i.length ≤ 600
    · refine hold_cut mixed (okKT5 hg hh) (unroll := true) (f := 400) (sc := [false, false]) (ks := [0,1,2,3,9,10,11,12]) (bs := []) (nx := 20) (st' := [Go.Eng.It.at [(0 : Nat), (1 : Nat), (1 : Nat), (1 : Nat), (1 : Nat), (1 : Nat)], Go.Eng.It.at [(1 : Nat), (1 : Nat), (1 : Nat), (1 : Nat), (1 : Nat), (1 : Nat)]]) (σ' := { nt := (96 : Nat), slots := [((0 : Nat), Go.Eng.SV.sl Go.IntKind.u8 p), ((1 : Nat), Go.Eng.SV.sl Go.IntKind.u8 i), ((2 : Nat), Go.Eng.SV.u Go.IntKind.i64 (n % (150 : Int)).toNat), ((3 : Nat), Go.Eng.SV.u Go.IntKind.i64 (m % (150 : Int)).toNat), ((9 : Nat), Go.Eng.SV.sl Go.IntKind.u8 (Go.Eng.B.expE g p i (↑(n % (150 : Int)).toNat : Int))), ((10 : Nat), Go.Eng.SV.u Go.IntKind.i64 (Go.Eng.B.eErr (↑(n % (150 : Int)).toNat : Int))), ((11 : Nat), Go.Eng.SV.sl Go.IntKind.u8 (Go.Eng.B.expE g (p ++ [(0 : Nat), (0 : Nat)]) i (↑((n % (150 : Int)).toNat + (m % (150 : Int)).toNat) : Int))), ((12 : Nat), Go.Eng.SV.u Go.IntKind.i64 (Go.Eng.B.eErr (↑((n % (150 : Int)).toNat + (m % (150 : Int)).toNat) : Int)))], blks := [], next := (20 : Nat) }) (ob := [Decidable.decide ((60 : Nat) < p.length) = Bool.false, (!Decidable.decide (i.length ≤ (600 : Nat))) = Bool.false, (0 : Int) < (150 : Int), (0 : Int) < (150 : Int), p.length ≤ (900000 : Nat), i.length ≤ (800000 : Nat), Go.Eng.slenD (Go.Eng.SV.sl Go.IntKind.u8 p) * (1 : Nat) ≤ (140737488355328 : Nat), Go.Eng.slenD (Go.Eng.SV.sl Go.IntKind.u8 (p ++ [(0 : Nat), (0 : Nat)])) * (1 : Nat) ≤ (140737488355328 : Nat), (n % (150 : Int)).toNat + (m % (150 : Int)).toNat < (9223372036854775808 : Nat), (p ++ [(0 : Nat), (0 : Nat)]).length ≤ (900000 : Nat), i.length ≤ (800000 : Nat)]) (sc' := []) (by kernel_rfl) (by repeat' first | exact trivial | exact decide_eq_true (by omega) | exact decide_eq_false (by omega) | omega | (simp only [slenD, SV.slen, Option.getD_some, List.length_append, List.length_cons, List.length_nil]; omega) | (simp only [inR, lo, lim]; omega) | (simp; omega) | with_reducible rfl | refine ⟨?_, ?_⟩) ?_
      exact pre_e hg hh p i _ _ (by omega) (by omega) hp hi rfl
    · exact hold_endw mixed (okKT5 hg hh) (unroll := true) (f := 400) (sc := [false, true]) (r := (Go.Eng.SV.cb Bool.true)) (ob := [Decidable.decide ((60 : Nat) < p.length) = Bool.false, (!Decidable.decide (i.length ≤ (600 : Nat))) = Bool.true]) (sc' := []) (by kernel_rfl) (by repeat' first | exact trivial | exact decide_eq_true (by omega) | exact decide_eq_false (by omega) | omega | (simp only [slenD, SV.slen, Option.getD_some, List.length_append, List.length_cons, List.length_nil]; omega) | (simp only [inR, lo, lim]; omega) | (simp; omega) | with_reducible rfl | refine ⟨?_, ?_⟩) (by simp [wkR, wk, wk0])
  · exact hold_endw mixed (okKT5 hg hh) (unroll := true) (f := 400) (sc := [true]) (r := (Go.Eng.SV.cb Bool.true)) (ob := [Decidable.decide ((60 : Nat) < p.length) = Bool.true]) (sc' := []) (by kernel_rfl) (by repeat' first | exact trivial | exact decide_eq_true (by omega) | exact decide_eq_false (by omega) | omega | (simp only [slenD, SV.slen, Option.getD_some, List.length_append, List.length_cons, List.length_nil]; omega) | (simp only [inR, lo, lim]; omega) | (simp; omega) | with_reducible rfl | refine ⟨?_, ?_⟩) (by simp [wkR, wk, wk0])
end Go.Eng.B

namespace Go.Eng
open Go.RowKit
theorem has_inR {k : IntKind} {n : Int} (h : k.has n) : inR k n := by
  cases k <;> simp only [IntKind.has, IntKind.min, IntKind.max, IntKind.signed, IntKind.bits, inR, lo, lim] at * <;> simp at h ⊢ <;> omega
theorem int_of {P : Program} {w : World} {r : Reach} {base : Nat} {t : TypeId} {v : Value} {k : IntKind} (ht : P.underlying t = some (.int k)) (h : Value.okWide P w r base t v) : ∃ n, v = .int k n ∧ k.has n := by
  obtain ⟨n, rfl⟩ := WideShapes.okWide_int ht h
  refine ⟨n, rfl, ?_⟩
  simpa [Value.okWide, Cell.okWide, Cell.ok, ht] using h
theorem open_i {P : Program} {w : World} {r : Reach} {base : Nat} {t : TypeId} {v : Value} {k : IntKind} (ht : P.underlying t = some (.int k)) (h : Value.okWide P w r base t v) {β : Nat → Nat} {ow : Own} {w' : World} :
    ∃ n, relV1 β ow w' (.i k n) v := by
  obtain ⟨n, rfl, hn⟩ := int_of ht h
  exact ⟨n, _, rel_i (has_inR hn), rfl⟩
theorem ints_of {k : IntKind} (hk : k.signed = false) : ∀ (cs : List Value), (∀ v ∈ cs, ∃ n, v = .int k n ∧ k.has n) → ∃ l : List Nat, cs = ints k l ∧ l.length = cs.length ∧ ∀ x ∈ l, x < lim k := by
  intro cs
  induction cs with
  | nil => intro _; exact ⟨[], rfl, rfl, by simp⟩
  | cons v cs ih =>
    intro h
    obtain ⟨l, h1, h2, h3⟩ := ih fun u hu => h u (by simp [hu])
    obtain ⟨n, rfl, hn⟩ := h v (by simp)
    have hr := has_inR hn
    have h0 : 0 ≤ n := by cases k <;> simp [IntKind.signed] at hk <;> simp only [inR, lo] at hr <;> omega
    refine ⟨n.toNat :: l, ?_, by simp [h2], ?_⟩
    · simp only [ints, List.map_cons, Int.toNat_of_nonneg h0]
      rw [h1]; rfl
    · intro x hx
      rcases List.mem_cons.1 hx with rfl | hx
      · have := hr.2; omega
      · exact h3 x hx
theorem open_arr {P : Program} {w : World} {r : Reach} {base : Nat} {t e u : TypeId} {v : Value} {k : IntKind} {n : Nat} (ht : P.underlying t = some (.array n e)) (hct : P.cellTypes P.depth t = some (List.replicate n u)) (hsz : P.cellsOf t = n)
    (hu : P.underlying u = some (.int k)) (hk : k.signed = false) (h : Value.okWide P w r base t v) {β : Nat → Nat} {ow : Own} {w' : World} : ∃ l, relV1 β ow w' (.arr k n l) v := by
  simp only [Value.okWide, ht] at h
  obtain ⟨cs, rfl, hs, ts, hts, _, hc⟩ := h
  rw [hct] at hts
  cases hts
  obtain ⟨l, h1, h2, h3⟩ := ints_of hk cs.toList fun v hv => by
    obtain ⟨i, hi⟩ := List.getElem?_of_mem hv
    obtain ⟨u', hu', hok⟩ := hc i v (by simpa using hi)
    have : u' = u := by
      have := List.mem_of_getElem? hu'
      exact List.eq_of_mem_replicate this
    subst this
    exact int_of (w := w) (r := r) (base := base) hu (by simp only [Value.okWide, hu]; exact hok)
  refine ⟨l, ints k l, rel_arr ?_ h3, ?_⟩
  · rw [h2]; simp [hs, hsz]
  · simp only [SV.isAgg, toV, if_true]
    rw [← h1]
theorem Contract.calls {P : Program} {f : FuncId} {fn : Func} {body : Code} {args : List SV} {res : SV} (h : Contract P f args res) (hf : P.funcs[f]? = some fn) (hb : fn.body = some body) (hname : (fn.name == "runtime.NumGoroutine") = false)
    {w : World} {vs : List Value} (hv : relVs (fun _ => 0) (fun _ _ => False) w args vs) :
    Calls P f vs.toArray w fun e w' => ∃ v, e = .returned v ∧ Below w.heap.size w w' ∧ relV (fun _ => 0) (fun _ _ => False) w' res v := by
  have h1 := h w (fun _ _ => False) vs (fun _ _ h => h.elim) hv
  unfold Invokes at h1
  have hcall : (callFunc f vs.toArray).run P w = .ok (.enter f vs.toArray) w := by
    have hne : ¬ fn.name = "runtime.NumGoroutine" := by simpa using hname
    simp [callFunc, hf, hb, hne]
  rw [hcall] at h1
  exact h1
end Go.Eng

namespace Go.Eng
open Go.RowKit Go.ChangeShapes Go.WideShapes
section
variable {H : Type} {enc : TypeId × Value → H} {P : Program} {w : World} {sp : Nat → Bool} {held : Bool} {r : Reach} {b0 : Nat} {t e : TypeId} {v : Value} {d : DataW H} {ps : List MemPlace} {k : IntKind}
theorem wf_inR {n : Int} (h : (Lit.int k n).wf = true) : inR k n := by
  apply has_inR
  have h : k.min ≤ n ∧ n ≤ k.max := by simpa [Lit.wf] using h
  exact h
theorem open_zs (ht : P.underlying t = some (.slice e)) (he : P.underlying e = some (.int k)) (hc : P.cellsOf e = 1) (hval : Value.okWide P w r b0 t v) (hd : DataW.Trod enc P w 0 sp held t v d ps) :
    ∃ zs : List Int, ReadsAs (fun _ _ => False) w v (zs.map fun n : Int => Value.int k n) ∧ ∀ n ∈ zs, inR k n := by
  obtain ⟨a0, len, cap, rfl⟩ := okWide_slice ht hval
  obtain ⟨fuel, hf⟩ := hd
  rcases ChangeShapes.open_ints ht he hc hf with ⟨h1, _⟩ | ⟨a, len', cap', zs, h1, _, hl, hm, hz, _, hcell, hwf⟩
  · simp only [Value.cells, List.cons.injEq, and_true] at h1
    cases h1
    exact ⟨[], ⟨none, 0, 0, rfl, rfl, Nat.le_refl _, by omega, fun h => absurd h (by omega)⟩, by simp⟩
  · simp only [Value.cells, List.cons.injEq, and_true] at h1
    cases h1
    have hle : len ≤ zs.length := by rw [hz]; split <;> omega
    have hmax : cap < 9223372036854775808 := by simp only [maxLen] at hm; omega
    refine ⟨zs.take len, ⟨some a, len, cap, rfl, by simp; omega, hl, hmax, fun hp => ⟨a, rfl, ?_, fun _ _ h => h, fun j u hu => ?_⟩⟩, fun n hn => wf_inR (hwf n (List.mem_of_mem_take hn))⟩
    · have := hcell 0 (by omega)
      simp only [Addr.add, if_true] at this
      cases hs : a.spot with
      | none => rfl
      | some q => simp [World.cell?, hs] at this; split at this <;> cases this
    · have hj : j < len := by
        have := (List.getElem?_eq_some_iff.1 hu).1
        simp at this; omega
      have h0 := hcell 0 (by omega)
      have hs : a.spot = none := by
        simp only [Addr.add, if_true] at h0
        cases hs : a.spot with
        | none => rfl
        | some q => simp [World.cell?, hs] at h0; split at h0 <;> cases h0
      have := hcell j (by omega)
      rw [add_spot hs] at this
      rw [this]
      simp only [List.getElem?_map, List.getElem?_take_of_lt hj, Option.map_eq_some_iff] at hu
      obtain ⟨z, hz1, rfl⟩ := hu
      simp [List.getD_eq_getElem?_getD, hz1]
theorem nats_of (hk : k.signed = false) : ∀ (zs : List Int), (∀ n ∈ zs, inR k n) → ∃ l : List Nat, (zs.map fun n : Int => Value.int k n) = ints k l ∧ ∀ x ∈ l, x < lim k := by
  intro zs
  induction zs with
  | nil => intro _; exact ⟨[], rfl, by simp⟩
  | cons n zs ih =>
    intro h
    obtain ⟨l, h1, h2⟩ := ih fun m hm => h m (by simp [hm])
    have hr := h n (by simp)
    have h0 : 0 ≤ n := by cases k <;> simp [IntKind.signed] at hk <;> simp only [inR, lo] at hr <;> omega
    refine ⟨n.toNat :: l, by simp only [ints, List.map_cons, Int.toNat_of_nonneg h0, h1], ?_⟩
    intro x hx
    rcases List.mem_cons.1 hx with rfl | hx
    · have := hr.2; omega
    · exact h2 x hx
theorem open_bytes {β : Nat → Nat} (ht : P.underlying t = some (.slice e)) (he : P.underlying e = some (.int k)) (hk : k.signed = false) (hc : P.cellsOf e = 1) (hval : Value.okWide P w r b0 t v) (hd : DataW.Trod enc P w 0 sp held t v d ps) :
    ∃ l, relV1 β (fun _ _ => False) w (.sl k l) v := by
  obtain ⟨zs, h1, h2⟩ := open_zs ht he hc hval hd
  obtain ⟨l, h3, h4⟩ := nats_of hk zs h2
  rw [h3] at h1
  exact ⟨l, [v], by simp only [rel]; exact ⟨⟨v, rfl, h1⟩, h4⟩, rfl⟩
theorem open_intl {β : Nat → Nat} (ht : P.underlying t = some (.slice e)) (he : P.underlying e = some (.int .i64)) (hc : P.cellsOf e = 1) (hval : Value.okWide P w r b0 t v) (hd : DataW.Trod enc P w 0 sp held t v d ps) :
    ∃ l, relV1 β (fun _ _ => False) w (.sli l) v := by
  obtain ⟨zs, h1, h2⟩ := open_zs ht he hc hval hd
  exact ⟨zs, [v], by simp only [rel]; exact ⟨⟨v, rfl, h1⟩, h2⟩, rfl⟩
theorem open_b {β : Nat → Nat} {ow : Own} {w' : World} (ht : P.underlying t = some .bool) (hval : Value.okWide P w r b0 t v) : ∃ x, relV1 β ow w' (.b x) v := by
  obtain ⟨b, rfl⟩ := okWide_bool ht hval
  exact ⟨b, _, rel_b, rfl⟩
theorem open_str {β : Nat → Nat} {ow : Own} {w' : World} (ht : P.underlying t = some .string) (hval : Value.okWide P w r b0 t v) : ∃ l, relV1 β ow w' (.str l) v := by
  obtain ⟨s, rfl⟩ := okWide_string ht hval
  have := constSV_ok (β := β) (ow := ow) (w := w') (v := .string s) (s := .str (s.data.toList.map (·.toNat))) rfl
  exact ⟨_, _, this.1, rfl⟩
end
end Go.Eng

namespace Go.Proofs.Ytedccmojbmlkcaa.Facts
open Go Go.Proofs
set_option maxRecDepth 100000
theorem words_word {r : List Char} : ∀ {l : List Char}, (∀ c ∈ l, c ≠ ' ') → wordsSigns (l ++ ' ' :: r) = l :: wordsSigns r := by
  intro l
  induction l with
  | nil => intro _; rfl
  | cons c l ih =>
    intro h
    have hc : c ≠ ' ' := h c (by simp)
    have e := ih fun x hx => h x (by simp [hx])
    show wordsSigns (c :: (l ++ ' ' :: r)) = _
    rw [wordsSigns, e]
    · intro hh; exact hc hh
theorem order_is : Try.pinned.checked.prog.initOrder = "harness fdf75883f3d4315cbaad1436e96b620cb7bd8f58ed2360185c1b7b47d97433d8 cut at coresec/coreseclaw05.KdfPrefix coresec/coreseclaw05.KdfCalls coresec/coreseclaw04.ShaConstants coresec/coreseclaw04.ShaBlocks coresec/coreseclaw26.ContextDerives coresec/coreseclaw26.ContextNonces coresec/coreseclaw26.ContextNumbers coresec/coreseclaw26.ContextUnique coresec/coreseclaw38.EchoValues" := by kernel_rfl
theorem order_lit : ("harness fdf75883f3d4315cbaad1436e96b620cb7bd8f58ed2360185c1b7b47d97433d8 cut at coresec/coreseclaw05.KdfPrefix coresec/coreseclaw05.KdfCalls coresec/coreseclaw04.ShaConstants coresec/coreseclaw04.ShaBlocks coresec/coreseclaw26.ContextDerives coresec/coreseclaw26.ContextNonces coresec/coreseclaw26.ContextNumbers coresec/coreseclaw26.ContextUnique coresec/coreseclaw38.EchoValues" : String) = String.ofList (['h', 'a', 'r', 'n', 'e', 's', 's'] ++ ' ' :: (['f', 'd', 'f', '7', '5', '8', '8', '3', 'f', '3', 'd', '4', '3', '1', '5', 'c', 'b', 'a', 'a', 'd', '1', '4', '3', '6', 'e', '9', '6', 'b', '6', '2', '0', 'c', 'b', '7', 'b', 'd', '8', 'f', '5', '8', 'e', 'd', '2', '3', '6', '0', '1', '8', '5', 'c', '1', 'b', '7', 'b', '4', '7', 'd', '9', '7', '4', '3', '3', 'd', '8'] ++ ' ' :: (['c', 'u', 't'] ++ ' ' :: ['a', 't', ' ', 'c', 'o', 'r', 'e', 's', 'e', 'c', '/', 'c', 'o', 'r', 'e', 's', 'e', 'c', 'l', 'a', 'w', '0', '5', '.', 'K', 'd', 'f', 'P', 'r', 'e', 'f', 'i', 'x', ' ', 'c', 'o', 'r', 'e', 's', 'e', 'c', '/', 'c', 'o', 'r', 'e', 's', 'e', 'c', 'l', 'a', 'w', '0', '5', '.', 'K', 'd', 'f', 'C', 'a', 'l', 'l', 's', ' ', 'c', 'o', 'r', 'e', 's', 'e', 'c', '/', 'c', 'o', 'r', 'e', 's', 'e', 'c', 'l', 'a', 'w', '0', '4', '.', 'S', 'h', 'a', 'C', 'o', 'n', 's', 't', 'a', 'n', 't', 's', ' ', 'c', 'o', 'r', 'e', 's', 'e', 'c', '/', 'c', 'o', 'r', 'e', 's', 'e', 'c', 'l', 'a', 'w', '0', '4', '.', 'S', 'h', 'a', 'B', 'l', 'o', 'c', 'k', 's', ' ', 'c', 'o', 'r', 'e', 's', 'e', 'c', '/', 'c', 'o', 'r', 'e', 's', 'e', 'c', 'l', 'a', 'w', '2', '6', '.', 'C', 'o', 'n', 't', 'e', 'x', 't', 'D', 'e', 'r', 'i', 'v', 'e', 's', ' ', 'c', 'o', 'r', 'e', 's', 'e', 'c', '/', 'c', 'o', 'r', 'e', 's', 'e', 'c', 'l', 'a', 'w', '2', '6', '.', 'C', 'o', 'n', 't', 'e', 'x', 't', 'N', 'o', 'n', 'c', 'e', 's', ' ', 'c', 'o', 'r', 'e', 's', 'e', 'c', '/', 'c', 'o', 'r', 'e', 's', 'e', 'c', 'l', 'a', 'w', '2', '6', '.', 'C', 'o', 'n', 't', 'e', 'x', 't', 'N', 'u', 'm', 'b', 'e', 'r', 's', ' ', 'c', 'o', 'r', 'e', 's', 'e', 'c', '/', 'c', 'o', 'r', 'e', 's', 'e', 'c', 'l', 'a', 'w', '2', '6', '.', 'C', 'o', 'n', 't', 'e', 'x', 't', 'U', 'n', 'i', 'q', 'u', 'e', ' ', 'c', 'o', 'r', 'e', 's', 'e', 'c', '/', 'c', 'o', 'r', 'e', 's', 'e', 'c', 'l', 'a', 'w', '3', '8', '.', 'E', 'c', 'h', 'o', 'V', 'a', 'l', 'u', 'e', 's']))) := by kernel_rfl
theorem order_words : ∃ R, behindMainWord (wordsSigns Try.pinned.checked.prog.initOrder.toList) = ['c', 'u', 't'] :: R := by
  rw [order_is, order_lit, String.toList_ofList, words_word (by decide), words_word (by decide), words_word (by decide)]
  generalize wordsSigns ['a', 't', ' ', 'c', 'o', 'r', 'e', 's', 'e', 'c', '/', 'c', 'o', 'r', 'e', 's', 'e', 'c', 'l', 'a', 'w', '0', '5', '.', 'K', 'd', 'f', 'P', 'r', 'e', 'f', 'i', 'x', ' ', 'c', 'o', 'r', 'e', 's', 'e', 'c', '/', 'c', 'o', 'r', 'e', 's', 'e', 'c', 'l', 'a', 'w', '0', '5', '.', 'K', 'd', 'f', 'C', 'a', 'l', 'l', 's', ' ', 'c', 'o', 'r', 'e', 's', 'e', 'c', '/', 'c', 'o', 'r', 'e', 's', 'e', 'c', 'l', 'a', 'w', '0', '4', '.', 'S', 'h', 'a', 'C', 'o', 'n', 's', 't', 'a', 'n', 't', 's', ' ', 'c', 'o', 'r', 'e', 's', 'e', 'c', '/', 'c', 'o', 'r', 'e', 's', 'e', 'c', 'l', 'a', 'w', '0', '4', '.', 'S', 'h', 'a', 'B', 'l', 'o', 'c', 'k', 's', ' ', 'c', 'o', 'r', 'e', 's', 'e', 'c', '/', 'c', 'o', 'r', 'e', 's', 'e', 'c', 'l', 'a', 'w', '2', '6', '.', 'C', 'o', 'n', 't', 'e', 'x', 't', 'D', 'e', 'r', 'i', 'v', 'e', 's', ' ', 'c', 'o', 'r', 'e', 's', 'e', 'c', '/', 'c', 'o', 'r', 'e', 's', 'e', 'c', 'l', 'a', 'w', '2', '6', '.', 'C', 'o', 'n', 't', 'e', 'x', 't', 'N', 'o', 'n', 'c', 'e', 's', ' ', 'c', 'o', 'r', 'e', 's', 'e', 'c', '/', 'c', 'o', 'r', 'e', 's', 'e', 'c', 'l', 'a', 'w', '2', '6', '.', 'C', 'o', 'n', 't', 'e', 'x', 't', 'N', 'u', 'm', 'b', 'e', 'r', 's', ' ', 'c', 'o', 'r', 'e', 's', 'e', 'c', '/', 'c', 'o', 'r', 'e', 's', 'e', 'c', 'l', 'a', 'w', '2', '6', '.', 'C', 'o', 'n', 't', 'e', 'x', 't', 'U', 'n', 'i', 'q', 'u', 'e', ' ', 'c', 'o', 'r', 'e', 's', 'e', 'c', '/', 'c', 'o', 'r', 'e', 's', 'e', 'c', 'l', 'a', 'w', '3', '8', '.', 'E', 'c', 'h', 'o', 'V', 'a', 'l', 'u', 'e', 's'] = R
  exact ⟨R, by kernel_rfl⟩
theorem c_gc : (['c', 'u', 't'] == "gc".toList) = false := by kernel_rfl
theorem c_spec : (['c', 'u', 't'] == "spec".toList) = false := by kernel_rfl
theorem c_cut : (['c', 'u', 't'] == "cut".toList) = true := by kernel_rfl
theorem c_carried : (['c', 'u', 't'] == "carried".toList) = false := by kernel_rfl
theorem c_strip (R : List (List Char)) : stripLifts liftWords (['c', 'u', 't'] :: R) = ([], ['c', 'u', 't'] :: R) := by kernel_rfl
theorem lifts_of {P : Program} {R : List (List Char)} (h : behindMainWord (wordsSigns P.initOrder.toList) = ['c', 'u', 't'] :: R) : P.liftsFinal = false := by
  unfold Program.liftsFinal Program.headLifts
  rw [h]
  kernel_rfl
theorem make_of {P : Program} {R : List (List Char)} (h : behindMainWord (wordsSigns P.initOrder.toList) = ['c', 'u', 't'] :: R) : P.make = some .cut := by
  unfold Program.make
  rw [h]
  simp only [c_gc, c_spec, c_cut, Bool.or_false, Bool.false_or, Bool.true_or, if_true, if_false, Bool.false_eq_true]
theorem enter_of {P : Program} {R : List (List Char)} (h : behindMainWord (wordsSigns P.initOrder.toList) = ['c', 'u', 't'] :: R) (h2 : P.laysLater = false) (h3 : P.bearsReflect = false) (h4 : P.doorFits [] = true) : P.mayEnter = true := by
  unfold Program.mayEnter
  rw [h]
  simp only [c_gc, c_spec, c_carried, c_strip, h2, h3, h4]
  kernel_rfl
theorem lays_is : Try.pinned.checked.prog.laysLater = false := by kernel_rfl
theorem reflect_is : Try.pinned.checked.prog.bearsReflect = false := by kernel_rfl
theorem door_is : Try.pinned.checked.prog.doorFits [] = true := by kernel_rfl
theorem lifts_is : Try.pinned.checked.prog.liftsFinal = false := by
  obtain ⟨R, h⟩ := order_words
  exact lifts_of h
theorem make_is : Try.pinned.checked.prog.make = some .cut := by
  obtain ⟨R, h⟩ := order_words
  exact make_of h
theorem enter_is : Try.pinned.checked.prog.mayEnter = true := by
  obtain ⟨R, h⟩ := order_words
  exact enter_of h lays_is reflect_is door_is
end Go.Proofs.Ytedccmojbmlkcaa.Facts

