/- execDraw is right. -/
import Derived.Test.YtclpbijalffdkaaDrawOk
namespace Go.Eng
open Go.RowKit

section
variable {P : Program} {ctr : Ctr} {ops : Array Oper} {β : Nat → Nat} {w w0 : World} {S : Nat → Prop} {a : Act} {σ σ' : St}

theorem guard_look {slots : List (Nat × SV)} {ow : Nat → Prop} {x : World} {a : Act} {o : Oper} (hs : ∀ d s, d ∈ o.looksAt ops → getS slots d = some s → relV β ow x s (a.tmps.getD d undef)) {q : Bool} (h : guardOf ops slots o = some q) :
    Region.wanted o (yielded ops a.tmps) = q := by
  cases hg : o.guard with
  | none => unfold guardOf at h; simp only [hg] at h; cases h; simp [Region.wanted, hg]
  | some p =>
    obtain ⟨j, want⟩ := p
    cases hd : dstOf ops j with
    | none => unfold guardOf at h; simp [hg, hd] at h
    | some d =>
      cases hb : getS slots d with
      | none => unfold guardOf at h; simp [hg, hd, hb] at h
      | some s =>
        have hl : d ∈ o.looksAt ops := by
          unfold Oper.looksAt
          simp only [hg]
          rw [show (ops[j]?).bind (·.dst) = some d from hd]
          simp
        refine guard_ok (β := β) (ow := ow) (w := x) (slots := [(d, s)]) (fun e t hm => ?_) ?_
        · simp only [List.mem_singleton, Prod.mk.injEq] at hm
          obtain ⟨rfl, rfl⟩ := hm
          exact hs e t hl hb
        · unfold guardOf at h ⊢
          simp only [hg, hd, hb] at h ⊢
          simp only [getS, if_true]
          exact h

theorem pure_yields {ow : Nat → Prop} {x : World} {a : Act} {H : List (Nat × Bk)} {ρ : Operand → Option SV} (hρ : ∀ y s, ρ y = some s → relV β ow x s (a.eval y)) {o : Oper} (hp : pureOp o = true) {s : SV} {ob : List Prop} (h : evalH P ctr H ρ o = some (.val s, ob)) :
    ∃ v, (∀ w', (execOp a.eval o).run P w' = .ok (.value v) w') ∧ relV β ow x s v := by
  obtain ⟨dst, op, type, pos, after, guard⟩ := o
  unfold pureOp at hp
  simp only at hp
  split at hp <;> try cases hp
  · rename_i y
    unfold evalH at h
    simp only at h
    split at h
    · rename_i s' hs; cases h; exact ⟨a.eval y, fun w' => by simp [execOp], hρ y _ hs⟩
    · cases h
  · rename_i y
    unfold evalH at h
    simp only at h
    split at h
    · rename_i s' hs; cases h; exact ⟨a.eval y, fun w' => by simp [execOp], hρ y _ hs⟩
    · cases h
  · rename_i y n
    unfold evalH at h
    simp only at h
    split at h
    · rename_i l hpl
      split at h
      · rename_i s' hs
        split at h
        · cases h
        · rename_i ht
          cases h
          obtain ⟨vs, he, hvs⟩ := hρ y _ hpl
          have : ∀ (l : List SV) (vs : List Value) (n : Nat), relVs β ow x l vs → l[n]? = some s → ∃ v, vs[n]? = some v ∧ relV1 β ow x s v := by
            intro l
            induction l with
            | nil => intro vs n _ hn; simp at hn
            | cons q l ih =>
              intro vs n hv hn
              obtain ⟨v, t, rfl, h1, h2⟩ := hv
              cases n with
              | zero => simp at hn; subst hn; exact ⟨v, rfl, h1⟩
              | succ n => simp at hn; obtain ⟨u, hu, hr⟩ := ih t n h2 hn; exact ⟨u, by simpa using hu, hr⟩
          obtain ⟨v, hv, hr⟩ := this l vs n hvs hs
          exact ⟨v, fun w' => by simp [execOp, he, Instr.extract, hv], relV_up hr⟩
      · cases h
    · cases h
  · rename_i t parts
    unfold evalH at h
    simp only at h
    split at h
    · rename_i ps hps
      split at h
      · rename_i rr hb
        cases h
        have hpp := partsS_ok hρ hps
        obtain ⟨v, hrun, hv⟩ := buildS_ok (P := P) (qs := parts.map fun p => (p.1, a.eval p.2)) hb (by simpa using hpp)
        exact ⟨v, fun w' => by simp only [execOp, Sem.run_bind, hrun w', Result.andThen_ok, Sem.run_pure], hv⟩
      · cases h
    · cases h

theorem execDraw_ok (hm : P.follows .mixedOrders = true) (hctr : CtrOk P ctr) {id : Nat} {sc sc' : List Bool} {ob : List Prop} (h : execDraw P ctr ops σ sc = some (σ', ob, sc')) (hob : All ob) (hS : Sat w0 S σ β a w)
    {Q : Exit → Act → World → Prop} (hQ : ∀ c a w, ¬ Q (.panic c) a w) (hk : ∀ β' a' w', Sat w0 S σ' β' a' w' → Q .normal a' w') : (Code.region id ops true).wp P Q a w := by
  unfold execDraw at h
  simp only at h
  split at h
  · rename_i hB
    simp only [Bool.and_eq_true] at hB
    split at h
    · rename_i rs ob1 sc1 sl hhead
      split at h
      · rename_i hchk
        simp only [Bool.and_eq_true] at hchk
        obtain ⟨hlateB, hidsB⟩ := hchk
        split at h
        · rename_i σ1 hadd
          split at h
          · rename_i σ2 ob2 sc2 htail
            cases h
            obtain ⟨ho1, ho2⟩ := All.append.1 hob
            generalize hn : headLen ops.toList = n at *
            generalize hhn : ops.toList.any isNew = hasNew at *
            have hF := flowOk_of hB.1
            have hle := hF.le
            have hlen : (ops.toList.take n).length = n := by simp; omega
            obtain ⟨hrl, hsl, hsteps⟩ := execHead_steps (rs := rs) (slots0 := σ.slots) (i := 0) (l := ops.toList.take n) (fun j hj => by rw [hlen] at hj; simp [hj]) hhead (fun j _ => by simp) ho1
            simp only [Nat.zero_add, hlen] at hrl hsl hsteps
            have hnt : a.tmps.size = σ.nt := hS.size
            -- what an operation of the head sees
            have hsees : ∀ i o (a' : Act) (x : World) (iv : Nat → Nat × Nat), i < n → ops[i]? = some o → Ext w x → (∀ t ∈ o.looksAt ops, OpdOk (TT rs S σ.blks β hasNew w) a a' x iv (lastW ops i t) t) →
                ∀ d s, d ∈ o.looksAt ops → getS (gam ops rs σ.slots i) d = some s → relV β (owm S σ.blks β hasNew w x) x s (a'.tmps.getD d undef) := by
              intro i o a' x iv hi ho hx hopd d s hd hg
              have := hopd d hd
              rcases gam_mem (by omega) (getS_mem hg) with ⟨hl, hm0⟩ | ⟨j, hj, hl, hr⟩
              · rw [hl] at this
                simp only [OpdOk] at this
                rw [this]
                exact relV_mono owm_start (Keep.of_ext hx) (fun _ _ => rfl) (hS.slot d s hm0)
              · rw [hl] at this
                simp only [OpdOk, TT] at this
                rcases hr with hr | hr | ⟨ty, segs, n', es, hr, rfl⟩
                · simp only [hr] at this; exact this
                · simp only [hr] at this; exact this
                · simp only [hr] at this; exact osz_of this
            have hρ : ∀ i o (a' : Act) (x : World), Ext w x → (∀ d s, d ∈ o.looksAt ops → getS (gam ops rs σ.slots i) d = some s → relV β (owm S σ.blks β hasNew w x) x s (a'.tmps.getD d undef)) →
                ∀ y s, lookR ops o (gam ops rs σ.slots i) y = some s → relV β (owm S σ.blks β hasNew w x) x s (a'.eval y) := by
              intro i o a' x hx hse y s hy
              cases y with
              | tmp t =>
                simp only [lookR] at hy
                split at hy
                · rename_i hc
                  exact hse t s (by simpa using hc) hy
                · cases hy
              | const v =>
                simp only [lookR, lookρ] at hy
                obtain ⟨h1, h2, _, _⟩ := constSV_ok (β := β) (ow := owm S σ.blks β hasNew w x) (w := x) hy
                exact relV_of1 h2 h1
              | global g => simp [lookR, lookρ] at hy
              | func f => simp [lookR, lookρ] at hy
            have hH : ∀ x, Ext w x → HSat β (owm S σ.blks β hasNew w x) x σ.blks := by
              intro x hx id bk hmem
              obtain ⟨cs, hr, hb⟩ := hS.blk id bk hmem
              exact ⟨cs, rels_mono owm_start (Keep.of_ext hx) _ _ (fun _ _ => rfl) hr, by rw [hx.block _ (Array.getElem?_eq_some_iff.1 hb).1]; exact hb⟩
            have hown : ∀ x, Ext w x → ∀ b, owm S σ.blks β hasNew w x b → b < x.heap.size := by
              rintro x hx b (h | ⟨_, _, h⟩)
              · exact Nat.lt_of_lt_of_le (hS.own b h) hx.size
              · exact h
            refine flow_region (T := TT rs S σ.blks β hasNew w) (G := fun _ => True) (n := n) (late := lateOf ops n) hm (by rw [hnt]; exact hB.1) hB.2 (fun _ _ _ _ => trivial) TT_mono hQ trivial ?_ ?_ ?_
            · -- a step
              intro i o hi hlate ho a' x iv _ hx hopd K hK
              obtain ⟨s1, s2, ob3, hx1, hstep, hob3, hrs⟩ := hsteps i o (by omega) hi ho
              have hse := hsees i o a' x iv hi ho hx hopd
              unfold headStep at hstep
              unfold wpOp
              simp only [ho]
              split at hstep
              · cases hstep
              · rename_i hg
                cases hstep
                rw [guard_look hse hg]
                simp only [Bool.false_eq_true, if_false]
                exact hK undef x (Ext.refl x) (by unfold TT; simp only [hrs]; exact ⟨[], rfl, rfl⟩)
              · rename_i hg
                rw [guard_look hse hg]
                simp only [if_true]
                refine .inl ?_
                split at hstep
                · rename_i s obs hev
                  split at hstep
                  · rename_i s' ob4 sc4 hres
                    cases hstep
                    obtain ⟨q1, q2⟩ := All.append.1 hob3
                    refine evalH_ok hctr hev q1 (hρ i o a' x hx hse) (hH x hx) (hown x hx) fun v w' hxx hv => hK v w' hxx ?_
                    obtain ⟨rfl, hv⟩ := hv
                    unfold TT
                    simp only [hrs]
                    exact resolveB_ok hres q2 hv
                  · cases hstep
                · rename_i s obs hev
                  split at hstep
                  · cases hstep
                  · rename_i hnn
                    split at hstep
                    · rename_i s' ob4 sc4 hres
                      cases hstep
                      obtain ⟨q1, q2⟩ := All.append.1 hob3
                      refine evalH_ok hctr hev q1 (hρ i o a' x hx hse) (hH x hx) (hown x hx) fun v w' hxx hv => hK v w' hxx ?_
                      obtain ⟨_, hv⟩ := hv
                      unfold TT
                      simp only [hrs]
                      refine resolveB_ok hres q2 ?_
                      cases hhas : hasNew with
                      | true =>
                        have hno : s.noSl = true := by simpa [hhas] using hnn
                        exact relV_noSl _ _ hno (fun _ _ => rfl) hv
                      | false =>
                        subst hhas
                        exact relV_mono (fun b _ h => h.elim .inl fun h => by cases h.1) (Keep.refl _ _) (fun _ _ => rfl) hv
                    · cases hstep
                · rename_i ty segs kind obs hev
                  split at hstep
                  · cases hstep
                    refine evalH_ok hctr hev hob3 (hρ i o a' x hx hse) (hH x hx) (hown x hx) fun v w' hxx hv => hK v w' hxx ?_
                    obtain ⟨cs, hr, rfl, hv⟩ := hv
                    unfold TT
                    simp only [hrs]
                    refine ⟨x.heap.size, cs, Nat.le_refl _, by simp, rels_mono owm_mono (Keep.of_ext hxx) _ _ (fun _ _ => rfl) hr, by show (x.heap.push _)[x.heap.size]? = _; simp, hv⟩
                  · cases hstep
                · cases hstep
            · -- late
              intro i o hi hlate ho a' x iv _ hx hopd
              obtain ⟨s1, s2, ob3, hx1, hstep, hob3, hrs⟩ := hsteps i o (by omega) hi ho
              have hse := hsees i o a' x iv hi ho hx hopd
              have hcheck := List.all_eq_true.1 hlateB i (by simpa using hi)
              simp only [hlate, Bool.not_true, Bool.false_or, ho, hrs, Bool.and_eq_true] at hcheck
              obtain ⟨hpure, hval⟩ := hcheck
              have hgn : o.guard = none := by
                unfold pureOp at hpure
                split at hpure <;> first | assumption | cases hpure
              have hwant : ∀ (t : Nat → Option Bool), Region.wanted o t = true := fun t => by simp [Region.wanted, hgn]
              unfold headStep at hstep
              have hg1 : guardOf ops (gam ops rs σ.slots i) o = some true := by unfold guardOf; simp [hgn]
              simp only [hg1] at hstep
              split at hstep
              · rename_i s obs hev
                split at hstep
                · rename_i s' ob4 sc4 hres
                  cases hstep
                  obtain ⟨q1, q2⟩ := All.append.1 hob3
                  obtain ⟨v, hrun, hv⟩ := pure_yields (hρ i o a' x hx hse) hpure hev
                  refine ⟨v, .inl ⟨hwant _, hrun⟩, fun lo => ?_⟩
                  unfold TT
                  simp only [hrs]
                  exact resolveB_ok hres q2 hv
                · cases hstep
              · split at hstep
                · cases hstep
                · split at hstep
                  · cases hstep; cases hval
                  · cases hstep
              · split at hstep
                · cases hstep; cases hval
                · cases hstep
              · cases hstep
            · -- the tail
              intro a' x iv hI
              have hfin : ∀ t, OpdOk (TT rs S σ.blks β hasNew w) a a' x iv (lastW ops n t) t := fun t => hI.final (heads_all hle) t
              have hx := hI.ext
              have hsS : ∀ d s, (d, s) ∈ sl → relV β (owm S σ.blks β hasNew w x) x s (a'.tmps.getD d undef) := by
                intro d s hmem
                rw [hsl] at hmem
                have := hfin d
                rcases gam_mem (by omega) hmem with ⟨hl, hm0⟩ | ⟨j, hj, hl, hr⟩
                · rw [hl] at this
                  simp only [OpdOk] at this
                  rw [this]
                  exact relV_mono owm_start (Keep.of_ext hx) (fun _ _ => rfl) (hS.slot d s hm0)
                · rw [hl] at this
                  simp only [OpdOk, TT] at this
                  rcases hr with hr | hr | ⟨ty, segs, n', es, hr, rfl⟩
                  · simp only [hr] at this; exact this
                  · simp only [hr] at this; exact this
                  · simp only [hr] at this; exact osz_of this
              have hidsl : ∀ d s, (d, s) ∈ sl → ∀ id ∈ s.ids, id < σ.next := by
                clear hsS hsl hadd hhead
                intro d s hmem
                induction sl with
                | nil => cases hmem
                | cons p r ih =>
                  simp only [idsOk, Bool.and_eq_true] at hidsB
                  rcases List.mem_cons.1 hmem with e | hmem
                  · subst e
                    intro id hi
                    have := List.all_eq_true.1 hidsB.1 id hi
                    simpa using this
                  · exact ih hidsB.2 hmem
              have hS1 : Sat w0 S { σ with slots := sl } β a' x := by
                refine ⟨by rw [hI.defs]; exact hS.defs, by rw [hI.tmps]; exact hS.size, fun d s hmem => relV_mono (fun b _ h => .inl h) (Keep.refl _ _) (fun _ _ => rfl) (hsS d s hmem), fun id bk hmem => ?_, hS.low, hS.inj, hS.uniq, hidsl, hS.bndB, hS.ext.trans (hx.mono hS.ext.size), hS.lowS⟩
                obtain ⟨cs, hr, hb⟩ := hH x hx id bk hmem
                exact ⟨cs, rels_mono (fun b _ h => .inl h) (Keep.refl _ _) _ _ (fun _ _ => rfl) hr, hb⟩
              have hheads := heads_all (ops := ops) hle
              have hSat : ∃ β', Sat w0 S σ1 β' a' x := by
                by_cases hhas : hasNew = true
                · refine addNews_ok (w := w) (S := S) (rs := rs) (blks := σ.blks) (β := β) (hasNew := hasNew) (iv := iv) (n := n) (nx := σ.next) (fun i hi => hI.within i (hheads i hi)) (fun i j hi hj hne => hI.apart i j (hheads i hi) (hheads j hj) hne)
                    (fun i d hi hl => by have := hfin d; rw [hl] at this; exact this) hS.ext.size hhas (l := rs) (i := 0) (by simp) (by simpa using hrl) hadd hS1 hsS (hH x hx) (fun _ _ => rfl) (Nat.le_refl _)
                    (fun b hb => .inl (hS.own b hb)) (fun b hb => .inl hb)
                · -- nothing new
                  have hnone : ∀ (l : List HX) (i : Nat) (σ3 : St), (∀ x ∈ l, ∀ ty segs kind, x ≠ .hr (.new ty segs kind)) → addNews ops n σ.next l i σ3 = some σ1 → σ3 = σ1 := by
                    intro l
                    induction l with
                    | nil => intro i σ3 _ h; simp only [addNews] at h; cases h; rfl
                    | cons y l ih =>
                      intro i σ3 hno h
                      cases y with
                      | skip => exact ih _ _ (fun x hx => hno x (by simp [hx])) h
                      | hr q => cases q with
                        | val s => exact ih _ _ (fun x hx => hno x (by simp [hx])) h
                        | call s => exact ih _ _ (fun x hx => hno x (by simp [hx])) h
                        | new ty segs kind => exact absurd rfl (hno _ (by simp) ty segs kind)
                  have e := hnone rs 0 _ (fun y hy ty segs kind e => by
                    subst e
                    obtain ⟨i, hi⟩ := List.getElem?_of_mem hy
                    have hin : i < n := by
                      rcases Nat.lt_or_ge i rs.length with h | h
                      · omega
                      · rw [List.getElem?_eq_none h] at hi; cases hi
                    have ho : ops[i]? = some (ops[i]'(by omega)) := by simp
                    obtain ⟨s1, s2, ob3, hx1, hstep, _, hrs⟩ := hsteps i _ (by omega) hin ho
                    rw [hi] at hrs
                    cases hrs
                    unfold headStep at hstep
                    have hf : hasNew = false := by simpa using hhas
                    simp only [hf, Bool.false_and, Bool.false_eq_true, if_false] at hstep
                    split at hstep <;> try cases hstep
                    split at hstep
                    · split at hstep <;> cases hstep
                    · split at hstep <;> cases hstep
                    · cases hstep
                    · cases hstep) hadd
                  exact ⟨β, e ▸ hS1⟩
              obtain ⟨β', hS2⟩ := hSat
              have hdl : (ops.toList.drop n).length = ops.size - n := by simp
              have := execSeq_ok (Q := Q) hctr (ops := ops) (l := ops.toList.drop n) (i := n) (fun j => by simp [List.getElem?_drop]) htail ho2 hS2 hk
              rw [hdl] at this
              exact this
          · cases h
        · cases h
      · cases h
    · cases h
  · cases h
end
end Go.Eng
