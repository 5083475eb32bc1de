import Derived.Test.YthaabhoopofnhaaGreatE4
import Derived.Laws.Externs
set_option linter.unusedVariables false
set_option linter.unusedSimpArgs false
set_option linter.unusedSectionVars false
namespace Go.Eng
open Go.RowKit
section
variable {P : Program} {ctr : Ctr} {ops : Array Oper} {β : Nat → Nat} {w : World} {w0 : Fr} {S : Own} {a : Act} {σ σ' : St}
theorem guard_look {slots : List (Nat × SV)} {ow : Own} {x : World} {a : Act} {o : Oper} (hs : ∀ d s, d ∈ o.looksAt ops → getS slots d = some s → relV β ow x s (a.tmps.getD d undef)) {q : Bool} (h : guardOf ops slots o = some q) :
    Region.wanted o (yielded ops a.tmps) = q := by
  cases hg : o.guard with
  | none => unfold guardOf at h; simp only [hg] at h; cases h; simp [Region.wanted, hg]
  | some p =>
    obtain ⟨j, want⟩ := p
    cases hd : dstOf ops j with
    | none => unfold guardOf at h; simp [hg, hd] at h
    | some d =>
      cases hb : getS slots d with
      | none => unfold guardOf at h; simp [hg, hd, hb] at h
      | some s =>
        have hl : d ∈ o.looksAt ops := by
          unfold Oper.looksAt
          simp only [hg]
          rw [show (ops[j]?).bind (·.dst) = some d from hd]
          simp
        refine guard_ok (β := β) (ow := ow) (w := x) (slots := [(d, s)]) (fun e t hm => ?_) ?_
        · simp only [List.mem_singleton, Prod.mk.injEq] at hm
          obtain ⟨rfl, rfl⟩ := hm
          exact hs e t hl hb
        · unfold guardOf at h ⊢
          simp only [hg, hd, hb] at h ⊢
          simp only [getS, if_true]
          exact h
theorem lastW_none {ops : Array Oper} {i p : Nat} : ∀ {n : Nat}, i ≤ n → lastW ops n p = none → lastW ops i p = none := by
  intro n
  induction n with
  | zero => intro hi h; obtain rfl : i = 0 := by omega
            exact h
  | succ m ih =>
    intro hi h
    rcases Nat.lt_or_ge i (m + 1) with hl | hl
    · refine ih (by omega) ?_
      simp only [lastW] at h
      split at h
      · cases h
      · exact h
    · obtain rfl : i = m + 1 := by omega
      exact h
theorem addNews_keeps {ops : Array Oper} {n nx : Nat} : ∀ {l : List HX} {i : Nat} {σ σ' : St}, addNews ops n nx l i σ = some σ' → ∀ {p : Nat × Bk}, p ∈ σ.blks → p ∈ σ'.blks := by
  intro l
  induction l with
  | nil => intro i σ σ' h p hp; simp only [addNews] at h; cases h; exact hp
  | cons y l ih =>
    intro i σ σ' h p hp
    cases y with
    | skip => exact ih (by simpa only [addNews] using h) hp
    | hr q => cases q with
      | val s => exact ih (by simpa only [addNews] using h) hp
      | call s => exact ih (by simpa only [addNews] using h) hp
      | new ty segs kind =>
        simp only [addNews] at h
        split at h
        · split at h
          · split at h
            · rename_i σ1 hn
              split at h
              · rename_i σ2 hput
                refine ih h ?_
                have e1 : p ∈ σ1.blks := by unfold newS at hn; split at hn <;> cases hn; exact List.mem_cons_of_mem _ hp
                unfold putS at hput
                split at hput
                · cases hput; exact e1
                · split at hput <;> cases hput; exact e1
              · cases h
            · cases h
          · cases h
        · cases h
theorem pure_yields {ow : Own} {x : World} {a : Act} {H : List (Nat × Bk)} {ρ : Operand → Option SV} (hρ : ∀ y s, ρ y = some s → relV β ow x s (a.eval y)) {o : Oper} (hp : pureOp o = true) {s : SV} {ob : List Prop} (h : evalH P ctr H ρ o = some (.val s, ob)) :
    ∃ v, (∀ w', (execOp a.eval o).run P w' = .ok (.value v) w') ∧ relV β ow x s v := by
  obtain ⟨dst, op, type, pos, after, guard⟩ := o
  unfold pureOp at hp
  simp only at hp
  split at hp <;> try cases hp
  · rename_i y
    unfold evalH at h
    simp only at h
    split at h
    · rename_i s' hs; cases h; exact ⟨a.eval y, fun w' => by simp [execOp], hρ y _ hs⟩
    · cases h
  · rename_i y
    unfold evalH at h
    simp only at h
    split at h
    · rename_i s' hs; cases h; exact ⟨a.eval y, fun w' => by simp [execOp], hρ y _ hs⟩
    · cases h
  · rename_i y n
    unfold evalH at h
    simp only at h
    split at h
    · rename_i l hpl
      split at h
      · rename_i s' hs
        split at h
        · cases h
        · rename_i ht
          cases h
          obtain ⟨vs, he, hvs⟩ := hρ y _ hpl
          have : ∀ (l : List SV) (vs : List Value) (n : Nat), relVs β ow x l vs → l[n]? = some s → ∃ v, vs[n]? = some v ∧ relV1 β ow x s v := by
            intro l
            induction l with
            | nil => intro vs n _ hn; simp at hn
            | cons q l ih =>
              intro vs n hv hn
              obtain ⟨v, t, rfl, h1, h2⟩ := hv
              cases n with
              | zero => simp at hn; subst hn; exact ⟨v, rfl, h1⟩
              | succ n => simp at hn; obtain ⟨u, hu, hr⟩ := ih t n h2 hn; exact ⟨u, by simpa using hu, hr⟩
          obtain ⟨v, hv, hr⟩ := this l vs n hvs hs
          exact ⟨v, fun w' => by simp [execOp, he, Instr.extract, hv], relV_up hr⟩
      · cases h
    · cases h
  · rename_i t parts
    unfold evalH at h
    simp only at h
    split at h
    · rename_i ps hps
      split at h
      · rename_i rr hb
        cases h
        have hpp := partsS_ok hρ hps
        obtain ⟨v, hrun, hv⟩ := buildS_ok (P := P) (qs := parts.map fun p => (p.1, a.eval p.2)) hb (by simpa using hpp)
        exact ⟨v, fun w' => by simp only [execOp, Sem.run_bind, hrun w', Result.andThen_ok, Sem.run_pure], hv⟩
      · cases h
    · cases h
theorem pureR_yields {ow : Own} {x : World} {a : Act} {H : List (Nat × Bk)} {ρ : Operand → Option SV} (hρ : ∀ y s, ρ y = some s → relV β ow x s (a.eval y)) {o : Oper} (hp : pureOp o = true) {s : SV} {ob : List Prop} (h : evalR P ctr H ρ o = some (.val s, ob)) :
    ∃ v, (∀ w', (execOp a.eval o).run P w' = .ok (.value v) w') ∧ relV β ow x s v := by
  unfold evalR at h
  split at h
  · exact pure_yields hρ hp h
  · split at h
    · rename_i r he
      unfold pureOp at hp
      unfold extra2 at he
      split at hp <;> first | (rename_i _ _ _ hop; simp [hop] at he; done) | (rename_i _ _ _ _ hop; simp [hop] at he; done) | cases hp
    · split at h
      · rename_i r he
        unfold pureOp at hp
        unfold extraH at he
        split at hp <;> first | (rename_i _ _ _ hop; simp [hop] at he; done) | (rename_i _ _ _ _ hop; simp [hop] at he; done) | cases hp
      · exact pure_yields (rdρ_ok hρ) hp h
theorem execDraw_ok (hm : P.follows .mixedOrders = true) (hctr : CtrOk P ctr) {id : Nat} {sc sc' : List Bool} {ob : List Prop} (h : execDraw P ctr ops σ sc = some (σ', ob, sc')) (hob : All ob) (hS : Sat w0 S σ β a w)
    {Q : Exit → Act → World → Prop} (hQ : ∀ c a w, ¬ Q (.panic c) a w) (hk : ∀ β' a' w', Sat w0 S σ' β' a' w' → Q .normal a' w') : (Code.region id ops true).wp P Q a w := by
  unfold execDraw at h
  simp only at h
  split at h
  · rename_i hB
    simp only [Bool.and_eq_true] at hB
    split at h
    · rename_i rs ob1 sc1 sl hhead
      split at h
      · rename_i hchk
        simp only [Bool.and_eq_true] at hchk
        obtain ⟨hlateB, hidsB⟩ := hchk
        split at h
        · rename_i σ1 hadd
          split at h
          case isFalse => cases h
          rename_i hLLok
          split at h
          · rename_i σ2 ob2 sc2 htail
            cases h
            obtain ⟨ho1, ho2⟩ := All.append.1 hob
            generalize hn : headLen ops.toList = n at *
            generalize hhn : ops.toList.any isNew = hasNew at *
            have hF := flowOk_of hB.1
            have hle := hF.le
            have hlen : (ops.toList.take n).length = n := by simp; omega
            obtain ⟨hrl, hsl, hsteps⟩ := execHead_steps (nx := σ.next) (rs := rs) (slots0 := σ.slots) (i := 0) (l := ops.toList.take n) (fun j hj => by rw [hlen] at hj; simp [hj]) hhead (fun j _ => by simp) ho1
            simp only [Nat.zero_add, hlen] at hrl hsl hsteps
            have hnt : a.tmps.size = σ.nt := hS.size
            -- what an operation of the head sees
            have hsees : ∀ i o (a' : Act) (x : World) (iv : Nat → Nat × Nat), i < n → ops[i]? = some o → Ext w x → (∀ t ∈ o.looksAt ops, OpdOk (TT rs S σ.blks β hasNew w) a a' x iv (lastW ops i t) t) →
                ∀ d s, d ∈ o.looksAt ops → getS (gam ops rs σ.slots i) d = some s → relV β (owm S σ.blks β hasNew w x) x s (a'.tmps.getD d undef) := by
              intro i o a' x iv hi ho hx hopd d s hd hg
              have := hopd d hd
              rcases gam_mem (by omega) (getS_mem hg) with ⟨hl, hm0⟩ | ⟨j, hj, hl, hr⟩
              · rw [hl] at this
                simp only [OpdOk] at this
                rw [this]
                exact relV_mono owm_start (Keep.of_ext hx) (fun _ _ => rfl) (hS.slot d s hm0)
              · rw [hl] at this
                simp only [OpdOk, TT] at this
                rcases hr with hr | hr | ⟨ty, segs, n', es, hr, rfl⟩
                · simp only [hr] at this; exact this
                · simp only [hr] at this; exact this
                · simp only [hr] at this; exact osz_of this
            have hρ : ∀ i o (a' : Act) (x : World), Ext w x → (∀ d s, d ∈ o.looksAt ops → getS (gam ops rs σ.slots i) d = some s → relV β (owm S σ.blks β hasNew w x) x s (a'.tmps.getD d undef)) →
                ∀ y s, lookR ops o (gam ops rs σ.slots i) y = some s → relV β (owm S σ.blks β hasNew w x) x s (a'.eval y) := by
              intro i o a' x hx hse y s hy
              cases y with
              | tmp t =>
                simp only [lookR] at hy
                split at hy
                · rename_i hc
                  exact hse t s (by simpa using hc) hy
                · cases hy
              | const v =>
                simp only [lookR, lookρ] at hy
                obtain ⟨h1, h2, _, _⟩ := constSV_ok (β := β) (ow := owm S σ.blks β hasNew w x) (w := x) hy
                exact relV_of1 h2 h1
              | global g => simp [lookR, lookρ] at hy
              | func f => simp [lookR, lookρ] at hy
            have hH : ∀ x, Ext w x → HSat β (owm S σ.blks β hasNew w x) x σ.blks := by
              intro x hx
              exact hS.blk.move owm_start (Keep.of_ext hx) (fun _ _ _ => sameB_refl) (fun id bk hm hl => hx.block _ (hS.blk.lt hm hl))
            have hown : ∀ x, Ext w x → ∀ b j, owm S σ.blks β hasNew w x b j → b < x.heap.size := by
              rintro x hx b j (h | ⟨_, _, h⟩)
              · exact Nat.lt_of_lt_of_le (hS.own b j h) hx.size
              · exact h
            generalize hLL : lateLds ops n (lateOf ops n) σ = LL at *
            have hLLm : ∀ i id, (i, id) ∈ LL → ∃ bk, (id, bk) ∈ σ.blks ∧ bk.row = false := by
              intro i id hm
              rw [← hLL] at hm
              obtain ⟨i', _, hf⟩ := List.mem_filterMap.1 hm
              split at hf
              · split at hf
                · rename_i id' hl'
                  cases hf
                  unfold lateLd at hl'
                  split at hl'
                  · split at hl'
                    · split at hl'
                      · split at hl'
                        · rename_i bk hg; cases hl'; exact ⟨bk, getB_both hg⟩
                        · cases hl'
                      · cases hl'
                    · cases hl'
                  · cases hl'
                · cases hf
              · cases hf
            refine flow_regionL (T := TT rs S σ.blks β hasNew w) (G := fun _ => True) (C := CL ops n LL β w) (n := n) (late := lateOf ops n) hm (by rw [hnt]; exact hB.1) hB.2 (fun _ _ _ _ => trivial) TT_mono hQ trivial ?_ ?_ ?_ ?_ ?_
            · intro L x hx i id hmem _
              obtain ⟨bk, hm1, hm2⟩ := hLLm i id hmem
              exact hx.block _ (hS.blk.lt hm1 (live_plain hm2))
            · intro L L' x hLs hC i id hmem hnot
              exact hC i id hmem fun s hs hw => by rw [hLs s hs]; exact hnot s hs hw
            · -- a step
              intro i o hi hlate ho a' x iv _ hx hopd K hK
              obtain ⟨s1, s2, ob3, hx1, hstep, hob3, hrs⟩ := hsteps i o (by omega) hi ho
              have hse := hsees i o a' x iv hi ho hx hopd
              unfold headStep at hstep
              unfold wpOp
              simp only [ho]
              split at hstep
              · cases hstep
              · rename_i hg
                cases hstep
                rw [guard_look hse hg]
                simp only [Bool.false_eq_true, if_false]
                exact hK undef x (Ext.refl x) (by unfold TT; simp only [hrs]; exact ⟨[], rfl, rfl⟩)
              · rename_i hg
                rw [guard_look hse hg]
                simp only [if_true]
                refine .inl ?_
                split at hstep
                · rename_i s obs hev
                  split at hstep
                  · rename_i s' ob4 sc4 hres
                    cases hstep
                    obtain ⟨q1, q2⟩ := All.append.1 hob3
                    refine evalD_ok hctr hev q1 (hρ i o a' x hx hse) (hH x hx) (hown x hx) fun v w' hxx hv => hK v w' hxx ?_
                    obtain ⟨rfl, hv⟩ := hv
                    unfold TT
                    simp only [hrs]
                    exact resolveB_ok hres q2 hv
                  · cases hstep
                · rename_i s obs hev
                  split at hstep
                  · cases hstep
                  · rename_i hnn
                    split at hstep
                    · rename_i s' ob4 sc4 hres
                      cases hstep
                      obtain ⟨q1, q2⟩ := All.append.1 hob3
                      refine evalD_ok hctr hev q1 (hρ i o a' x hx hse) (hH x hx) (hown x hx) fun v w' hxx hv => hK v w' hxx ?_
                      obtain ⟨_, hv⟩ := hv
                      unfold TT
                      simp only [hrs]
                      refine resolveB_ok hres q2 ?_
                      cases hhas : hasNew with
                      | true =>
                        have hno : s.noSl = true := by simpa [hhas] using hnn
                        exact relV_noSl _ _ hno (fun _ _ => rfl) hv
                      | false =>
                        subst hhas
                        exact relV_mono (fun _ _ _ h => h.elim .inl fun h => by cases h.1) (Keep.refl _ _) (fun _ _ => rfl) hv
                    · cases hstep
                · rename_i ty segs kind obs hev
                  split at hstep
                  · cases hstep
                    refine evalD_ok hctr hev hob3 (hρ i o a' x hx hse) (hH x hx) (hown x hx) fun v w' hxx hv => hK v w' hxx ?_
                    obtain ⟨cs, hr, rfl, hv⟩ := hv
                    unfold TT
                    simp only [hrs]
                    refine ⟨x.heap.size, cs, Nat.le_refl _, by simp, rels_mono owm_mono (Keep.of_ext hxx) _ _ (fun _ _ => rfl) hr, by show (x.heap.push _)[x.heap.size]? = _; simp, hv⟩
                  · cases hstep
                · split at hstep
                  · rename_i s obs hec
                    split at hstep
                    · rename_i s' ob4 sc4 hres
                      cases hstep
                      obtain ⟨q1, q2⟩ := All.append.1 hob3
                      refine evalC_ok hctr hec q1 (hρ i o a' x hx hse) ?_ (hH x hx) (hown x hx) fun v w' hxx hv => hK v w' hxx ?_
                      · intro t j ty segs n' es ht hl hp
                        have := hopd t ht
                        rw [hl] at this
                        have hj : rs[j]? = some (.hr (.new ty segs (some (n', es)))) := by
                          rw [List.getElem?_take] at hp
                          split at hp
                          · exact hp
                          · cases hp
                        simp only [OpdOk, TT, hj] at this
                        obtain ⟨g, cs, _, _, h3, h4, h5⟩ := this
                        exact ⟨g, cs, h3, h4, h5⟩
                      · have hno : s.noSl = true := by
                          unfold evalC at hec
                          split at hec
                          · split at hec
                            · split at hec
                              · split at hec
                                · rename_i hc
                                  simp only [Option.some.injEq, Prod.mk.injEq] at hec
                                  obtain ⟨rfl, rfl⟩ := hec
                                  simp only [Bool.and_eq_true] at hc
                                  exact hc.1
                                · cases hec
                              · cases hec
                            · cases hec
                          · cases hec
                        unfold TT
                        simp only [hrs]
                        exact resolveB_ok hres q2 (relV_noSl _ _ hno (fun _ _ => rfl) hv)
                    · cases hstep
                  · cases hstep
            · -- late
              intro i o hi hlate ho a' x iv _ hx hopd
              obtain ⟨s1, s2, ob3, hx1, hstep, hob3, hrs⟩ := hsteps i o (by omega) hi ho
              have hse := hsees i o a' x iv hi ho hx hopd
              have hcheck := List.all_eq_true.1 hlateB i (by simpa using hi)
              simp only [hlate, Bool.not_true, Bool.false_or, ho, hrs, Bool.and_eq_true, Bool.or_eq_true] at hcheck
              obtain ⟨hkind, hval⟩ := hcheck
              by_cases hpure : pureOp o = true
              · have hgn : o.guard = none := by
                  unfold pureOp at hpure
                  split at hpure <;> first | assumption | cases hpure
                have hwant : ∀ (t : Nat → Option Bool), Region.wanted o t = true := fun t => by simp [Region.wanted, hgn]
                unfold headStep at hstep
                have hg1 : guardOf ops (gam ops rs σ.slots i) o = some true := by unfold guardOf; simp [hgn]
                simp only [hg1] at hstep
                rw [evalD_eq (fun t' x' i' hop' => by unfold pureOp at hpure; rw [hop'] at hpure; revert hpure; cases o.guard <;> simp)] at hstep
                split at hstep
                · rename_i s obs hev
                  split at hstep
                  · rename_i s' ob4 sc4 hres
                    cases hstep
                    obtain ⟨q1, q2⟩ := All.append.1 hob3
                    obtain ⟨v, hrun, hv⟩ := pureR_yields (hρ i o a' x hx hse) hpure hev
                    refine ⟨v, fun _ => True, .inl ⟨hwant _, fun w' _ => hrun w'⟩, fun lo => ?_, fun _ _ _ _ => trivial⟩
                    unfold TT
                    simp only [hrs]
                    exact resolveB_ok hres q2 hv
                  · cases hstep
                · split at hstep
                  · cases hstep
                  · split at hstep
                    · cases hstep; cases hval
                    · cases hstep
                · split at hstep
                  · cases hstep; cases hval
                  · cases hstep
                · split at hstep
                  · split at hstep
                    · cases hstep; cases hval
                    · cases hstep
                  · cases hstep
              · -- a load
                have hld : (lateLd ops n σ i).isSome = true := hkind.resolve_left (by simpa using hpure)
                obtain ⟨id, hid⟩ := Option.isSome_iff_exists.1 hld
                have hmemLL : (i, id) ∈ LL := by
                  rw [← hLL]
                  exact List.mem_filterMap.2 ⟨i, by simpa using hi, by simp [hlate, hid]⟩
                unfold lateLd at hid
                simp only [ho] at hid
                split at hid
                · rename_i t p hgn hop
                  split at hid
                  · rename_i id' off' ix' hlw hgs
                    split at hid
                    · rename_i bk0 hgb0
                      cases hid
                      -- the pointer is as it was
                      have hlooks : p ∈ o.looksAt ops := by simp [Oper.looksAt, hop, Op.operands]
                      have hlw' : lastW ops i p = none := lastW_none (Nat.le_of_lt hi) hlw
                      have hpt := hopd p hlooks
                      rw [hlw'] at hpt
                      simp only [OpdOk] at hpt
                      have hptr := relV_scalar rfl rfl (hS.slot p _ (getS_mem hgs))
                      simp only [rel, List.cons.injEq, and_true] at hptr
                      rw [← hpt] at hptr
                      have hwant : ∀ (t : Nat → Option Bool), Region.wanted o t = true := fun t => by simp [Region.wanted, hgn]
                      unfold headStep at hstep
                      have hg1 : guardOf ops (gam ops rs σ.slots i) o = some true := by unfold guardOf; simp [hgn]
                      simp only [hg1] at hstep
                      have hevR : evalR P ctr σ.blks (lookR ops o (gam ops rs σ.slots i)) o = evalH P ctr σ.blks (rdρ (lookR ops o (gam ops rs σ.slots i))) o := by
                        unfold evalR
                        simp [movesOp, extra2, extraH, hop]
                      rw [evalD_eq (fun t' x' i' hop' => by rw [hop] at hop'; cases hop'), hevR] at hstep
                      have hρ2 := rdρ_ok (hρ i o a' x hx hse)
                      split at hstep
                      · rename_i s obs hev
                        split at hstep
                        · rename_i s' ob4 sc4 hres
                          cases hstep
                          obtain ⟨q1, q2⟩ := All.append.1 hob3
                          unfold evalH at hev
                          simp only [hop] at hev
                          split at hev
                          · rename_i id2 off ix agg size hp ha hs
                            split at hev
                            · rename_i bk hg
                              split at hev
                              · rename_i rr ob' hb
                                cases hev
                                have h1 := relV_scalar rfl rfl (hρ2 _ _ hp)
                                simp only [rel, List.cons.injEq, and_true] at h1
                                have h2 : a'.eval (.tmp p) = a'.tmps.getD p undef := rfl
                                rw [h2, hptr] at h1
                                simp only [Value.pointer.injEq, Option.some.injEq, Addr.mk.injEq] at h1
                                obtain ⟨hβ, hoff, _⟩ := h1
                                obtain ⟨cs, hr, hbk⟩ := getB_sat (hH x hx) hg
                                obtain ⟨v, hrun, hv⟩ := loadB_all (P := P) hb q1 ha hs (g := β id2) hr
                                refine ⟨v, fun w' => w'.heap[β id]? = w.heap[β id]?, .inl ⟨hwant _, fun w' hw' => ?_⟩, fun lo => ?_, fun L w' hC hnot => hC i id hmemLL hnot⟩
                                · have hlt := hS.blk.lt (getB_both hgb0).1 (live_plain (getB_both hgb0).2)
                                  have hb' : w'.heap[β id2]? = some (.cells cs.toArray bk.ty (0, 0)) := by
                                    rw [← hβ, hw', ← hx.block _ hlt, hβ]; exact hbk
                                  have := hrun w' hb'
                                  unfold execOp
                                  rw [hop]
                                  simp only [Sem.run_bind, h2, hptr, hβ, hoff, this, Result.andThen_ok, Sem.run_pure]
                                · unfold TT
                                  simp only [hrs]
                                  exact resolveB_ok hres q2 hv
                              · cases hev
                            · cases hev
                          · rename_i s agg size hp ha hs
                            exfalso
                            have h1 := relV_scalar rfl rfl (hρ2 _ _ hp)
                            simp only [rel] at h1
                            obtain ⟨ad, vs, e1, hsp, hno, hr, hne, hcell⟩ := h1
                            have h2 : a'.eval (.tmp p) = a'.tmps.getD p undef := rfl
                            rw [h2, hptr] at e1
                            simp only [List.cons.injEq, and_true, Value.pointer.injEq, Option.some.injEq] at e1
                            have hpos : 0 < vs.length := List.length_pos_iff.2 hne
                            refine hno 0 hpos (.inl (.inr ⟨id, bk0, (getB_both hgb0).1, ?_, fun e => ?_⟩))
                            · rw [← e1]
                            · rw [(getB_both hgb0).2] at e; cases e
                          · cases hev
                        · cases hstep
                      · split at hstep
                        · cases hstep
                        · split at hstep
                          · cases hstep; cases hval
                          · cases hstep
                      · split at hstep
                        · cases hstep; cases hval
                        · cases hstep
                      · split at hstep
                        · split at hstep
                          · cases hstep; cases hval
                          · cases hstep
                        · cases hstep
                    · cases hid
                  · cases hid
                · cases hid
            · -- the tail
              intro a' x iv hI
              have hfin : ∀ t, OpdOk (TT rs S σ.blks β hasNew w) a a' x iv (lastW ops n t) t := fun t => hI.final (heads_all hle) t
              have hx := hI.ext
              have hsS : ∀ d s, (d, s) ∈ sl → relV β (owm S σ.blks β hasNew w x) x s (a'.tmps.getD d undef) := by
                intro d s hmem
                rw [hsl] at hmem
                have := hfin d
                rcases gam_mem (by omega) hmem with ⟨hl, hm0⟩ | ⟨j, hj, hl, hr⟩
                · rw [hl] at this
                  simp only [OpdOk] at this
                  rw [this]
                  exact relV_mono owm_start (Keep.of_ext hx) (fun _ _ => rfl) (hS.slot d s hm0)
                · rw [hl] at this
                  simp only [OpdOk, TT] at this
                  rcases hr with hr | hr | ⟨ty, segs, n', es, hr, rfl⟩
                  · simp only [hr] at this; exact this
                  · simp only [hr] at this; exact this
                  · simp only [hr] at this; exact osz_of this
              have hidsl : ∀ d s, (d, s) ∈ sl → ∀ id ∈ s.ids, id < σ.next := by
                clear hsS hsl hadd hhead
                intro d s hmem
                induction sl with
                | nil => cases hmem
                | cons p r ih =>
                  simp only [idsOk, Bool.and_eq_true] at hidsB
                  rcases List.mem_cons.1 hmem with e | hmem
                  · subst e
                    intro id hi
                    have := List.all_eq_true.1 hidsB.1 id hi
                    simpa using this
                  · exact ih hidsB.2 hmem
              have hS1 : Sat w0 S { σ with slots := sl } β a' x := by
                refine ⟨by rw [hI.defs]; exact hS.defs, by rw [hI.tmps]; exact hS.size, fun d s hmem => relV_mono (fun _ _ _ h => .inl h) (Keep.refl _ _) (fun _ _ => rfl) (hsS d s hmem), (hH x hx).move (fun _ _ _ h => .inl h) (Keep.refl _ _) (fun _ _ _ => sameB_refl) (fun _ _ _ _ => rfl), hS.low, hS.inj, hS.uniq, hidsl, hS.bndB, hS.ext.then hx, hS.lowS, hS.pins⟩
              have hheads := heads_all (ops := ops) hle
              have hSat : ∃ β', Sat w0 S σ1 β' a' x ∧ ∀ id, id < σ.next → β' id = β id := by
                by_cases hhas : hasNew = true
                · refine addNews_ok (w := w) (S := S) (rs := rs) (blks := σ.blks) (β := β) (hasNew := hasNew) (iv := iv) (n := n) (nx := σ.next) (fun i hi => hI.within i (hheads i hi)) (fun i j hi hj hne => hI.apart i j (hheads i hi) (hheads j hj) hne)
                    (fun i d hi hl => by have := hfin d; rw [hl] at this; exact this) hS.ext.size hhas (l := rs) (i := 0) (by simp) (by simpa using hrl) hadd hS1 hsS (hH x hx) (fun _ _ => rfl) (Nat.le_refl _)
                    (fun b c hb => .inl (hS.own b c hb)) (fun b c hb => .inl hb)
                · -- nothing new
                  have hnone : ∀ (l : List HX) (i : Nat) (σ3 : St), (∀ x ∈ l, ∀ ty segs kind, x ≠ .hr (.new ty segs kind)) → addNews ops n σ.next l i σ3 = some σ1 → σ3 = σ1 := by
                    intro l
                    induction l with
                    | nil => intro i σ3 _ h; simp only [addNews] at h; cases h; rfl
                    | cons y l ih =>
                      intro i σ3 hno h
                      cases y with
                      | skip => exact ih _ _ (fun x hx => hno x (by simp [hx])) h
                      | hr q => cases q with
                        | val s => exact ih _ _ (fun x hx => hno x (by simp [hx])) h
                        | call s => exact ih _ _ (fun x hx => hno x (by simp [hx])) h
                        | new ty segs kind => exact absurd rfl (hno _ (by simp) ty segs kind)
                  have e := hnone rs 0 _ (fun y hy ty segs kind e => by
                    subst e
                    obtain ⟨i, hi⟩ := List.getElem?_of_mem hy
                    have hin : i < n := by
                      rcases Nat.lt_or_ge i rs.length with h | h
                      · omega
                      · rw [List.getElem?_eq_none h] at hi; cases hi
                    have ho : ops[i]? = some (ops[i]'(by omega)) := by simp
                    obtain ⟨s1, s2, ob3, hx1, hstep, _, hrs⟩ := hsteps i _ (by omega) hin ho
                    rw [hi] at hrs
                    cases hrs
                    unfold headStep at hstep
                    have hf : hasNew = false := by simpa using hhas
                    simp only [hf, Bool.false_and, Bool.false_eq_true, if_false] at hstep
                    split at hstep <;> try cases hstep
                    split at hstep
                    · split at hstep <;> cases hstep
                    · split at hstep <;> cases hstep
                    · cases hstep
                    · split at hstep
                      · split at hstep
                        · cases hstep
                        · cases hstep
                      · cases hstep) hadd
                  exact ⟨β, e ▸ hS1, fun _ _ => rfl⟩
              obtain ⟨β', hS2, hβ'⟩ := hSat
              have hdl : (ops.toList.drop n).length = ops.size - n := by simp
              by_cases hE : LL = []
              · have := execSeq_ok (Q := Q) hctr (ops := ops) (l := ops.toList.drop n) (i := n) (fun j => by simp [List.getElem?_drop]) htail ho2 hS2 hk
                rw [hdl] at this
                exact wpTail_of_ops (fun L y i id hm => by rw [hE] at hm; cases hm) _ _ _ _ this
              · have htk : tailOk ops σ1.slots LL (ops.toList.drop n) n = true := by
                  simp only [Bool.or_eq_true, List.isEmpty_iff] at hLLok
                  exact hLLok.resolve_left hE
                have hkeep : ∀ i id, (i, id) ∈ LL → β id = β' id ∧ ∃ bk, (id, bk) ∈ σ1.blks ∧ bk.row = false := by
                  intro i id hm
                  obtain ⟨bk, m1, m2⟩ := hLLm i id hm
                  exact ⟨(hβ' id (hS.bndB id bk m1).1).symm, bk, addNews_keeps hadd m1, m2⟩
                have hC0 : CL ops n LL β w (heads ops n) x := fun i id hm _ => by
                  obtain ⟨bk, m1, m2⟩ := hLLm i id hm
                  exact hx.block _ (hS.blk.lt m1 (live_plain m2))
                have := tailL_ok (Q := Q) (n := n) (LL := LL) (w₀ := w) (βc := β) hctr (ops := ops) (l := ops.toList.drop n) (k := n) (fun j => by simp [List.getElem?_drop]) (by simp; omega) htail ho2 hS2 (Nat.le_refl _) htk hkeep hC0 hk
                rw [hdl] at this
                exact this
          · cases h
        · cases h
      · cases h
    · cases h
  · cases h
end
end Go.Eng

namespace Go.Eng
open Go.RowKit
def slicePtr (slots : List (Nat × SV)) (o : Oper) : Bool :=
  match o.guard, o.op with
  | none, .slice _ x none none none => match lookρ slots x with | some (.ptr _ _ _) => true | _ => false
  | _, _ => false
def sliceSl (slots : List (Nat × SV)) (o : Oper) : Bool :=
  match o.guard, o.op with
  | none, .slice _ x _ _ none => match rdρ (lookρ slots) x with | some s => s.slen.isSome | none => false
  | _, _ => false
def numOp (slots : List (Nat × SV)) (o : Oper) : Bool :=
  match o.guard, o.op with
  | none, .binOp _ _ x y _ => match rdρ (lookρ slots) x, rdρ (lookρ slots) y with | some a, some b => a.int?.isSome && b.int?.isSome | _, _ => false
  | _, _ => false
def SV.rigid : SV → Bool
  | .c .. => true
  | .i .. => true
  | .u .. => true
  | .cb _ => true
  | .b _ => true
  | _ => false
def pureStep (P : Program) (ctr : Ctr) (ops : Array Oper) (σ : St) (i : Nat) (o : Oper) (sc : List Bool) : Option (St × List Prop × List Bool) :=
  match guardOf ops σ.slots o with
  | none => none
  | some false => match putS σ o.dst (.tup []) with | some σ' => some (σ', [], sc) | none => none
  | some true => match evalR P ctr σ.blks (lookρ σ.slots) o with
      | some (.val s, ob) => if pureOp o || slicePtr σ.slots o || sliceSl σ.slots o || (numOp σ.slots o && s.rigid) then
          match resolveB (isGuard ops i) s sc with
          | some (s', ob2, sc') => match putS σ o.dst s' with | some σ' => some (σ', ob ++ ob2, sc') | none => none
          | none => none
        else none
      | _ => none
def firstPure (P : Program) (ctr : Ctr) (ops : Array Oper) (L : Array Bool) (σ : St) (sc : List Bool) : List Nat → Option (Nat × St × List Prop × List Bool)
  | [] => none
  | i :: r => if Region.free .any ops L i then (match ops[i]? with
      | some o => match pureStep P ctr ops σ i o sc with
        | some (σ', ob, sc') => some (i, σ', ob, sc')
        | none => firstPure P ctr ops L σ sc r
      | none => none) else firstPure P ctr ops L σ sc r
def execPF (P : Program) (ctr : Ctr) (ops : Array Oper) : Nat → Array Bool → St → List Bool → Option (St × List Prop × List Bool)
  | 0, _, _, _ => none
  | f + 1, L, σ, sc => match Region.ready .any ops L with
    | [] => some (σ, [], sc)
    | r => match firstPure P ctr ops L σ sc r with
      | some (i, σ1, ob1, sc1) => match execPF P ctr ops f (L.setIfInBounds i true) σ1 sc1 with
        | some (σ2, ob2, sc2) => some (σ2, ob1 ++ ob2, sc2)
        | none => none
      | none => match r with
        | [i] => match ops[i]? with
          | some o => match stepOp P ctr ops σ i o sc with
            | some (σ1, ob1, sc1) => match execPF P ctr ops f (L.setIfInBounds i true) σ1 sc1 with
              | some (σ2, ob2, sc2) => some (σ2, ob1 ++ ob2, sc2)
              | none => none
            | none => none
          | none => none
        | _ => none
def drawPF (P : Program) (ctr : Ctr) (ops : Array Oper) (σ : St) (sc : List Bool) : Option (St × List Prop × List Bool) :=
  if Region.noSelect ops then execPF P ctr ops (ops.size + 1) (Array.replicate ops.size false) σ sc else none
section
variable {P : Program} {ctr : Ctr} {w0 : Fr} {w : World} {S : Own} {σ σ' : St} {β : Nat → Nat} {a : Act} {ops : Array Oper}
theorem firstPure_ok : ∀ {r : List Nat} {L : Array Bool} {sc sc' : List Bool} {i : Nat} {ob : List Prop}, firstPure P ctr ops L σ sc r = some (i, σ', ob, sc') → i ∈ r ∧ Region.free .any ops L i = true ∧ ∃ o, ops[i]? = some o ∧ pureStep P ctr ops σ i o sc = some (σ', ob, sc') := by
  intro r
  induction r with
  | nil => intro L sc sc' i ob h; simp [firstPure] at h
  | cons j r ih =>
    intro L sc sc' i ob h
    simp only [firstPure] at h
    split at h
    · rename_i hf
      split at h
      · rename_i o ho
        split at h
        · rename_i hp; cases h; exact ⟨by simp, hf, o, ho, hp⟩
        · obtain ⟨h1, h2⟩ := ih h; exact ⟨List.mem_cons_of_mem _ h1, h2⟩
      · cases h
    · obtain ⟨h1, h2⟩ := ih h; exact ⟨List.mem_cons_of_mem _ h1, h2⟩
theorem slice_yields {ow : Own} {x : World} {slots : List (Nat × SV)} {H : List (Nat × Bk)} (hρ : ∀ y s, lookρ slots y = some s → relV β ow x s (a.eval y)) {o : Oper} (hp : slicePtr slots o = true) {s : SV} {ob : List Prop} (h : evalR P ctr H (lookρ slots) o = some (.val s, ob)) :
    ∃ v, (∀ w', (execOp a.eval o).run P w' = .ok (.value v) w') ∧ relV β ow x s v := by
  obtain ⟨dst, op, type, pos, after, guard⟩ := o
  unfold slicePtr at hp
  simp only at hp
  split at hp
  · rename_i t y
    split at hp
    · rename_i id off ix hl
      have hr : rdρ (lookρ slots) y = some (.ptr id off ix) := by simp [rdρ, hl, SV.rd]
      unfold evalR at h
      simp only [movesOp, Bool.false_eq_true, if_false] at h
      have hx : extraH P (rdρ (lookρ slots)) ⟨dst, .slice t y none none none, type, pos, after, none⟩ = none := by
        unfold extraH
        simp only [hr]
        split
        · rename_i e s' hu hs
          cases hs
          simp [SV.slen]
        · rename_i hs; cases hs
        · rfl
      have hx2 : extra2 P (rdρ (lookρ slots)) ⟨dst, .slice t y none none none, type, pos, after, none⟩ = none := rfl
      rw [hx2] at h
      simp only at h
      rw [hx] at h
      simp only at h
      unfold evalH at h
      simp only [hr] at h
      split at h
      · rename_i r' hb
        cases h
        unfold sliceAllS at hb
        split at hb
        · rename_i n e id' hu hpp
          cases hpp
          split at hb
          · rename_i bk es hg hs
            split at hb
            · rename_i hc
              cases hb
              have h1 := relV_scalar rfl rfl (hρ y _ hl)
              simp only [rel, List.cons.injEq, and_true] at h1
              refine ⟨.slice (some ⟨β id, 0, none⟩) n n, fun w' => ?_, relV_of1 rfl (by simp only [rel])⟩
              simp only [execOp, Option.map_none, Sem.run_bind, h1, Instr.sliceAt, run_underlying hu, Result.andThen_ok, Instr.sureAddr, Sem.run_pure, Instr.sliceBounds, sizeOf_run hs]
              simp [hc.2, Ix.n, add_plain]
            · cases hb
          · cases hb
        · cases hb
      · cases h
    · cases hp
  · cases hp
theorem rigid_relV {ow ow' : Own} {x x' : World} {s : SV} (hs : s.rigid = true) {v : Value} (h : relV β ow x s v) : relV β ow' x' s v ∧ ∀ v', relV β ow' x' s v' → v' = v := by
  have hn : s.noSl = true := by cases s <;> first | rfl | (simp [SV.rigid] at hs)
  have hi : s.ids = [] := by cases s <;> first | rfl | (simp [SV.rigid] at hs)
  refine ⟨relV_noSl ow' x' hn (fun _ _ => rfl) h, fun v' h' => ?_⟩
  have ht : s.isTup = false ∧ s.isAgg = false := by cases s <;> first | exact ⟨rfl, rfl⟩ | (simp [SV.rigid] at hs)
  have h1 := relV_scalar ht.1 ht.2 h
  have h2 := relV_scalar ht.1 ht.2 h'
  cases s <;> simp [SV.rigid] at hs <;> simp only [rel, List.cons.injEq, and_true] at h1 h2 <;> simp_all
theorem num_yields {ow : Own} {x : World} {slots : List (Nat × SV)} {H : List (Nat × Bk)} (hρ : ∀ y s, lookρ slots y = some s → relV β ow x s (a.eval y)) {o : Oper} (hp : numOp slots o = true) {s : SV} {ob : List Prop} (hs : s.rigid = true) (h : evalR P ctr H (lookρ slots) o = some (.val s, ob)) (hob : All ob) :
    ∃ v, (∀ w', (execOp a.eval o).run P w' = .ok (.value v) w') ∧ relV β ow x s v := by
  obtain ⟨dst, op, type, pos, after, guard⟩ := o
  unfold numOp at hp
  simp only at hp
  split at hp
  · rename_i bop t y z yt
    split at hp
    · rename_i p q hy hz
      simp only [Bool.and_eq_true] at hp
      obtain ⟨hp1, hp2⟩ := hp
      have hr := rdρ_ok hρ
      unfold evalR at h
      simp only [movesOp, Bool.false_eq_true, if_false] at h
      have hx2 : extra2 P (rdρ (lookρ slots)) ⟨dst, .binOp bop t y z yt, type, pos, after, none⟩ = none := by
        simp only [extra2, hy, hz]
        cases p <;> first | (simp [SV.int?] at hp1; done) | (cases q <;> first | (simp [SV.int?] at hp2; done) | (simp [cmpNil, SV.slen]; done) | rfl)
      have hx : extraH P (rdρ (lookρ slots)) ⟨dst, .binOp bop t y z yt, type, pos, after, none⟩ = none := rfl
      rw [hx2] at h
      simp only at h
      rw [hx] at h
      simp only at h
      unfold evalH at h
      simp only [hy, hz] at h
      split at h
      · rename_i r' ob' hb
        cases h
        have rig : ∀ {u : SV}, u.int?.isSome = true → u.rigid = true := by
          intro u hu
          cases u <;> simp [SV.int?] at hu <;> rfl
        obtain ⟨v, hrun, hv⟩ := binV_ok (P := P) hb hob y z (hr y p hy) (hr z q hz)
        refine ⟨v, fun w' => ?_, hv⟩
        obtain ⟨v', hrun', hv'⟩ := binV_ok (P := P) (w := w') (ow := ow) hb hob y z (rigid_relV (rig hp1) (hr y p hy)).1 (rigid_relV (rig hp2) (hr z q hz)).1
        have := (rigid_relV hs hv).2 v' hv'
        subst this
        simp only [Sem.run_bind] at hrun'
        simp only [execOp, Sem.run_bind]
        cases hg : (eqGuard bop t y z (a.eval y) (a.eval z)).run P w' with
        | halt q w1 => rw [hg] at hrun'; simp at hrun'
        | ok u w1 =>
          rw [hg] at hrun'
          simp only [Result.andThen_ok] at hrun' ⊢
          rw [hrun']
          simp
      · cases h
    · cases hp
  · cases hp
theorem sliceSl_yields {ow : Own} {x : World} {slots : List (Nat × SV)} {H : List (Nat × Bk)} (hρ : ∀ y s, lookρ slots y = some s → relV β ow x s (a.eval y)) {o : Oper} (hp : sliceSl slots o = true) {s : SV} {ob : List Prop} (h : evalR P ctr H (lookρ slots) o = some (.val s, ob)) (hob : All ob) :
    ∃ v, (∀ w', (execOp a.eval o).run P w' = .ok (.value v) w') ∧ relV β ow x s v := by
  obtain ⟨dst, op, type, pos, after, guard⟩ := o
  unfold sliceSl at hp
  simp only at hp
  split at hp
  · rename_i t y lo hi
    split at hp
    · rename_i p hy
      obtain ⟨n, hn⟩ := Option.isSome_iff_exists.1 hp
      have hr := rdρ_ok hρ
      have hbd := @hr
      unfold evalR at h
      simp only [movesOp, Bool.false_eq_true, if_false] at h
      have hx2 : extra2 P (rdρ (lookρ slots)) ⟨dst, .slice t y lo hi none, type, pos, after, none⟩ = none := rfl
      rw [hx2] at h
      simp only at h
      cases he : extraH P (rdρ (lookρ slots)) ⟨dst, .slice t y lo hi none, type, pos, after, none⟩ with
      | none =>
        exfalso
        rw [he] at h
        simp only at h
        unfold evalH at h
        cases lo <;> cases hi <;> simp only [hy, reduceCtorEq] at h
        split at h
        · rename_i hb
          unfold sliceAllS at hb
          split at hb
          · simp [SV.slen] at hn
          · cases hb
        · cases h
      | some r =>
        rw [he] at h
        simp only [Option.some.injEq] at h
        subst h
        unfold extraH at he
        simp only [hy] at he
        split at he
        · rename_i e s' hu hs'
          cases hs'
          split at he
          · rename_i m hsl hsz
            split at he
            · rename_i l ob1 hh ob2 hb1 hb2
              split at he
              · rename_i r' hsub
                cases he
                obtain ⟨ho12, ho3⟩ := All.append.1 hob
                obtain ⟨ho1, ho2⟩ := All.append.1 ho12
                have hle : l ≤ hh := ho3.1
                have hhn : hh ≤ m := ho3.2.1
                have e1 := bndS_ok hr hb1 ho1
                have e2 := bndS_ok hr hb2 ho2
                have key : ∀ {cs : List Value}, ReadsAs ow x (a.eval y) cs → cs.length = m → ∃ v, (∀ w', (execOp a.eval ⟨dst, .slice t y lo hi none, type, pos, after, none⟩).run P w' = .ok (.value v) w') ∧ ReadsAs ow x v ((cs.take hh).drop l) := by
                  intro cs hrd hcl
                  obtain ⟨A, c, hv, hc, _, _⟩ := readsAs_cells hrd
                  rw [hcl] at hv hc
                  rw [hv] at hrd
                  refine ⟨_, fun w' => ?_, reads_sub hrd hle (by omega)⟩
                  simp only [execOp, Sem.run_bind, hv, Option.map_none, slice_run (P := P) (w := w') (A := A) (c := c) hu hsz e1 e2 hle (by omega), Result.andThen_ok, Sem.run_pure]
                cases p <;> simp only [SV.slen] at hsl <;> try cases hsl
                · rename_i k x'
                  simp only [subSl] at hsub
                  cases hsub
                  have h1 := relV_scalar rfl rfl (hr y _ hy)
                  simp only [rel, List.cons.injEq, and_true] at h1
                  obtain ⟨⟨v, e3, hrd⟩, hl⟩ := h1
                  subst e3
                  obtain ⟨u, hrun, hru⟩ := key hrd (by simp [ints])
                  refine ⟨u, hrun, relV_of1 rfl ?_⟩
                  simp only [rel]
                  refine ⟨⟨u, rfl, ?_⟩, fun m hm => hl m (List.mem_of_mem_take (List.mem_of_mem_drop hm))⟩
                  simpa [ints] using hru
                · rename_i x'
                  simp only [subSl] at hsub
                  cases hsub
                  have h1 := relV_scalar rfl rfl (hr y _ hy)
                  simp only [rel, List.cons.injEq, and_true] at h1
                  obtain ⟨⟨v, e3, hrd⟩, hl⟩ := h1
                  subst e3
                  obtain ⟨u, hrun, hru⟩ := key hrd (by simp)
                  refine ⟨u, hrun, relV_of1 rfl ?_⟩
                  simp only [rel]
                  refine ⟨⟨u, rfl, ?_⟩, fun m hm => hl m (List.mem_of_mem_take (List.mem_of_mem_drop hm))⟩
                  simpa using hru
              · cases he
            · cases he
          · cases he
        · rename_i hs'
          cases hs'
          simp [SV.slen] at hn
        · cases he
    · cases hp
  · cases hp
theorem pureStep_ok {i : Nat} {o : Oper} {sc sc' : List Bool} {ob : List Prop} (h : pureStep P ctr ops σ i o sc = some (σ', ob, sc')) (hob : All ob) (hS : Sat w0 S σ β a w) :
    ∃ v, Yields P ops o v a ∧ Sat w0 S σ' β (a.put o.dst v) w := by
  unfold pureStep at h
  split at h
  · cases h
  · rename_i hg
    split at h
    · rename_i σ1 hput
      cases h
      exact ⟨undef, .inr ⟨guard_ok hS.slot hg, rfl⟩, hS.put hput ⟨[], rfl, rfl⟩⟩
    · cases h
  · rename_i hg
    split at h
    · rename_i s ob1 hev
      split at h
      · rename_i hp
        split at h
        · rename_i s' ob2 sc1 hres
          split at h
          · rename_i σ1 hput
            cases h
            obtain ⟨ho1, ho2⟩ := All.append.1 hob
            have key : ∃ v, (∀ w', (execOp a.eval o).run P w' = .ok (.value v) w') ∧ relV β (owS S σ.blks β) w s v := by
              simp only [Bool.or_eq_true, Bool.and_eq_true] at hp
              rcases hp with ((hp | hp) | hp) | hp
              · exact pureR_yields (fun y s hy => hS.look hy) hp hev
              · exact slice_yields (fun y s hy => hS.look hy) hp hev
              · exact sliceSl_yields (fun y s hy => hS.look hy) hp hev ho1
              · exact num_yields (fun y s hy => hS.look hy) hp.1 hp.2 hev ho1
            obtain ⟨v, h1, h2⟩ := key
            exact ⟨v, .inl ⟨guard_ok hS.slot hg, h1⟩, hS.put hput (resolveB_ok hres ho2 h2)⟩
          · cases h
        · cases h
      · cases h
    · cases h
theorem execPF_ok (hctr : CtrOk P ctr) (hs : Region.noSelect ops = true) {Q : Exit → Act → World → Prop} (hQ : ∀ c a w, ¬ Q (.panic c) a w) : ∀ {f : Nat} {L : Array Bool} {σ σ' : St} {sc sc' : List Bool} {ob : List Prop} {β : Nat → Nat} {a : Act} {w : World},
    execPF P ctr ops f L σ sc = some (σ', ob, sc') → All ob → Sat w0 S σ β a w → (∀ β' a' w', Sat w0 S σ' β' a' w' → Q .normal a' w') → ∀ {g : Nat}, left L ≤ g → L.size = ops.size → wpAny P .any ops Q g L a w := by
  intro f
  induction f with
  | zero => intro L σ σ' sc sc' ob β a w h; simp [execPF] at h
  | succ f ih =>
    intro L σ σ' sc sc' ob β a w h hob hS hk g hl hsz
    simp only [execPF] at h
    split at h
    · rename_i hr
      cases h
      exact wpAny_done hr (hk β a w hS) g
    · rename_i hr0
      have hstep : ∀ i, i ∈ Region.ready .any ops L → left L = left (L.setIfInBounds i true) + 1 := fun i hi => by
        obtain ⟨h1, o, ho, _⟩ := mem_ready.1 hi
        exact left_set (by rw [hsz]; exact (Array.getElem?_eq_some_iff.1 ho).1) h1
      have hpos : 0 < g := by
        cases hr : Region.ready .any ops L with
        | nil => exact absurd hr hr0
        | cons j t => have := hstep j (by rw [hr]; simp); omega
      obtain ⟨g, rfl⟩ : ∃ g', g = g' + 1 := ⟨g - 1, by omega⟩
      split at h
      · rename_i i σ1 ob1 sc1 hp
        split at h
        · rename_i σ2 ob2 sc2 hx
          cases h
          obtain ⟨ho1, ho2⟩ := All.append.1 hob
          obtain ⟨hm, hf, o, ho, hst⟩ := firstPure_ok hp
          obtain ⟨v, hy, hS1⟩ := pureStep_ok hst ho1 hS
          refine wpAny_take ho hs hf (by simpa using hm) (fun c a w h => absurd h (hQ c _ w)) hy ?_
          exact ih hx ho2 hS1 hk (by have := hstep i hm; omega) (by simpa using hsz)
        · cases h
      · split at h
        · rename_i i hri
          split at h
          · rename_i o ho
            split at h
            · rename_i σ1 ob1 sc1 hst
              split at h
              · rename_i σ2 ob2 sc2 hx
                cases h
                obtain ⟨ho1, ho2⟩ := All.append.1 hob
                refine wpAny_all hri (by simp) ?_
                intro j hj
                simp only [List.mem_singleton] at hj
                subst hj
                refine stepOp_ok hctr hst ho1 ho hS fun β' a' w' hS' => ?_
                exact ih hx ho2 hS' hk (by have := hstep j (by rw [hri]; simp); omega) (by simpa using hsz)
              · cases h
            · cases h
          · cases h
        · cases h
theorem drawPF_ok (hm : P.follows .mixedOrders = true) (hctr : CtrOk P ctr) {id : Nat} {sc sc' : List Bool} {ob : List Prop} (h : drawPF P ctr ops σ sc = some (σ', ob, sc')) (hob : All ob) (hS : Sat w0 S σ β a w)
    {Q : Exit → Act → World → Prop} (hQ : ∀ c a w, ¬ Q (.panic c) a w) (hk : ∀ β' a' w', Sat w0 S σ' β' a' w' → Q .normal a' w') : (Code.region id ops true).wp P Q a w := by
  unfold drawPF at h
  split at h
  · rename_i hs
    refine wp_region_any hm ?_
    have hx : Ext w { w with drawn := w.drawn + 1 } := ⟨rfl, rfl, rfl, Nat.le_refl _, fun _ _ => rfl⟩
    refine execPF_ok hctr hs hQ h hob (hS.extend hx) hk ?_ (by simp)
    simp [left, List.countP_replicate]
  · cases h
end
end Go.Eng

namespace Go.Eng
open Go.RowKit
def child : Code → Nat → Option Code
  | .seq a _, 0 => some a
  | .seq _ b, 1 => some b
  | .cond _ x _, 0 => some x
  | .cond _ _ y, 1 => some y
  | .block _ c, 0 => some c
  | .loop c, 0 => some c
  | _, _ => none
def nav (c : Code) : List Nat → Option Code
  | [] => some c
  | i :: p => match nav c p with
    | some d => child d i
    | none => none
inductive It where
  | at (p : List Nat)      -- the code at p
  | lp (p : List Nat)      -- the loop at p, at its head
  | blk (id : Nat)         -- the end of a block
def LoopW (P : Program) (c : Code) (Q : Exit → Act → World → Prop) (a : Act) (w : World) : Prop :=
  ∀ I : Act → World → Prop, (∀ a w, c.wp P (Exit.then I Q) a w → I a w) → I a w
theorem LoopW.step {P : Program} {c : Code} {Q : Exit → Act → World → Prop} {a : Act} {w : World} (h : c.wp P (Exit.then (LoopW P c Q) Q) a w) : LoopW P c Q a w := by
  intro I hI
  refine hI a w (wp_mono h fun e a w hq => ?_)
  cases e <;> first | exact hq | exact hq I hI
theorem LoopW.wp {P : Program} {c : Code} {Q : Exit → Act → World → Prop} {a : Act} {w : World} (h : LoopW P c Q a w) : (Code.loop c).wp P Q a w := by
  intro b k cs
  have := h (fun a w => ∀ (b : Frame) (k : List Item) (cs : List Frame), ∃ e a' w', Q e a' w' ∧ Arrives P (lone (b.at a (.code c :: .inLoop c :: k)) cs w) b k cs e a' w') (fun a w hw b k cs => by
    obtain ⟨e, a₁, w₁, hq, harr⟩ := hw b (.inLoop c :: k) cs
    cases e with
    | normal =>
      obtain ⟨e₂, a₂, w₂, hq₂, harr₂⟩ := hq b k cs
      exact ⟨e₂, a₂, w₂, hq₂, .of_steps (Steps.trans harr (.one step_inLoop)) harr₂⟩
    | exit id => exact ⟨_, a₁, w₁, hq, .pass (x := .inLoop c) rfl (fun _ _ => .inl (by simp)) harr⟩
    | goto l => exact ⟨_, a₁, w₁, hq, .pass (x := .inLoop c) rfl (fun _ _ => .inl (by simp)) harr⟩
    | ret => exact ⟨_, a₁, w₁, hq, .pass (x := .inLoop c) rfl (fun _ _ => .inl (by simp)) harr⟩
    | panic ch => exact ⟨_, a₁, w₁, hq, .pass (x := .inLoop c) rfl (fun _ _ => .inl (by simp)) harr⟩
    | outgrown => exact ⟨_, a₁, w₁, hq, .pass (x := .inLoop c) rfl (fun _ _ => .inl (by simp)) harr⟩) b k cs
  obtain ⟨e, a', w', hq, harr⟩ := this
  exact ⟨e, a', w', hq, .of_steps (.one step_loop) harr⟩
def contQ (P : Program) (body : Code) (Q : Exit → Act → World → Prop) : List It → Exit → Act → World → Prop
  | [], e, a, w => Q e a w
  | .at p :: st, .normal, a, w => match nav body p with | some c => c.wp P (contQ P body Q st) a w | none => False
  | .lp p :: st, .normal, a, w => match nav body p with | some (.loop c) => LoopW P c (contQ P body Q st) a w | _ => False
  | .blk id :: st, .exit j, a, w => if j = id then contQ P body Q st .normal a w else contQ P body Q st (.exit j) a w
  | _ :: st, e, a, w => contQ P body Q st e a w
def unwind (id : Nat) : List It → Option (List It)
  | [] => none
  | .blk j :: st => if id = j then some st else unwind id st
  | _ :: st => unwind id st
def stepC (P : Program) (ctr : Ctr) (body : Code) (unroll : Bool) (st : List It) (σ : St) (sc : List Bool) : Option (List It × St × List Prop × List Bool) :=
  match st with
  | [] => none
  | .blk _ :: r => some (r, σ, [], sc)
  | .lp p :: r => match unroll, nav body p with | true, some (.loop _) => some (.at (0 :: p) :: .lp p :: r, σ, [], sc) | _, _ => none
  | .at p :: r => match nav body p with
    | some .skip => some (r, σ, [], sc)
    | some (.label _) => some (r, σ, [], sc)
    | some (.seq _ _) => some (.at (0 :: p) :: .at (1 :: p) :: r, σ, [], sc)
    | some (.block id _) => some (.at (0 :: p) :: .blk id :: r, σ, [], sc)
    | some (.loop _) => some (.lp p :: r, σ, [], sc)
    | some (.exit id) => match unwind id r with | some r' => some (r', σ, [], sc) | none => none
    | some .ret => some ([], σ, [], sc)
    | some (.cond c _ _) => match lookρ σ.slots c with
      | some (.cb true) => some (.at (0 :: p) :: r, σ, [], sc)
      | some (.cb false) => some (.at (1 :: p) :: r, σ, [], sc)
      | some (.b x) => match sc with
        | true :: sc' => some (.at (0 :: p) :: r, σ, [x = true], sc')
        | false :: sc' => some (.at (1 :: p) :: r, σ, [x = false], sc')
        | [] => none
      | _ => none
    | some (.region _ ops false) => match execSeq P ctr ops ops.toList 0 σ sc with | some (σ', ob, sc') => some (r, σ', ob, sc') | none => none
    | some (.region _ ops true) => match execDraw P ctr ops σ sc with | some (σ', ob, sc') => some (r, σ', ob, sc') | none => (match drawPF P ctr ops σ sc with | some (σ', ob, sc') => some (r, σ', ob, sc') | none => none)
    | _ => none
def run (P : Program) (ctr : Ctr) (body : Code) (unroll : Bool) : Nat → List It → St → List Bool → List It × St × List Prop × List Bool
  | 0, st, σ, sc => (st, σ, [], sc)
  | f + 1, st, σ, sc => match stepC P ctr body unroll st σ sc with
    | some (st', σ', ob, sc') => match run P ctr body unroll f st' σ' sc' with | (a, b, c, d) => (a, b, ob ++ c, d)
    | none => (st, σ, [], sc)
section
variable {P : Program} {ctr : Ctr} {body : Code} {Q : Exit → Act → World → Prop} {w0 : Fr} {S : Own}
def Hold (P : Program) (body : Code) (Q : Exit → Act → World → Prop) (w0 : Fr) (S : Own) (st : List It) (σ : St) : Prop :=
  ∀ β a w, Sat w0 S σ β a w → contQ P body Q st .normal a w
theorem contQ_panic (hQ : ∀ c a w, ¬ Q (.panic c) a w) : ∀ st c a w, ¬ contQ P body Q st (.panic c) a w := by
  intro st
  induction st with
  | nil => intro c a w; exact hQ c a w
  | cons x st ih => intro c a w; cases x <;> (simp only [contQ]; exact ih c a w)
theorem contQ_ret : ∀ st a w, Q .ret a w → contQ P body Q st .ret a w := by
  intro st
  induction st with
  | nil => intro a w h; exact h
  | cons x st ih => intro a w h; cases x <;> (simp only [contQ]; exact ih a w h)
theorem contQ_exit {id : Nat} : ∀ st st' a w, unwind id st = some st' → contQ P body Q st' .normal a w → contQ P body Q st (.exit id) a w := by
  intro st
  induction st with
  | nil => intro st' a w h; simp [unwind] at h
  | cons x st ih =>
    intro st' a w h hc
    cases x with
    | blk j =>
      simp only [unwind] at h
      simp only [contQ]
      split at h
      · rename_i e; cases h; subst e; simp only [if_true]; exact hc
      · rename_i e; simp only [e, if_false]; exact ih st' a w h hc
    | «at» p => simp only [unwind] at h; simp only [contQ]; exact ih st' a w h hc
    | lp p => simp only [unwind] at h; simp only [contQ]; exact ih st' a w h hc
theorem hold_unroll {p : List Nat} {st : List It} {σ : St} {c : Code} (hc : nav body p = some (.loop c)) (h : Hold P body Q w0 S (.at (0 :: p) :: .lp p :: st) σ) : Hold P body Q w0 S (.lp p :: st) σ := by
  intro β a w hS
  have h1 := h β a w hS
  have e : nav body (0 :: p) = some c := by simp [nav, hc, child]
  simp only [contQ, e] at h1
  simp only [contQ, hc]
  refine LoopW.step (wp_mono h1 fun e a w hq => ?_)
  cases e <;> simp only [contQ, Exit.then, hc] at hq ⊢ <;> exact hq
theorem stepC_ok (hm : P.follows .mixedOrders = true) (hctr : CtrOk P ctr) (hQ : ∀ c a w, ¬ Q (.panic c) a w) (hQr : ∀ a w, Q .normal a w → Q .ret a w) {unroll : Bool} {st st' : List It} {σ σ' : St} {sc sc' : List Bool} {ob : List Prop}
    (h : stepC P ctr body unroll st σ sc = some (st', σ', ob, sc')) (hob : All ob) (hk : Hold P body Q w0 S st' σ') : Hold P body Q w0 S st σ := by
  unfold stepC at h
  split at h
  · cases h
  · cases h; intro β a w hS; simp only [contQ]; exact hk β a w hS
  · rename_i p r
    split at h
    · rename_i c hc
      cases h
      exact hold_unroll hc hk
    · cases h
  · rename_i p r
    split at h
    · rename_i hn
      cases h; intro β a w hS; simp only [contQ, hn]; exact wp_skip (hk β a w hS)
    · rename_i l hn
      cases h; intro β a w hS; simp only [contQ, hn]; exact wp_label (hk β a w hS)
    · rename_i x y hn
      cases h; intro β a w hS
      have h1 := hk β a w hS
      simp only [contQ, nav, hn, child] at h1 ⊢
      refine wp_seq (wp_mono h1 fun e a w hq => ?_)
      cases e <;> simp only [contQ, Exit.then, nav, hn, child] at hq ⊢ <;> exact hq
    · rename_i id c hn
      cases h; intro β a w hS
      have h1 := hk β a w hS
      simp only [contQ, nav, hn, child] at h1 ⊢
      refine wp_block (wp_mono h1 fun e a w hq => ?_)
      cases e <;> simp only [contQ, Exit.inBlock] at hq ⊢ <;> exact hq
    · rename_i c hn
      cases h; intro β a w hS
      have h1 := hk β a w hS
      simp only [contQ, hn] at h1 ⊢
      exact h1.wp
    · rename_i id hn
      split at h
      · rename_i r' hu
        cases h; intro β a w hS
        simp only [contQ, hn]
        exact wp_exit (contQ_exit r _ a w hu (hk β a w hS))
      · cases h
    · rename_i hn
      cases h; intro β a w hS
      simp only [contQ, hn]
      exact wp_ret (contQ_ret r a w (hQr a w (hk β a w hS)))
    · rename_i c x y hn
      have branch : ∀ (t : Bool) (β : Nat → Nat) (a : Act) (w : World), a.eval c = .bool t → contQ P body Q (.at ((if t then 0 else 1) :: p) :: r) .normal a w → contQ P body Q (.at p :: r) .normal a w := by
        intro t β a w ht h1
        simp only [contQ, nav, hn] at h1 ⊢
        cases t
        · exact wp_cond_false ht (by simpa [child] using h1)
        · exact wp_cond_true ht (by simpa [child] using h1)
      split at h
      · rename_i hl
        cases h; intro β a w hS
        have h2 := relV_scalar rfl rfl (hS.look hl)
        simp only [rel, List.cons.injEq, and_true] at h2
        exact branch true β a w h2 (hk β a w hS)
      · rename_i hl
        cases h; intro β a w hS
        have h2 := relV_scalar rfl rfl (hS.look hl)
        simp only [rel, List.cons.injEq, and_true] at h2
        exact branch false β a w h2 (hk β a w hS)
      · rename_i b hl
        split at h
        · cases h; intro β a w hS
          have h2 := relV_scalar rfl rfl (hS.look hl)
          simp only [rel, List.cons.injEq, and_true] at h2
          rw [hob.1] at h2
          exact branch true β a w h2 (hk β a w hS)
        · cases h; intro β a w hS
          have h2 := relV_scalar rfl rfl (hS.look hl)
          simp only [rel, List.cons.injEq, and_true] at h2
          rw [hob.1] at h2
          exact branch false β a w h2 (hk β a w hS)
        · cases h
      · cases h
    · rename_i id ops hn
      split at h
      · rename_i σ1 ob1 sc1 hx
        cases h; intro β a w hS
        simp only [contQ, hn]
        refine wp_region ?_
        have := execSeq_ok (Q := contQ P body Q _) hctr (l := ops.toList) (i := 0) (by simp) hx hob hS hk
        rw [List.range_eq_range']
        simpa using this
      · cases h
    · rename_i id ops hn
      split at h
      · rename_i σ1 ob1 sc1 hx
        cases h; intro β a w hS
        simp only [contQ, hn]
        exact execDraw_ok hm hctr hx hob hS (contQ_panic hQ _) hk
      · split at h
        · rename_i σ1 ob1 sc1 hx
          cases h; intro β a w hS
          simp only [contQ, hn]
          exact drawPF_ok hm hctr hx hob hS (contQ_panic hQ _) hk
        · cases h
    · cases h
theorem run_ok (hm : P.follows .mixedOrders = true) (hctr : CtrOk P ctr) (hQ : ∀ c a w, ¬ Q (.panic c) a w) (hQr : ∀ a w, Q .normal a w → Q .ret a w) {unroll : Bool} : ∀ (f : Nat) {st st' : List It} {σ σ' : St} {sc sc' : List Bool} {ob : List Prop},
    run P ctr body unroll f st σ sc = (st', σ', ob, sc') → All ob → Hold P body Q w0 S st' σ' → Hold P body Q w0 S st σ := by
  intro f
  induction f with
  | zero => intro st st' σ σ' sc sc' ob h _ hk; simp only [run] at h; cases h; exact hk
  | succ f ih =>
    intro st st' σ σ' sc sc' ob h hob hk
    simp only [run] at h
    split at h
    · rename_i st1 σ1 ob1 sc1 hst
      cases hr : run P ctr body unroll f st1 σ1 sc1 with
      | mk q1 q =>
        obtain ⟨q2, q3, q4⟩ := q
        rw [hr] at h
        simp only at h
        cases h
        obtain ⟨ho1, ho2⟩ := All.append.1 hob
        exact stepC_ok hm hctr hQ hQr hst ho1 (ih hr ho2 hk)
    · cases h; exact hk
end
end Go.Eng

namespace Go.Eng
open Go.RowKit
def viewR (blks : List (Nat × Bk)) (s : SV) : Option SV :=
  if s.ids.isEmpty && !s.isTup then some s else deepV blks 80 s
def retOne (P : Program) (σ : St) (r : ResultVar) : Option SV :=
  match r with
  | .tmp t => match getS σ.slots t with | some s => viewR σ.blks s.rd | none => none
  | .cell ad t => match getS σ.slots ad, aggT P t, szT P t with
    | some (.ptr id off ix), some agg, some size => match getB σ.blks id with
      | some bk => match loadB bk agg size off ix with
        | some (s, []) => viewR σ.blks s.rd
        | _ => none
      | none => none
    | _, _, _ => none
def retAll (P : Program) (σ : St) : List ResultVar → Option (List SV)
  | [] => some []
  | r :: l => match retOne P σ r, retAll P σ l with
    | some s, some t => some (s :: t)
    | _, _ => none
def joinR : List SV → SV
  | [s] => s
  | l => .tup l
def retS (P : Program) (rs : Array ResultVar) (σ : St) : Option SV :=
  match retAll P σ rs.toList with
  | some l => some (joinR l)
  | none => none
def resF (tmps : Array Value) : ResultVar → Sem Value
  | .tmp t => pure (tmps.getD t undef)
  | .cell ad t => do loadVar t (← asAddr (tmps.getD ad undef))
theorem results_eq (fn : Func) (tmps : Array Value) : results fn tmps = (do
    let vs ← fn.results.mapM (resF tmps)
    pure (if h : vs.size = 1 then vs[0] else .tuple vs)) := rfl
def Fin (P : Program) (fn : Func) (w0 : Fr) (S : Own) (res : SV) : Exit → Act → World → Prop
  | .normal, a, w => a.defers = [] ∧ ∃ v, (results fn a.tmps).run P w = .ok v w ∧ Bel w0 w ∧ relV (fun _ => 0) S w res v
  | .ret, a, w => a.defers = [] ∧ ∃ v, (results fn a.tmps).run P w = .ok v w ∧ Bel w0 w ∧ relV (fun _ => 0) S w res v
  | _, _, _ => False
section
variable {P : Program} {fn : Func} {body : Code} {w0 : Fr} {w : World} {S : Own} {σ : St} {β : Nat → Nat} {a : Act}
theorem viewR_ok (hS : Sat w0 S σ β a w) {s r : SV} (h : viewR σ.blks s = some r) {v : Value} (hv : relV β (owS S σ.blks β) w s v) : relV1 (fun _ => 0) S w r v := by
  unfold viewR at h
  split at h
  · rename_i hc
    simp only [Bool.and_eq_true, List.isEmpty_iff, Bool.not_eq_true'] at hc
    cases h
    exact relV1_mono (fun _ _ _ h => .inl h) (Keep.refl _ _) (fun id hid => by rw [hc.1] at hid; cases hid) (relV_one hc.2 hv)
  · have ht : s.isTup = false := by
      cases s <;> first | rfl | skip
      simp only [deepV, SV.rd, SV.isTup] at h
      simp at h
    obtain ⟨cs, h1, rfl⟩ := relV_one ht hv
    obtain ⟨h2, h3⟩ := (deep_ok hS.blk (S := S) (fun _ _ h => .inl h) (fun id bk hg j hs => by
      have h1 := hS.lowS _ _ hs
      rcases hS.low id _ (getB_mem hg) (live_plain (getB_both hg).2) with h2 | h2
      · omega
      · exact h1.2 h2) 80).1 h h1
    exact ⟨cs, h2, by rw [h3]⟩
theorem retOne_ok (hS : Sat w0 S σ β a w) {r : ResultVar} {s : SV} (h : retOne P σ r = some s) :
    ∃ v, (resF a.tmps r).run P w = .ok v w ∧ relV1 (fun _ => 0) S w s v := by
  cases r with
  | tmp t =>
    simp only [retOne] at h
    split at h
    · rename_i s' hs
      exact ⟨_, rfl, viewR_ok hS h (rd_ok (hS.slot t s' (getS_mem hs)))⟩
    · cases h
  | cell ad t =>
    simp only [retOne] at h
    split at h
    · rename_i id off ix agg size hs ha hsz
      split at h
      · rename_i bk hg
        split at h
        · rename_i s' hl
          have h1 := relV_scalar rfl rfl (hS.slot ad _ (getS_mem hs))
          simp only [rel, List.cons.injEq, and_true] at h1
          obtain ⟨cs, hr, hb⟩ := (hS.blk id bk (getB_both hg).1).1 (getB_both hg).2
          obtain ⟨v, hrun, hv⟩ := loadB_ok (P := P) hl trivial ha hsz hr hb
          refine ⟨v, ?_, viewR_ok hS h (rd_ok hv)⟩
          simp only [Instr.loadAt, Instr.sureAddr, Sem.run_bind, Sem.run_pure, Result.andThen_ok] at hrun
          simp only [resF, h1, asAddr, Sem.run_bind, Sem.run_pure, Result.andThen_ok]
          exact hrun
        · cases h
      · cases h
    · cases h
theorem retAll_ok (hS : Sat w0 S σ β a w) : ∀ {rs : List ResultVar} {l : List SV}, retAll P σ rs = some l →
    ∃ vs, (rs.mapM (resF a.tmps)).run P w = .ok vs w ∧ relVs (fun _ => 0) S w l vs ∧ vs.length = rs.length := by
  intro rs
  induction rs with
  | nil => intro l h; simp only [retAll] at h; cases h; exact ⟨[], by simp, rfl, rfl⟩
  | cons r rs ih =>
    intro l h
    simp only [retAll] at h
    split at h
    · rename_i s t h1 h2
      cases h
      obtain ⟨v, hv, hr⟩ := retOne_ok hS h1
      obtain ⟨vs, hvs, hrs, hlen⟩ := ih h2
      refine ⟨v :: vs, ?_, ⟨v, vs, rfl, hr, hrs⟩, by simp [hlen]⟩
      rw [List.mapM_cons, Sem.run_bind, hv]
      simp only [Result.andThen_ok, Sem.run_bind, hvs, Sem.run_pure]
    · cases h
theorem retS_ok (hS : Sat w0 S σ β a w) {r : SV} (h : retS P fn.results σ = some r) : ∃ v, (results fn a.tmps).run P w = .ok v w ∧ relV (fun _ => 0) S w r v := by
  unfold retS at h
  split at h
  · rename_i l hl
    cases h
    obtain ⟨vs, hvs, hrs, hlen⟩ := retAll_ok hS hl
    have hm : (fn.results.mapM (resF a.tmps)).run P w = .ok vs.toArray w := by
      rw [Array.mapM_eq_mapM_toList, Sem.run_map, hvs]; rfl
    have hll : l.length = vs.length := by
      clear hl hvs hm hlen
      induction l generalizing vs with
      | nil => rw [hrs]; rfl
      | cons s l ih => obtain ⟨v, t, rfl, _, h2⟩ := hrs; simp [ih t h2]
    by_cases h1 : vs.length = 1
    · obtain ⟨v, rfl⟩ := List.length_eq_one_iff.1 h1
      obtain ⟨s, rfl⟩ := List.length_eq_one_iff.1 (hll.trans h1)
      obtain ⟨v', t, e, hr, _⟩ := hrs
      cases e
      refine ⟨v, ?_, relV_up hr⟩
      rw [results_eq, Sem.run_bind, hm]
      simp
    · refine ⟨.tuple vs.toArray, ?_, ?_⟩
      · rw [results_eq, Sem.run_bind, hm]
        simp [h1]
      · have : joinR l = .tup l := by
          cases l with
          | nil => rfl
          | cons s l => cases l with
            | nil => simp at hll; exact absurd hll.symm h1
            | cons t l => rfl
        rw [this]
        exact ⟨vs, rfl, hrs⟩
  · cases h
theorem hold_fin {res r : SV} (h : retS P fn.results σ = some r) (he : r = res) : Hold P body (Fin P fn w0 S res) w0 S [] σ := by
  intro β a w hS
  subst he
  obtain ⟨v, hv, hr⟩ := retS_ok hS h
  exact ⟨hS.defs, v, hv, hS.ext, hr⟩
def initSlots : Nat → List SV → List (Nat × SV)
  | _, [] => []
  | i, s :: r => (i, s) :: initSlots (i + 1) r
def initSt (args : List SV) (nt : Nat) : St := { nt, slots := initSlots 0 args, blks := [], next := 0 }
theorem initSlots_mem : ∀ {args : List SV} {i d : Nat} {s : SV}, (d, s) ∈ initSlots i args → i ≤ d ∧ args[d - i]? = some s := by
  intro args
  induction args with
  | nil => intro i d s h; simp [initSlots] at h
  | cons x args ih =>
    intro i d s h
    simp only [initSlots] at h
    rcases List.mem_cons.1 h with e | h
    · cases e; simp
    · obtain ⟨h1, h2⟩ := ih h
      refine ⟨by omega, ?_⟩
      rw [show d - i = (d - (i + 1)) + 1 by omega]
      simpa using h2
theorem relVs_get {ow : Own} : ∀ {l : List SV} {vs : List Value}, relVs β ow w l vs → l.length = vs.length ∧ ∀ (i : Nat) (s : SV), l[i]? = some s → ∃ v, vs[i]? = some v ∧ relV1 β ow w s v := by
  intro l
  induction l with
  | nil => intro vs h; cases h; exact ⟨rfl, fun i s hs => by simp at hs⟩
  | cons x l ih =>
    intro vs h
    obtain ⟨v, t, rfl, h1, h2⟩ := h
    obtain ⟨h3, h4⟩ := ih h2
    refine ⟨by simp [h3], fun i s hs => ?_⟩
    cases i with
    | zero => simp at hs; subst hs; exact ⟨v, rfl, h1⟩
    | succ i => simp at hs; obtain ⟨u, hu, hr⟩ := h4 i s hs; exact ⟨u, by simpa using hu, hr⟩
theorem idss_get {id : Nat} {s : SV} (hi : id ∈ s.ids) : ∀ {l : List SV} {d : Nat}, l[d]? = some s → id ∈ idss l := by
  intro l
  induction l with
  | nil => intro d h; simp at h
  | cons x l ih =>
    intro d h
    cases d with
    | zero => simp at h; subst h; simp [idss, hi]
    | succ d => simp at h; simp only [idss, List.mem_append]; exact .inr (ih h)
theorem contract_at {w : World} {vs : List Value} {f : FuncId} {args : List SV} {res : SV} (hf : P.funcs[f]? = some fn) (hb : fn.body = some body) (hname : (fn.name == "runtime.NumGoroutine") = false) (hn : args.length ≤ fn.ntmps) (hids : idss args = [])
    (hSlt : ∀ b j, S b j → b < w.heap.size) (hvs : relVs (fun _ => 0) S w args vs) (h : Hold P body (Fin P fn w S res) w S [.at []] (initSt args fn.ntmps)) :
    Invokes P f vs w fun v w' => Ext w w' ∧ relV (fun _ => 0) S w' res v := by
  obtain ⟨hlen, hget⟩ := relVs_get hvs
  unfold Invokes
  have hcall : (callFunc f vs.toArray).run P w = .ok (.enter f vs.toArray) w := by
    have hne : ¬ fn.name = "runtime.NumGoroutine" := by simpa using hname
    simp [callFunc, hf, hb, hne]
  rw [hcall]
  simp only
  refine calls_of_wp hf hb ?_
  have hS : Sat w S (initSt args fn.ntmps) (fun _ => 0) { tmps := vs.toArray ++ Array.replicate (fn.ntmps - vs.toArray.size) undef, defers := [] } w := by
    refine ⟨rfl, ?_, ?_, fun id bk hm => by simp [initSt] at hm, fun id bk hm => by simp [initSt] at hm, fun i j bi bj hm => by simp [initSt] at hm, by simp [initSt], ?_, fun id bk hm => by simp [initSt] at hm, Bel.refl (w : Fr), fun b j h => ⟨hSlt b j h, Fr.mut_world⟩, rfl, fun id hid => absurd hid (Nat.not_lt_zero _)⟩
    · simp [initSt]; omega
    · intro d s hm
      obtain ⟨_, hd⟩ := initSlots_mem hm
      simp only [Nat.sub_zero] at hd
      obtain ⟨v, hv, hr⟩ := hget d s hd
      have hlt : d < vs.length := by
        rcases Nat.lt_or_ge d vs.length with h | h
        · exact h
        · rw [List.getElem?_eq_none h] at hv; cases hv
      have e : ({ tmps := vs.toArray ++ Array.replicate (fn.ntmps - vs.toArray.size) undef, defers := [] } : Act).tmps.getD d undef = v := by
        rw [Array.getD_eq_getD_getElem?, Array.getElem?_append_left (by simpa using hlt)]
        simp [hv]
      rw [e]
      exact relV_mono (fun _ _ _ h => h.elim id fun ⟨_, _, hm, _⟩ => by simp [initSt] at hm) (Keep.refl _ _) (fun _ _ => rfl) (relV_up hr)
    · intro d s hm id hi
      obtain ⟨_, hd⟩ := initSlots_mem hm
      have : id ∈ idss args := idss_get hi (by simpa using hd)
      rw [hids] at this; cases this
  have := h _ _ _ hS
  simp only [contQ, nav] at this
  refine wp_mono this fun e a w' hq => ?_
  cases e <;> simp only [Fin] at hq <;> try exact hq.elim
  · obtain ⟨h1, v, h2, h3, h4⟩ := hq; exact ⟨h1, v, h2, v, rfl, h3.below, h4⟩
  · obtain ⟨h1, v, h2, h3, h4⟩ := hq; exact ⟨h1, v, h2, v, rfl, h3.below, h4⟩
theorem contract_of {f : FuncId} {args : List SV} {res : SV} (hf : P.funcs[f]? = some fn) (hb : fn.body = some body) (hname : (fn.name == "runtime.NumGoroutine") = false) (hn : args.length ≤ fn.ntmps) (hids : idss args = [])
    (h : ∀ (w0 : World) (S : Own), Hold P body (Fin P fn w0 S res) w0 S [.at []] (initSt args fn.ntmps)) : Contract P f args res := fun w S vs h1 h2 => contract_at hf hb hname hn hids h1 h2 (h w S)
theorem Fin_panic {res : SV} : ∀ c a w, ¬ Fin P fn w0 S res (.panic c) a w := fun _ _ _ h => h
theorem Fin_ret {res : SV} : ∀ a w, Fin P fn w0 S res .normal a w → Fin P fn w0 S res .ret a w := fun _ _ h => h
class ExitOk (Q : Exit → Act → World → Prop) : Prop where
  panic : ∀ c a w, ¬ Q (.panic c) a w
  ret : ∀ a w, Q .normal a w → Q .ret a w
instance {res : SV} : ExitOk (Fin P fn w0 S res) := ⟨Fin_panic, Fin_ret⟩
theorem hold_run (hm : P.follows .mixedOrders = true) {ctr : Ctr} (hctr : CtrOk P ctr) {Q : Exit → Act → World → Prop} [hQ : ExitOk Q] (unroll : Bool) (f : Nat) {st : List It} {σ : St} (sc : List Bool) {st' : List It} {σ' : St} {ob : List Prop} {sc' : List Bool}
    (h : run P ctr body unroll f st σ sc = (st', σ', ob, sc')) (hob : All ob) (hk : Hold P body Q w0 S st' σ') : Hold P body Q w0 S st σ :=
  run_ok hm hctr hQ.panic hQ.ret f h hob hk
end
end Go.Eng

namespace Go.Eng
open Go.RowKit
def pureF : SV → Prop
  | .c k n => inR k n
  | .i k n => inR k n
  | .u k n => n < lim k
  | .arr k n l => l.length = n ∧ ∀ x ∈ l, x < lim k
  | .sl k l => l.length < 9223372036854775808 ∧ ∀ x ∈ l, x < lim k
  | .sli l => l.length < 9223372036854775808 ∧ ∀ x ∈ l, inR .i64 x
  | .str l => ∀ x ∈ l, x < 256
  | .ag l => pureFs l
  | .row _ s => pureF s
  | .pin _ s => pureF s
  | .slv es l => (∀ s ∈ l, s.size = es) ∧ pureFs l
  | .slq sh l => l.length < 9223372036854775808 ∧ ∀ x ∈ l, (sh = .opt → inR .i64 x.1) ∧ ∀ n ∈ x.2, n < lim .u8
  | _ => True
  where pureFs : List SV → Prop
  | [] => True
  | s :: r => pureF s ∧ pureFs r
section
variable {P : Program} {fn : Func} {body : Code} {w0 : Fr} {w : World} {S : Own} {σ : St} {β : Nat → Nat} {a : Act} {ow : Own}
theorem elRels_pure {sh : ESh} : ∀ {l : List El} {cs : List Value}, elRels ow w sh l cs → ∀ x ∈ l, (sh = .opt → inR .i64 x.1) ∧ ∀ n ∈ x.2, n < lim .u8 := by
  intro l
  induction l with
  | nil => intro cs _ x hx; cases hx
  | cons y r ih =>
    intro cs h x hx
    obtain ⟨c1, c2, _, h1, h2⟩ := h
    rcases List.mem_cons.1 hx with rfl | hx
    · cases sh with
      | opt =>
        obtain ⟨v, _, h3, _, h4⟩ := h1
        exact ⟨fun _ => h3, h4⟩
      | byt =>
        obtain ⟨v, _, _, h4⟩ := h1
        exact ⟨fun h => (by cases h), h4⟩
    · exact ih h2 x hx
mutual
theorem pureF_ok : ∀ (s : SV) (cs : List Value), rel β ow w s cs → pureF s
  | .c _ _, _, h => by simp only [rel] at h; exact h.2
  | .i _ _, _, h => by simp only [rel] at h; exact h.2
  | .u _ _, _, h => by simp only [rel] at h; exact h.2
  | .cb _, _, _ => trivial
  | .b _, _, _ => trivial
  | .arr _ _ _, _, h => by simp only [rel] at h; exact h.2
  | .ag l, cs, h => by simp only [rel] at h; exact pureFs_ok l cs h
  | .tup _, _, h => by simp only [rel] at h
  | .ptr _ _ _, _, _ => trivial
  | .osl _ _ _, _, _ => trivial
  | .sl _ l, _, h => by
      simp only [rel] at h
      obtain ⟨⟨v, _, hr⟩, h2⟩ := h
      obtain ⟨A, c, _, h3, h4, _⟩ := readsAs_cells hr
      simp only [ints, List.length_map] at h3
      exact ⟨by omega, h2⟩
  | .sli l, _, h => by
      simp only [rel] at h
      obtain ⟨⟨v, _, hr⟩, h2⟩ := h
      obtain ⟨A, c, _, h3, h4, _⟩ := readsAs_cells hr
      simp only [List.length_map] at h3
      exact ⟨by omega, h2⟩
  | .str _, _, h => by simp only [rel] at h; exact h.2
  | .osz _, _, _ => trivial
  | .nil, _, _ => trivial
  | .row _ s, cs, h => by simp only [rel] at h; exact pureF_ok s cs h.1
  | .rp _, _, _ => trivial
  | .fl _, _, _ => trivial
  | .emp, _, _ => trivial
  | .np, _, _ => trivial
  | .clo _ _, _, _ => trivial
  | .rwe _ _ _, _, _ => trivial
  | .raw _, _, _ => trivial
  | .pin _ s, cs, h => by simp only [rel] at h; exact pureF_ok s cs h.2.2
  | .pw _ _ _ _, _, _ => trivial
  | .slv _ l, _, h => by
      simp only [rel] at h
      obtain ⟨h1, h2, v, vs, _, _, h5⟩ := h
      exact ⟨h1, pureFs_ok l vs h5⟩
  | .slq sh l, _, h => by
      simp only [rel] at h
      obtain ⟨h1, v, vs, _, _, h5⟩ := h
      exact ⟨h1, elRels_pure h5⟩
  | .rwq _ _ _, _, _ => trivial
  | .psl _ _ _ _, _, _ => trivial
  | .clo2 _ _ _, _, _ => trivial
theorem pureFs_ok : ∀ (l : List SV) (cs : List Value), rels β ow w l cs → pureF.pureFs l
  | [], _, _ => trivial
  | s :: r, cs, h => by
      simp only [rels] at h
      obtain ⟨c1, c2, _, h1, h2⟩ := h
      exact ⟨pureF_ok s c1 h1, pureFs_ok r c2 h2⟩
end
theorem pureFs_vs : ∀ (l : List SV) (vs : List Value), relVs β ow w l vs → pureF.pureFs l
  | [], _, _ => trivial
  | s :: r, vs, h => by
      obtain ⟨v, t, _, ⟨cs, h1, _⟩, h2⟩ := h
      exact ⟨pureF_ok s cs h1, pureFs_vs r t h2⟩
theorem contract {f : FuncId} {args : List SV} {res : SV} (hf : P.funcs[f]? = some fn) (hb : fn.body = some body) (hname : (fn.name == "runtime.NumGoroutine") = false) (hn : Nat.ble args.length fn.ntmps = true) (hids : idss args = [])
    (h : pureF.pureFs args → ∀ (w0 : World) (S : Own), Hold P body (Fin P fn w0 S res) w0 S [.at []] (initSt args fn.ntmps)) : Contract P f args res := by
  intro w S vs hSlt hvs
  exact contract_of hf hb hname (Nat.le_of_ble_eq_true hn) hids (h (pureFs_vs args vs hvs)) w S vs hSlt hvs
theorem Contract.pure {f : FuncId} {args : List SV} {res : SV} (h : pureF.pureFs args → Contract P f args res) : Contract P f args res := by
  intro w S vs hSlt hvs
  exact h (pureFs_vs args vs hvs) w S vs hSlt hvs
def pickS (slots : List (Nat × SV)) : List Nat → Option (List (Nat × SV))
  | [] => some []
  | t :: r => match getS slots t, pickS slots r with
    | some s, some l => some ((t, s) :: l)
    | _, _ => none
def pickB (blks : List (Nat × Bk)) : List Nat → Option (List (Nat × Bk))
  | [] => some []
  | t :: r => match getR blks t, pickB blks r with
    | some s, some l => some ((t, s) :: l)
    | _, _ => none
def boundB (next : Nat) : List (Nat × Bk) → Bool
  | [] => true
  | p :: r => decide (p.1 < next) && (idss p.2.segs).all (fun id => decide (id < next)) && (!p.2.row || decide (p.1 + 2 < next)) && boundB next r
def restrict (ks bs : List Nat) (nx : Nat) (σ : St) : Option St :=
  match pickS σ.slots ks, pickB σ.blks bs with
  | some sl, some bl => if idsOk nx sl && boundB nx bl && decide (bs.Nodup) && (List.range σ.m).all (fun i => bs.contains i) then some { nt := σ.nt, slots := sl, blks := bl, next := nx, m := σ.m } else none
  | _, _ => none
theorem pickS_mem {slots : List (Nat × SV)} : ∀ {ks : List Nat} {l : List (Nat × SV)}, pickS slots ks = some l → ∀ p ∈ l, p ∈ slots := by
  intro ks
  induction ks with
  | nil => intro l h; simp only [pickS] at h; cases h; simp
  | cons t r ih =>
    intro l h
    simp only [pickS] at h
    split at h
    · rename_i s l' h1 h2
      cases h
      intro p hp
      rcases List.mem_cons.1 hp with rfl | hp
      · exact getS_mem h1
      · exact ih h2 p hp
    · cases h
theorem pickB_mem {blks : List (Nat × Bk)} : ∀ {ks : List Nat} {l : List (Nat × Bk)}, pickB blks ks = some l → (∀ p ∈ l, p ∈ blks) ∧ l.map (·.1) = ks := by
  intro ks
  induction ks with
  | nil => intro l h; simp only [pickB] at h; cases h; simp
  | cons t r ih =>
    intro l h
    simp only [pickB] at h
    split at h
    · rename_i s l' h1 h2
      cases h
      obtain ⟨h3, h4⟩ := ih h2
      refine ⟨fun p hp => ?_, by simp [h4]⟩
      rcases List.mem_cons.1 hp with rfl | hp
      · exact getR_mem h1
      · exact h3 p hp
    · cases h
theorem idsOk_mem {nx : Nat} : ∀ {l : List (Nat × SV)}, idsOk nx l = true → ∀ d s, (d, s) ∈ l → ∀ id ∈ s.ids, id < nx := by
  intro l
  induction l with
  | nil => intro _ d s h; cases h
  | cons p r ih =>
    intro h d s hm id hi
    simp only [idsOk, Bool.and_eq_true] at h
    rcases List.mem_cons.1 hm with e | hm
    · subst e; have := List.all_eq_true.1 h.1 id hi; simpa using this
    · exact ih h.2 d s hm id hi
theorem boundB_mem {nx : Nat} : ∀ {l : List (Nat × Bk)}, boundB nx l = true → ∀ i bk, (i, bk) ∈ l → i < nx ∧ (∀ j ∈ idss bk.segs, j < nx) ∧ (bk.row = true → i + 2 < nx) := by
  intro l
  induction l with
  | nil => intro _ d s h; cases h
  | cons p r ih =>
    intro h d s hm
    simp only [boundB, Bool.and_eq_true, decide_eq_true_eq] at h
    rcases List.mem_cons.1 hm with e | hm
    · subst e
      refine ⟨h.1.1.1, fun j hj => ?_, fun hr => ?_⟩
      · have := List.all_eq_true.1 h.1.1.2 j hj
        simpa using this
      · have := h.1.2
        have hr : s.row = true := hr
        simpa [hr] using this
    · exact ih h.2 d s hm
theorem Sat.restrict {ks bs : List Nat} {nx : Nat} {σ' : St} (h : restrict ks bs nx σ = some σ') (hS : Sat w0 S σ β a w) : Sat w0 S σ' β a w := by
  unfold Eng.restrict at h
  split at h
  · rename_i sl bl h1 h2
    split at h
    · rename_i hc
      simp only [Bool.and_eq_true, decide_eq_true_eq] at hc
      cases h
      obtain ⟨hb1, hb2⟩ := pickB_mem h2
      have hs1 := pickS_mem h1
      have ho : ∀ b j, b < w.heap.size → owS S bl β b j → owS S σ.blks β b j := fun b _ _ hb => hb.imp id fun ⟨i, bk, hm, e⟩ => ⟨i, bk, hb1 _ hm, e⟩
      refine ⟨hS.defs, hS.size, fun d s hm => relV_mono ho (Keep.refl _ _) (fun _ _ => rfl) (hS.slot d s (hs1 _ hm)), ?_, fun id bk hm => hS.low id bk (hb1 _ hm), fun i j bi bj hi hj => hS.inj i j bi bj (hb1 _ hi) (hb1 _ hj), by rw [hb2]; exact hc.1.2, idsOk_mem hc.1.1.1, boundB_mem hc.1.1.2, hS.ext, hS.lowS, hS.pins.1, fun id hid => ?_⟩
      · have hsub : HSat β (owS S σ.blks β) w bl := fun id bk hm => hS.blk id bk (hb1 _ hm)
        exact hsub.move ho (Keep.refl _ _) (fun _ _ _ => sameB_refl) (fun _ _ _ _ => rfl)
      · obtain ⟨e, bk, hm, hr⟩ := hS.pins.2 id hid
        have h3 := List.all_eq_true.1 hc.2 id (List.mem_range.2 (by rw [hS.pins.1]; exact hid))
        have h4 : id ∈ bs := by simpa using h3
        rw [← hb2] at h4
        obtain ⟨⟨i, b⟩, hm2, e2⟩ := List.mem_map.1 h4
        simp only at e2
        subst e2
        have := nodup_fst hS.uniq (hb1 _ hm2) hm
        exact ⟨e, b, hm2, by rw [this]; exact hr⟩
    · cases h
  · cases h
def runK (P : Program) (ctr : Ctr) (body : Code) (unroll : Bool) (f : Nat) (st : List It) (σ : St) (sc : List Bool) (ks bs : List Nat) (nx : Nat) : List It × Option St × List Prop × List Bool :=
  match run P ctr body unroll f st σ sc with
  | (st', σ', ob, sc') => (st', restrict ks bs nx σ', ob, sc')
def runR (P : Program) (ctr : Ctr) (body : Code) (rs : Array ResultVar) (unroll : Bool) (f : Nat) (st : List It) (σ : St) (sc : List Bool) : List It × Option SV × List Prop × List Bool :=
  match run P ctr body unroll f st σ sc with
  | (st', σ', ob, sc') => (st', retS P rs σ', ob, sc')
theorem hold_cut (hm : P.follows .mixedOrders = true) {ctr : Ctr} (hctr : CtrOk P ctr) {Q : Exit → Act → World → Prop} [ExitOk Q] {unroll : Bool} {f : Nat} {st : List It} {σ : St} {sc : List Bool} {ks bs : List Nat} {nx : Nat} {st' : List It} {σ' : St} {ob : List Prop} {sc' : List Bool}
    (h : runK P ctr body unroll f st σ sc ks bs nx = (st', some σ', ob, sc')) (hob : All ob) (hk : Hold P body Q w0 S st' σ') : Hold P body Q w0 S st σ := by
  unfold runK at h
  cases hr : run P ctr body unroll f st σ sc with
  | mk q1 q =>
    obtain ⟨q2, q3, q4⟩ := q
    rw [hr] at h
    simp only [Prod.mk.injEq] at h
    obtain ⟨rfl, h2, rfl, rfl⟩ := h
    exact hold_run hm hctr unroll f sc hr hob fun β a w hS => hk β a w (Sat.restrict h2 hS)
theorem hwC (hm : P.follows .mixedOrders = true) {ctr : Ctr} (hctr : CtrOk P ctr) {Q : Exit → Act → World → Prop} [ExitOk Q] {st : List It} {σ : St} (f : Nat) (sc : List Bool) (ks bs : List Nat) (nx : Nat) (st' : List It) (σ' : St) (ob : List Prop)
    (h : runK P ctr body false f st σ sc ks bs nx = (st', some σ', ob, [])) (hob : All ob) (hk : Hold P body Q w0 S st' σ') : Hold P body Q w0 S st σ := hold_cut hm hctr h hob hk
theorem hwD (hm : P.follows .mixedOrders = true) {ctr : Ctr} (hctr : CtrOk P ctr) {Q : Exit → Act → World → Prop} [ExitOk Q] {st : List It} {σ : St} (f : Nat) (sc : List Bool) (ks bs : List Nat) (nx : Nat) (st' : List It) (σ' : St) (ob : List Prop)
    (h : runK P ctr body true f st σ sc ks bs nx = (st', some σ', ob, [])) (hob : All ob) (hk : Hold P body Q w0 S st' σ') : Hold P body Q w0 S st σ := hold_cut hm hctr h hob hk
theorem hold_end (hm : P.follows .mixedOrders = true) {ctr : Ctr} (hctr : CtrOk P ctr) {res : SV} {unroll : Bool} {f : Nat} {st : List It} {σ : St} {sc : List Bool} {r : SV} {ob : List Prop} {sc' : List Bool}
    (h : runR P ctr body fn.results unroll f st σ sc = ([], some r, ob, sc')) (hob : All ob) (he : r = res) : Hold P body (Fin P fn w0 S res) w0 S st σ := by
  unfold runR at h
  cases hr : run P ctr body unroll f st σ sc with
  | mk q1 q =>
    obtain ⟨q2, q3, q4⟩ := q
    rw [hr] at h
    simp only [Prod.mk.injEq] at h
    obtain ⟨rfl, h2, rfl, rfl⟩ := h
    exact hold_run hm hctr unroll f sc hr hob (hold_fin h2 he)
theorem Hold.cast {Q : Exit → Act → World → Prop} {st : List It} {σ σ' : St} (h : Hold P body Q w0 S st σ') (e : σ = σ') : Hold P body Q w0 S st σ := e ▸ h
end
end Go.Eng
namespace Go.Eng
def bodyOf (f : Func) : Code := match f.body with | some c => c | none => .skip
end Go.Eng
namespace Go.Eng
def rowNil (σ : St) (t : Nat) (e : TypeId) (s0 : SV) : Option St :=
  match getS σ.slots t, s0.slen with
  | some .nil, some 0 => putS (nilRow σ e) (some t) (.row σ.next s0)
  | _, _ => none
theorem hold_nil {P : Program} {body : Code} {Q : Exit → Act → World → Prop} {w0 : Fr} {S : Own} {st : List It} {σ σ' : St} {t : Nat} {e : TypeId} {s0 : SV} (h : rowNil σ t e s0 = some σ') (hk : Hold P body Q w0 S st σ') : Hold P body Q w0 S st σ := by
  intro β a w hS
  unfold rowNil at h
  split at h
  · rename_i hg hs
    obtain ⟨cs, hc, hl⟩ := slen_cells hs
    have hcs : cs = [] := List.eq_nil_of_length_eq_zero hl
    subst hcs
    have hgood : slGood s0 := by
      cases s0 <;> simp [slCells] at hc
      · rename_i k l; simp only [ints, List.map_eq_nil_iff] at hc; subst hc; intro n hn; cases hn
      · subst hc; intro n hn; cases hn
    have h1 := relV_scalar rfl rfl (hS.slot t _ (getS_mem hg))
    simp only [rel, List.cons.injEq, and_true] at h1
    have hv : relV (upd3 β σ.next 0 0 0) (owS S (nilRow σ e).blks (upd3 β σ.next 0 0 0)) w (.row σ.next s0) (a.tmps.getD t undef) := by
      rw [h1]
      exact rel_row (g := 0) (cap := 0) (n := 0) hc hgood rfl upd3_0 upd3_1 upd3_2 (Nat.le_refl _) (by simp [maxLen]) (fun _ => rfl) (fun h => absurd rfl h) (fun h => absurd rfl h)
    have := (hS.nilRow e).put h hv
    rw [put_self] at this
    exact hk _ _ _ this
  · cases h
end Go.Eng

namespace Go.Eng
def vl (b : Nat) : List Nat → Nat
  | [] => 0
  | x :: r => x + b * vl b r
def dg (b : Nat) : Nat → Nat → List Nat
  | 0, _ => []
  | n + 1, N => N % b :: dg b n (N / b)
theorem dg_vl {b : Nat} (hb : 0 < b) : ∀ (l : List Nat), (∀ x ∈ l, x < b) → dg b l.length (vl b l) = l
  | [], _ => rfl
  | x :: r, h => by
    have hx := h x (by simp)
    simp only [List.length_cons, dg, vl]
    have e1 : (x + b * vl b r) % b = x := by rw [Nat.add_mul_mod_self_left]; exact Nat.mod_eq_of_lt hx
    have e2 : (x + b * vl b r) / b = vl b r := by rw [Nat.add_mul_div_left _ _ hb, Nat.div_eq_of_lt hx, Nat.zero_add]
    rw [e1, e2, dg_vl hb r fun y hy => h y (by simp [hy])]
theorem dg_mod (b : Nat) : ∀ n N, dg b n (N % b ^ n) = dg b n N := by
  intro n
  induction n with
  | zero => intro N; rfl
  | succ n ih =>
    intro N
    simp only [dg]
    rw [Nat.pow_succ, Nat.mul_comm (b ^ n) b]
    have e1 : N % (b * b ^ n) % b = N % b := Nat.mod_mul_right_mod _ _ _
    have e2 : N % (b * b ^ n) / b = N / b % b ^ n := Nat.mod_mul_right_div_self _ _ _
    rw [e1, e2, ih]
theorem vl_set (b : Nat) : ∀ (l : List Nat) (i v : Nat), i < l.length → vl b (l.set i v) + b ^ i * l.getD i 0 = vl b l + b ^ i * v
  | [], i, v, h => by simp at h
  | x :: r, 0, v, _ => by simp [vl]; omega
  | x :: r, i + 1, v, h => by
    have ih := vl_set b r i v (by simpa using h)
    simp only [List.set_cons_succ, vl, List.getD_cons_succ, Nat.pow_succ]
    have e : b * (vl b (r.set i v) + b ^ i * r.getD i 0) = b * (vl b r + b ^ i * v) := by rw [ih]
    simp only [Nat.mul_add] at e
    have e1 : b ^ i * b * r.getD i 0 = b * (b ^ i * r.getD i 0) := by rw [Nat.mul_comm (b ^ i) b, Nat.mul_assoc]
    have e2 : b ^ i * b * v = b * (b ^ i * v) := by rw [Nat.mul_comm (b ^ i) b, Nat.mul_assoc]
    rw [e1, e2]
    omega
def M256 : Nat := 115792089237316195423570985008687907853269984665640564039457584007913129639936
end Go.Eng

namespace Go.Eng
def only (fs : List Nat) (t : Ctr) : Ctr := ⟨fun f args => if fs.contains f then t f args else none, fun _ _ _ => none⟩
def tAdd64 (args : List SV) : Option (SV × List Prop) :=
  match args with
  | [x, y, c] => match x.nat?, y.nat?, c.nat? with
    | some (.u64, x), some (.u64, y), some (.u64, c) => some (.tup [.u .u64 ((x + y + c) % 18446744073709551616), .u .u64 ((x + y + c) / 18446744073709551616)], [c ≤ 1])
    | _, _, _ => none
  | _ => none
def tSub64 (args : List SV) : Option (SV × List Prop) :=
  match args with
  | [x, y, c] => match x.nat?, y.nat?, c.nat? with
    | some (.u64, x), some (.u64, y), some (.u64, c) => some (.tup [.u .u64 ((x + 18446744073709551616 - y - c) % 18446744073709551616), .u .u64 (if x < y + c then 1 else 0)], [c ≤ 1])
    | _, _, _ => none
  | _ => none
def sub64Entry : Array Value → Sem Value := fun args => do
  let (x, y, b) ← Extern.MathBitsCarry.three "Sub64" args
  pure (Extern.MathBitsCarry.pair ((x + Extern.MathBitsCarry.m64 - y - b) % Extern.MathBitsCarry.m64) (if x < y + b then 1 else 0))
section
variable {P : Program} {f : FuncId} {fn : Func}
theorem three_run (name : String) (x y c : Nat) (hc : c ≤ 1) (w : World) : (Extern.MathBitsCarry.three name #[.int .u64 (x : Int), .int .u64 (y : Int), .int .u64 (c : Int)]).run P w = .ok (x, y, c) w := by
  have : c = 0 ∨ c = 1 := by omega
  rcases this with rfl | rfl <;> rfl
theorem args3 {x y c : SV} {x' y' c' : Nat} {vs : List Value} {S : Own} {w : World} (hx : x.nat? = some (.u64, x')) (hy : y.nat? = some (.u64, y')) (hc : c.nat? = some (.u64, c')) (hvs : relVs (fun _ => 0) S w [x, y, c] vs) :
    vs = [.int .u64 (x' : Int), .int .u64 (y' : Int), .int .u64 (c' : Int)] ∧ x' < 18446744073709551616 ∧ y' < 18446744073709551616 ∧ c' < 18446744073709551616 := by
  obtain ⟨v1, t1, rfl, ⟨cs1, r1, rfl⟩, v2, t2, rfl, ⟨cs2, r2, rfl⟩, v3, t3, rfl, ⟨cs3, r3, rfl⟩, rfl⟩ := hvs
  have s1 := nat?_sc hx
  have s2 := nat?_sc hy
  have s3 := nat?_sc hc
  obtain ⟨rfl, l1⟩ := nat?_ok hx r1
  obtain ⟨rfl, l2⟩ := nat?_ok hy r2
  obtain ⟨rfl, l3⟩ := nat?_ok hc r3
  simp only [s1.2, s2.2, s3.2, toV, List.headD_cons, Bool.false_eq_true, if_false]
  exact ⟨trivial, l1, l2, l3⟩
theorem add64_c (hf : P.funcs[f]? = some fn) (hname : (fn.name == "runtime.NumGoroutine") = false) (hb : fn.body.isNone = true) (hn : Extern.findNext fn = none) (he : Extern.find fn = some add64Entry) :
    ∀ args res ob, tAdd64 args = some (res, ob) → All ob → Contract P f args res := by
  intro args res ob h hob
  unfold tAdd64 at h
  split at h
  · rename_i x y c
    split at h
    · rename_i x' y' c' hx hy hc
      cases h
      intro w S vs hlt hvs
      obtain ⟨rfl, l1, l2, l3⟩ := args3 hx hy hc hvs
      have hc1 : c' ≤ 1 := hob.1
      unfold Invokes
      rw [run_callFunc_extern hf hname hb hn he]
      have hrun : (add64Entry [Value.int .u64 (x' : Int), .int .u64 (y' : Int), .int .u64 (c' : Int)].toArray).run P w = .ok (.tuple #[.int .u64 (((x' + y' + c') % 18446744073709551616 : Nat) : Int), .int .u64 (((x' + y' + c') / 18446744073709551616 : Nat) : Int)]) w := by
        simp only [add64Entry, Sem.run_bind, three_run "Add64" x' y' c' hc1, Result.andThen_ok, Sem.run_pure]
        rfl
      rw [hrun]
      simp only [Result.andThen_ok]
      exact ⟨Ext.refl w, _, rfl, _, _, rfl, ⟨_, rel_u (by simp only [lim]; omega), rfl⟩, _, _, rfl, ⟨_, rel_u (by simp only [lim]; omega), rfl⟩, rfl⟩
    · cases h
  · cases h
theorem sub64_c (hf : P.funcs[f]? = some fn) (hname : (fn.name == "runtime.NumGoroutine") = false) (hb : fn.body.isNone = true) (hn : Extern.findNext fn = none) (he : Extern.find fn = some sub64Entry) :
    ∀ args res ob, tSub64 args = some (res, ob) → All ob → Contract P f args res := by
  intro args res ob h hob
  unfold tSub64 at h
  split at h
  · rename_i x y c
    split at h
    · rename_i x' y' c' hx hy hc
      cases h
      intro w S vs hlt hvs
      obtain ⟨rfl, l1, l2, l3⟩ := args3 hx hy hc hvs
      have hc1 : c' ≤ 1 := hob.1
      unfold Invokes
      rw [run_callFunc_extern hf hname hb hn he]
      have hrun : (sub64Entry [Value.int .u64 (x' : Int), .int .u64 (y' : Int), .int .u64 (c' : Int)].toArray).run P w = .ok (.tuple #[.int .u64 (((x' + 18446744073709551616 - y' - c') % 18446744073709551616 : Nat) : Int), .int .u64 (((if x' < y' + c' then 1 else 0 : Nat)) : Int)]) w := by
        simp only [sub64Entry, Sem.run_bind, three_run "Sub64" x' y' c' hc1, Result.andThen_ok, Sem.run_pure]
        rfl
      rw [hrun]
      simp only [Result.andThen_ok]
      exact ⟨Ext.refl w, _, rfl, _, _, rfl, ⟨_, rel_u (by simp only [lim]; omega), rfl⟩, _, _, rfl, ⟨_, rel_u (by simp only [lim]; split <;> omega), rfl⟩, rfl⟩
    · cases h
  · cases h
end
end Go.Eng

namespace Go.Eng
def vF (a : List Nat) : Nat := vl 18446744073709551616 a
def dF (N : Nat) : List Nat := dg 18446744073709551616 4 N
def dB (N : Nat) : List Nat := dg 256 32 N
def fe (N : Nat) : SV := .arr .u64 4 (dF N)
def fld (N : Nat) : SV := .arr .u8 32 (dB N)
def t2 (g : List Nat → List Nat → SV) (args : List SV) : Option (SV × List Prop) :=
  match args with
  | [.arr .u64 4 a, .arr .u64 4 b] => some (g a b, [])
  | _ => none
def t1 (g : List Nat → SV) (args : List SV) : Option (SV × List Prop) :=
  match args with
  | [.arr .u64 4 a] => some (g a, [])
  | _ => none
def tMul64 (args : List SV) : Option (SV × List Prop) :=
  match args with
  | [x, y] => match x.nat?, y.nat? with
    | some (.u64, x), some (.u64, y) => some (.tup [.u .u64 (x * y / 18446744073709551616), .u .u64 (x * y % 18446744073709551616)], [])
    | _, _ => none
  | _ => none
theorem dF_mod (N : Nat) : dF (N % M256) = dF N := by unfold dF; exact dg_mod 18446744073709551616 4 N
theorem dF_congr {A B : Nat} (h : A % M256 = B % M256) : dF A = dF B := by rw [← dF_mod A, ← dF_mod B, h]
theorem dF_vF {a : List Nat} (h : a.length = 4 ∧ ∀ x ∈ a, x < lim .u64) : dF (vF a) = a := by
  have := dg_vl (b := 18446744073709551616) (by decide) a h.2
  rw [h.1] at this
  exact this
end Go.Eng

namespace Go.Eng
open Go.RowKit
def wk0 : SV → SV → Prop
  | .c k n, .u k' m => k = k' ∧ n = (m : Int) ∧ m < lim k
  | .c k n, .i k' m => k = k' ∧ n = m
  | .c k n, .c k' m => k = k' ∧ n = m
  | .u k n, .c k' m => k = k' ∧ (n : Int) = m
  | .u k n, .i k' m => k = k' ∧ (n : Int) = m
  | .i k n, .u k' m => k = k' ∧ n = (m : Int) ∧ m < lim k
  | .i k n, .c k' m => k = k' ∧ n = m
  | .cb x, .b y => x = y
  | .b x, .cb y => x = y
  | .sl _ l, .sli m => l = [] ∧ m = []
  | .nil, .sl _ l => l = []
  | .nil, .slq _ l => l = []
  | s, t => s = t
def wka : List SV → List SV → Prop
  | [], l => l = []
  | s :: r, l => match l with
    | [] => False
    | t :: q => wk0 s t ∧ wka r q
def wk : SV → SV → Prop
  | .ag l, .ag m => wka l m
  | s, t => wk0 s t
def wks : List (Nat × SV) → List (Nat × SV) → Prop
  | [], l => l = []
  | p :: r, l => match l with
    | [] => False
    | q :: t => p.1 = q.1 ∧ wk p.2 q.2 ∧ wks r t
section
variable {P : Program} {fn : Func} {body : Code} {w0 : Fr} {w : World} {S : Own} {σ : St} {β : Nat → Nat} {a : Act} {ow : Own}
theorem inR_of_lim {k : IntKind} {m : Nat} (h : m < lim k) : inR k (m : Int) := by
  cases k <;> simp only [lim, inR, lo] at * <;> omega
theorem wk0_ok {s t : SV} (h : wk0 s t) : ∀ {v : Value}, relV β ow w s v → relV β ow w t v := by
  intro v hv
  unfold wk0 at h
  split at h
  · obtain ⟨rfl, rfl, h3⟩ := h
    obtain ⟨cs, h1, rfl⟩ := hv
    simp only [rel] at h1
    exact ⟨cs, by simp only [rel]; exact ⟨h1.1, h3⟩, rfl⟩
  · obtain ⟨rfl, rfl⟩ := h
    obtain ⟨cs, h1, rfl⟩ := hv
    exact ⟨cs, by simpa only [rel] using h1, rfl⟩
  · obtain ⟨rfl, rfl⟩ := h
    exact hv
  · obtain ⟨rfl, rfl⟩ := h
    obtain ⟨cs, h1, rfl⟩ := hv
    simp only [rel] at h1
    exact ⟨cs, by simp only [rel]; exact ⟨h1.1, inR_of_lim h1.2⟩, rfl⟩
  · obtain ⟨rfl, rfl⟩ := h
    obtain ⟨cs, h1, rfl⟩ := hv
    simp only [rel] at h1
    exact ⟨cs, by simp only [rel]; exact ⟨h1.1, inR_of_lim h1.2⟩, rfl⟩
  · obtain ⟨rfl, rfl, h3⟩ := h
    obtain ⟨cs, h1, rfl⟩ := hv
    simp only [rel] at h1
    exact ⟨cs, by simp only [rel]; exact ⟨h1.1, h3⟩, rfl⟩
  · obtain ⟨rfl, rfl⟩ := h
    obtain ⟨cs, h1, rfl⟩ := hv
    exact ⟨cs, by simpa only [rel] using h1, rfl⟩
  · subst h
    obtain ⟨cs, h1, rfl⟩ := hv
    exact ⟨cs, by simpa only [rel] using h1, rfl⟩
  · subst h
    obtain ⟨cs, h1, rfl⟩ := hv
    exact ⟨cs, by simpa only [rel] using h1, rfl⟩
  · obtain ⟨rfl, rfl⟩ := h
    obtain ⟨cs, h1, rfl⟩ := hv
    simp only [rel] at h1
    obtain ⟨⟨v, rfl, hr⟩, _⟩ := h1
    exact ⟨[v], by simp only [rel]; exact ⟨⟨v, rfl, hr⟩, by simp⟩, rfl⟩
  · subst h
    obtain ⟨cs, h1, rfl⟩ := hv
    simp only [rel] at h1
    subst h1
    exact ⟨_, by simp only [rel]; exact ⟨⟨_, rfl, none, 0, 0, rfl, rfl, Nat.le_refl _, by decide, fun h => absurd h (by simp [ints])⟩, by simp⟩, rfl⟩
  · subst h
    obtain ⟨cs, h1, rfl⟩ := hv
    simp only [rel] at h1
    subst h1
    exact ⟨_, by simp only [rel]; exact ⟨by simp, _, [], rfl, ⟨none, 0, rfl, Nat.le_refl _, by decide, fun h => absurd h (by simp)⟩, rfl⟩, rfl⟩
  · subst h
    exact hv
theorem wk0_ids {s t : SV} (h : wk0 s t) : t.ids = s.ids := by
  unfold wk0 at h
  split at h <;> first | rfl | (subst h; rfl) | (obtain ⟨rfl, rfl⟩ := h; rfl)
theorem wk0_rel {s t : SV} (h : wk0 s t) {cs : List Value} (hr : rel β ow w s cs) : rel β ow w t cs := by
  by_cases e : s = t
  · subst e; exact hr
  · have hsc : s.isAgg = false ∧ s.isTup = false ∧ t.isAgg = false ∧ t.isTup = false := by
      unfold wk0 at h
      split at h <;> first | exact ⟨rfl, rfl, rfl, rfl⟩ | exact absurd h e
    obtain ⟨v, rfl⟩ := isAgg_cells hr hsc.1
    exact relV_scalar hsc.2.2.2 hsc.2.2.1 (wk0_ok h (relV_of1 hsc.1 hr))
theorem wka_rels : ∀ {l m : List SV}, wka l m → ∀ {cs : List Value}, rels β ow w l cs → rels β ow w m cs := by
  intro l
  induction l with
  | nil => intro m h cs hr; simp only [wka] at h; subst h; exact hr
  | cons s r ih =>
    intro m h cs hr
    cases m with
    | nil => simp [wka] at h
    | cons t q =>
      simp only [wka] at h
      simp only [rels] at hr ⊢
      obtain ⟨c1, c2, rfl, h1, h2⟩ := hr
      exact ⟨c1, c2, rfl, wk0_rel h.1 h1, ih h.2 h2⟩
theorem wk_rel {s t : SV} (h : wk s t) {cs : List Value} (hr : rel β ow w s cs) : rel β ow w t cs := by
  unfold wk at h
  split at h
  · simp only [rel] at hr ⊢; exact wka_rels h hr
  · exact wk0_rel h hr
theorem wk_ok {s t : SV} (h : wk s t) : ∀ {v : Value}, relV β ow w s v → relV β ow w t v := by
  intro v hv
  unfold wk at h
  split at h
  · obtain ⟨cs, h1, rfl⟩ := hv
    simp only [rel] at h1
    exact ⟨cs, by simp only [rel]; exact wka_rels h h1, rfl⟩
  · exact wk0_ok h hv
theorem wka_ids : ∀ {l m : List SV}, wka l m → idss m = idss l := by
  intro l
  induction l with
  | nil => intro m h; simp only [wka] at h; subst h; rfl
  | cons s r ih =>
    intro m h
    cases m with
    | nil => simp [wka] at h
    | cons t q => simp only [wka] at h; simp only [idss, wk0_ids h.1, ih h.2]
theorem wk_ids {s t : SV} (h : wk s t) : t.ids = s.ids := by
  unfold wk at h
  split at h
  · simp only [SV.ids]; exact wka_ids h
  · exact wk0_ids h
theorem wks_mem : ∀ {l m : List (Nat × SV)}, wks l m → ∀ d t, (d, t) ∈ m → ∃ s, (d, s) ∈ l ∧ wk s t := by
  intro l
  induction l with
  | nil => intro m h d t hm; simp only [wks] at h; subst h; cases hm
  | cons p r ih =>
    intro m h d t hm
    cases m with
    | nil => simp [wks] at h
    | cons q m =>
      simp only [wks] at h
      obtain ⟨h1, h2, h3⟩ := h
      rcases List.mem_cons.1 hm with e | hm
      · subst e
        refine ⟨p.2, ?_, h2⟩
        have e : p = (d, p.2) := by rw [show d = p.1 from h1.symm]
        rw [← e]
        exact List.mem_cons_self
      · obtain ⟨s, hs, hw⟩ := ih h3 d t hm
        exact ⟨s, List.mem_cons_of_mem _ hs, hw⟩
theorem Sat.weaken {sl sl' : List (Nat × SV)} {nt next m : Nat} {bl : List (Nat × Bk)} (h : wks sl sl') (hS : Sat w0 S ⟨nt, sl, bl, next, m⟩ β a w) : Sat w0 S ⟨nt, sl', bl, next, m⟩ β a w := by
  refine ⟨hS.defs, hS.size, fun d t hm => ?_, hS.blk, hS.low, hS.inj, hS.uniq, fun d t hm => ?_, hS.bndB, hS.ext, hS.lowS, hS.pins⟩
  · obtain ⟨s, hs, hw⟩ := wks_mem h d t hm
    exact wk_ok hw (hS.slot d s hs)
  · obtain ⟨s, hs, hw⟩ := wks_mem h d t hm
    rw [wk_ids hw]
    exact hS.bnd d s hs
theorem Hold.weaken {Q : Exit → Act → World → Prop} {st : List It} {sl sl' : List (Nat × SV)} {nt next m : Nat} {bl : List (Nat × Bk)} (h : Hold P body Q w0 S st ⟨nt, sl', bl, next, m⟩) (hw : wks sl sl') : Hold P body Q w0 S st ⟨nt, sl, bl, next, m⟩ :=
  fun β a w hS => h β a w (Sat.weaken hw hS)
def wkl : List SV → List SV → Prop
  | [], l => l = []
  | s :: r, l => match l with
    | [] => False
    | t :: q => wk s t ∧ wkl r q
def wkR : SV → SV → Prop
  | .tup l, .tup m => wkl l m
  | s, t => wk s t
theorem wk_ok1 {s t : SV} (h : wk s t) {v : Value} (hv : relV1 β ow w s v) : relV1 β ow w t v := by
  cases hs : s.isTup with
  | true =>
    cases s <;> simp [SV.isTup] at hs
    obtain ⟨cs, h1, _⟩ := hv
    simp only [rel] at h1
  | false =>
    have h1 : relV β ow w s v := by cases s <;> first | exact hv | (simp [SV.isTup] at hs)
    have h2 := wk_ok h h1
    cases ht : t.isTup with
    | true =>
      cases t <;> simp [SV.isTup] at ht
      cases s <;> simp [wk, wk0, SV.isTup] at h hs
    | false => cases t <;> first | exact h2 | (simp [SV.isTup] at ht)
theorem wkl_ok : ∀ {l m : List SV}, wkl l m → ∀ {vs : List Value}, relVs β ow w l vs → relVs β ow w m vs := by
  intro l
  induction l with
  | nil => intro m h vs hv; simp only [wkl] at h; subst h; exact hv
  | cons s r ih =>
    intro m h vs hv
    cases m with
    | nil => simp [wkl] at h
    | cons t q =>
      simp only [wkl] at h
      obtain ⟨v, tl, rfl, h1, h2⟩ := hv
      exact ⟨v, tl, rfl, wk_ok1 h.1 h1, ih h.2 h2⟩
theorem wkR_ok {s t : SV} (h : wkR s t) {v : Value} (hv : relV β ow w s v) : relV β ow w t v := by
  unfold wkR at h
  split at h
  · obtain ⟨vs, rfl, h1⟩ := hv
    exact ⟨vs, rfl, wkl_ok h h1⟩
  · exact wk_ok h hv
theorem hold_endw (hm : P.follows .mixedOrders = true) {ctr : Ctr} (hctr : CtrOk P ctr) {res : SV} {unroll : Bool} {f : Nat} {st : List It} {σ : St} {sc : List Bool} {r : SV} {ob : List Prop} {sc' : List Bool}
    (h : runR P ctr body fn.results unroll f st σ sc = ([], some r, ob, sc')) (hob : All ob) (he : wkR r res) : Hold P body (Fin P fn w0 S res) w0 S st σ := by
  unfold runR at h
  cases hr : run P ctr body unroll f st σ sc with
  | mk q1 q =>
    obtain ⟨q2, q3, q4⟩ := q
    rw [hr] at h
    simp only [Prod.mk.injEq] at h
    obtain ⟨rfl, h2, rfl, rfl⟩ := h
    refine hold_run hm hctr unroll f sc hr hob ?_
    intro β a w hS
    obtain ⟨v, hv, hr⟩ := retS_ok hS h2
    exact ⟨hS.defs, v, hv, hS.ext, wkR_ok he hr⟩
theorem hwE (hm : P.follows .mixedOrders = true) {ctr : Ctr} (hctr : CtrOk P ctr) {res : SV} {st : List It} {σ : St} (f : Nat) (sc : List Bool) (r : SV) (ob : List Prop)
    (h : runR P ctr body fn.results false f st σ sc = ([], some r, ob, [])) (hob : All ob) (he : wkR r res) : Hold P body (Fin P fn w0 S res) w0 S st σ := hold_endw hm hctr h hob he
theorem hwF (hm : P.follows .mixedOrders = true) {ctr : Ctr} (hctr : CtrOk P ctr) {res : SV} {st : List It} {σ : St} (f : Nat) (sc : List Bool) (r : SV) (ob : List Prop)
    (h : runR P ctr body fn.results true f st σ sc = ([], some r, ob, [])) (hob : All ob) (he : wkR r res) : Hold P body (Fin P fn w0 S res) w0 S st σ := hold_endw hm hctr h hob he
end
end Go.Eng

namespace Go.Eng
def addC (f : Nat) (e : List SV → Option (SV × List Prop)) (c : Ctr) : Ctr := ⟨fun g args => if g = f then e args else c.fn g args, c.fm⟩
def addM (f : Nat) (e : List Bk → List SV → Option (MRes × List Prop)) (c : Ctr) : Ctr := ⟨c.fn, fun g H args => if g = f then e H args else c.fm g H args⟩
theorem addC_ok {P : Program} {f : Nat} {e : List SV → Option (SV × List Prop)} {c : Ctr} (h : CtrOk P c)
    (he : ∀ args res ob, e args = some (res, ob) → All ob → Contract P f args res) : CtrOk P (addC f e c) := by
  refine ⟨?_, h.fm⟩
  intro g args res ob hg hob
  simp only [addC] at hg
  split at hg
  · rename_i e1; subst e1; exact he args res ob hg hob
  · exact h.fn g args res ob hg hob
theorem addM_ok {P : Program} {f : Nat} {e : List Bk → List SV → Option (MRes × List Prop)} {c : Ctr} (h : CtrOk P c)
    (he : ∀ H args r ob, e H args = some (r, ob) → All ob → ContractM P f H args r) : CtrOk P (addM f e c) := by
  refine ⟨h.fn, ?_⟩
  intro g H args r ob hg hob
  simp only [addM] at hg
  split at hg
  · rename_i e1; subst e1; exact he H args r ob hg hob
  · exact h.fm g H args r ob hg hob
theorem vl_take (b : Nat) : ∀ (l : List Nat) (j : Nat), j < l.length → vl b (l.take (j + 1)) = vl b (l.take j) + b ^ j * l.getD j 0 := by
  intro l
  induction l with
  | nil => intro j h; simp at h
  | cons x r ih =>
    intro j h
    cases j with
    | zero => simp [vl]
    | succ j =>
      have := ih j (by simpa using h)
      simp only [List.take_succ_cons, vl, this, List.getD_cons_succ, Nat.pow_succ, Nat.mul_add]
      rw [show b * (b ^ j * r.getD j 0) = b ^ j * b * r.getD j 0 by rw [Nat.mul_comm (b ^ j) b, Nat.mul_assoc]]
      omega
theorem getD_lt {l : List Nat} {b : Nat} (hb : 0 < b) (h : ∀ x ∈ l, x < b) (j : Nat) : l.getD j 0 < b := by
  rw [List.getD_eq_getElem?_getD]
  cases hj : l[j]? with
  | none => simpa using hb
  | some x => exact h x (List.mem_of_getElem? hj)
theorem getD_set_ne {l : List Nat} {i j v : Nat} (h : i ≠ j) : (l.set i v).getD j 0 = l.getD j 0 := by
  simp [List.getD_eq_getElem?_getD, List.getElem?_set_ne h]
theorem mem_set {l : List Nat} {b i v : Nat} (h : ∀ x ∈ l, x < b) (hv : v < b) : ∀ x ∈ l.set i v, x < b := by
  intro x hx
  rcases List.mem_or_eq_of_mem_set hx with hx | rfl
  · exact h x hx
  · exact hv
end Go.Eng

