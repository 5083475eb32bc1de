import Derived.Test.YthaabhoopofnhaaGreatE5
import Derived.KernelRfl
import Derived.Test.YthaabhoopofnhaaGreatProg
set_option linter.unusedVariables false
set_option linter.unusedSimpArgs false
set_option linter.unusedSectionVars false
namespace Go.Eng
open Go.RowKit
def outIds (m : Nat) (news : List Nat) : List Nat := List.range m ++ news
def getBs (blks : List (Nat × Bk)) : List Nat → Option (List Bk)
  | [] => some []
  | id :: r => match getB blks id, getBs blks r with
    | some b, some l => if (idss b.segs).isEmpty then some (b :: l) else none
    | _, _ => none
def restB (out : List Nat) (blks : List (Nat × Bk)) : List (Nat × Bk) := blks.filter fun p => !out.contains p.1
def ptrOf : SV → Option Nat
  | .ptr id 0 (.c 0) => some id
  | _ => none
theorem ptrOf_ok {s : SV} {id : Nat} (h : ptrOf s = some id) : s = .ptr id 0 (.c 0) := by
  unfold ptrOf at h
  split at h
  · cases h; rfl
  · cases h
theorem deepV_tup {H : List (Nat × Bk)} {f : Nat} {l : List SV} : deepV H f (.tup l) = none := by
  cases f with
  | zero => rfl
  | succ f => simp only [deepV, SV.rd, SV.isTup, Bool.not_true, Bool.and_false, Bool.false_eq_true, if_false]
def cloOf : SV → Option (Nat × Nat × Nat)
  | .clo2 f id id' => some (f, id, id')
  | _ => none
theorem cloOf_ok {s : SV} {f id id' : Nat} (h : cloOf s = some (f, id, id')) : s = .clo2 f id id' := by
  unfold cloOf at h
  split at h
  · cases h; rfl
  · cases h
def viewM (out : List Nat) (blks : List (Nat × Bk)) (s : SV) : Option SV :=
  if s.ids.isEmpty && !s.isTup then some s else match ptrOf s with
  | some id => match idxOf id out 0 with | some k => some (.ptr k 0 (.c 0)) | none => none
  | none => match cloOf s with
  | some (f, id, id') => (match idxOf id out 0, idxOf id' out 0 with | some k, some k' => some (.clo2 f k k') | _, _ => none)
  | none => match deepV (restB out blks) 80 s with | some r => if r.ids.isEmpty then some r else none | none => none
def retOneV (P : Program) (vw : SV → Option SV) (σ : St) (r : ResultVar) : Option SV :=
  match r with
  | .tmp t => match getS σ.slots t with | some s => vw s.rd | none => none
  | .cell ad t => match getS σ.slots ad, aggT P t, szT P t with
    | some (.ptr id off ix), some agg, some size => match getB σ.blks id with
      | some bk => match loadB bk agg size off ix with
        | some (s, []) => vw s.rd
        | _ => none
      | none => none
    | _, _, _ => none
def retAllV (P : Program) (vw : SV → Option SV) (σ : St) : List ResultVar → Option (List SV)
  | [] => some []
  | r :: l => match retOneV P vw σ r, retAllV P vw σ l with
    | some s, some t => some (s :: t)
    | _, _ => none
def retM (P : Program) (rs : Array ResultVar) (news : List Nat) (σ : St) : Option MRes :=
  match getBs σ.blks (outIds σ.m news), retAllV P (viewM (outIds σ.m news) σ.blks) σ rs.toList with
  | some bs, some l => if (outIds σ.m news).Nodup then some ⟨joinR l, bs.take σ.m, bs.drop σ.m⟩ else none
  | _, _ => none
def FinQ (P : Program) (fn : Func) (F : Fr) (S : Own) (r : MRes) (a : Act) (w : World) : Prop :=
  a.defers = [] ∧ ∃ (v : Value) (β' : Nat → Nat), (results fn a.tmps).run P w = .ok v w ∧ (∀ i, i < F.m → β' i = F.pin i) ∧ Bel F w ∧
    relV β' (owS S (numB 0 (r.upd ++ r.new)) β') w r.res v ∧ HSat β' (owS S (numB 0 (r.upd ++ r.new)) β') w (numB 0 (r.upd ++ r.new)) ∧
    (∀ i j bi bj, (i, bi) ∈ numB 0 (r.upd ++ r.new) → (j, bj) ∈ numB 0 (r.upd ++ r.new) → live β' i bi → live β' j bj → β' i = β' j → i = j) ∧
    (∀ i bk, (i, bk) ∈ numB 0 (r.upd ++ r.new) → live β' i bk → i < F.m ∨ F.w.heap.size ≤ β' i)
def FinM (P : Program) (fn : Func) (F : Fr) (S : Own) (r : MRes) : Exit → Act → World → Prop
  | .normal, a, w => FinQ P fn F S r a w
  | .ret, a, w => FinQ P fn F S r a w
  | _, _, _ => False
section
variable {P : Program} {fn : Func} {body : Code} {w0 : Fr} {w : World} {S : Own} {σ : St} {β : Nat → Nat} {a : Act}
instance {r : MRes} : ExitOk (FinM P fn w0 S r) := ⟨fun _ _ _ h => h, fun _ _ h => h⟩
theorem getBs_ok {blks : List (Nat × Bk)} : ∀ {ids : List Nat} {bs : List Bk}, getBs blks ids = some bs → bs.length = ids.length ∧
    ∀ (k id : Nat), ids[k]? = some id → ∃ b, bs[k]? = some b ∧ getB blks id = some b ∧ idss b.segs = [] := by
  intro ids
  induction ids with
  | nil => intro bs h; simp only [getBs] at h; cases h; exact ⟨rfl, fun k id h => by simp at h⟩
  | cons id ids ih =>
    intro bs h
    simp only [getBs] at h
    split at h
    · rename_i b l hb hl
      split at h
      · rename_i he
        cases h
        obtain ⟨h1, h2⟩ := ih hl
        refine ⟨by simp [h1], fun k i hk => ?_⟩
        cases k with
        | zero => simp at hk; subst hk; exact ⟨b, rfl, hb, by simpa using he⟩
        | succ k => simp at hk; obtain ⟨c, hc⟩ := h2 k i hk; exact ⟨c, by simpa using hc.1, hc.2⟩
      · cases h
    · cases h
theorem retOneV_ok (hS : Sat w0 S σ β a w) {vw : SV → Option SV} {β' : Nat → Nat} {ow' : Own} (hvw : ∀ s r v, vw s = some r → relV β (owS S σ.blks β) w s v → relV1 β' ow' w r v) {r : ResultVar} {s : SV} (h : retOneV P vw σ r = some s) :
    ∃ v, (resF a.tmps r).run P w = .ok v w ∧ relV1 β' ow' w s v := by
  cases r with
  | tmp t =>
    simp only [retOneV] at h
    split at h
    · rename_i s' hs
      exact ⟨_, rfl, hvw _ _ _ h (rd_ok (hS.slot t s' (getS_mem hs)))⟩
    · cases h
  | cell ad t =>
    simp only [retOneV] at h
    split at h
    · rename_i id off ix agg size hs ha hsz
      split at h
      · rename_i bk hg
        split at h
        · rename_i s' hl
          have h1 := relV_scalar rfl rfl (hS.slot ad _ (getS_mem hs))
          simp only [rel, List.cons.injEq, and_true] at h1
          obtain ⟨cs, hr, hb⟩ := (hS.blk id bk (getB_both hg).1).1 (getB_both hg).2
          obtain ⟨v, hrun, hv⟩ := loadB_ok (P := P) hl trivial ha hsz hr hb
          refine ⟨v, ?_, hvw _ _ _ h (rd_ok hv)⟩
          simp only [Instr.loadAt, Instr.sureAddr, Sem.run_bind, Sem.run_pure, Result.andThen_ok] at hrun
          simp only [resF, h1, asAddr, Sem.run_bind, Sem.run_pure, Result.andThen_ok]
          exact hrun
        · cases h
      · cases h
    · cases h
theorem retAllV_ok (hS : Sat w0 S σ β a w) {vw : SV → Option SV} {β' : Nat → Nat} {ow' : Own} (hvw : ∀ s r v, vw s = some r → relV β (owS S σ.blks β) w s v → relV1 β' ow' w r v) : ∀ {rs : List ResultVar} {l : List SV}, retAllV P vw σ rs = some l →
    ∃ vs, (rs.mapM (resF a.tmps)).run P w = .ok vs w ∧ relVs β' ow' w l vs ∧ vs.length = rs.length := by
  intro rs
  induction rs with
  | nil => intro l h; simp only [retAllV] at h; cases h; exact ⟨[], by simp, rfl, rfl⟩
  | cons r rs ih =>
    intro l h
    simp only [retAllV] at h
    split at h
    · rename_i s t h1 h2
      cases h
      obtain ⟨v, hv, hr⟩ := retOneV_ok hS hvw h1
      obtain ⟨vs, hvs, hrs, hlen⟩ := ih h2
      refine ⟨v :: vs, ?_, ⟨v, vs, rfl, hr, hrs⟩, by simp [hlen]⟩
      rw [List.mapM_cons, Sem.run_bind, hv]
      simp only [Result.andThen_ok, Sem.run_bind, hvs, Sem.run_pure]
    · cases h
theorem joined {rs : Array ResultVar} {l : List SV} {vs : List Value} {β' : Nat → Nat} {ow' : Own} (hf : fn.results = rs) (hvs : (rs.toList.mapM (resF a.tmps)).run P w = .ok vs w) (hrs : relVs β' ow' w l vs) :
    ∃ v, (results fn a.tmps).run P w = .ok v w ∧ relV β' ow' w (joinR l) v := by
  subst hf
  have hm : (fn.results.mapM (resF a.tmps)).run P w = .ok vs.toArray w := by
    rw [Array.mapM_eq_mapM_toList, Sem.run_map, hvs]; rfl
  have hll : l.length = vs.length := by
    clear hm hvs
    induction l generalizing vs with
    | nil => rw [hrs]; rfl
    | cons s l ih => obtain ⟨v, t, rfl, _, h2⟩ := hrs; simp [ih h2]
  by_cases h1 : vs.length = 1
  · obtain ⟨v, rfl⟩ := List.length_eq_one_iff.1 h1
    obtain ⟨s, rfl⟩ := List.length_eq_one_iff.1 (hll.trans h1)
    obtain ⟨v', t, e, hr, _⟩ := hrs
    cases e
    refine ⟨v, ?_, relV_up hr⟩
    rw [results_eq, Sem.run_bind, hm]
    simp
  · refine ⟨.tuple vs.toArray, ?_, ?_⟩
    · rw [results_eq, Sem.run_bind, hm]
      simp [h1]
    · have : joinR l = .tup l := by
        cases l with
        | nil => rfl
        | cons s l => cases l with
          | nil => simp at hll; exact absurd hll.symm h1
          | cons t l => rfl
      rw [this]
      exact ⟨vs, rfl, hrs⟩
theorem out_low {m i : Nat} {news : List Nat} (h : i < m) : (outIds m news)[i]? = some i := by
  unfold outIds
  rw [List.getElem?_append_left (by simpa using h)]
  simp [h]
theorem out_high {m i id : Nat} {news : List Nat} (hi : m ≤ i) (hn : (outIds m news).Nodup) (h : (outIds m news)[i]? = some id) : m ≤ id := by
  rcases Nat.lt_or_ge id m with hl | hl
  · exfalso
    have h1 := out_low (news := news) hl
    have hi' := (List.getElem?_eq_some_iff.1 h).1
    have := (List.getElem?_inj hi' hn).1 (h.trans h1.symm)
    omega
  · exact hl
theorem hold_finM {res r : MRes} {news : List Nat} (h : retM P fn.results news σ = some r) (he : r = res) : Hold P body (FinM P fn w0 S res) w0 S [] σ := by
  intro β a w hS
  subst he
  unfold retM at h
  split at h
  · rename_i bs l hbs hl
    split at h
    · rename_i hnd
      cases h
      have hm : σ.m = w0.m := hS.pins.1
      obtain ⟨hblen, hbget⟩ := getBs_ok hbs
      have htd : bs.take σ.m ++ bs.drop σ.m = bs := List.take_append_drop _ _
      have hplain : ∀ b ∈ bs, b.row = false := by
        intro b hb
        obtain ⟨k, hk, rfl⟩ := List.getElem_of_mem hb
        obtain ⟨c, h1, h2, _⟩ := hbget k ((outIds σ.m news)[k]'(by omega)) (by simp)
        rw [List.getElem?_eq_getElem hk] at h1
        cases h1
        exact (getB_both h2).2
      have hmemN : ∀ k b, (k, b) ∈ numB 0 bs → ∃ id, (outIds σ.m news)[k]? = some id ∧ getB σ.blks id = some b ∧ idss b.segs = [] := by
        intro k b hk
        obtain ⟨_, hk⟩ := (numB_plain hplain).1 hk
        simp only [Nat.sub_zero] at hk
        have hlt := (List.getElem?_eq_some_iff.1 hk).1
        refine ⟨(outIds σ.m news)[k]'(by omega), by simp, ?_⟩
        obtain ⟨c, h1, h2⟩ := hbget k ((outIds σ.m news)[k]'(by omega)) (by simp)
        rw [hk] at h1
        cases h1
        exact h2
      let β' : Nat → Nat := fun k => β ((outIds σ.m news).getD k 0)
      have hβ' : ∀ {k id}, (outIds σ.m news)[k]? = some id → β' k = β id := fun {k id} hk => by
        show β ((outIds σ.m news).getD k 0) = β id
        rw [List.getD_eq_getElem?_getD, hk]; rfl
      have hsub : ∀ b j, owS S (numB 0 bs) β' b j → owS S σ.blks β b j := by
        rintro b j (hs | ⟨k, bk, hk, e, hr⟩)
        · exact .inl hs
        · obtain ⟨id, h1, h2, h3⟩ := hmemN k bk hk
          refine .inr ⟨id, bk, getB_mem h2, by rw [← hβ' h1]; exact e, fun hr => ?_⟩
          rw [(getB_both h2).2] at hr; cases hr
      have hvw : ∀ s r v, viewM (outIds σ.m news) σ.blks s = some r → relV β (owS S σ.blks β) w s v → relV1 β' (owS S (numB 0 bs) β') w r v := by
        intro s r v h hv
        unfold viewM at h
        split at h
        · rename_i hc
          simp only [Bool.and_eq_true, List.isEmpty_iff, Bool.not_eq_true'] at hc
          cases h
          exact relV1_mono (fun b j _ h => hsub b j h) (Keep.refl _ _) (fun id hid => by rw [hc.1] at hid; cases hid) (relV_one hc.2 hv)
        · split at h
          · rename_i id hp
            obtain rfl := ptrOf_ok hp
            split at h
            · rename_i k hk
              cases h
              have h1 := relV_scalar rfl rfl hv
              simp only [rel, List.cons.injEq, and_true] at h1
              subst h1
              obtain ⟨_, _, hg⟩ := idxOf_ok hk
              simp only [Nat.sub_zero] at hg
              refine ⟨_, by simp only [rel]; rfl, ?_⟩
              rw [hβ' hg]
              rfl
            · cases h
          · split at h
            · rename_i f id id' hp
              obtain rfl := cloOf_ok hp
              split at h
              · rename_i k k' hk hk'
                cases h
                have h1 := relV_scalar rfl rfl hv
                simp only [rel, List.cons.injEq, and_true] at h1
                subst h1
                obtain ⟨_, _, hg⟩ := idxOf_ok hk
                obtain ⟨_, _, hg'⟩ := idxOf_ok hk'
                simp only [Nat.sub_zero] at hg hg'
                refine ⟨_, by simp only [rel]; rfl, ?_⟩
                rw [hβ' hg, hβ' hg']
                rfl
              · cases h
            split at h
            · rename_i r' hd
              split at h
              · rename_i hids
                cases h
                have ht : s.isTup = false := by
                  cases s <;> first | rfl | (rw [deepV_tup] at hd; cases hd)
                obtain ⟨cs, h1, rfl⟩ := relV_one ht hv
                have hrest : HSat β (owS S σ.blks β) w (restB (outIds σ.m news) σ.blks) := fun id bk hm => hS.blk id bk (List.mem_filter.1 hm).1
                obtain ⟨h2, h3⟩ := (deep_ok hrest (S := owS S (numB 0 bs) β') hsub (fun id bk hg j hs => by
                  obtain ⟨hgm, hout⟩ := List.mem_filter.1 (getB_mem hg)
                  have hlive := live_plain (β := β) (id := id) (getB_both hg).2
                  rcases hs with hs | ⟨k, bk', hk, e, _⟩
                  · have h1 := hS.lowS _ _ hs
                    rcases hS.low id _ hgm hlive with h2 | h2
                    · omega
                    · exact h1.2 h2
                  · obtain ⟨id', h4, h5, _⟩ := hmemN k bk' hk
                    rw [hβ' h4] at e
                    have := hS.inj id' id _ _ (getB_mem h5) hgm (live_plain (getB_both h5).2) hlive e
                    subst this
                    simp only [Bool.not_eq_true', List.contains_eq_mem, decide_eq_false_iff_not] at hout
                    exact hout (List.mem_of_getElem? h4)) 80).1 hd h1
                refine ⟨cs, rel_mono (fun _ _ _ h => h) (Keep.refl _ _) _ _ (fun id hid => by rw [List.isEmpty_iff.1 hids] at hid; cases hid) h2, by rw [h3]⟩
              · cases h
            · cases h
      obtain ⟨vs, hvs, hrs, _⟩ := retAllV_ok hS hvw hl
      obtain ⟨v, hv, hr⟩ := joined rfl hvs hrs
      have hpin : ∀ i, i < w0.m → β' i = w0.pin i := fun i hi => by
        rw [hβ' (out_low (by rw [hm]; exact hi))]
        exact (hS.pins.2 i hi).1
      refine ⟨hS.defs, v, β', hv, hpin, hS.ext, ?_, ?_, ?_, ?_⟩
      · simpa only [htd] using hr
      · simp only [htd]
        intro k bk hk
        obtain ⟨id, h1, h2, h3⟩ := hmemN k bk hk
        refine ⟨fun _ => ?_, fun hr => by rw [(getB_both h2).2] at hr; cases hr⟩
        obtain ⟨cs, h4, h5⟩ := (hS.blk id bk (getB_mem h2)).1 (getB_both h2).2
        exact ⟨cs, rels_mono (fun b j _ h => hsub b j h) (Keep.refl _ _) _ _ (fun i hi => by rw [h3] at hi; cases hi) h4, by rw [hβ' h1]; exact h5⟩
      · simp only [htd]
        intro i j bi bj hi hj _ _ e
        obtain ⟨id1, a1, a2, _⟩ := hmemN i bi hi
        obtain ⟨id2, b1, b2, _⟩ := hmemN j bj hj
        rw [hβ' a1, hβ' b1] at e
        have := hS.inj id1 id2 _ _ (getB_mem a2) (getB_mem b2) (live_plain (getB_both a2).2) (live_plain (getB_both b2).2) e
        subst this
        exact (List.getElem?_inj (List.getElem?_eq_some_iff.1 a1).1 hnd).1 (a1.trans b1.symm)
      · simp only [htd]
        intro i bk hi _
        rcases Nat.lt_or_ge i w0.m with hl | hl
        · exact .inl hl
        · right
          obtain ⟨id, a1, a2, _⟩ := hmemN i bk hi
          have hge := out_high (by rw [hm]; exact hl) hnd a1
          rw [hβ' a1]
          rcases hS.low id bk (getB_mem a2) (live_plain (getB_both a2).2) with h1 | ⟨i', hi', e⟩
          · exact h1
          · exfalso
            obtain ⟨e2, b2, hm2, hr2⟩ := hS.pins.2 i' hi'
            have := hS.inj i' id _ _ hm2 (getB_mem a2) (live_plain hr2) (live_plain (getB_both a2).2) (by rw [e2, e])
            omega
    · cases h
  · cases h
def initM (H : List Bk) (args : List SV) (nt : Nat) : St := { nt, slots := initSlots 0 args, blks := numB 0 H, next := H.length, m := H.length }
theorem contractM {f : FuncId} {H : List Bk} {args : List SV} {res : MRes} (hf : P.funcs[f]? = some fn) (hb : fn.body = some body) (hname : (fn.name == "runtime.NumGoroutine") = false) (hn : Nat.ble args.length fn.ntmps = true)
    (hids : (idss args).all (fun i => decide (i < H.length)) = true) (hH : H.all plainB = true)
    (h : pureF.pureFs args → (∀ b ∈ H, pureF.pureFs b.segs) → ∀ (F : Fr) (S : Own), F.m = H.length → Hold P body (FinM P fn F S res) F S [.at []] (initM H args fn.ntmps)) : ContractM P f H args res := by
  intro w S β vs hSlt _ hsat hinj hvs
  have hp : ∀ b ∈ H, b.row = false ∧ idss b.segs = [] := fun b hb => by
    have := List.all_eq_true.1 hH b hb
    simpa [plainB] using this
  have hpl : ∀ b ∈ H, b.row = false := fun b hb => (hp b hb).1
  have hmem : ∀ i b, (i, b) ∈ numB 0 H → i < H.length ∧ b ∈ H := fun i b hi => by
    obtain ⟨_, h2⟩ := (numB_plain hpl).1 hi
    simp only [Nat.sub_zero] at h2
    exact ⟨(List.getElem?_eq_some_iff.1 h2).1, List.mem_of_getElem? h2⟩
  obtain ⟨hlen, hget⟩ := relVs_get hvs
  have hn := Nat.le_of_ble_eq_true hn
  unfold Invokes
  have hcall : (callFunc f vs.toArray).run P w = .ok (.enter f vs.toArray) w := by
    have hne : ¬ fn.name = "runtime.NumGoroutine" := by simpa using hname
    simp [callFunc, hf, hb, hne]
  rw [hcall]
  simp only
  refine calls_of_wp hf hb ?_
  have hS : Sat ⟨w, H.length, β⟩ S (initM H args fn.ntmps) β { tmps := vs.toArray ++ Array.replicate (fn.ntmps - vs.toArray.size) undef, defers := [] } w := by
    refine ⟨rfl, ?_, ?_, hsat, ?_, ?_, numB_nodup 0, ?_, ?_, ⟨rfl, rfl, rfl, Nat.le_refl _, fun _ _ _ => rfl⟩, ?_, rfl, ?_⟩
    · simp [initM]; omega
    · intro d s hm
      obtain ⟨_, hd⟩ := initSlots_mem hm
      simp only [Nat.sub_zero] at hd
      obtain ⟨v, hv, hr⟩ := hget d s hd
      have hlt : d < vs.length := by
        rcases Nat.lt_or_ge d vs.length with h | h
        · exact h
        · rw [List.getElem?_eq_none h] at hv; cases hv
      have e : ({ tmps := vs.toArray ++ Array.replicate (fn.ntmps - vs.toArray.size) undef, defers := [] } : Act).tmps.getD d undef = v := by
        rw [Array.getD_eq_getD_getElem?, Array.getElem?_append_left (by simpa using hlt)]
        simp [hv]
      rw [e]
      exact relV_up hr
    · intro id bk hm _
      exact .inr ⟨id, (hmem id bk hm).1, rfl⟩
    · intro i j bi bj hi hj _ _ e
      exact hinj i j (hmem i bi hi).1 (hmem j bj hj).1 e
    · intro d s hm id hi
      obtain ⟨_, hd⟩ := initSlots_mem hm
      have : id ∈ idss args := idss_get hi (by simpa using hd)
      have := List.all_eq_true.1 hids id this
      simpa [initM] using this
    · intro id bk hm
      obtain ⟨h1, h2⟩ := hmem id bk hm
      refine ⟨h1, fun j hj => ?_, fun hr => ?_⟩
      · rw [(hp bk h2).2] at hj; cases hj
      · rw [(hp bk h2).1] at hr; cases hr
    · intro b j hs
      refine ⟨(hSlt b j hs).1, fun ⟨i, hi, e⟩ => ?_⟩
      exact (hSlt b j hs).2 i hi e
    · intro id hid
      refine ⟨rfl, H[id]'hid, (numB_plain hpl).2 ⟨Nat.zero_le _, by simp⟩, hpl _ (List.getElem_mem _)⟩
  have hpb : ∀ b ∈ H, pureF.pureFs b.segs := fun b hb => by
    obtain ⟨k, hk, rfl⟩ := List.getElem_of_mem hb
    obtain ⟨cs, h1, _⟩ := (hsat k H[k] ((numB_plain hpl).2 ⟨Nat.zero_le _, by simp⟩)).1 (hpl _ (List.getElem_mem _))
    exact pureFs_ok _ cs h1
  have := h (pureFs_vs args vs hvs) hpb ⟨w, H.length, β⟩ S rfl _ _ _ hS
  simp only [contQ, nav] at this
  refine wp_mono this fun e a w' hq => ?_
  cases e <;> simp only [FinM] at hq <;> try exact hq.elim
  all_goals
    obtain ⟨h1, v, β', h2, h3, h4, h5, h6, h7, h8⟩ := hq
    exact ⟨h1, v, h2, v, rfl, β', h3, h4, h5, h6, h7, h8⟩
def runM (P : Program) (ctr : Ctr) (body : Code) (rs : Array ResultVar) (news : List Nat) (unroll : Bool) (f : Nat) (st : List It) (σ : St) (sc : List Bool) : List It × Option MRes × List Prop × List Bool :=
  match run P ctr body unroll f st σ sc with
  | (st', σ', ob, sc') => (st', retM P rs news σ', ob, sc')
theorem hold_endM (hm : P.follows .mixedOrders = true) {ctr : Ctr} (hctr : CtrOk P ctr) {res : MRes} {news : List Nat} {unroll : Bool} {f : Nat} {st : List It} {σ : St} {sc : List Bool} {r : MRes} {ob : List Prop} {sc' : List Bool}
    (h : runM P ctr body fn.results news unroll f st σ sc = ([], some r, ob, sc')) (hob : All ob) (he : r = res) : Hold P body (FinM P fn w0 S res) w0 S st σ := by
  unfold runM at h
  cases hr : run P ctr body unroll f st σ sc with
  | mk q1 q =>
    obtain ⟨q2, q3, q4⟩ := q
    rw [hr] at h
    simp only [Prod.mk.injEq] at h
    obtain ⟨rfl, h2, rfl, rfl⟩ := h
    exact hold_run hm hctr unroll f sc hr hob (hold_finM h2 he)
end
end Go.Eng

namespace Go.Eng
open Go.RowKit
def wkB : List Bk → List Bk → Prop
  | [], l => l = []
  | a :: r, l => match l with
    | [] => False
    | b :: s => a.ty = b.ty ∧ a.row = b.row ∧ wkl a.segs b.segs ∧ wkB r s
def wkM (r s : MRes) : Prop := wkR r.res s.res ∧ wkB (r.upd ++ r.new) (s.upd ++ s.new)
section
variable {P : Program} {fn : Func} {body : Code} {w0 : Fr} {w : World} {S : Own} {σ : St} {β : Nat → Nat} {a : Act} {ow : Own}
theorem wk0_refl (s : SV) : wk0 s s := by cases s <;> simp [wk0]
theorem wka_refl : ∀ l : List SV, wka l l
  | [] => rfl
  | s :: r => ⟨wk0_refl s, wka_refl r⟩
theorem wk_refl (s : SV) : wk s s := by cases s <;> simp only [wk] <;> first | exact wka_refl _ | exact wk0_refl _
theorem wkl_refl : ∀ l : List SV, wkl l l
  | [] => rfl
  | s :: r => ⟨wk_refl s, wkl_refl r⟩
theorem wkR_refl (s : SV) : wkR s s := by cases s <;> first | (simp only [wkR]; exact wk_refl _) | (simp only [wkR]; exact wkl_refl _)
theorem wkB_refl : ∀ l : List Bk, wkB l l
  | [] => rfl
  | _ :: r => ⟨rfl, rfl, wkl_refl _, wkB_refl r⟩
theorem wkM_of {r s : MRes} (h : r = s) : wkM r s := h ▸ ⟨wkR_refl _, wkB_refl _⟩
theorem wkR_of {r s : SV} (h : r = s) : wkR r s := h ▸ wkR_refl _
theorem wkl_rels : ∀ {l m : List SV}, wkl l m → ∀ {cs : List Value}, rels β ow w l cs → rels β ow w m cs := by
  intro l
  induction l with
  | nil => intro m h cs hr; simp only [wkl] at h; subst h; exact hr
  | cons s r ih =>
    intro m h cs hr
    cases m with
    | nil => simp [wkl] at h
    | cons t q =>
      simp only [wkl] at h
      simp only [rels] at hr ⊢
      obtain ⟨c1, c2, rfl, h1, h2⟩ := hr
      exact ⟨c1, c2, rfl, wk_rel h.1 h1, ih h.2 h2⟩
theorem numB_wk : ∀ {L M : List Bk}, wkB L M → ∀ {k i : Nat}, (∀ b', (i, b') ∈ numB k M → ∃ b, (i, b) ∈ numB k L ∧ b.ty = b'.ty ∧ b.row = b'.row ∧ wkl b.segs b'.segs) ∧ (∀ b, (i, b) ∈ numB k L → ∃ b', (i, b') ∈ numB k M ∧ b.ty = b'.ty ∧ b.row = b'.row ∧ wkl b.segs b'.segs) := by
  intro L
  induction L with
  | nil => intro M h k i; simp only [wkB] at h; subst h; exact ⟨fun b' hb => by simp [numB] at hb, fun b hb => by simp [numB] at hb⟩
  | cons a r ih =>
    intro M h k i
    cases M with
    | nil => simp [wkB] at h
    | cons b s =>
      simp only [wkB] at h
      obtain ⟨h1, h2, h3, h4⟩ := h
      simp only [numB, List.mem_cons, Prod.mk.injEq]
      rw [h2]
      constructor
      · rintro b' (⟨rfl, rfl⟩ | hb)
        · exact ⟨a, .inl ⟨rfl, rfl⟩, h1, h2, h3⟩
        · obtain ⟨c, hc, e⟩ := (ih h4).1 b' hb
          exact ⟨c, .inr hc, e⟩
      · rintro b' (⟨rfl, rfl⟩ | hb)
        · exact ⟨b, .inl ⟨rfl, rfl⟩, h1, h2, h3⟩
        · obtain ⟨c, hc, e⟩ := (ih h4).2 b' hb
          exact ⟨c, .inr hc, e⟩
theorem FinQ.weaken {F : Fr} {r s : MRes} (h : FinQ P fn F S r a w) (hw : wkM r s) : FinQ P fn F S s a w := by
  obtain ⟨h1, v, β', h2, h3, h4, h5, h6, h7, h8⟩ := h
  have how : owS S (numB 0 (s.upd ++ s.new)) β' = owS S (numB 0 (r.upd ++ r.new)) β' := by
    funext b j
    apply propext
    constructor
    · rintro (hs | ⟨i, bk, hm, e, hr⟩)
      · exact .inl hs
      · obtain ⟨c, hc, _, e2, _⟩ := (numB_wk hw.2).1 bk hm
        exact .inr ⟨i, c, hc, e, by rw [e2]; exact hr⟩
    · rintro (hs | ⟨i, bk, hm, e, hr⟩)
      · exact .inl hs
      · obtain ⟨c, hc, _, e2, _⟩ := (numB_wk hw.2).2 bk hm
        exact .inr ⟨i, c, hc, e, by rw [← e2]; exact hr⟩
  have hlive : ∀ {i : Nat} {b b' : Bk}, b.row = b'.row → live β' i b' → live β' i b := fun e hl hr => hl (by rw [← e]; exact hr)
  refine ⟨h1, v, β', h2, h3, h4, ?_, ?_, ?_, ?_⟩
  · rw [how]; exact wkR_ok hw.1 h5
  · rw [how]
    intro i b' hm
    obtain ⟨c, hc, e1, e2, e3⟩ := (numB_wk hw.2).1 b' hm
    refine ⟨fun hr => ?_, fun hr hn => ?_⟩
    · obtain ⟨cs, q1, q2⟩ := (h6 i c hc).1 (by rw [e2]; exact hr)
      exact ⟨cs, wkl_rels e3 q1, by rw [← e1]; exact q2⟩
    · obtain ⟨cs, q1, q2⟩ := (h6 i c hc).2 (by rw [e2]; exact hr) hn
      exact ⟨cs, by rw [← e1]; exact q1, q2⟩
  · intro i j bi bj hi hj li lj e
    obtain ⟨c, hc, _, e2, _⟩ := (numB_wk hw.2).1 bi hi
    obtain ⟨d, hd, _, e3, _⟩ := (numB_wk hw.2).1 bj hj
    exact h7 i j c d hc hd (hlive e2 li) (hlive e3 lj) e
  · intro i bk hi hl
    obtain ⟨c, hc, _, e2, _⟩ := (numB_wk hw.2).1 bk hi
    exact h8 i c hc (hlive e2 hl)
theorem hold_endMw (hm : P.follows .mixedOrders = true) {ctr : Ctr} (hctr : CtrOk P ctr) {res : MRes} {news : List Nat} {unroll : Bool} {f : Nat} {st : List It} {σ : St} {sc : List Bool} {r : MRes} {ob : List Prop} {sc' : List Bool}
    (h : runM P ctr body fn.results news unroll f st σ sc = ([], some r, ob, sc')) (hob : All ob) (he : wkM r res) : Hold P body (FinM P fn w0 S res) w0 S st σ := by
  have h1 := hold_endM (w0 := w0) (S := S) hm hctr h hob rfl
  intro β a w hS
  have key : ∀ st e a w, contQ P body (FinM P fn w0 S r) st e a w → contQ P body (FinM P fn w0 S res) st e a w := by
    have hQ : ∀ e a w, FinM P fn w0 S r e a w → FinM P fn w0 S res e a w := by
      intro e a w hq
      cases e <;> first | exact FinQ.weaken hq he | exact hq
    intro st
    induction st with
    | nil => intro e a w h; exact hQ e a w h
    | cons x st ih =>
      intro e a w h
      cases x with
      | «at» p =>
        cases e <;> simp only [contQ] at h ⊢ <;> try exact ih _ a w h
        split at h
        · exact wp_mono h fun e a w hq => ih e a w hq
        · exact h
      | lp p =>
        cases e <;> simp only [contQ] at h ⊢ <;> try exact ih _ a w h
        split at h
        · intro I hI
          refine h I fun a w hw => hI a w (wp_mono hw fun e a w hq => ?_)
          cases e <;> simp only [Exit.then] at hq ⊢ <;> first | exact hq | exact ih _ a w hq
        · exact h
      | blk id =>
        cases e <;> simp only [contQ] at h ⊢ <;> try exact ih _ a w h
        split at h
        · rename_i e1; simp only [e1, if_true]; exact ih _ a w h
        · rename_i e1; simp only [e1, if_false]; exact ih _ a w h
  exact key st _ a w (h1 β a w hS)
theorem hold_restrict {Q : Exit → Act → World → Prop} {st : List It} {ks bs : List Nat} {nx : Nat} {σ' : St} (h : restrict ks bs nx σ = some σ') (hk : Hold P body Q w0 S st σ') : Hold P body Q w0 S st σ :=
  fun β a w hS => hk β a w (Sat.restrict h hS)
end
end Go.Eng

namespace Go.Eng
open Go.RowKit
def outB (blks : List (Nat × Bk)) : List Nat → Option (List (Nat × Bk))
  | [] => some []
  | id :: r => match getR blks id, outB blks r with
    | some b, some l => if (idss b.segs).isEmpty then some ((id, b) :: l) else none
    | _, _ => none
def wid (b : Bk) : Nat := if b.row then 3 else 1
def mapN : Nat → List (Nat × Bk) → Nat → Nat
  | _, [], i => i
  | k, (id, b) :: r, i => if i < k + wid b then id + (i - k) else mapN (k + wid b) r i
def numOf (id : Nat) : Nat → List (Nat × Bk) → Option Nat
  | _, [] => none
  | k, (j, b) :: r => if j = id then some k else numOf id (k + wid b) r
def isRow (L : List (Nat × Bk)) (id : Nat) : Bool := match getR L id with | some b => b.row | none => false
def viewN (L : List (Nat × Bk)) (blks : List (Nat × Bk)) (s : SV) : Option SV :=
  if s.ids.isEmpty && !s.isTup then some s else match s with
  | .row id s0 => (match numOf id 0 L with
    | some k => if s0.ids.isEmpty && isRow L id then some (.row k s0) else none
    | none => if s0.ids.isEmpty && !s0.isTup && !s0.isAgg then some s0 else none)
  | .rwq id sh l => (match numOf id 0 L with
    | some k => if isRow L id then some (.rwq k sh l) else none
    | none => some (.slq sh l))
  | .osl id n es => (match numOf id 0 L with
    | some k => some (.osl k n es)
    | none => match deepV (restB (L.map (·.1)) blks) 80 (.osl id n es) with | some r => if r.ids.isEmpty then some r else none | none => none)
  | .ptr id 0 (.c 0) => (match numOf id 0 L with | some k => some (.ptr k 0 (.c 0)) | none => none)
  | s => match deepV (restB (L.map (·.1)) blks) 80 s with | some r => if r.ids.isEmpty then some r else none | none => none
def retOneN (P : Program) (vw : SV → Option SV) (σ : St) (r : ResultVar) : Option SV :=
  match r with
  | .tmp t => match getS σ.slots t with | some s => vw s | none => none
  | .cell ad t => match getS σ.slots ad, aggT P t, szT P t with
    | some (.ptr id off ix), some agg, some size => match getB σ.blks id with
      | some bk => match loadB bk agg size off ix with
        | some (s, []) => vw s
        | _ => none
      | none => none
    | _, _, _ => none
def retAllN (P : Program) (vw : SV → Option SV) (σ : St) : List ResultVar → Option (List SV)
  | [] => some []
  | r :: l => match retOneN P vw σ r, retAllN P vw σ l with
    | some s, some t => some (s :: t)
    | _, _ => none
def retN (P : Program) (rs : Array ResultVar) (news : List Nat) (σ : St) : Option MRes :=
  match outB σ.blks (outIds σ.m news) with
  | some L => match retAllN P (viewN L σ.blks) σ rs.toList with
    | some l => if (outIds σ.m news).Nodup then some ⟨joinR l, (L.map (·.2)).take σ.m, (L.map (·.2)).drop σ.m⟩ else none
    | none => none
  | none => none
section
variable {P : Program} {fn : Func} {body : Code} {w0 : Fr} {w : World} {S : Own} {σ : St} {β : Nat → Nat} {a : Act}
theorem outB_ok {blks : List (Nat × Bk)} : ∀ {ids : List Nat} {L : List (Nat × Bk)}, outB blks ids = some L → L.map (·.1) = ids ∧ ∀ id b, (id, b) ∈ L → (id, b) ∈ blks ∧ idss b.segs = [] := by
  intro ids
  induction ids with
  | nil => intro L h; simp only [outB] at h; cases h; exact ⟨rfl, fun _ _ h => by cases h⟩
  | cons id ids ih =>
    intro L h
    simp only [outB] at h
    split at h
    · rename_i b l hb hl
      split at h
      · rename_i he
        cases h
        obtain ⟨h1, h2⟩ := ih hl
        refine ⟨by simp [h1], fun i c hm => ?_⟩
        rcases List.mem_cons.1 hm with e | hm
        · cases e; exact ⟨getR_mem hb, by simpa using he⟩
        · exact h2 i c hm
      · cases h
    · cases h
theorem numB_cons {k : Nat} {b : Bk} {r : List Bk} : numB k (b :: r) = (k, b) :: numB (k + wid b) r := rfl
theorem wid_pos (b : Bk) : 0 < wid b := by unfold wid; split <;> omega
theorem wid_row {b : Bk} (h : b.row = true) : wid b = 3 := by unfold wid; rw [if_pos h]
theorem mapN_ok : ∀ {L : List (Nat × Bk)} {k i : Nat} {b : Bk}, (i, b) ∈ numB k (L.map (·.2)) →
    ∃ id, (id, b) ∈ L ∧ mapN k L i = id ∧ (b.row = true → mapN k L (i + 1) = id + 1 ∧ mapN k L (i + 2) = id + 2) := by
  intro L
  induction L with
  | nil => intro k i b h; simp [numB] at h
  | cons p r ih =>
    obtain ⟨id, c⟩ := p
    intro k i b h
    simp only [List.map_cons, numB_cons] at h
    rcases List.mem_cons.1 h with e | h
    · cases e
      have := wid_pos c
      refine ⟨id, by simp, ?_, fun hr => ?_⟩
      · simp only [mapN]; rw [if_pos (by omega)]; omega
      · have := wid_row hr
        simp only [mapN]
        rw [if_pos (by omega), if_pos (by omega)]
        omega
    · obtain ⟨id', h1, h2, h3⟩ := ih h
      have hge := (numB_bound h).1
      refine ⟨id', List.mem_cons_of_mem _ h1, ?_, fun hr => ?_⟩
      · simp only [mapN]; rw [if_neg (by omega)]; exact h2
      · simp only [mapN]; rw [if_neg (by omega), if_neg (by omega)]; exact h3 hr
theorem mapN_inj : ∀ {L : List (Nat × Bk)} {k i j : Nat} {bi bj : Bk}, (L.map (·.1)).Nodup → (i, bi) ∈ numB k (L.map (·.2)) → (j, bj) ∈ numB k (L.map (·.2)) → mapN k L i = mapN k L j → i = j := by
  intro L
  induction L with
  | nil => intro k i j bi bj _ h; simp [numB] at h
  | cons p r ih =>
    obtain ⟨id, c⟩ := p
    intro k i j bi bj hn hi hj e
    simp only [List.map_cons, List.nodup_cons] at hn
    simp only [List.map_cons, numB_cons] at hi hj
    have hp := wid_pos c
    have head : mapN k ((id, c) :: r) k = id := by simp only [mapN]; rw [if_pos (by omega)]; omega
    have tail : ∀ {x : Nat} {b : Bk}, (x, b) ∈ numB (k + wid c) (r.map (·.2)) → mapN k ((id, c) :: r) x = mapN (k + wid c) r x ∧ mapN (k + wid c) r x ∈ r.map (·.1) := by
      intro x b hx
      have hge := (numB_bound hx).1
      obtain ⟨id', h1, h2, _⟩ := mapN_ok hx
      refine ⟨by simp only [mapN]; rw [if_neg (by omega)], ?_⟩
      rw [h2]
      exact List.mem_map.2 ⟨_, h1, rfl⟩
    rcases List.mem_cons.1 hi with e1 | hi
    · cases e1
      rcases List.mem_cons.1 hj with e2 | hj
      · cases e2; rfl
      · obtain ⟨t1, t2⟩ := tail hj
        rw [head, t1] at e
        rw [← e] at t2
        exact absurd t2 hn.1
    · obtain ⟨s1, s2⟩ := tail hi
      rcases List.mem_cons.1 hj with e2 | hj
      · cases e2
        rw [head, s1] at e
        rw [e] at s2
        exact absurd s2 hn.1
      · obtain ⟨t1, t2⟩ := tail hj
        rw [s1, t1] at e
        exact ih hn.2 hi hj e
theorem numOf_ok {id : Nat} : ∀ {L : List (Nat × Bk)} {k n : Nat}, numOf id k L = some n → ∃ b, (n, b) ∈ numB k (L.map (·.2)) ∧ (id, b) ∈ L ∧ mapN k L n = id ∧ (b.row = true → mapN k L (n + 1) = id + 1 ∧ mapN k L (n + 2) = id + 2) := by
  intro L
  induction L with
  | nil => intro k n h; simp [numOf] at h
  | cons p r ih =>
    obtain ⟨j, c⟩ := p
    intro k n h
    simp only [numOf] at h
    have hp := wid_pos c
    split at h
    · rename_i e
      cases h
      subst e
      refine ⟨c, by simp [numB_cons], by simp, ?_, fun hr => ?_⟩
      · simp only [mapN]; rw [if_pos (by omega)]; omega
      · have := wid_row hr
        simp only [mapN]
        rw [if_pos (by omega), if_pos (by omega)]
        omega
    · obtain ⟨b, h1, h2, h3, h4⟩ := ih h
      have hge := (numB_bound h1).1
      refine ⟨b, by simp only [List.map_cons, numB_cons]; exact List.mem_cons_of_mem _ h1, List.mem_cons_of_mem _ h2, ?_, fun hr => ?_⟩
      · simp only [mapN]; rw [if_neg (by omega)]; exact h3
      · simp only [mapN]; rw [if_neg (by omega), if_neg (by omega)]; exact h4 hr
theorem mapN_low : ∀ {i n k : Nat} {L : List (Nat × Bk)}, (∀ i, i < n → ∃ b, L[i]? = some (k + i, b) ∧ b.row = false) → i < n → mapN k L (k + i) = k + i ∧ ∃ b, (k + i, b) ∈ numB k (L.map (·.2)) := by
  intro i
  induction i with
  | zero =>
    intro n k L h hi
    obtain ⟨b, hb, hr⟩ := h 0 hi
    cases L with
    | nil => simp at hb
    | cons p r =>
      simp at hb
      subst hb
      have := wid_pos b
      refine ⟨?_, b, by simp [numB_cons]⟩
      simp only [mapN, Nat.add_zero]
      rw [if_pos (by omega)]
      omega
  | succ i ih =>
    intro n k L h hi
    obtain ⟨b, hb, hr⟩ := h 0 (by omega)
    cases L with
    | nil => simp at hb
    | cons p r =>
      simp at hb
      subst hb
      have hw : wid b = 1 := by unfold wid; rw [hr]; rfl
      obtain ⟨h1, c, h2⟩ := ih (n := n - 1) (k := k + 1) (L := r) (fun j hj => by
        obtain ⟨c, hc, hcr⟩ := h (j + 1) (by omega)
        exact ⟨c, by simpa [Nat.add_assoc, Nat.add_comm 1 j] using hc, hcr⟩) (by omega)
      rw [show k + 1 + i = k + (i + 1) by omega] at h1 h2
      refine ⟨?_, c, ?_⟩
      · simp only [mapN]
        rw [if_neg (by omega), hw]
        exact h1
      · simp only [List.map_cons, numB_cons, hw]
        exact List.mem_cons_of_mem _ h2
theorem retOneN_ok (hS : Sat w0 S σ β a w) {vw : SV → Option SV} {β' : Nat → Nat} {ow' : Own} (hvw : ∀ s r v, vw s = some r → relV β (owS S σ.blks β) w s v → relV1 β' ow' w r v) {r : ResultVar} {s : SV} (h : retOneN P vw σ r = some s) :
    ∃ v, (resF a.tmps r).run P w = .ok v w ∧ relV1 β' ow' w s v := by
  cases r with
  | tmp t =>
    simp only [retOneN] at h
    split at h
    · rename_i s' hs
      exact ⟨_, rfl, hvw _ _ _ h (hS.slot t s' (getS_mem hs))⟩
    · cases h
  | cell ad t =>
    simp only [retOneN] at h
    split at h
    · rename_i id off ix agg size hs ha hsz
      split at h
      · rename_i bk hg
        split at h
        · rename_i s' hl
          have h1 := relV_scalar rfl rfl (hS.slot ad _ (getS_mem hs))
          simp only [rel, List.cons.injEq, and_true] at h1
          obtain ⟨cs, hr, hb⟩ := (hS.blk id bk (getB_both hg).1).1 (getB_both hg).2
          obtain ⟨v, hrun, hv⟩ := loadB_ok (P := P) hl trivial ha hsz hr hb
          refine ⟨v, ?_, hvw _ _ _ h hv⟩
          simp only [Instr.loadAt, Instr.sureAddr, Sem.run_bind, Sem.run_pure, Result.andThen_ok] at hrun
          simp only [resF, h1, asAddr, Sem.run_bind, Sem.run_pure, Result.andThen_ok]
          exact hrun
        · cases h
      · cases h
    · cases h
theorem retAllN_ok (hS : Sat w0 S σ β a w) {vw : SV → Option SV} {β' : Nat → Nat} {ow' : Own} (hvw : ∀ s r v, vw s = some r → relV β (owS S σ.blks β) w s v → relV1 β' ow' w r v) : ∀ {rs : List ResultVar} {l : List SV}, retAllN P vw σ rs = some l →
    ∃ vs, (rs.mapM (resF a.tmps)).run P w = .ok vs w ∧ relVs β' ow' w l vs ∧ vs.length = rs.length := by
  intro rs
  induction rs with
  | nil => intro l h; simp only [retAllN] at h; cases h; exact ⟨[], by simp, rfl, rfl⟩
  | cons r rs ih =>
    intro l h
    simp only [retAllN] at h
    split at h
    · rename_i s t h1 h2
      cases h
      obtain ⟨v, hv, hr⟩ := retOneN_ok hS hvw h1
      obtain ⟨vs, hvs, hrs, hlen⟩ := ih h2
      refine ⟨v :: vs, ?_, ⟨v, vs, rfl, hr, hrs⟩, by simp [hlen]⟩
      rw [List.mapM_cons, Sem.run_bind, hv]
      simp only [Result.andThen_ok, Sem.run_bind, hvs, Sem.run_pure]
    · cases h
theorem hold_finN {res r : MRes} {news : List Nat} (h : retN P fn.results news σ = some r) (he : r = res) : Hold P body (FinM P fn w0 S res) w0 S [] σ := by
  intro β a w hS
  subst he
  unfold retN at h
  split at h
  · rename_i L hL
    split at h
    · rename_i l hl
      split at h
      · rename_i hnd
        cases h
        have hm : σ.m = w0.m := hS.pins.1
        obtain ⟨hLids, hLmem⟩ := outB_ok hL
        have hnd' : (L.map (·.1)).Nodup := by rw [hLids]; exact hnd
        generalize hbs : L.map (·.2) = bs at *
        have htd : bs.take σ.m ++ bs.drop σ.m = bs := List.take_append_drop _ _
        let β' : Nat → Nat := fun k => β (mapN 0 L k)
        have hof : ∀ k b, (k, b) ∈ numB 0 bs → ∃ id, (id, b) ∈ L ∧ β' k = β id ∧ (b.row = true → β' (k + 1) = β (id + 1) ∧ β' (k + 2) = β (id + 2)) ∧ mapN 0 L k = id := by
          intro k b hk
          rw [← hbs] at hk
          obtain ⟨id, h1, h2, h3⟩ := mapN_ok hk
          exact ⟨id, h1, by show β (mapN 0 L k) = _; rw [h2], fun hr => ⟨by show β (mapN 0 L (k + 1)) = _; rw [(h3 hr).1], by show β (mapN 0 L (k + 2)) = _; rw [(h3 hr).2]⟩, h2⟩
        have hlow : ∀ i, i < w0.m → ∃ b, L[i]? = some (0 + i, b) ∧ b.row = false := by
          intro i hi
          have h1 := out_low (news := news) (by rw [hm]; exact hi : i < σ.m)
          rw [← hLids, List.getElem?_map] at h1
          obtain ⟨⟨j, b⟩, h2, h3⟩ := Option.map_eq_some_iff.1 h1
          simp only at h3
          subst h3
          obtain ⟨_, bk, hm2, hr2⟩ := hS.pins.2 j hi
          have := nodup_fst hS.uniq hm2 (hLmem j b (List.mem_of_getElem? h2)).1
          exact ⟨b, by simpa using h2, by rw [← this]; exact hr2⟩
        have hlive : ∀ {k id : Nat} {b : Bk}, (b.row = true → β' (k + 1) = β (id + 1) ∧ β' (k + 2) = β (id + 2)) → live β' k b → live β id b := fun h1 h2 hr => by rw [← (h1 hr).1]; exact h2 hr
        have hsub : ∀ b j, owS S (numB 0 bs) β' b j → owS S σ.blks β b j := by
          rintro b j (hs | ⟨k, bk, hk, e, hr⟩)
          · exact .inl hs
          · obtain ⟨id, h1, h2, h3, _⟩ := hof k bk hk
            refine .inr ⟨id, bk, (hLmem id bk h1).1, by rw [← h2]; exact e, fun h => ?_⟩
            obtain ⟨e1, e2⟩ := h3 h
            rw [← e1, ← e2]
            exact hr h
        have hdeep : ∀ (s r : SV) (v : Value), deepV (restB (L.map (·.1)) σ.blks) 80 s = some r → r.ids.isEmpty = true → relV β (owS S σ.blks β) w s v → relV1 β' (owS S (numB 0 bs) β') w r v := by
          intro s r' v hd hids hv
          have ht : s.isTup = false := by
            cases s <;> first | rfl | (rw [deepV_tup] at hd; cases hd)
          obtain ⟨cs, h1, rfl⟩ := relV_one ht hv
          have hrest : HSat β (owS S σ.blks β) w (restB (L.map (·.1)) σ.blks) := fun id bk hm => hS.blk id bk (List.mem_filter.1 hm).1
          obtain ⟨h2, h3⟩ := (deep_ok hrest (S := owS S (numB 0 bs) β') hsub (fun id bk hg j hs => by
            obtain ⟨hgm, hout⟩ := List.mem_filter.1 (getB_mem hg)
            have hlv := live_plain (β := β) (id := id) (getB_both hg).2
            rcases hs with hs | ⟨k, bk', hk, e, hrr⟩
            · have h1 := hS.lowS _ _ hs
              rcases hS.low id _ hgm hlv with h2 | h2
              · omega
              · exact h1.2 h2
            · obtain ⟨id', h4, h5, h6, _⟩ := hof k bk' hk
              rw [h5] at e
              have := hS.inj id' id _ _ (hLmem id' bk' h4).1 hgm (hlive h6 fun hr => (hrr hr).1) hlv e
              subst this
              simp only [Bool.not_eq_true', List.contains_eq_mem, decide_eq_false_iff_not] at hout
              exact hout (List.mem_map.2 ⟨_, h4, rfl⟩)) 80).1 hd h1
          exact ⟨cs, rel_mono (fun _ _ _ h => h) (Keep.refl _ _) _ _ (fun id hid => by rw [List.isEmpty_iff.1 hids] at hid; cases hid) h2, by rw [h3]⟩
        have hvw : ∀ s r v, viewN L σ.blks s = some r → relV β (owS S σ.blks β) w s v → relV1 β' (owS S (numB 0 bs) β') w r v := by
          intro s r v h hv
          unfold viewN at h
          split at h
          · rename_i hc
            simp only [Bool.and_eq_true, List.isEmpty_iff, Bool.not_eq_true'] at hc
            cases h
            exact relV1_mono (fun b j _ h => hsub b j h) (Keep.refl _ _) (fun id hid => by rw [hc.1] at hid; cases hid) (relV_one hc.2 hv)
          · split at h
            · rename_i id s0 _
              have h1 := relV_scalar rfl rfl hv
              split at h
              · rename_i k hk
                split at h
                · rename_i hcc
                  cases h
                  obtain ⟨hids, hrw⟩ := Bool.and_eq_true_iff.1 hcc
                  obtain ⟨b, hb1, hb2, hb3, hb4⟩ := numOf_ok hk
                  simp only [rel] at h1
                  obtain ⟨hr, n, hsl, hvv, hn, hz⟩ := h1
                  have hrow : b.row = true := by
                    unfold isRow at hrw
                    split at hrw
                    · rename_i b2 hg2
                      have := nodup_fst hnd' hb2 (getR_mem hg2)
                      rw [this]; exact hrw
                    · cases hrw
                  obtain ⟨e1, e2⟩ := hb4 hrow
                  have f0 : β' k = β id := by show β (mapN 0 L k) = _; rw [hb3]
                  have f1 : β' (k + 1) = β (id + 1) := by show β (mapN 0 L (k + 1)) = _; rw [e1]
                  have f2 : β' (k + 2) = β (id + 2) := by show β (mapN 0 L (k + 2)) = _; rw [e2]
                  refine ⟨[v], ?_, rfl⟩
                  simp only [rel]
                  exact ⟨rel_mono (fun b j _ h => hsub b j h) (Keep.refl _ _) _ _ (fun i hi => by rw [List.isEmpty_iff.1 hids] at hi; cases hi) hr, n, hsl, by rw [f0, f1]; exact hvv, by rw [f2]; exact hn, by rw [f1]; exact hz⟩
                · cases h
              · split at h
                · rename_i hc
                  simp only [Bool.and_eq_true, List.isEmpty_iff, Bool.not_eq_true'] at hc
                  cases h
                  simp only [rel] at h1
                  exact ⟨[v], rel_mono (fun b j _ h => hsub b j h) (Keep.refl _ _) _ _ (fun i hi => by rw [hc.1.1] at hi; cases hi) h1.1, by rw [hc.2]; rfl⟩
                · cases h
            · rename_i id sh l _
              have h1 := relV_scalar rfl rfl hv
              split at h
              · rename_i k hk
                split at h
                · rename_i hrw
                  cases h
                  obtain ⟨b, hb1, hb2, hb3, hb4⟩ := numOf_ok hk
                  simp only [rel] at h1
                  obtain ⟨g1, cap, vs, g2, g3, g4, g5, g6, g7⟩ := h1
                  have hrow : b.row = true := by
                    unfold isRow at hrw
                    split at hrw
                    · rename_i b2 hg2
                      have := nodup_fst hnd' hb2 (getR_mem hg2)
                      rw [this]; exact hrw
                    · cases hrw
                  obtain ⟨e1, e2⟩ := hb4 hrow
                  have f0 : β' k = β id := by show β (mapN 0 L k) = _; rw [hb3]
                  have f1 : β' (k + 1) = β (id + 1) := by show β (mapN 0 L (k + 1)) = _; rw [e1]
                  have f2 : β' (k + 2) = β (id + 2) := by show β (mapN 0 L (k + 2)) = _; rw [e2]
                  refine ⟨[v], ?_, rfl⟩
                  simp only [rel]
                  rw [f0, f1, f2]
                  exact ⟨g1, cap, vs, g2, g3.mono (fun b j _ h => hsub b j h) (Keep.refl _ _), elRels_mono (fun b j _ h => hsub b j h) (Keep.refl _ _) g4, g5, g6, g7⟩
                · cases h
              · cases h
                exact relV1_mono (fun b j _ h => hsub b j h) (Keep.refl _ _) (fun id hid => by simp [SV.ids] at hid) (relV_one rfl (rwq_slq hv))
            · rename_i id n es _
              split at h
              · rename_i k hk
                cases h
                obtain ⟨b, hb1, hb2, hb3, hb4⟩ := numOf_ok hk
                have h1 := relV_scalar rfl rfl hv
                simp only [rel, List.cons.injEq, and_true] at h1
                subst h1
                have f0 : β' k = β id := by show β (mapN 0 L k) = _; rw [hb3]
                exact ⟨_, by simp only [rel]; rfl, by rw [f0]; rfl⟩
              · split at h
                · rename_i r' hd
                  split at h
                  · rename_i hids; cases h; exact hdeep _ _ _ hd hids hv
                  · cases h
                · cases h
            · rename_i id _
              split at h
              · rename_i k hk
                cases h
                obtain ⟨b, hb1, hb2, hb3, hb4⟩ := numOf_ok hk
                have h1 := relV_scalar rfl rfl hv
                simp only [rel, List.cons.injEq, and_true] at h1
                subst h1
                have f0 : β' k = β id := by show β (mapN 0 L k) = _; rw [hb3]
                exact ⟨_, by simp only [rel]; rfl, by rw [f0]; rfl⟩
              · cases h
            · split at h
              · rename_i r' hd
                split at h
                · rename_i hids; cases h; exact hdeep _ _ _ hd hids hv
                · cases h
              · cases h
        obtain ⟨vs, hvs, hrs, _⟩ := retAllN_ok hS hvw hl
        obtain ⟨v, hv, hr⟩ := joined rfl hvs hrs
        refine ⟨hS.defs, v, β', hv, fun i hi => ?_, hS.ext, ?_, ?_, ?_, ?_⟩
        · have h1 := (mapN_low (L := L) (k := 0) hlow hi).1
          simp only [Nat.zero_add] at h1
          show β (mapN 0 L i) = _
          rw [h1]
          exact (hS.pins.2 i hi).1
        · simpa only [htd] using hr
        · simp only [htd]
          intro k bk hk
          obtain ⟨id, h1, h2, h3, _⟩ := hof k bk hk
          obtain ⟨hmem, hids⟩ := hLmem id bk h1
          refine ⟨fun hrw => ?_, fun hrw hn => ?_⟩
          · obtain ⟨cs, h4, h5⟩ := (hS.blk id bk hmem).1 hrw
            exact ⟨cs, rels_mono (fun b j _ h => hsub b j h) (Keep.refl _ _) _ _ (fun i hi => by rw [hids] at hi; cases hi) h4, by rw [h2]; exact h5⟩
          · obtain ⟨e1, e2⟩ := h3 hrw
            rw [e1] at hn
            obtain ⟨cs, h4, h5⟩ := (hS.blk id bk hmem).2 hrw hn
            exact ⟨cs, by rw [h2]; exact h4, by rw [e1, e2]; exact h5⟩
        · simp only [htd]
          intro i j bi bj hi hj li lj e
          obtain ⟨id1, a1, a2, a3, a4⟩ := hof i bi hi
          obtain ⟨id2, b1, b2, b3, b4⟩ := hof j bj hj
          rw [a2, b2] at e
          have := hS.inj id1 id2 _ _ (hLmem _ _ a1).1 (hLmem _ _ b1).1 (hlive a3 li) (hlive b3 lj) e
          rw [← hbs] at hi hj
          exact mapN_inj hnd' hi hj (by rw [a4, b4, this])
        · simp only [htd]
          intro i bk hi hlv
          rcases Nat.lt_or_ge i w0.m with hl | hge
          · exact .inl hl
          · right
            obtain ⟨id, a1, a2, a3, a4⟩ := hof i bk hi
            rw [a2]
            rcases hS.low id bk (hLmem _ _ a1).1 (hlive a3 hlv) with h1 | ⟨i', hi', e⟩
            · exact h1
            · exfalso
              obtain ⟨e2, b2, hm2, hr2⟩ := hS.pins.2 i' hi'
              have hid := hS.inj i' id _ _ hm2 (hLmem _ _ a1).1 (live_plain hr2) (hlive a3 hlv) (by rw [e2, e])
              obtain ⟨q1, c, q2⟩ := mapN_low (L := L) (k := 0) hlow hi'
              simp only [Nat.zero_add] at q1 q2
              rw [← hbs] at hi
              have := mapN_inj hnd' hi q2 (by rw [a4, q1, hid])
              omega
      · cases h
    · cases h
  · cases h
def runN (P : Program) (ctr : Ctr) (body : Code) (rs : Array ResultVar) (news : List Nat) (unroll : Bool) (f : Nat) (st : List It) (σ : St) (sc : List Bool) : List It × Option MRes × List Prop × List Bool :=
  match run P ctr body unroll f st σ sc with
  | (st', σ', ob, sc') => (st', retN P rs news σ', ob, sc')
theorem hold_endN (hm : P.follows .mixedOrders = true) {ctr : Ctr} (hctr : CtrOk P ctr) {res : MRes} {news : List Nat} {unroll : Bool} {f : Nat} {st : List It} {σ : St} {sc : List Bool} {r : MRes} {ob : List Prop} {sc' : List Bool}
    (h : runN P ctr body fn.results news unroll f st σ sc = ([], some r, ob, sc')) (hob : All ob) (he : r = res) : Hold P body (FinM P fn w0 S res) w0 S st σ := by
  unfold runN at h
  cases hr : run P ctr body unroll f st σ sc with
  | mk q1 q =>
    obtain ⟨q2, q3, q4⟩ := q
    rw [hr] at h
    simp only [Prod.mk.injEq] at h
    obtain ⟨rfl, h2, rfl, rfl⟩ := h
    exact hold_run hm hctr unroll f sc hr hob (hold_finN h2 he)
theorem FinM.wk {r s : MRes} (he : wkM r s) {st : List It} (h1 : Hold P body (FinM P fn w0 S r) w0 S st σ) : Hold P body (FinM P fn w0 S s) w0 S st σ := by
  intro β a w hS
  have key : ∀ st e a w, contQ P body (FinM P fn w0 S r) st e a w → contQ P body (FinM P fn w0 S s) st e a w := by
    have hQ : ∀ e a w, FinM P fn w0 S r e a w → FinM P fn w0 S s e a w := by
      intro e a w hq
      cases e <;> first | exact FinQ.weaken hq he | exact hq
    intro st
    induction st with
    | nil => intro e a w h; exact hQ e a w h
    | cons x st ih =>
      intro e a w h
      cases x with
      | «at» p =>
        cases e <;> simp only [contQ] at h ⊢ <;> try exact ih _ a w h
        split at h
        · exact wp_mono h fun e a w hq => ih e a w hq
        · exact h
      | lp p =>
        cases e <;> simp only [contQ] at h ⊢ <;> try exact ih _ a w h
        split at h
        · intro I hI
          refine h I fun a w hw => hI a w (wp_mono hw fun e a w hq => ?_)
          cases e <;> simp only [Exit.then] at hq ⊢ <;> first | exact hq | exact ih _ a w hq
        · exact h
      | blk id =>
        cases e <;> simp only [contQ] at h ⊢ <;> try exact ih _ a w h
        split at h
        · rename_i e1; simp only [e1, if_true]; exact ih _ a w h
        · rename_i e1; simp only [e1, if_false]; exact ih _ a w h
  exact key st _ a w (h1 β a w hS)
theorem hold_endNw (hm : P.follows .mixedOrders = true) {ctr : Ctr} (hctr : CtrOk P ctr) {res : MRes} {news : List Nat} {unroll : Bool} {f : Nat} {st : List It} {σ : St} {sc : List Bool} {r : MRes} {ob : List Prop} {sc' : List Bool}
    (h : runN P ctr body fn.results news unroll f st σ sc = ([], some r, ob, sc')) (hob : All ob) (he : wkM r res) : Hold P body (FinM P fn w0 S res) w0 S st σ :=
  FinM.wk he (hold_endN hm hctr h hob rfl)
theorem Invokes.mono {f : FuncId} {vs : List Value} {Φ Ψ : Value → World → Prop} (h : Invokes P f vs w Φ) (hm : ∀ v w', Φ v w' → Ψ v w') : Invokes P f vs w Ψ := by
  revert h
  unfold Invokes
  split <;> intro h
  · exact hm _ _ h
  · exact h.mono fun e w'' ⟨v, e1, hp⟩ => ⟨v, e1, hm _ _ hp⟩
  · exact h.elim
theorem hold_osl {Q : Exit → Act → World → Prop} {st : List It} {t : Nat} {σ' : St} (h : Eng.oslRow σ (.tmp t) = some σ') (hk : Hold P body Q w0 S st σ') : Hold P body Q w0 S st σ := by
  intro β a w hS
  obtain ⟨β', hS'⟩ := hS.oslRow h
  exact hk _ _ _ hS'
theorem ContractM.plain {f : FuncId} {args : List SV} {s : SV} {ty : TypeId} (h : ContractM P f [] args ⟨.row 0 s, [], [⟨ty, [], true⟩]⟩) (hids : s.ids = []) (ha : s.isAgg = false) (_ : s.isTup = false) (_ : idss args = []) : Contract P f args s := by
  intro w S vs hSlt hvs
  have h1 := h w S (fun _ => 0) vs (fun b j hs => ⟨hSlt b j hs, fun i hi => absurd hi (Nat.not_lt_zero _)⟩) (fun _ h => by cases h) (fun _ _ h => by simp [numB] at h) (fun _ _ h => absurd h (Nat.not_lt_zero _))
    (relVs_mono (fun b j _ h => h.elim id fun ⟨_, _, hm, _⟩ => by simp [numB] at hm) (Keep.refl _ _) _ _ (fun _ _ => rfl) hvs)
  refine Invokes.mono h1 ?_
  rintro v w' ⟨β', _, hb, hv, _⟩
  refine ⟨?_, ?_⟩
  · exact Bel.below (w := w) ⟨hb.os, hb.tape, hb.output, hb.size, fun k hk _ => hb.block k hk fun ⟨i, hi, _⟩ => absurd hi (Nat.not_lt_zero _)⟩
  · have h2 := relV_scalar rfl rfl hv
    simp only [rel] at h2
    have h3 := rel_mono (β' := fun _ => 0) (ow' := S) (fun b j _ h => .inl h) (Keep.refl _ _) s _ (fun id hid => by rw [hids] at hid; cases hid) h2.1
    exact relV_of1 ha h3
end
end Go.Eng

namespace Go.Eng
open Go.RowKit
def delB : List (Nat × Bk) → Nat → List (Nat × Bk)
  | [], _ => []
  | p :: r, t => if p.1 = t then delB r t else p :: delB r t
def frzSl (id : Nat) (s : SV) : List (Nat × SV) → List (Nat × SV)
  | [] => []
  | p :: r => match p.2 with
    | .ptr i 0 (.c 0) => if i = id then (p.1, .rp s) :: frzSl id s r else p :: frzSl id s r
    | .ptr i _ _ => if i = id then frzSl id s r else p :: frzSl id s r
    | _ => if p.2.ids.all (fun i => decide (i ≠ id)) then p :: frzSl id s r else frzSl id s r
def frz (σ : St) (id : Nat) : Option St :=
  match getB σ.blks id with
  | some bk => if 0 < SV.size.sizes bk.segs ∧ (idss bk.segs).isEmpty = true ∧ σ.m ≤ id then some { σ with slots := frzSl id (joinS bk.segs) σ.slots, blks := delB σ.blks id } else none
  | none => none
theorem mem_delB {l : List (Nat × Bk)} {t d : Nat} {s : Bk} (h : (d, s) ∈ delB l t) : (d, s) ∈ l ∧ d ≠ t := by
  induction l with
  | nil => simp [delB] at h
  | cons p r ih =>
    simp only [delB] at h
    split at h
    · have := ih h; exact ⟨List.mem_cons_of_mem _ this.1, this.2⟩
    · rename_i hne
      rcases List.mem_cons.1 h with e | h
      · subst e; exact ⟨by simp, hne⟩
      · have := ih h; exact ⟨List.mem_cons_of_mem _ this.1, this.2⟩
theorem mem_delB_of {l : List (Nat × Bk)} {t d : Nat} {s : Bk} (h : (d, s) ∈ l) (hne : d ≠ t) : (d, s) ∈ delB l t := by
  induction l with
  | nil => cases h
  | cons p r ih =>
    simp only [delB]
    rcases List.mem_cons.1 h with e | h
    · subst e; simp [hne]
    · split
      · exact ih h
      · exact List.mem_cons_of_mem _ (ih h)
theorem delB_sub {l : List (Nat × Bk)} {t : Nat} : ((delB l t).map (·.1)).Sublist (l.map (·.1)) := by
  induction l with
  | nil => exact List.Sublist.refl _
  | cons p r ih =>
    simp only [delB]
    split
    · exact ih.trans (List.sublist_cons_self _ _)
    · exact ih.cons_cons _
theorem frzSl_mem {id : Nat} {s : SV} : ∀ {l : List (Nat × SV)} {d : Nat} {t : SV}, (d, t) ∈ frzSl id s l → ((d, t) ∈ l ∧ (∀ i ∈ t.ids, i ≠ id)) ∨ (t = .rp s ∧ (d, .ptr id 0 (.c 0)) ∈ l) := by
  intro l
  induction l with
  | nil => intro d t h; simp [frzSl] at h
  | cons p r ih =>
    intro d t h
    have up : (((d, t) ∈ r ∧ (∀ i ∈ t.ids, i ≠ id)) ∨ (t = .rp s ∧ (d, SV.ptr id 0 (.c 0)) ∈ r)) → (((d, t) ∈ p :: r ∧ (∀ i ∈ t.ids, i ≠ id)) ∨ (t = .rp s ∧ (d, SV.ptr id 0 (.c 0)) ∈ p :: r)) := by
      rintro (⟨h1, h2⟩ | ⟨h1, h2⟩)
      · exact .inl ⟨List.mem_cons_of_mem _ h1, h2⟩
      · exact .inr ⟨h1, List.mem_cons_of_mem _ h2⟩
    obtain ⟨e, q⟩ := p
    simp only [frzSl] at h
    split at h
    · split at h
      · rename_i hi
        subst hi
        rcases List.mem_cons.1 h with e1 | h
        · cases e1; exact .inr ⟨rfl, by simp⟩
        · exact up (ih h)
      · rename_i hi
        rcases List.mem_cons.1 h with e1 | h
        · cases e1; exact .inl ⟨by simp, by intro j hj; simp [SV.ids] at hj; subst hj; exact hi⟩
        · exact up (ih h)
    · split at h
      · exact up (ih h)
      · rename_i hi
        rcases List.mem_cons.1 h with e1 | h
        · cases e1; exact .inl ⟨by simp, by intro j hj; simp [SV.ids] at hj; subst hj; exact hi⟩
        · exact up (ih h)
    · split at h
      · rename_i hall
        rcases List.mem_cons.1 h with e1 | h
        · cases e1; exact .inl ⟨by simp, fun i hi => by have := List.all_eq_true.1 hall i hi; simpa using this⟩
        · exact up (ih h)
      · exact up (ih h)
section
variable {P : Program} {body : Code} {w0 : Fr} {w : World} {S : Own} {σ : St} {β : Nat → Nat} {a : Act}
theorem Sat.freeze {id : Nat} {σ' : St} (h : frz σ id = some σ') (hS : Sat w0 S σ β a w) : Sat w0 S σ' β a w := by
  unfold frz at h
  split at h
  · rename_i bk hg
    split at h
    · rename_i hc
      cases h
      obtain ⟨hpos, hno, hmid⟩ := hc
      have hno : idss bk.segs = [] := by simpa using hno
      have ho : ∀ b j, b < w.heap.size → owS S (delB σ.blks id) β b j → owS S σ.blks β b j := fun b _ _ hb => hb.imp (fun x => x) fun ⟨i, bi, hm, e⟩ => ⟨i, bi, (mem_delB hm).1, e⟩
      have hmem := (getB_both hg).1
      have hrow := (getB_both hg).2
      obtain ⟨cs, hr, hb⟩ := (hS.blk id bk hmem).1 hrow
      have hfree : ∀ j, ¬ owS S (delB σ.blks id) β (β id) j := by
        rintro j (hs | ⟨i, bi, hm, e, hrr⟩)
        · have h1 := hS.lowS _ _ hs
          rcases hS.low id bk hmem (live_plain hrow) with h2 | h2
          · omega
          · exact h1.2 h2
        · obtain ⟨hm, hne⟩ := mem_delB hm
          exact hne (hS.inj i id bi bk hm hmem (fun hr => (hrr hr).1) (live_plain hrow) e)
      refine ⟨hS.defs, hS.size, fun d t hm => ?_, ?_, fun i bi hm => hS.low i bi (mem_delB hm).1, fun i j bi bj hi hj => hS.inj i j bi bj (mem_delB hi).1 (mem_delB hj).1, hS.uniq.sublist delB_sub, ?_, fun i bi hm => hS.bndB i bi (mem_delB hm).1, hS.ext, hS.lowS, hS.pins.1, fun i hi => ?_⟩
      · rcases frzSl_mem hm with ⟨hm, _⟩ | ⟨rfl, hm3⟩
        · exact relV_mono ho (Keep.refl _ _) (fun _ _ => rfl) (hS.slot d t hm)
        · have h1 := relV_scalar rfl rfl (hS.slot d _ hm3)
          simp only [rel, List.cons.injEq, and_true] at h1
          rw [h1]
          refine relV_of1 rfl ?_
          simp only [rel]
          refine ⟨⟨β id, 0 + Ix.n (.c 0), none⟩, cs, rfl, rfl, fun j _ => hfree _, ?_, ?_, fun j u hu => ?_⟩
          · exact joinS_rel (rels_mono ho (Keep.refl _ _) _ _ (fun _ _ => rfl) hr)
          · intro e
            have := rels_len _ _ hr
            rw [e] at this
            simp at this
            omega
          · simp only [Ix.n, Nat.zero_add]
            rw [cell_row hb]; simpa using hu
      · have hsub : HSat β (owS S σ.blks β) w (delB σ.blks id) := fun i bi hm => hS.blk i bi (mem_delB hm).1
        exact hsub.move ho (Keep.refl _ _) (fun _ _ _ => sameB_refl) (fun _ _ _ _ => rfl)
      · intro d t hm i hi
        rcases frzSl_mem hm with ⟨hm, _⟩ | ⟨rfl, hm⟩
        · exact hS.bnd d t hm i hi
        · simp only [SV.ids] at hi
          rw [joinS_ids, hno] at hi
          cases hi
      · obtain ⟨e, bi, hm, hr⟩ := hS.pins.2 i hi
        exact ⟨e, bi, mem_delB_of hm (by have := hS.pins.1; omega), hr⟩
    · cases h
  · cases h
theorem hold_freeze {Q : Exit → Act → World → Prop} {st : List It} {id : Nat} {σ' : St} (h : frz σ id = some σ') (hk : Hold P body Q w0 S st σ') : Hold P body Q w0 S st σ :=
  fun β a w hS => hk β a w (Sat.freeze h hS)
end
end Go.Eng

namespace Go.Eng.B
open Go Go.Eng Go.Proofs
theorem mixed : Tryz.prog.follows .mixedOrders = true := by kernel_rfl
theorem int?_wk {x : SV} {k : IntKind} {n : Int} (h : x.int? = some (k, n)) : wk x (.i k n) := by
  cases x <;> simp [SV.int?] at h <;> (obtain ⟨rfl, rfl⟩ := h; simp [wk, wk0, wka])
theorem nat?_wk {x : SV} {k : IntKind} {n : Nat} (h : x.nat? = some (k, n)) {β : Nat → Nat} {ow : Own} {w : World} {v : Value} (hv : relV1 β ow w x v) : relV1 β ow w (.u k n) v := by
  obtain ⟨cs, hr, rfl⟩ := hv
  obtain ⟨rfl, hl⟩ := nat?_ok h hr
  exact ⟨_, rel_u hl, by rw [(nat?_sc h).2]; rfl⟩
theorem Contract.args {P : Program} {f : FuncId} {args args' : List SV} {res : SV} (hw : wkl args args') (h : Contract P f args' res) : Contract P f args res :=
  fun w S vs hlt hvs => h w S vs hlt (wkl_ok hw hvs)
def ctr0 : Ctr := ⟨fun _ _ => none, fun _ _ _ => none⟩
theorem ctr0_ok : CtrOk Tryz.prog ctr0 := ⟨fun _ _ _ _ h => (by cases h), fun _ _ _ _ _ h => (by cases h)⟩
def eMod (args : List SV) : Option (SV × List Prop) :=
  match args with
  | [x, y] => match x.int?, y.int? with
    | some (.i64, n), some (.i64, m) => some (.u .i64 (n % m).toNat, [0 < m])
    | _, _ => none
  | _ => none
theorem fi_hit {l : List Int} {p : Int → Bool} {i : Nat} (h : i ≤ l.findIdx p) (hl : i < l.length) (hp : p (l.getD i 0) = true) : l.findIdx p = i := by
  rcases Nat.lt_or_eq_of_le h with h | h
  · exfalso
    have := List.not_of_lt_findIdx h
    rw [List.getD_eq_getElem?_getD, List.getElem?_eq_getElem hl] at hp
    simp only [Option.getD_some] at hp
    rw [hp] at this
    exact Bool.noConfusion this
  · exact h.symm
theorem fi_miss {l : List Int} {p : Int → Bool} {i : Nat} (h : i ≤ l.findIdx p) (hl : i < l.length) (hp : p (l.getD i 0) = false) : i + 1 ≤ l.findIdx p := by
  rcases Nat.lt_or_eq_of_le h with h | h
  · exact h
  · exfalso
    have hlt : l.findIdx p < l.length := by omega
    have := List.findIdx_getElem (w := hlt)
    rw [List.getD_eq_getElem?_getD, List.getElem?_eq_getElem hl] at hp
    simp only [Option.getD_some] at hp
    simp only [← h] at this
    rw [hp] at this
    exact Bool.noConfusion this
theorem fi_end {l : List Int} {p : Int → Bool} {i : Nat} (h : i ≤ l.findIdx p) (hl : ¬ i < l.length) : l.findIdx p = l.length := by
  have := List.findIdx_le_length (xs := l) (p := p)
  omega
end Go.Eng.B

namespace Go.Eng.B
open Go Go.Eng Go.Proofs
set_option maxRecDepth 100000
theorem mod_c (n m : Int) (hm : 0 < m) (res : SV) (hres : wk (.i .i64 (n % m)) res) : Contract Tryz.prog 7 [.i .i64 n, .i .i64 m] res := by
  refine contract Tryz.func7 (body := bodyOf Tryz.f7) rfl (by kernel_rfl) (by kernel_rfl) rfl ?_
  rintro ⟨hn, hm2, _⟩ w0 S
  have h1 := @Int.tmod_eq_emod n m
  have h2 := Int.emod_nonneg n (show m ≠ 0 by omega)
  have h3 := Int.emod_lt_of_pos n hm
  have h4 : (m.natAbs : Int) = m := by omega
  have hR : inR .i64 (n.tmod m) := by
    simp only [pureF, inR, lo, lim] at hm2 hn ⊢
    rw [h1]
    split <;> omega
  by_cases hlt : n.tmod m < 0
  · have e : n.tmod m + m = n % m := by
      rw [h1] at hlt ⊢
      split at hlt
      · omega
      · rename_i hc; rw [if_neg hc]; omega
    refine hwF mixed ctr0_ok 100 [true] (.i .i64 (n.tmod m + m)) [m ≠ (0 : Int) ∧ inR .i64 (n.tmod m), Decidable.decide (n.tmod m < (0 : Int)) = true, inR .i64 (n.tmod m + m)] (by kernel_rfl) ?_ ?_
    · refine ⟨⟨by omega, hR⟩, by simpa using hlt, ?_, trivial⟩
      rw [e]; simp only [pureF, inR, lo, lim] at hm2 ⊢; omega
    · rw [e]
      cases res <;> first | exact hres | (simp [wk, wk0, wka] at hres)
  · have e : n.tmod m = n % m := by
      rw [h1] at hlt ⊢
      split
      · omega
      · rename_i hc; rw [if_neg hc] at hlt; omega
    refine hwF mixed ctr0_ok 100 [false] (.i .i64 (n.tmod m)) [m ≠ (0 : Int) ∧ inR .i64 (n.tmod m), Decidable.decide (n.tmod m < (0 : Int)) = false] (by kernel_rfl) ?_ ?_
    · exact ⟨⟨by omega, hR⟩, by simpa using hlt, trivial⟩
    · rw [e]
      cases res <;> first | exact hres | (simp [wk, wk0, wka] at hres)
theorem cMod : ∀ args res ob, eMod args = some (res, ob) → All ob → Contract Tryz.prog 7 args res := by
  intro args res ob h hob
  unfold eMod at h
  split at h
  · rename_i x y
    split at h
    · rename_i n m hx hy
      cases h
      have hm : 0 < m := hob.1
      refine Contract.args (args' := [.i .i64 n, .i .i64 m]) ⟨int?_wk hx, int?_wk hy, rfl⟩ (Contract.pure fun hp => mod_c n m hm _ ?_)
      obtain ⟨_, hm2, _⟩ := hp
      have h2 := Int.emod_nonneg n (show m ≠ 0 by omega)
      have h3 := Int.emod_lt_of_pos n hm
      simp only [wk, wk0, lim, true_and]
      simp only [pureF, inR, lo, lim] at hm2
      omega
    · cases h
  · cases h
def C1a : Ctr := addC 7 eMod ctr0
theorem okC1a : CtrOk Tryz.prog C1a := addC_ok ctr0_ok cMod
end Go.Eng.B

namespace Go.Eng
section
variable {P : Program} {body : Code} {Q : Exit → Act → World → Prop} {w0 : Fr} {S : Own} {st : List It} {σ : St}
theorem rels_mem {β : Nat → Nat} {ow : Own} {w : World} {s : SV} : ∀ {l : List SV} {cs : List Value}, rels β ow w l cs → s ∈ l → ∃ c, rel β ow w s c
  | [], _, _, h => by cases h
  | x :: r, cs, h, hm => by
    simp only [rels] at h
    obtain ⟨c1, c2, _, h1, h2⟩ := h
    rcases List.mem_cons.1 hm with rfl | hm
    · exact ⟨c1, h1⟩
    · exact rels_mem h2 hm
theorem hold_lt {t n : Nat} {k : IntKind} (h : (t, SV.u k n) ∈ σ.slots) (hk : n < lim k → Hold P body Q w0 S st σ) : Hold P body Q w0 S st σ := by
  intro β a w hS
  have h1 := relV_scalar rfl rfl (hS.slot t _ h)
  simp only [rel] at h1
  exact hk h1.2 β a w hS
theorem Contract.argsH {f : FuncId} {args args' : List SV} {r : SV} (h : Contract P f args' r) (hw : ∀ {β : Nat → Nat} {ow : Own} {w : World} {vs : List Value}, relVs β ow w args vs → relVs β ow w args' vs) : Contract P f args r :=
  fun w S vs h1 h2 => h w S vs h1 (hw h2)
theorem ContractM.argsH {f : FuncId} {H : List Bk} {args args' : List SV} {r : MRes} (h : ContractM P f H args' r) (hw : ∀ {β : Nat → Nat} {ow : Own} {w : World} {vs : List Value}, relVs β ow w args vs → relVs β ow w args' vs) : ContractM P f H args r :=
  fun w S β vs h1 h2 h3 h4 h5 => h w S β vs h1 h2 h3 h4 (hw h5)
theorem hold_ltB {id : Nat} {bk : Bk} {k : IntKind} {n : Nat} {l : List Nat} (h : (id, bk) ∈ σ.blks) (hr : bk.row = false) (hm : SV.arr k n l ∈ bk.segs) (hk : l.length = n → (∀ x ∈ l, x < lim k) → Hold P body Q w0 S st σ) : Hold P body Q w0 S st σ := by
  intro β a w hS
  obtain ⟨cs, h1, _⟩ := (hS.blk id bk h).1 hr
  obtain ⟨c, h2⟩ := rels_mem h1 hm
  simp only [rel] at h2
  exact hk h2.2.1 h2.2.2 β a w hS
end
end Go.Eng

namespace Go.Eng
open Go.RowKit
def inl (P : Program) (T : Ctr) (fn : Func) (fuel : Nat) (args : List SV) : Option (SV × List Prop) :=
  if (idss args).isEmpty && Nat.ble args.length fn.ntmps then
    match runR P T (bodyOf fn) fn.results true fuel [.at []] (initSt args fn.ntmps) [] with
    | ([], some r, ob, _) => some (r, ob)
    | _ => none
  else none
theorem inl_ok {P : Program} {T : Ctr} {f : FuncId} {fn : Func} {fuel : Nat} (hm : P.follows .mixedOrders = true) (hf : P.funcs[f]? = some fn) (hb : fn.body.isSome = true) (hname : (fn.name == "runtime.NumGoroutine") = false) (hT : CtrOk P T) :
    ∀ args res ob, inl P T fn fuel args = some (res, ob) → All ob → Contract P f args res := by
  intro args res ob h hob
  unfold inl at h
  split at h
  · rename_i hc
    simp only [Bool.and_eq_true, List.isEmpty_iff] at hc
    split at h
    · rename_i r ob' sc' hr
      cases h
      refine contract (body := bodyOf fn) hf ?_ hname hc.2 hc.1 fun _ w0 S => hold_end hm hT hr hob rfl
      unfold bodyOf
      cases hbd : fn.body with
      | none => rw [hbd] at hb; cases hb
      | some b => rfl
    · cases h
  · cases h
end Go.Eng

namespace Go.Eng.B
open Go Go.Eng Go.Proofs
set_option maxRecDepth 100000
set_option maxHeartbeats 1000000
def dbl (a : Nat) : Nat := if (a &&& 128 != 0) = true then a * 2 % 256 ^^^ 27 else a * 2 % 256
def prdP (a b p : Nat) : Nat := if (b &&& 1 == 1) = true then p ^^^ a else p
def prdL : Nat → Nat → Nat → Nat → Nat
  | 0, _, _, p => p
  | f + 1, a, b, p => prdL f (dbl a) (b / 2) (prdP a b p)
def mul8 (a b : Nat) : Nat := prdL 8 a b 0
def stPr : List It := [.lp [0, 0, 1, 1], .blk 0, .at [1, 1, 1]]
def sPrr (a b p : Nat) : St := ⟨19, [(0, .u .u8 a), (1, .u .u8 b), (5, .u .u8 p)], [], 0, 0⟩
def stMu : List It := [.lp [0, 1, 0, 1, 1], .blk 0, .at [1, 1, 1]]
def sMu (a b p i : Nat) : St := ⟨27, [(0, .u .u8 a), (1, .u .u8 b), (5, .u .u8 p), (7, .u .i64 i)], [], 0, 0⟩
def eDb (args : List SV) : Option (SV × List Prop) := match args with
  | [x] => match x.nat? with | some (.u8, a) => some (.u .u8 (dbl a), []) | _ => none
  | _ => none
def eMu8 (args : List SV) : Option (SV × List Prop) := match args with
  | [x, y] => match x.nat?, y.nat? with | some (.u8, a), some (.u8, b) => some (.u .u8 (mul8 a b), []) | _, _ => none
  | _ => none
def A1a : Ctr := addC 82 eDb ctr0
theorem dbl_t {a : Nat} (h : (a &&& 128 != 0) = true) : dbl a = a * 2 % 256 ^^^ 27 := if_pos h
theorem dbl_f {a : Nat} (h : (a &&& 128 != 0) = false) : dbl a = a * 2 % 256 := if_neg (by rw [h]; exact Bool.false_ne_true)
theorem prdP_t {a b p : Nat} (h : (b &&& 1 == 1) = true) : prdP a b p = p ^^^ a := if_pos h
theorem prdP_f {a b p : Nat} (h : (b &&& 1 == 1) = false) : prdP a b p = p := if_neg (by rw [h]; exact Bool.false_ne_true)
theorem prdL_0 : ∀ f a p, prdL f a 0 p = p
  | 0, _, _ => rfl
  | f + 1, a, p => prdL_0 f (dbl a) p
theorem high_eq : ∀ a, a < 256 → (a / 128 == 1) = (a &&& 128 != 0) := by decide
section
variable {w0 : World} {S : Own} {res : SV}
theorem db_c (a : Nat) : Contract Tryz.prog 82 [.u .u8 a] (.u .u8 (dbl a)) := by
  refine contract Tryz.func82 (body := bodyOf Tryz.f82) rfl (by kernel_rfl) (by kernel_rfl) rfl ?_
  intro _ w0 S
  cases h : (a &&& 128 != 0) with
  | true =>
    rw [dbl_t h]
    exact hwF mixed ctr0_ok 100 [true] (.u .u8 (a * 2 % 256 ^^^ 27)) [(a &&& 128 != 0) = true] (by kernel_rfl) ⟨h, trivial⟩ (wkR_refl _)
  | false =>
    rw [dbl_f h]
    exact hwF mixed ctr0_ok 100 [false] (.u .u8 (a * 2 % 256)) [(a &&& 128 != 0) = false] (by kernel_rfl) ⟨h, trivial⟩ (wkR_refl _)
theorem db_ok : ∀ args res ob, eDb args = some (res, ob) → All ob → Contract Tryz.prog 82 args res := by
  intro args res ob he hob
  unfold eDb at he
  split at he
  · split at he
    · rename_i a hx
      cases he
      refine Contract.argsH (db_c a) ?_
      rintro β ow w vs ⟨v1, t1, rfl, r1, rfl⟩
      exact ⟨_, _, rfl, nat?_wk hx r1, rfl⟩
    · cases he
  · cases he
theorem okA1a : CtrOk Tryz.prog A1a := addC_ok ctr0_ok db_ok
theorem pr_l : ∀ (f a b p : Nat), b < 2 ^ f → res = .u .u8 (prdL f a b p) → Hold Tryz.prog (bodyOf Tryz.f109) (Fin Tryz.prog Tryz.f109 w0 S res) w0 S stPr (sPrr a b p) := by
  intro f
  induction f with
  | zero =>
    intro a b p hb hr
    have hb0 : b = 0 := by simpa using hb
    subst hb0
    rw [hr]
    refine hold_unroll (c := _) rfl ?_
    exact hwE mixed okA1a 100 [false] (.u .u8 p) [false = false] (by kernel_rfl) ⟨rfl, trivial⟩ (wkR_refl _)
  | succ f ih =>
    intro a b p hb hr
    have h2 : b / 2 < 2 ^ f := by rw [Nat.pow_succ] at hb; omega
    refine hold_unroll (c := _) rfl ?_
    cases h0 : (b != 0) with
    | false =>
      have hb0 : b = 0 := by simpa using h0
      subst hb0
      rw [hr, prdL_0]
      exact hwE mixed okA1a 100 [false] (.u .u8 p) [false = false] (by kernel_rfl) ⟨rfl, trivial⟩ (wkR_refl _)
    | true =>
      have e := ih (dbl a) (b / 2) (prdP a b p) h2 hr
      cases h1 : (b &&& 1 == 1) with
      | true =>
        rw [prdP_t h1] at e
        refine hwC mixed okA1a 100 [true, true] [0, 1, 5] [] 0 [.lp [0, 0, 1, 1], .blk 0, .at [1, 1, 1]] ⟨19, [(0, .u .u8 (dbl a)), (1, .u .u8 (b / 2)), (5, .u .u8 (p ^^^ a))], [], 0, 0⟩ [(b != 0) = true, (b &&& 1 == 1) = true] (by kernel_rfl) ⟨h0, h1, trivial⟩ ?_
        exact e
      | false =>
        rw [prdP_f h1] at e
        refine hwC mixed okA1a 100 [true, false] [0, 1, 5] [] 0 [.lp [0, 0, 1, 1], .blk 0, .at [1, 1, 1]] ⟨19, [(0, .u .u8 (dbl a)), (1, .u .u8 (b / 2)), (5, .u .u8 p)], [], 0, 0⟩ [(b != 0) = true, (b &&& 1 == 1) = false] (by kernel_rfl) ⟨h0, h1, trivial⟩ ?_
        exact e
theorem pr_c (a b : Nat) : Contract Tryz.prog 109 [.u .u8 a, .u .u8 b] (.u .u8 (mul8 a b)) := by
  refine contract Tryz.func109 (body := bodyOf Tryz.f109) rfl (by kernel_rfl) (by kernel_rfl) rfl ?_
  intro _ w0 S
  refine hold_lt (t := 1) (n := b) (k := .u8) (by simp [initSt, initSlots]) fun hb => ?_
  refine hwC mixed okA1a 100 [] [0, 1, 5] [] 0 [.lp [0, 0, 1, 1], .blk 0, .at [1, 1, 1]] ⟨19, [(0, .u .u8 a), (1, .u .u8 b), (5, .c .u8 0)], [], 0, 0⟩ [] (by kernel_rfl) trivial ?_
  exact Hold.weaken (pr_l 8 a b 0 hb rfl) (by simp [wks, wk, wk0, lim, sPrr])
theorem mu_l : ∀ (f a b p i : Nat), i + f = 8 → res = .u .u8 (prdL f a b p) → Hold Tryz.prog (bodyOf Tryz.f101) (Fin Tryz.prog Tryz.f101 w0 S res) w0 S stMu (sMu a b p i) := by
  intro f
  induction f with
  | zero =>
    intro a b p i hi hr
    rw [hr]
    refine hold_unroll (c := _) rfl ?_
    exact hwE mixed ctr0_ok 100 [false] (.u .u8 p) [Decidable.decide (i < 8) = false] (by kernel_rfl) ⟨decide_eq_false (by omega), trivial⟩ (wkR_refl _)
  | succ f ih =>
    intro a b p i hi hr
    have e := ih (dbl a) (b / 2) (prdP a b p) (i + 1) (by omega) hr
    refine hold_lt (t := 0) (n := a) (k := .u8) (by simp [sMu]) fun ha => ?_
    have hh := high_eq a ha
    refine hold_unroll (c := _) rfl ?_
    cases h1 : (b &&& 1 == 1) with
    | true =>
      rw [prdP_t h1] at e
      cases h2 : (a &&& 128 != 0) with
      | true =>
        rw [dbl_t h2] at e
        refine hwC mixed ctr0_ok 100 [true, true, true] [0, 1, 5, 7] [] 0 [.lp [0, 1, 0, 1, 1], .blk 0, .at [1, 1, 1]] ⟨27, [(0, .u .u8 (a * 2 % 256 ^^^ 27)), (1, .u .u8 (b / 2)), (5, .u .u8 (p ^^^ a)), (7, .u .i64 (i + 1))], [], 0, 0⟩ [Decidable.decide (i < 8) = true, (b &&& 1 == 1) = true, (a / 128 == 1) = true, i + 1 < 9223372036854775808] (by kernel_rfl) ⟨decide_eq_true (by omega), h1, by rw [hh, h2], by omega, trivial⟩ ?_
        exact e
      | false =>
        rw [dbl_f h2] at e
        refine hwC mixed ctr0_ok 100 [true, true, false] [0, 1, 5, 7] [] 0 [.lp [0, 1, 0, 1, 1], .blk 0, .at [1, 1, 1]] ⟨27, [(0, .u .u8 (a * 2 % 256)), (1, .u .u8 (b / 2)), (5, .u .u8 (p ^^^ a)), (7, .u .i64 (i + 1))], [], 0, 0⟩ [Decidable.decide (i < 8) = true, (b &&& 1 == 1) = true, (a / 128 == 1) = false, i + 1 < 9223372036854775808] (by kernel_rfl) ⟨decide_eq_true (by omega), h1, by rw [hh, h2], by omega, trivial⟩ ?_
        exact e
    | false =>
      rw [prdP_f h1] at e
      cases h2 : (a &&& 128 != 0) with
      | true =>
        rw [dbl_t h2] at e
        refine hwC mixed ctr0_ok 100 [true, false, true] [0, 1, 5, 7] [] 0 [.lp [0, 1, 0, 1, 1], .blk 0, .at [1, 1, 1]] ⟨27, [(0, .u .u8 (a * 2 % 256 ^^^ 27)), (1, .u .u8 (b / 2)), (5, .u .u8 p), (7, .u .i64 (i + 1))], [], 0, 0⟩ [Decidable.decide (i < 8) = true, (b &&& 1 == 1) = false, (a / 128 == 1) = true, i + 1 < 9223372036854775808] (by kernel_rfl) ⟨decide_eq_true (by omega), h1, by rw [hh, h2], by omega, trivial⟩ ?_
        exact e
      | false =>
        rw [dbl_f h2] at e
        refine hwC mixed ctr0_ok 100 [true, false, false] [0, 1, 5, 7] [] 0 [.lp [0, 1, 0, 1, 1], .blk 0, .at [1, 1, 1]] ⟨27, [(0, .u .u8 (a * 2 % 256)), (1, .u .u8 (b / 2)), (5, .u .u8 p), (7, .u .i64 (i + 1))], [], 0, 0⟩ [Decidable.decide (i < 8) = true, (b &&& 1 == 1) = false, (a / 128 == 1) = false, i + 1 < 9223372036854775808] (by kernel_rfl) ⟨decide_eq_true (by omega), h1, by rw [hh, h2], by omega, trivial⟩ ?_
        exact e
theorem mu_c (a b : Nat) : Contract Tryz.prog 101 [.u .u8 a, .u .u8 b] (.u .u8 (mul8 a b)) := by
  refine contract Tryz.func101 (body := bodyOf Tryz.f101) rfl (by kernel_rfl) (by kernel_rfl) rfl ?_
  intro _ w0 S
  refine hwC mixed ctr0_ok 100 [] [0, 1, 5, 7] [] 0 [.lp [0, 1, 0, 1, 1], .blk 0, .at [1, 1, 1]] ⟨27, [(0, .u .u8 a), (1, .u .u8 b), (5, .c .u8 0), (7, .c .i64 0)], [], 0, 0⟩ [] (by kernel_rfl) trivial ?_
  exact Hold.weaken (mu_l 8 a b 0 0 rfl rfl) (by simp [wks, wk, wk0, lim, sMu])
end
theorem eMu8_ok {f : FuncId} (h : ∀ a b : Nat, Contract Tryz.prog f [.u .u8 a, .u .u8 b] (.u .u8 (mul8 a b))) : ∀ args res ob, eMu8 args = some (res, ob) → All ob → Contract Tryz.prog f args res := by
  intro args res ob he hob
  unfold eMu8 at he
  split at he
  · split at he
    · rename_i a b hx hy
      cases he
      refine Contract.argsH (h a b) ?_
      rintro β ow w vs ⟨v1, t1, rfl, r1, v2, t2, rfl, r2, rfl⟩
      exact ⟨_, _, rfl, nat?_wk hx r1, _, _, rfl, nat?_wk hy r2, rfl⟩
    · cases he
  · cases he
theorem pr_ok : ∀ args res ob, eMu8 args = some (res, ob) → All ob → Contract Tryz.prog 109 args res := eMu8_ok pr_c
theorem mu_ok : ∀ args res ob, eMu8 args = some (res, ob) → All ob → Contract Tryz.prog 101 args res := eMu8_ok mu_c
end Go.Eng.B

namespace Go.Eng.B
open Go Go.Eng Go.Proofs
set_option maxRecDepth 100000
set_option maxHeartbeats 1000000
def z256 : List Nat := List.replicate 256 0
def z255 : List Nat := List.replicate 255 0
def qx (i : Nat) : Nat := ((255 - (i : Int)).tmod 255).toNat
def bxv (b : Nat) : Nat := b ^^^ 99 ^^^ (b * 2 % 256 ||| b / 128) ^^^ (b * 4 % 256 ||| b / 64) ^^^ (b * 8 % 256 ||| b / 32) ^^^ (b * 16 % 256 ||| b / 16)
def pwI (z : List Nat) : Nat → List Nat × Nat
  | 0 => (z, 1)
  | i + 1 => ((pwI z i).1.set i (pwI z i).2, (pwI z i).2 ^^^ dbl (pwI z i).2)
def bxS (l : List Nat) (s : List Nat × List Nat) (i : Nat) : List Nat × List Nat :=
  if i < 255 then (s.1.set (l.getD i 0) (bxv (l.getD (qx i) 0)), s.2.set (bxv (l.getD (qx i) 0)) (l.getD i 0)) else (s.1.set 0 99, s.2.set 99 0)
def bxF (l : List Nat) : Nat → List Nat × List Nat
  | 0 => (z256, z256)
  | i + 1 => bxS l (bxF l i) i
def pwL : List Nat := (pwI z256 255).1
def sbx : List Nat := (bxF pwL 256).1
def sby : List Nat := (bxF pwL 256).2
def b91 (l : List Nat) : Bk := ⟨91, [.arr .u8 256 l], false⟩
def b93 (x y : List Nat) : Bk := ⟨93, [.arr .u8 256 x, .arr .u8 256 y], false⟩
def stSb : List It := [.lp [0, 1, 0, 1, 1, 1], .blk 0, .at [1, 1, 1, 1]]
def sSb (l : List Nat) (p i : Nat) : St := ⟨55, [(0, .ptr 0 0 (.c 0)), (1, .ptr 1 0 (.c 0)), (2, .u .u8 p), (10, .u .i64 i)], [(0, b93 z256 z256), (1, b91 l)], 2, 0⟩
def stSc : List It := [.lp [0, 1, 0, 1, 1, 1, 1, 1], .blk 2, .at [1, 1, 1, 1, 1, 1]]
def sSc (l x y : List Nat) (i : Nat) : St := ⟨55, [(0, .ptr 0 0 (.c 0)), (1, .ptr 1 0 (.c 0)), (4, .ptr 2 0 (.c 0)), (21, .u .i64 i)], [(0, b93 z256 z256), (1, b91 l), (2, b93 x y)], 3, 0⟩
noncomputable def A2a : Ctr := addC 83 (inl Tryz.prog ctr0 Tryz.f83 40) A1a
theorem okA2a : CtrOk Tryz.prog A2a := addC_ok okA1a (inl_ok mixed (by kernel_rfl) (by kernel_rfl) (by kernel_rfl) ctr0_ok)
theorem bxv_lt : ∀ b, b < 256 → bxv b < 256 := by decide +kernel
theorem getD_lt {l : List Nat} {m : Nat} (h : ∀ x ∈ l, x < m) (hm : 0 < m) (i : Nat) : l.getD i 0 < m := by
  by_cases hi : i < l.length
  · rw [List.getD, List.getElem?_eq_getElem hi]
    exact h _ (List.getElem_mem hi)
  · rw [List.getD, List.getElem?_eq_none (by omega)]
    exact hm
theorem qx_b (i : Nat) (h : i < 255) : inR .i64 ((255 - (i : Int)).tmod 255) ∧ 0 ≤ (255 - (i : Int)).tmod 255 ∧ qx i < 255 := by
  have h1 : (255 - (i : Int)).tmod 255 = (255 - (i : Int)) % 255 := Int.tmod_eq_emod_of_nonneg (by omega)
  unfold qx
  rw [h1]
  refine ⟨?_, ?_, ?_⟩
  · simp only [inR, lo, lim]; omega
  · omega
  · omega
section
variable {w0 : World} {S : Own} {res : SV}
theorem sc_l (l : List Nat) (hl : ∀ x ∈ l, x < 256) (hr : res = .ag [.arr .u8 256 (bxF l 256).1, .arr .u8 256 (bxF l 256).2]) : ∀ d i, 256 - i = d → i ≤ 256 → Hold Tryz.prog (bodyOf Tryz.f63) (Fin Tryz.prog Tryz.f63 w0 S res) w0 S stSc (sSc l (bxF l i).1 (bxF l i).2 i) := by
  intro d
  induction d using Nat.strongRecOn with
  | _ d ih =>
  intro i hd hi
  refine hold_unroll (c := _) rfl ?_
  by_cases hlt : i < 256
  · have e := ih (256 - (i + 1)) (by omega) (i + 1) rfl (by omega)
    rw [show bxF l (i + 1) = bxS l (bxF l i) i from rfl] at e
    have g1 := getD_lt hl (by omega) i
    have g2 := getD_lt hl (by omega) (qx i)
    have g3 := bxv_lt _ g2
    generalize bxF l i = z at e ⊢
    obtain ⟨x, y⟩ := z
    by_cases h2 : i < 255
    · obtain ⟨q1, q2, q3⟩ := qx_b i h2
      have q4 : qx i < 256 := by omega
      rw [show bxS l (x, y) i = (x.set (l.getD i 0) (bxv (l.getD (qx i) 0)), y.set (bxv (l.getD (qx i) 0)) (l.getD i 0)) from if_pos h2] at e
      refine hwD mixed okA2a 76 [true, true] [0, 1, 4, 21] [0, 1, 2] 3 [.lp [0, 1, 0, 1, 1, 1, 1, 1], .blk 2, .at [1, 1, 1, 1, 1, 1]] ⟨55, [(0, .ptr 0 0 (.c 0)), (1, .ptr 1 0 (.c 0)), (4, .ptr 2 0 (.c 0)), (21, .u .i64 (i + 1))], [(0, ⟨93, [.arr .u8 256 z256, .arr .u8 256 z256], false⟩), (1, ⟨91, [.arr .u8 256 l], false⟩), (2, ⟨93, [.arr .u8 256 (x.set (l.getD i 0) (l.getD (((255 : Int) - (↑i : Int)).tmod (255 : Int)).toNat 0 ^^^ 99 ^^^ (l.getD (((255 : Int) - (↑i : Int)).tmod (255 : Int)).toNat 0 * 2 % 256 ||| l.getD (((255 : Int) - (↑i : Int)).tmod (255 : Int)).toNat 0 / 128) ^^^ (l.getD (((255 : Int) - (↑i : Int)).tmod (255 : Int)).toNat 0 * 4 % 256 ||| l.getD (((255 : Int) - (↑i : Int)).tmod (255 : Int)).toNat 0 / 64) ^^^ (l.getD (((255 : Int) - (↑i : Int)).tmod (255 : Int)).toNat 0 * 8 % 256 ||| l.getD (((255 : Int) - (↑i : Int)).tmod (255 : Int)).toNat 0 / 32) ^^^ (l.getD (((255 : Int) - (↑i : Int)).tmod (255 : Int)).toNat 0 * 16 % 256 ||| l.getD (((255 : Int) - (↑i : Int)).tmod (255 : Int)).toNat 0 / 16))), .arr .u8 256 (y.set (l.getD (((255 : Int) - (↑i : Int)).tmod (255 : Int)).toNat 0 ^^^ 99 ^^^ (l.getD (((255 : Int) - (↑i : Int)).tmod (255 : Int)).toNat 0 * 2 % 256 ||| l.getD (((255 : Int) - (↑i : Int)).tmod (255 : Int)).toNat 0 / 128) ^^^ (l.getD (((255 : Int) - (↑i : Int)).tmod (255 : Int)).toNat 0 * 4 % 256 ||| l.getD (((255 : Int) - (↑i : Int)).tmod (255 : Int)).toNat 0 / 64) ^^^ (l.getD (((255 : Int) - (↑i : Int)).tmod (255 : Int)).toNat 0 * 8 % 256 ||| l.getD (((255 : Int) - (↑i : Int)).tmod (255 : Int)).toNat 0 / 32) ^^^ (l.getD (((255 : Int) - (↑i : Int)).tmod (255 : Int)).toNat 0 * 16 % 256 ||| l.getD (((255 : Int) - (↑i : Int)).tmod (255 : Int)).toNat 0 / 16)) (l.getD i 0))], false⟩)], 3, 0⟩ [Decidable.decide (i < 256) = true, Decidable.decide (i < 255) = true, i < 256, i < 256, (255 : Int) ≠ (0 : Int) ∧ inR .i64 (((255 : Int) - (↑i : Int)).tmod (255 : Int)), (0 : Int) ≤ ((255 : Int) - (↑i : Int)).tmod (255 : Int), (((255 : Int) - (↑i : Int)).tmod (255 : Int)).toNat < 256, (((255 : Int) - (↑i : Int)).tmod (255 : Int)).toNat < 256, l.getD i 0 < 256, l.getD i 0 < 256, l.getD (((255 : Int) - (↑i : Int)).tmod (255 : Int)).toNat 0 ^^^ 99 ^^^ (l.getD (((255 : Int) - (↑i : Int)).tmod (255 : Int)).toNat 0 * 2 % 256 ||| l.getD (((255 : Int) - (↑i : Int)).tmod (255 : Int)).toNat 0 / 128) ^^^ (l.getD (((255 : Int) - (↑i : Int)).tmod (255 : Int)).toNat 0 * 4 % 256 ||| l.getD (((255 : Int) - (↑i : Int)).tmod (255 : Int)).toNat 0 / 64) ^^^ (l.getD (((255 : Int) - (↑i : Int)).tmod (255 : Int)).toNat 0 * 8 % 256 ||| l.getD (((255 : Int) - (↑i : Int)).tmod (255 : Int)).toNat 0 / 32) ^^^ (l.getD (((255 : Int) - (↑i : Int)).tmod (255 : Int)).toNat 0 * 16 % 256 ||| l.getD (((255 : Int) - (↑i : Int)).tmod (255 : Int)).toNat 0 / 16) < 256, l.getD (((255 : Int) - (↑i : Int)).tmod (255 : Int)).toNat 0 ^^^ 99 ^^^ (l.getD (((255 : Int) - (↑i : Int)).tmod (255 : Int)).toNat 0 * 2 % 256 ||| l.getD (((255 : Int) - (↑i : Int)).tmod (255 : Int)).toNat 0 / 128) ^^^ (l.getD (((255 : Int) - (↑i : Int)).tmod (255 : Int)).toNat 0 * 4 % 256 ||| l.getD (((255 : Int) - (↑i : Int)).tmod (255 : Int)).toNat 0 / 64) ^^^ (l.getD (((255 : Int) - (↑i : Int)).tmod (255 : Int)).toNat 0 * 8 % 256 ||| l.getD (((255 : Int) - (↑i : Int)).tmod (255 : Int)).toNat 0 / 32) ^^^ (l.getD (((255 : Int) - (↑i : Int)).tmod (255 : Int)).toNat 0 * 16 % 256 ||| l.getD (((255 : Int) - (↑i : Int)).tmod (255 : Int)).toNat 0 / 16) < 256, i + 1 < 9223372036854775808] (by kernel_rfl) (by repeat' first | exact trivial | exact decide_eq_true (by omega) | exact q1 | exact q2 | exact q4 | exact g1 | exact g3 | exact (by decide : (255 : Int) ≠ 0) | omega | refine ⟨?_, ?_⟩) ?_
      exact e
    · have h3 : i = 255 := by omega
      subst h3
      rw [show bxS l (x, y) 255 = (x.set 0 99, y.set 99 0) from rfl] at e
      refine hwD mixed okA2a 76 [true, false] [0, 1, 4, 21] [0, 1, 2] 3 [.lp [0, 1, 0, 1, 1, 1, 1, 1], .blk 2, .at [1, 1, 1, 1, 1, 1]] ⟨55, [(0, .ptr 0 0 (.c 0)), (1, .ptr 1 0 (.c 0)), (4, .ptr 2 0 (.c 0)), (21, .u .i64 256)], [(0, ⟨93, [.arr .u8 256 z256, .arr .u8 256 z256], false⟩), (1, ⟨91, [.arr .u8 256 l], false⟩), (2, ⟨93, [.arr .u8 256 (x.set 0 99), .arr .u8 256 (y.set 99 0)], false⟩)], 3, 0⟩ [true = true, false = false, 256 < 9223372036854775808] (by kernel_rfl) (by repeat' first | exact trivial | exact decide_eq_true (by omega) | exact decide_eq_false (by omega) | omega | refine ⟨?_, ?_⟩) ?_
      exact Hold.weaken e (by simp [wks, wk, wk0, wkB, wka, wkl, sSc, b91, b93, lim])
  · have e : i = 256 := by omega
    subst e
    generalize bxF l 256 = z at hr ⊢
    obtain ⟨x, y⟩ := z
    rw [hr]
    exact hwE mixed okA2a 100 [false] (.ag [.arr .u8 256 x, .arr .u8 256 y]) [false = false] (by kernel_rfl) (by repeat' first | exact trivial | exact decide_eq_false (by omega) | omega | refine ⟨?_, ?_⟩) (wkR_refl _)
theorem sb_l (hr : res = .ag [.arr .u8 256 sbx, .arr .u8 256 sby]) : ∀ d i, 255 - i = d → i ≤ 255 → Hold Tryz.prog (bodyOf Tryz.f63) (Fin Tryz.prog Tryz.f63 w0 S res) w0 S stSb (sSb (pwI z256 i).1 (pwI z256 i).2 i) := by
  intro d
  induction d using Nat.strongRecOn with
  | _ d ih =>
  intro i hd hi
  refine hold_unroll (c := _) rfl ?_
  by_cases hlt : i < 255
  · have e := ih (255 - (i + 1)) (by omega) (i + 1) rfl (by omega)
    rw [show pwI z256 (i + 1) = ((pwI z256 i).1.set i (pwI z256 i).2, (pwI z256 i).2 ^^^ dbl (pwI z256 i).2) from rfl] at e
    generalize pwI z256 i = z at e ⊢
    obtain ⟨l, p⟩ := z
    refine hwC mixed okA2a 100 [true] [0, 1, 2, 10] [0, 1] 2 [.lp [0, 1, 0, 1, 1, 1], .blk 0, .at [1, 1, 1, 1]] ⟨55, [(0, .ptr 0 0 (.c 0)), (1, .ptr 1 0 (.c 0)), (2, .u .u8 (p ^^^ dbl p)), (10, .u .i64 (i + 1))], [(0, ⟨93, [.arr .u8 256 z256, .arr .u8 256 z256], false⟩), (1, ⟨91, [.arr .u8 256 (l.set i p)], false⟩)], 2, 0⟩ [Decidable.decide (i < 255) = true, i < 256, i < 256, i + 1 < 9223372036854775808] (by kernel_rfl) (by repeat' first | exact trivial | exact decide_eq_true (by omega) | omega | refine ⟨?_, ?_⟩) ?_
    exact e
  · have e : i = 255 := by omega
    subst e
    refine hold_ltB (id := 1) (bk := b91 (pwI z256 255).1) (k := .u8) (n := 256) (l := (pwI z256 255).1) (by simp [sSb]) rfl (by simp [b91]) fun _ hl => ?_
    have e2 := sc_l (w0 := w0) (S := S) (pwI z256 255).1 hl hr _ 0 rfl (by omega)
    generalize pwI z256 255 = z at e2 ⊢
    obtain ⟨l, p⟩ := z
    refine hwC mixed okA2a 100 [false] [0, 1, 4, 21] [0, 1, 2] 3 [.lp [0, 1, 0, 1, 1, 1, 1, 1], .blk 2, .at [1, 1, 1, 1, 1, 1]] ⟨55, [(0, .ptr 0 0 (.c 0)), (1, .ptr 1 0 (.c 0)), (4, .ptr 2 0 (.c 0)), (21, .c .i64 0)], [(0, ⟨93, [.arr .u8 256 z256, .arr .u8 256 z256], false⟩), (1, ⟨91, [.arr .u8 256 l], false⟩), (2, ⟨93, [.arr .u8 256 [0, 0, 0, 0, 0, 0, 0, 0, 0, 0, 0, 0, 0, 0, 0, 0, 0, 0, 0, 0, 0, 0, 0, 0, 0, 0, 0, 0, 0, 0, 0, 0, 0, 0, 0, 0, 0, 0, 0, 0, 0, 0, 0, 0, 0, 0, 0, 0, 0, 0, 0, 0, 0, 0, 0, 0, 0, 0, 0, 0, 0, 0, 0, 0, 0, 0, 0, 0, 0, 0, 0, 0, 0, 0, 0, 0, 0, 0, 0, 0, 0, 0, 0, 0, 0, 0, 0, 0, 0, 0, 0, 0, 0, 0, 0, 0, 0, 0, 0, 0, 0, 0, 0, 0, 0, 0, 0, 0, 0, 0, 0, 0, 0, 0, 0, 0, 0, 0, 0, 0, 0, 0, 0, 0, 0, 0, 0, 0, 0, 0, 0, 0, 0, 0, 0, 0, 0, 0, 0, 0, 0, 0, 0, 0, 0, 0, 0, 0, 0, 0, 0, 0, 0, 0, 0, 0, 0, 0, 0, 0, 0, 0, 0, 0, 0, 0, 0, 0, 0, 0, 0, 0, 0, 0, 0, 0, 0, 0, 0, 0, 0, 0, 0, 0, 0, 0, 0, 0, 0, 0, 0, 0, 0, 0, 0, 0, 0, 0, 0, 0, 0, 0, 0, 0, 0, 0, 0, 0, 0, 0, 0, 0, 0, 0, 0, 0, 0, 0, 0, 0, 0, 0, 0, 0, 0, 0, 0, 0, 0, 0, 0, 0, 0, 0, 0, 0, 0, 0, 0, 0, 0, 0, 0, 0, 0, 0, 0, 0, 0, 0, 0, 0, 0, 0, 0, 0], .arr .u8 256 [0, 0, 0, 0, 0, 0, 0, 0, 0, 0, 0, 0, 0, 0, 0, 0, 0, 0, 0, 0, 0, 0, 0, 0, 0, 0, 0, 0, 0, 0, 0, 0, 0, 0, 0, 0, 0, 0, 0, 0, 0, 0, 0, 0, 0, 0, 0, 0, 0, 0, 0, 0, 0, 0, 0, 0, 0, 0, 0, 0, 0, 0, 0, 0, 0, 0, 0, 0, 0, 0, 0, 0, 0, 0, 0, 0, 0, 0, 0, 0, 0, 0, 0, 0, 0, 0, 0, 0, 0, 0, 0, 0, 0, 0, 0, 0, 0, 0, 0, 0, 0, 0, 0, 0, 0, 0, 0, 0, 0, 0, 0, 0, 0, 0, 0, 0, 0, 0, 0, 0, 0, 0, 0, 0, 0, 0, 0, 0, 0, 0, 0, 0, 0, 0, 0, 0, 0, 0, 0, 0, 0, 0, 0, 0, 0, 0, 0, 0, 0, 0, 0, 0, 0, 0, 0, 0, 0, 0, 0, 0, 0, 0, 0, 0, 0, 0, 0, 0, 0, 0, 0, 0, 0, 0, 0, 0, 0, 0, 0, 0, 0, 0, 0, 0, 0, 0, 0, 0, 0, 0, 0, 0, 0, 0, 0, 0, 0, 0, 0, 0, 0, 0, 0, 0, 0, 0, 0, 0, 0, 0, 0, 0, 0, 0, 0, 0, 0, 0, 0, 0, 0, 0, 0, 0, 0, 0, 0, 0, 0, 0, 0, 0, 0, 0, 0, 0, 0, 0, 0, 0, 0, 0, 0, 0, 0, 0, 0, 0, 0, 0, 0, 0, 0, 0, 0, 0]], false⟩)], 3, 0⟩ [false = false] (by kernel_rfl) (by repeat' first | exact trivial | exact decide_eq_false (by omega) | omega | refine ⟨?_, ?_⟩) ?_
    exact Hold.weaken e2 (by simp [wks, wk, wk0, wkB, wka, wkl, sSc, b91, b93, lim, bxF, z256, List.replicate])
theorem sub_c : Contract Tryz.prog 63 [] (.ag [.arr .u8 256 sbx, .arr .u8 256 sby]) := by
  refine contract Tryz.func63 (body := bodyOf Tryz.f63) rfl (by kernel_rfl) (by kernel_rfl) rfl ?_
  intro _ w0 S
  refine hwC mixed okA2a 100 [] [0, 1, 2, 10] [0, 1] 2 [.lp [0, 1, 0, 1, 1, 1], .blk 0, .at [1, 1, 1, 1]] ⟨55, [(0, .ptr 0 0 (.c 0)), (1, .ptr 1 0 (.c 0)), (2, .c .u8 1), (10, .c .i64 0)], [(0, ⟨93, [.arr .u8 256 [0, 0, 0, 0, 0, 0, 0, 0, 0, 0, 0, 0, 0, 0, 0, 0, 0, 0, 0, 0, 0, 0, 0, 0, 0, 0, 0, 0, 0, 0, 0, 0, 0, 0, 0, 0, 0, 0, 0, 0, 0, 0, 0, 0, 0, 0, 0, 0, 0, 0, 0, 0, 0, 0, 0, 0, 0, 0, 0, 0, 0, 0, 0, 0, 0, 0, 0, 0, 0, 0, 0, 0, 0, 0, 0, 0, 0, 0, 0, 0, 0, 0, 0, 0, 0, 0, 0, 0, 0, 0, 0, 0, 0, 0, 0, 0, 0, 0, 0, 0, 0, 0, 0, 0, 0, 0, 0, 0, 0, 0, 0, 0, 0, 0, 0, 0, 0, 0, 0, 0, 0, 0, 0, 0, 0, 0, 0, 0, 0, 0, 0, 0, 0, 0, 0, 0, 0, 0, 0, 0, 0, 0, 0, 0, 0, 0, 0, 0, 0, 0, 0, 0, 0, 0, 0, 0, 0, 0, 0, 0, 0, 0, 0, 0, 0, 0, 0, 0, 0, 0, 0, 0, 0, 0, 0, 0, 0, 0, 0, 0, 0, 0, 0, 0, 0, 0, 0, 0, 0, 0, 0, 0, 0, 0, 0, 0, 0, 0, 0, 0, 0, 0, 0, 0, 0, 0, 0, 0, 0, 0, 0, 0, 0, 0, 0, 0, 0, 0, 0, 0, 0, 0, 0, 0, 0, 0, 0, 0, 0, 0, 0, 0, 0, 0, 0, 0, 0, 0, 0, 0, 0, 0, 0, 0, 0, 0, 0, 0, 0, 0, 0, 0, 0, 0, 0, 0], .arr .u8 256 [0, 0, 0, 0, 0, 0, 0, 0, 0, 0, 0, 0, 0, 0, 0, 0, 0, 0, 0, 0, 0, 0, 0, 0, 0, 0, 0, 0, 0, 0, 0, 0, 0, 0, 0, 0, 0, 0, 0, 0, 0, 0, 0, 0, 0, 0, 0, 0, 0, 0, 0, 0, 0, 0, 0, 0, 0, 0, 0, 0, 0, 0, 0, 0, 0, 0, 0, 0, 0, 0, 0, 0, 0, 0, 0, 0, 0, 0, 0, 0, 0, 0, 0, 0, 0, 0, 0, 0, 0, 0, 0, 0, 0, 0, 0, 0, 0, 0, 0, 0, 0, 0, 0, 0, 0, 0, 0, 0, 0, 0, 0, 0, 0, 0, 0, 0, 0, 0, 0, 0, 0, 0, 0, 0, 0, 0, 0, 0, 0, 0, 0, 0, 0, 0, 0, 0, 0, 0, 0, 0, 0, 0, 0, 0, 0, 0, 0, 0, 0, 0, 0, 0, 0, 0, 0, 0, 0, 0, 0, 0, 0, 0, 0, 0, 0, 0, 0, 0, 0, 0, 0, 0, 0, 0, 0, 0, 0, 0, 0, 0, 0, 0, 0, 0, 0, 0, 0, 0, 0, 0, 0, 0, 0, 0, 0, 0, 0, 0, 0, 0, 0, 0, 0, 0, 0, 0, 0, 0, 0, 0, 0, 0, 0, 0, 0, 0, 0, 0, 0, 0, 0, 0, 0, 0, 0, 0, 0, 0, 0, 0, 0, 0, 0, 0, 0, 0, 0, 0, 0, 0, 0, 0, 0, 0, 0, 0, 0, 0, 0, 0, 0, 0, 0, 0, 0, 0]], false⟩), (1, ⟨91, [.arr .u8 256 [0, 0, 0, 0, 0, 0, 0, 0, 0, 0, 0, 0, 0, 0, 0, 0, 0, 0, 0, 0, 0, 0, 0, 0, 0, 0, 0, 0, 0, 0, 0, 0, 0, 0, 0, 0, 0, 0, 0, 0, 0, 0, 0, 0, 0, 0, 0, 0, 0, 0, 0, 0, 0, 0, 0, 0, 0, 0, 0, 0, 0, 0, 0, 0, 0, 0, 0, 0, 0, 0, 0, 0, 0, 0, 0, 0, 0, 0, 0, 0, 0, 0, 0, 0, 0, 0, 0, 0, 0, 0, 0, 0, 0, 0, 0, 0, 0, 0, 0, 0, 0, 0, 0, 0, 0, 0, 0, 0, 0, 0, 0, 0, 0, 0, 0, 0, 0, 0, 0, 0, 0, 0, 0, 0, 0, 0, 0, 0, 0, 0, 0, 0, 0, 0, 0, 0, 0, 0, 0, 0, 0, 0, 0, 0, 0, 0, 0, 0, 0, 0, 0, 0, 0, 0, 0, 0, 0, 0, 0, 0, 0, 0, 0, 0, 0, 0, 0, 0, 0, 0, 0, 0, 0, 0, 0, 0, 0, 0, 0, 0, 0, 0, 0, 0, 0, 0, 0, 0, 0, 0, 0, 0, 0, 0, 0, 0, 0, 0, 0, 0, 0, 0, 0, 0, 0, 0, 0, 0, 0, 0, 0, 0, 0, 0, 0, 0, 0, 0, 0, 0, 0, 0, 0, 0, 0, 0, 0, 0, 0, 0, 0, 0, 0, 0, 0, 0, 0, 0, 0, 0, 0, 0, 0, 0, 0, 0, 0, 0, 0, 0, 0, 0, 0, 0, 0, 0]], false⟩)], 2, 0⟩ [] (by kernel_rfl) (by repeat' first | exact trivial | refine ⟨?_, ?_⟩) ?_
  exact Hold.weaken (sb_l rfl _ 0 rfl (by omega)) (by simp [wks, wk, wk0, wkB, wka, wkl, sSb, b91, b93, lim, pwI, z256, List.replicate])
def eSub (args : List SV) : Option (SV × List Prop) := match args with
  | [] => some (.ag [.arr .u8 256 sbx, .arr .u8 256 sby], [])
  | _ => none
theorem sub_ok : ∀ args res ob, eSub args = some (res, ob) → All ob → Contract Tryz.prog 63 args res := by
  intro args res ob he _
  unfold eSub at he
  split at he
  · cases he; exact sub_c
  · cases he
end
end Go.Eng.B

namespace Go.Eng.B
open Go Go.Eng Go.Proofs
set_option maxRecDepth 100000
set_option maxHeartbeats 1000000
def dvv (b : Nat) : Nat := b ^^^ (b * 2 % 256 ||| b / 128) ^^^ (b * 4 % 256 ||| b / 64) ^^^ (b * 8 % 256 ||| b / 32) ^^^ (b * 16 % 256 ||| b / 16) ^^^ 99
def dxF (l : List Nat) : Nat → List Nat
  | 0 => z256.set 0 99
  | i + 1 => (dxF l i).set (l.getD i 0) (dvv (l.getD (qx i) 0))
def b132 (l : List Nat) : Bk := ⟨132, [.arr .u8 255 l], false⟩
def stDb : List It := [.lp [0, 1, 0, 1, 1, 1], .blk 0, .at [1, 1, 1, 1]]
def sDb (l : List Nat) (p i : Nat) : St := ⟨45, [(0, .ptr 0 0 (.c 0)), (1, .ptr 1 0 (.c 0)), (2, .u .u8 p), (7, .u .i64 i)], [(0, b91 z256), (1, b132 l)], 2, 0⟩
def stDc : List It := [.lp [0, 1, 0, 1, 1, 1, 1, 1, 1], .blk 2, .at [1, 1, 1, 1, 1, 1, 1]]
def sDc (l x : List Nat) (i : Nat) : St := ⟨45, [(0, .ptr 0 0 (.c 0)), (1, .ptr 1 0 (.c 0)), (4, .ptr 2 0 (.c 0)), (17, .u .i64 i)], [(0, b91 z256), (1, b132 l), (2, b91 x)], 3, 0⟩
noncomputable def A3a : Ctr := addC 102 (inl Tryz.prog ctr0 Tryz.f102 40) (addC 101 eMu8 ctr0)
theorem okA3a : CtrOk Tryz.prog A3a := addC_ok (addC_ok ctr0_ok mu_ok) (inl_ok mixed (by kernel_rfl) (by kernel_rfl) (by kernel_rfl) ctr0_ok)
theorem mul8_3 (x : Nat) : mul8 x 3 = x ^^^ dbl x := by
  simp [mul8, prdL, prdP]
theorem dsx : dxF (pwI z255 255).1 255 = sbx := by decide +kernel
section
variable {w0 : World} {S : Own} {res : SV}
theorem dc_l (l : List Nat) (hl : ∀ x ∈ l, x < 256) (hr : res = .arr .u8 256 (dxF l 255)) : ∀ d i, 255 - i = d → i ≤ 255 → Hold Tryz.prog (bodyOf Tryz.f86) (Fin Tryz.prog Tryz.f86 w0 S res) w0 S stDc (sDc l (dxF l i) i) := by
  intro d
  induction d using Nat.strongRecOn with
  | _ d ih =>
  intro i hd hi
  refine hold_unroll (c := _) rfl ?_
  by_cases hlt : i < 255
  · have e := ih (255 - (i + 1)) (by omega) (i + 1) rfl (by omega)
    rw [show dxF l (i + 1) = (dxF l i).set (l.getD i 0) (dvv (l.getD (qx i) 0)) from rfl] at e
    have g1 := getD_lt hl (by omega) i
    generalize dxF l i = x at e ⊢
    obtain ⟨q1, q2, q3⟩ := qx_b i hlt
    refine hwC mixed okA3a 100 [true] [0, 1, 4, 17] [0, 1, 2] 3 [.lp [0, 1, 0, 1, 1, 1, 1, 1, 1], .blk 2, .at [1, 1, 1, 1, 1, 1, 1]] ⟨45, [(0, .ptr 0 0 (.c 0)), (1, .ptr 1 0 (.c 0)), (4, .ptr 2 0 (.c 0)), (17, .u .i64 (i + 1))], [(0, ⟨91, [.arr .u8 256 z256], false⟩), (1, ⟨132, [.arr .u8 255 l], false⟩), (2, ⟨91, [.arr .u8 256 (x.set (l.getD i 0) (l.getD (((255 : Int) - (↑i : Int)).tmod (255 : Int)).toNat 0 ^^^ (l.getD (((255 : Int) - (↑i : Int)).tmod (255 : Int)).toNat 0 * 2 % 256 ||| l.getD (((255 : Int) - (↑i : Int)).tmod (255 : Int)).toNat 0 / 128) ^^^ (l.getD (((255 : Int) - (↑i : Int)).tmod (255 : Int)).toNat 0 * 4 % 256 ||| l.getD (((255 : Int) - (↑i : Int)).tmod (255 : Int)).toNat 0 / 64) ^^^ (l.getD (((255 : Int) - (↑i : Int)).tmod (255 : Int)).toNat 0 * 8 % 256 ||| l.getD (((255 : Int) - (↑i : Int)).tmod (255 : Int)).toNat 0 / 32) ^^^ (l.getD (((255 : Int) - (↑i : Int)).tmod (255 : Int)).toNat 0 * 16 % 256 ||| l.getD (((255 : Int) - (↑i : Int)).tmod (255 : Int)).toNat 0 / 16) ^^^ 99))], false⟩)], 3, 0⟩ [Decidable.decide (i < 255) = true, (255 : Int) ≠ (0 : Int) ∧ inR .i64 (((255 : Int) - (↑i : Int)).tmod (255 : Int)), (0 : Int) ≤ ((255 : Int) - (↑i : Int)).tmod (255 : Int), (((255 : Int) - (↑i : Int)).tmod (255 : Int)).toNat < 255, (((255 : Int) - (↑i : Int)).tmod (255 : Int)).toNat < 255, i < 255, i < 255, l.getD i 0 < 256, l.getD i 0 < 256, i + 1 < 9223372036854775808] (by kernel_rfl) (by repeat' first | exact trivial | exact decide_eq_true (by omega) | exact q1 | exact q2 | exact q3 | exact g1 | exact (by decide : (255 : Int) ≠ 0) | omega | refine ⟨?_, ?_⟩) ?_
    exact e
  · have e : i = 255 := by omega
    subst e
    generalize dxF l 255 = x at hr ⊢
    rw [hr]
    exact hwE mixed okA3a 100 [false] (.arr .u8 256 x) [false = false] (by kernel_rfl) (by repeat' first | exact trivial | exact decide_eq_false (by omega) | omega | refine ⟨?_, ?_⟩) (wkR_refl _)
theorem db_l (hr : res = .arr .u8 256 sbx) : ∀ d i, 255 - i = d → i ≤ 255 → Hold Tryz.prog (bodyOf Tryz.f86) (Fin Tryz.prog Tryz.f86 w0 S res) w0 S stDb (sDb (pwI z255 i).1 (pwI z255 i).2 i) := by
  intro d
  induction d using Nat.strongRecOn with
  | _ d ih =>
  intro i hd hi
  refine hold_unroll (c := _) rfl ?_
  by_cases hlt : i < 255
  · have e := ih (255 - (i + 1)) (by omega) (i + 1) rfl (by omega)
    rw [show pwI z255 (i + 1) = ((pwI z255 i).1.set i (pwI z255 i).2, (pwI z255 i).2 ^^^ dbl (pwI z255 i).2) from rfl] at e
    generalize pwI z255 i = z at e ⊢
    obtain ⟨l, p⟩ := z
    dsimp only at e ⊢
    rw [← mul8_3] at e
    refine hwC mixed okA3a 100 [true] [0, 1, 2, 7] [0, 1] 2 [.lp [0, 1, 0, 1, 1, 1], .blk 0, .at [1, 1, 1, 1]] ⟨45, [(0, .ptr 0 0 (.c 0)), (1, .ptr 1 0 (.c 0)), (2, .u .u8 (mul8 p 3)), (7, .u .i64 (i + 1))], [(0, ⟨91, [.arr .u8 256 z256], false⟩), (1, ⟨132, [.arr .u8 255 (l.set i p)], false⟩)], 2, 0⟩ [Decidable.decide (i < 255) = true, i < 255, i < 255, i + 1 < 9223372036854775808] (by kernel_rfl) (by repeat' first | exact trivial | exact decide_eq_true (by omega) | omega | refine ⟨?_, ?_⟩) ?_
    exact e
  · have e : i = 255 := by omega
    subst e
    refine hold_ltB (id := 1) (bk := b132 (pwI z255 255).1) (k := .u8) (n := 255) (l := (pwI z255 255).1) (by simp [sDb]) rfl (by simp [b132]) fun _ hl => ?_
    have e2 := dc_l (w0 := w0) (S := S) (res := res) (pwI z255 255).1 hl (by rw [dsx]; exact hr) _ 0 rfl (by omega)
    generalize pwI z255 255 = z at e2 ⊢
    obtain ⟨l, p⟩ := z
    refine hwC mixed okA3a 100 [false] [0, 1, 4, 17] [0, 1, 2] 3 [.lp [0, 1, 0, 1, 1, 1, 1, 1, 1], .blk 2, .at [1, 1, 1, 1, 1, 1, 1]] ⟨45, [(0, .ptr 0 0 (.c 0)), (1, .ptr 1 0 (.c 0)), (4, .ptr 2 0 (.c 0)), (17, .c .i64 0)], [(0, ⟨91, [.arr .u8 256 z256], false⟩), (1, ⟨132, [.arr .u8 255 l], false⟩), (2, ⟨91, [.arr .u8 256 [99, 0, 0, 0, 0, 0, 0, 0, 0, 0, 0, 0, 0, 0, 0, 0, 0, 0, 0, 0, 0, 0, 0, 0, 0, 0, 0, 0, 0, 0, 0, 0, 0, 0, 0, 0, 0, 0, 0, 0, 0, 0, 0, 0, 0, 0, 0, 0, 0, 0, 0, 0, 0, 0, 0, 0, 0, 0, 0, 0, 0, 0, 0, 0, 0, 0, 0, 0, 0, 0, 0, 0, 0, 0, 0, 0, 0, 0, 0, 0, 0, 0, 0, 0, 0, 0, 0, 0, 0, 0, 0, 0, 0, 0, 0, 0, 0, 0, 0, 0, 0, 0, 0, 0, 0, 0, 0, 0, 0, 0, 0, 0, 0, 0, 0, 0, 0, 0, 0, 0, 0, 0, 0, 0, 0, 0, 0, 0, 0, 0, 0, 0, 0, 0, 0, 0, 0, 0, 0, 0, 0, 0, 0, 0, 0, 0, 0, 0, 0, 0, 0, 0, 0, 0, 0, 0, 0, 0, 0, 0, 0, 0, 0, 0, 0, 0, 0, 0, 0, 0, 0, 0, 0, 0, 0, 0, 0, 0, 0, 0, 0, 0, 0, 0, 0, 0, 0, 0, 0, 0, 0, 0, 0, 0, 0, 0, 0, 0, 0, 0, 0, 0, 0, 0, 0, 0, 0, 0, 0, 0, 0, 0, 0, 0, 0, 0, 0, 0, 0, 0, 0, 0, 0, 0, 0, 0, 0, 0, 0, 0, 0, 0, 0, 0, 0, 0, 0, 0, 0, 0, 0, 0, 0, 0, 0, 0, 0, 0, 0, 0, 0, 0, 0, 0, 0, 0]], false⟩)], 3, 0⟩ [false = false] (by kernel_rfl) (by repeat' first | exact trivial | exact decide_eq_false (by omega) | omega | refine ⟨?_, ?_⟩) ?_
    exact Hold.weaken e2 (by simp [wks, wk, wk0, wkB, wka, wkl, sDc, b91, b132, lim, dxF, z256, List.replicate])
theorem dsub_c : Contract Tryz.prog 86 [] (.arr .u8 256 sbx) := by
  refine contract Tryz.func86 (body := bodyOf Tryz.f86) rfl (by kernel_rfl) (by kernel_rfl) rfl ?_
  intro _ w0 S
  refine hwC mixed okA3a 100 [] [0, 1, 2, 7] [0, 1] 2 [.lp [0, 1, 0, 1, 1, 1], .blk 0, .at [1, 1, 1, 1]] ⟨45, [(0, .ptr 0 0 (.c 0)), (1, .ptr 1 0 (.c 0)), (2, .c .u8 1), (7, .c .i64 0)], [(0, ⟨91, [.arr .u8 256 [0, 0, 0, 0, 0, 0, 0, 0, 0, 0, 0, 0, 0, 0, 0, 0, 0, 0, 0, 0, 0, 0, 0, 0, 0, 0, 0, 0, 0, 0, 0, 0, 0, 0, 0, 0, 0, 0, 0, 0, 0, 0, 0, 0, 0, 0, 0, 0, 0, 0, 0, 0, 0, 0, 0, 0, 0, 0, 0, 0, 0, 0, 0, 0, 0, 0, 0, 0, 0, 0, 0, 0, 0, 0, 0, 0, 0, 0, 0, 0, 0, 0, 0, 0, 0, 0, 0, 0, 0, 0, 0, 0, 0, 0, 0, 0, 0, 0, 0, 0, 0, 0, 0, 0, 0, 0, 0, 0, 0, 0, 0, 0, 0, 0, 0, 0, 0, 0, 0, 0, 0, 0, 0, 0, 0, 0, 0, 0, 0, 0, 0, 0, 0, 0, 0, 0, 0, 0, 0, 0, 0, 0, 0, 0, 0, 0, 0, 0, 0, 0, 0, 0, 0, 0, 0, 0, 0, 0, 0, 0, 0, 0, 0, 0, 0, 0, 0, 0, 0, 0, 0, 0, 0, 0, 0, 0, 0, 0, 0, 0, 0, 0, 0, 0, 0, 0, 0, 0, 0, 0, 0, 0, 0, 0, 0, 0, 0, 0, 0, 0, 0, 0, 0, 0, 0, 0, 0, 0, 0, 0, 0, 0, 0, 0, 0, 0, 0, 0, 0, 0, 0, 0, 0, 0, 0, 0, 0, 0, 0, 0, 0, 0, 0, 0, 0, 0, 0, 0, 0, 0, 0, 0, 0, 0, 0, 0, 0, 0, 0, 0, 0, 0, 0, 0, 0, 0]], false⟩), (1, ⟨132, [.arr .u8 255 [0, 0, 0, 0, 0, 0, 0, 0, 0, 0, 0, 0, 0, 0, 0, 0, 0, 0, 0, 0, 0, 0, 0, 0, 0, 0, 0, 0, 0, 0, 0, 0, 0, 0, 0, 0, 0, 0, 0, 0, 0, 0, 0, 0, 0, 0, 0, 0, 0, 0, 0, 0, 0, 0, 0, 0, 0, 0, 0, 0, 0, 0, 0, 0, 0, 0, 0, 0, 0, 0, 0, 0, 0, 0, 0, 0, 0, 0, 0, 0, 0, 0, 0, 0, 0, 0, 0, 0, 0, 0, 0, 0, 0, 0, 0, 0, 0, 0, 0, 0, 0, 0, 0, 0, 0, 0, 0, 0, 0, 0, 0, 0, 0, 0, 0, 0, 0, 0, 0, 0, 0, 0, 0, 0, 0, 0, 0, 0, 0, 0, 0, 0, 0, 0, 0, 0, 0, 0, 0, 0, 0, 0, 0, 0, 0, 0, 0, 0, 0, 0, 0, 0, 0, 0, 0, 0, 0, 0, 0, 0, 0, 0, 0, 0, 0, 0, 0, 0, 0, 0, 0, 0, 0, 0, 0, 0, 0, 0, 0, 0, 0, 0, 0, 0, 0, 0, 0, 0, 0, 0, 0, 0, 0, 0, 0, 0, 0, 0, 0, 0, 0, 0, 0, 0, 0, 0, 0, 0, 0, 0, 0, 0, 0, 0, 0, 0, 0, 0, 0, 0, 0, 0, 0, 0, 0, 0, 0, 0, 0, 0, 0, 0, 0, 0, 0, 0, 0, 0, 0, 0, 0, 0, 0, 0, 0, 0, 0, 0, 0, 0, 0, 0, 0, 0, 0]], false⟩)], 2, 0⟩ [] (by kernel_rfl) (by repeat' first | exact trivial | refine ⟨?_, ?_⟩) ?_
  exact Hold.weaken (db_l rfl _ 0 rfl (by omega)) (by simp [wks, wk, wk0, wkB, wka, wkl, sDb, b91, b132, lim, pwI, z256, z255, List.replicate])
def eSubD (args : List SV) : Option (SV × List Prop) := match args with
  | [] => some (.arr .u8 256 sbx, [])
  | _ => none
theorem dsub_ok : ∀ args res ob, eSubD args = some (res, ob) → All ob → Contract Tryz.prog 86 args res := by
  intro args res ob he _
  unfold eSubD at he
  split at he
  · cases he; exact dsub_c
  · cases he
end
end Go.Eng.B

namespace Go.Eng.B
open Go Go.Eng Go.Proofs
set_option maxRecDepth 100000
set_option maxHeartbeats 1000000
def xrI (a b : List Nat) : Nat → List Nat
  | 0 => a
  | i + 1 => (xrI a b i).set i ((xrI a b i).getD i 0 ^^^ b.getD i 0)
def b95 (l : List Nat) : Bk := ⟨95, [.arr .u8 16 l], false⟩
def b77 (l : List Nat) : Bk := ⟨77, [.arr .u8 16 l], false⟩
def z16 : List Nat := List.replicate 16 0
def stXr : List It := [.lp [0, 1, 1], .blk 0]
def sXr (a k : List Nat) (i : Nat) : St := ⟨20, [(0, .ptr 0 0 (.c 0)), (3, .ptr 1 0 (.c 0)), (5, .u .i64 i)], [(0, b95 a), (1, b95 k)], 2, 1⟩
def stXd : List It := [.lp [0, 1, 0, 1], .blk 0, .at [1, 1]]
def sXd (a b : List Nat) (i : Nat) : St := ⟨20, [(1, .sl .u8 b), (2, .ptr 0 0 (.c 0)), (4, .ptr 1 0 (.c 0)), (6, .u .i64 i)], [(0, b77 a), (1, b77 z16)], 2, 0⟩
def byt? : SV → Option (List Nat)
  | .sl .u8 l => some l
  | .nil => some []
  | _ => none
def arr16? : SV → Option (List Nat)
  | .arr .u8 16 l => some l
  | _ => none
def eXr (H : List Bk) (args : List SV) : Option (MRes × List Prop) := match H, args with
  | [⟨ty, [.arr .u8 16 a], false⟩], [.ptr 0 0 (.c 0), y] => if ty = 95 then (match arr16? y with
    | some k => some (⟨.tup [], [b95 (xrI a k 16)], []⟩, [])
    | none => none) else none
  | _, _ => none
def eXd (args : List SV) : Option (SV × List Prop) := match args with
  | [x, y] => match arr16? x, byt? y with | some a, some b => some (.arr .u8 16 (xrI a b 16), [16 ≤ b.length]) | _, _ => none
  | _ => none
theorem arr16_eq {x : SV} {l : List Nat} (h : arr16? x = some l) : x = .arr .u8 16 l := by
  unfold arr16? at h
  split at h
  · cases h; rfl
  · cases h
theorem byt_R {x : SV} {a : List Nat} (h : byt? x = some a) {β : Nat → Nat} {ow : Own} {w : World} {v : Value} (hv : relV1 β ow w x v) : relV1 β ow w (.sl .u8 a) v := by
  unfold byt? at h
  split at h
  · cases h; exact hv
  · cases h
    refine wk_ok1 (s := .nil) ?_ hv
    simp [wk, wk0]
  · cases h
section
variable {F : Fr} {S : Own} {res : MRes}
theorem xr_l (a k : List Nat) (hr : res = ⟨.tup [], [b95 (xrI a k 16)], []⟩) : ∀ d i, 16 - i = d → i ≤ 16 → Hold Tryz.prog (bodyOf Tryz.f98) (FinM Tryz.prog Tryz.f98 F S res) F S stXr (sXr (xrI a k i) k i) := by
  intro d
  induction d using Nat.strongRecOn with
  | _ d ih =>
  intro i hd hi
  refine hold_unroll (c := _) rfl ?_
  by_cases hlt : i < 16
  · have e := ih (16 - (i + 1)) (by omega) (i + 1) rfl (by omega)
    rw [show xrI a k (i + 1) = (xrI a k i).set i ((xrI a k i).getD i 0 ^^^ k.getD i 0) from rfl] at e
    generalize xrI a k i = x at e ⊢
    refine hwC mixed ctr0_ok 100 [true] [0, 3, 5] [0, 1] 2 [.lp [0, 1, 1], .blk 0] ⟨20, [(0, .ptr 0 0 (.c 0)), (3, .ptr 1 0 (.c 0)), (5, .u .i64 (i + 1))], [(0, ⟨95, [.arr .u8 16 (x.set i (x.getD i 0 ^^^ k.getD i 0))], false⟩), (1, ⟨95, [.arr .u8 16 k], false⟩)], 2, 1⟩ [Decidable.decide (i < 16) = true, i < 16, i < 16, i < 16, i < 16, i < 16, i < 16, i + 1 < 9223372036854775808] (by kernel_rfl) (by repeat' first | exact trivial | exact decide_eq_true (by omega) | omega | refine ⟨?_, ?_⟩) ?_
    exact e
  · have e : i = 16 := by omega
    subst e
    generalize xrI a k 16 = x at hr ⊢
    refine hold_endMw mixed ctr0_ok (news := []) (unroll := false) (f := 100) (sc := [false]) (r := { res := .tup [], upd := [⟨95, [.arr .u8 16 x], false⟩] }) (ob := [false = false]) (sc' := []) (by kernel_rfl) (by repeat' first | exact trivial | exact decide_eq_false (by omega) | omega | refine ⟨?_, ?_⟩) ?_
    exact wkM_of hr.symm
theorem xr_m (a k : List Nat) : ContractM Tryz.prog 98 [b95 a] [.ptr 0 0 (.c 0), .arr .u8 16 k] ⟨.tup [], [b95 (xrI a k 16)], []⟩ := by
  refine contractM Tryz.func98 (body := bodyOf Tryz.f98) rfl (by kernel_rfl) (by kernel_rfl) rfl rfl ?_
  intro _ _ F S hF
  refine hwC mixed ctr0_ok 100 [] [0, 3, 5] [0, 1] 2 [.lp [0, 1, 1], .blk 0] ⟨20, [(0, .ptr 0 0 (.c 0)), (3, .ptr 1 0 (.c 0)), (5, .c .i64 0)], [(0, ⟨95, [.arr .u8 16 a], false⟩), (1, ⟨95, [.arr .u8 16 k], false⟩)], 2, 1⟩ [] (by kernel_rfl) (by repeat' first | exact trivial | omega | refine ⟨?_, ?_⟩) ?_
  exact Hold.weaken (xr_l a k rfl _ 0 rfl (by omega)) (by simp [wks, wk, wk0, wkB, wka, wkl, sXr, b95, lim, xrI])
theorem xr_ok : ∀ H args r ob, eXr H args = some (r, ob) → All ob → ContractM Tryz.prog 98 H args r := by
  intro H args r ob he hob
  unfold eXr at he
  split at he
  · rename_i ty a y
    split at he
    · rename_i hty
      subst hty
      split at he
      · rename_i k hk
        cases he
        rw [arr16_eq hk]
        exact xr_m a k
      · cases he
    · cases he
  · cases he
end
section
variable {w0 : World} {S : Own} {res : SV}
theorem xd_l (a b : List Nat) (hb : 16 ≤ b.length) (hr : res = .arr .u8 16 (xrI a b 16)) : ∀ d i, 16 - i = d → i ≤ 16 → Hold Tryz.prog (bodyOf Tryz.f88) (Fin Tryz.prog Tryz.f88 w0 S res) w0 S stXd (sXd (xrI a b i) b i) := by
  intro d
  induction d using Nat.strongRecOn with
  | _ d ih =>
  intro i hd hi
  refine hold_unroll (c := _) rfl ?_
  by_cases hlt : i < 16
  · have e := ih (16 - (i + 1)) (by omega) (i + 1) rfl (by omega)
    rw [show xrI a b (i + 1) = (xrI a b i).set i ((xrI a b i).getD i 0 ^^^ b.getD i 0) from rfl] at e
    generalize xrI a b i = x at e ⊢
    refine hwC mixed ctr0_ok 100 [true] [1, 2, 4, 6] [0, 1] 2 [.lp [0, 1, 0, 1], .blk 0, .at [1, 1]] ⟨20, [(1, .sl .u8 b), (2, .ptr 0 0 (.c 0)), (4, .ptr 1 0 (.c 0)), (6, .u .i64 (i + 1))], [(0, ⟨77, [.arr .u8 16 (x.set i (x.getD i 0 ^^^ b.getD i 0))], false⟩), (1, ⟨77, [.arr .u8 16 z16], false⟩)], 2, 0⟩ [Decidable.decide (i < 16) = true, i < 16, i < 16, i < b.length, i < 16, i < 16, i + 1 < 9223372036854775808] (by kernel_rfl) (by repeat' first | exact trivial | exact decide_eq_true (by omega) | (show _ < _; simp only [slenD, SV.slen, Option.getD_some]; omega) | omega | refine ⟨?_, ?_⟩) ?_
    exact e
  · have e : i = 16 := by omega
    subst e
    generalize xrI a b 16 = x at hr ⊢
    rw [hr]
    exact hwE mixed ctr0_ok 100 [false] (.arr .u8 16 x) [false = false] (by kernel_rfl) (by repeat' first | exact trivial | exact decide_eq_false (by omega) | omega | refine ⟨?_, ?_⟩) (wkR_refl _)
theorem xd_c (a b : List Nat) (hb : 16 ≤ b.length) : Contract Tryz.prog 88 [.arr .u8 16 a, .sl .u8 b] (.arr .u8 16 (xrI a b 16)) := by
  refine contract Tryz.func88 (body := bodyOf Tryz.f88) rfl (by kernel_rfl) (by kernel_rfl) rfl ?_
  intro _ w0 S
  refine hwC mixed ctr0_ok 100 [] [1, 2, 4, 6] [0, 1] 2 [.lp [0, 1, 0, 1], .blk 0, .at [1, 1]] ⟨20, [(1, .sl .u8 b), (2, .ptr 0 0 (.c 0)), (4, .ptr 1 0 (.c 0)), (6, .c .i64 0)], [(0, ⟨77, [.arr .u8 16 a], false⟩), (1, ⟨77, [.arr .u8 16 [0, 0, 0, 0, 0, 0, 0, 0, 0, 0, 0, 0, 0, 0, 0, 0]], false⟩)], 2, 0⟩ [] (by kernel_rfl) (by repeat' first | exact trivial | refine ⟨?_, ?_⟩) ?_
  exact Hold.weaken (xd_l a b hb rfl _ 0 rfl (by omega)) (by simp [wks, wk, wk0, wkB, wka, wkl, sXd, b77, lim, xrI, z16, List.replicate])
theorem xd_ok : ∀ args res ob, eXd args = some (res, ob) → All ob → Contract Tryz.prog 88 args res := by
  intro args res ob he hob
  unfold eXd at he
  split at he
  · split at he
    · rename_i a b ha hb
      cases he
      rw [arr16_eq ha]
      refine Contract.argsH (xd_c a b hob.1) ?_
      rintro β ow w vs ⟨v1, t1, rfl, r1, v2, t2, rfl, r2, rfl⟩
      exact ⟨_, _, rfl, r1, _, _, rfl, byt_R hb r2, rfl⟩
    · cases he
  · cases he
end
end Go.Eng.B

